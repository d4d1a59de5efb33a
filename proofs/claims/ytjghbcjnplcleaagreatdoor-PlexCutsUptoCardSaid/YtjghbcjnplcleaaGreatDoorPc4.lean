/-
  What the claim leans on, part 4: pruned and joined by my own tool out of the texts that stand in wip/ as templates.
-/
import Derived.Test.YtjghbcjnplcleaaGreatDoorPc3
namespace Go.Proofs.YtjghbcjnplcleaaGreatDoor
open Go.RowKit
open Go.Proofs.Tryz
section
theorem all_step (l : List UInt8) (i : Nat) (h : i < l.length) : (l.drop i).all pOpen = (pOpen l[i] && (l.drop (i + 1)).all pOpen) := by
 rw [List.drop_eq_getElem_cons h, List.all_cons]
theorem pOpen_no {c : UInt8} (h : c = 62 ∨ (blankB c = false ∧ digI c < 0)) : pOpen c = false := by
 rcases h with rfl | ⟨h1, h2⟩
 ·
  rfl
 ·
  unfold pOpen
  rcases digI_cases c with h3 | h3
  ·
   rw [h1, decide_eq_false oO]; simp
  ·
   omega
theorem pOpen_yes {c : UInt8} (h : c ≠ 62) (h2 : blankB c = true ∨ ¬ digI c < 0) : pOpen c = true := by
 unfold pOpen
 rw [bne_iff_ne.2 h, Bool.true_and]
 rcases h2 with h2 | h2
 ·
  rw [h2]; rfl
 ·
  rcases digI_cases c with h3 | h3
  ·
   omega
  ·
   rw [decide_eq_true h3.2]; simp
theorem plex_open (r : Nat) (p : Option Addr) (l : List UInt8) (c t : Nat) (refs : Bool) (w : World) (h : PRd w r p l c t refs) (hl : l.length ≤ 100000000) (ht : t < l.length) :
  Calls Tryz.prog 108 #[.pointer (some ⟨r, 0, none⟩)] w fun e w' => e = .returned (.bool (openB l t)) ∧ Below w.heap.size w w' := by
 have hr := h.1
 have hb := h.2
 have hg : l[t]? = some l[t] := List.getElem?_eq_getElem ht
 refine W.enter func108 rfl ntmps108 (Nat.le_of_ble_eq_true rfl) ?_
 have hB0 := Below.refl (w.heap.size) w
 refine W.sr <| WL.z rfl rfl ?_
 refine W.sr <| WL.z rfl rfl ?_
 refine W.seq <| W.seq <| W.regQ mixed kR ?_
 refine WQ.p (.mv rfl) rfl <| WQ.p (.nck rfl) rfl <| WQ.p (.fa underlying63 rfl sizeOf22 dD rfl) rfl <| WQ.r (fun m => Rd.ld (isAgg22 _) rfl hr rfl) rfl <| WQ.p (.mv rfl) rfl <| WQ.p (.nck rfl) rfl <| WQ.p (.fa underlying63 rfl sizeOf3 dD rfl) rfl <| WQ.r (fun m => Rd.ld (isAgg3 _) rfl hr rfl) rfl <| WQ.p (.ixb underlying22 sizeOf5 rfl rfl (hb.isp oO) (t) (rfl) (ht)) rfl <| WQ.r (fun m => Rd.ldc (isAgg5 _) rfl ((hb.drewN m).cells (t) oO)) rfl <| WQ.p (.eql rfl rfl) rfl <| WQ.nil (fun w1 dw1 => ?_)
 have hk2 := hr.drew dw1
 have hv3 := hb.drew dw1
 have hB4 := Drew.below hB0 dw1
 refine W.cond rfl (fun h5 => ?_) (fun h5 => ?_)
 have h5' := dT h5
 refine W.reg <| WL.z rfl rfl ?_
 refine W.seq <| W.sr <| WL.m rfl rfl <| WL.p (.nck rfl) rfl <| WL.p (.fa underlying63 rfl sizeOf3 dD rfl) rfl <| WL.r (Rd.ld (isAgg3 _) rfl hk2 rfl) rfl <| WL.p (.iis (((t + 1 : Nat) : Int)) (.add rfl rfl (i64w oO)) oO) rfl <| WL.z rfl rfl ?_
 refine W.block ?_
 obtain ⟨T0, hT0⟩ : ∃ T0, T0 = t := ⟨t, rfl⟩
 subst hT0
 refine W.loop (α := Nat × Int) (fun t => [(0, .pointer (some ⟨r, 0, none⟩)), (3, .int .u8 t.2), (4, .int .i64 (t.1 : Int))]) (fun t w' => Below w.heap.size w w' ∧ PRd w' r p l c T0 refs ∧ T0 + 1 ≤ t.1 ∧ t.1 ≤ l.length ∧ ((t.2 = 62 ∧ l[T0]? = some 60 ∧ (l.drop (T0 + 1)).all pOpen = (l.drop t.1).all pOpen) ∨ (t.2 = 41 ∧ l[T0]? ≠ some 60))) (fun t => l.length - t.1) ((T0 + 1, _)) ⟨rfl, rfl, rfl, trivial⟩ (⟨hB4, ⟨hk2, hv3⟩, Nat.le_refl _, ht, by first | exact .inl ⟨rfl, by rw [hg, show l[T0] = 60 from u8_eq aS], rfl⟩ | exact .inr ⟨rfl, by rw [hg]; exact fun h => absurd (Option.some.inj h) (u8_ne (d := 60) aS)⟩⟩) (fun t w1 hR => ?_)
 obtain ⟨i, z⟩ := t
 obtain ⟨hT, hrd, hi0, hi, hz⟩ := hR
 simp only at hi0 hi hz ⊢
 refine W.seq ?_
 refine W.cutB 32 (decide (i < l.length ∧ z = 62)) ?_ ?_
 refine W.reg <| WL.m rfl rfl <| WL.m rfl rfl <| WL.p (.nck rfl) rfl <| WL.p (.fa underlying63 rfl sizeOf22 dD rfl) rfl <| WL.r (Rd.ld (isAgg22 _) rfl hrd.1 rfl) rfl <| WL.p (.lenS underlying22 rfl) rfl <| WL.p (.lss rfl rfl) rfl <| WL.m rfl rfl <| WL.gd rfl rfl rfl (fun g6 => ?_) (fun g6 => ?_)
 have g6' := dT g6
 refine WL.m rfl rfl <| WL.gy rfl rfl rfl g6 <| WL.p (.eql rfl rfl) rfl <| WL.p (.pkT rfl g6 rfl) rfl <| WL.nil <| ?_
 exact ⟨leE (lk_b rfl (by (apply Bool.eq_iff_iff.2; (try simp) <;> omega))), rfl⟩
 have g6' := dF g6
 refine WL.gn rfl rfl rfl g6 <| WL.p (.pkF rfl g6 rfl) rfl <| WL.nil <| ?_
 exact ⟨leE (lk_b rfl (by (apply Bool.eq_iff_iff.2; (try simp) <;> omega))), rfl⟩
 refine W.cond rfl (fun h7 => ?_) (fun h7 => ?_)
 have h7' := dT h7
 have hz2 : l[T0]? = some 60 ∧ (l.drop (T0 + 1)).all pOpen = (l.drop i).all pOpen := by rcases hz with h | h; exact h.2; omega
 have hst := all_step l i oO
 refine W.skip <| W.seq <| W.block <| W.sr <| WL.m rfl rfl <| WL.p (.nck rfl) rfl <| WL.p (.fa underlying63 rfl sizeOf22 dD rfl) rfl <| WL.r (Rd.ld (isAgg22 _) rfl hrd.1 rfl) rfl <| WL.m rfl rfl <| WL.p (.ixb underlying22 sizeOf5 rfl rfl (hrd.2.isp oO) (i) (rfl) oO) rfl <| WL.r (Rd.ldc (isAgg5 _) rfl (hrd.2.cells (i) oO)) rfl <| WL.z rfl rfl ?_
 refine W.sr <| WL.m rfl rfl <| WL.p (.eql rfl rfl) rfl <| WL.m rfl rfl <| WL.gd rfl rfl rfl (fun g8 => ?_) (fun g8 => ?_)
 have g8' := dF g8
 refine WL.m rfl rfl <| WL.gy rfl rfl rfl g8 <| WL.c1 hb34 rfl rfl ((plex_blank _ _)) (fun w9 hw9 => ?_)
 obtain rfl := hw9
 refine WL.gy rfl rfl rfl g8 <| WL.p (.not rfl) rfl <| WL.gy rfl rfl rfl g8 <| WL.m rfl rfl <| WL.gd rfl rfl rfl (fun g10 => ?_) (fun g10 => ?_)
 have g10' := (nT g10)
 refine WL.m rfl rfl <| WL.gy rfl rfl rfl (by rw [(nT g10)] <;> rfl) <| WL.c1 hb104 rfl rfl ((plex_digit _ _)) (fun w11 hw11 => ?_)
 obtain rfl := hw11
 refine WL.gy rfl rfl rfl (by rw [(nT g10)] <;> rfl) <| WL.p (.lss rfl rfl) rfl <| WL.gy rfl rfl rfl g8 <| WL.p (.pkT rfl (by rw [(nT g10)] <;> rfl) rfl) rfl <| WL.p (.pkF rfl g8 rfl) rfl <| WL.nil <| ?_
 refine W.cond rfl (fun h12 => ?_) (fun h12 => ?_)
 have h12' := dT h12
 refine W.sr <| WL.z rfl rfl ?_
 refine W.ret (W.ret1 rfl rfl ?_)
 exact ⟨ret_bool (by unfold openB; rw [if_pos hz2.1, hz2.2, hst, pOpen_no (.inr ⟨by assumption, by assumption⟩)]; rfl), hT⟩
 have h12' := dF h12
 refine W.skip <| W.reg <| WL.m rfl rfl <| WL.p (.iis (((i + 1 : Nat) : Int)) (.add rfl rfl (i64w oO)) oO) rfl <| WL.z rfl rfl ?_
 exact ⟨(i + 1, z), ⟨rfl, rfl, rfl, trivial⟩, ⟨hT, ⟨hrd.1, hrd.2⟩, by ((try simp only) <;> omega), by ((try simp only) <;> omega), .inl ⟨by omega, hz2.1, by rw [hz2.2, hst, pOpen_yes (u8_ne (d := 62) aS) (.inr aS), Bool.true_and]⟩⟩, by ((try simp only) <;> omega)⟩
 have g10' := (nF g10)
 refine WL.gn rfl rfl rfl (by rw [(nF g10)] <;> rfl) <| WL.gn rfl rfl rfl (by rw [(nF g10)] <;> rfl) <| WL.gy rfl rfl rfl g8 <| WL.p (.pkF rfl (by rw [(nF g10)] <;> rfl) rfl) rfl <| WL.p (.pkF rfl g8 rfl) rfl <| WL.nil <| ?_
 refine W.condF rfl rfl ?_
 refine W.skip <| W.reg <| WL.m rfl rfl <| WL.p (.iis (((i + 1 : Nat) : Int)) (.add rfl rfl (i64w oO)) oO) rfl <| WL.z rfl rfl ?_
 exact ⟨(i + 1, z), ⟨rfl, rfl, rfl, trivial⟩, ⟨hT, ⟨hrd.1, hrd.2⟩, by ((try simp only) <;> omega), by ((try simp only) <;> omega), .inl ⟨by omega, hz2.1, by rw [hz2.2, hst, pOpen_yes (u8_ne (d := 62) aS) (.inl aS), Bool.true_and]⟩⟩, by ((try simp only) <;> omega)⟩
 have g8' := dT g8
 refine WL.gn rfl rfl rfl g8 <| WL.gn rfl rfl rfl g8 <| WL.gn rfl rfl rfl g8 <| WL.gu rfl rfl rfl <| WL.gu rfl rfl rfl <| WL.gu rfl rfl rfl <| WL.gn rfl rfl rfl g8 <| WL.p (.pkT rfl g8 rfl) rfl <| WL.nil <| ?_
 refine W.condT rfl rfl ?_
 refine W.sr <| WL.z rfl rfl ?_
 refine W.ret (W.ret1 rfl rfl ?_)
 exact ⟨ret_bool (by unfold openB; rw [if_pos hz2.1, hz2.2, hst, pOpen_no (.inl (u8_eq (d := 62) aS))]; rfl), hT⟩
 have h7' := dF h7
 refine W.exit <| W.sr <| WL.z rfl rfl ?_
 refine W.ret (W.ret1 rfl rfl ?_)
 exact ⟨ret_bool (by
  unfold openB
  rcases hz with h | h
  rw [if_pos h.2.1, h.2.2, List.drop_eq_nil_of_le oO]; rfl
  rw [if_neg h.2]), hT⟩
 have h5' := dF h5
 refine W.skip <| W.seq <| W.sr <| WL.m rfl rfl <| WL.p (.nck rfl) rfl <| WL.p (.fa underlying63 rfl sizeOf3 dD rfl) rfl <| WL.r (Rd.ld (isAgg3 _) rfl hk2 rfl) rfl <| WL.p (.iis (((t + 1 : Nat) : Int)) (.add rfl rfl (i64w oO)) oO) rfl <| WL.z rfl rfl ?_
 refine W.block ?_
 obtain ⟨T0, hT0⟩ : ∃ T0, T0 = t := ⟨t, rfl⟩
 subst hT0
 refine W.loop (α := Nat × Int) (fun t => [(0, .pointer (some ⟨r, 0, none⟩)), (3, .int .u8 t.2), (4, .int .i64 (t.1 : Int))]) (fun t w' => Below w.heap.size w w' ∧ PRd w' r p l c T0 refs ∧ T0 + 1 ≤ t.1 ∧ t.1 ≤ l.length ∧ ((t.2 = 62 ∧ l[T0]? = some 60 ∧ (l.drop (T0 + 1)).all pOpen = (l.drop t.1).all pOpen) ∨ (t.2 = 41 ∧ l[T0]? ≠ some 60))) (fun t => l.length - t.1) ((T0 + 1, _)) ⟨rfl, rfl, rfl, trivial⟩ (⟨hB4, ⟨hk2, hv3⟩, Nat.le_refl _, ht, by first | exact .inl ⟨rfl, by rw [hg, show l[T0] = 60 from u8_eq aS], rfl⟩ | exact .inr ⟨rfl, by rw [hg]; exact fun h => absurd (Option.some.inj h) (u8_ne (d := 60) aS)⟩⟩) (fun t w1 hR => ?_)
 obtain ⟨i, z⟩ := t
 obtain ⟨hT, hrd, hi0, hi, hz⟩ := hR
 simp only at hi0 hi hz ⊢
 refine W.seq ?_
 refine W.cutB 32 (decide (i < l.length ∧ z = 62)) ?_ ?_
 refine W.reg <| WL.m rfl rfl <| WL.m rfl rfl <| WL.p (.nck rfl) rfl <| WL.p (.fa underlying63 rfl sizeOf22 dD rfl) rfl <| WL.r (Rd.ld (isAgg22 _) rfl hrd.1 rfl) rfl <| WL.p (.lenS underlying22 rfl) rfl <| WL.p (.lss rfl rfl) rfl <| WL.m rfl rfl <| WL.gd rfl rfl rfl (fun g13 => ?_) (fun g13 => ?_)
 have g13' := dT g13
 refine WL.m rfl rfl <| WL.gy rfl rfl rfl g13 <| WL.p (.eql rfl rfl) rfl <| WL.p (.pkT rfl g13 rfl) rfl <| WL.nil <| ?_
 exact ⟨leE (lk_b rfl (by (apply Bool.eq_iff_iff.2; (try simp) <;> omega))), rfl⟩
 have g13' := dF g13
 refine WL.gn rfl rfl rfl g13 <| WL.p (.pkF rfl g13 rfl) rfl <| WL.nil <| ?_
 exact ⟨leE (lk_b rfl (by (apply Bool.eq_iff_iff.2; (try simp) <;> omega))), rfl⟩
 refine W.cond rfl (fun h14 => ?_) (fun h14 => ?_)
 have h14' := dT h14
 have hz2 : l[T0]? = some 60 ∧ (l.drop (T0 + 1)).all pOpen = (l.drop i).all pOpen := by rcases hz with h | h; exact h.2; omega
 have hst := all_step l i oO
 refine W.skip <| W.seq <| W.block <| W.sr <| WL.m rfl rfl <| WL.p (.nck rfl) rfl <| WL.p (.fa underlying63 rfl sizeOf22 dD rfl) rfl <| WL.r (Rd.ld (isAgg22 _) rfl hrd.1 rfl) rfl <| WL.m rfl rfl <| WL.p (.ixb underlying22 sizeOf5 rfl rfl (hrd.2.isp oO) (i) (rfl) oO) rfl <| WL.r (Rd.ldc (isAgg5 _) rfl (hrd.2.cells (i) oO)) rfl <| WL.z rfl rfl ?_
 refine W.sr <| WL.m rfl rfl <| WL.p (.eql rfl rfl) rfl <| WL.m rfl rfl <| WL.gd rfl rfl rfl (fun g15 => ?_) (fun g15 => ?_)
 have g15' := dF g15
 refine WL.m rfl rfl <| WL.gy rfl rfl rfl g15 <| WL.c1 hb34 rfl rfl ((plex_blank _ _)) (fun w16 hw16 => ?_)
 obtain rfl := hw16
 refine WL.gy rfl rfl rfl g15 <| WL.p (.not rfl) rfl <| WL.gy rfl rfl rfl g15 <| WL.m rfl rfl <| WL.gd rfl rfl rfl (fun g17 => ?_) (fun g17 => ?_)
 have g17' := (nT g17)
 refine WL.m rfl rfl <| WL.gy rfl rfl rfl (by rw [(nT g17)] <;> rfl) <| WL.c1 hb104 rfl rfl ((plex_digit _ _)) (fun w18 hw18 => ?_)
 obtain rfl := hw18
 refine WL.gy rfl rfl rfl (by rw [(nT g17)] <;> rfl) <| WL.p (.lss rfl rfl) rfl <| WL.gy rfl rfl rfl g15 <| WL.p (.pkT rfl (by rw [(nT g17)] <;> rfl) rfl) rfl <| WL.p (.pkF rfl g15 rfl) rfl <| WL.nil <| ?_
 refine W.cond rfl (fun h19 => ?_) (fun h19 => ?_)
 have h19' := dT h19
 refine W.sr <| WL.z rfl rfl ?_
 refine W.ret (W.ret1 rfl rfl ?_)
 exact ⟨ret_bool (by unfold openB; rw [if_pos hz2.1, hz2.2, hst, pOpen_no (.inr ⟨by assumption, by assumption⟩)]; rfl), hT⟩
 have h19' := dF h19
 refine W.skip <| W.reg <| WL.m rfl rfl <| WL.p (.iis (((i + 1 : Nat) : Int)) (.add rfl rfl (i64w oO)) oO) rfl <| WL.z rfl rfl ?_
 exact ⟨(i + 1, z), ⟨rfl, rfl, rfl, trivial⟩, ⟨hT, ⟨hrd.1, hrd.2⟩, by ((try simp only) <;> omega), by ((try simp only) <;> omega), .inl ⟨by omega, hz2.1, by rw [hz2.2, hst, pOpen_yes (u8_ne (d := 62) aS) (.inr aS), Bool.true_and]⟩⟩, by ((try simp only) <;> omega)⟩
 have g17' := (nF g17)
 refine WL.gn rfl rfl rfl (by rw [(nF g17)] <;> rfl) <| WL.gn rfl rfl rfl (by rw [(nF g17)] <;> rfl) <| WL.gy rfl rfl rfl g15 <| WL.p (.pkF rfl (by rw [(nF g17)] <;> rfl) rfl) rfl <| WL.p (.pkF rfl g15 rfl) rfl <| WL.nil <| ?_
 refine W.condF rfl rfl ?_
 refine W.skip <| W.reg <| WL.m rfl rfl <| WL.p (.iis (((i + 1 : Nat) : Int)) (.add rfl rfl (i64w oO)) oO) rfl <| WL.z rfl rfl ?_
 exact ⟨(i + 1, z), ⟨rfl, rfl, rfl, trivial⟩, ⟨hT, ⟨hrd.1, hrd.2⟩, by ((try simp only) <;> omega), by ((try simp only) <;> omega), .inl ⟨by omega, hz2.1, by rw [hz2.2, hst, pOpen_yes (u8_ne (d := 62) aS) (.inl aS), Bool.true_and]⟩⟩, by ((try simp only) <;> omega)⟩
 have g15' := dT g15
 refine WL.gn rfl rfl rfl g15 <| WL.gn rfl rfl rfl g15 <| WL.gn rfl rfl rfl g15 <| WL.gu rfl rfl rfl <| WL.gu rfl rfl rfl <| WL.gu rfl rfl rfl <| WL.gn rfl rfl rfl g15 <| WL.p (.pkT rfl g15 rfl) rfl <| WL.nil <| ?_
 refine W.condT rfl rfl ?_
 refine W.sr <| WL.z rfl rfl ?_
 refine W.ret (W.ret1 rfl rfl ?_)
 exact ⟨ret_bool (by unfold openB; rw [if_pos hz2.1, hz2.2, hst, pOpen_no (.inl (u8_eq (d := 62) aS))]; rfl), hT⟩
 have h14' := dF h14
 refine W.exit <| W.sr <| WL.z rfl rfl ?_
 refine W.ret (W.ret1 rfl rfl ?_)
 exact ⟨ret_bool (by
  unfold openB
  rcases hz with h | h
  rw [if_pos h.2.1, h.2.2, List.drop_eq_nil_of_le oO]; rfl
  rw [if_neg h.2]), hT⟩
theorem plex_text (r : Nat) (p : Option Addr) (l : List UInt8) (c t : Nat) (refs : Bool) (w : World) (h : PRd w r p l c t refs) (hne : 0 < l.length → (pA p).block ≠ r) (hc : l.length ≤ c) (hl : l.length ≤ 100000000) (ht : t < l.length) :
  Calls Tryz.prog 70 #[.pointer (some ⟨r, 0, none⟩)] w (Ends 35 (textR l t) (fun a => .agg (pobj 5 0 a.1).toArray) (fun a w' => PRd w' r p l c a.2 refs ∧ Touch w.heap.size r w w') (fun w' => Touch w.heap.size r w w')) := by
 have hr := h.1
 have hb := h.2
 obtain ⟨X, hX⟩ : ∃ X, X = textR l t := ⟨_, rfl⟩
 rw [← hX]
 unfold textR at hX
 have hN : ∀ w1, BytesAt w1 p l → Calls Tryz.prog 107 #[.slice p l.length c, .int .i64 (t : Int)] w1 fun e w' => e = .returned (nextR l t).val ∧ Below w1.heap.size w1 w' := fun w1 h1 => scan_Next t p l c w1 h1 hc hl
 have hstep := nextR_step l t oO
 generalize nextR l t = N at hX hN hstep
 refine W.enter func70 rfl ntmps70 (Nat.le_of_ble_eq_true rfl) ?_
 have hB0 := Touch.refl (w.heap.size) r w
 refine W.sr <| WL.alloc zeroValue31 rfl (fun b1 wb1 eb1 hkb1 hub1 hsb1 => ?_)
 have hl3 : r < b1 := by rw [eb1]; exact hr.lt
 have hk2 := hr.upd hub1 (Nat.ne_of_lt hl3)
 have hvl5 := fun h0 => eb1 ▸ hb.lt h0
 have hv4 := bup hb hub1 hvl5
 have hgeb1 : w.heap.size ≤ b1 := by rw [eb1]; exact hB0.size
 have hB6 := Touch.trans hB0 (Touch.of_new hub1 hgeb1)
 refine WL.nil <| ?_
 obtain ⟨t0, ht0⟩ : ∃ t0, t0 = t := ⟨t, rfl⟩
 refine W.cut (α := Nat) (fun t => [(0, .pointer (some ⟨r, 0, none⟩)), (2, .pointer (some ⟨b1, 0, none⟩)), (3, .pointer (some ⟨t, 0, none⟩)), (4, .int .i64 N.at'), (5, .int .i64 N.e)]) (fun t w' => Touch w.heap.size r w w' ∧ Blk w' r #[.slice p l.length c, .int .i64 (t0 : Int), .bool refs] 63 ∧ BytesAt w' p l ∧ Blk w' b1 (pobj 0 0 []).toArray 31 ∧ Blk w' t #[.int .i64 N.k, .int .i64 N.n, .string (bs N.s)] 143 ∧ b1 < t) ?_ (fun t w1 hR => ?_)
 have hrB : r < b1 := by have := hr.lt; omega
 refine W.regY 17 rfl mixed (fun w7 dw7 => ?_)
 have hk8 := hk2.drew dw7
 have hk9 := hkb1.drew dw7
 have hv10 := hv4.drew dw7
 have hB11 := Touch.trans hB6 (Touch.of_drew dw7)
 refine WY.tk 0 rfl (.mv rfl) rfl ?_
 refine WY.tk 1 rfl (.nck rfl) rfl ?_
 refine WY.tk 2 rfl (.fa underlying63 rfl sizeOf22 dD rfl) rfl ?_
 refine WY.tk 4 rfl (.mv rfl) rfl ?_
 refine WY.tk 5 rfl (.nck rfl) rfl ?_
 refine WY.tk 6 rfl (.fa underlying63 rfl sizeOf3 dD rfl) rfl ?_
 refine WY.br [3, 7, 13] kR rfl ⟨⟨_, rfl, ?_⟩, ⟨_, rfl, ?_⟩, ⟨_, rfl, ?_⟩, trivial⟩
 refine WL.r (Rd.ld (isAgg22 _) rfl hk8 rfl) rfl <| WL.nil <| ?_
 refine WY.br2 7 rfl 13 rfl ?_ ?_
 refine WL.r (Rd.ld (isAgg3 _) rfl hk8 rfl) rfl <| WL.nil <| ?_
 refine WY.br2 8 rfl 13 rfl ?_ ?_
 refine WL.c1 hb107 rfl rfl ((hN _ hv10)) (fun w12 hw12 => ?_)
 have hk13 := hk8.below hw12 hk8.lt
 have hk14 := hk9.below hw12 hk9.lt
 have hv15 := BytesAt.below hv10 hw12 (fun h0 => hv10.lt h0)
 have hB16 := Touch.trans hB11 (Touch.mono (Touch.of_below hw12) hB11.size)
 refine WL.nil <| ?_
 refine WY.tk 9 rfl (.mv rfl) rfl ?_
 refine WY.tk 10 rfl (.ext rfl rfl) rfl ?_
 refine WY.tk 11 rfl (.ext rfl rfl) rfl ?_
 refine WY.tk 12 rfl (.ext rfl rfl) rfl ?_
 refine WY.br1 13 rfl ?_
 refine WL.alloc zeroValue143 rfl (fun b17 wb17 eb17 hkb17 hub17 hsb17 => ?_)
 have hl19 : r < b17 := by rw [eb17]; exact hk13.lt
 have hk18 := hk13.upd hub17 (Nat.ne_of_lt hl19)
 have hl21 : b1 < b17 := by rw [eb17]; exact hk14.lt
 have hk20 := hk14.upd hub17 (Nat.ne_of_lt hl21)
 have hvl23 := fun h0 => eb17 ▸ hv15.lt h0
 have hv22 := bup hv15 hub17 hvl23
 have hgeb17 : w.heap.size ≤ b17 := by rw [eb17]; exact hB16.size
 have hB24 := Touch.trans hB16 (Touch.of_new hub17 hgeb17)
 refine WL.nil <| ?_
 refine WY.br1 14 rfl ?_
 refine WL.stL rfl rfl hkb17 isz143 rfl rfl (fun w25 hkw25 huw25 hsw25 => ?_)
 have hk26 := hk18.up huw25
 have hk27 := hk20.up huw25
 have hv28 := bup hv22 huw25 hvl23
 have hB29 := Touch.trans hB24 (Touch.of_new huw25 oO)
 refine WL.nil <| ?_
 refine WY.tk 15 rfl (.as rfl) rfl ?_
 refine WY.tk 16 rfl (.as rfl) rfl ?_
 refine WY.done kR ?_
 exact ⟨_, ⟨rfl, rfl, rfl, rfl, rfl, trivial⟩, hB29, by rw [ht0]; exact hk26, hv28, hk27, hkw25, by omega⟩
 refine WL.alloc zeroValue143 rfl (fun b30 wb30 eb30 hkb30 hub30 hsb30 => ?_)
 have hl32 : r < b30 := by rw [eb30]; exact hk8.lt
 have hk31 := hk8.upd hub30 (Nat.ne_of_lt hl32)
 have hl34 : b1 < b30 := by rw [eb30]; exact hk9.lt
 have hk33 := hk9.upd hub30 (Nat.ne_of_lt hl34)
 have hvl36 := fun h0 => eb30 ▸ hv10.lt h0
 have hv35 := bup hv10 hub30 hvl36
 have hgeb30 : w.heap.size ≤ b30 := by rw [eb30]; exact hB11.size
 have hB37 := Touch.trans hB11 (Touch.of_new hub30 hgeb30)
 refine WL.nil <| ?_
 refine WY.br1 8 rfl ?_
 refine WL.c1 hb107 rfl rfl ((hN _ hv35)) (fun w38 hw38 => ?_)
 have hk39 := hk31.below hw38 hk31.lt
 have hk40 := hk33.below hw38 hk33.lt
 have hk41 := hkb30.below hw38 hkb30.lt
 have hv42 := BytesAt.below hv35 hw38 (fun h0 => hv35.lt h0)
 have hB43 := Touch.trans hB37 (Touch.mono (Touch.of_below hw38) hB37.size)
 refine WL.nil <| ?_
 refine WY.tk 9 rfl (.mv rfl) rfl ?_
 refine WY.tk 10 rfl (.ext rfl rfl) rfl ?_
 refine WY.tk 11 rfl (.ext rfl rfl) rfl ?_
 refine WY.tk 12 rfl (.ext rfl rfl) rfl ?_
 refine WY.br1 14 rfl ?_
 refine WL.stL rfl rfl hk41 isz143 rfl rfl (fun w44 hkw44 huw44 hsw44 => ?_)
 have hk45 := hk39.up huw44
 have hk46 := hk40.up huw44
 have hv47 := bup hv42 huw44 hvl36
 have hB48 := Touch.trans hB43 (Touch.of_new huw44 oO)
 refine WL.nil <| ?_
 refine WY.tk 15 rfl (.as rfl) rfl ?_
 refine WY.tk 16 rfl (.as rfl) rfl ?_
 refine WY.done kR ?_
 exact ⟨_, ⟨rfl, rfl, rfl, rfl, rfl, trivial⟩, hB48, by rw [ht0]; exact hk45, hv47, hk46, hkw44, by omega⟩
 refine WL.alloc zeroValue143 rfl (fun b49 wb49 eb49 hkb49 hub49 hsb49 => ?_)
 have hl51 : r < b49 := by rw [eb49]; exact hk8.lt
 have hk50 := hk8.upd hub49 (Nat.ne_of_lt hl51)
 have hl53 : b1 < b49 := by rw [eb49]; exact hk9.lt
 have hk52 := hk9.upd hub49 (Nat.ne_of_lt hl53)
 have hvl55 := fun h0 => eb49 ▸ hv10.lt h0
 have hv54 := bup hv10 hub49 hvl55
 have hgeb49 : w.heap.size ≤ b49 := by rw [eb49]; exact hB11.size
 have hB56 := Touch.trans hB11 (Touch.of_new hub49 hgeb49)
 refine WL.nil <| ?_
 refine WY.br1 7 rfl ?_
 refine WL.r (Rd.ld (isAgg3 _) rfl hk50 rfl) rfl <| WL.nil <| ?_
 refine WY.br1 8 rfl ?_
 refine WL.c1 hb107 rfl rfl ((hN _ hv54)) (fun w57 hw57 => ?_)
 have hk58 := hk50.below hw57 hk50.lt
 have hk59 := hk52.below hw57 hk52.lt
 have hk60 := hkb49.below hw57 hkb49.lt
 have hv61 := BytesAt.below hv54 hw57 (fun h0 => hv54.lt h0)
 have hB62 := Touch.trans hB56 (Touch.mono (Touch.of_below hw57) hB56.size)
 refine WL.nil <| ?_
 refine WY.tk 9 rfl (.mv rfl) rfl ?_
 refine WY.tk 10 rfl (.ext rfl rfl) rfl ?_
 refine WY.tk 11 rfl (.ext rfl rfl) rfl ?_
 refine WY.tk 12 rfl (.ext rfl rfl) rfl ?_
 refine WY.br1 14 rfl ?_
 refine WL.stL rfl rfl hk60 isz143 rfl rfl (fun w63 hkw63 huw63 hsw63 => ?_)
 have hk64 := hk58.up huw63
 have hk65 := hk59.up huw63
 have hv66 := bup hv61 huw63 hvl55
 have hB67 := Touch.trans hB62 (Touch.of_new huw63 oO)
 refine WL.nil <| ?_
 refine WY.tk 15 rfl (.as rfl) rfl ?_
 refine WY.tk 16 rfl (.as rfl) rfl ?_
 refine WY.done kR ?_
 exact ⟨_, ⟨rfl, rfl, rfl, rfl, rfl, trivial⟩, hB67, by rw [ht0]; exact hk64, hv66, hk65, hkw63, by omega⟩
 refine WL.r (Rd.ld (isAgg3 _) rfl hk8 rfl) rfl <| WL.nil <| ?_
 refine WY.br2 3 rfl 13 rfl ?_ ?_
 refine WL.r (Rd.ld (isAgg22 _) rfl hk8 rfl) rfl <| WL.nil <| ?_
 refine WY.br2 8 rfl 13 rfl ?_ ?_
 refine WL.c1 hb107 rfl rfl ((hN _ hv10)) (fun w68 hw68 => ?_)
 have hk69 := hk8.below hw68 hk8.lt
 have hk70 := hk9.below hw68 hk9.lt
 have hv71 := BytesAt.below hv10 hw68 (fun h0 => hv10.lt h0)
 have hB72 := Touch.trans hB11 (Touch.mono (Touch.of_below hw68) hB11.size)
 refine WL.nil <| ?_
 refine WY.tk 9 rfl (.mv rfl) rfl ?_
 refine WY.tk 10 rfl (.ext rfl rfl) rfl ?_
 refine WY.tk 11 rfl (.ext rfl rfl) rfl ?_
 refine WY.tk 12 rfl (.ext rfl rfl) rfl ?_
 refine WY.br1 13 rfl ?_
 refine WL.alloc zeroValue143 rfl (fun b73 wb73 eb73 hkb73 hub73 hsb73 => ?_)
 have hl75 : r < b73 := by rw [eb73]; exact hk69.lt
 have hk74 := hk69.upd hub73 (Nat.ne_of_lt hl75)
 have hl77 : b1 < b73 := by rw [eb73]; exact hk70.lt
 have hk76 := hk70.upd hub73 (Nat.ne_of_lt hl77)
 have hvl79 := fun h0 => eb73 ▸ hv71.lt h0
 have hv78 := bup hv71 hub73 hvl79
 have hgeb73 : w.heap.size ≤ b73 := by rw [eb73]; exact hB72.size
 have hB80 := Touch.trans hB72 (Touch.of_new hub73 hgeb73)
 refine WL.nil <| ?_
 refine WY.br1 14 rfl ?_
 refine WL.stL rfl rfl hkb73 isz143 rfl rfl (fun w81 hkw81 huw81 hsw81 => ?_)
 have hk82 := hk74.up huw81
 have hk83 := hk76.up huw81
 have hv84 := bup hv78 huw81 hvl79
 have hB85 := Touch.trans hB80 (Touch.of_new huw81 oO)
 refine WL.nil <| ?_
 refine WY.tk 15 rfl (.as rfl) rfl ?_
 refine WY.tk 16 rfl (.as rfl) rfl ?_
 refine WY.done kR ?_
 exact ⟨_, ⟨rfl, rfl, rfl, rfl, rfl, trivial⟩, hB85, by rw [ht0]; exact hk82, hv84, hk83, hkw81, by omega⟩
 refine WL.alloc zeroValue143 rfl (fun b86 wb86 eb86 hkb86 hub86 hsb86 => ?_)
 have hl88 : r < b86 := by rw [eb86]; exact hk8.lt
 have hk87 := hk8.upd hub86 (Nat.ne_of_lt hl88)
 have hl90 : b1 < b86 := by rw [eb86]; exact hk9.lt
 have hk89 := hk9.upd hub86 (Nat.ne_of_lt hl90)
 have hvl92 := fun h0 => eb86 ▸ hv10.lt h0
 have hv91 := bup hv10 hub86 hvl92
 have hgeb86 : w.heap.size ≤ b86 := by rw [eb86]; exact hB11.size
 have hB93 := Touch.trans hB11 (Touch.of_new hub86 hgeb86)
 refine WL.nil <| ?_
 refine WY.br1 8 rfl ?_
 refine WL.c1 hb107 rfl rfl ((hN _ hv91)) (fun w94 hw94 => ?_)
 have hk95 := hk87.below hw94 hk87.lt
 have hk96 := hk89.below hw94 hk89.lt
 have hk97 := hkb86.below hw94 hkb86.lt
 have hv98 := BytesAt.below hv91 hw94 (fun h0 => hv91.lt h0)
 have hB99 := Touch.trans hB93 (Touch.mono (Touch.of_below hw94) hB93.size)
 refine WL.nil <| ?_
 refine WY.tk 9 rfl (.mv rfl) rfl ?_
 refine WY.tk 10 rfl (.ext rfl rfl) rfl ?_
 refine WY.tk 11 rfl (.ext rfl rfl) rfl ?_
 refine WY.tk 12 rfl (.ext rfl rfl) rfl ?_
 refine WY.br1 14 rfl ?_
 refine WL.stL rfl rfl hk97 isz143 rfl rfl (fun w100 hkw100 huw100 hsw100 => ?_)
 have hk101 := hk95.up huw100
 have hk102 := hk96.up huw100
 have hv103 := bup hv98 huw100 hvl92
 have hB104 := Touch.trans hB99 (Touch.of_new huw100 oO)
 refine WL.nil <| ?_
 refine WY.tk 15 rfl (.as rfl) rfl ?_
 refine WY.tk 16 rfl (.as rfl) rfl ?_
 refine WY.done kR ?_
 exact ⟨_, ⟨rfl, rfl, rfl, rfl, rfl, trivial⟩, hB104, by rw [ht0]; exact hk101, hv103, hk102, hkw100, by omega⟩
 refine WL.alloc zeroValue143 rfl (fun b105 wb105 eb105 hkb105 hub105 hsb105 => ?_)
 have hl107 : r < b105 := by rw [eb105]; exact hk8.lt
 have hk106 := hk8.upd hub105 (Nat.ne_of_lt hl107)
 have hl109 : b1 < b105 := by rw [eb105]; exact hk9.lt
 have hk108 := hk9.upd hub105 (Nat.ne_of_lt hl109)
 have hvl111 := fun h0 => eb105 ▸ hv10.lt h0
 have hv110 := bup hv10 hub105 hvl111
 have hgeb105 : w.heap.size ≤ b105 := by rw [eb105]; exact hB11.size
 have hB112 := Touch.trans hB11 (Touch.of_new hub105 hgeb105)
 refine WL.nil <| ?_
 refine WY.br1 3 rfl ?_
 refine WL.r (Rd.ld (isAgg22 _) rfl hk106 rfl) rfl <| WL.nil <| ?_
 refine WY.br1 8 rfl ?_
 refine WL.c1 hb107 rfl rfl ((hN _ hv110)) (fun w113 hw113 => ?_)
 have hk114 := hk106.below hw113 hk106.lt
 have hk115 := hk108.below hw113 hk108.lt
 have hk116 := hkb105.below hw113 hkb105.lt
 have hv117 := BytesAt.below hv110 hw113 (fun h0 => hv110.lt h0)
 have hB118 := Touch.trans hB112 (Touch.mono (Touch.of_below hw113) hB112.size)
 refine WL.nil <| ?_
 refine WY.tk 9 rfl (.mv rfl) rfl ?_
 refine WY.tk 10 rfl (.ext rfl rfl) rfl ?_
 refine WY.tk 11 rfl (.ext rfl rfl) rfl ?_
 refine WY.tk 12 rfl (.ext rfl rfl) rfl ?_
 refine WY.br1 14 rfl ?_
 refine WL.stL rfl rfl hk116 isz143 rfl rfl (fun w119 hkw119 huw119 hsw119 => ?_)
 have hk120 := hk114.up huw119
 have hk121 := hk115.up huw119
 have hv122 := bup hv117 huw119 hvl111
 have hB123 := Touch.trans hB118 (Touch.of_new huw119 oO)
 refine WL.nil <| ?_
 refine WY.tk 15 rfl (.as rfl) rfl ?_
 refine WY.tk 16 rfl (.as rfl) rfl ?_
 refine WY.done kR ?_
 exact ⟨_, ⟨rfl, rfl, rfl, rfl, rfl, trivial⟩, hB123, by rw [ht0]; exact hk120, hv122, hk121, hkw119, by omega⟩
 refine WL.alloc zeroValue143 rfl (fun b124 wb124 eb124 hkb124 hub124 hsb124 => ?_)
 have hl126 : r < b124 := by rw [eb124]; exact hk8.lt
 have hk125 := hk8.upd hub124 (Nat.ne_of_lt hl126)
 have hl128 : b1 < b124 := by rw [eb124]; exact hk9.lt
 have hk127 := hk9.upd hub124 (Nat.ne_of_lt hl128)
 have hvl130 := fun h0 => eb124 ▸ hv10.lt h0
 have hv129 := bup hv10 hub124 hvl130
 have hgeb124 : w.heap.size ≤ b124 := by rw [eb124]; exact hB11.size
 have hB131 := Touch.trans hB11 (Touch.of_new hub124 hgeb124)
 refine WL.nil <| ?_
 refine WY.br2 3 rfl 7 rfl ?_ ?_
 refine WL.r (Rd.ld (isAgg22 _) rfl hk125 rfl) rfl <| WL.nil <| ?_
 refine WY.br1 7 rfl ?_
 refine WL.r (Rd.ld (isAgg3 _) rfl hk125 rfl) rfl <| WL.nil <| ?_
 refine WY.br1 8 rfl ?_
 refine WL.c1 hb107 rfl rfl ((hN _ hv129)) (fun w132 hw132 => ?_)
 have hk133 := hk125.below hw132 hk125.lt
 have hk134 := hk127.below hw132 hk127.lt
 have hk135 := hkb124.below hw132 hkb124.lt
 have hv136 := BytesAt.below hv129 hw132 (fun h0 => hv129.lt h0)
 have hB137 := Touch.trans hB131 (Touch.mono (Touch.of_below hw132) hB131.size)
 refine WL.nil <| ?_
 refine WY.tk 9 rfl (.mv rfl) rfl ?_
 refine WY.tk 10 rfl (.ext rfl rfl) rfl ?_
 refine WY.tk 11 rfl (.ext rfl rfl) rfl ?_
 refine WY.tk 12 rfl (.ext rfl rfl) rfl ?_
 refine WY.br1 14 rfl ?_
 refine WL.stL rfl rfl hk135 isz143 rfl rfl (fun w138 hkw138 huw138 hsw138 => ?_)
 have hk139 := hk133.up huw138
 have hk140 := hk134.up huw138
 have hv141 := bup hv136 huw138 hvl130
 have hB142 := Touch.trans hB137 (Touch.of_new huw138 oO)
 refine WL.nil <| ?_
 refine WY.tk 15 rfl (.as rfl) rfl ?_
 refine WY.tk 16 rfl (.as rfl) rfl ?_
 refine WY.done kR ?_
 exact ⟨_, ⟨rfl, rfl, rfl, rfl, rfl, trivial⟩, hB142, by rw [ht0]; exact hk139, hv141, hk140, hkw138, by omega⟩
 refine WL.r (Rd.ld (isAgg3 _) rfl hk125 rfl) rfl <| WL.nil <| ?_
 refine WY.br1 3 rfl ?_
 refine WL.r (Rd.ld (isAgg22 _) rfl hk125 rfl) rfl <| WL.nil <| ?_
 refine WY.br1 8 rfl ?_
 refine WL.c1 hb107 rfl rfl ((hN _ hv129)) (fun w143 hw143 => ?_)
 have hk144 := hk125.below hw143 hk125.lt
 have hk145 := hk127.below hw143 hk127.lt
 have hk146 := hkb124.below hw143 hkb124.lt
 have hv147 := BytesAt.below hv129 hw143 (fun h0 => hv129.lt h0)
 have hB148 := Touch.trans hB131 (Touch.mono (Touch.of_below hw143) hB131.size)
 refine WL.nil <| ?_
 refine WY.tk 9 rfl (.mv rfl) rfl ?_
 refine WY.tk 10 rfl (.ext rfl rfl) rfl ?_
 refine WY.tk 11 rfl (.ext rfl rfl) rfl ?_
 refine WY.tk 12 rfl (.ext rfl rfl) rfl ?_
 refine WY.br1 14 rfl ?_
 refine WL.stL rfl rfl hk146 isz143 rfl rfl (fun w149 hkw149 huw149 hsw149 => ?_)
 have hk150 := hk144.up huw149
 have hk151 := hk145.up huw149
 have hv152 := bup hv147 huw149 hvl130
 have hB153 := Touch.trans hB148 (Touch.of_new huw149 oO)
 refine WL.nil <| ?_
 refine WY.tk 15 rfl (.as rfl) rfl ?_
 refine WY.tk 16 rfl (.as rfl) rfl ?_
 refine WY.done kR ?_
 exact ⟨_, ⟨rfl, rfl, rfl, rfl, rfl, trivial⟩, hB153, by rw [ht0]; exact hk150, hv152, hk151, hkw149, by omega⟩
 obtain ⟨b3, rfl⟩ : ∃ b3, b3 = t := ⟨t, rfl⟩
 subst ht0
 obtain ⟨hT, hr2, hb2, hk1, hk3, h13⟩ := hR
 refine W.seq <| W.block <| W.sr <| WL.m rfl rfl <| WL.p (.eql rfl rfl) rfl <| WL.m rfl rfl <| WL.gd rfl rfl rfl (fun g154 => ?_) (fun g154 => ?_)
 have g154' := dT g154
 refine WL.m rfl rfl <| WL.gy rfl rfl rfl g154 <| WL.c1 hb108 rfl rfl ((plex_open r p l c t0 refs _ ⟨hr2, hb2⟩ hl ht)) (fun w155 hw155 => ?_)
 have hk156 := hr2.below hw155 hr2.lt
 have hk157 := hk1.below hw155 hk1.lt
 have hk158 := hk3.below hw155 hk3.lt
 have hv159 := BytesAt.below hb2 hw155 (fun h0 => hb2.lt h0)
 have hB160 := Touch.trans hT (Touch.mono (Touch.of_below hw155) hT.size)
 refine WL.p (.pkT rfl g154 rfl) rfl <| WL.z rfl rfl ?_
 refine W.cond rfl (fun h161 => ?_) (fun h161 => ?_)
 refine W.reg <| WL.cp hb68 rfl ((plex_fail 24 _)) (fun w162 hw162 => ?_)
 obtain rfl := hw162
 exact pn_is (Ends.err 24 (by rw [hX, if_pos ⟨by assumption, by assumption⟩]) hB160)
 refine W.sr <| WL.m rfl rfl <| WL.p (.eql rfl rfl) rfl <| WL.z rfl rfl ?_
 refine W.cond rfl (fun h163 => ?_) (fun h163 => ?_)
 have h163' := dT h163
 refine W.reg <| WL.cp hb68 rfl ((plex_fail 25 _)) (fun w164 hw164 => ?_)
 obtain rfl := hw164
 exact pn_is (Ends.err 25 (by rw [hX, if_neg (by rintro ⟨h1, h2⟩; simp_all), if_pos aS]) hB160)
 have h163' := dF h163
 refine W.sr <| WL.m rfl rfl <| WL.p (.neq rfl rfl) rfl <| WL.m rfl rfl <| WL.gd rfl rfl rfl (fun g165 => ?_) (fun g165 => ?_)
 have g165' := ndF g165
 refine WL.p (.fa underlying143 rfl sizeOf3 dD rfl) rfl <| WL.gy rfl rfl rfl g165 <| WL.r (Rd.ld (isAgg3 _) rfl hk158 rfl) rfl <| WL.gy rfl rfl rfl g165 <| WL.p (.neq rfl rfl) rfl <| WL.p (.pkF rfl g165 rfl) rfl <| WL.z rfl rfl ?_
 refine W.cond rfl (fun h166 => ?_) (fun h166 => ?_)
 have h166' := ndT h166
 refine W.reg <| WL.cp hb68 rfl ((plex_fail 23 _)) (fun w167 hw167 => ?_)
 obtain rfl := hw167
 exact pn_is (Ends.err 23 (by rw [hX, if_neg (by rintro ⟨h1, h2⟩; simp_all), if_neg aS, if_pos (.inr aS)]) hB160)
 have h166' := ndF h166
 refine W.skip <| W.sr <| WL.m rfl rfl <| WL.p (.iis (((N.at'.toNat : Nat) : Int)) (.mv rfl) oO) rfl <| WL.p (.nck rfl) rfl <| WL.p (.fa underlying63 rfl sizeOf3 dD rfl) rfl <| WL.st sizeOf3 rfl rfl rfl hk156 oD (fun w168 hkw168 huw168 hsw168 => ?_)
 have hkw168 : Blk w168 r _ _ := hkw168
 have huw168 : Upd r _ _ := huw168
 have hk169 := hk157.up huw168
 have hk170 := hk158.up huw168
 have hv171 := BytesAt.upd hv159 huw168 hne
 have hB172 := Touch.trans hB160 (Touch.of_upd huw168)
 refine WL.nil <| ?_
 refine W.sr <| WL.p (.fa underlying143 rfl sizeOf9 dD rfl) rfl <| WL.r (Rd.ld (isAgg9 _) rfl hk170 rfl) rfl <| ?_
 refine WL.p (.buildL (ps := _) blt31 rfl rfl rfl pS) rfl ?_
 refine WL.stL rfl rfl hk169 isz31 rfl rfl (fun w173 hkw173 huw173 hsw173 => ?_)
 have hk174 := hkw168.up huw173
 have hv176 := bup hv171 huw173 hvl5
 have hB177 := Touch.trans hB172 (Touch.of_new huw173 oO)
 refine WL.nil <| ?_
 refine W.ret (W.retc1 rfl rfl (ldRow hkw173 underlying31 rfl isz31)  ?_)
 exact Ends.ok (N.s, N.at'.toNat) (by rw [hX, if_neg (by rintro ⟨h1, h2⟩; simp_all), if_neg aS, if_neg oO]) rfl ⟨⟨hk174, hv176⟩, hB177⟩
 have g165' := ndT g165
 refine WL.gn rfl rfl rfl g165 <| WL.gn rfl rfl rfl g165 <| WL.p (.pkT rfl g165 rfl) rfl <| WL.z rfl rfl ?_
 refine W.condT rfl rfl ?_
 refine W.reg <| WL.cp hb68 rfl ((plex_fail 23 _)) (fun w178 hw178 => ?_)
 obtain rfl := hw178
 exact pn_is (Ends.err 23 (by rw [hX, if_neg (by rintro ⟨h1, h2⟩; simp_all), if_neg aS, if_pos (.inl aS)]) hB160)
 have g154' := dF g154
 refine WL.gn rfl rfl rfl g154 <| WL.p (.pkF rfl g154 rfl) rfl <| WL.z rfl rfl ?_
 refine W.condF rfl rfl ?_
 refine W.sr <| WL.m rfl rfl <| WL.p (.eql rfl rfl) rfl <| WL.z rfl rfl ?_
 refine W.cond rfl (fun h179 => ?_) (fun h179 => ?_)
 have h179' := dT h179
 refine W.reg <| WL.cp hb68 rfl ((plex_fail 25 _)) (fun w180 hw180 => ?_)
 obtain rfl := hw180
 exact pn_is (Ends.err 25 (by rw [hX, if_neg (by rintro ⟨h1, h2⟩; simp_all), if_pos aS]) hT)
 have h179' := dF h179
 refine W.sr <| WL.m rfl rfl <| WL.p (.neq rfl rfl) rfl <| WL.m rfl rfl <| WL.gd rfl rfl rfl (fun g181 => ?_) (fun g181 => ?_)
 have g181' := ndF g181
 refine WL.p (.fa underlying143 rfl sizeOf3 dD rfl) rfl <| WL.gy rfl rfl rfl g181 <| WL.r (Rd.ld (isAgg3 _) rfl hk3 rfl) rfl <| WL.gy rfl rfl rfl g181 <| WL.p (.neq rfl rfl) rfl <| WL.p (.pkF rfl g181 rfl) rfl <| WL.z rfl rfl ?_
 refine W.cond rfl (fun h182 => ?_) (fun h182 => ?_)
 have h182' := ndT h182
 refine W.reg <| WL.cp hb68 rfl ((plex_fail 23 _)) (fun w183 hw183 => ?_)
 obtain rfl := hw183
 exact pn_is (Ends.err 23 (by rw [hX, if_neg (by rintro ⟨h1, h2⟩; simp_all), if_neg aS, if_pos (.inr aS)]) hT)
 have h182' := ndF h182
 refine W.skip <| W.sr <| WL.m rfl rfl <| WL.p (.iis (((N.at'.toNat : Nat) : Int)) (.mv rfl) oO) rfl <| WL.p (.nck rfl) rfl <| WL.p (.fa underlying63 rfl sizeOf3 dD rfl) rfl <| WL.st sizeOf3 rfl rfl rfl hr2 oD (fun w184 hkw184 huw184 hsw184 => ?_)
 have hkw184 : Blk w184 r _ _ := hkw184
 have huw184 : Upd r _ _ := huw184
 have hk185 := hk1.up huw184
 have hk186 := hk3.up huw184
 have hv187 := BytesAt.upd hb2 huw184 hne
 have hB188 := Touch.trans hT (Touch.of_upd huw184)
 refine WL.nil <| ?_
 refine W.sr <| WL.p (.fa underlying143 rfl sizeOf9 dD rfl) rfl <| WL.r (Rd.ld (isAgg9 _) rfl hk186 rfl) rfl <| ?_
 refine WL.p (.buildL (ps := _) blt31 rfl rfl rfl pS) rfl ?_
 refine WL.stL rfl rfl hk185 isz31 rfl rfl (fun w189 hkw189 huw189 hsw189 => ?_)
 have hk190 := hkw184.up huw189
 have hv192 := bup hv187 huw189 hvl5
 have hB193 := Touch.trans hB188 (Touch.of_new huw189 oO)
 refine WL.nil <| ?_
 refine W.ret (W.retc1 rfl rfl (ldRow hkw189 underlying31 rfl isz31)  ?_)
 exact Ends.ok (N.s, N.at'.toNat) (by rw [hX, if_neg (by rintro ⟨h1, h2⟩; simp_all), if_neg aS, if_neg oO]) rfl ⟨⟨hk190, hv192⟩, hB193⟩
 have g181' := ndT g181
 refine WL.gn rfl rfl rfl g181 <| WL.gn rfl rfl rfl g181 <| WL.p (.pkT rfl g181 rfl) rfl <| WL.z rfl rfl ?_
 refine W.condT rfl rfl ?_
 refine W.reg <| WL.cp hb68 rfl ((plex_fail 23 _)) (fun w194 hw194 => ?_)
 obtain rfl := hw194
 exact pn_is (Ends.err 23 (by rw [hX, if_neg (by rintro ⟨h1, h2⟩; simp_all), if_neg aS, if_pos (.inl aS)]) hT)
def skipE (l : List UInt8) (t : Nat) : Except Int UInt8 := match l[skipAt false l t]? with | none => .error 24 | some x => .ok x
theorem plex_skip (r : Nat) (p : Option Addr) (l : List UInt8) (c t : Nat) (refs : Bool) (w : World) (h : PRd w r p l c t refs) (hne : 0 < l.length → (pA p).block ≠ r) (hl : l.length ≤ 100000000) (ht : t ≤ l.length) :
  Calls Tryz.prog 106 #[.pointer (some ⟨r, 0, none⟩)] w (Ends 35 (skipE l t) (fun x => .int .u8 (x.toNat : Int)) (fun _ w' => PRd w' r p l c (skipAt false l t) refs ∧ Touch w.heap.size r w w') (fun w' => Touch w.heap.size r w w')) := by
 have hr := h.1
 have hb := h.2
 unfold skipE
 obtain ⟨s, hs⟩ : ∃ s, s = skipAt false l t := ⟨_, rfl⟩
 have hsl : s ≤ l.length := by rw [hs]; exact skipAt_le _ _ _
 rw [← hs]
 have hS : ∀ w1, BytesAt w1 p l → Calls Tryz.prog 13 #[.slice p l.length c, .int .i64 (t : Int)] w1 fun e w' => e = .returned (.int .i64 (s : Int)) ∧ w1 = w' := fun w1 h1 => (plex_Skip p l c t w1 h1 hl).mono fun e w' h => ⟨by rw [h.1, insA_nat l t ht, hs], h.2⟩
 refine W.enter func106 rfl ntmps106 (Nat.le_of_ble_eq_true rfl) ?_
 have hB0 := Touch.refl (w.heap.size) r w
 refine W.sr <| WL.z rfl rfl ?_
 refine W.seq <| W.regY 13 rfl mixed (fun w1 dw1 => ?_)
 have hk2 := hr.drew dw1
 have hv3 := hb.drew dw1
 have hB4 := Touch.trans hB0 (Touch.of_drew dw1)
 refine WY.tk 0 rfl (.mv rfl) rfl ?_
 refine WY.tk 1 rfl (.mv rfl) rfl ?_
 refine WY.tk 2 rfl (.nck rfl) rfl ?_
 refine WY.tk 3 rfl (.fa underlying63 rfl sizeOf22 dD rfl) rfl ?_
 refine WY.tk 5 rfl (.mv rfl) rfl ?_
 refine WY.tk 6 rfl (.nck rfl) rfl ?_
 refine WY.tk 7 rfl (.fa underlying63 rfl sizeOf3 dD rfl) rfl ?_
 refine WY.br2 4 rfl 8 rfl ?_ ?_
 refine WL.r (Rd.ld (isAgg22 _) rfl hk2 rfl) rfl <| WL.nil <| ?_
 refine WY.br1 8 rfl ?_
 refine WL.r (Rd.ld (isAgg3 _) rfl hk2 rfl) rfl <| WL.nil <| ?_
 refine WY.br1 9 rfl ?_
 refine WL.c1 hb13 rfl rfl ((hS _ hv3)) (fun w5 hw5 => ?_)
 obtain rfl := hw5
 refine WL.nil <| ?_
 refine WY.tk 10 rfl (.nck rfl) rfl ?_
 refine WY.tk 11 rfl (.fa underlying63 rfl sizeOf3 dD rfl) rfl ?_
 refine WY.br1 12 rfl ?_
 refine WL.st sizeOf3 rfl rfl rfl hk2 oD (fun w6 hkw6 huw6 hsw6 => ?_)
 have hkw6 : Blk w6 r _ _ := hkw6
 have huw6 : Upd r _ _ := huw6
 have hv7 := BytesAt.upd hv3 huw6 hne
 have hB8 := Touch.trans hB4 (Touch.of_upd huw6)
 refine WL.nil <| ?_
 refine WY.done kR ?_
 refine W.seq <| W.seq <| W.regQ mixed kR ?_
 refine WQ.p (.mv rfl) rfl <| WQ.p (.nck rfl) rfl <| WQ.p (.fa underlying63 rfl sizeOf3 dD rfl) rfl <| WQ.r (fun m => Rd.ld (isAgg3 _) rfl hkw6 rfl) rfl <| WQ.p (.mv rfl) rfl <| WQ.p (.nck rfl) rfl <| WQ.p (.fa underlying63 rfl sizeOf22 dD rfl) rfl <| WQ.r (fun m => Rd.ld (isAgg22 _) rfl hkw6 rfl) rfl <| WQ.p (.lenS underlying22 rfl) rfl <| WQ.p (.geq rfl rfl) rfl <| WQ.nil (fun w9 dw9 => ?_)
 have hk10 := hkw6.drew dw9
 have hv11 := hv7.drew dw9
 have hB12 := Touch.trans hB8 (Touch.of_drew dw9)
 refine W.cond rfl (fun h13 => ?_) (fun h13 => ?_)
 have h13' := dT h13
 refine W.reg <| WL.cp hb68 rfl ((plex_fail 24 _)) (fun w14 hw14 => ?_)
 obtain rfl := hw14
 exact pn_is (Ends.err 24 (by rw [List.getElem?_eq_none oO]) hB12)
 have h13' := dF h13
 refine W.skip <| W.seq <| W.regQ mixed kR ?_
 refine WQ.p (.mv rfl) rfl <| WQ.p (.nck rfl) rfl <| WQ.p (.fa underlying63 rfl sizeOf22 dD rfl) rfl <| WQ.r (fun m => Rd.ld (isAgg22 _) rfl hk10 rfl) rfl <| WQ.p (.mv rfl) rfl <| WQ.p (.nck rfl) rfl <| WQ.p (.fa underlying63 rfl sizeOf3 dD rfl) rfl <| WQ.r (fun m => Rd.ld (isAgg3 _) rfl hk10 rfl) rfl <| WQ.p (.ixb underlying22 sizeOf5 rfl rfl (hv11.isp oO) (s) (rfl) oO) rfl <| WQ.r (fun m => Rd.ldc (isAgg5 _) rfl ((hv11.drewN m).cells (s) oO)) rfl <| WQ.p (.as rfl) rfl <| WQ.nil (fun w15 dw15 => ?_)
 have hk16 := hk10.drew dw15
 have hv17 := hv11.drew dw15
 have hB18 := Touch.trans hB12 (Touch.of_drew dw15)
 refine W.ret (W.ret1 rfl rfl ?_)
 exact Ends.ok (l[s]'oO) (by rw [List.getElem?_eq_getElem oO]) rfl ⟨⟨hk16, hv17⟩, hB18⟩
 refine WL.r (Rd.ld (isAgg3 _) rfl hk2 rfl) rfl <| WL.nil <| ?_
 refine WY.br1 4 rfl ?_
 refine WL.r (Rd.ld (isAgg22 _) rfl hk2 rfl) rfl <| WL.nil <| ?_
 refine WY.br1 9 rfl ?_
 refine WL.c1 hb13 rfl rfl ((hS _ hv3)) (fun w19 hw19 => ?_)
 obtain rfl := hw19
 refine WL.nil <| ?_
 refine WY.tk 10 rfl (.nck rfl) rfl ?_
 refine WY.tk 11 rfl (.fa underlying63 rfl sizeOf3 dD rfl) rfl ?_
 refine WY.br1 12 rfl ?_
 refine WL.st sizeOf3 rfl rfl rfl hk2 oD (fun w20 hkw20 huw20 hsw20 => ?_)
 have hkw20 : Blk w20 r _ _ := hkw20
 have huw20 : Upd r _ _ := huw20
 have hv21 := BytesAt.upd hv3 huw20 hne
 have hB22 := Touch.trans hB4 (Touch.of_upd huw20)
 refine WL.nil <| ?_
 refine WY.done kR ?_
 refine W.seq <| W.seq <| W.regQ mixed kR ?_
 refine WQ.p (.mv rfl) rfl <| WQ.p (.nck rfl) rfl <| WQ.p (.fa underlying63 rfl sizeOf3 dD rfl) rfl <| WQ.r (fun m => Rd.ld (isAgg3 _) rfl hkw20 rfl) rfl <| WQ.p (.mv rfl) rfl <| WQ.p (.nck rfl) rfl <| WQ.p (.fa underlying63 rfl sizeOf22 dD rfl) rfl <| WQ.r (fun m => Rd.ld (isAgg22 _) rfl hkw20 rfl) rfl <| WQ.p (.lenS underlying22 rfl) rfl <| WQ.p (.geq rfl rfl) rfl <| WQ.nil (fun w23 dw23 => ?_)
 have hk24 := hkw20.drew dw23
 have hv25 := hv21.drew dw23
 have hB26 := Touch.trans hB22 (Touch.of_drew dw23)
 refine W.cond rfl (fun h27 => ?_) (fun h27 => ?_)
 have h27' := dT h27
 refine W.reg <| WL.cp hb68 rfl ((plex_fail 24 _)) (fun w28 hw28 => ?_)
 obtain rfl := hw28
 exact pn_is (Ends.err 24 (by rw [List.getElem?_eq_none oO]) hB26)
 have h27' := dF h27
 refine W.skip <| W.seq <| W.regQ mixed kR ?_
 refine WQ.p (.mv rfl) rfl <| WQ.p (.nck rfl) rfl <| WQ.p (.fa underlying63 rfl sizeOf22 dD rfl) rfl <| WQ.r (fun m => Rd.ld (isAgg22 _) rfl hk24 rfl) rfl <| WQ.p (.mv rfl) rfl <| WQ.p (.nck rfl) rfl <| WQ.p (.fa underlying63 rfl sizeOf3 dD rfl) rfl <| WQ.r (fun m => Rd.ld (isAgg3 _) rfl hk24 rfl) rfl <| WQ.p (.ixb underlying22 sizeOf5 rfl rfl (hv25.isp oO) (s) (rfl) oO) rfl <| WQ.r (fun m => Rd.ldc (isAgg5 _) rfl ((hv25.drewN m).cells (s) oO)) rfl <| WQ.p (.as rfl) rfl <| WQ.nil (fun w29 dw29 => ?_)
 have hk30 := hk24.drew dw29
 have hv31 := hv25.drew dw29
 have hB32 := Touch.trans hB26 (Touch.of_drew dw29)
 refine W.ret (W.ret1 rfl rfl ?_)
 exact Ends.ok (l[s]'oO) (by rw [List.getElem?_eq_getElem oO]) rfl ⟨⟨hk30, hv31⟩, hB32⟩
end
section
/-- objects that lie in blocks of S -/
structure LInv (w : World) (S : Nat → Prop) (cs : List PC) (acc : List PV) : Prop where
 len : cs.length = acc.length
 sub : ∀ i (h : i < cs.length) (h2 : i < acc.length), PRep w S cs[i] acc[i]
theorem LInv.nil (w : World) (S : Nat → Prop) : LInv w S [] [] := ⟨rfl, fun i h => by simp at h⟩
theorem LInv.same {w w1 : World} {S : Nat → Prop} {cs : List PC} {acc : List PV} (h : LInv w S cs acc) (hb : ∀ k, S k → k < w.heap.size → w1.heap[k]? = w.heap[k]?) : LInv w1 S cs acc := ⟨h.len, fun i h1 h2 => (h.sub i h1 h2).same hb⟩
theorem LInv.mono {w : World} {S T : Nat → Prop} {cs : List PC} {acc : List PV} (h : LInv w S cs acc) (hST : ∀ k, S k → k < w.heap.size → T k) : LInv w T cs acc := ⟨h.len, fun i h1 h2 => (h.sub i h1 h2).mono hST⟩
theorem LInv.grow {w w1 : World} {S T : Nat → Prop} {cs : List PC} {acc : List PV} (h : LInv w S cs acc) (hb : ∀ k, S k → k < w.heap.size → w1.heap[k]? = w.heap[k]?) (hT : ∀ k, S k → k < w.heap.size → T k) : LInv w1 T cs acc :=
 ((h.mono (T := fun k => S k ∧ k < w.heap.size) (fun k hk hl => ⟨hk, hl⟩)).same (fun k hk _ => hb k hk.1 hk.2)).mono (fun k hk _ => hT k hk.1 hk.2)
theorem LInv.push {w : World} {S : Nat → Prop} {cs : List PC} {acc : List PV} {x : PC} {o : PV} (h : LInv w S cs acc) (hx : PRep w S x o) : LInv w S (cs ++ [x]) (acc ++ [o]) :=
  ⟨by simp [h.len], fun i h1 h2 => by
    have hl := h.len
    rcases Nat.lt_or_ge i cs.length with h3 | h3
    · rw [List.getElem_append_left h3, List.getElem_append_left oO]
      exact h.sub i h3 oO
    · obtain rfl : i = cs.length := by simp at h1; omega
      rw [List.getElem_append_right (Nat.le_refl _), List.getElem_append_right oO]
      simpa [hl] using hx⟩
theorem PRep.ofRow {w : World} {S : Nat → Prop} {k n : Int} {s : List UInt8} {kp lp : Option Addr} {kl kc lc : Nat} {keys : List (List UInt8)} {cs : List PC} {acc : List PV} (hk : StrsAt S w (.slice kp kl kc) keys) (hr : RowIn S w (.slice lp cs.length lc) cs) (h : LInv w S cs acc) :
  PRep w S ⟨k, n, s, kp, kl, kc, lp, cs.length, lc⟩ (.mk k n s keys acc) := PRep.mk ⟨k, n, s, kp, kl, kc, lp, cs.length, lc⟩ keys acc cs hk hr h.len h.sub
theorem inf31 : (Tryz.prog.info? 31).map (fun i => (i.zero, i.size, i.bytes)) = some (some (.agg (pobj 0 0 []).toArray), 6, 104) := by kernel_rfl
/-- what an object's reading leaves -/
def ObjS (w : World) (r : Nat) (p : Option Addr) (l : List UInt8) (c : Nat) (refs : Bool) (a : PV × Nat) (v : Value) (w' : World) : Prop :=
 ∃ x : PC, v = .agg (pcV x).toArray ∧ PRep w' (fun k => w.heap.size ≤ k) x a.1 ∧ PRd w' r p l c a.2 refs ∧ Touch w.heap.size r w w'
/-- a call of object at depth d keeps its word -/
def ObjC (p : Option Addr) (l : List UInt8) (c : Nat) (refs : Bool) (D : Int) : Prop :=
 ∀ (r t : Nat) (w : World), PRd w r p l c t refs → (0 < l.length → (pA p).block ≠ r) → t < l.length →
  Calls Tryz.prog 43 #[.pointer (some ⟨r, 0, none⟩), .int .i64 D] w (EndsV 35 (objP refs l D.toNat t) (ObjS w r p l c refs) (fun w' => Touch w.heap.size r w w'))
theorem skipE_ok {l : List UInt8} {t : Nat} {x : UInt8} (h : skipE l t = .ok x) : l[skipAt false l t]? = some x := by
 unfold skipE at h
 split at h
 ·
  cases h
 ·
  next h1 => rw [h1]; cases h; rfl
theorem skipE_err {l : List UInt8} {t : Nat} {k : Int} (h : skipE l t = .error k) : l[skipAt false l t]? = none ∧ k = 24 := by
 unfold skipE at h
 split at h
 ·
  next h1 => cases h; exact ⟨h1, rfl⟩
 ·
  cases h
theorem skipAt_ge (l : List UInt8) (t : Nat) (ht : t ≤ l.length) : t ≤ skipAt false l t := by
 unfold skipAt
 have h1 := skipS_len (l.drop t) false
 rw [List.length_drop] at h1
 omega
theorem listP_step {obj : Nat → ObjE} {l : List UInt8} {f : Nat} {acc : List PV} {t : Nat} (hf : 0 < f) : listP obj l f acc t = (match l[skipAt false l t]? with
  | none => .error 24
  | some c => if c = 93 then .ok (acc, skipAt false l t + 1) else if 65535 ≤ acc.length then .error 25 else match obj (skipAt false l t) with | .error k => .error k | .ok (o, t') => listP obj l (f - 1) (acc ++ [o]) t') := by
 cases f with
 | zero => omega
 | succ f => rfl
theorem plex_list (p : Option Addr) (l : List UInt8) (c : Nat) (refs : Bool) (D : Int) (hO : ObjC p l c refs D) (hadv : ∀ t o t', t < l.length → objP refs l D.toNat t = .ok (o, t') → t < t' ∧ t' ≤ l.length) (r t : Nat) (w : World) (h : PRd w r p l c t refs) (hne : 0 < l.length → (pA p).block ≠ r) (hl : l.length ≤ 100000000) (ht : t ≤ l.length) :
  Calls Tryz.prog 69 #[.pointer (some ⟨r, 0, none⟩), .int .i64 D] w (EndsV 35 (listO (listP (objP refs l D.toNat) l (l.length + 1) [] t)) (ObjS w r p l c refs) (fun w' => Touch w.heap.size r w w')) := by
 have hr := h.1
 have hb := h.2
 have hbl : 0 < l.length → (pA p).block < w.heap.size := fun h0 => hb.lt h0
 obtain ⟨R, hR⟩ : ∃ R, R = listP (objP refs l D.toNat) l (l.length + 1) [] t := ⟨_, rfl⟩
 rw [← hR]
 obtain ⟨t0, ht0⟩ : ∃ t0, t0 = t := ⟨t, rfl⟩
 subst ht0
 refine W.enter func69 rfl ntmps69 (Nat.le_of_ble_eq_true rfl) ?_
 have hB0 := Touch.refl (w.heap.size) r w
 refine W.seq ?_
 have hrw : r < w.heap.size := hr.lt
 refine W.reg <| WL.alloc zeroValue31 rfl (fun b1 wb1 eb1 hkb1 hub1 hsb1 => ?_)
 have hl3 : r < b1 := by rw [eb1]; exact hr.lt
 have hk2 := hr.upd hub1 (Nat.ne_of_lt hl3)
 have hvl5 := fun h0 => eb1 ▸ hb.lt h0
 have hv4 := bup hb hub1 hvl5
 have hgeb1 : w.heap.size ≤ b1 := by rw [eb1]; exact hB0.size
 have hB6 := Touch.trans hB0 (Touch.of_new hub1 hgeb1)
 refine WL.nil <| ?_
 refine W.sr <| WL.p (.buildL (ps := _) blt31 rfl rfl rfl pS) rfl ?_
 refine WL.alloc zeroValue31 rfl (fun b7 wb7 eb7 hkb7 hub7 hsb7 => ?_)
 have hl9 : r < b7 := by rw [eb7]; exact hk2.lt
 have hk8 := hk2.upd hub7 (Nat.ne_of_lt hl9)
 have hl11 : b1 < b7 := by rw [eb7]; exact hkb1.lt
 have hk10 := hkb1.upd hub7 (Nat.ne_of_lt hl11)
 have hvl13 := fun h0 => eb7 ▸ hv4.lt h0
 have hv12 := bup hv4 hub7 hvl13
 have hgeb7 : w.heap.size ≤ b7 := by rw [eb7]; exact hB6.size
 have hB14 := Touch.trans hB6 (Touch.of_new hub7 hgeb7)
 refine WL.stL rfl rfl hkb7 isz31 rfl rfl (fun w15 hkw15 huw15 hsw15 => ?_)
 have hk16 := hk8.up huw15
 have hk17 := hk10.up huw15
 have hv18 := bup hv12 huw15 hvl13
 have hB19 := Touch.trans hB14 (Touch.of_new huw15 oO)
 refine WL.nil <| ?_
 refine W.seq <| W.block ?_
 have hpB : 0 < l.length → (pA p).block < b7 + 1 := fun h0 => by have := hbl h0; omega
 have hrb : r < b7 := by omega
 refine W.loop (α := Value × List PC × List PV × Nat × Nat) (fun t => [(0, .pointer (some ⟨r, 0, none⟩)), (1, .int .i64 D), (4, .pointer (some ⟨b1, 0, none⟩)), (5, .pointer (some ⟨b7, 0, none⟩))]) (fun t w' => PRd w' r p l c t.2.2.2.1 refs ∧ Touch w.heap.size r w w' ∧ Blk w' b1 (pobj 0 0 []).toArray 31 ∧ Blk w' b7 #[.int .i64 6, .int .i64 0, .string ⟨#[]⟩, .slice none 0 0, t.1, .slice none 0 0] 31 ∧ OwnM pcL 31 (b7 + 1) w' t.1 t.2.1 ∧ LInv w' (fun k => b7 < k ∧ t.1.ownBlock ≠ some k) t.2.1 t.2.2.1 ∧ listP (objP refs l D.toNat) l t.2.2.2.2 t.2.2.1 t.2.2.2.1 = R ∧ l.length < t.2.2.2.2 + t.2.2.2.1 ∧ t.2.2.2.1 ≤ l.length ∧ t.2.2.1.length ≤ 65535) (fun t => t.2.2.2.2) ((.slice none 0 0, [], [], t0, l.length + 1)) ⟨rfl, rfl, rfl, rfl, trivial⟩ (⟨⟨hk16, hv18⟩, hB19, hk17, hkw15, OwnM.nil _ _ _ _, LInv.nil _ _, hR.symm, by ((try simp only) <;> omega), ht, by simp⟩) (fun t w1 hR => ?_)
 obtain ⟨v, cs, acc, t, f⟩ := t
 obtain ⟨hrd, hT, hk1, hk2, hown, hsub, hw, hft, htl, hal⟩ := hR
 simp only at hrd hk2 hown hsub hw hft htl hal ⊢
 have hst := listP_step (obj := objP refs l D.toNat) (l := l) (acc := acc) (t := t) (f := f) oO
 have hsge := skipAt_ge l t htl
 have hcl := hsub.len
 obtain ⟨pl, cl, rfl, -⟩ := hown.row
 refine W.seq <| W.sr <| WL.m rfl rfl <| WL.ce hb106 rfl rfl ((plex_skip r p l c t refs _ ⟨hrd.1, hrd.2⟩ hne hl htl)) (fun k22 w20 hrw20 hw20 => ?_) (fun a21 w20 hrw20 hw20 => ?_)
 have hBew20 := Touch.trans hT (Touch.mono hw20 hT.size)
 exact pn_is (EndsV.err k22 (by rw [← hw, hst, (skipE_err hrw20).1, (skipE_err hrw20).2]; rfl) hBew20)
 have ho23 := OwnM.touch' hown hw20.2 oO
 have hF24 := LInv.same (w1 := w20) hsub (fun k hk hl => hw20.2.block k hl (by first | omega | (have := hk.1; omega)))
 have hk25 := hw20.1.1
 have hk26 := Blk.touch hk1 hw20.2 hk1.lt oO
 have hk27 := Blk.touch hk2 hw20.2 hk2.lt oO
 have hv28 := hw20.1.2
 have hB29 := Touch.trans hT (Touch.mono hw20.2 hT.size)
 have hsk := skipE_ok hrw20
 rw [hsk] at hst
 obtain ⟨hsl, hsx⟩ := List.getElem?_eq_some_iff.1 hsk
 obtain ⟨x0, hx0⟩ : ∃ x0, x0 = a21 := ⟨_, rfl⟩
 rw [← hx0] at hst hsx hsk ⊢
 generalize skipAt false l t = s at *
 refine WL.p (.neq rfl rfl) rfl <| WL.nil <| ?_
 refine W.cond rfl (fun h30 => ?_) (fun h30 => ?_)
 have h30' := ndT h30
 refine W.skip <| W.block <| W.seq <| W.sr <| WL.p (.fa underlying31 rfl sizeOf29 dD rfl) rfl <| WL.r (Rd.ld (isAgg29 _) rfl hk27 rfl) rfl <| WL.p (.lenS underlying29 rfl) rfl <| WL.p (.geq rfl rfl) rfl <| WL.nil <| ?_
 refine W.cond rfl (fun h31 => ?_) (fun h31 => ?_)
 have h31' := dT h31
 refine W.reg <| WL.cp hb68 rfl ((plex_fail 25 _)) (fun w32 hw32 => ?_)
 obtain rfl := hw32
 exact pn_is (EndsV.err 25 (by rw [← hw, hst]; simp only []; rw [if_neg (u8_ne (d := 93) aS), if_pos oO]; rfl) hB29)
 have h31' := dF h31
 refine W.skip <| W.regY 9 rfl mixed (fun w33 dw33 => ?_)
 have ho34 := OwnM.drew ho23 dw33
 have hF35 := LInv.same (w1 := w33) hF24 (fun k hk hl => (by obtain ⟨m, rfl⟩ := dw33; rfl))
 have hk36 := hk25.drew dw33
 have hk37 := hk26.drew dw33
 have hk38 := hk27.drew dw33
 have hv39 := hv28.drew dw33
 have hB40 := Touch.trans hB29 (Touch.of_drew dw33)
 refine WY.tk 0 rfl (.fa underlying31 rfl sizeOf29 dD rfl) rfl ?_
 refine WY.tk 2 rfl (.mv rfl) rfl ?_
 refine WY.tk 3 rfl (.mv rfl) rfl ?_
 refine WY.br2 1 rfl 4 rfl ?_ ?_
 refine WL.r (Rd.ld (isAgg29 _) rfl hk38 rfl) rfl <| WL.nil <| ?_
 refine WY.br1 4 rfl ?_
 refine WL.cx hb43 rfl rfl ((hO r s _ ⟨hk36, hv39⟩ hne hsl)) (fun k43 w41 hrw41 hw41 => ?_) (fun a42 x44 w41 hrw41 hw41 => ?_)
 have hBew41 := Touch.trans hB40 (Touch.mono hw41 hB40.size)
 exact pn_is (EndsV.err k43 (by rw [← hw, hst]; simp only []; rw [if_neg (u8_ne (d := 93) aS), if_neg oO, hrw41]; rfl) hBew41)
 have hrr := hrw41
 obtain ⟨oX, tX⟩ := a42
 obtain ⟨x1, rfl, hpx, hrd1, hT1⟩ := hw41
 have had := hadv s oX tX hsl hrr
 have ho1 := OwnM.touch' ho34 hT1 oO
 have hsub1 := LInv.same hF35 (fun k hk hl => hT1.block k hl (by have := hk.1; omega))
 have hk11 := Blk.touch hk37 hT1 (hk37).lt oO
 have hk21 := Blk.touch hk38 hT1 (hk38).lt oO
 have hB1 := Touch.trans hB40 (Touch.mono hT1 hB40.size)
 have hpx1 := hpx.mono (T := fun k => b7 < k ∧ (Value.slice pl cs.length cl).ownBlock ≠ some k) (fun k hk _ => ⟨by have := (hk38).lt; omega, fun e => by have := ((ho34).lt k e).2; omega⟩)
 have hsub2 := hsub1.push hpx1
 have hr1 := hrd1.1
 have hv1 := hrd1.2
 refine WL.nil <| ?_
 refine WY.br1 5 rfl ?_
 refine WL.bslM (L := pcL) (ps := _) ([x1]) underlying29 sizeOf31 zeroValue31 rfl rfl rfl rfl rfl (by first | rfl | decide) rfl rfl (fun b45 wb45 eb45 hob45 hub45 hsb45 => ?_)
 have ho46 := OwnM.new ho1 eb45 hub45
 have hF47 := LInv.same (w1 := wb45) hsub2 (fun k hk hl => hub45.other k oO)
 have hl49 : r < b45 := by rw [eb45]; exact hr1.lt
 have hk48 := hr1.upd hub45 (Nat.ne_of_lt hl49)
 have hl51 : b1 < b45 := by rw [eb45]; exact hk11.lt
 have hk50 := hk11.upd hub45 (Nat.ne_of_lt hl51)
 have hl53 : b7 < b45 := by rw [eb45]; exact hk21.lt
 have hk52 := hk21.upd hub45 (Nat.ne_of_lt hl53)
 have hvl55 := fun h0 => eb45 ▸ hv1.lt h0
 have hv54 := bup hv1 hub45 hvl55
 have hgeb45 : w.heap.size ≤ b45 := by rw [eb45]; exact hB1.size
 have hB56 := Touch.trans hB1 (Touch.of_new hub45 hgeb45)
 have hleb45 : b45 ≤ wb45.heap.size := by omega
 refine WL.nil <| ?_
 refine WY.br1 6 rfl ?_
 refine WL.appM underlying29 inf31 rfl rfl rfl ho46 rfl (hob45).rowp (by simp only [List.length_cons, List.length_nil]; omega) ((hk52).lt) rfl (fun h => nomatch h) (fun v57 w58 how58 hbw58 hgw58 hfw58 => ?_)
 have hk59 := hk48.below hbw58 oO
 have hk60 := hk50.below hbw58 oO
 have hk61 := hk52.below hbw58 oO
 have hF62 := LInv.grow (T := fun k => b7 < k ∧ (v57).ownBlock ≠ some k) hF47 (fun k hk hl => hgw58.block k hl (fun e => hk.2 e.symm)) (fun k hk hl => ⟨hk.1, fun e => by rcases hfw58 k e with h | h; exact hk.2 h; omega⟩)
 have hv63 := BytesAt.below hv54 hbw58 hpB
 have hB64 := Touch.trans hB56 (Touch.of_below (hbw58.mono oO))
 refine WL.nil <| ?_
 refine WY.tk 7 rfl (.fa underlying31 rfl sizeOf29 dD rfl) rfl ?_
 refine WY.br1 8 rfl ?_
 refine WL.st sizeOf29 rfl rfl (how58).one hk61 oD (fun w65 hkw65 huw65 hsw65 => ?_)
 have hkw65 : Blk w65 b7 _ _ := hkw65
 have huw65 : Upd b7 _ _ := huw65
 have ho66 := OwnM.touch how58 huw65 oM
 have hF67 := LInv.same (w1 := w65) hF62 (fun k hk hl => huw65.other k (by first | ((try simp only) <;> omega) | (have := hk.1; ((try simp only) <;> omega))))
 have hk68 := hk59.up huw65
 have hk69 := hk60.up huw65
 have hv70 := bup hv63 huw65 hvl13
 have hB71 := Touch.trans hB64 (Touch.of_new huw65 oO)
 refine WL.nil <| ?_
 refine WY.done kR ?_
 exact ⟨(_, cs ++ [x1], acc ++ [oX], tX, f - 1), ⟨rfl, rfl, rfl, rfl, trivial⟩, ⟨⟨hk68, hv70⟩, hB71, hk69, hkw65, ho66, hF67, by rw [← hw, hst]; simp only []; rw [if_neg (u8_ne (d := 93) aS), if_neg oO, hrr], by ((try simp only) <;> omega), had.2, by simp only [List.length_append, List.length_cons, List.length_nil]; omega⟩, by ((try simp only) <;> omega)⟩
 refine WL.cx hb43 rfl rfl ((hO r s _ ⟨hk36, hv39⟩ hne hsl)) (fun k74 w72 hrw72 hw72 => ?_) (fun a73 x75 w72 hrw72 hw72 => ?_)
 have hBew72 := Touch.trans hB40 (Touch.mono hw72 hB40.size)
 exact pn_is (EndsV.err k74 (by rw [← hw, hst]; simp only []; rw [if_neg (u8_ne (d := 93) aS), if_neg oO, hrw72]; rfl) hBew72)
 have hrr := hrw72
 obtain ⟨oX, tX⟩ := a73
 obtain ⟨x1, rfl, hpx, hrd1, hT1⟩ := hw72
 have had := hadv s oX tX hsl hrr
 have ho1 := OwnM.touch' ho34 hT1 oO
 have hsub1 := LInv.same hF35 (fun k hk hl => hT1.block k hl (by have := hk.1; omega))
 have hk11 := Blk.touch hk37 hT1 (hk37).lt oO
 have hk21 := Blk.touch hk38 hT1 (hk38).lt oO
 have hB1 := Touch.trans hB40 (Touch.mono hT1 hB40.size)
 have hpx1 := hpx.mono (T := fun k => b7 < k ∧ (Value.slice pl cs.length cl).ownBlock ≠ some k) (fun k hk _ => ⟨by have := (hk38).lt; omega, fun e => by have := ((ho34).lt k e).2; omega⟩)
 have hsub2 := hsub1.push hpx1
 have hr1 := hrd1.1
 have hv1 := hrd1.2
 refine WL.nil <| ?_
 refine WY.br2 1 rfl 5 rfl ?_ ?_
 refine WL.r (Rd.ld (isAgg29 _) rfl hk21 rfl) rfl <| WL.nil <| ?_
 refine WY.br1 5 rfl ?_
 refine WL.bslM (L := pcL) (ps := _) ([x1]) underlying29 sizeOf31 zeroValue31 rfl rfl rfl rfl rfl (by first | rfl | decide) rfl rfl (fun b76 wb76 eb76 hob76 hub76 hsb76 => ?_)
 have ho77 := OwnM.new ho1 eb76 hub76
 have hF78 := LInv.same (w1 := wb76) hsub2 (fun k hk hl => hub76.other k oO)
 have hl80 : r < b76 := by rw [eb76]; exact hr1.lt
 have hk79 := hr1.upd hub76 (Nat.ne_of_lt hl80)
 have hl82 : b1 < b76 := by rw [eb76]; exact hk11.lt
 have hk81 := hk11.upd hub76 (Nat.ne_of_lt hl82)
 have hl84 : b7 < b76 := by rw [eb76]; exact hk21.lt
 have hk83 := hk21.upd hub76 (Nat.ne_of_lt hl84)
 have hvl86 := fun h0 => eb76 ▸ hv1.lt h0
 have hv85 := bup hv1 hub76 hvl86
 have hgeb76 : w.heap.size ≤ b76 := by rw [eb76]; exact hB1.size
 have hB87 := Touch.trans hB1 (Touch.of_new hub76 hgeb76)
 have hleb76 : b76 ≤ wb76.heap.size := by omega
 refine WL.nil <| ?_
 refine WY.br1 6 rfl ?_
 refine WL.appM underlying29 inf31 rfl rfl rfl ho77 rfl (hob76).rowp (by simp only [List.length_cons, List.length_nil]; omega) ((hk83).lt) rfl (fun h => nomatch h) (fun v88 w89 how89 hbw89 hgw89 hfw89 => ?_)
 have hk90 := hk79.below hbw89 oO
 have hk91 := hk81.below hbw89 oO
 have hk92 := hk83.below hbw89 oO
 have hF93 := LInv.grow (T := fun k => b7 < k ∧ (v88).ownBlock ≠ some k) hF78 (fun k hk hl => hgw89.block k hl (fun e => hk.2 e.symm)) (fun k hk hl => ⟨hk.1, fun e => by rcases hfw89 k e with h | h; exact hk.2 h; omega⟩)
 have hv94 := BytesAt.below hv85 hbw89 hpB
 have hB95 := Touch.trans hB87 (Touch.of_below (hbw89.mono oO))
 refine WL.nil <| ?_
 refine WY.tk 7 rfl (.fa underlying31 rfl sizeOf29 dD rfl) rfl ?_
 refine WY.br1 8 rfl ?_
 refine WL.st sizeOf29 rfl rfl (how89).one hk92 oD (fun w96 hkw96 huw96 hsw96 => ?_)
 have hkw96 : Blk w96 b7 _ _ := hkw96
 have huw96 : Upd b7 _ _ := huw96
 have ho97 := OwnM.touch how89 huw96 oM
 have hF98 := LInv.same (w1 := w96) hF93 (fun k hk hl => huw96.other k (by first | ((try simp only) <;> omega) | (have := hk.1; ((try simp only) <;> omega))))
 have hk99 := hk90.up huw96
 have hk100 := hk91.up huw96
 have hv101 := bup hv94 huw96 hvl13
 have hB102 := Touch.trans hB95 (Touch.of_new huw96 oO)
 refine WL.nil <| ?_
 refine WY.done kR ?_
 exact ⟨(_, cs ++ [x1], acc ++ [oX], tX, f - 1), ⟨rfl, rfl, rfl, rfl, trivial⟩, ⟨⟨hk99, hv101⟩, hB102, hk100, hkw96, ho97, hF98, by rw [← hw, hst]; simp only []; rw [if_neg (u8_ne (d := 93) aS), if_neg oO, hrr], by ((try simp only) <;> omega), had.2, by simp only [List.length_append, List.length_cons, List.length_nil]; omega⟩, by ((try simp only) <;> omega)⟩
 refine WL.bslM (L := pcL) (ps := _) ([x1]) underlying29 sizeOf31 zeroValue31 rfl rfl rfl rfl rfl (by first | rfl | decide) rfl rfl (fun b103 wb103 eb103 hob103 hub103 hsb103 => ?_)
 have ho104 := OwnM.new ho1 eb103 hub103
 have hF105 := LInv.same (w1 := wb103) hsub2 (fun k hk hl => hub103.other k oO)
 have hl107 : r < b103 := by rw [eb103]; exact hr1.lt
 have hk106 := hr1.upd hub103 (Nat.ne_of_lt hl107)
 have hl109 : b1 < b103 := by rw [eb103]; exact hk11.lt
 have hk108 := hk11.upd hub103 (Nat.ne_of_lt hl109)
 have hl111 : b7 < b103 := by rw [eb103]; exact hk21.lt
 have hk110 := hk21.upd hub103 (Nat.ne_of_lt hl111)
 have hvl113 := fun h0 => eb103 ▸ hv1.lt h0
 have hv112 := bup hv1 hub103 hvl113
 have hgeb103 : w.heap.size ≤ b103 := by rw [eb103]; exact hB1.size
 have hB114 := Touch.trans hB1 (Touch.of_new hub103 hgeb103)
 have hleb103 : b103 ≤ wb103.heap.size := by omega
 refine WL.nil <| ?_
 refine WY.br1 1 rfl ?_
 refine WL.r (Rd.ld (isAgg29 _) rfl hk110 rfl) rfl <| WL.nil <| ?_
 refine WY.br1 6 rfl ?_
 refine WL.appM underlying29 inf31 rfl rfl rfl ho104 rfl (hob103).rowp (by simp only [List.length_cons, List.length_nil]; omega) ((hk110).lt) rfl (fun h => nomatch h) (fun v115 w116 how116 hbw116 hgw116 hfw116 => ?_)
 have hk117 := hk106.below hbw116 oO
 have hk118 := hk108.below hbw116 oO
 have hk119 := hk110.below hbw116 oO
 have hF120 := LInv.grow (T := fun k => b7 < k ∧ (v115).ownBlock ≠ some k) hF105 (fun k hk hl => hgw116.block k hl (fun e => hk.2 e.symm)) (fun k hk hl => ⟨hk.1, fun e => by rcases hfw116 k e with h | h; exact hk.2 h; omega⟩)
 have hv121 := BytesAt.below hv112 hbw116 hpB
 have hB122 := Touch.trans hB114 (Touch.of_below (hbw116.mono oO))
 refine WL.nil <| ?_
 refine WY.tk 7 rfl (.fa underlying31 rfl sizeOf29 dD rfl) rfl ?_
 refine WY.br1 8 rfl ?_
 refine WL.st sizeOf29 rfl rfl (how116).one hk119 oD (fun w123 hkw123 huw123 hsw123 => ?_)
 have hkw123 : Blk w123 b7 _ _ := hkw123
 have huw123 : Upd b7 _ _ := huw123
 have ho124 := OwnM.touch how116 huw123 oM
 have hF125 := LInv.same (w1 := w123) hF120 (fun k hk hl => huw123.other k (by first | ((try simp only) <;> omega) | (have := hk.1; ((try simp only) <;> omega))))
 have hk126 := hk117.up huw123
 have hk127 := hk118.up huw123
 have hv128 := bup hv121 huw123 hvl13
 have hB129 := Touch.trans hB122 (Touch.of_new huw123 oO)
 refine WL.nil <| ?_
 refine WY.done kR ?_
 exact ⟨(_, cs ++ [x1], acc ++ [oX], tX, f - 1), ⟨rfl, rfl, rfl, rfl, trivial⟩, ⟨⟨hk126, hv128⟩, hB129, hk127, hkw123, ho124, hF125, by rw [← hw, hst]; simp only []; rw [if_neg (u8_ne (d := 93) aS), if_neg oO, hrr], by ((try simp only) <;> omega), had.2, by simp only [List.length_append, List.length_cons, List.length_nil]; omega⟩, by ((try simp only) <;> omega)⟩
 have h30' := ndF h30
 refine W.exit <| W.sr <| WL.m rfl rfl <| WL.p (.nck rfl) rfl <| WL.p (.fa underlying63 rfl sizeOf3 dD rfl) rfl <| WL.r (Rd.ld (isAgg3 _) rfl hk25 rfl) rfl <| WL.p (.iis (((s + 1 : Nat) : Int)) (.add rfl rfl (i64w oO)) oO) rfl <| WL.p (.nck rfl) rfl <| WL.p (.fa underlying63 rfl sizeOf3 dD rfl) rfl <| WL.st sizeOf3 rfl rfl rfl hk25 oD (fun w130 hkw130 huw130 hsw130 => ?_)
 have hkw130 : Blk w130 r _ _ := hkw130
 have huw130 : Upd r _ _ := huw130
 have ho131 := OwnM.touch ho23 huw130 oM
 have hF132 := LInv.same (w1 := w130) hF24 (fun k hk hl => huw130.other k (by first | ((try simp only) <;> omega) | (have := hk.1; ((try simp only) <;> omega))))
 have hk133 := hk26.up huw130
 have hk134 := hk27.up huw130
 have hv135 := BytesAt.upd hv28 huw130 hne
 have hB136 := Touch.trans hB29 (Touch.of_upd huw130)
 refine WL.nil <| ?_
 refine W.sr <| WL.r (Rd.ldA rfl hk134 underlying31 rfl isz31) rfl <| WL.stL rfl rfl hk133 isz31 rfl rfl (fun w137 hkw137 huw137 hsw137 => ?_)
 have ho138 := OwnM.touch ho131 huw137 oM
 have hF139 := LInv.same (w1 := w137) hF132 (fun k hk hl => huw137.other k (by first | ((try simp only) <;> omega) | (have := hk.1; ((try simp only) <;> omega))))
 have hk140 := hkw130.up huw137
 have hv142 := bup hv135 huw137 hvl5
 have hB143 := Touch.trans hB136 (Touch.of_new huw137 oO)
 refine WL.nil <| ?_
 refine W.ret (W.retc1 rfl rfl (ldRow hkw137 underlying31 rfl isz31)  ?_)
 exact EndsV.ok (.mk 6 0 [] [] acc, s + 1) _ (by rw [← hw, hst]; simp only []; rw [if_pos (u8_eq (d := 93) aS)]; rfl) rfl ⟨⟨6, 0, [], none, 0, 0, pl, cs.length, cl⟩, rfl, PRep.ofRow ⟨OwnM.nil _ _ _ _, fun g h => by cases h⟩ ⟨(ho138).base (fun g hg => Nat.zero_le _), fun g hg => by have := (ho138).lt g hg; omega⟩ ((hF139).mono (fun k hk _ => by have := hk.1; omega)), ⟨hk140, hv142⟩, hB143⟩
end
section
theorem inf9 : (Tryz.prog.info? 9).map (fun i => (i.zero, i.size, i.bytes)) = some (some (.string ⟨#[]⟩), 1, 16) := by kernel_rfl
theorem lib_idxS (q : Option Addr) (s : List (List UInt8)) (c : Nat) (x : List UInt8) (w : World) (hb : RowAt strV w q s) (hl : s.length ≤ 1000000000) :
  Calls Tryz.prog 152 #[.slice q s.length c, .string (bs x)] w fun e w' => ∃ a : { a : Int // 0 ≤ a ↔ x ∈ s }, e = .returned (.int .i64 a.1) ∧ w = w' := by
 refine W.enter func152 rfl ntmps152 (Nat.le_of_ble_eq_true rfl) ?_
 refine W.sr <| WL.z rfl rfl ?_
 refine W.seq <| W.sr <| WL.m rfl rfl <| WL.p (.lenS underlying28 rfl) rfl <| WL.m rfl rfl <| WL.nil <| ?_
 refine W.block ?_
 refine W.loop (α := Nat) (fun t => [(0, .slice q s.length c), (1, .string (bs x)), (7, .int .i64 (s.length : Int)), (8, .int .i64 (t : Int))]) (fun t w' => w = w' ∧ t ≤ s.length ∧ x ∉ s.take t) (fun t => s.length - t) (0) ⟨rfl, rfl, rfl, rfl, trivial⟩ (⟨rfl, Nat.zero_le _, by simp⟩) (fun t w1 hR => ?_)
 obtain ⟨i, rfl⟩ : ∃ i, i = t := ⟨t, rfl⟩
 obtain ⟨rfl, hi, hno⟩ := hR
 refine W.sr <| WL.p (.lss rfl rfl) rfl <| WL.nil <| ?_
 refine W.seq <| W.cond rfl (fun h1 => ?_) (fun h1 => ?_)
 have h1' := dT h1
 refine W.skip <| W.seq <| W.block <| W.sr <| WL.m rfl rfl <| WL.z rfl rfl ?_
 refine W.sr <| WL.m rfl rfl <| WL.m rfl rfl <| WL.m rfl rfl <| WL.p (.ixb underlying28 sizeOf9 rfl rfl (hb.isp oO) (i) (rfl) oO) rfl <| WL.r (Rd.ldc (isAgg9 _) rfl (hb.cells (i) oO)) rfl <| WL.p (.eqs rfl rfl) rfl <| WL.nil <| ?_
 refine W.cond rfl (fun h2 => ?_) (fun h2 => ?_)
 have h2' := dT h2
 refine W.sr <| WL.m rfl rfl <| WL.z rfl rfl ?_
 refine W.ret (W.ret1 rfl rfl ?_)
 exact ⟨⟨(i : Int), fun _ => by rw [show x = s[i]'oO by assumption]; exact List.getElem_mem _, fun _ => by omega⟩, rfl, rfl⟩
 have h2' := dF h2
 refine W.skip <| W.reg <| WL.p (.iis (((i + 1 : Nat) : Int)) (.add rfl rfl (i64w oO)) oO) rfl <| WL.m rfl rfl <| WL.nil <| ?_
 exact ⟨i + 1, ⟨rfl, rfl, rfl, rfl, trivial⟩, ⟨rfl, by ((try simp only) <;> omega), by
  rw [List.take_add_one, List.getElem?_eq_getElem oO, Option.toList_some, List.mem_append, List.mem_singleton]
  exact fun h => h.elim hno aS⟩, by ((try simp only) <;> omega)⟩
 have h1' := dF h1
 refine W.exit <| W.sr <| WL.z rfl rfl ?_
 refine W.ret (W.ret1 rfl rfl ?_)
 exact ⟨⟨-1, fun h => absurd h dD, fun h => by rw [show s.take i = s from List.take_of_length_le oO] at hno; exact absurd h hno⟩, rfl, rfl⟩
theorem lib_hasS (q : Option Addr) (s : List (List UInt8)) (c : Nat) (x : List UInt8) (w : World) (hb : RowAt strV w q s) (hl : s.length ≤ 1000000000) :
  Calls Tryz.prog 109 #[.slice q s.length c, .string (bs x)] w fun e w' => e = .returned (.bool (decide (x ∈ s))) ∧ w = w' := by
 refine W.enter func109 rfl ntmps109 (Nat.le_of_ble_eq_true rfl) ?_
 refine W.sr <| WL.z rfl rfl ?_
 refine W.sr <| WL.m rfl rfl <| WL.m rfl rfl <| WL.call hb152 rfl rfl ((lib_idxS q s c x _ hb hl)) (fun a w1 hw1 => ?_)
 obtain rfl := hw1
 refine WL.p (.geq rfl rfl) rfl <| WL.z rfl rfl ?_
 refine W.ret (W.ret1 rfl rfl ?_)
 exact ⟨ret_bool (decide_eq_decide.2 a.2), rfl⟩
theorem nameP_le {l : List UInt8} {t : Nat} {k : List UInt8} {t1 : Nat} (ht : t ≤ l.length) (h : nameP l t = .ok (k, t1)) : t ≤ t1 ∧ t1 ≤ l.length := by
 have hw := wordAt_le l t ht
 unfold nameP at h
 split at h
 ·
  cases h
 ·
  split at h
  ·
   cases h
  ·
   split at h
   ·
    cases h
   ·
    cases h; exact hw
theorem pairsP_step {obj : Nat → ObjE} {l : List UInt8} {f : Nat} {ks : List (List UInt8)} {os : List PV} {t : Nat} (hf : 0 < f) : pairsP obj l f ks os t = (match l[skipAt false l t]? with
  | none => .error 24
  | some c =>
   if c = 62 ∧ l.length ≤ skipAt false l t + 1 then .error 24
   else if c = 62 ∧ l[skipAt false l t + 1]? = some 62 then .ok (ks, os, skipAt false l t + 2)
   else if c ≠ 47 then .error 23
   else match nameP l (skipAt false l t + 1) with
    | .error k => .error k
    | .ok (k, t1) =>
     if k ∈ ks then .error 23
     else if 65535 ≤ os.length then .error 25
     else match l[skipAt false l t1]? with
      | none => .error 24
      | some _ => match obj (skipAt false l t1) with
       | .error k => .error k
       | .ok (o, t') => pairsP obj l (f - 1) (ks ++ [k]) (os ++ [o]) t') := by
 cases f with
 | zero => omega
 | succ f => rfl
theorem nextB_62 {l : List UInt8} {t : Nat} (h : nextB l t 62 = true) : l[t]? = some 62 := by
 obtain ⟨h1, h2⟩ := nextB_t h
 rw [List.getElem?_eq_getElem h1, h2]
theorem nextB_not62 {l : List UInt8} {t : Nat} (h : nextB l t 62 = false) : l[t]? ≠ some 62 := fun e => by
 obtain ⟨h1, h2⟩ := List.getElem?_eq_some_iff.1 e
 exact nextB_f h h1 h2
theorem plex_pairs (p : Option Addr) (l : List UInt8) (c : Nat) (refs : Bool) (D : Int) (hO : ObjC p l c refs D) (hadv : ∀ t o t', t < l.length → objP refs l D.toNat t = .ok (o, t') → t < t' ∧ t' ≤ l.length) (r t : Nat) (w : World) (h : PRd w r p l c t refs) (hne : 0 < l.length → (pA p).block ≠ r) (hc : l.length ≤ c) (hl : l.length ≤ 100000000) (ht : t ≤ l.length) :
  Calls Tryz.prog 71 #[.pointer (some ⟨r, 0, none⟩), .int .i64 D] w (EndsV 35 (pairsO (pairsP (objP refs l D.toNat) l (l.length + 1) [] [] t)) (ObjS w r p l c refs) (fun w' => Touch w.heap.size r w w')) := by
 have hr := h.1
 have hb := h.2
 have hbl : 0 < l.length → (pA p).block < w.heap.size := fun h0 => hb.lt h0
 obtain ⟨R, hR⟩ : ∃ R, R = pairsP (objP refs l D.toNat) l (l.length + 1) [] [] t := ⟨_, rfl⟩
 rw [← hR]
 obtain ⟨t0, ht0⟩ : ∃ t0, t0 = t := ⟨t, rfl⟩
 subst ht0
 refine W.enter func71 rfl ntmps71 (Nat.le_of_ble_eq_true rfl) ?_
 have hB0 := Touch.refl (w.heap.size) r w
 refine W.seq ?_
 have hrw : r < w.heap.size := hr.lt
 refine W.reg <| WL.alloc zeroValue31 rfl (fun b1 wb1 eb1 hkb1 hub1 hsb1 => ?_)
 have hl3 : r < b1 := by rw [eb1]; exact hr.lt
 have hk2 := hr.upd hub1 (Nat.ne_of_lt hl3)
 have hvl5 := fun h0 => eb1 ▸ hb.lt h0
 have hv4 := bup hb hub1 hvl5
 have hgeb1 : w.heap.size ≤ b1 := by rw [eb1]; exact hB0.size
 have hB6 := Touch.trans hB0 (Touch.of_new hub1 hgeb1)
 refine WL.nil <| ?_
 refine W.sr <| WL.p (.buildL (ps := _) blt31 rfl rfl rfl pS) rfl ?_
 refine WL.alloc zeroValue31 rfl (fun b7 wb7 eb7 hkb7 hub7 hsb7 => ?_)
 have hl9 : r < b7 := by rw [eb7]; exact hk2.lt
 have hk8 := hk2.upd hub7 (Nat.ne_of_lt hl9)
 have hl11 : b1 < b7 := by rw [eb7]; exact hkb1.lt
 have hk10 := hkb1.upd hub7 (Nat.ne_of_lt hl11)
 have hvl13 := fun h0 => eb7 ▸ hv4.lt h0
 have hv12 := bup hv4 hub7 hvl13
 have hgeb7 : w.heap.size ≤ b7 := by rw [eb7]; exact hB6.size
 have hB14 := Touch.trans hB6 (Touch.of_new hub7 hgeb7)
 refine WL.stL rfl rfl hkb7 isz31 rfl rfl (fun w15 hkw15 huw15 hsw15 => ?_)
 have hk16 := hk8.up huw15
 have hk17 := hk10.up huw15
 have hv18 := bup hv12 huw15 hvl13
 have hB19 := Touch.trans hB14 (Touch.of_new huw15 oO)
 refine WL.nil <| ?_
 refine W.block ?_
 have hpB : 0 < l.length → (pA p).block < b7 + 1 := fun h0 => by have := hbl h0; omega
 have hrb : r < b7 := by omega
 refine W.loop (α := Value × Value × List (List UInt8) × List PC × List PV × Nat × Nat) (fun t => [(0, .pointer (some ⟨r, 0, none⟩)), (1, .int .i64 D), (4, .pointer (some ⟨b1, 0, none⟩)), (5, .pointer (some ⟨b7, 0, none⟩))]) (fun t w' => PRd w' r p l c t.2.2.2.2.2.1 refs ∧ Touch w.heap.size r w w' ∧ Blk w' b1 (pobj 0 0 []).toArray 31 ∧ Blk w' b7 #[.int .i64 7, .int .i64 0, .string ⟨#[]⟩, t.1, t.2.1, .slice none 0 0] 31 ∧ OwnM strL 9 (b7 + 1) w' t.1 t.2.2.1 ∧ OwnM pcL 31 (b7 + 1) w' t.2.1 t.2.2.2.1 ∧ (∀ g, t.1.ownBlock = some g → t.2.1.ownBlock ≠ some g) ∧ LInv w' (fun k => b7 < k ∧ t.1.ownBlock ≠ some k ∧ t.2.1.ownBlock ≠ some k) t.2.2.2.1 t.2.2.2.2.1 ∧ pairsP (objP refs l D.toNat) l t.2.2.2.2.2.2 t.2.2.1 t.2.2.2.2.1 t.2.2.2.2.2.1 = R ∧ l.length < t.2.2.2.2.2.2 + t.2.2.2.2.2.1 ∧ t.2.2.2.2.2.1 ≤ l.length ∧ t.2.2.2.2.1.length ≤ 65535 ∧ t.2.2.1.length = t.2.2.2.2.1.length) (fun t => t.2.2.2.2.2.2) ((.slice none 0 0, .slice none 0 0, [], [], [], t0, l.length + 1)) ⟨rfl, rfl, rfl, rfl, trivial⟩ (⟨⟨hk16, hv18⟩, hB19, hk17, hkw15, OwnM.nil _ _ _ _, OwnM.nil _ _ _ _, fun g h => (by cases h), LInv.nil _ _, hR.symm, by ((try simp only) <;> omega), ht, Nat.zero_le _, rfl⟩) (fun t w1 hR => ?_)
 obtain ⟨kv, v, ks, cs, acc, t, f⟩ := t
 obtain ⟨hrd, hT, hk1, hk2, hkeys, hown, hsep, hsub, hw, hft, htl, hal, hkl⟩ := hR
 simp only at hrd hk2 hkeys hown hsep hsub hw hft htl hal hkl ⊢
 have hst := pairsP_step (obj := objP refs l D.toNat) (l := l) (ks := ks) (os := acc) (t := t) (f := f) oO
 have hsge := skipAt_ge l t htl
 have hcl := hsub.len
 obtain ⟨pl, cl, rfl, -⟩ := hown.row
 obtain ⟨pk, ck, rfl, -⟩ := hkeys.row
 refine W.block <| W.seq <| W.sr <| WL.m rfl rfl <| WL.ce hb106 rfl rfl ((plex_skip r p l c t refs _ ⟨hrd.1, hrd.2⟩ hne hl htl)) (fun k22 w20 hrw20 hw20 => ?_) (fun a21 w20 hrw20 hw20 => ?_)
 have hBew20 := Touch.trans hT (Touch.mono hw20 hT.size)
 exact pn_is (EndsV.err k22 (by rw [← hw, hst, (skipE_err hrw20).1, (skipE_err hrw20).2]; rfl) hBew20)
 have ho23 := OwnM.touch' hkeys hw20.2 oO
 have ho24 := OwnM.touch' hown hw20.2 oO
 have hF25 := LInv.same (w1 := w20) hsub (fun k hk hl => hw20.2.block k hl (by first | omega | (have := hk.1; omega)))
 have hk26 := hw20.1.1
 have hk27 := Blk.touch hk1 hw20.2 hk1.lt oO
 have hk28 := Blk.touch hk2 hw20.2 hk2.lt oO
 have hv29 := hw20.1.2
 have hB30 := Touch.trans hT (Touch.mono hw20.2 hT.size)
 have hsk := skipE_ok hrw20
 rw [hsk] at hst
 obtain ⟨hsl, hsx⟩ := List.getElem?_eq_some_iff.1 hsk
 obtain ⟨x0, hx0⟩ : ∃ x0, x0 = a21 := ⟨_, rfl⟩
 rw [← hx0] at hst hsx hsk ⊢
 generalize skipAt false l t = s at *
 refine WL.z rfl rfl ?_
 refine W.block ?_
 refine W.cutBQ 11 (decide ((x0.toNat : Int) = 62 ∧ (l.length : Int) ≤ (s : Int) + 1)) ?_ (fun w31 dw31 => ?_)
 refine W.regQ mixed kR ?_
 refine WQ.p (.mv rfl) rfl <| WQ.p (.eql rfl rfl) rfl <| WQ.p (.mv rfl) rfl <| WQ.gd rfl rfl rfl (fun g32 => ?_) (fun g32 => ?_)
 have g32' := dT g32
 refine WQ.p (.mv rfl) rfl <| WQ.gy rfl rfl rfl g32 <| WQ.p (.nck rfl) rfl <| WQ.gy rfl rfl rfl g32 <| WQ.p (.fa underlying63 rfl sizeOf3 dD rfl) rfl <| WQ.gy rfl rfl rfl g32 <| WQ.r (fun m => Rd.ld (isAgg3 _) rfl hk26 rfl) rfl <| WQ.gy rfl rfl rfl g32 <| WQ.p (.iis ((s : Int) + 1) (.add rfl rfl (i64w oO)) oO) rfl <| WQ.gy rfl rfl rfl g32 <| WQ.p (.mv rfl) rfl <| WQ.gy rfl rfl rfl g32 <| WQ.p (.nck rfl) rfl <| WQ.gy rfl rfl rfl g32 <| WQ.p (.fa underlying63 rfl sizeOf22 dD rfl) rfl <| WQ.gy rfl rfl rfl g32 <| WQ.r (fun m => Rd.ld (isAgg22 _) rfl hk26 rfl) rfl <| WQ.gy rfl rfl rfl g32 <| WQ.p (.lenS underlying22 rfl) rfl <| WQ.gy rfl rfl rfl g32 <| WQ.p (.geq rfl rfl) rfl <| WQ.p (.pkT rfl g32 rfl) rfl <| WQ.p (.as rfl) rfl <| WQ.nil (fun w33 dw33 => ?_)
 exact ⟨leE (lk_b rfl (by (apply Bool.eq_iff_iff.2; (try simp) <;> omega))), dw33⟩
 have g32' := dF g32
 refine WQ.gn rfl rfl rfl g32 <| WQ.gn rfl rfl rfl g32 <| WQ.gn rfl rfl rfl g32 <| WQ.gn rfl rfl rfl g32 <| WQ.gn rfl rfl rfl g32 <| WQ.gn rfl rfl rfl g32 <| WQ.gn rfl rfl rfl g32 <| WQ.gn rfl rfl rfl g32 <| WQ.gn rfl rfl rfl g32 <| WQ.gn rfl rfl rfl g32 <| WQ.p (.pkF rfl g32 rfl) rfl <| WQ.p (.as rfl) rfl <| WQ.nil (fun w42 dw42 => ?_)
 exact ⟨leE (lk_b rfl (by (apply Bool.eq_iff_iff.2; (try simp) <;> omega))), dw42⟩
 have ho51 := OwnM.drew ho23 dw31
 have ho52 := OwnM.drew ho24 dw31
 have hF53 := LInv.same (w1 := w31) hF25 (fun k hk hl => (by obtain ⟨m, rfl⟩ := dw31; rfl))
 have hk54 := hk26.drew dw31
 have hk55 := hk27.drew dw31
 have hk56 := hk28.drew dw31
 have hv57 := hv29.drew dw31
 have hB58 := Touch.trans hB30 (Touch.of_drew dw31)
 refine W.cond rfl (fun h59 => ?_) (fun h59 => ?_)
 have h59' := dT h59
 refine W.reg <| WL.cp hb68 rfl ((plex_fail 24 _)) (fun w60 hw60 => ?_)
 obtain rfl := hw60
 exact pn_is (EndsV.err 24 (by rw [← hw, hst]; (try simp only []); rw [if_pos ⟨u8_eq (d := 62) (show (x0.toNat : Int) = 62 by omega), by omega⟩]; rfl) hB58)
 have h59' := dF h59
 have hn1 : ¬ (x0 = 62 ∧ l.length ≤ s + 1) := fun h => by (have h2 : (x0.toNat : Int) = 62 := by rw [h.1]; rfl); omega
 refine W.cutBQ 28 (decide ((x0.toNat : Int) = 62) && nextB l (s + 1) 62) ?_ (fun w61 dw61 => ?_)
 refine W.regQ mixed kR ?_
 refine WQ.p (.mv rfl) rfl <| WQ.p (.eql rfl rfl) rfl <| WQ.p (.mv rfl) rfl <| WQ.gd rfl rfl rfl (fun g62 => ?_) (fun g62 => ?_)
 have g62' := dT g62
 refine WQ.p (.mv rfl) rfl <| WQ.gy rfl rfl rfl g62 <| WQ.p (.nck rfl) rfl <| WQ.gy rfl rfl rfl g62 <| WQ.p (.fa underlying63 rfl sizeOf22 dD rfl) rfl <| WQ.gy rfl rfl rfl g62 <| WQ.r (fun m => Rd.ld (isAgg22 _) rfl hk54 rfl) rfl <| WQ.gy rfl rfl rfl g62 <| WQ.p (.mv rfl) rfl <| WQ.gy rfl rfl rfl g62 <| WQ.p (.nck rfl) rfl <| WQ.gy rfl rfl rfl g62 <| WQ.p (.fa underlying63 rfl sizeOf3 dD rfl) rfl <| WQ.gy rfl rfl rfl g62 <| WQ.r (fun m => Rd.ld (isAgg3 _) rfl hk54 rfl) rfl <| WQ.gy rfl rfl rfl g62 <| WQ.p (.iis (((s + 1 : Nat) : Int)) (.add rfl rfl (i64w oO)) oO) rfl <| WQ.gy rfl rfl rfl g62 <| WQ.p (.ixb underlying22 sizeOf5 rfl rfl (hv57.isp oO) (s + 1) oO oO) rfl <| WQ.gy rfl rfl rfl g62 <| WQ.r (fun m => Rd.ldc (isAgg5 _) rfl ((hv57.drewN m).cells (s + 1) oO)) rfl <| WQ.gy rfl rfl rfl g62 <| WQ.p (.eql rfl rfl) rfl <| WQ.p (.pkT rfl g62 rfl) rfl <| WQ.p (.as rfl) rfl <| WQ.nil (fun w63 dw63 => ?_)
 exact ⟨leE (lk_b rfl (by first | (rw [show decide ((x0.toNat : Int) = 62) = false from decide_eq_false aS]; rfl) | (rw [show decide ((x0.toNat : Int) = 62) = true from decide_eq_true aS, Bool.true_and]; unfold nextB; rw [show decide (s + 1 < l.length) = true from decide_eq_true oO, Bool.true_and, getElem!_pos l (s + 1) oO]; rfl))), dw63⟩
 have g62' := dF g62
 refine WQ.gn rfl rfl rfl g62 <| WQ.gn rfl rfl rfl g62 <| WQ.gn rfl rfl rfl g62 <| WQ.gn rfl rfl rfl g62 <| WQ.gn rfl rfl rfl g62 <| WQ.gn rfl rfl rfl g62 <| WQ.gn rfl rfl rfl g62 <| WQ.gn rfl rfl rfl g62 <| WQ.gn rfl rfl rfl g62 <| WQ.gn rfl rfl rfl g62 <| WQ.gn rfl rfl rfl g62 <| WQ.p (.pkF rfl g62 rfl) rfl <| WQ.p (.as rfl) rfl <| WQ.nil (fun w72 dw72 => ?_)
 exact ⟨leE (lk_b rfl (by first | (rw [show decide ((x0.toNat : Int) = 62) = false from decide_eq_false aS]; rfl) | (rw [show decide ((x0.toNat : Int) = 62) = true from decide_eq_true aS, Bool.true_and]; unfold nextB; rw [show decide (s + 1 < l.length) = true from decide_eq_true oO, Bool.true_and, getElem!_pos l (s + 1) oO]; rfl))), dw72⟩
 have ho81 := OwnM.drew ho51 dw61
 have ho82 := OwnM.drew ho52 dw61
 have hF83 := LInv.same (w1 := w61) hF53 (fun k hk hl => (by obtain ⟨m, rfl⟩ := dw61; rfl))
 have hk84 := hk54.drew dw61
 have hk85 := hk55.drew dw61
 have hk86 := hk56.drew dw61
 have hv87 := hv57.drew dw61
 have hB88 := Touch.trans hB58 (Touch.of_drew dw61)
 refine W.cond rfl (fun h89 => ?_) (fun h89 => ?_)
 have hx62 : (x0.toNat : Int) = 62 ∧ nextB l (s + 1) 62 = true := by simp_all
 have hs2 := (nextB_t hx62.2).1
 refine W.sr <| WL.m rfl rfl <| WL.p (.nck rfl) rfl <| WL.p (.fa underlying63 rfl sizeOf3 dD rfl) rfl <| WL.r (Rd.ld (isAgg3 _) rfl hk84 rfl) rfl <| WL.p (.iis (((s + 2 : Nat) : Int)) (.add rfl rfl (i64w oO)) oO) rfl <| WL.p (.nck rfl) rfl <| WL.p (.fa underlying63 rfl sizeOf3 dD rfl) rfl <| WL.st sizeOf3 rfl rfl rfl hk84 oD (fun w90 hkw90 huw90 hsw90 => ?_)
 have hkw90 : Blk w90 r _ _ := hkw90
 have huw90 : Upd r _ _ := huw90
 have ho91 := OwnM.touch ho81 huw90 oM
 have ho92 := OwnM.touch ho82 huw90 oM
 have hF93 := LInv.same (w1 := w90) hF83 (fun k hk hl => huw90.other k (by first | ((try simp only) <;> omega) | (have := hk.1; ((try simp only) <;> omega))))
 have hk94 := hk85.up huw90
 have hk95 := hk86.up huw90
 have hv96 := BytesAt.upd hv87 huw90 hne
 have hB97 := Touch.trans hB88 (Touch.of_upd huw90)
 refine WL.nil <| ?_
 refine W.sr <| WL.r (Rd.ldA rfl hk95 underlying31 rfl isz31) rfl <| WL.stL rfl rfl hk94 isz31 rfl rfl (fun w98 hkw98 huw98 hsw98 => ?_)
 have ho99 := OwnM.touch ho91 huw98 oM
 have ho100 := OwnM.touch ho92 huw98 oM
 have hF101 := LInv.same (w1 := w98) hF93 (fun k hk hl => huw98.other k (by first | ((try simp only) <;> omega) | (have := hk.1; ((try simp only) <;> omega))))
 have hk102 := hkw90.up huw98
 have hv104 := bup hv96 huw98 hvl5
 have hB105 := Touch.trans hB97 (Touch.of_new huw98 oO)
 refine WL.nil <| ?_
 refine W.ret (W.retc1 rfl rfl (ldRow hkw98 underlying31 rfl isz31)  ?_)
 exact EndsV.ok (.mk 7 0 [] ks acc, s + 2) _ (by rw [← hw, hst]; (try simp only []); rw [if_neg hn1, if_pos ⟨u8_eq (d := 62) hx62.1, nextB_62 hx62.2⟩]; rfl) rfl ⟨⟨7, 0, [], pk, ks.length, ck, pl, cs.length, cl⟩, rfl, PRep.ofRow ⟨(ho99).base (fun g hg => Nat.zero_le _), fun g hg => by have := (ho99).lt g hg; omega⟩ ⟨(ho100).base (fun g hg => Nat.zero_le _), fun g hg => by have := (ho100).lt g hg; omega⟩ ((hF101).mono (fun k hk _ => by have := hk.1; omega)), ⟨hk102, hv104⟩, hB105⟩
 have hn2 : ¬ (x0 = 62 ∧ l[s + 1]? = some 62) := fun h => by (have h2 : (x0.toNat : Int) = 62 := by rw [h.1]; rfl); (have h3 := nextB_not62 (l := l) (t := s + 1) (by simp_all)); exact h3 h.2
 refine W.sr <| WL.m rfl rfl <| WL.p (.neq rfl rfl) rfl <| WL.z rfl rfl ?_
 refine W.cond rfl (fun h106 => ?_) (fun h106 => ?_)
 have h106' := ndT h106
 refine W.reg <| WL.cp hb68 rfl ((plex_fail 23 _)) (fun w107 hw107 => ?_)
 obtain rfl := hw107
 exact pn_is (EndsV.err 23 (by rw [← hw, hst]; (try simp only []); rw [if_neg hn1, if_neg hn2, if_pos (u8_ne (d := 47) aS)]; rfl) hB88)
 have h106' := ndF h106
 have h47 : x0 = 47 := u8_eq (d := 47) aS
 refine W.skip <| W.sr <| WL.m rfl rfl <| WL.p (.nck rfl) rfl <| WL.p (.fa underlying63 rfl sizeOf3 dD rfl) rfl <| WL.r (Rd.ld (isAgg3 _) rfl hk84 rfl) rfl <| WL.p (.iis (((s + 1 : Nat) : Int)) (.add rfl rfl (i64w oO)) oO) rfl <| WL.p (.nck rfl) rfl <| WL.p (.fa underlying63 rfl sizeOf3 dD rfl) rfl <| WL.st sizeOf3 rfl rfl rfl hk84 oD (fun w108 hkw108 huw108 hsw108 => ?_)
 have hkw108 : Blk w108 r _ _ := hkw108
 have huw108 : Upd r _ _ := huw108
 have ho109 := OwnM.touch ho81 huw108 oM
 have ho110 := OwnM.touch ho82 huw108 oM
 have hF111 := LInv.same (w1 := w108) hF83 (fun k hk hl => huw108.other k (by first | ((try simp only) <;> omega) | (have := hk.1; ((try simp only) <;> omega))))
 have hk112 := hk85.up huw108
 have hk113 := hk86.up huw108
 have hv114 := BytesAt.upd hv87 huw108 hne
 have hB115 := Touch.trans hB88 (Touch.of_upd huw108)
 refine WL.nil <| ?_
 refine W.sr <| WL.m rfl rfl <| WL.ce hb67 rfl rfl ((plex_name r p l c (s + 1) refs _ ⟨hkw108, hv114⟩ hne hc hl oO)) (fun k118 w116 hrw116 hw116 => ?_) (fun a117 w116 hrw116 hw116 => ?_)
 have hBew116 := Touch.trans hB115 (Touch.mono hw116 hB115.size)
 exact pn_is (EndsV.err k118 (by rw [← hw, hst]; (try simp only []); rw [if_neg hn1, if_neg hn2, if_neg (by rw [h47]; simp), hrw116]; rfl) hBew116)
 have ho119 := OwnM.touch' ho109 hw116.2 oO
 have ho120 := OwnM.touch' ho110 hw116.2 oO
 have hF121 := LInv.same (w1 := w116) hF111 (fun k hk hl => hw116.2.block k hl (by first | omega | (have := hk.1; omega)))
 have hk122 := hw116.1.1
 have hk123 := Blk.touch hk112 hw116.2 hk112.lt oO
 have hk124 := Blk.touch hk113 hw116.2 hk113.lt oO
 have hv125 := hw116.1.2
 have hB126 := Touch.trans hB115 (Touch.mono hw116.2 hB115.size)
 have hnm := hrw116
 obtain ⟨kX, t1⟩ := a117
 have hle := nameP_le oO hnm
 simp only [] at *
 refine WL.z rfl rfl ?_
 refine W.seq <| W.sr <| WL.p (.fa underlying31 rfl sizeOf28 dD rfl) rfl <| WL.r (Rd.ld (isAgg28 _) rfl hk124 rfl) rfl <| WL.m rfl rfl <| WL.c1 hb109 rfl rfl ((lib_hasS pk ks ck kX _ ((ho119).rowp.strs) oO)) (fun w127 hw127 => ?_)
 obtain rfl := hw127
 refine WL.nil <| ?_
 refine W.cond rfl (fun h128 => ?_) (fun h128 => ?_)
 refine W.reg <| WL.cp hb68 rfl ((plex_fail 23 _)) (fun w129 hw129 => ?_)
 obtain rfl := hw129
 exact pn_is (EndsV.err 23 (by rw [← hw, hst]; (try simp only []); rw [if_neg hn1, if_neg hn2, if_neg (by rw [h47]; simp), hnm]; (try simp only []); rw [if_pos (dT aS)]; rfl) hB126)
 refine W.skip <| W.seq <| W.sr <| WL.p (.fa underlying31 rfl sizeOf29 dD rfl) rfl <| WL.r (Rd.ld (isAgg29 _) rfl hk124 rfl) rfl <| WL.p (.lenS underlying29 rfl) rfl <| WL.p (.geq rfl rfl) rfl <| WL.nil <| ?_
 refine W.cond rfl (fun h130 => ?_) (fun h130 => ?_)
 have h130' := dT h130
 refine W.reg <| WL.cp hb68 rfl ((plex_fail 25 _)) (fun w131 hw131 => ?_)
 obtain rfl := hw131
 exact pn_is (EndsV.err 25 (by rw [← hw, hst]; (try simp only []); rw [if_neg hn1, if_neg hn2, if_neg (by rw [h47]; simp), hnm]; (try simp only []); rw [if_neg (dF aS), if_pos oO]; rfl) hB126)
 have h130' := dF h130
 refine W.skip <| W.sr <| WL.p (.fa underlying31 rfl sizeOf28 dD rfl) rfl <| WL.r (Rd.ld (isAgg28 _) rfl hk124 rfl) rfl <| WL.m rfl rfl <| WL.bsl (ps := _) underlying28 sizeOf9 zeroValue9 rfl rfl rfl rfl rfl pR rfl (fun b132 wb132 eb132 hkb132 hub132 hsb132 => ?_)
 have ho133 := OwnM.new ho119 eb132 hub132
 have ho134 := OwnM.new ho120 eb132 hub132
 have hF135 := LInv.same (w1 := wb132) hF121 (fun k hk hl => hub132.other k oO)
 have hl137 : r < b132 := by rw [eb132]; exact hk122.lt
 have hk136 := hk122.upd hub132 (Nat.ne_of_lt hl137)
 have hl139 : b1 < b132 := by rw [eb132]; exact hk123.lt
 have hk138 := hk123.upd hub132 (Nat.ne_of_lt hl139)
 have hl141 : b7 < b132 := by rw [eb132]; exact hk124.lt
 have hk140 := hk124.upd hub132 (Nat.ne_of_lt hl141)
 have hvl143 := fun h0 => eb132 ▸ hv125.lt h0
 have hv142 := bup hv125 hub132 hvl143
 have hgeb132 : w.heap.size ≤ b132 := by rw [eb132]; exact hB126.size
 have hB144 := Touch.trans hB126 (Touch.of_new hub132 hgeb132)
 have hzz := RowM.lit (V := strL) (l := [kX]) hkb132 (rfl)
 have hlo := (ho134).lt
 refine WL.appM underlying28 inf9 rfl rfl rfl ho133 rfl hzz (by simp only [List.length_cons, List.length_nil]; omega) ((hk140).lt) rfl (fun h => nomatch h) (fun v145 w146 how146 hbw146 hgw146 hfw146 => ?_)
 have hk147 := hk136.below hbw146 oO
 have hk148 := hk138.below hbw146 oO
 have hk149 := hk140.below hbw146 oO
 have hF150 := LInv.grow (T := fun k => b7 < k ∧ (v145).ownBlock ≠ some k ∧ (Value.slice pl cs.length cl).ownBlock ≠ some k) hF135 (fun k hk hl => hgw146.block k hl (fun e => hk.2.1 e.symm)) (fun k hk hl => ⟨hk.1, fun e => by rcases hfw146 k e with h | h; exact hk.2.1 h; omega, hk.2.2⟩)
 have ho151 := OwnM.same ho134 (fun g hg => hgw146.block g ((ho134).lt g hg).2 (fun hx => hsep g hx.symm hg))
 have hv152 := BytesAt.below hv142 hbw146 hpB
 have hB153 := Touch.trans hB144 (Touch.of_below (hbw146.mono oO))
 have hsep2 : ∀ g, (v145).ownBlock = some g → (Value.slice pl cs.length cl).ownBlock ≠ some g := fun g hg => by rcases hfw146 g hg with h | h; exact hsep g h; exact fun h2 => by have := hlo g h2; omega
 obtain ⟨kv2, rfl⟩ : ∃ kv2, kv2 = v145 := ⟨v145, rfl⟩
 refine WL.p (.fa underlying31 rfl sizeOf28 dD rfl) rfl <| WL.st sizeOf28 rfl rfl (how146).one hk149 oD (fun w154 hkw154 huw154 hsw154 => ?_)
 have hkw154 : Blk w154 b7 _ _ := hkw154
 have huw154 : Upd b7 _ _ := huw154
 have ho155 := OwnM.touch how146 huw154 oM
 have ho156 := OwnM.touch ho151 huw154 oM
 have hF157 := LInv.same (w1 := w154) hF150 (fun k hk hl => huw154.other k (by first | ((try simp only) <;> omega) | (have := hk.1; ((try simp only) <;> omega))))
 have hk158 := hk147.up huw154
 have hk159 := hk148.up huw154
 have hv160 := bup hv152 huw154 hvl13
 have hB161 := Touch.trans hB153 (Touch.of_new huw154 oO)
 refine WL.nil <| ?_
 refine W.sr <| WL.m rfl rfl <| WL.ce hb106 rfl rfl ((plex_skip r p l c t1 refs _ ⟨hk158, hv160⟩ hne hl hle.2)) (fun k164 w162 hrw162 hw162 => ?_) (fun a163 w162 hrw162 hw162 => ?_)
 have hBew162 := Touch.trans hB161 (Touch.mono hw162 hB161.size)
 exact pn_is (EndsV.err k164 (by rw [← hw, hst]; (try simp only []); rw [if_neg hn1, if_neg hn2, if_neg (by rw [h47]; simp), hnm]; (try simp only []); rw [if_neg (dF aS), if_neg oO, (skipE_err hrw162).1, (skipE_err hrw162).2]; rfl) hBew162)
 have ho165 := OwnM.touch' ho155 hw162.2 oO
 have ho166 := OwnM.touch' ho156 hw162.2 oO
 have hF167 := LInv.same (w1 := w162) hF157 (fun k hk hl => hw162.2.block k hl (by first | omega | (have := hk.1; omega)))
 have hk168 := hw162.1.1
 have hk169 := Blk.touch hk159 hw162.2 hk159.lt oO
 have hk170 := Blk.touch hkw154 hw162.2 hkw154.lt oO
 have hv171 := hw162.1.2
 have hB172 := Touch.trans hB161 (Touch.mono hw162.2 hB161.size)
 have hsk2 := skipE_ok hrw162
 obtain ⟨hsl2, -⟩ := List.getElem?_eq_some_iff.1 hsk2
 have hsge2 := skipAt_ge l t1 hle.2
 refine WL.nil <| ?_
 refine W.regY 9 rfl mixed (fun w173 dw173 => ?_)
 have ho174 := OwnM.drew ho165 dw173
 have ho175 := OwnM.drew ho166 dw173
 have hF176 := LInv.same (w1 := w173) hF167 (fun k hk hl => (by obtain ⟨m, rfl⟩ := dw173; rfl))
 have hk177 := hk168.drew dw173
 have hk178 := hk169.drew dw173
 have hk179 := hk170.drew dw173
 have hv180 := hv171.drew dw173
 have hB181 := Touch.trans hB172 (Touch.of_drew dw173)
 refine WY.tk 0 rfl (.fa underlying31 rfl sizeOf29 dD rfl) rfl ?_
 refine WY.tk 2 rfl (.mv rfl) rfl ?_
 refine WY.tk 3 rfl (.mv rfl) rfl ?_
 refine WY.br2 1 rfl 4 rfl ?_ ?_
 refine WL.r (Rd.ld (isAgg29 _) rfl hk179 rfl) rfl <| WL.nil <| ?_
 refine WY.br1 4 rfl ?_
 refine WL.cx hb43 rfl rfl ((hO r _ _ ⟨hk177, hv180⟩ hne hsl2)) (fun k184 w182 hrw182 hw182 => ?_) (fun a183 x185 w182 hrw182 hw182 => ?_)
 have hBew182 := Touch.trans hB181 (Touch.mono hw182 hB181.size)
 exact pn_is (EndsV.err k184 (by rw [← hw, hst]; (try simp only []); rw [if_neg hn1, if_neg hn2, if_neg (by rw [h47]; simp), hnm]; (try simp only []); rw [if_neg (dF aS), if_neg oO, hsk2]; (try simp only []); rw [hrw182]; rfl) hBew182)
 have hrr := hrw182
 obtain ⟨oX, tX⟩ := a183
 obtain ⟨x1, rfl, hpx, hrd1, hT1⟩ := hw182
 have had := hadv _ oX tX hsl2 hrr
 have ho1 := OwnM.touch' ho175 hT1 oO
 have hq1 := OwnM.touch' ho174 hT1 oO
 have hsub1 := LInv.same (w1 := w182) hF176 (fun k hk hl => hT1.block k hl (by have := hk.1; omega))
 have hk11 := Blk.touch hk178 hT1 (hk178).lt oO
 have hk21 := Blk.touch hk179 hT1 (hk179).lt oO
 have hB1 := Touch.trans hB181 (Touch.mono hT1 hB181.size)
 have hpx1 := hpx.mono (T := fun k => b7 < k ∧ kv2.ownBlock ≠ some k ∧ (Value.slice pl cs.length cl).ownBlock ≠ some k) (fun k hk _ => ⟨by have := (hk179).lt; omega, fun e => by have := ((ho174).lt k e).2; omega, fun e => by have := ((ho175).lt k e).2; omega⟩)
 have hsub2 := hsub1.push hpx1
 have hr1 := hrd1.1
 have hv1 := hrd1.2
 refine WL.nil <| ?_
 refine WY.br1 5 rfl ?_
 refine WL.bslM (L := pcL) (ps := _) ([x1]) underlying29 sizeOf31 zeroValue31 rfl rfl rfl rfl rfl (by first | rfl | decide) rfl rfl (fun b186 wb186 eb186 hob186 hub186 hsb186 => ?_)
 have ho187 := OwnM.new hq1 eb186 hub186
 have ho188 := OwnM.new ho1 eb186 hub186
 have hF189 := LInv.same (w1 := wb186) hsub2 (fun k hk hl => hub186.other k oO)
 have hl191 : r < b186 := by rw [eb186]; exact hr1.lt
 have hk190 := hr1.upd hub186 (Nat.ne_of_lt hl191)
 have hl193 : b1 < b186 := by rw [eb186]; exact hk11.lt
 have hk192 := hk11.upd hub186 (Nat.ne_of_lt hl193)
 have hl195 : b7 < b186 := by rw [eb186]; exact hk21.lt
 have hk194 := hk21.upd hub186 (Nat.ne_of_lt hl195)
 have hvl197 := fun h0 => eb186 ▸ hv1.lt h0
 have hv196 := bup hv1 hub186 hvl197
 have hgeb186 : w.heap.size ≤ b186 := by rw [eb186]; exact hB1.size
 have hB198 := Touch.trans hB1 (Touch.of_new hub186 hgeb186)
 have hleb186 : b186 ≤ wb186.heap.size := by omega
 refine WL.nil <| ?_
 refine WY.br1 6 rfl ?_
 have hlk := (ho187).lt
 refine WL.appM underlying29 inf31 rfl rfl rfl ho188 rfl (hob186).rowp (by simp only [List.length_cons, List.length_nil]; omega) ((hk194).lt) rfl (fun h => nomatch h) (fun v199 w200 how200 hbw200 hgw200 hfw200 => ?_)
 have hk201 := hk190.below hbw200 oO
 have hk202 := hk192.below hbw200 oO
 have hk203 := hk194.below hbw200 oO
 have hF204 := LInv.grow (T := fun k => b7 < k ∧ kv2.ownBlock ≠ some k ∧ (v199).ownBlock ≠ some k) hF189 (fun k hk hl => hgw200.block k hl (fun e => hk.2.2 e.symm)) (fun k hk hl => ⟨hk.1, hk.2.1, fun e => by rcases hfw200 k e with h | h; exact hk.2.2 h; omega⟩)
 have ho205 := OwnM.same ho187 (fun g hg => hgw200.block g ((ho187).lt g hg).2 (fun hx => hsep2 g hg hx.symm))
 have hv206 := BytesAt.below hv196 hbw200 hpB
 have hB207 := Touch.trans hB198 (Touch.of_below (hbw200.mono oO))
 have hsep3 : ∀ g, kv2.ownBlock = some g → (v199).ownBlock ≠ some g := fun g hg h2 => by rcases hfw200 g h2 with h | h; exact hsep2 g hg h; have := hlk g hg; omega
 refine WL.nil <| ?_
 refine WY.tk 7 rfl (.fa underlying31 rfl sizeOf29 dD rfl) rfl ?_
 refine WY.br1 8 rfl ?_
 refine WL.st sizeOf29 rfl rfl (how200).one hk203 oD (fun w208 hkw208 huw208 hsw208 => ?_)
 have hkw208 : Blk w208 b7 _ _ := hkw208
 have huw208 : Upd b7 _ _ := huw208
 have ho209 := OwnM.touch ho205 huw208 oM
 have ho210 := OwnM.touch how200 huw208 oM
 have hF211 := LInv.same (w1 := w208) hF204 (fun k hk hl => huw208.other k (by first | ((try simp only) <;> omega) | (have := hk.1; ((try simp only) <;> omega))))
 have hk212 := hk201.up huw208
 have hk213 := hk202.up huw208
 have hv214 := bup hv206 huw208 hvl13
 have hB215 := Touch.trans hB207 (Touch.of_new huw208 oO)
 refine WL.nil <| ?_
 refine WY.done kR ?_
 exact ⟨(_, _, ks ++ [kX], cs ++ [x1], acc ++ [oX], tX, f - 1), ⟨rfl, rfl, rfl, rfl, trivial⟩, ⟨⟨hk212, hv214⟩, hB215, hk213, hkw208, ho209, ho210, hsep3, hF211, by rw [← hw, hst]; (try simp only []); rw [if_neg hn1, if_neg hn2, if_neg (by rw [h47]; simp), hnm]; (try simp only []); rw [if_neg (dF aS), if_neg oO, hsk2]; (try simp only []); rw [hrr], by ((try simp only) <;> omega), had.2, by simp only [List.length_append, List.length_cons, List.length_nil]; omega, by simp only [List.length_append, List.length_cons, List.length_nil]; omega⟩, by ((try simp only) <;> omega)⟩
 refine WL.cx hb43 rfl rfl ((hO r _ _ ⟨hk177, hv180⟩ hne hsl2)) (fun k218 w216 hrw216 hw216 => ?_) (fun a217 x219 w216 hrw216 hw216 => ?_)
 have hBew216 := Touch.trans hB181 (Touch.mono hw216 hB181.size)
 exact pn_is (EndsV.err k218 (by rw [← hw, hst]; (try simp only []); rw [if_neg hn1, if_neg hn2, if_neg (by rw [h47]; simp), hnm]; (try simp only []); rw [if_neg (dF aS), if_neg oO, hsk2]; (try simp only []); rw [hrw216]; rfl) hBew216)
 have hrr := hrw216
 obtain ⟨oX, tX⟩ := a217
 obtain ⟨x1, rfl, hpx, hrd1, hT1⟩ := hw216
 have had := hadv _ oX tX hsl2 hrr
 have ho1 := OwnM.touch' ho175 hT1 oO
 have hq1 := OwnM.touch' ho174 hT1 oO
 have hsub1 := LInv.same (w1 := w216) hF176 (fun k hk hl => hT1.block k hl (by have := hk.1; omega))
 have hk11 := Blk.touch hk178 hT1 (hk178).lt oO
 have hk21 := Blk.touch hk179 hT1 (hk179).lt oO
 have hB1 := Touch.trans hB181 (Touch.mono hT1 hB181.size)
 have hpx1 := hpx.mono (T := fun k => b7 < k ∧ kv2.ownBlock ≠ some k ∧ (Value.slice pl cs.length cl).ownBlock ≠ some k) (fun k hk _ => ⟨by have := (hk179).lt; omega, fun e => by have := ((ho174).lt k e).2; omega, fun e => by have := ((ho175).lt k e).2; omega⟩)
 have hsub2 := hsub1.push hpx1
 have hr1 := hrd1.1
 have hv1 := hrd1.2
 refine WL.nil <| ?_
 refine WY.br2 1 rfl 5 rfl ?_ ?_
 refine WL.r (Rd.ld (isAgg29 _) rfl hk21 rfl) rfl <| WL.nil <| ?_
 refine WY.br1 5 rfl ?_
 refine WL.bslM (L := pcL) (ps := _) ([x1]) underlying29 sizeOf31 zeroValue31 rfl rfl rfl rfl rfl (by first | rfl | decide) rfl rfl (fun b220 wb220 eb220 hob220 hub220 hsb220 => ?_)
 have ho221 := OwnM.new hq1 eb220 hub220
 have ho222 := OwnM.new ho1 eb220 hub220
 have hF223 := LInv.same (w1 := wb220) hsub2 (fun k hk hl => hub220.other k oO)
 have hl225 : r < b220 := by rw [eb220]; exact hr1.lt
 have hk224 := hr1.upd hub220 (Nat.ne_of_lt hl225)
 have hl227 : b1 < b220 := by rw [eb220]; exact hk11.lt
 have hk226 := hk11.upd hub220 (Nat.ne_of_lt hl227)
 have hl229 : b7 < b220 := by rw [eb220]; exact hk21.lt
 have hk228 := hk21.upd hub220 (Nat.ne_of_lt hl229)
 have hvl231 := fun h0 => eb220 ▸ hv1.lt h0
 have hv230 := bup hv1 hub220 hvl231
 have hgeb220 : w.heap.size ≤ b220 := by rw [eb220]; exact hB1.size
 have hB232 := Touch.trans hB1 (Touch.of_new hub220 hgeb220)
 have hleb220 : b220 ≤ wb220.heap.size := by omega
 refine WL.nil <| ?_
 refine WY.br1 6 rfl ?_
 have hlk := (ho221).lt
 refine WL.appM underlying29 inf31 rfl rfl rfl ho222 rfl (hob220).rowp (by simp only [List.length_cons, List.length_nil]; omega) ((hk228).lt) rfl (fun h => nomatch h) (fun v233 w234 how234 hbw234 hgw234 hfw234 => ?_)
 have hk235 := hk224.below hbw234 oO
 have hk236 := hk226.below hbw234 oO
 have hk237 := hk228.below hbw234 oO
 have hF238 := LInv.grow (T := fun k => b7 < k ∧ kv2.ownBlock ≠ some k ∧ (v233).ownBlock ≠ some k) hF223 (fun k hk hl => hgw234.block k hl (fun e => hk.2.2 e.symm)) (fun k hk hl => ⟨hk.1, hk.2.1, fun e => by rcases hfw234 k e with h | h; exact hk.2.2 h; omega⟩)
 have ho239 := OwnM.same ho221 (fun g hg => hgw234.block g ((ho221).lt g hg).2 (fun hx => hsep2 g hg hx.symm))
 have hv240 := BytesAt.below hv230 hbw234 hpB
 have hB241 := Touch.trans hB232 (Touch.of_below (hbw234.mono oO))
 have hsep3 : ∀ g, kv2.ownBlock = some g → (v233).ownBlock ≠ some g := fun g hg h2 => by rcases hfw234 g h2 with h | h; exact hsep2 g hg h; have := hlk g hg; omega
 refine WL.nil <| ?_
 refine WY.tk 7 rfl (.fa underlying31 rfl sizeOf29 dD rfl) rfl ?_
 refine WY.br1 8 rfl ?_
 refine WL.st sizeOf29 rfl rfl (how234).one hk237 oD (fun w242 hkw242 huw242 hsw242 => ?_)
 have hkw242 : Blk w242 b7 _ _ := hkw242
 have huw242 : Upd b7 _ _ := huw242
 have ho243 := OwnM.touch ho239 huw242 oM
 have ho244 := OwnM.touch how234 huw242 oM
 have hF245 := LInv.same (w1 := w242) hF238 (fun k hk hl => huw242.other k (by first | ((try simp only) <;> omega) | (have := hk.1; ((try simp only) <;> omega))))
 have hk246 := hk235.up huw242
 have hk247 := hk236.up huw242
 have hv248 := bup hv240 huw242 hvl13
 have hB249 := Touch.trans hB241 (Touch.of_new huw242 oO)
 refine WL.nil <| ?_
 refine WY.done kR ?_
 exact ⟨(_, _, ks ++ [kX], cs ++ [x1], acc ++ [oX], tX, f - 1), ⟨rfl, rfl, rfl, rfl, trivial⟩, ⟨⟨hk246, hv248⟩, hB249, hk247, hkw242, ho243, ho244, hsep3, hF245, by rw [← hw, hst]; (try simp only []); rw [if_neg hn1, if_neg hn2, if_neg (by rw [h47]; simp), hnm]; (try simp only []); rw [if_neg (dF aS), if_neg oO, hsk2]; (try simp only []); rw [hrr], by ((try simp only) <;> omega), had.2, by simp only [List.length_append, List.length_cons, List.length_nil]; omega, by simp only [List.length_append, List.length_cons, List.length_nil]; omega⟩, by ((try simp only) <;> omega)⟩
 refine WL.bslM (L := pcL) (ps := _) ([x1]) underlying29 sizeOf31 zeroValue31 rfl rfl rfl rfl rfl (by first | rfl | decide) rfl rfl (fun b250 wb250 eb250 hob250 hub250 hsb250 => ?_)
 have ho251 := OwnM.new hq1 eb250 hub250
 have ho252 := OwnM.new ho1 eb250 hub250
 have hF253 := LInv.same (w1 := wb250) hsub2 (fun k hk hl => hub250.other k oO)
 have hl255 : r < b250 := by rw [eb250]; exact hr1.lt
 have hk254 := hr1.upd hub250 (Nat.ne_of_lt hl255)
 have hl257 : b1 < b250 := by rw [eb250]; exact hk11.lt
 have hk256 := hk11.upd hub250 (Nat.ne_of_lt hl257)
 have hl259 : b7 < b250 := by rw [eb250]; exact hk21.lt
 have hk258 := hk21.upd hub250 (Nat.ne_of_lt hl259)
 have hvl261 := fun h0 => eb250 ▸ hv1.lt h0
 have hv260 := bup hv1 hub250 hvl261
 have hgeb250 : w.heap.size ≤ b250 := by rw [eb250]; exact hB1.size
 have hB262 := Touch.trans hB1 (Touch.of_new hub250 hgeb250)
 have hleb250 : b250 ≤ wb250.heap.size := by omega
 refine WL.nil <| ?_
 refine WY.br1 1 rfl ?_
 refine WL.r (Rd.ld (isAgg29 _) rfl hk258 rfl) rfl <| WL.nil <| ?_
 refine WY.br1 6 rfl ?_
 have hlk := (ho251).lt
 refine WL.appM underlying29 inf31 rfl rfl rfl ho252 rfl (hob250).rowp (by simp only [List.length_cons, List.length_nil]; omega) ((hk258).lt) rfl (fun h => nomatch h) (fun v263 w264 how264 hbw264 hgw264 hfw264 => ?_)
 have hk265 := hk254.below hbw264 oO
 have hk266 := hk256.below hbw264 oO
 have hk267 := hk258.below hbw264 oO
 have hF268 := LInv.grow (T := fun k => b7 < k ∧ kv2.ownBlock ≠ some k ∧ (v263).ownBlock ≠ some k) hF253 (fun k hk hl => hgw264.block k hl (fun e => hk.2.2 e.symm)) (fun k hk hl => ⟨hk.1, hk.2.1, fun e => by rcases hfw264 k e with h | h; exact hk.2.2 h; omega⟩)
 have ho269 := OwnM.same ho251 (fun g hg => hgw264.block g ((ho251).lt g hg).2 (fun hx => hsep2 g hg hx.symm))
 have hv270 := BytesAt.below hv260 hbw264 hpB
 have hB271 := Touch.trans hB262 (Touch.of_below (hbw264.mono oO))
 have hsep3 : ∀ g, kv2.ownBlock = some g → (v263).ownBlock ≠ some g := fun g hg h2 => by rcases hfw264 g h2 with h | h; exact hsep2 g hg h; have := hlk g hg; omega
 refine WL.nil <| ?_
 refine WY.tk 7 rfl (.fa underlying31 rfl sizeOf29 dD rfl) rfl ?_
 refine WY.br1 8 rfl ?_
 refine WL.st sizeOf29 rfl rfl (how264).one hk267 oD (fun w272 hkw272 huw272 hsw272 => ?_)
 have hkw272 : Blk w272 b7 _ _ := hkw272
 have huw272 : Upd b7 _ _ := huw272
 have ho273 := OwnM.touch ho269 huw272 oM
 have ho274 := OwnM.touch how264 huw272 oM
 have hF275 := LInv.same (w1 := w272) hF268 (fun k hk hl => huw272.other k (by first | ((try simp only) <;> omega) | (have := hk.1; ((try simp only) <;> omega))))
 have hk276 := hk265.up huw272
 have hk277 := hk266.up huw272
 have hv278 := bup hv270 huw272 hvl13
 have hB279 := Touch.trans hB271 (Touch.of_new huw272 oO)
 refine WL.nil <| ?_
 refine WY.done kR ?_
 exact ⟨(_, _, ks ++ [kX], cs ++ [x1], acc ++ [oX], tX, f - 1), ⟨rfl, rfl, rfl, rfl, trivial⟩, ⟨⟨hk276, hv278⟩, hB279, hk277, hkw272, ho273, ho274, hsep3, hF275, by rw [← hw, hst]; (try simp only []); rw [if_neg hn1, if_neg hn2, if_neg (by rw [h47]; simp), hnm]; (try simp only []); rw [if_neg (dF aS), if_neg oO, hsk2]; (try simp only []); rw [hrr], by ((try simp only) <;> omega), had.2, by simp only [List.length_append, List.length_cons, List.length_nil]; omega, by simp only [List.length_append, List.length_cons, List.length_nil]; omega⟩, by ((try simp only) <;> omega)⟩
end
section
theorem listP_adv {obj : Nat → ObjE} {l : List UInt8} (hobj : ∀ t o t', t < l.length → obj t = .ok (o, t') → t < t' ∧ t' ≤ l.length) : ∀ (f : Nat) (acc : List PV) (t : Nat) (os : List PV) (t' : Nat), t ≤ l.length → listP obj l f acc t = .ok (os, t') → t < t' ∧ t' ≤ l.length
 | 0, _, _, _, _, _, h => by cases h
 | f + 1, acc, t, os, t', ht, h => by
  have hs := skipAt_ge l t ht
  simp only [listP] at h
  cases hg : l[skipAt false l t]? with
  | none => rw [hg] at h; cases h
  | some c =>
   obtain ⟨hlt, -⟩ := List.getElem?_eq_some_iff.1 hg
   rw [hg] at h
   simp only at h
   split at h
   ·
    cases h; omega
   ·
    split at h
    ·
     cases h
    ·
     cases ho : obj (skipAt false l t) with
     | error k => rw [ho] at h; cases h
     | ok a =>
      obtain ⟨o, t1⟩ := a
      rw [ho] at h
      have h1 := hobj _ _ _ hlt ho
      have h2 := listP_adv hobj f _ _ _ _ h1.2 h
      omega
theorem pairsP_adv {obj : Nat → ObjE} {l : List UInt8} (hobj : ∀ t o t', t < l.length → obj t = .ok (o, t') → t < t' ∧ t' ≤ l.length) : ∀ (f : Nat) (ks : List (List UInt8)) (acc : List PV) (t : Nat) (ks' : List (List UInt8)) (os : List PV) (t' : Nat), t ≤ l.length → pairsP obj l f ks acc t = .ok (ks', os, t') → t < t' ∧ t' ≤ l.length
 | 0, _, _, _, _, _, _, _, h => by cases h
 | f + 1, ks, acc, t, ks', os, t', ht, h => by
  have hs := skipAt_ge l t ht
  simp only [pairsP] at h
  cases hg : l[skipAt false l t]? with
  | none => rw [hg] at h; cases h
  | some c =>
   obtain ⟨hlt, -⟩ := List.getElem?_eq_some_iff.1 hg
   rw [hg] at h
   simp only at h
   split at h
   ·
    cases h
   ·
    split at h
    ·
     next hq =>
     obtain ⟨h2, -⟩ := List.getElem?_eq_some_iff.1 hq.2
     cases h; omega
    ·
     split at h
     ·
      cases h
     ·
      cases hn : nameP l (skipAt false l t + 1) with
      | error k => rw [hn] at h; cases h
      | ok a =>
       obtain ⟨k, t1⟩ := a
       rw [hn] at h
       have hle := nameP_le oO hn
       simp only at h
       split at h
       ·
        cases h
       ·
        split at h
        ·
         cases h
        ·
         have hs1 := skipAt_ge l t1 hle.2
         cases hg1 : l[skipAt false l t1]? with
         | none => rw [hg1] at h; cases h
         | some c1 =>
          obtain ⟨hlt1, -⟩ := List.getElem?_eq_some_iff.1 hg1
          rw [hg1] at h
          simp only at h
          cases ho : obj (skipAt false l t1) with
          | error k => rw [ho] at h; cases h
          | ok a =>
           obtain ⟨o, t2⟩ := a
           rw [ho] at h
           have h1 := hobj _ _ _ hlt1 ho
           have h2 := pairsP_adv hobj f _ _ _ _ _ _ h1.2 h
           omega
theorem textR_adv {l : List UInt8} {t : Nat} {s : List UInt8} {t' : Nat} (ht : t ≤ l.length) (h : textR l t = .ok (s, t')) : t < t' ∧ t' ≤ l.length := by
 have hst := nextR_step l t ht
 unfold textR at h
 split at h
 ·
  cases h
 ·
  split at h
  ·
   cases h
  ·
   split at h
   ·
    cases h
   ·
    cases h; omega
theorem word_pos {l : List UInt8} {t : Nat} (ht : t ≤ l.length) (h : wordL l t ≠ []) : t < wordAt l t ∧ wordAt l t ≤ l.length := by
 have h1 := wordAt_le l t ht
 refine ⟨?_, h1.2⟩
 rcases Nat.lt_or_ge t (wordAt l t) with h2 | h2
 ·
  exact h2
 ·
  exact absurd (by unfold wordL; rw [show wordAt l t - t = 0 by omega, List.take_zero]) h
theorem numR_nil : (numR []).2.2 = false := by kernel_rfl
theorem refR_nil (refs : Bool) (l : List UInt8) (t : Nat) : (refR refs l [] t).isSome = false := by
 unfold refR
 have : (wholeV [] 4096).2 = false := by rfl
 rw [this]; simp
theorem refT_adv {refs : Bool} {l s : List UInt8} {t : Nat} (ht : t ≤ l.length) : t ≤ refT (refR refs l s t) t ∧ refT (refR refs l s t) t ≤ l.length := by
 have h1 := skipAt_ge l t ht
 have h2 := skipAt_le false l t
 have h3 := wordAt_le l _ h2
 have h4 := skipAt_ge l _ h3.2
 have h5 := skipAt_le false l (wordAt l (skipAt false l t))
 have h6 := wordAt_le l _ h5
 unfold refR
 split
 ·
  split
  ·
   split
   ·
    show t ≤ wordAt l _ ∧ wordAt l _ ≤ l.length
    omega
   ·
    exact ⟨Nat.le_refl _, ht⟩
  ·
   exact ⟨Nat.le_refl _, ht⟩
 ·
  exact ⟨Nat.le_refl _, ht⟩
theorem plexW_adv {refs : Bool} {l : List UInt8} {t : Nat} (ht : t < l.length) (h : (plexW refs l t).ok = true) : t < (plexW refs l t).np ∧ (plexW refs l t).np ≤ l.length := by
  by_cases hw : wordL l t = []
  · exfalso
    unfold plexW at h
    rw [hw, refR_nil, numR_nil] at h
    simp at h
  · have h1 := word_pos oO hw
    have h2 := refT_adv (refs := refs) (s := wordL l t) h1.2
    unfold plexW
    split
    · exact h1
    · split
      · exact h1
      · split
        · exact h1
        · split
          · exact ⟨by show t < refT _ _; omega, h2.2⟩
          · split
            · exact h1
            · exact h1
theorem objP_adv (refs : Bool) (l : List UInt8) : ∀ (d t : Nat) (o : PV) (t' : Nat), t < l.length → objP refs l d t = .ok (o, t') → t < t' ∧ t' ≤ l.length := by
 have hname : ∀ t (o : PV) t', t < l.length → nameO l (t + 1) = .ok (o, t') → t < t' ∧ t' ≤ l.length := fun t o t' ht h => by
  unfold nameO at h
  cases hn : nameP l (t + 1) with
  | error k => rw [hn] at h; cases h
  | ok a =>
   obtain ⟨k, t1⟩ := a
   rw [hn] at h
   have hle := nameP_le oO hn
   cases h; omega
 have htext : ∀ t (o : PV) t', t < l.length → textP l t = .ok (o, t') → t < t' ∧ t' ≤ l.length := fun t o t' ht h => by
  unfold textP at h
  cases hn : textR l t with
  | error k => rw [hn] at h; cases h
  | ok a =>
   obtain ⟨k, t1⟩ := a
   rw [hn] at h
   have hle := textR_adv oO hn
   cases h; exact hle
 have hplain : ∀ t (o : PV) t', t < l.length → plainO (plexW refs l t) = .ok (o, t') → t < t' ∧ t' ≤ l.length := fun t o t' ht h => by
  unfold plainO at h
  split at h
  ·
   next hok => have := plexW_adv ht hok; cases h; exact this
  ·
   cases h
 intro d
 induction d with
 | zero =>
  intro t o t' ht h
  simp only [objP] at h
  rw [List.getElem?_eq_getElem ht] at h
  simp only at h
  split at h
  ·
   exact hname t o t' ht h
  ·
   split at h
   ·
    cases h
   ·
    split at h
    ·
     exact htext t o t' ht h
    ·
     split at h
     ·
      split at h
      ·
       cases h
      ·
       split at h
       ·
        exact htext t o t' ht h
       ·
        cases h
     ·
      exact hplain t o t' ht h
 | succ d ih =>
  intro t o t' ht h
  simp only [objP] at h
  rw [List.getElem?_eq_getElem ht] at h
  simp only at h
  split at h
  ·
   exact hname t o t' ht h
  ·
   split at h
   ·
    unfold listO at h
    cases hn : listP (objP refs l d) l (l.length + 1) [] (t + 1) with
    | error k => rw [hn] at h; cases h
    | ok a =>
     obtain ⟨os, t1⟩ := a
     rw [hn] at h
     have := listP_adv ih _ _ _ _ _ oO hn
     cases h; omega
   ·
    split at h
    ·
     exact htext t o t' ht h
    ·
     split at h
     ·
      split at h
      ·
       cases h
      ·
       split at h
       ·
        exact htext t o t' ht h
       ·
        unfold pairsO at h
        cases hn : pairsP (objP refs l d) l (l.length + 1) [] [] (t + 2) with
        | error k => rw [hn] at h; cases h
        | ok a =>
         obtain ⟨ks, os, t1⟩ := a
         rw [hn] at h
         have := pairsP_adv ih _ _ _ _ _ _ _ oO hn
         cases h; omega
     ·
      exact hplain t o t' ht h
theorem objP_at (refs : Bool) (l : List UInt8) (d : Int) (t : Nat) (x : UInt8) (h : l[t]? = some x) : objP refs l d.toNat t =
    if x = 47 then nameO l (t + 1)
    else if x = 91 then (if d < 1 then .error 25 else listO (listP (objP refs l (d - 1).toNat) l (l.length + 1) [] (t + 1)))
    else if x = 40 then textP l t
    else if x = 60 then (if l.length ≤ t + 1 then .error 24 else if l[t + 1]? ≠ some 60 then textP l t else if d < 1 then .error 25 else pairsO (pairsP (objP refs l (d - 1).toNat) l (l.length + 1) [] [] (t + 2)))
    else plainO (plexW refs l t) := by
  by_cases hd : d < 1
  · rw [show d.toNat = 0 by omega, if_pos hd]
    simp only [objP, h]
    rw [if_pos hd]
  · rw [show d.toNat = (d - 1).toNat + 1 by omega, if_neg hd]
    simp only [objP, h]
    rw [if_neg hd]
/-- what is said of object at depth D holds -/
theorem plex_object (p : Option Addr) (l : List UInt8) (c : Nat) (refs : Bool) (hc : l.length ≤ c) (hl : l.length ≤ 100000000) (D : Int) (hD : -9223372036854775808 < D ∧ D ≤ 1000000000) (hO : 1 ≤ D → ObjC p l c refs (D - 1)) : ObjC p l c refs D := by
 intro r t w h hne ht
 have hr := h.1
 have hb := h.2
 obtain ⟨X, hX⟩ : ∃ X, X = objP refs l D.toNat t := ⟨_, rfl⟩
 rw [← hX]
 have hg : l[t]? = some l[t] := List.getElem?_eq_getElem ht
 rw [objP_at refs l D t l[t] hg] at hX
 obtain ⟨Wd, hWd⟩ : ∃ Wd, Wd = plexW refs l t := ⟨_, rfl⟩
 have hWc : ∀ w1, PRd w1 r p l c t refs → Calls Tryz.prog 48 #[.pointer (some ⟨r, 0, none⟩)] w1 fun e w' => e = .returned Wd.val ∧ PRd w' r p l c Wd.np refs ∧ Touch w1.heap.size r w1 w' := fun w1 h1 => by rw [hWd]; exact plex_word r p l c t refs w1 h1 hne hc hl oO
 rw [← hWd] at hX
 refine W.enter func43 rfl ntmps43 (Nat.le_of_ble_eq_true rfl) ?_
 have hB0 := Touch.refl (w.heap.size) r w
 refine W.sr <| WL.alloc zeroValue31 rfl (fun b1 wb1 eb1 hkb1 hub1 hsb1 => ?_)
 have hl3 : r < b1 := by rw [eb1]; exact hr.lt
 have hk2 := hr.upd hub1 (Nat.ne_of_lt hl3)
 have hvl5 := fun h0 => eb1 ▸ hb.lt h0
 have hv4 := bup hb hub1 hvl5
 have hgeb1 : w.heap.size ≤ b1 := by rw [eb1]; exact hB0.size
 have hB6 := Touch.trans hB0 (Touch.of_new hub1 hgeb1)
 refine WL.nil <| ?_
 refine W.seq <| W.seq ?_
 have hrB : r < b1 := by have := hr.lt; omega
 refine W.regQ mixed kR ?_
 refine WQ.p (.mv rfl) rfl <| WQ.p (.nck rfl) rfl <| WQ.p (.fa underlying63 rfl sizeOf22 dD rfl) rfl <| WQ.r (fun m => Rd.ld (isAgg22 _) rfl hk2 rfl) rfl <| WQ.p (.mv rfl) rfl <| WQ.p (.nck rfl) rfl <| WQ.p (.fa underlying63 rfl sizeOf3 dD rfl) rfl <| WQ.r (fun m => Rd.ld (isAgg3 _) rfl hk2 rfl) rfl <| WQ.p (.ixb underlying22 sizeOf5 rfl rfl (hv4.isp oO) (t) (rfl) (ht)) rfl <| WQ.r (fun m => Rd.iis ((l[t].toNat : Int)) (Rd.ldc (isAgg5 _) rfl ((hv4.drewN m).cells (t) oO)) oO) rfl <| WQ.p (.as rfl) rfl <| WQ.nil (fun w7 dw7 => ?_)
 have hk8 := hk2.drew dw7
 have hk9 := hkb1.drew dw7
 have hv10 := hv4.drew dw7
 have hB11 := Touch.trans hB6 (Touch.of_drew dw7)
 refine W.sr <| WL.m rfl rfl <| WL.nil <| ?_
 refine W.block <| W.sr <| WL.p (.eql rfl rfl) rfl <| WL.z rfl rfl ?_
 refine W.cond rfl (fun h12 => ?_) (fun h12 => ?_)
 have h12' := dT h12
 have h47 : l[t] = 47 := u8_eq aS
 rw [if_pos h47] at hX
 refine W.sr <| WL.m rfl rfl <| WL.p (.nck rfl) rfl <| WL.p (.fa underlying63 rfl sizeOf3 dD rfl) rfl <| WL.r (Rd.ld (isAgg3 _) rfl hk8 rfl) rfl <| WL.p (.iis (((t + 1 : Nat) : Int)) (.add rfl rfl (i64w oO)) oO) rfl <| WL.p (.nck rfl) rfl <| WL.p (.fa underlying63 rfl sizeOf3 dD rfl) rfl <| WL.st sizeOf3 rfl rfl rfl hk8 oD (fun w13 hkw13 huw13 hsw13 => ?_)
 have hkw13 : Blk w13 r _ _ := hkw13
 have huw13 : Upd r _ _ := huw13
 have hk14 := hk9.up huw13
 have hv15 := BytesAt.upd hv10 huw13 hne
 have hB16 := Touch.trans hB11 (Touch.of_upd huw13)
 refine WL.nil <| ?_
 refine W.sr <| WL.m rfl rfl <| WL.ce hb67 rfl rfl ((plex_name r p l c (t + 1) refs _ ⟨hkw13, hv15⟩ hne hc hl oO)) (fun k19 w17 hrw17 hw17 => ?_) (fun a18 w17 hrw17 hw17 => ?_)
 have hBew17 := Touch.trans hB16 (Touch.mono hw17 hB16.size)
 exact pn_is (EndsV.err k19 (by rw [hX]; unfold nameO; rw [hrw17]) hBew17)
 have hk20 := hw17.1.1
 have hk21 := Blk.touch hk14 hw17.2 hk14.lt oO
 have hv22 := hw17.1.2
 have hB23 := Touch.trans hB16 (Touch.mono hw17.2 hB16.size)
 have hra := hrw17
 obtain ⟨sN, tN⟩ := a18
 refine WL.p (.buildL (ps := _) blt31 rfl rfl rfl pS) rfl ?_
 refine WL.stL rfl rfl hk21 isz31 rfl rfl (fun w24 hkw24 huw24 hsw24 => ?_)
 have hk25 := hk20.up huw24
 have hv26 := bup hv22 huw24 hvl5
 have hB27 := Touch.trans hB23 (Touch.of_new huw24 oO)
 refine WL.nil <| ?_
 refine W.ret (W.retc1 rfl rfl (ldRow hkw24 underlying31 rfl isz31)  ?_)
 exact EndsV.ok (pv0 4 0 sN, tN) _ (by rw [hX]; unfold nameO; rw [hra]) rfl ⟨pc0 4 0 sN, rfl, PRep.zero _ _ _ _ _, ⟨hk25, hv26⟩, hB27⟩
 have h12' := dF h12
 have h47 : l[t] ≠ 47 := u8_ne (d := 47) aS
 rw [if_neg h47] at hX
 refine W.sr <| WL.p (.eql rfl rfl) rfl <| WL.z rfl rfl ?_
 refine W.cond rfl (fun h28 => ?_) (fun h28 => ?_)
 have h28' := dT h28
 have h91 : l[t] = 91 := u8_eq aS
 rw [if_pos h91] at hX
 refine W.seq <| W.sr <| WL.m rfl rfl <| WL.p (.lss rfl rfl) rfl <| WL.nil <| ?_
 refine W.cond rfl (fun h29 => ?_) (fun h29 => ?_)
 have h29' := dT h29
 refine W.reg <| WL.cp hb68 rfl ((plex_fail 25 _)) (fun w30 hw30 => ?_)
 obtain rfl := hw30
 exact pn_is (EndsV.err 25 (by rw [hX, if_pos oO]) hB11)
 have h29' := dF h29
 refine W.skip <| W.sr <| WL.m rfl rfl <| WL.p (.nck rfl) rfl <| WL.p (.fa underlying63 rfl sizeOf3 dD rfl) rfl <| WL.r (Rd.ld (isAgg3 _) rfl hk8 rfl) rfl <| WL.p (.iis (((t + 1 : Nat) : Int)) (.add rfl rfl (i64w oO)) oO) rfl <| WL.p (.nck rfl) rfl <| WL.p (.fa underlying63 rfl sizeOf3 dD rfl) rfl <| WL.st sizeOf3 rfl rfl rfl hk8 oD (fun w31 hkw31 huw31 hsw31 => ?_)
 have hkw31 : Blk w31 r _ _ := hkw31
 have huw31 : Upd r _ _ := huw31
 have hk32 := hk9.up huw31
 have hv33 := BytesAt.upd hv10 huw31 hne
 have hB34 := Touch.trans hB11 (Touch.of_upd huw31)
 refine WL.nil <| ?_
 refine W.sr <| WL.m rfl rfl <| WL.m rfl rfl <| WL.p (.sub rfl rfl (i64w oO)) rfl <| WL.cx hb69 rfl rfl ((plex_list p l c refs (D - 1) (hO oO) (objP_adv refs l _) r (t + 1) _ ⟨hkw31, hv33⟩ hne hl oO)) (fun k37 w35 hrw35 hw35 => ?_) (fun a36 x38 w35 hrw35 hw35 => ?_)
 have hBew35 := Touch.trans hB34 (Touch.mono hw35 hB34.size)
 exact pn_is (EndsV.err k37 (by rw [hX, if_neg oO, hrw35]) hBew35)
 have hrr := hrw35
 obtain ⟨oX, tX⟩ := a36
 obtain ⟨x1, rfl, hpx, hrd1, hT1⟩ := hw35
 have hpx1 := hpx.mono (T := fun k => b1 < k ∧ w.heap.size ≤ k) (fun k hk _ => by have h1 := (hk32).lt; have h2 := hB34.size; omega)
 have hk11 := Blk.touch hk32 hT1 (hk32).lt oO
 have hB1 := Touch.trans hB34 (Touch.mono hT1 hB34.size)
 have hr1 := hrd1.1
 have hv1 := hrd1.2
 refine WL.stL rfl rfl hk11 isz31 rfl rfl (fun w39 hkw39 huw39 hsw39 => ?_)
 have hF40 := PRep.same (w1 := w39) hpx1 (fun k hk hl => huw39.other k (by first | ((try simp only) <;> omega) | (have := hk.1; ((try simp only) <;> omega))))
 have hk41 := hr1.upd huw39 oM
 have hv42 := bup hv1 huw39 hvl5
 have hB43 := Touch.trans hB1 (Touch.of_new huw39 oO)
 refine WL.nil <| ?_
 refine W.ret (W.retc1 rfl rfl (ldRow hkw39 underlying31 rfl isz31)  ?_)
 exact EndsV.ok (oX, tX) _ (by rw [hX, if_neg oO, hrr]) rfl ⟨x1, rfl, (hF40).mono (fun k hk _ => hk.2), ⟨hk41, hv42⟩, hB43⟩
 have h28' := dF h28
 have h91 : l[t] ≠ 91 := u8_ne (d := 91) aS
 rw [if_neg h91] at hX
 refine W.sr <| WL.p (.eql rfl rfl) rfl <| WL.z rfl rfl ?_
 refine W.cond rfl (fun h44 => ?_) (fun h44 => ?_)
 have h44' := dT h44
 have h40 : l[t] = 40 := u8_eq aS
 rw [if_pos h40] at hX
 refine W.sr <| WL.m rfl rfl <| WL.ce hb70 rfl rfl ((plex_text r p l c t refs _ ⟨hk8, hv10⟩ hne hc hl ht)) (fun k47 w45 hrw45 hw45 => ?_) (fun a46 w45 hrw45 hw45 => ?_)
 have hBew45 := Touch.trans hB11 (Touch.mono hw45 hB11.size)
 exact pn_is (EndsV.err k47 (by rw [hX]; unfold textP; rw [hrw45]) hBew45)
 have hk48 := hw45.1.1
 have hk49 := Blk.touch hk9 hw45.2 hk9.lt oO
 have hv50 := hw45.1.2
 have hB51 := Touch.trans hB11 (Touch.mono hw45.2 hB11.size)
 have hra := hrw45
 obtain ⟨sN, tN⟩ := a46
 refine WL.stL rfl rfl hk49 isz31 rfl rfl (fun w52 hkw52 huw52 hsw52 => ?_)
 have hk53 := hk48.up huw52
 have hv54 := bup hv50 huw52 hvl5
 have hB55 := Touch.trans hB51 (Touch.of_new huw52 oO)
 refine WL.nil <| ?_
 refine W.ret (W.retc1 rfl rfl (ldRow hkw52 underlying31 rfl isz31)  ?_)
 exact EndsV.ok (pv0 5 0 sN, tN) _ (by rw [hX]; unfold textP; rw [hra]) rfl ⟨pc0 5 0 sN, rfl, PRep.zero _ _ _ _ _, ⟨hk53, hv54⟩, hB55⟩
 have h44' := dF h44
 have h40 : l[t] ≠ 40 := u8_ne (d := 40) aS
 rw [if_neg h40] at hX
 refine W.sr <| WL.p (.eql rfl rfl) rfl <| WL.z rfl rfl ?_
 refine W.cond rfl (fun h56 => ?_) (fun h56 => ?_)
 have h56' := dT h56
 have h60 : l[t] = 60 := u8_eq aS
 rw [if_pos h60] at hX
 refine W.seq <| W.seq <| W.regQ mixed kR ?_
 refine WQ.p (.mv rfl) rfl <| WQ.p (.nck rfl) rfl <| WQ.p (.fa underlying63 rfl sizeOf3 dD rfl) rfl <| WQ.r (fun m => Rd.ld (isAgg3 _) rfl hk8 rfl) rfl <| WQ.p (.iis ((t : Int) + 1) (.add rfl rfl (i64w oO)) oO) rfl <| WQ.p (.mv rfl) rfl <| WQ.p (.nck rfl) rfl <| WQ.p (.fa underlying63 rfl sizeOf22 dD rfl) rfl <| WQ.r (fun m => Rd.ld (isAgg22 _) rfl hk8 rfl) rfl <| WQ.p (.lenS underlying22 rfl) rfl <| WQ.p (.geq rfl rfl) rfl <| WQ.nil (fun w57 dw57 => ?_)
 have hk58 := hk8.drew dw57
 have hk59 := hk9.drew dw57
 have hv60 := hv10.drew dw57
 have hB61 := Touch.trans hB11 (Touch.of_drew dw57)
 refine W.cond rfl (fun h62 => ?_) (fun h62 => ?_)
 have h62' := dT h62
 refine W.reg <| WL.cp hb68 rfl ((plex_fail 24 _)) (fun w63 hw63 => ?_)
 obtain rfl := hw63
 exact pn_is (EndsV.err 24 (by rw [hX, if_pos oO]) hB61)
 have h62' := dF h62
 have hlt1 : t + 1 < l.length := by omega
 have hg1 : l[t + 1]? = some l[t + 1] := List.getElem?_eq_getElem hlt1
 refine W.skip <| W.seq <| W.seq <| W.regQ mixed kR ?_
 refine WQ.p (.mv rfl) rfl <| WQ.p (.nck rfl) rfl <| WQ.p (.fa underlying63 rfl sizeOf22 dD rfl) rfl <| WQ.r (fun m => Rd.ld (isAgg22 _) rfl hk58 rfl) rfl <| WQ.p (.mv rfl) rfl <| WQ.p (.nck rfl) rfl <| WQ.p (.fa underlying63 rfl sizeOf3 dD rfl) rfl <| WQ.r (fun m => Rd.ld (isAgg3 _) rfl hk58 rfl) rfl <| WQ.p (.iis (((t + 1 : Nat) : Int)) (.add rfl rfl (i64w oO)) oO) rfl <| WQ.p (.ixb underlying22 sizeOf5 rfl rfl (hv60.isp oO) (t + 1) oO oO) rfl <| WQ.r (fun m => Rd.ldc (isAgg5 _) rfl ((hv60.drewN m).cells (t + 1) oO)) rfl <| WQ.p (.neq rfl rfl) rfl <| WQ.nil (fun w64 dw64 => ?_)
 have hk65 := hk58.drew dw64
 have hk66 := hk59.drew dw64
 have hv67 := hv60.drew dw64
 have hB68 := Touch.trans hB61 (Touch.of_drew dw64)
 refine W.cond rfl (fun h69 => ?_) (fun h69 => ?_)
 have h69' := ndT h69
 refine W.sr <| WL.m rfl rfl <| WL.ce hb70 rfl rfl ((plex_text r p l c t refs _ ⟨hk65, hv67⟩ hne hc hl ht)) (fun k72 w70 hrw70 hw70 => ?_) (fun a71 w70 hrw70 hw70 => ?_)
 have hBew70 := Touch.trans hB68 (Touch.mono hw70 hB68.size)
 exact pn_is (EndsV.err k72 (by rw [hX, if_neg oO, if_pos (by rw [hg1]; exact fun e => u8_ne (d := 60) aS (Option.some.inj e))]; unfold textP; rw [hrw70]) hBew70)
 have hk73 := hw70.1.1
 have hk74 := Blk.touch hk66 hw70.2 hk66.lt oO
 have hv75 := hw70.1.2
 have hB76 := Touch.trans hB68 (Touch.mono hw70.2 hB68.size)
 have hra := hrw70
 obtain ⟨sN, tN⟩ := a71
 refine WL.stL rfl rfl hk74 isz31 rfl rfl (fun w77 hkw77 huw77 hsw77 => ?_)
 have hk78 := hk73.up huw77
 have hv79 := bup hv75 huw77 hvl5
 have hB80 := Touch.trans hB76 (Touch.of_new huw77 oO)
 refine WL.nil <| ?_
 refine W.ret (W.retc1 rfl rfl (ldRow hkw77 underlying31 rfl isz31)  ?_)
 exact EndsV.ok (pv0 5 0 sN, tN) _ (by rw [hX, if_neg oO, if_pos (by rw [hg1]; exact fun e => u8_ne (d := 60) aS (Option.some.inj e))]; unfold textP; rw [hra]) rfl ⟨pc0 5 0 sN, rfl, PRep.zero _ _ _ _ _, ⟨hk78, hv79⟩, hB80⟩
 have h69' := ndF h69
 refine W.skip <| W.seq <| W.sr <| WL.m rfl rfl <| WL.p (.lss rfl rfl) rfl <| WL.nil <| ?_
 refine W.cond rfl (fun h81 => ?_) (fun h81 => ?_)
 have h81' := dT h81
 refine W.reg <| WL.cp hb68 rfl ((plex_fail 25 _)) (fun w82 hw82 => ?_)
 obtain rfl := hw82
 exact pn_is (EndsV.err 25 (by rw [hX, if_neg oO, if_neg (fun e => e (by rw [hg1, show l[t + 1] = 60 from u8_eq (d := 60) aS])), if_pos oO]) hB68)
 have h81' := dF h81
 refine W.skip <| W.sr <| WL.m rfl rfl <| WL.p (.nck rfl) rfl <| WL.p (.fa underlying63 rfl sizeOf3 dD rfl) rfl <| WL.r (Rd.ld (isAgg3 _) rfl hk65 rfl) rfl <| WL.p (.iis (((t + 2 : Nat) : Int)) (.add rfl rfl (i64w oO)) oO) rfl <| WL.p (.nck rfl) rfl <| WL.p (.fa underlying63 rfl sizeOf3 dD rfl) rfl <| WL.st sizeOf3 rfl rfl rfl hk65 oD (fun w83 hkw83 huw83 hsw83 => ?_)
 have hkw83 : Blk w83 r _ _ := hkw83
 have huw83 : Upd r _ _ := huw83
 have hk84 := hk66.up huw83
 have hv85 := BytesAt.upd hv67 huw83 hne
 have hB86 := Touch.trans hB68 (Touch.of_upd huw83)
 refine WL.nil <| ?_
 refine W.sr <| WL.m rfl rfl <| WL.m rfl rfl <| WL.p (.sub rfl rfl (i64w oO)) rfl <| WL.cx hb71 rfl rfl ((plex_pairs p l c refs (D - 1) (hO oO) (objP_adv refs l _) r (t + 2) _ ⟨hkw83, hv85⟩ hne hc hl oO)) (fun k89 w87 hrw87 hw87 => ?_) (fun a88 x90 w87 hrw87 hw87 => ?_)
 have hBew87 := Touch.trans hB86 (Touch.mono hw87 hB86.size)
 exact pn_is (EndsV.err k89 (by rw [hX, if_neg oO, if_neg (fun e => e (by rw [hg1, show l[t + 1] = 60 from u8_eq (d := 60) aS])), if_neg oO, hrw87]) hBew87)
 have hrr := hrw87
 obtain ⟨oX, tX⟩ := a88
 obtain ⟨x1, rfl, hpx, hrd1, hT1⟩ := hw87
 have hpx1 := hpx.mono (T := fun k => b1 < k ∧ w.heap.size ≤ k) (fun k hk _ => by have h1 := (hk84).lt; have h2 := hB86.size; omega)
 have hk11 := Blk.touch hk84 hT1 (hk84).lt oO
 have hB1 := Touch.trans hB86 (Touch.mono hT1 hB86.size)
 have hr1 := hrd1.1
 have hv1 := hrd1.2
 refine WL.stL rfl rfl hk11 isz31 rfl rfl (fun w91 hkw91 huw91 hsw91 => ?_)
 have hF92 := PRep.same (w1 := w91) hpx1 (fun k hk hl => huw91.other k (by first | ((try simp only) <;> omega) | (have := hk.1; ((try simp only) <;> omega))))
 have hk93 := hr1.upd huw91 oM
 have hv94 := bup hv1 huw91 hvl5
 have hB95 := Touch.trans hB1 (Touch.of_new huw91 oO)
 refine WL.nil <| ?_
 refine W.ret (W.retc1 rfl rfl (ldRow hkw91 underlying31 rfl isz31)  ?_)
 exact EndsV.ok (oX, tX) _ (by rw [hX, if_neg oO, if_neg (fun e => e (by rw [hg1, show l[t + 1] = 60 from u8_eq (d := 60) aS])), if_neg oO, hrr]) rfl ⟨x1, rfl, (hF92).mono (fun k hk _ => hk.2), ⟨hk93, hv94⟩, hB95⟩
 have h56' := dF h56
 have h60 : l[t] ≠ 60 := u8_ne (d := 60) aS
 rw [if_neg h60] at hX
 refine W.skip <| W.sr <| WL.m rfl rfl <| WL.c1 hb48 rfl rfl ((hWc _ ⟨hk8, hv10⟩)) (fun w96 hw96 => ?_)
 have hk97 := hw96.1.1
 have hk98 := Blk.touch hk9 hw96.2 hk9.lt oO
 have hv99 := hw96.1.2
 have hB100 := Touch.trans hB11 (Touch.mono hw96.2 hB11.size)
 refine WL.m rfl rfl <| WL.p (.ext rfl rfl) rfl <| WL.p (.ext rfl rfl) rfl <| WL.p (.ext rfl rfl) rfl <| WL.alloc zeroValue31 rfl (fun b101 wb101 eb101 hkb101 hub101 hsb101 => ?_)
 have hl103 : r < b101 := by rw [eb101]; exact hk97.lt
 have hk102 := hk97.upd hub101 (Nat.ne_of_lt hl103)
 have hl105 : b1 < b101 := by rw [eb101]; exact hk98.lt
 have hk104 := hk98.upd hub101 (Nat.ne_of_lt hl105)
 have hvl107 := fun h0 => eb101 ▸ hv99.lt h0
 have hv106 := bup hv99 hub101 hvl107
 have hgeb101 : w.heap.size ≤ b101 := by rw [eb101]; exact hB100.size
 have hB108 := Touch.trans hB100 (Touch.of_new hub101 hgeb101)
 refine WL.stL rfl rfl hkb101 isz31 rfl rfl (fun w109 hkw109 huw109 hsw109 => ?_)
 have hk110 := hk102.up huw109
 have hk111 := hk104.up huw109
 have hv112 := bup hv106 huw109 hvl107
 have hB113 := Touch.trans hB108 (Touch.of_new huw109 oO)
 refine WL.a rfl rfl <| WL.z rfl rfl ?_
 refine W.seq <| W.sr <| WL.m rfl rfl <| WL.p (.not rfl) rfl <| WL.nil <| ?_
 refine W.cond rfl (fun h114 => ?_) (fun h114 => ?_)
 have h114' := (nT h114)
 refine W.reg <| WL.cp hb68 rfl ((plex_fail 23 _)) (fun w115 hw115 => ?_)
 obtain rfl := hw115
 exact pn_is (EndsV.err 23 (by rw [hX]; unfold plainO; rw [if_neg (bF aS)]) hB113)
 have h114' := (nF h114)
 refine W.skip <| W.sr <| WL.r (Rd.ldA rfl hkw109 underlying31 rfl isz31) rfl <| WL.stL rfl rfl hk111 isz31 rfl rfl (fun w116 hkw116 huw116 hsw116 => ?_)
 have hk117 := hk110.up huw116
 have hv119 := bup hv112 huw116 hvl5
 have hB120 := Touch.trans hB113 (Touch.of_new huw116 oO)
 refine WL.nil <| ?_
 refine W.ret (W.retc1 rfl rfl (ldRow hkw116 underlying31 rfl isz31)  ?_)
 exact EndsV.ok (pv0 Wd.kind Wd.n [], Wd.np) _ (by rw [hX]; unfold plainO; rw [if_pos aS]) rfl ⟨pc0 Wd.kind Wd.n [], rfl, PRep.zero _ _ _ _ _, ⟨hk117, hv119⟩, hB120⟩
end
section
/-- the number that digits write -/
def valD : List Nat → Nat
 | [] => 0
 | x :: r => x * 10 ^ r.length + valD r
theorem valD_lt (d : List Nat) (h : ∀ x ∈ d, x < 10) : valD d < 10 ^ d.length := by
 induction d with
 | nil => simp [valD]
 | cons x r ih =>
  have h1 := ih fun y hy => h y (by simp [hy])
  have h2 := h x (by simp)
  rw [valD, List.length_cons, Nat.pow_succ]
  have h3 : x * 10 ^ r.length ≤ 9 * 10 ^ r.length := Nat.mul_le_mul_right _ oO
  omega
theorem valD_append (a b : List Nat) : valD (a ++ b) = valD a * 10 ^ b.length + valD b := by
 induction a with
 | nil => simp [valD]
 | cons x r ih =>
  rw [List.cons_append, valD, valD, ih, List.length_append, Nat.pow_add, Nat.add_mul, Nat.mul_assoc, Nat.add_assoc]
theorem valD_zeros (k : Nat) : valD (List.replicate k 0) = 0 := by
 induction k with
 | zero => rfl
 | succ k ih => rw [List.replicate_succ, valD, ih]; simp
theorem dbl_val (d : List Nat) : valD (dbl d).1 + (dbl d).2 * 10 ^ d.length = 2 * valD d := by
 induction d with
 | nil => rfl
 | cons x r ih =>
  have hl := dbl_len r
  simp only [dbl, valD, hl, List.length_cons, Nat.pow_succ]
  have h1 : (2 * x + (dbl r).2) % 10 + 10 * ((2 * x + (dbl r).2) / 10) = 2 * x + (dbl r).2 := Nat.mod_add_div _ _
  have h2 : ((2 * x + (dbl r).2) % 10) * 10 ^ r.length + (2 * x + (dbl r).2) / 10 * (10 ^ r.length * 10) = (2 * x + (dbl r).2) * 10 ^ r.length := by
   conv => rhs; rw [← h1, Nat.add_mul]
   rw [Nat.mul_comm (10 ^ r.length) 10, ← Nat.mul_assoc, Nat.mul_comm _ 10]
  have h3 : (2 * x + (dbl r).2) * 10 ^ r.length = 2 * (x * 10 ^ r.length) + (dbl r).2 * 10 ^ r.length := by rw [Nat.add_mul, Nat.mul_assoc]
  omega
theorem rounds_len (k : Nat) : ∀ (n : Int) (d : List Nat), (rounds k n d).2.length = d.length := by
 induction k with
 | zero => intro n d; rfl
 | succ k ih => intro n d; rw [rounds, ih, dbl_len]
theorem rounds_val (k : Nat) : ∀ (n : Nat) (d : List Nat), ∃ m : Nat, (rounds k (n : Int) d).1 = (m : Int) ∧ m * 10 ^ d.length + valD (rounds k (n : Int) d).2 = 2 ^ k * (n * 10 ^ d.length + valD d) := by
 induction k with
 | zero => intro n d; exact ⟨n, rfl, by simp [rounds]⟩
 | succ k ih =>
  intro n d
  obtain ⟨m, h1, h2⟩ := ih (2 * n + (dbl d).2) (dbl d).1
  rw [dbl_len] at h2
  have hv := dbl_val d
  have hc : ((2 * n + (dbl d).2 : Nat) : Int) = 2 * (n : Int) + ((dbl d).2 : Int) := by omega
  rw [rounds, ← hc]
  refine ⟨m, h1, h2.trans ?_⟩
  rw [Nat.pow_succ, Nat.mul_assoc]
  congr 1
  rw [Nat.add_mul, Nat.mul_assoc]
  omega
theorem natOf_valD (l : List UInt8) : natOf l = valD (digitsOf l) := by
 have key : ∀ (l : List UInt8) (n : Nat), l.foldl (fun n c => 10 * n + (c.toNat - 48)) n = n * 10 ^ l.length + valD (digitsOf l) := by
  intro l
  induction l with
  | nil => intro n; simp [digitsOf, valD]
  | cons c r ih =>
   intro n
   have hl : (digitsOf r).length = r.length := digitsOf_len r
   have hd : digitsOf (c :: r) = (c.toNat - 48) :: digitsOf r := rfl
   rw [List.foldl_cons, ih, hd, valD, hl, List.length_cons, Nat.pow_succ, Nat.add_mul, Nat.mul_comm 10 n, Nat.mul_assoc, Nat.mul_comm 10 (10 ^ r.length), Nat.add_assoc]
 have := key l 0
 rw [Nat.zero_mul, Nat.zero_add] at this
 exact this
/-- digits behind the point that are exactly so many of 65536 -/
theorem rawL_exact (W R : List UInt8) (N f : Nat) (hW : ∀ c ∈ W, isDig c = true) (hN : natOf W = N) (hN5 : N ≤ 99999) (hR : ∀ c ∈ R, isDig c = true) (hv : valD (digitsOf R) * 65536 = f * 10 ^ R.length) :
  rawL W R = some ((N * 65536 + f : Nat) : Int) := by
 have ht : ¬ 5 < (W.dropWhile (· == 48)).length := fun h => by have := (trim_long W hW).1 h; omega
 unfold rawL
 rw [if_neg ht, natOf_trim, hN]
 obtain ⟨m, h1, h2⟩ := rounds_val 16 N (digitsOf R)
 have hd := rounds_digits 16 (N : Int) (digitsOf R) (digitsOf_lt R hR)
 have hl := rounds_len 16 (N : Int) (digitsOf R)
 have hlt := valD_lt _ hd
 rw [digitsOf_len] at h2 hl
 rw [hl] at hlt
 have hv2 := dbl_val (rounds 16 (N : Int) (digitsOf R)).2
 rw [hl] at hv2
 generalize (rounds 16 (N : Int) (digitsOf R)).2 = D at *
 generalize hP : 10 ^ R.length = P at *
 have hP0 : 0 < P := by rw [← hP]; exact Nat.pow_pos dD
 have e : m * P + valD D = (N * 65536 + f) * P := by
  rw [h2, Nat.add_mul, ← hv]
  have : (2 : Nat) ^ 16 = 65536 := by decide
  rw [this, Nat.mul_add, ← Nat.mul_assoc, Nat.mul_comm 65536 N, Nat.mul_comm 65536 (valD _)]
 have hm : m = N * 65536 + f := by
  have a : (m * P + valD D) / P = m := by rw [Nat.mul_comm, Nat.mul_add_div hP0, Nat.div_eq_of_lt hlt]; rfl
  have b : ((N * 65536 + f) * P) / P = N * 65536 + f := Nat.mul_div_cancel _ hP0
  rw [← a, e, b]
 have hD : valD D = 0 := by rw [hm] at e; omega
 have hc : (dbl D).2 = 0 := by
  rw [hD] at hv2
  rcases Nat.eq_zero_or_pos (dbl D).2 with h | h
  ·
   exact h
  ·
   have := Nat.mul_le_mul_right P h; omega
 rw [h1, hc, hm, Int.natCast_zero, Int.add_zero]
theorem isDig_ch (k : Nat) (h : k < 10) : isDig (ch (48 + (k : Int))) = true ∧ (ch (48 + (k : Int))).toNat = 48 + k := by
 have e : (ch (48 + (k : Int))).toNat = 48 + k := by
  unfold ch
  rw [show (48 + (k : Int)).toNat = 48 + k by omega, UInt8.toNat_ofNat']
  omega
 exact ⟨by unfold isDig; rw [e, decide_eq_true (show 48 ≤ 48 + k by omega), decide_eq_true (show 48 + k ≤ 57 by omega)]; rfl, e⟩
theorem fracK_val (k : Nat) : ∀ f : Nat, k ≤ 16 → f < 65536 → 2 ^ (16 - k) ∣ f → (∀ c ∈ fracK k f, isDig c = true) ∧ valD (digitsOf (fracK k f)) * 65536 = f * 10 ^ (fracK k f).length := by
 induction k with
 | zero =>
  intro f _ hf hd
  obtain ⟨c, hc⟩ := hd
  have : f = 0 := by simp at hc; omega
  subst this
  exact ⟨by simp [fracK], by simp [fracK, digitsOf, valD]⟩
 | succ k ih =>
  intro f hk hf hd
  rw [fracK]
  split
  ·
   next h => subst h; exact ⟨by simp, by simp [digitsOf, valD]⟩
  ·
   have h1 : 2 ^ (16 - k) ∣ f * 10 := by
    have e : 16 - k = (16 - (k + 1)) + 1 := by omega
    rw [e, Nat.pow_succ]
    exact Nat.mul_dvd_mul hd ⟨5, rfl⟩
   have h2 : 2 ^ (16 - k) ∣ 65536 := by
    rw [show (65536 : Nat) = 2 ^ 16 from rfl]
    exact Nat.pow_dvd_pow 2 oO
   obtain ⟨i1, i2⟩ := ih (f * 10 % 65536) oO oO ((Nat.dvd_mod_iff h2).2 h1)
   obtain ⟨c1, c2⟩ := isDig_ch (f * 10 / 65536) oO
   refine ⟨fun c hc => ?_, ?_⟩
   ·
    rcases List.mem_cons.1 hc with rfl | hc
    ·
     exact c1
    ·
     exact i1 c hc
   ·
    have hd2 : digitsOf (ch (48 + ((f * 10 / 65536 : Nat) : Int)) :: fracK k (f * 10 % 65536)) = (f * 10 / 65536) :: digitsOf (fracK k (f * 10 % 65536)) := by
     show (_ - 48) :: _ = _
     rw [c2]; congr 1; omega
    rw [hd2, valD, digitsOf_len, List.length_cons, Nat.pow_succ]
    generalize valD (digitsOf (fracK k (f * 10 % 65536))) = V at *
    generalize 10 ^ (fracK k (f * 10 % 65536)).length = P at *
    have hm := Nat.mod_add_div (f * 10) 65536
    generalize f * 10 % 65536 = r at *
    generalize f * 10 / 65536 = q at *
    rw [Nat.add_mul, i2, Nat.mul_comm P 10, ← Nat.mul_assoc, ← hm, Nat.add_mul, Nat.mul_right_comm, Nat.mul_comm q 65536]
    omega
theorem fracL_val (f : Nat) (h : f < 65536) : (∀ c ∈ fracL f, isDig c = true) ∧ valD (digitsOf (fracL f)) * 65536 = f * 10 ^ (fracL f).length :=
 fracK_val 16 f oO h (by simp)
theorem digitsL_val (n : Nat) : (∀ c ∈ digitsL n, isDig c = true) ∧ natOf (digitsL n) = n ∧ digitsL n ≠ [] := by
  induction n using Nat.strongRecOn with
  | _ n ih =>
    by_cases h : n < 10
    · rw [digitsL_lt n h]
      obtain ⟨c1, c2⟩ := isDig_ch n h
      exact ⟨by simpa using c1, by simp [natOf, c2], by simp⟩
    · rw [digitsL_ge n oO]
      obtain ⟨i1, i2, i3⟩ := ih (n / 10) oO
      obtain ⟨c1, c2⟩ := isDig_ch (n % 10) oO
      refine ⟨fun c hc => ?_, ?_, by simp⟩
      · rcases List.mem_append.1 hc with hc | hc
        · exact i1 c hc
        · rw [List.mem_singleton.1 hc]; exact c1
      · rw [natOf_snoc, i2, c2]; omega
/-- digits, then noughts -/
theorem digitsOf_append (a b : List UInt8) : digitsOf (a ++ b) = digitsOf a ++ digitsOf b := by simp [digitsOf]
theorem digitsOf_zeros (k : Nat) : digitsOf (List.replicate k 48) = List.replicate k 0 := by simp [digitsOf]
theorem val_zeros (R : List UInt8) (f k : Nat) (h : valD (digitsOf R) * 65536 = f * 10 ^ R.length) : valD (digitsOf (R ++ List.replicate k 48)) * 65536 = f * 10 ^ (R ++ List.replicate k 48).length := by
 rw [digitsOf_append, digitsOf_zeros, valD_append, valD_zeros, Nat.add_zero, List.length_append, List.length_replicate, List.length_replicate, Nat.pow_add, ← Nat.mul_assoc, ← h, Nat.mul_right_comm]
theorem natOf_zeros (k : Nat) (W : List UInt8) : natOf (List.replicate k 48 ++ W) = natOf W := by
 rw [natOf_valD, natOf_valD, digitsOf_append, digitsOf_zeros, valD_append, valD_zeros, Nat.zero_mul, Nat.zero_add]
theorem dig_zeros (k : Nat) (c : UInt8) (h : c ∈ List.replicate k (48 : UInt8)) : isDig c = true := by
 rw [List.mem_replicate] at h; rw [h.2]; rfl
/-- a sign, or none -/
def sgn (m : Option Bool) : List UInt8 := match m with | none => [] | some true => [45] | some false => [43]
def neg (m : Option Bool) : Bool := match m with | some true => true | _ => false
theorem signedL_sgn (m : Option Bool) (l : List UInt8) (h : ∀ c r, l = c :: r → isDig c = true) : signedL (sgn m ++ l) = (neg m, l) := by
 match m with
 | some true => rfl
 | some false => rfl
 | none =>
  cases l with
  | nil => rfl
  | cons c r => exact signedL_dig c r (h c r rfl)
theorem head_dig (W X : List UInt8) (hW : ∀ c ∈ W, isDig c = true) (h0 : W ≠ []) : ∀ c r, W ++ X = c :: r → isDig c = true := by
 intro c r e
 cases W with
 | nil => exact absurd rfl h0
 | cons d W =>
  simp only [List.cons_append, List.cons.injEq] at e
  rw [← e.1]; exact hW d (by simp)
theorem notdot (W : List UInt8) (hW : ∀ c ∈ W, isDig c = true) : 46 ∉ W := fun h => absurd (hW 46 h) dD
theorem mant_dot (W R : List UInt8) (hW : ∀ c ∈ W, isDig c = true) (hR : ∀ c ∈ R, isDig c = true) (h0 : W ≠ []) : mantOk (W ++ 46 :: R) = true := by
 have hl : 0 < W.length := List.length_pos_iff.2 h0
 unfold mantOk
 rw [cutDot_yes R W (notdot W hW)]
 simp only [Bool.and_eq_true, List.all_eq_true, decide_eq_true_eq]
 exact ⟨⟨hW, hR⟩, by omega⟩
/-- the number of digits with a point -/
theorem parseL_dot (m : Option Bool) (W R : List UInt8) (N f : Nat) (hW : ∀ c ∈ W, isDig c = true) (h0 : W ≠ []) (hR : ∀ c ∈ R, isDig c = true) (hN : natOf W = N) (hN5 : N ≤ 99999)
  (hv : valD (digitsOf R) * 65536 = f * 10 ^ R.length) (hfit : fitsB (if neg m then -((N * 65536 + f : Nat) : Int) else ((N * 65536 + f : Nat) : Int)) = true) :
  parseL (sgn m ++ (W ++ 46 :: R)) = (if neg m then -((N * 65536 + f : Nat) : Int) else ((N * 65536 + f : Nat) : Int), true) := by
 rw [parseL_eq, signedL_sgn m _ (head_dig W _ hW h0)]
 simp only
 rw [mant_dot W R hW hR h0, if_pos rfl, cutDot_yes R W (notdot W hW)]
 simp only
 rw [rawL_exact W R N f hW hN hN5 hR hv]
 unfold signL2
 simp only [hfit, if_true]
/-- a number's sign and its two parts -/
theorem signL_sgn (n : Int) : signL n = sgn (if n < 0 then some true else none) := by unfold signL sgn; split <;> rfl
theorem neg_of (n : Int) : (if neg (if n < 0 then some true else none) then -((n.natAbs / 65536 * 65536 + n.natAbs % 65536 : Nat) : Int) else ((n.natAbs / 65536 * 65536 + n.natAbs % 65536 : Nat) : Int)) = n := by
 have h : n.natAbs / 65536 * 65536 + n.natAbs % 65536 = n.natAbs := by omega
 rw [h]
 by_cases hn : n < 0
 ·
  rw [if_pos hn]; simp only [neg, if_true]; omega
 ·
  rw [if_neg hn]; simp only [neg, Bool.false_eq_true, if_false]; omega
theorem realL_form (n : Int) : ∃ R, realL n = sgn (if n < 0 then some true else none) ++ (wholeL n ++ 46 :: R) ∧ R ≠ [] ∧ R.length ≤ 16 ∧ (∀ c ∈ R, isDig c = true) ∧ valD (digitsOf R) * 65536 = (n.natAbs % 65536) * 10 ^ R.length := by
  obtain ⟨h1, h2⟩ := fracL_val (n.natAbs % 65536) oO
  unfold realL
  rw [signL_sgn]
  by_cases h0 : restL n = []
  · refine ⟨[48], by rw [if_pos h0]; simp, by simp, by simp, by simp; decide, ?_⟩
    rw [(restL_iff n).1 h0]; simp [digitsOf, valD]
  · refine ⟨restL n, by rw [if_neg h0]; simp, h0, fracL_len _, h1, h2⟩
theorem wholeL_facts (n : Int) (h1 : -2147483648 ≤ n) (h2 : n ≤ 2147483647) : (∀ c ∈ wholeL n, isDig c = true) ∧ wholeL n ≠ [] ∧ natOf (wholeL n) = n.natAbs / 65536 ∧ n.natAbs / 65536 ≤ 99999 ∧ (wholeL n).length ≤ 5 := by
 obtain ⟨a, b, c⟩ := digitsL_val (n.natAbs / 65536)
 exact ⟨a, c, b, by omega, digitsL_len 4 _ oO⟩
/-- what dec.PrintReal writes, with noughts ahead and behind, and with a sign of whatever kind -/
theorem parse_real (m : Option Bool) (n : Int) (a k : Nat) (h1 : -2147483648 ≤ n) (h2 : n ≤ 2147483647) (R : List UInt8) (hR : ∀ c ∈ R, isDig c = true) (hv : valD (digitsOf R) * 65536 = (n.natAbs % 65536) * 10 ^ R.length) (hm : neg m = decide (n < 0)) :
  parseL (sgn m ++ ((List.replicate a 48 ++ wholeL n) ++ 46 :: (R ++ List.replicate k 48))) = (n, true) := by
 obtain ⟨w1, w2, w3, w4, w5⟩ := wholeL_facts n h1 h2
 have hn : (if neg m then -((n.natAbs / 65536 * 65536 + n.natAbs % 65536 : Nat) : Int) else ((n.natAbs / 65536 * 65536 + n.natAbs % 65536 : Nat) : Int)) = n := by
  have := neg_of n
  rw [hm]
  by_cases h : n < 0
  ·
   rw [if_pos h] at this; rw [decide_eq_true h]; exact this
  ·
   rw [if_neg h] at this; rw [decide_eq_false h]; exact this
 rw [parseL_dot m _ _ (n.natAbs / 65536) (n.natAbs % 65536) (fun c hc => (List.mem_append.1 hc).elim (dig_zeros a c) (w1 c)) (by simp [w2]) (fun c hc => (List.mem_append.1 hc).elim (hR c) (dig_zeros k c)) (by rw [natOf_zeros, w3]) w4 (val_zeros R _ k hv) (by rw [hn]; exact fitsB_yes h1 h2), hn]
end
section
/-- an object with its data -/
inductive AV where
 | mk (kind n : Int) (text : List UInt8) (keys : List (List UInt8)) (list : List AV) (data : List UInt8)
def AV.kind : AV → Int | .mk k _ _ _ _ _ => k
def AV.n : AV → Int | .mk _ n _ _ _ _ => n
def AV.text : AV → List UInt8 | .mk _ _ t _ _ _ => t
def AV.keys : AV → List (List UInt8) | .mk _ _ _ ks _ _ => ks
def AV.list : AV → List AV | .mk _ _ _ _ l _ => l
def AV.data : AV → List UInt8 | .mk _ _ _ _ _ d => d
mutual
/-- an object without its data -/
def pvO : AV → PV
 | .mk k n t ks l _ => .mk k n t ks (pvL l)
def pvL : List AV → List PV
 | [] => []
 | o :: r => pvO o :: pvL r
end
/-- a byte of a name, as it is written -/
def needHash (c : UInt8) : Bool := decide (c.toNat < 33) || decide (126 < c.toNat) || c == 35 || delimB c
def nmE (c : UInt8) : List UInt8 := if needHash c then [35, hexDigits[c.toNat / 16]!, hexDigits[c.toNat % 16]!] else [c]
def nmT (s : List UInt8) : List UInt8 := 47 :: s.flatMap nmE
/-- a byte of a string, as it is written -/
def txE (c : UInt8) : List UInt8 := if c = 40 ∨ c = 41 ∨ c = 92 then [92, c] else if c.toNat < 32 ∨ 126 < c.toNat then octE c else [c]
def txT (s : List UInt8) : List UInt8 := 40 :: (s.flatMap txE ++ [41])
/-- a stream's end -/
def strmE (d : List UInt8) : List UInt8 := [32, 47, 76, 101, 110, 103, 116, 104, 32] ++ decL (d.length : Int) ++ [32, 62, 62, 10, 115, 116, 114, 101, 97, 109, 10] ++ d ++ [10, 101, 110, 100, 115, 116, 114, 101, 97, 109]
mutual
/-- an object as it is written -/
def prO : AV → List UInt8
 | .mk k n t ks l d =>
  if k = 0 then [110, 117, 108, 108]
  else if k = 1 then (if n = 1 then [116, 114, 117, 101] else [102, 97, 108, 115, 101])
  else if k = 2 then decL n
  else if k = 3 then realL (norm n)
  else if k = 4 then nmT t
  else if k = 5 then txT t
  else if k = 8 then decL n ++ [32, 48, 32, 82]
  else if k = 6 then 91 :: ((prB l).drop 1 ++ [93])
  else 60 :: 60 :: (prP ks l ++ (if k = 7 then [32, 62, 62] else strmE d))
/-- objects, each with a blank ahead -/
def prB : List AV → List UInt8
 | [] => []
 | o :: r => 32 :: (prO o ++ prB r)
/-- names and objects, each with a blank ahead -/
def prP : List (List UInt8) → List AV → List UInt8
 | k :: ks, o :: r => 32 :: (nmT k ++ 32 :: (prO o ++ prP ks r))
 | _, _ => []
end
theorem prB_append : ∀ a b : List AV, prB (a ++ b) = prB a ++ prB b
 | [], b => by simp [prB]
 | o :: r, b => by rw [List.cons_append, prB, prB, prB_append r b]; simp
theorem prB_snoc (a : List AV) (o : AV) : prB (a ++ [o]) = prB a ++ 32 :: prO o := by rw [prB_append]; simp [prB]
/-- may it be a name -/
def nmOk (s : List UInt8) : Prop := s ≠ [] ∧ 0 ∉ s ∧ s.length ≤ 127
/-- is an object sound, so deep at most, with streams, if so -/
inductive Snd : Int → Bool → AV → Prop
 | null (D : Int) (st : Bool) : Snd D st (.mk 0 0 [] [] [] [])
 | bool (D : Int) (st : Bool) (n : Int) (h : n = 0 ∨ n = 1) : Snd D st (.mk 1 n [] [] [] [])
 | num (D : Int) (st : Bool) (k n : Int) (hk : k = 2 ∨ k = 3) (h : fitsB n = true) : Snd D st (.mk k n [] [] [] [])
 | name (D : Int) (st : Bool) (t : List UInt8) (h : nmOk t) : Snd D st (.mk 4 0 t [] [] [])
 | text (D : Int) (st : Bool) (t : List UInt8) (h : t.length ≤ 65535) : Snd D st (.mk 5 0 t [] [] [])
 | ref (D : Int) (st : Bool) (n : Int) (h : 1 ≤ n ∧ n ≤ 4096) : Snd D st (.mk 8 n [] [] [] [])
 | arr (D : Int) (st : Bool) (l : List AV) (hD : 1 ≤ D) (hl : l.length ≤ 65535) (h : ∀ o ∈ l, Snd (D - 1) false o) : Snd D st (.mk 6 0 [] [] l [])
 | dict (D : Int) (st : Bool) (k : Int) (ks : List (List UInt8)) (l : List AV) (d : List UInt8) (hk : (k = 7 ∧ d = []) ∨ (k = 9 ∧ st = true ∧ d.length ≤ 1048576 ∧ [76, 101, 110, 103, 116, 104] ∉ ks)) (hD : 1 ≤ D) (hl : l.length ≤ 65535) (hkl : ks.length = l.length)
   (hn : ∀ x ∈ ks, nmOk x) (hnd : ks.Nodup) (h : ∀ o ∈ l, Snd (D - 1) false o) : Snd D st (.mk k 0 [] ks l d)
theorem snd_no9 {D : Int} {o : AV} (h : Snd D false o) : o.kind ≠ 9 := by
 cases h with
 | null => simp [AV.kind]
 | bool _ _ n h => simp [AV.kind]
 | num _ _ k n hk h => rcases hk with rfl | rfl <;> simp [AV.kind]
 | name _ _ t h => simp [AV.kind]
 | text _ _ t h => simp [AV.kind]
 | ref _ _ n h => simp [AV.kind]
 | arr _ _ l hD hl h => simp [AV.kind]
 | dict _ _ k ks l d hk hD hl hkl hn hnd h => rcases hk with ⟨rfl, -⟩ | ⟨-, h, -⟩; simp [AV.kind]; cases h
mutual
/-- how many lists are within one another -/
def dpO : AV → Nat
 | .mk k _ _ _ l _ => if k = 6 ∨ k = 7 then dpL l + 1 else 0
def dpL : List AV → Nat
 | [] => 0
 | o :: r => max (dpO o) (dpL r)
end
mutual
/-- how many values and letters -/
def bkO : AV → Nat
 | .mk _ _ t ks l d => t.length + bkK ks + bkL l + d.length + 7
def bkL : List AV → Nat
 | [] => 0
 | o :: r => bkO o + bkL r
def bkK : List (List UInt8) → Nat
 | [] => 0
 | k :: r => k.length + 1 + bkK r
end
theorem nmE_len (c : UInt8) : (nmE c).length ≤ 3 := by unfold nmE; split <;> simp
theorem txE_len (c : UInt8) : (txE c).length ≤ 4 := by unfold txE octE; split <;> (try split) <;> simp
theorem flat_len {f : UInt8 → List UInt8} {k : Nat} (hf : ∀ c, (f c).length ≤ k) : ∀ s : List UInt8, (s.flatMap f).length ≤ k * s.length
 | [] => by simp
 | c :: s => by
  have h1 := hf c; have h2 := flat_len hf s
  rw [List.flatMap_cons, List.length_append, List.length_cons, Nat.mul_add, Nat.mul_one]; omega
theorem decL_len (n : Int) (h : -9223372036854775808 ≤ n) (h' : n ≤ 9223372036854775807) : (decL n).length ≤ 21 := by
 have := decL_size n h h'
 rwa [bs_size] at this
theorem realL_len (n : Int) : (realL (norm n)).length ≤ 40 := by
 have h1 : (signL (norm n)).length ≤ 1 := by unfold signL; split <;> simp
 have h2 : (wholeL (norm n)).length ≤ 20 := by have := wholeL_size (norm n) (norm_lo n) (norm_hi n); rwa [bs_size] at this
 have h3 : (restL (norm n)).length ≤ 16 := fracL_len _
 unfold realL
 simp only [List.length_append, List.length_cons]
 split <;> simp <;> omega
theorem fitsB_i {n : Int} (h : fitsB n = true) : -2147483648 ≤ n ∧ n ≤ 2147483647 := by simpa [fitsB] using h
theorem norm_fits {n : Int} (h : fitsB n = true) : norm n = n := by unfold norm; rw [if_pos h]
theorem prB_len : ∀ l : List AV, (∀ o ∈ l, (prO o).length + 100 ≤ 40 * bkO o) → (prB l).length ≤ 40 * bkL l
 | [], _ => by simp [prB]
 | o :: r, h => by
  have h1 := h o (by simp)
  have h2 := prB_len r fun x hx => h x (by simp [hx])
  rw [prB, bkL, List.length_cons, List.length_append]; omega
theorem prP_len : ∀ (ks : List (List UInt8)) (l : List AV), (∀ o ∈ l, (prO o).length + 100 ≤ 40 * bkO o) → (prP ks l).length ≤ 40 * bkL l + 40 * bkK ks
 | k :: ks, o :: r, h => by
  have h1 := h o (by simp)
  have h2 := prP_len ks r fun x hx => h x (by simp [hx])
  have h3 := flat_len nmE_len k
  simp only [prP, bkL, bkK, nmT, List.length_cons, List.length_append]; omega
 | [], _, _ => by simp [prP]
 | _ :: _, [], _ => by simp [prP]
/-- what is written is no longer than so many times what there is -/
theorem pr_len {D : Int} {st : Bool} {o : AV} (h : Snd D st o) : (prO o).length + 100 ≤ 40 * bkO o := by
 induction h with
 | null D st => simp [prO, bkO, bkK, bkL]
 | bool D st n h => rcases h with rfl | rfl <;> simp [prO, bkO, bkK, bkL]
 | num D st k n hk h =>
  have hf := fitsB_i h
  have h1 := decL_len n oO oO
  have h2 := realL_len n
  rcases hk with rfl | rfl <;> simp [prO, bkO, bkK, bkL] <;> omega
 | name D st t h =>
  have h1 := flat_len nmE_len t
  have e : prO (.mk 4 0 t [] [] []) = nmT t := by simp [prO]
  rw [e, bkO, bkK, bkL]
  simp only [nmT, List.length_cons, List.length_nil]; omega
 | text D st t h =>
  have h1 := flat_len txE_len t
  have e : prO (.mk 5 0 t [] [] []) = txT t := by simp [prO]
  rw [e, bkO, bkK, bkL]
  simp only [txT, List.length_cons, List.length_append, List.length_nil]; omega
 | ref D st n h =>
  have h1 := decL_len n oO oO
  simp [prO, bkO, bkK, bkL]; omega
 | arr D st l hD hl h ih =>
  have h1 := prB_len l ih
  simp [prO, bkO, bkK]; omega
 | dict D st k ks l d hk hD hl hkl hn hnd h ih =>
  have h1 := prP_len ks l ih
  have h2 : d.length ≤ 1048576 := by rcases hk with ⟨-, rfl⟩ | h; simp; exact h.2.2.1
  have h3 := decL_len (d.length : Int) oO oO
  rcases hk with ⟨rfl, rfl⟩ | ⟨rfl, -⟩
  ·
   simp [prO, bkO]; omega
  ·
   simp [prO, bkO, strmE]; omega
end
section
open Go.ChangeShapes Go.WideShapes Go.ChangeAt Go.RowKit
/-- what is known of a slice's length and room -/
structure SlOk {α : Type} (p : Option Addr) (l : List α) (c : Nat) : Prop where
 le : l.length ≤ c
 cap : c ≤ maxLen
 nil : l = [] → c = 0 ∨ p ≠ none
 none : p = none → l = [] ∧ c = 0
theorem SlOk.z {α : Type} : SlOk (α := α) Option.none [] 0 := ⟨Nat.le_refl _, by unfold maxLen; omega, fun _ => .inl rfl, fun _ => ⟨rfl, rfl⟩⟩
theorem list_choose {α : Type} (P : Nat → α → Prop) : ∀ n, (∀ i, i < n → ∃ o, P i o) → ∃ l : List α, l.length = n ∧ ∀ i (h : i < l.length), P i l[i]
  | 0, _ => ⟨[], rfl, fun i h => by simp at h⟩
  | n + 1, h => by
    obtain ⟨l, hl, hp⟩ := list_choose P n (fun i hi => h i oO)
    obtain ⟨o, ho⟩ := h n oO
    refine ⟨l ++ [o], by simp [hl], fun i hi => ?_⟩
    rw [List.length_append, List.length_singleton] at hi
    rcases Nat.lt_or_ge i l.length with h1 | h1
    · rw [List.getElem_append_left h1]; exact hp i h1
    · obtain rfl : i = l.length := by omega
      rw [List.getElem_append_right (Nat.le_refl _)]
      simp only [Nat.sub_self, List.getElem_cons_zero]
      rw [hl]; exact ho
theorem wf64 {n : Int} (h : (Lit.int .i64 n).wf = true) : -9223372036854775808 ≤ n ∧ n ≤ 9223372036854775807 := by
 simp only [Lit.wf, Bool.and_eq_true, decide_eq_true_eq] at h; exact h
end
section
open Go.ChangeShapes Go.WideShapes Go.ChangeAt Go.RowKit
/-- an object's cells -/
structure AC where
 kind : Int
 n : Int
 text : List UInt8
 kp : Option Addr
 kl : Nat
 kc : Nat
 lp : Option Addr
 ll : Nat
 lc : Nat
 dp : Option Addr
 dl : Nat
 dc : Nat
def acV (x : AC) : List Value := [.int .i64 x.kind, .int .i64 x.n, .string (bs x.text), .slice x.kp x.kl x.kc, .slice x.lp x.ll x.lc, .slice x.dp x.dl x.dc]
def acL : Lay AC := ⟨6, acV, by decide, fun _ => rfl, fun x u hu => List.all_eq_true.1 (show (acV x).all Value.oneCell' = true from rfl) u hu⟩
/-- lengths and numbers are what Go's are -/
structure ACok (x : AC) (nk nl nd : Nat) : Prop where
 n : -9223372036854775808 ≤ x.n ∧ x.n ≤ 9223372036854775807
 text : x.text.length ≤ 9223372036854775807
 kl : x.kl = nk
 ll : x.ll = nl
 dl : x.dl = nd
 kc : nk ≤ x.kc
 lc : nl ≤ x.lc
 dc : nd ≤ x.dc
 km : x.kc ≤ 9223372036854775807
 lm : x.lc ≤ 9223372036854775807
 dm : x.dc ≤ 9223372036854775807
/-- cells that hold an object; the rows that it leads to lie in blocks of S -/
inductive ARep (w : World) (S : Nat → Prop) : AC → AV → Prop
 | mk (x : AC) (keys : List (List UInt8)) (list : List AV) (data : List UInt8) (cs : List AC) (ok : ACok x keys.length cs.length data.length) (hkl : ∀ k ∈ keys, k.length ≤ 9223372036854775807)
   (hk : RowAt strV w x.kp keys) (hks : 0 < keys.length → S (pA x.kp).block) (hr : RowM acL w x.lp cs) (hrs : 0 < cs.length → S (pA x.lp).block)
   (hd : BytesAt w x.dp data) (hds : 0 < data.length → S (pA x.dp).block) (hlen : cs.length = list.length)
   (hsub : ∀ i (h : i < cs.length) (h2 : i < list.length), ARep w S cs[i] list[i]) : ARep w S x (.mk x.kind x.n x.text keys list data)
theorem RowAt.same {α : Type} {V : α → Value} {w w1 : World} {p : Option Addr} {l : List α} (h : RowAt V w p l) (hb : 0 < l.length → w1.heap[(pA p).block]? = w.heap[(pA p).block]?) : RowAt V w1 p l :=
 ⟨h.isp, fun j hj => by rw [World.cell?_of_block (w := w) (by rw [add_block]; exact hb oO)]; exact h.cells j hj⟩
theorem BytesAt.same {w w1 : World} {p : Option Addr} {l : List UInt8} (h : BytesAt w p l) (hb : 0 < l.length → w1.heap[(pA p).block]? = w.heap[(pA p).block]?) : BytesAt w1 p l :=
 ⟨h.isp, fun j hj => by rw [World.cell?_of_block (w := w) (by rw [add_block]; exact hb oO)]; exact h.cells j hj⟩
theorem ARep.same {S : Nat → Prop} {w w1 : World} {x : AC} {o : AV} (h : ARep w S x o) (hb : ∀ k, S k → k < w.heap.size → w1.heap[k]? = w.heap[k]?) : ARep w1 S x o := by
 induction h with
 | mk x keys list data cs ok hkl hk hks hr hrs hd hds hlen _ ih =>
  exact .mk x keys list data cs ok hkl (hk.same fun h0 => hb _ (hks h0) (hk.lt h0)) hks (hr.same fun h0 => hb _ (hrs h0) (hr.lt h0)) hrs (hd.same fun h0 => hb _ (hds h0) (hd.lt h0)) hds hlen ih
theorem ARep.mono {S T : Nat → Prop} {w : World} {x : AC} {o : AV} (h : ARep w S x o) (hST : ∀ k, S k → k < w.heap.size → T k) : ARep w T x o := by
 induction h with
 | mk x keys list data cs ok hkl hk hks hr hrs hd hds hlen _ ih =>
  exact .mk x keys list data cs ok hkl hk (fun h0 => hST _ (hks h0) (hk.lt h0)) hr (fun h0 => hST _ (hrs h0) (hr.lt h0)) hd (fun h0 => hST _ (hds h0) (hd.lt h0)) hlen ih
theorem ARep.drew {S : Nat → Prop} {w w1 : World} {x : AC} {o : AV} (h : ARep w S x o) (d : Drew w w1) : ARep w1 S x o := by obtain ⟨m, rfl⟩ := d; exact h.same fun _ _ _ => rfl
theorem ARep.inv {w : World} {S : Nat → Prop} {x : AC} {o : AV} (h : ARep w S x o) : ∃ (keys : List (List UInt8)) (list : List AV) (data : List UInt8) (cs : List AC), o = .mk x.kind x.n x.text keys list data ∧ ACok x keys.length cs.length data.length ∧ (∀ k ∈ keys, k.length ≤ 9223372036854775807) ∧ RowAt strV w x.kp keys ∧ (0 < keys.length → S (pA x.kp).block) ∧
  RowM acL w x.lp cs ∧ (0 < cs.length → S (pA x.lp).block) ∧ BytesAt w x.dp data ∧ (0 < data.length → S (pA x.dp).block) ∧ cs.length = list.length ∧ ∀ i (h : i < cs.length) (h2 : i < list.length), ARep w S cs[i] list[i] := by
 cases h with
 | mk x keys list data cs ok hkl hk hks hr hrs hd hds hlen hsub => exact ⟨keys, list, data, cs, rfl, ok, hkl, hk, hks, hr, hrs, hd, hds, hlen, hsub⟩
/-- objects that lie in blocks of S -/
structure AInv (w : World) (S : Nat → Prop) (cs : List AC) (acc : List AV) : Prop where
 len : cs.length = acc.length
 sub : ∀ i (h : i < cs.length) (h2 : i < acc.length), ARep w S cs[i] acc[i]
theorem AInv.same {w w1 : World} {S : Nat → Prop} {cs : List AC} {acc : List AV} (h : AInv w S cs acc) (hb : ∀ k, S k → k < w.heap.size → w1.heap[k]? = w.heap[k]?) : AInv w1 S cs acc := ⟨h.len, fun i h1 h2 => (h.sub i h1 h2).same hb⟩
theorem AInv.mono {w : World} {S T : Nat → Prop} {cs : List AC} {acc : List AV} (h : AInv w S cs acc) (hST : ∀ k, S k → k < w.heap.size → T k) : AInv w T cs acc := ⟨h.len, fun i h1 h2 => (h.sub i h1 h2).mono hST⟩
end
section
theorem ObjC_all (p : Option Addr) (l : List UInt8) (c : Nat) (refs : Bool) (hc : l.length ≤ c) (hl : l.length ≤ 100000000) : ∀ (n : Nat) (D : Int), D.toNat ≤ n → -9223372036854775808 < D ∧ D ≤ 1000000000 → ObjC p l c refs D
 | 0, D, hn, hD => plex_object p l c refs hc hl D hD fun h => by omega
 | n + 1, D, hn, hD => plex_object p l c refs hc hl D hD fun h => ObjC_all p l c refs hc hl n (D - 1) oO oO
/-- the errors of objects -/
def Err3 (k : Int) : Prop := k = 23 ∨ k = 24 ∨ k = 25
theorem Err3.ne {k : Int} (h : Err3 k) : k ≠ 0 := by unfold Err3 at h; omega
theorem nameP_err {l : List UInt8} {t : Nat} {k : Int} (h : nameP l t = .error k) : Err3 k := by
 unfold nameP at h
 split at h
 ·
  cases h; exact .inl rfl
 ·
  split at h
  ·
   cases h; exact .inl rfl
  ·
   split at h
   ·
    cases h; exact .inr (.inr rfl)
   ·
    cases h
theorem textR_err {l : List UInt8} {t : Nat} {k : Int} (h : textR l t = .error k) : Err3 k := by
 unfold textR at h
 split at h
 ·
  cases h; exact .inr (.inl rfl)
 ·
  split at h
  ·
   cases h; exact .inr (.inr rfl)
  ·
   split at h
   ·
    cases h; exact .inl rfl
   ·
    cases h
theorem listP_err {obj : Nat → ObjE} {l : List UInt8} (hobj : ∀ t k, obj t = .error k → Err3 k) : ∀ (f : Nat) (acc : List PV) (t : Nat) (k : Int), listP obj l f acc t = .error k → Err3 k
 | 0, _, _, _, h => by cases h; exact .inr (.inl rfl)
 | f + 1, acc, t, k, h => by
  simp only [listP] at h
  split at h
  ·
   cases h; exact .inr (.inl rfl)
  ·
   split at h
   ·
    cases h
   ·
    split at h
    ·
     cases h; exact .inr (.inr rfl)
    ·
     split at h
     ·
      next ho => cases h; exact hobj _ _ ho
     ·
      exact listP_err hobj f _ _ _ h
theorem pairsP_err {obj : Nat → ObjE} {l : List UInt8} (hobj : ∀ t k, obj t = .error k → Err3 k) : ∀ (f : Nat) (ks : List (List UInt8)) (acc : List PV) (t : Nat) (k : Int), pairsP obj l f ks acc t = .error k → Err3 k
 | 0, _, _, _, _, h => by cases h; exact .inr (.inl rfl)
 | f + 1, ks, acc, t, k, h => by
  simp only [pairsP] at h
  split at h
  ·
   cases h; exact .inr (.inl rfl)
  ·
   split at h
   ·
    cases h; exact .inr (.inl rfl)
   ·
    split at h
    ·
     cases h
    ·
     split at h
     ·
      cases h; exact .inl rfl
     ·
      split at h
      ·
       next hn => cases h; exact nameP_err hn
      ·
       split at h
       ·
        cases h; exact .inl rfl
       ·
        split at h
        ·
         cases h; exact .inr (.inr rfl)
        ·
         split at h
         ·
          cases h; exact .inr (.inl rfl)
         ·
          split at h
          ·
           next ho => cases h; exact hobj _ _ ho
          ·
           exact pairsP_err hobj f _ _ _ _ h
theorem objP_err (refs : Bool) (l : List UInt8) : ∀ (d t : Nat) (k : Int), objP refs l d t = .error k → Err3 k := by
 have hname : ∀ t (k : Int), nameO l t = .error k → Err3 k := fun t k h => by
  unfold nameO at h
  split at h
  ·
   next hn => cases h; exact nameP_err hn
  ·
   cases h
 have htext : ∀ t (k : Int), textP l t = .error k → Err3 k := fun t k h => by
  unfold textP at h
  split at h
  ·
   next hn => cases h; exact textR_err hn
  ·
   cases h
 have hplain : ∀ t (k : Int), plainO (plexW refs l t) = .error k → Err3 k := fun t k h => by
  unfold plainO at h
  split at h
  ·
   cases h
  ·
   cases h; exact .inl rfl
 intro d
 induction d with
 | zero =>
  intro t k h
  simp only [objP] at h
  repeat' split at h
  all_goals first | exact hname _ _ h | exact htext _ _ h | exact hplain _ _ h | (cases h; first | exact .inl rfl | exact .inr (.inl rfl) | exact .inr (.inr rfl))
 | succ d ih =>
  have hlist : ∀ t (k : Int), listO (listP (objP refs l d) l (l.length + 1) [] t) = .error k → Err3 k := fun t k h => by
   unfold listO at h
   split at h
   ·
    next hn => cases h; exact listP_err ih _ _ _ _ hn
   ·
    cases h
  have hpairs : ∀ t (k : Int), pairsO (pairsP (objP refs l d) l (l.length + 1) [] [] t) = .error k → Err3 k := fun t k h => by
   unfold pairsO at h
   split at h
   ·
    next hn => cases h; exact pairsP_err ih _ _ _ _ _ hn
   ·
    cases h
  intro t k h
  simp only [objP] at h
  repeat' split at h
  all_goals first | exact hname _ _ h | exact htext _ _ h | exact hplain _ _ h | exact hlist _ _ h | exact hpairs _ _ h | (cases h; first | exact .inl rfl | exact .inr (.inl rfl) | exact .inr (.inr rfl))
end
section
/-- the document's reader in memory -/
def RRd (w : World) (r : Nat) (p : Option Addr) (l : List UInt8) (c t : Nat) (refs : Bool) (e : Int) : Prop := Blk w r #[.slice p l.length c, .int .i64 (t : Int), .bool refs, .int .i64 e] 69 ∧ BytesAt w p l
def errK (e k : Int) : Int := if e = 0 then k else e
theorem r18_fail (r : Nat) (p : Option Addr) (l : List UInt8) (c t : Nat) (refs : Bool) (e k : Int) (w : World) (h : RRd w r p l c t refs e) (hne : 0 < l.length → (pA p).block ≠ r) :
  Calls Tryz.prog 74 #[.pointer (some ⟨r, 0, none⟩), .int .i64 k] w fun e' w' => e' = .returned (.agg (pobj 0 0 []).toArray) ∧ RRd w' r p l c t refs (errK e k) ∧ Touch w.heap.size r w w' := by
 have hr := h.1
 have hb := h.2
 refine W.enter func74 rfl ntmps74 (Nat.le_of_ble_eq_true rfl) ?_
 have hB0 := Touch.refl (w.heap.size) r w
 refine W.sr <| WL.alloc zeroValue31 rfl (fun b1 wb1 eb1 hkb1 hub1 hsb1 => ?_)
 have hl3 : r < b1 := by rw [eb1]; exact hr.lt
 have hk2 := hr.upd hub1 (Nat.ne_of_lt hl3)
 have hvl5 := fun h0 => eb1 ▸ hb.lt h0
 have hv4 := bup hb hub1 hvl5
 have hgeb1 : w.heap.size ≤ b1 := by rw [eb1]; exact hB0.size
 have hB6 := Touch.trans hB0 (Touch.of_new hub1 hgeb1)
 refine WL.nil <| ?_
 refine W.seq <| W.seq ?_
 have hrB : r < b1 := by have := hr.lt; omega
 refine W.reg <| WL.m rfl rfl <| WL.p (.nck rfl) rfl <| WL.p (.fa underlying69 rfl sizeOf35 dD rfl) rfl <| WL.r (Rd.ld (isAgg35 _) rfl hk2 rfl) rfl <| WL.p (.eql rfl rfl) rfl <| WL.nil <| ?_
 refine W.cond rfl (fun h7 => ?_) (fun h7 => ?_)
 have h7' := dT h7
 refine W.reg <| WL.m rfl rfl <| WL.m rfl rfl <| WL.p (.nck rfl) rfl <| WL.p (.fa underlying69 rfl sizeOf35 dD rfl) rfl <| WL.st sizeOf35 rfl rfl rfl hk2 oD (fun w8 hkw8 huw8 hsw8 => ?_)
 have hkw8 : Blk w8 r _ _ := hkw8
 have huw8 : Upd r _ _ := huw8
 have hk9 := hkb1.up huw8
 have hv10 := BytesAt.upd hv4 huw8 hne
 have hB11 := Touch.trans hB6 (Touch.of_upd huw8)
 refine WL.nil <| ?_
 refine W.sr <| WL.p (.buildL (ps := _) blt31 rfl rfl rfl pZ) rfl ?_
 refine WL.stL rfl rfl hk9 isz31 rfl rfl (fun w12 hkw12 huw12 hsw12 => ?_)
 have hk13 := hkw8.up huw12
 have hv14 := bup hv10 huw12 hvl5
 have hB15 := Touch.trans hB11 (Touch.of_new huw12 oO)
 refine WL.nil <| ?_
 refine W.ret (W.retc1 rfl rfl (ldRow hkw12 underlying31 rfl isz31)  ?_)
 exact ⟨rfl, ⟨by unfold errK; rw [if_pos aS]; exact hk13, hv14⟩, hB15⟩
 have h7' := dF h7
 refine W.skip <| W.sr <| WL.p (.buildL (ps := _) blt31 rfl rfl rfl pZ) rfl ?_
 refine WL.stL rfl rfl hkb1 isz31 rfl rfl (fun w16 hkw16 huw16 hsw16 => ?_)
 have hk17 := hk2.up huw16
 have hv18 := bup hv4 huw16 hvl5
 have hB19 := Touch.trans hB6 (Touch.of_new huw16 oO)
 refine WL.nil <| ?_
 refine W.ret (W.retc1 rfl rfl (ldRow hkw16 underlying31 rfl isz31)  ?_)
 exact ⟨rfl, ⟨by unfold errK; rw [if_neg aS]; exact hk17, hv18⟩, hB19⟩
theorem r18_hex (c : UInt8) (w : World) : Calls Tryz.prog 110 #[.int .u8 (c.toNat : Int)] w fun e w' => e = .returned (.int .i64 (digI c)) ∧ w = w' := by
 have hd := digI_cases c
 refine W.enter func110 rfl ntmps110 (Nat.le_of_ble_eq_true rfl) ?_
 refine W.sr <| WL.z rfl rfl ?_
 refine W.sr <| WL.m rfl rfl <| WL.c1 hb153 rfl rfl ((ref_Hex c _)) (fun w1 hw1 => ?_)
 obtain rfl := hw1
 refine WL.z rfl rfl ?_
 refine W.seq <| W.sr <| WL.m rfl rfl <| WL.p (.gtr rfl rfl) rfl <| WL.nil <| ?_
 refine W.cond rfl (fun h2 => ?_) (fun h2 => ?_)
 have h2' := dT h2
 refine W.sr <| WL.z rfl rfl ?_
 refine W.ret (W.ret1 rfl rfl ?_)
 exact ⟨ret_int oO, rfl⟩
 have h2' := dF h2
 refine W.skip <| W.sr <| WL.m rfl rfl <| WL.z rfl rfl ?_
 refine W.ret (W.ret1 rfl rfl ?_)
 exact ⟨ret_int oO, rfl⟩
theorem r18_skip (r : Nat) (p : Option Addr) (l : List UInt8) (c t : Nat) (refs : Bool) (w : World) (h : RRd w r p l c t refs 0) (hne : 0 < l.length → (pA p).block ≠ r) (hl : l.length ≤ 100000000) (ht : t ≤ l.length) :
  Calls Tryz.prog 112 #[.pointer (some ⟨r, 0, none⟩)] w fun e' w' => e' = .returned (.bool (decide (skipAt false l t < l.length))) ∧ RRd w' r p l c (skipAt false l t) refs (if skipAt false l t < l.length then 0 else 24) ∧ Touch w.heap.size r w w' := by
 have hr := h.1
 have hb := h.2
 obtain ⟨s, hs⟩ : ∃ s, s = skipAt false l t := ⟨_, rfl⟩
 have hS : ∀ w1, BytesAt w1 p l → Calls Tryz.prog 14 #[.slice p l.length c, .int .i64 (t : Int)] w1 fun e w' => e = .returned (.int .i64 (s : Int)) ∧ w1 = w' := fun w1 h1 => by rw [hs]; exact ref_Skip p l c t w1 h1 ht hl
 rw [← hs]
 refine W.enter func112 rfl ntmps112 (Nat.le_of_ble_eq_true rfl) ?_
 have hB0 := Touch.refl (w.heap.size) r w
 refine W.sr <| WL.z rfl rfl ?_
 refine W.seq <| W.regY 13 rfl mixed (fun w1 dw1 => ?_)
 have hk2 := hr.drew dw1
 have hv3 := hb.drew dw1
 have hB4 := Touch.trans hB0 (Touch.of_drew dw1)
 refine WY.tk 0 rfl (.mv rfl) rfl ?_
 refine WY.tk 1 rfl (.mv rfl) rfl ?_
 refine WY.tk 2 rfl (.nck rfl) rfl ?_
 refine WY.tk 3 rfl (.fa underlying69 rfl sizeOf22 dD rfl) rfl ?_
 refine WY.tk 5 rfl (.mv rfl) rfl ?_
 refine WY.tk 6 rfl (.nck rfl) rfl ?_
 refine WY.tk 7 rfl (.fa underlying69 rfl sizeOf3 dD rfl) rfl ?_
 refine WY.br2 4 rfl 8 rfl ?_ ?_
 refine WL.r (Rd.ld (isAgg22 _) rfl hk2 rfl) rfl <| WL.nil <| ?_
 refine WY.br1 8 rfl ?_
 refine WL.r (Rd.ld (isAgg3 _) rfl hk2 rfl) rfl <| WL.nil <| ?_
 refine WY.br1 9 rfl ?_
 refine WL.c1 hb14 rfl rfl ((hS _ hv3)) (fun w5 hw5 => ?_)
 obtain rfl := hw5
 refine WL.nil <| ?_
 refine WY.tk 10 rfl (.nck rfl) rfl ?_
 refine WY.tk 11 rfl (.fa underlying69 rfl sizeOf3 dD rfl) rfl ?_
 refine WY.br1 12 rfl ?_
 refine WL.st sizeOf3 rfl rfl rfl hk2 oD (fun w6 hkw6 huw6 hsw6 => ?_)
 have hkw6 : Blk w6 r _ _ := hkw6
 have huw6 : Upd r _ _ := huw6
 have hv7 := BytesAt.upd hv3 huw6 hne
 have hB8 := Touch.trans hB4 (Touch.of_upd huw6)
 refine WL.nil <| ?_
 refine WY.done kR ?_
 refine W.seq <| W.seq <| W.regY 10 rfl mixed (fun w9 dw9 => ?_)
 have hk10 := hkw6.drew dw9
 have hv11 := hv7.drew dw9
 have hB12 := Touch.trans hB8 (Touch.of_drew dw9)
 refine WY.tk 0 rfl (.mv rfl) rfl ?_
 refine WY.tk 1 rfl (.nck rfl) rfl ?_
 refine WY.tk 2 rfl (.fa underlying69 rfl sizeOf3 dD rfl) rfl ?_
 refine WY.tk 4 rfl (.mv rfl) rfl ?_
 refine WY.tk 5 rfl (.nck rfl) rfl ?_
 refine WY.tk 6 rfl (.fa underlying69 rfl sizeOf22 dD rfl) rfl ?_
 refine WY.br2 3 rfl 7 rfl ?_ ?_
 refine WL.r (Rd.ld (isAgg3 _) rfl hk10 rfl) rfl <| WL.nil <| ?_
 refine WY.br1 7 rfl ?_
 refine WL.r (Rd.ld (isAgg22 _) rfl hk10 rfl) rfl <| WL.nil <| ?_
 refine WY.tk 8 rfl (.lenS underlying22 rfl) rfl ?_
 refine WY.tk 9 rfl (.geq rfl rfl) rfl ?_
 refine WY.done kR ?_
 refine W.cond rfl (fun h13 => ?_) (fun h13 => ?_)
 have h13' := dT h13
 refine W.sr <| WL.m rfl rfl <| WL.c1 hb74 rfl rfl ((r18_fail r p l c s refs 0 24 _ ⟨hk10, hv11⟩ hne)) (fun w14 hw14 => ?_)
 have hk15 := hw14.1.1
 have hv16 := hw14.1.2
 have hB17 := Touch.trans hB12 (Touch.mono hw14.2 hB12.size)
 refine WL.nil <| ?_
 refine W.sr <| WL.z rfl rfl ?_
 refine W.ret (W.ret1 rfl rfl ?_)
 exact ⟨ret_bool (by simp; omega), ⟨by rw [if_neg oO]; exact hk15, hv16⟩, hB17⟩
 have h13' := dF h13
 refine W.skip <| W.sr <| WL.z rfl rfl ?_
 refine W.ret (W.ret1 rfl rfl ?_)
 exact ⟨ret_bool (by simp; omega), ⟨by rw [if_pos oO]; exact hk10, hv11⟩, hB12⟩
 refine WL.r (Rd.ld (isAgg22 _) rfl hk10 rfl) rfl <| WL.nil <| ?_
 refine WY.tk 8 rfl (.lenS underlying22 rfl) rfl ?_
 refine WY.br1 3 rfl ?_
 refine WL.r (Rd.ld (isAgg3 _) rfl hk10 rfl) rfl <| WL.nil <| ?_
 refine WY.tk 9 rfl (.geq rfl rfl) rfl ?_
 refine WY.done kR ?_
 refine W.cond rfl (fun h18 => ?_) (fun h18 => ?_)
 have h18' := dT h18
 refine W.sr <| WL.m rfl rfl <| WL.c1 hb74 rfl rfl ((r18_fail r p l c s refs 0 24 _ ⟨hk10, hv11⟩ hne)) (fun w19 hw19 => ?_)
 have hk20 := hw19.1.1
 have hv21 := hw19.1.2
 have hB22 := Touch.trans hB12 (Touch.mono hw19.2 hB12.size)
 refine WL.nil <| ?_
 refine W.sr <| WL.z rfl rfl ?_
 refine W.ret (W.ret1 rfl rfl ?_)
 exact ⟨ret_bool (by simp; omega), ⟨by rw [if_neg oO]; exact hk20, hv21⟩, hB22⟩
 have h18' := dF h18
 refine W.skip <| W.sr <| WL.z rfl rfl ?_
 refine W.ret (W.ret1 rfl rfl ?_)
 exact ⟨ret_bool (by simp; omega), ⟨by rw [if_pos oO]; exact hk10, hv11⟩, hB12⟩
 refine WL.r (Rd.ld (isAgg3 _) rfl hk2 rfl) rfl <| WL.nil <| ?_
 refine WY.br1 4 rfl ?_
 refine WL.r (Rd.ld (isAgg22 _) rfl hk2 rfl) rfl <| WL.nil <| ?_
 refine WY.br1 9 rfl ?_
 refine WL.c1 hb14 rfl rfl ((hS _ hv3)) (fun w23 hw23 => ?_)
 obtain rfl := hw23
 refine WL.nil <| ?_
 refine WY.tk 10 rfl (.nck rfl) rfl ?_
 refine WY.tk 11 rfl (.fa underlying69 rfl sizeOf3 dD rfl) rfl ?_
 refine WY.br1 12 rfl ?_
 refine WL.st sizeOf3 rfl rfl rfl hk2 oD (fun w24 hkw24 huw24 hsw24 => ?_)
 have hkw24 : Blk w24 r _ _ := hkw24
 have huw24 : Upd r _ _ := huw24
 have hv25 := BytesAt.upd hv3 huw24 hne
 have hB26 := Touch.trans hB4 (Touch.of_upd huw24)
 refine WL.nil <| ?_
 refine WY.done kR ?_
 refine W.seq <| W.seq <| W.regY 10 rfl mixed (fun w27 dw27 => ?_)
 have hk28 := hkw24.drew dw27
 have hv29 := hv25.drew dw27
 have hB30 := Touch.trans hB26 (Touch.of_drew dw27)
 refine WY.tk 0 rfl (.mv rfl) rfl ?_
 refine WY.tk 1 rfl (.nck rfl) rfl ?_
 refine WY.tk 2 rfl (.fa underlying69 rfl sizeOf3 dD rfl) rfl ?_
 refine WY.tk 4 rfl (.mv rfl) rfl ?_
 refine WY.tk 5 rfl (.nck rfl) rfl ?_
 refine WY.tk 6 rfl (.fa underlying69 rfl sizeOf22 dD rfl) rfl ?_
 refine WY.br2 3 rfl 7 rfl ?_ ?_
 refine WL.r (Rd.ld (isAgg3 _) rfl hk28 rfl) rfl <| WL.nil <| ?_
 refine WY.br1 7 rfl ?_
 refine WL.r (Rd.ld (isAgg22 _) rfl hk28 rfl) rfl <| WL.nil <| ?_
 refine WY.tk 8 rfl (.lenS underlying22 rfl) rfl ?_
 refine WY.tk 9 rfl (.geq rfl rfl) rfl ?_
 refine WY.done kR ?_
 refine W.cond rfl (fun h31 => ?_) (fun h31 => ?_)
 have h31' := dT h31
 refine W.sr <| WL.m rfl rfl <| WL.c1 hb74 rfl rfl ((r18_fail r p l c s refs 0 24 _ ⟨hk28, hv29⟩ hne)) (fun w32 hw32 => ?_)
 have hk33 := hw32.1.1
 have hv34 := hw32.1.2
 have hB35 := Touch.trans hB30 (Touch.mono hw32.2 hB30.size)
 refine WL.nil <| ?_
 refine W.sr <| WL.z rfl rfl ?_
 refine W.ret (W.ret1 rfl rfl ?_)
 exact ⟨ret_bool (by simp; omega), ⟨by rw [if_neg oO]; exact hk33, hv34⟩, hB35⟩
 have h31' := dF h31
 refine W.skip <| W.sr <| WL.z rfl rfl ?_
 refine W.ret (W.ret1 rfl rfl ?_)
 exact ⟨ret_bool (by simp; omega), ⟨by rw [if_pos oO]; exact hk28, hv29⟩, hB30⟩
 refine WL.r (Rd.ld (isAgg22 _) rfl hk28 rfl) rfl <| WL.nil <| ?_
 refine WY.tk 8 rfl (.lenS underlying22 rfl) rfl ?_
 refine WY.br1 3 rfl ?_
 refine WL.r (Rd.ld (isAgg3 _) rfl hk28 rfl) rfl <| WL.nil <| ?_
 refine WY.tk 9 rfl (.geq rfl rfl) rfl ?_
 refine WY.done kR ?_
 refine W.cond rfl (fun h36 => ?_) (fun h36 => ?_)
 have h36' := dT h36
 refine W.sr <| WL.m rfl rfl <| WL.c1 hb74 rfl rfl ((r18_fail r p l c s refs 0 24 _ ⟨hk28, hv29⟩ hne)) (fun w37 hw37 => ?_)
 have hk38 := hw37.1.1
 have hv39 := hw37.1.2
 have hB40 := Touch.trans hB30 (Touch.mono hw37.2 hB30.size)
 refine WL.nil <| ?_
 refine W.sr <| WL.z rfl rfl ?_
 refine W.ret (W.ret1 rfl rfl ?_)
 exact ⟨ret_bool (by simp; omega), ⟨by rw [if_neg oO]; exact hk38, hv39⟩, hB40⟩
 have h36' := dF h36
 refine W.skip <| W.sr <| WL.z rfl rfl ?_
 refine W.ret (W.ret1 rfl rfl ?_)
 exact ⟨ret_bool (by simp; omega), ⟨by rw [if_pos oO]; exact hk28, hv29⟩, hB30⟩
theorem r18_word (r : Nat) (p : Option Addr) (l : List UInt8) (c t : Nat) (refs : Bool) (e : Int) (a : Nat) (w : World) (h : RRd w r p l c t refs e) (hl : l.length ≤ 100000000) (hc : l.length ≤ c) (ha : a ≤ l.length) :
  Calls Tryz.prog 79 #[.pointer (some ⟨r, 0, none⟩), .int .i64 (a : Int)] w fun e' w' => e' = .returned (.tuple #[.string (bs (wordL l (skipAt false l a))), .int .i64 (wordAt l (skipAt false l a) : Int)]) ∧ w = w' := by
 have hr := h.1
 have hb := h.2
 obtain ⟨s, hs⟩ : ∃ s, s = skipAt false l a := ⟨_, rfl⟩
 have hsl : s ≤ l.length := by rw [hs]; exact skipAt_le _ _ _
 have hwl := wordAt_le l s hsl
 have hS : ∀ w1, BytesAt w1 p l → Calls Tryz.prog 14 #[.slice p l.length c, .int .i64 (a : Int)] w1 fun e w' => e = .returned (.int .i64 (s : Int)) ∧ w1 = w' := fun w1 h1 => by rw [hs]; exact ref_Skip p l c a w1 h1 ha hl
 rw [← hs]
 refine W.enter func79 rfl ntmps79 (Nat.le_of_ble_eq_true rfl) ?_
 refine W.sr <| WL.a rfl rfl <| WL.z rfl rfl ?_
 refine W.sr <| WL.m rfl rfl <| WL.p (.nck rfl) rfl <| WL.p (.fa underlying69 rfl sizeOf22 dD rfl) rfl <| WL.r (Rd.ld (isAgg22 _) rfl hr rfl) rfl <| WL.m rfl rfl <| WL.c1 hb14 rfl rfl ((hS _ hb)) (fun w1 hw1 => ?_)
 obtain rfl := hw1
 refine WL.z rfl rfl ?_
 refine W.sr <| WL.m rfl rfl <| WL.p (.nck rfl) rfl <| WL.p (.fa underlying69 rfl sizeOf22 dD rfl) rfl <| WL.r (Rd.ld (isAgg22 _) rfl hr rfl) rfl <| WL.m rfl rfl <| WL.c1 hb12 rfl rfl ((ref_Word p l c s _ hb hsl hl)) (fun w2 hw2 => ?_)
 obtain rfl := hw2
 refine WL.z rfl rfl ?_
 refine W.sr <| WL.m rfl rfl <| WL.p (.nck rfl) rfl <| WL.p (.fa underlying69 rfl sizeOf22 dD rfl) rfl <| WL.r (Rd.ld (isAgg22 _) rfl hr rfl) rfl <| WL.m rfl rfl <| WL.m rfl rfl <| WL.p (.slb underlying22 sizeOf5 rfl rfl rfl  (s) (wordAt l s) (rfl) oO oO oO) rfl <| WL.r (Rd.b2sPart underlying22 underlying5 underlying9 rfl rfl hb oO oO oO) rfl <| WL.m rfl rfl <| WL.a rfl rfl <| WL.z rfl rfl ?_
 refine W.ret (W.ret2 rfl rfl rfl ?_)
 exact ⟨rfl, rfl⟩
theorem realL2_kind (l : List UInt8) : (realL2 l).kind ≠ 1 := by
 unfold realL2 finL
 repeat' split
 all_goals (intro h; cases h)
theorem radixL_pm {s : List UInt8} (h : s.all pmDig = true) : (radixL s).ok = false := by
 have h35 : (35 : UInt8) ∉ s := fun hm => by
  have := List.all_eq_true.1 h _ hm
  exact absurd this dD
 unfold radixL radixOk
 rw [cutC_no 35 s h35]
 rfl
/-- a sign, perhaps, and digits -/
def intOk (s : List UInt8) : Bool := !(signedL s).2.isEmpty && (signedL s).2.all isDig
theorem intOk_pm {s : List UInt8} (h : intOk s = true) : s.all pmDig = true := by
 unfold intOk at h
 rw [Bool.and_eq_true] at h
 have hd : ∀ r : List UInt8, r.all isDig = true → r.all pmDig = true := fun r hr => List.all_eq_true.2 fun x hx => by
  have := List.all_eq_true.1 hr x hx
  unfold pmDig; rw [this]; rfl
 cases s with
 | nil => rfl
 | cons c r =>
  have h2 := h.2
  simp only [signedL] at h2
  split at h2
  ·
   next hc => subst hc; rw [List.all_cons, hd r h2]; decide
  ·
   split at h2
   ·
    next hc => subst hc; rw [List.all_cons, hd r h2]; decide
   ·
    exact hd _ h2
theorem pm_intOk {s : List UInt8} (h : s.all pmDig = true) (ho : (tokenL s).ok = true) (hk : (tokenL s).kind = 1) : intOk s = true := by
 unfold tokenL at ho hk
 rw [radixL_pm h] at ho hk
 simp only [Bool.false_eq_true, if_false] at ho hk
 split at ho
 ·
  cases ho
 ·
  next hn =>
  rw [if_neg hn] at hk
  split at ho
  ·
   next hw =>
   unfold wholeT at hw
   split at hw
   ·
    cases hw
   ·
    next hx => unfold intOk; cases h1 : (signedL s).2.isEmpty <;> cases h2 : (signedL s).2.all isDig <;> rw [h1, h2] at hx <;> first | rfl | exact absurd rfl hx
  ·
   next hw => rw [if_neg hw] at hk; exact absurd hk (realL2_kind s)
theorem numR_int (s : List UInt8) : numR s = if s.contains 46 then (3, (parseP s).1, (parseP s).2) else if intOk s && ((tokenL s).ok && decide ((tokenL s).e = 0) && decide ((tokenL s).kind = 1)) then (2, (tokenL s).n, true) else (0, 0, false) := by
 unfold numR
 split
 ·
  rfl
 ·
  have : ((tokenL s).ok && decide ((tokenL s).e = 0) && decide ((tokenL s).kind = 1) && s.all pmDig) = (intOk s && ((tokenL s).ok && decide ((tokenL s).e = 0) && decide ((tokenL s).kind = 1))) := by
   rw [Bool.eq_iff_iff]
   simp only [Bool.and_eq_true, decide_eq_true_eq]
   exact ⟨fun h => ⟨pm_intOk h.2 h.1.1.1 h.1.2, h.1⟩, fun h => ⟨h.2, intOk_pm h.1⟩⟩
  rw [this]
end
section
theorem contains_step (l : List UInt8) (i : Nat) (h : i < l.length) : (l.take (i + 1)).contains 46 = ((l.take i).contains 46 || decide ((l[i].toNat : Int) = 46)) := by
 rw [List.take_succ_eq_append_getElem h, Bool.eq_iff_iff]
 simp only [List.contains_append, Bool.or_eq_true, decide_eq_true_eq]
 constructor
 ·
  rintro (h1 | h1)
  ·
   exact .inl h1
  ·
   refine .inr ?_
   simp at h1
   rw [← h1]; rfl
 ·
  rintro (h1 | h1)
  ·
   exact .inl h1
  ·
   refine .inr ?_
   rw [u8_eq (d := 46) h1]; simp
theorem signedL_drop {s : List UInt8} (h : 0 < s.length) (hc : s[0] = 43 ∨ s[0] = 45) : (signedL s).2 = s.drop 1 := by
 cases s with
 | nil => simp at h
 | cons c r =>
  simp only [List.getElem_cons_zero] at hc
  simp only [signedL]
  split
  ·
   rfl
  ·
   split
   ·
    rfl
   ·
    next h1 h2 => exact absurd hc (by rintro (h | h); exact h2 h; exact h1 h)
theorem signedL_same {s : List UInt8} (hc : ∀ h : 0 < s.length, ¬ (s[0] = 43 ∨ s[0] = 45)) : (signedL s).2 = s := by
 cases s with
 | nil => rfl
 | cons c r =>
  have hc := hc (by simp)
  simp only [List.getElem_cons_zero] at hc
  simp only [signedL]
  split
  ·
   next h1 => exact absurd (.inr h1) hc
  ·
   split
   ·
    next h1 => exact absurd (.inl h1) hc
   ·
    rfl
theorem digN_eq (l : List UInt8) : decide ((digN l : Int) = l.length) = l.all isDig := by
 rw [digN_all, Bool.eq_iff_iff]
 have := digN_le l
 rw [List.isEmpty_iff, List.drop_eq_nil_iff, decide_eq_true_eq]
 omega
theorem r18_Number (s : List UInt8) (w : World) (hl : s.length ≤ 100000000) :
  Calls Tryz.prog 81 #[.string (bs s)] w fun e w' => e = .returned (.tuple #[.agg (pobj (numR s).1 (numR s).2.1 []).toArray, .bool (numR s).2.2]) ∧ Below w.heap.size w w' := by
 obtain ⟨T, hT⟩ : ∃ T, T = tokenL s := ⟨_, rfl⟩
 have hTc : ∀ w, Calls Tryz.prog 118 #[.string (bs s)] w fun e w' => e = .returned T.val ∧ Below w.heap.size w w' := fun w => by rw [hT]; exact ref_Token _ w
 have hN := numR_int s
 rw [← hT] at hN
 have hsg : (signedL s).2.length ≤ s.length := by cases s with
  | nil => exact Nat.le_refl _
  | cons c r => simp only [signedL]; split; simp; split; simp; simp
 refine W.enter func81 rfl ntmps81 (Nat.le_of_ble_eq_true rfl) ?_
 have hB0 := Below.refl (w.heap.size) w
 refine W.sr <| WL.alloc zeroValue31 rfl (fun b1 wb1 eb1 hkb1 hub1 hsb1 => ?_)
 have hB2 := Upd.below hB0 (by rw [eb1]; exact hB0.size) hub1
 have hgeb1 : w.heap.size ≤ b1 := by rw [eb1]; exact hB0.size
 refine WL.z rfl rfl ?_
 refine W.sr <| WL.z rfl rfl ?_
 refine W.seq <| W.sr <| WL.z rfl rfl ?_
 refine W.block ?_
 refine W.loop (α := Nat) (fun t => [(0, .string (bs s)), (2, .pointer (some ⟨b1, 0, none⟩)), (4, .bool ((s.take t).contains 46)), (5, .int .i64 (t : Int))]) (fun t w' => Below w.heap.size w w' ∧ Blk w' b1 (pobj 0 0 []).toArray 31 ∧ t ≤ s.length) (fun t => s.length - t) (0) ⟨rfl, rfl, rfl, rfl, trivial⟩ (⟨hB2, hkb1, Nat.zero_le _⟩) (fun t w1 hR => ?_)
 obtain ⟨hT1, hk1, htl⟩ := hR
 refine W.seq <| W.sr <| WL.m rfl rfl <| WL.m rfl rfl <| WL.p (.len underlying9 rfl) rfl <| WL.p (.lss rfl rfl) rfl <| WL.nil <| ?_
 refine W.cond rfl (fun h3 => ?_) (fun h3 => ?_)
 have h3' := dT h3
 refine W.skip <| W.seq <| W.block <| W.reg <| WL.m rfl rfl <| WL.m rfl rfl <| WL.gd rfl rfl rfl (fun g4 => ?_) (fun g4 => ?_)
 refine WL.m rfl rfl <| WL.gy rfl rfl rfl g4 <| WL.m rfl rfl <| WL.gy rfl rfl rfl g4 <| WL.p (.ix underlying9 rfl rfl (t) (rfl) oO) rfl <| WL.gy rfl rfl rfl g4 <| WL.p (.eql rfl rfl) rfl <| WL.p (.pkF rfl g4 rfl) rfl <| WL.z rfl rfl ?_
 refine W.reg <| WL.m rfl rfl <| WL.p (.add rfl rfl (i64w oO)) rfl <| WL.z rfl rfl ?_
 exact ⟨t + 1, ⟨rfl, rfl, lk_b rfl (by rw [contains_step s t oO, show (s.take t).contains 46 = _ by assumption]; rfl), rfl, trivial⟩, ⟨hT1, hk1, by omega⟩, by omega⟩
 refine WL.gn rfl rfl rfl g4 <| WL.gn rfl rfl rfl g4 <| WL.gn rfl rfl rfl g4 <| WL.p (.pkT rfl g4 rfl) rfl <| WL.z rfl rfl ?_
 refine W.reg <| WL.m rfl rfl <| WL.p (.add rfl rfl (i64w oO)) rfl <| WL.z rfl rfl ?_
 exact ⟨t + 1, ⟨rfl, rfl, lk_b rfl (by rw [contains_step s t oO, show (s.take t).contains 46 = _ by assumption]; rfl), rfl, trivial⟩, ⟨hT1, hk1, by omega⟩, by omega⟩
 have h3' := dF h3
 have hfull : s.take t = s := List.take_of_length_le oO
 refine W.exit <| W.seq <| W.sr <| WL.m rfl rfl <| WL.nil <| ?_
 refine W.cond rfl (fun h5 => ?_) (fun h5 => ?_)
 rw [if_pos (by rw [← hfull]; assumption)] at hN
 refine W.sr <| WL.m rfl rfl <| WL.c1 hb117 rfl rfl ((ref_Parse s _)) (fun w6 hw6 => ?_)
 have hk7 := hk1.below hw6 hk1.lt
 have hB8 := btr hT1 hw6
 refine WL.m rfl rfl <| WL.p (.ext rfl rfl) rfl <| WL.p (.ext rfl rfl) rfl <| WL.a rfl rfl <| WL.z rfl rfl ?_
 refine W.sr <| WL.m rfl rfl <| ?_
 refine WL.p (.buildL (ps := _) blt31 rfl rfl rfl pS) rfl ?_
 refine WL.m rfl rfl <| WL.stL rfl rfl hk7 isz31 rfl rfl (fun w9 hkw9 huw9 hsw9 => ?_)
 have hB10 := Upd.below hB8 oO huw9
 refine WL.z rfl rfl ?_
 refine W.ret (W.retc2 rfl rfl (ldRow hkw9 underlying31 rfl isz31) rfl ?_)
 exact ⟨ret_val (by rw [hN]; rfl), hB10⟩
 rw [if_neg (by rw [← hfull]; exact bF aS)] at hN
 refine W.skip <| W.sr <| WL.m rfl rfl <| WL.z rfl rfl ?_
 refine W.cut (α := Unit) (fun t => [(0, .string (bs s)), (2, .pointer (some ⟨b1, 0, none⟩)), (8, .string (bs (signedL s).2))]) (fun t w' => Below w.heap.size w w' ∧ Blk w' b1 (pobj 0 0 []).toArray 31) ?_ (fun t w1 hR => ?_)
 refine W.sr <| WL.m rfl rfl <| WL.p (.len underlying9 rfl) rfl <| WL.p (.gtr rfl rfl) rfl <| WL.m rfl rfl <| WL.gd rfl rfl rfl (fun g11 => ?_) (fun g11 => ?_)
 have g11' := dT g11
 refine WL.m rfl rfl <| WL.gy rfl rfl rfl g11 <| WL.p (.ix underlying9 rfl rfl 0 rfl oO) rfl <| WL.gy rfl rfl rfl g11 <| WL.p (.eql rfl rfl) rfl <| WL.gy rfl rfl rfl g11 <| WL.m rfl rfl <| WL.gd rfl rfl rfl (fun g12 => ?_) (fun g12 => ?_)
 have g12' := dF g12
 refine WL.m rfl rfl <| WL.gy rfl rfl rfl g12 <| WL.p (.ix underlying9 rfl rfl 0 rfl oO) rfl <| WL.gy rfl rfl rfl g12 <| WL.p (.eql rfl rfl) rfl <| WL.gy rfl rfl rfl g11 <| WL.p (.pkF rfl g12 rfl) rfl <| WL.p (.pkT rfl g11 rfl) rfl <| WL.nil <| ?_
 refine W.cond rfl (fun h13 => ?_) (fun h13 => ?_)
 have h13' := dT h13
 refine W.reg <| WL.m rfl rfl <| WL.p (.slF underlying9 rfl rfl 1 rfl oO) rfl <| WL.z rfl rfl ?_
 exact ⟨(), ⟨rfl, rfl, lk_s rfl (signedL_drop oO (.inr (u8_eq (d := 45) aS))).symm, trivial⟩, hT1, hk1⟩
 have h13' := dF h13
 refine W.skip ?_
 exact ⟨(), ⟨rfl, rfl, lk_s rfl (signedL_same fun h => not_or.2 ⟨u8_ne (d := 43) aS, u8_ne (d := 45) aS⟩).symm, trivial⟩, hT1, hk1⟩
 have g12' := dT g12
 refine WL.gn rfl rfl rfl g12 <| WL.gn rfl rfl rfl g12 <| WL.gy rfl rfl rfl g11 <| WL.p (.pkT rfl g12 rfl) rfl <| WL.p (.pkT rfl g11 rfl) rfl <| WL.nil <| ?_
 refine W.condT rfl rfl ?_
 refine W.reg <| WL.m rfl rfl <| WL.p (.slF underlying9 rfl rfl 1 rfl oO) rfl <| WL.z rfl rfl ?_
 exact ⟨(), ⟨rfl, rfl, lk_s rfl (signedL_drop oO (.inl (u8_eq (d := 43) aS))).symm, trivial⟩, hT1, hk1⟩
 have g11' := dF g11
 refine WL.gn rfl rfl rfl g11 <| WL.gn rfl rfl rfl g11 <| WL.gn rfl rfl rfl g11 <| WL.gu rfl rfl rfl <| WL.gu rfl rfl rfl <| WL.gu rfl rfl rfl <| WL.gn rfl rfl rfl g11 <| WL.p (.pkF rfl g11 rfl) rfl <| WL.nil <| ?_
 refine W.condF rfl rfl ?_
 refine W.skip ?_
 exact ⟨(), ⟨rfl, rfl, lk_s rfl (signedL_same fun h => absurd h oO).symm, trivial⟩, hT1, hk1⟩
 obtain ⟨hT1, hk1⟩ := hR
 refine W.seq ?_
 refine W.cutB 59 (!intOk s) ?_ ?_
 refine W.reg <| WL.m rfl rfl <| WL.p (.len underlying9 rfl) rfl <| WL.p (.eql rfl rfl) rfl <| WL.m rfl rfl <| WL.gd rfl rfl rfl (fun g14 => ?_) (fun g14 => ?_)
 have g14' := dF g14
 refine WL.m rfl rfl <| WL.gy rfl rfl rfl g14 <| WL.c1 hb80 rfl rfl ((ref_Digits (signedL s).2 _ oO)) (fun w15 hw15 => ?_)
 obtain rfl := hw15
 refine WL.gy rfl rfl rfl g14 <| WL.m rfl rfl <| WL.gy rfl rfl rfl g14 <| WL.p (.len underlying9 rfl) rfl <| WL.gy rfl rfl rfl g14 <| WL.p (.neq rfl rfl) rfl <| WL.p (.pkF rfl g14 rfl) rfl <| WL.nil <| ?_
 exact ⟨leE (lk_b rfl (by (have hq := digN_eq (signedL s).2; unfold intOk; rw [← hq]; cases hs : (signedL s).2 <;> simp_all <;> omega))), rfl⟩
 have g14' := dT g14
 refine WL.gn rfl rfl rfl g14 <| WL.gn rfl rfl rfl g14 <| WL.gn rfl rfl rfl g14 <| WL.gn rfl rfl rfl g14 <| WL.p (.pkT rfl g14 rfl) rfl <| WL.nil <| ?_
 exact ⟨leE (lk_b rfl (by (have hq := digN_eq (signedL s).2; unfold intOk; rw [← hq]; cases hs : (signedL s).2 <;> simp_all <;> omega))), rfl⟩
 refine W.cond rfl (fun h16 => ?_) (fun h16 => ?_)
 rw [show intOk s = false from nT aS, Bool.false_and, if_neg (by simp)] at hN
 refine W.sr <| WL.p (.buildL (ps := _) blt31 rfl rfl rfl pZ) rfl ?_
 refine WL.stL rfl rfl hk1 isz31 rfl rfl (fun w17 hkw17 huw17 hsw17 => ?_)
 have hB18 := Upd.below hT1 oO huw17
 refine WL.z rfl rfl ?_
 refine W.ret (W.retc2 rfl rfl (ldRow hkw17 underlying31 rfl isz31) rfl ?_)
 exact ⟨ret_val (by rw [hN]; rfl), hB18⟩
 rw [show intOk s = true from nF aS, Bool.true_and] at hN
 refine W.skip <| W.sr <| WL.m rfl rfl <| WL.c1 hb118 rfl rfl ((hTc _)) (fun w19 hw19 => ?_)
 have hk20 := hk1.below hw19 hk1.lt
 have hB21 := btr hT1 hw19
 refine WL.m rfl rfl <| WL.p (.ext rfl rfl) rfl <| WL.p (.ext rfl rfl) rfl <| WL.p (.ext rfl rfl) rfl <| WL.alloc zeroValue143 rfl (fun b22 wb22 eb22 hkb22 hub22 hsb22 => ?_)
 have hl24 : b1 < b22 := by rw [eb22]; exact hk20.lt
 have hk23 := hk20.upd hub22 (Nat.ne_of_lt hl24)
 have hB25 := Upd.below hB21 (by rw [eb22]; exact hB21.size) hub22
 have hgeb22 : w.heap.size ≤ b22 := by rw [eb22]; exact hB21.size
 refine WL.stL rfl rfl hkb22 isz143 rfl rfl (fun w26 hkw26 huw26 hsw26 => ?_)
 have hk27 := hk23.up huw26
 have hB28 := Upd.below hB25 oO huw26
 refine WL.a rfl rfl <| WL.z rfl rfl ?_
 refine W.seq ?_
 refine W.cutB 77 (!(T.ok && decide (T.e = 0) && decide (T.kind = 1))) ?_ ?_
 refine W.reg <| WL.m rfl rfl <| WL.p (.not rfl) rfl <| WL.m rfl rfl <| WL.gd rfl rfl rfl (fun g29 => ?_) (fun g29 => ?_)
 have g29' := (nF g29)
 refine WL.m rfl rfl <| WL.gy rfl rfl rfl (by rw [(nF g29)] <;> rfl) <| WL.p (.neq rfl rfl) rfl <| WL.p (.pkF rfl (by rw [(nF g29)] <;> rfl) rfl) rfl <| WL.m rfl rfl <| WL.gd rfl rfl rfl (fun g30 => ?_) (fun g30 => ?_)
 have g30' := ndF g30
 refine WL.p (.fa underlying143 rfl sizeOf3 dD rfl) rfl <| WL.gy rfl rfl rfl g30 <| WL.r (Rd.ld (isAgg3 _) rfl hkw26 rfl) rfl <| WL.gy rfl rfl rfl g30 <| WL.p (.neq rfl rfl) rfl <| WL.p (.pkF rfl g30 rfl) rfl <| WL.nil <| ?_
 exact ⟨leE (lk_b rfl (by (clear hN hT hTc; simp_all))), rfl⟩
 have g30' := ndT g30
 refine WL.gn rfl rfl rfl g30 <| WL.gn rfl rfl rfl g30 <| WL.p (.pkT rfl g30 rfl) rfl <| WL.nil <| ?_
 exact ⟨leE (lk_b rfl (by (clear hN hT hTc; simp_all))), rfl⟩
 have g29' := (nT g29)
 refine WL.gn rfl rfl rfl (by rw [(nT g29)] <;> rfl) <| WL.p (.pkT rfl (by rw [(nT g29)] <;> rfl) rfl) rfl <| WL.m rfl rfl <| WL.gn rfl rfl rfl rfl <| WL.gn rfl rfl rfl rfl <| WL.gn rfl rfl rfl rfl <| WL.p (.pkT rfl rfl rfl) rfl <| WL.nil <| ?_
 exact ⟨leE (lk_b rfl (by (clear hN hT hTc; simp_all))), rfl⟩
 refine W.cond rfl (fun h31 => ?_) (fun h31 => ?_)
 rw [show (T.ok && decide (T.e = 0) && decide (T.kind = 1)) = false from nT aS, if_neg (by simp)] at hN
 refine W.sr <| WL.p (.buildL (ps := _) blt31 rfl rfl rfl pZ) rfl ?_
 refine WL.stL rfl rfl hk27 isz31 rfl rfl (fun w32 hkw32 huw32 hsw32 => ?_)
 have hB34 := Upd.below hB28 oO huw32
 refine WL.z rfl rfl ?_
 refine W.ret (W.retc2 rfl rfl (ldRow hkw32 underlying31 rfl isz31) rfl ?_)
 exact ⟨ret_val (by rw [hN]; rfl), hB34⟩
 rw [show (T.ok && decide (T.e = 0) && decide (T.kind = 1)) = true from nF aS, if_pos rfl] at hN
 refine W.skip <| W.sr <| WL.p (.fa underlying143 rfl sizeOf3 dD rfl) rfl <| WL.r (Rd.ld (isAgg3 _) rfl hkw26 rfl) rfl <| ?_
 refine WL.p (.buildL (ps := _) blt31 rfl rfl rfl pS) rfl ?_
 refine WL.stL rfl rfl hk27 isz31 rfl rfl (fun w35 hkw35 huw35 hsw35 => ?_)
 have hB37 := Upd.below hB28 oO huw35
 refine WL.z rfl rfl ?_
 refine W.ret (W.retc2 rfl rfl (ldRow hkw35 underlying31 rfl isz31) rfl ?_)
 exact ⟨ret_val (by rw [hN]; rfl), hB37⟩
end
section
theorem skipAt_stop {l : List UInt8} {t : Nat} (h : t < l.length) (hb : blankB l[t] = false) (h37 : l[t] ≠ 37) : skipAt false l t = t := by
 rw [skipAt_f l t h, if_neg h37, if_neg (by rw [hb]; simp)]
theorem skipAt_head {l : List UInt8} {t : Nat} (h : skipAt false l t < l.length) : blankB l[skipAt false l t] = false ∧ l[skipAt false l t] ≠ 37 := by
 have h1 := skipAt_drop false l t
 rw [List.drop_eq_getElem_cons h] at h1
 exact skipS_head _ _ h1.symm
theorem skipAt_idem (l : List UInt8) (t : Nat) : skipAt false l (skipAt false l t) = skipAt false l t := by
 rcases Nat.lt_or_ge (skipAt false l t) l.length with h | h
 ·
  have h1 := skipAt_head h
  exact skipAt_stop h h1.1 h1.2
 ·
  rw [skipAt_end false l _ h]
  have := skipAt_le false l t
  omega
theorem whole61 (refs : Bool) (s : List UInt8) : (refs && wholeOk s) = (refs && decide ((1 : Int) ≤ (s.length : Int)) && decide ((s.length : Int) ≤ 10) && decide ((digN s : Int) = (s.length : Int))) := by
 rw [digN_eq]
 unfold wholeOk
 have h1 : (!decide (s = [])) = decide ((1 : Int) ≤ (s.length : Int)) := by cases s <;> simp; omega
 have h2 : decide (s.length ≤ 10) = decide ((s.length : Int) ≤ 10) := by rw [Bool.eq_iff_iff]; simp only [decide_eq_true_eq]; omega
 rw [h1, h2, Bool.and_assoc, Bool.and_assoc, Bool.and_assoc]
theorem refIf_none {A : Bool} {z q : Prop} [Decidable z] [Decidable q] {x : Int × Nat} (h : ¬ (A = true ∧ z ∧ q)) : (if A then (if z then (if q then some x else none) else none) else none) = none := by
 split
 ·
  split
  ·
   split
   ·
    exact absurd ⟨by assumption, by assumption, by assumption⟩ h
   ·
    rfl
  ·
   rfl
 ·
  rfl
theorem ref_no {refs : Bool} {s : List UInt8} (h : (refs && (wholeV s 4096).2 && decide (1 ≤ (wholeV s 4096).1)) = true) (h2 : (refs && wholeOk s) = false) : False := by
 simp only [Bool.and_eq_true] at h
 rw [h.1.1, Bool.true_and] at h2
 have := h.1.2
 unfold wholeV at this
 rw [h2] at this
 cases this
theorem r18_plain (r : Nat) (p : Option Addr) (l : List UInt8) (c t : Nat) (refs : Bool) (w : World) (h : RRd w r p l c t refs 0) (hne : 0 < l.length → (pA p).block ≠ r) (hc : l.length ≤ c) (hl : l.length ≤ 100000000) (ht : t ≤ l.length) (hst : skipAt false l t = t) :
    Calls Tryz.prog 49 #[.pointer (some ⟨r, 0, none⟩)] w fun e w' => e = .returned (plexW refs l t).val ∧ RRd w' r p l c (plexW refs l t).np refs 0 ∧ Touch w.heap.size r w w' := by
  have hr := h.1
  have hb := h.2
  obtain ⟨X, hX⟩ : ∃ X, X = plexW refs l t := ⟨_, rfl⟩
  rw [← hX]
  unfold plexW at hX
  have hwt := wordAt_le l t ht
  have hsl := wordL_len l t
  have hWq : ∀ w1, RRd w1 r p l c t refs 0 → Calls Tryz.prog 79 #[.pointer (some ⟨r, 0, none⟩), .int .i64 (t : Int)] w1 fun e' w' => e' = .returned (.tuple #[.string (bs (wordL l t)), .int .i64 (wordAt l t : Int)]) ∧ w1 = w' := fun w1 h1 => by
    have := r18_word r p l c t refs 0 t w1 h1 hl hc ht
    rw [hst] at this
    exact this
  generalize wordL l t = s at hX hsl hWq
  generalize wordAt l t = t1 at hX hwt hWq
  obtain ⟨a, ha⟩ : ∃ a, a = skipAt false l t1 := ⟨_, rfl⟩
  obtain ⟨b, hbb⟩ : ∃ b, b = skipAt false l (wordAt l a) := ⟨_, rfl⟩
  have hal : a ≤ l.length := by rw [ha]; exact skipAt_le _ _ _
  have hbl : b ≤ l.length := by rw [hbb]; exact skipAt_le _ _ _
  have hwa := wordAt_le l a hal
  have hwb := wordAt_le l b hbl
  have hRR : refR refs l s t1 = if refs && (wholeV s 4096).2 && decide (1 ≤ (wholeV s 4096).1) then (if wordL l a = [48] then (if wordL l b = [82] then some ((wholeV s 4096).1, wordAt l b) else none) else none) else none := by rw [hbb, ha]; rfl
  have hA : ∀ w1, RRd w1 r p l c t1 refs 0 → Calls Tryz.prog 79 #[.pointer (some ⟨r, 0, none⟩), .int .i64 (t1 : Int)] w1 fun e' w' => e' = .returned (.tuple #[.string (bs (wordL l a)), .int .i64 (wordAt l a : Int)]) ∧ w1 = w' := fun w1 h1 => by rw [ha]; exact r18_word r p l c t1 refs 0 t1 w1 h1 hl hc oO
  have hBq : ∀ w1, RRd w1 r p l c t1 refs 0 → Calls Tryz.prog 79 #[.pointer (some ⟨r, 0, none⟩), .int .i64 (wordAt l a : Int)] w1 fun e' w' => e' = .returned (.tuple #[.string (bs (wordL l b)), .int .i64 (wordAt l b : Int)]) ∧ w1 = w' := fun w1 h1 => by rw [hbb]; exact r18_word r p l c t1 refs 0 (wordAt l a) w1 h1 hl hc oO
  generalize refR refs l s t1 = R at hX hRR
  have hT0 : True := trivial
  refine W.enter func49 rfl ntmps49 (Nat.le_of_ble_eq_true rfl) ?_
  have hB0 := Touch.refl (w.heap.size) r w
  refine W.sr <| WL.alloc zeroValue31 rfl (fun b1 wb1 eb1 hkb1 hub1 hsb1 => ?_)
  have hl3 : r < b1 := by rw [eb1]; exact hr.lt
  have hk2 := hr.upd hub1 (Nat.ne_of_lt hl3)
  have hvl5 := fun h0 => eb1 ▸ hb.lt h0
  have hv4 := bup hb hub1 hvl5
  have hgeb1 : w.heap.size ≤ b1 := by rw [eb1]; exact hB0.size
  have hB6 := Touch.trans hB0 (Touch.of_new hub1 hgeb1)
  refine WL.a rfl rfl <| WL.z rfl rfl ?_
  refine W.seq ?_
  have hrB : r < b1 := by have := hr.lt; omega
  refine W.reg <| WL.m rfl rfl <| WL.m rfl rfl <| WL.p (.nck rfl) rfl <| WL.p (.fa underlying69 rfl sizeOf3 dD rfl) rfl <| WL.r (Rd.ld (isAgg3 _) rfl hk2 rfl) rfl <| WL.c1 hb79 rfl rfl ((hWq _ ⟨hk2, hv4⟩)) (fun w7 hw7 => ?_)
  obtain rfl := hw7
  refine WL.m rfl rfl <| WL.p (.ext rfl rfl) rfl <| WL.p (.ext rfl rfl) rfl <| WL.a rfl rfl <| WL.z rfl rfl ?_
  refine W.sr <| WL.m rfl rfl <| WL.m rfl rfl <| WL.p (.nck rfl) rfl <| WL.p (.fa underlying69 rfl sizeOf3 dD rfl) rfl <| WL.st sizeOf3 rfl rfl rfl hk2 oD (fun w8 hkw8 huw8 hsw8 => ?_)
  have hkw8 : Blk w8 r _ _ := hkw8
  have huw8 : Upd r _ _ := huw8
  have hk9 := hkb1.up huw8
  have hv10 := BytesAt.upd hv4 huw8 hne
  have hB11 := Touch.trans hB6 (Touch.of_upd huw8)
  refine WL.nil <| ?_
  refine W.seq <| W.sr <| WL.m rfl rfl <| WL.nil <| ?_
  refine W.block <| W.sr <| WL.p (.eqs rfl rfl) rfl <| WL.z rfl rfl ?_
  refine W.cond rfl (fun h12 => ?_) (fun h12 => ?_)
  · have h12' := dT h12
    refine W.sr <| WL.p (.buildL (ps := _) blt31 rfl rfl rfl pZ) rfl ?_
    refine WL.m rfl rfl <| WL.stL rfl rfl hk9 isz31 rfl rfl (fun w13 hkw13 huw13 hsw13 => ?_)
    have hk14 := hkw8.up huw13
    have hv15 := bup hv10 huw13 hvl5
    have hB16 := Touch.trans hB11 (Touch.of_new huw13 oO)
    refine WL.a rfl rfl <| WL.z rfl rfl ?_
    refine W.ret (W.retc3 rfl rfl (ldRow hkw13 underlying31 rfl isz31) rfl rfl ?_)
    (rw [if_pos aS] at hX; subst hX; exact ⟨rfl, ⟨hk14, hv15⟩, hB16⟩)
  have h12' := dF h12
  refine W.sr <| WL.p (.eqs rfl rfl) rfl <| WL.z rfl rfl ?_
  refine W.cond rfl (fun h17 => ?_) (fun h17 => ?_)
  · have h17' := dT h17
    refine W.sr <| WL.p (.buildL (ps := _) blt31 rfl rfl rfl pS) rfl ?_
    refine WL.m rfl rfl <| WL.stL rfl rfl hk9 isz31 rfl rfl (fun w18 hkw18 huw18 hsw18 => ?_)
    have hk19 := hkw8.up huw18
    have hv20 := bup hv10 huw18 hvl5
    have hB21 := Touch.trans hB11 (Touch.of_new huw18 oO)
    refine WL.a rfl rfl <| WL.z rfl rfl ?_
    refine W.ret (W.retc3 rfl rfl (ldRow hkw18 underlying31 rfl isz31) rfl rfl ?_)
    (rw [if_neg aS, if_pos aS] at hX; subst hX; exact ⟨rfl, ⟨hk19, hv20⟩, hB21⟩)
  have h17' := dF h17
  refine W.sr <| WL.p (.eqs rfl rfl) rfl <| WL.z rfl rfl ?_
  refine W.cond rfl (fun h22 => ?_) (fun h22 => ?_)
  · have h22' := dT h22
    refine W.sr <| WL.p (.buildL (ps := _) blt31 rfl rfl rfl pS) rfl ?_
    refine WL.m rfl rfl <| WL.stL rfl rfl hk9 isz31 rfl rfl (fun w23 hkw23 huw23 hsw23 => ?_)
    have hk24 := hkw8.up huw23
    have hv25 := bup hv10 huw23 hvl5
    have hB26 := Touch.trans hB11 (Touch.of_new huw23 oO)
    refine WL.a rfl rfl <| WL.z rfl rfl ?_
    refine W.ret (W.retc3 rfl rfl (ldRow hkw23 underlying31 rfl isz31) rfl rfl ?_)
    (rw [if_neg aS, if_neg aS, if_pos aS] at hX; subst hX; exact ⟨rfl, ⟨hk24, hv25⟩, hB26⟩)
  have h22' := dF h22
  refine W.skip ?_
  refine W.cut (α := Unit) (fun t => [(0, .pointer (some ⟨r, 0, none⟩)), (2, .pointer (some ⟨b1, 0, none⟩)), (5, .string (bs s))]) (fun t w' => Touch w.heap.size r w w' ∧ RRd w' r p l c t1 refs 0 ∧ Blk w' b1 (pobj 0 0 []).toArray 31 ∧ R = none) ?_ (fun t w1 hR => ?_)
  refine W.cutB 61 (refs && wholeOk s) ?_ ?_
  refine W.reg <| WL.m rfl rfl <| WL.p (.nck rfl) rfl <| WL.p (.fa underlying69 rfl sizeOf4 dD rfl) rfl <| WL.r (Rd.ld (isAgg4 _) rfl hkw8 rfl) rfl <| WL.m rfl rfl <| WL.gd rfl rfl rfl (fun g27 => ?_) (fun g27 => ?_)
  refine WL.m rfl rfl <| WL.gy rfl rfl rfl g27 <| WL.p (.len underlying9 rfl) rfl <| WL.gy rfl rfl rfl g27 <| WL.p (.geq rfl rfl) rfl <| WL.p (.pkT rfl g27 rfl) rfl <| WL.m rfl rfl <| WL.gd rfl rfl rfl (fun g28 => ?_) (fun g28 => ?_)
  · have g28' := dT g28
    refine WL.m rfl rfl <| WL.gy rfl rfl rfl g28 <| WL.p (.len underlying9 rfl) rfl <| WL.gy rfl rfl rfl g28 <| WL.p (.leq rfl rfl) rfl <| WL.p (.pkT rfl g28 rfl) rfl <| WL.m rfl rfl <| WL.gd rfl rfl rfl (fun g29 => ?_) (fun g29 => ?_)
    · have g29' := dT g29
      refine WL.m rfl rfl <| WL.gy rfl rfl rfl g29 <| WL.c1 hb80 rfl rfl ((ref_Digits s _ oO)) (fun w30 hw30 => ?_)
      obtain rfl := hw30
      refine WL.gy rfl rfl rfl g29 <| WL.m rfl rfl <| WL.gy rfl rfl rfl g29 <| WL.p (.len underlying9 rfl) rfl <| WL.gy rfl rfl rfl g29 <| WL.p (.eql rfl rfl) rfl <| WL.p (.pkT rfl g29 rfl) rfl <| WL.nil <| ?_
      exact ⟨leE (lk_b rfl (by (rw [whole61]; first | (rw [show refs = false by assumption]; rfl) | (rw [show refs = true by assumption, show decide ((1 : Int) ≤ (s.length : Int)) = false by assumption]; rfl) | (rw [show refs = true by assumption, show decide ((1 : Int) ≤ (s.length : Int)) = true by assumption, show decide ((s.length : Int) ≤ 10) = false by assumption]; rfl) | (rw [show refs = true by assumption, show decide ((1 : Int) ≤ (s.length : Int)) = true by assumption, show decide ((s.length : Int) ≤ 10) = true by assumption]; rfl)))), rfl⟩
    have g29' := dF g29
    refine WL.gn rfl rfl rfl g29 <| WL.gn rfl rfl rfl g29 <| WL.gn rfl rfl rfl g29 <| WL.gn rfl rfl rfl g29 <| WL.p (.pkF rfl g29 rfl) rfl <| WL.nil <| ?_
    exact ⟨leE (lk_b rfl (by (rw [whole61]; first | (rw [show refs = false by assumption]; rfl) | (rw [show refs = true by assumption, show decide ((1 : Int) ≤ (s.length : Int)) = false by assumption]; rfl) | (rw [show refs = true by assumption, show decide ((1 : Int) ≤ (s.length : Int)) = true by assumption, show decide ((s.length : Int) ≤ 10) = false by assumption]; rfl) | (rw [show refs = true by assumption, show decide ((1 : Int) ≤ (s.length : Int)) = true by assumption, show decide ((s.length : Int) ≤ 10) = true by assumption]; rfl)))), rfl⟩
  have g28' := dF g28
  refine WL.gn rfl rfl rfl g28 <| WL.gn rfl rfl rfl g28 <| WL.p (.pkF rfl g28 rfl) rfl <| WL.m rfl rfl <| WL.gn rfl rfl rfl rfl <| WL.gn rfl rfl rfl rfl <| WL.gn rfl rfl rfl rfl <| WL.gn rfl rfl rfl rfl <| WL.gn rfl rfl rfl rfl <| WL.p (.pkF rfl rfl rfl) rfl <| WL.nil <| ?_
  exact ⟨leE (lk_b rfl (by (rw [whole61]; first | (rw [show refs = false by assumption]; rfl) | (rw [show refs = true by assumption, show decide ((1 : Int) ≤ (s.length : Int)) = false by assumption]; rfl) | (rw [show refs = true by assumption, show decide ((1 : Int) ≤ (s.length : Int)) = true by assumption, show decide ((s.length : Int) ≤ 10) = false by assumption]; rfl) | (rw [show refs = true by assumption, show decide ((1 : Int) ≤ (s.length : Int)) = true by assumption, show decide ((s.length : Int) ≤ 10) = true by assumption]; rfl)))), rfl⟩
  refine WL.gn rfl rfl rfl g27 <| WL.gn rfl rfl rfl g27 <| WL.p (.pkF rfl g27 rfl) rfl <| WL.m rfl rfl <| WL.gn rfl rfl rfl rfl <| WL.gn rfl rfl rfl rfl <| WL.gn rfl rfl rfl rfl <| WL.p (.pkF rfl rfl rfl) rfl <| WL.m rfl rfl <| WL.gn rfl rfl rfl rfl <| WL.gn rfl rfl rfl rfl <| WL.gn rfl rfl rfl rfl <| WL.gn rfl rfl rfl rfl <| WL.gn rfl rfl rfl rfl <| WL.p (.pkF rfl rfl rfl) rfl <| WL.nil <| ?_
  exact ⟨leE (lk_b rfl (by (rw [whole61]; first | (rw [show refs = false by assumption]; rfl) | (rw [show refs = true by assumption, show decide ((1 : Int) ≤ (s.length : Int)) = false by assumption]; rfl) | (rw [show refs = true by assumption, show decide ((1 : Int) ≤ (s.length : Int)) = true by assumption, show decide ((s.length : Int) ≤ 10) = false by assumption]; rfl) | (rw [show refs = true by assumption, show decide ((1 : Int) ≤ (s.length : Int)) = true by assumption, show decide ((s.length : Int) ≤ 10) = true by assumption]; rfl)))), rfl⟩
  refine W.cond rfl (fun h31 => ?_) (fun h31 => ?_)
  have h61 : refs = true ∧ wholeOk s = true := Bool.and_eq_true_iff.1 aS
  have hok := h61.2
  have hwv : wholeV s 4096 = ((natOf s : Int), decide ((natOf s : Int) ≤ 4096)) := by unfold wholeV; rw [if_pos hok]
  refine W.sr <| WL.m rfl rfl <| WL.m rfl rfl <| WL.c1 hb79 rfl rfl ((hA _ ⟨hkw8, hv10⟩)) (fun w32 hw32 => ?_)
  obtain rfl := hw32
  refine WL.m rfl rfl <| WL.p (.ext rfl rfl) rfl <| WL.p (.ext rfl rfl) rfl <| WL.a rfl rfl <| WL.z rfl rfl ?_
  refine W.sr <| WL.m rfl rfl <| WL.m rfl rfl <| WL.c1 hb79 rfl rfl ((hBq _ ⟨hkw8, hv10⟩)) (fun w33 hw33 => ?_)
  obtain rfl := hw33
  refine WL.m rfl rfl <| WL.p (.ext rfl rfl) rfl <| WL.p (.ext rfl rfl) rfl <| WL.a rfl rfl <| WL.z rfl rfl ?_
  refine W.sr <| WL.z rfl rfl ?_
  refine W.seq <| W.sr <| WL.z rfl rfl ?_
  refine W.block ?_
  obtain ⟨b0, hb0⟩ : ∃ b0, b0 = b := ⟨b, rfl⟩
  have hok' := hok
  unfold wholeOk at hok'
  simp only [Bool.and_eq_true, decide_eq_true_eq, Bool.not_eq_true', decide_eq_false_iff_not] at hok'
  have hdig := List.all_eq_true.1 hok'.2
  refine W.loop (α := Nat) (fun t => [(0, .pointer (some ⟨r, 0, none⟩)), (2, .pointer (some ⟨b1, 0, none⟩)), (5, .string (bs s)), (7, .string (bs (wordL l a))), (9, .string (bs (wordL l b))), (10, .int .i64 (wordAt l b : Int)), (11, .int .i64 (natOf (s.take t) : Int)), (12, .int .i64 (t : Int))]) (fun t w' => w8 = w' ∧ t ≤ s.length) (fun t => s.length - t) (0) ⟨rfl, rfl, rfl, rfl, rfl, rfl, rfl, rfl, trivial⟩ (⟨rfl, Nat.zero_le _⟩) (fun t w1 hR => ?_)
  obtain ⟨i, rfl⟩ : ∃ i, i = t := ⟨t, rfl⟩
  obtain ⟨rfl, hi⟩ := hR
  refine W.seq <| W.sr <| WL.m rfl rfl <| WL.m rfl rfl <| WL.p (.len underlying9 rfl) rfl <| WL.p (.lss rfl rfl) rfl <| WL.nil <| ?_
  refine W.cond rfl (fun h34 => ?_) (fun h34 => ?_)
  · have h34' := dT h34
    refine W.skip <| W.seq <| W.block ?_
    have hst := natOf_take s i oO
    have hbd := isDig_bounds (hdig _ (List.getElem_mem (show i < s.length by omega)))
    have hlt := natOf_lt (s.take i) (fun c hc => hdig c (List.mem_of_mem_take hc))
    have hpw : 10 ^ (s.take i).length ≤ 10 ^ 9 := Nat.pow_le_pow_right oO (by rw [List.length_take]; omega)
    refine W.reg <| WL.m rfl rfl <| WL.p (.mul rfl rfl (i64w oO)) rfl <| WL.m rfl rfl <| WL.m rfl rfl <| WL.p (.ix underlying9 rfl rfl (i) (rfl) oO) rfl <| WL.p (.sub rfl rfl (u8w oO)) rfl <| WL.p (.cvt underlying5 underlying3 rfl (i64w oO)) rfl <| WL.p (.iis ((natOf (s.take (i + 1)) : Int)) (.add rfl rfl (i64w oO)) oO) rfl <| WL.z rfl rfl ?_
    refine W.reg <| WL.m rfl rfl <| WL.p (.iis (((i + 1 : Nat) : Int)) (.add rfl rfl (i64w oO)) oO) rfl <| WL.z rfl rfl ?_
    exact ⟨i + 1, ⟨rfl, rfl, rfl, rfl, rfl, rfl, rfl, rfl, trivial⟩, ⟨rfl, by ((try simp only) <;> omega)⟩, by ((try simp only) <;> omega)⟩
  have h34' := dF h34
  have htk : s.take i = s := List.take_of_length_le oO
  have hnat : natOf (s.take i) = natOf s := by rw [htk]
  refine W.exit <| W.sr <| WL.m rfl rfl <| WL.p (.eqs rfl rfl) rfl <| WL.m rfl rfl <| WL.gd rfl rfl rfl (fun g35 => ?_) (fun g35 => ?_)
  · have g35' := dT g35
    refine WL.m rfl rfl <| WL.gy rfl rfl rfl g35 <| WL.p (.eqs rfl rfl) rfl <| WL.p (.pkT rfl g35 rfl) rfl <| WL.m rfl rfl <| WL.gd rfl rfl rfl (fun g36 => ?_) (fun g36 => ?_)
    · have g36' := dT g36
      refine WL.m rfl rfl <| WL.gy rfl rfl rfl g36 <| WL.p (.geq rfl rfl) rfl <| WL.p (.pkT rfl g36 rfl) rfl <| WL.m rfl rfl <| WL.gd rfl rfl rfl (fun g37 => ?_) (fun g37 => ?_)
      · have g37' := dT g37
        refine WL.m rfl rfl <| WL.gy rfl rfl rfl g37 <| WL.p (.leq rfl rfl) rfl <| WL.p (.pkT rfl g37 rfl) rfl <| WL.nil <| ?_
        refine W.cond rfl (fun h38 => ?_) (fun h38 => ?_)
        · have h38' := dT h38
          refine W.sr <| WL.m rfl rfl <| WL.m rfl rfl <| WL.p (.nck rfl) rfl <| WL.p (.fa underlying69 rfl sizeOf3 dD rfl) rfl <| WL.st sizeOf3 rfl rfl rfl hkw8 oD (fun w39 hkw39 huw39 hsw39 => ?_)
          have hkw39 : Blk w39 r _ _ := hkw39
          have huw39 : Upd r _ _ := huw39
          have hk40 := hk9.up huw39
          have hv41 := BytesAt.upd hv10 huw39 hne
          have hB42 := Touch.trans hB11 (Touch.of_upd huw39)
          refine WL.nil <| ?_
          refine W.sr <| WL.m rfl rfl <| ?_
          refine WL.p (.buildL (ps := _) blt31 rfl rfl rfl pS) rfl ?_
          refine WL.m rfl rfl <| WL.stL rfl rfl hk40 isz31 rfl rfl (fun w43 hkw43 huw43 hsw43 => ?_)
          have hk44 := hkw39.up huw43
          have hv45 := bup hv41 huw43 hvl5
          have hB46 := Touch.trans hB42 (Touch.of_new huw43 oO)
          refine WL.a rfl rfl <| WL.z rfl rfl ?_
          refine W.ret (W.retc3 rfl rfl (ldRow hkw43 underlying31 rfl isz31) rfl rfl ?_)
          (have hRs : R = some ((natOf s : Int), wordAt l b) := by
             rw [hRR, hwv, h61.1, if_pos (by simp only [Bool.and_eq_true, decide_eq_true_eq, true_and]; omega), if_pos aS, if_pos aS]
           rw [hRs, if_neg aS, if_neg aS, if_neg aS, if_pos (show (some ((natOf s : Int), wordAt l b) : Option (Int × Nat)).isSome = true from rfl)] at hX; subst hX; exact ⟨ret_val (by rw [hnat]; rfl), ⟨hk44, hv45⟩, hB46⟩)
        have h38' := dF h38
        refine W.skip ?_
        exact ⟨(), ⟨rfl, rfl, rfl, trivial⟩, hB11, ⟨hkw8, hv10⟩, hk9, hRR.trans (refIf_none (by rintro ⟨h1, h2, h3⟩; rw [hwv] at h1; simp only [Bool.and_eq_true, decide_eq_true_eq] at h1; omega))⟩
      have g37' := dF g37
      refine WL.gn rfl rfl rfl g37 <| WL.p (.pkF rfl g37 rfl) rfl <| WL.nil <| ?_
      refine W.condF rfl rfl ?_
      refine W.skip ?_
      exact ⟨(), ⟨rfl, rfl, rfl, trivial⟩, hB11, ⟨hkw8, hv10⟩, hk9, hRR.trans (refIf_none (by rintro ⟨h1, h2, h3⟩; rw [hwv] at h1; simp only [Bool.and_eq_true, decide_eq_true_eq] at h1; omega))⟩
    have g36' := dF g36
    refine WL.gn rfl rfl rfl g36 <| WL.p (.pkF rfl g36 rfl) rfl <| WL.m rfl rfl <| WL.gn rfl rfl rfl rfl <| WL.gn rfl rfl rfl rfl <| WL.p (.pkF rfl rfl rfl) rfl <| WL.nil <| ?_
    refine W.condF rfl rfl ?_
    refine W.skip ?_
    exact ⟨(), ⟨rfl, rfl, rfl, trivial⟩, hB11, ⟨hkw8, hv10⟩, hk9, hRR.trans (refIf_none (by rintro ⟨h1, h2, h3⟩; contradiction))⟩
  have g35' := dF g35
  refine WL.gn rfl rfl rfl g35 <| WL.p (.pkF rfl g35 rfl) rfl <| WL.m rfl rfl <| WL.gn rfl rfl rfl rfl <| WL.gn rfl rfl rfl rfl <| WL.p (.pkF rfl rfl rfl) rfl <| WL.m rfl rfl <| WL.gn rfl rfl rfl rfl <| WL.gn rfl rfl rfl rfl <| WL.p (.pkF rfl rfl rfl) rfl <| WL.nil <| ?_
  refine W.condF rfl rfl ?_
  refine W.skip ?_
  exact ⟨(), ⟨rfl, rfl, rfl, trivial⟩, hB11, ⟨hkw8, hv10⟩, hk9, hRR.trans (refIf_none (by rintro ⟨h1, h2, h3⟩; contradiction))⟩
  refine W.skip ?_
  exact ⟨(), ⟨rfl, rfl, rfl, trivial⟩, hB11, ⟨hkw8, hv10⟩, hk9, hRR.trans (refIf_none (by rintro ⟨h1, h2, h3⟩; exact ref_no h1 aS))⟩
  obtain ⟨hT1, hrd1, hk1, hRn⟩ := hR
  rw [hRn] at hX
  refine W.sr <| WL.m rfl rfl <| WL.c1 hb81 rfl rfl ((r18_Number s _ oO)) (fun w47 hw47 => ?_)
  have hk48 := hrd1.1.below hw47 hrd1.1.lt
  have hk49 := hk1.below hw47 hk1.lt
  have hv50 := BytesAt.below hrd1.2 hw47 (fun h0 => hrd1.2.lt h0)
  have hB51 := Touch.trans hT1 (Touch.mono (Touch.of_below hw47) hT1.size)
  refine WL.m rfl rfl <| WL.p (.ext rfl rfl) rfl <| WL.p (.ext rfl rfl) rfl <| WL.alloc zeroValue31 rfl (fun b52 wb52 eb52 hkb52 hub52 hsb52 => ?_)
  have hl54 : r < b52 := by rw [eb52]; exact hk48.lt
  have hk53 := hk48.upd hub52 (Nat.ne_of_lt hl54)
  have hl56 : b1 < b52 := by rw [eb52]; exact hk49.lt
  have hk55 := hk49.upd hub52 (Nat.ne_of_lt hl56)
  have hvl58 := fun h0 => eb52 ▸ hv50.lt h0
  have hv57 := bup hv50 hub52 hvl58
  have hgeb52 : w.heap.size ≤ b52 := by rw [eb52]; exact hB51.size
  have hB59 := Touch.trans hB51 (Touch.of_new hub52 hgeb52)
  refine WL.stL rfl rfl hkb52 isz31 rfl rfl (fun w60 hkw60 huw60 hsw60 => ?_)
  have hk61 := hk53.up huw60
  have hk62 := hk55.up huw60
  have hv63 := bup hv57 huw60 hvl58
  have hB64 := Touch.trans hB59 (Touch.of_new huw60 oO)
  refine WL.z rfl rfl ?_
  refine W.seq <| W.sr <| WL.m rfl rfl <| WL.p (.not rfl) rfl <| WL.nil <| ?_
  refine W.cond rfl (fun h65 => ?_) (fun h65 => ?_)
  · have h65' := (nT h65)
    refine W.sr <| WL.p (.buildL (ps := _) blt31 rfl rfl rfl pZ) rfl ?_
    refine WL.m rfl rfl <| WL.stL rfl rfl hk62 isz31 rfl rfl (fun w66 hkw66 huw66 hsw66 => ?_)
    have hk67 := hk61.up huw66
    have hv69 := bup hv63 huw66 hvl5
    have hB70 := Touch.trans hB64 (Touch.of_new huw66 oO)
    refine WL.a rfl rfl <| WL.z rfl rfl ?_
    refine W.ret (W.retc3 rfl rfl (ldRow hkw66 underlying31 rfl isz31) rfl rfl ?_)
    (rw [if_neg aS, if_neg aS, if_neg aS, if_neg (show ¬ (none : Option (Int × Nat)).isSome = true by simp), if_neg (bF (show (numR s).2.2 = false by assumption))] at hX; subst hX; exact ⟨rfl, ⟨hk67, hv69⟩, hB70⟩)
  have h65' := (nF h65)
  refine W.skip <| W.sr <| WL.r (Rd.ldA rfl hkw60 underlying31 rfl isz31) rfl <| WL.m rfl rfl <| WL.stL rfl rfl hk62 isz31 rfl rfl (fun w71 hkw71 huw71 hsw71 => ?_)
  have hk72 := hk61.up huw71
  have hv74 := bup hv63 huw71 hvl5
  have hB75 := Touch.trans hB64 (Touch.of_new huw71 oO)
  refine WL.a rfl rfl <| WL.z rfl rfl ?_
  refine W.ret (W.retc3 rfl rfl (ldRow hkw71 underlying31 rfl isz31) rfl rfl ?_)
  (rw [if_neg aS, if_neg aS, if_neg aS, if_neg (show ¬ (none : Option (Int × Nat)).isSome = true by simp), if_pos (show (numR s).2.2 = true by assumption)] at hX; subst hX; exact ⟨rfl, ⟨hk72, hv74⟩, hB75⟩)
end
section
def nameE (out : List UInt8) : Int := if out = [] ∨ 0 ∈ out then 23 else if 127 < out.length then 25 else 0
/-- what the document's name answers: bytes, place, error -/
def nameD (l : List UInt8) (t : Nat) : List UInt8 × Nat × Int :=
 match decN (wordL l t) with
 | none => ([], t, 23)
 | some out => (out, wordAt l t, nameE out)
theorem nameD_P (l : List UInt8) (t : Nat) : nameP l t = if (nameD l t).2.2 = 0 then .ok ((nameD l t).1, (nameD l t).2.1) else .error (nameD l t).2.2 := by
 unfold nameP nameD
 cases decN (wordL l t) with
 | none => rfl
 | some out =>
  show (if out = [] ∨ 0 ∈ out then _ else if 127 < out.length then _ else _) = if nameE out = 0 then Except.ok (out, wordAt l t) else Except.error (nameE out)
  by_cases h1 : out = [] ∨ 0 ∈ out
  ·
   rw [if_pos h1, show nameE out = 23 from if_pos h1]; rfl
  ·
   rw [if_neg h1]
   by_cases h2 : 127 < out.length
   ·
    rw [if_pos h2, show nameE out = 25 from (if_neg h1).trans (if_pos h2)]; rfl
   ·
    rw [if_neg h2, show nameE out = 0 from (if_neg h1).trans (if_neg h2)]; rfl
theorem wordL_at {l : List UInt8} {t j : Nat} (h : j < (wordL l t).length) (h2 : t + j < l.length) : (wordL l t)[j] = l[t + j] := by
 have h3 : (wordL l t)[j]? = l[t + j]? := by
  unfold wordL at h ⊢
  rw [List.getElem?_take, if_pos (by rw [List.length_take] at h; omega), List.getElem?_drop]
 rw [List.getElem?_eq_getElem h, List.getElem?_eq_getElem h2] at h3
 exact Option.some.inj h3
theorem wordL_size {l : List UInt8} {t : Nat} (ht : t ≤ l.length) : (wordL l t).length = wordAt l t - t := by
 have := wordAt_le l t ht
 unfold wordL
 rw [List.length_take, List.length_drop]
 omega
def zeroE (o : List UInt8) : Int := if 0 ∈ o then 23 else 0
theorem zeroE_step (o : List UInt8) (i : Nat) (h : i < o.length) : zeroE (o.take (i + 1)) = if o[i] = 0 then errK (zeroE (o.take i)) 23 else zeroE (o.take i) := by
 unfold zeroE errK
 rw [List.take_succ_eq_append_getElem h]
 by_cases h1 : 0 ∈ o.take i
 ·
  rw [if_pos (List.mem_append_left _ h1), if_pos h1]; split <;> rfl
 ·
  by_cases h2 : o[i] = 0
  ·
   rw [if_pos (List.mem_append_right _ (by rw [h2]; simp)), if_neg h1, if_pos h2]; rfl
  ·
   rw [if_neg (by rw [List.mem_append, List.mem_singleton]; exact fun h => h.elim h1 (fun e => h2 e.symm)), if_neg h1, if_neg h2]
theorem nameE_a {o : List UInt8} {k : Nat} (h : o.length = 0) : nameE o = errK (zeroE (o.take k)) 23 := by
 obtain rfl := List.length_eq_zero_iff.1 h
 rw [List.take_nil]; rfl
theorem nameE_b {o : List UInt8} {k : Nat} (hk : o.length ≤ k) (h : o.length ≠ 0) (h2 : 127 < o.length) : nameE o = errK (zeroE (o.take k)) 25 := by
 have h3 : o ≠ [] := fun e => h (by rw [e]; rfl)
 rw [List.take_of_length_le hk]
 unfold nameE zeroE errK
 by_cases h4 : 0 ∈ o
 ·
  rw [if_pos (.inr h4), if_pos h4]; rfl
 ·
  rw [if_neg (fun e => e.elim h3 h4), if_pos h2, if_neg h4]; rfl
theorem nameE_c {o : List UInt8} {k : Nat} (hk : o.length ≤ k) (h : o.length ≠ 0) (h2 : ¬ 127 < o.length) : nameE o = zeroE (o.take k) := by
 have h3 : o ≠ [] := fun e => h (by rw [e]; rfl)
 rw [List.take_of_length_le hk]
 unfold nameE zeroE
 by_cases h4 : 0 ∈ o
 ·
  rw [if_pos (.inr h4), if_pos h4]
 ·
  rw [if_neg (fun e => e.elim h3 h4), if_neg h2, if_neg h4]
theorem Own.bytesQ {e : TypeId} {B : Nat} {w : World} {q : Option Addr} {c : Nat} {l : List UInt8} (h : Own e B w (.slice q l.length c) (byteVals l)) : BytesAt w q l := by
 obtain ⟨p', c', he, hb, -⟩ := h.bytes
 cases he
 exact hb
theorem r18_name (r : Nat) (p : Option Addr) (l : List UInt8) (c t : Nat) (refs : Bool) (w : World) (h : RRd w r p l c t refs 0) (hne : 0 < l.length → (pA p).block ≠ r) (hc : l.length ≤ c) (hl : l.length ≤ 100000000) (ht : t ≤ l.length) :
    Calls Tryz.prog 72 #[.pointer (some ⟨r, 0, none⟩)] w fun e w' => e = .returned (.string (bs (nameD l t).1)) ∧ RRd w' r p l c (nameD l t).2.1 refs (nameD l t).2.2 ∧ Touch w.heap.size r w w' := by
  have hr := h.1
  have hb := h.2
  obtain ⟨X, hX⟩ : ∃ X, X = nameD l t := ⟨_, rfl⟩
  rw [← hX]
  unfold nameD at hX
  have hwt := wordAt_le l t ht
  have hsl := wordL_size ht
  obtain ⟨t0, ht0⟩ : ∃ t0, t0 = t := ⟨t, rfl⟩
  subst ht0
  have hsi : ∀ j (h1 : j < (wordL l t0).length) (h2 : t0 + j < l.length), l[t0 + j] = (wordL l t0)[j] := fun j h1 h2 => (wordL_at h1 h2).symm
  have hWq : ∀ w1, BytesAt w1 p l → Calls Tryz.prog 12 #[.slice p l.length c, .int .i64 (t0 : Int)] w1 fun e w' => e = .returned (.int .i64 (wordAt l t0 : Int)) ∧ w1 = w' := fun w1 h1 => ref_Word p l c t0 w1 h1 ht hl
  generalize wordL l t0 = s at hX hsl hsi
  generalize wordAt l t0 = t1 at hX hwt hWq hsl
  obtain ⟨D, hD⟩ : ∃ D, D = decN s := ⟨_, rfl⟩
  rw [← hD] at hX
  refine W.enter func72 rfl ntmps72 (Nat.le_of_ble_eq_true rfl) ?_
  have hB0 := Touch.refl (w.heap.size) r w
  refine W.sr <| WL.z rfl rfl ?_
  have hrB : r < w.heap.size := hr.lt
  have hbl : 0 < l.length → (pA p).block < w.heap.size := fun h0 => hb.lt h0
  refine W.cut (α := Unit) (fun t => [(0, .pointer (some ⟨r, 0, none⟩)), (3, .int .i64 (t1 : Int))]) (fun t w' => RRd w' r p l c t0 refs 0 ∧ Touch w.heap.size r w w') ?_ (fun t w1 hR => ?_)
  refine W.regY 10 rfl mixed (fun w1 dw1 => ?_)
  have hk2 := hr.drew dw1
  have hv3 := hb.drew dw1
  have hB4 := Touch.trans hB0 (Touch.of_drew dw1)
  refine WY.tk 0 rfl (.mv rfl) rfl ?_
  refine WY.tk 1 rfl (.nck rfl) rfl ?_
  refine WY.tk 2 rfl (.fa underlying69 rfl sizeOf22 dD rfl) rfl ?_
  refine WY.tk 4 rfl (.mv rfl) rfl ?_
  refine WY.tk 5 rfl (.nck rfl) rfl ?_
  refine WY.tk 6 rfl (.fa underlying69 rfl sizeOf3 dD rfl) rfl ?_
  refine WY.br2 3 rfl 7 rfl ?_ ?_
  refine WL.r (Rd.ld (isAgg22 _) rfl hk2 rfl) rfl <| WL.nil <| ?_
  refine WY.br1 7 rfl ?_
  refine WL.r (Rd.ld (isAgg3 _) rfl hk2 rfl) rfl <| WL.nil <| ?_
  refine WY.br1 8 rfl ?_
  refine WL.c1 hb12 rfl rfl ((hWq _ hv3)) (fun w5 hw5 => ?_)
  obtain rfl := hw5
  refine WL.nil <| ?_
  refine WY.tk 9 rfl (.as rfl) rfl ?_
  refine WY.done kR ?_
  exact ⟨(), ⟨rfl, rfl, trivial⟩, ⟨hk2, hv3⟩, hB4⟩
  refine WL.r (Rd.ld (isAgg3 _) rfl hk2 rfl) rfl <| WL.nil <| ?_
  refine WY.br1 3 rfl ?_
  refine WL.r (Rd.ld (isAgg22 _) rfl hk2 rfl) rfl <| WL.nil <| ?_
  refine WY.br1 8 rfl ?_
  refine WL.c1 hb12 rfl rfl ((hWq _ hv3)) (fun w6 hw6 => ?_)
  obtain rfl := hw6
  refine WL.nil <| ?_
  refine WY.tk 9 rfl (.as rfl) rfl ?_
  refine WY.done kR ?_
  exact ⟨(), ⟨rfl, rfl, trivial⟩, ⟨hk2, hv3⟩, hB4⟩
  obtain ⟨hrd, hT⟩ := hR
  refine W.sr <| WL.z rfl rfl ?_
  refine W.sr <| WL.m rfl rfl <| WL.p (.nck rfl) rfl <| WL.p (.fa underlying69 rfl sizeOf3 dD rfl) rfl <| WL.r (Rd.ld (isAgg3 _) rfl hrd.1 rfl) rfl <| WL.z rfl rfl ?_
  refine W.seq <| W.block ?_
  refine W.loop (α := Value × List UInt8 × Nat) (fun t => [(0, .pointer (some ⟨r, 0, none⟩)), (3, .int .i64 (t1 : Int)), (4, t.1), (5, .int .i64 ((t0 + t.2.2 : Nat) : Int))]) (fun t w' => RRd w' r p l c t0 refs 0 ∧ Touch w.heap.size r w w' ∧ Own 5 w.heap.size w' t.1 (byteVals t.2.1) ∧ decR t.2.1 (s.drop t.2.2) = D ∧ t.2.1.length ≤ t.2.2 ∧ t.2.2 ≤ s.length) (fun t => s.length - t.2.2) ((.slice none 0 0, [], 0)) ⟨rfl, rfl, rfl, rfl, trivial⟩ (⟨⟨hrd.1, hrd.2⟩, hT, Own.nil _ _ _, by rw [hD, List.drop_zero]; simp [decR], Nat.zero_le _, Nat.zero_le _⟩) (fun t w1 hR => ?_)
  obtain ⟨v, o, i⟩ := t
  obtain ⟨hrd, hT, hown, hw, hol, hi⟩ := hR
  simp only at hrd hT hown hw hol hi ⊢
  refine W.seq <| W.sr <| WL.m rfl rfl <| WL.m rfl rfl <| WL.p (.lss rfl rfl) rfl <| WL.nil <| ?_
  refine W.cond rfl (fun h7 => ?_) (fun h7 => ?_)
  · have h7' := dT h7
    refine W.skip <| W.block <| W.sr <| WL.m rfl rfl <| WL.p (.nck rfl) rfl <| WL.p (.fa underlying69 rfl sizeOf22 dD rfl) rfl <| WL.r (Rd.ld (isAgg22 _) rfl hrd.1 rfl) rfl <| WL.m rfl rfl <| WL.p (.ixb underlying22 sizeOf5 rfl rfl (hrd.2.isp oO) (t0 + i) (rfl) oO) rfl <| WL.r (Rd.iis (((s[i]'oO).toNat : Int)) (Rd.ldc (isAgg5 _) rfl (hrd.2.cells (t0 + i) oO)) (by rw [hsi i oO oO])) rfl <| WL.z rfl rfl ?_
    refine W.sr <| WL.m rfl rfl <| WL.p (.iis (((t0 + (i + 1) : Nat) : Int)) (.add rfl rfl (i64w oO)) oO) rfl <| WL.z rfl rfl ?_
    refine W.cut (α := Nat × UInt8) (fun t => [(0, .pointer (some ⟨r, 0, none⟩)), (3, .int .i64 (t1 : Int)), (4, v), (5, .int .i64 ((t0 + t.1 : Nat) : Int)), (6, .int .u8 (t.2.toNat : Int))]) (fun t w' => RRd w' r p l c t0 refs 0 ∧ Touch w.heap.size r w w' ∧ Own 5 w.heap.size w' v (byteVals o) ∧ decR (o ++ [t.2]) (s.drop t.1) = D ∧ i < t.1 ∧ t.1 ≤ s.length) ?_ (fun t w1 hR => ?_)
    refine W.sr <| WL.m rfl rfl <| WL.p (.eql rfl rfl) rfl <| WL.nil <| ?_
    refine W.cond rfl (fun h8 => ?_) (fun h8 => ?_)
    · have h8' := dT h8
      have h35 : s[i]'oO = 35 := u8_eq aS
      refine W.seq <| W.sr <| WL.m rfl rfl <| WL.p (.add rfl rfl (i64w oO)) rfl <| WL.m rfl rfl <| WL.p (.geq rfl rfl) rfl <| WL.m rfl rfl <| WL.gd rfl rfl rfl (fun g9 => ?_) (fun g9 => ?_)
      · have g9' := dF g9
        refine WL.m rfl rfl <| WL.gy rfl rfl rfl g9 <| WL.p (.nck rfl) rfl <| WL.gy rfl rfl rfl g9 <| WL.p (.fa underlying69 rfl sizeOf22 dD rfl) rfl <| WL.gy rfl rfl rfl g9 <| WL.r (Rd.ld (isAgg22 _) rfl hrd.1 rfl) rfl <| WL.gy rfl rfl rfl g9 <| WL.m rfl rfl <| WL.gy rfl rfl rfl g9 <| WL.p (.ixb underlying22 sizeOf5 rfl rfl (hrd.2.isp oO) (t0 + (i + 1)) (rfl) oO) rfl <| WL.gy rfl rfl rfl g9 <| WL.r (Rd.iis (((s[i + 1]'oO).toNat : Int)) (Rd.ldc (isAgg5 _) rfl (hrd.2.cells (t0 + (i + 1)) oO)) (by rw [hsi (i + 1) oO oO])) rfl <| WL.gy rfl rfl rfl g9 <| WL.c1 hb110 rfl rfl ((r18_hex _ _)) (fun w10 hw10 => ?_)
        obtain rfl := hw10
        have hd1 := digI_cases (s[i + 1]'oO)
        refine WL.gy rfl rfl rfl g9 <| WL.p (.lss rfl rfl) rfl <| WL.p (.pkF rfl g9 rfl) rfl <| WL.m rfl rfl <| WL.gd rfl rfl rfl (fun g11 => ?_) (fun g11 => ?_)
        · have g11' := dF g11
          refine WL.m rfl rfl <| WL.gy rfl rfl rfl g11 <| WL.p (.nck rfl) rfl <| WL.gy rfl rfl rfl g11 <| WL.p (.fa underlying69 rfl sizeOf22 dD rfl) rfl <| WL.gy rfl rfl rfl g11 <| WL.r (Rd.ld (isAgg22 _) rfl hrd.1 rfl) rfl <| WL.gy rfl rfl rfl g11 <| WL.m rfl rfl <| WL.gy rfl rfl rfl g11 <| WL.p (.add rfl rfl (i64w oO)) rfl <| WL.gy rfl rfl rfl g11 <| WL.p (.ixb underlying22 sizeOf5 rfl rfl (hrd.2.isp oO) (t0 + (i + 2)) oO oO) rfl <| WL.gy rfl rfl rfl g11 <| WL.r (Rd.iis (((s[i + 2]'oO).toNat : Int)) (Rd.ldc (isAgg5 _) rfl (hrd.2.cells (t0 + (i + 2)) oO)) (by rw [hsi (i + 2) oO oO])) rfl <| WL.gy rfl rfl rfl g11 <| WL.c1 hb110 rfl rfl ((r18_hex _ _)) (fun w12 hw12 => ?_)
          obtain rfl := hw12
          have hd2 := digI_cases (s[i + 2]'oO)
          refine WL.gy rfl rfl rfl g11 <| WL.p (.lss rfl rfl) rfl <| WL.p (.pkF rfl g11 rfl) rfl <| WL.nil <| ?_
          refine W.cond rfl (fun h13 => ?_) (fun h13 => ?_)
          · have h13' := dT h13
            refine W.sr <| WL.m rfl rfl <| WL.c1 hb74 rfl rfl ((r18_fail r p l c _ refs _ 23 _ ⟨hrd.1, hrd.2⟩ hne)) (fun w14 hw14 => ?_)
            have hk16 := hw14.1.1
            have hv17 := hw14.1.2
            have hB18 := Touch.trans hT (Touch.mono hw14.2 hT.size)
            refine WL.nil <| ?_
            refine W.sr <| WL.z rfl rfl ?_
            refine W.ret (W.ret1 rfl rfl ?_)
            (have hDn : D = none := by
               first
               | rw [← hw, decR_short _ _ _ oO h35 oO]
               | rw [← hw, decR_hash _ _ _ oO h35, if_neg oO]
             rw [hDn] at hX; subst hX; exact ⟨rfl, ⟨hk16, hv17⟩, hB18⟩)
          have h13' := dF h13
          refine W.skip <| W.seq <| W.regY 21 rfl mixed (fun w19 dw19 => ?_)
          have ho20 := Own.drew hown dw19
          have hk21 := hrd.1.drew dw19
          have hv22 := hrd.2.drew dw19
          have hB23 := Touch.trans hT (Touch.of_drew dw19)
          refine WY.tk 0 rfl (.mv rfl) rfl ?_
          refine WY.tk 1 rfl (.nck rfl) rfl ?_
          refine WY.tk 2 rfl (.fa underlying69 rfl sizeOf22 dD rfl) rfl ?_
          refine WY.tk 4 rfl (.mv rfl) rfl ?_
          refine WY.tk 9 rfl (.mv rfl) rfl ?_
          refine WY.tk 10 rfl (.nck rfl) rfl ?_
          refine WY.tk 11 rfl (.fa underlying69 rfl sizeOf22 dD rfl) rfl ?_
          refine WY.tk 13 rfl (.mv rfl) rfl ?_
          refine WY.tk 14 rfl (.add rfl rfl (i64w oO)) rfl ?_
          refine WY.br2 3 rfl 12 rfl ?_ ?_
          refine WL.r (Rd.ld (isAgg22 _) rfl hk21 rfl) rfl <| WL.nil <| ?_
          refine WY.tk 5 rfl (.ixb underlying22 sizeOf5 rfl rfl (hv22.isp oO) (t0 + (i + 1)) (rfl) oO) rfl ?_
          refine WY.br2 6 rfl 12 rfl ?_ ?_
          refine WL.r (Rd.iis (((s[i + 1]'oO).toNat : Int)) (Rd.ldc (isAgg5 _) rfl (hv22.cells (t0 + (i + 1)) oO)) (by rw [hsi (i + 1) oO oO])) rfl <| WL.nil <| ?_
          refine WY.br2 7 rfl 12 rfl ?_ ?_
          refine WL.c1 hb110 rfl rfl ((r18_hex _ _)) (fun w24 hw24 => ?_)
          obtain rfl := hw24
          refine WL.nil <| ?_
          refine WY.tk 8 rfl (.iis (((hexN (s[i + 1]'oO) : Nat) : Int) * 16) (.mul rfl rfl (i64w oO)) oO) rfl ?_
          refine WY.br1 12 rfl ?_
          refine WL.r (Rd.ld (isAgg22 _) rfl hk21 rfl) rfl <| WL.nil <| ?_
          refine WY.tk 15 rfl (.ixb underlying22 sizeOf5 rfl rfl (hv22.isp oO) (t0 + (i + 2)) oO oO) rfl ?_
          refine WY.br1 16 rfl ?_
          refine WL.r (Rd.iis (((s[i + 2]'oO).toNat : Int)) (Rd.ldc (isAgg5 _) rfl (hv22.cells (t0 + (i + 2)) oO)) (by rw [hsi (i + 2) oO oO])) rfl <| WL.nil <| ?_
          refine WY.br1 17 rfl ?_
          refine WL.c1 hb110 rfl rfl ((r18_hex _ _)) (fun w25 hw25 => ?_)
          obtain rfl := hw25
          refine WL.nil <| ?_
          refine WY.tk 18 rfl (.iis (((16 * hexN (s[i + 1]'oO) + hexN (s[i + 2]'oO) : Nat) : Int)) (.add rfl rfl (i64w oO)) oO) rfl ?_
          refine WY.tk 19 rfl (.cvt underlying3 underlying5 rfl (u8w oO)) rfl ?_
          refine WY.tk 20 rfl (.as rfl) rfl ?_
          refine WY.done kR ?_
          refine W.reg <| WL.m rfl rfl <| WL.p (.add rfl rfl (i64w oO)) rfl <| WL.z rfl rfl ?_
          exact ⟨(i + 3, ch ((16 * hexN (s[i + 1]'oO) + hexN (s[i + 2]'oO) : Nat) : Int)), ⟨rfl, rfl, rfl, lk_i rfl oM, lk_i rfl (by rw [ch_val _ oO oO]), trivial⟩, ⟨hk21, hv22⟩, hB23, ho20, by rw [← hw, decR_hash _ _ _ oO h35, if_pos oO], by ((try simp only) <;> omega), by ((try simp only) <;> omega)⟩
          refine WL.r (Rd.ld (isAgg22 _) rfl hk21 rfl) rfl <| WL.nil <| ?_
          refine WY.tk 15 rfl (.ixb underlying22 sizeOf5 rfl rfl (hv22.isp oO) (t0 + (i + 2)) oO oO) rfl ?_
          refine WY.br2 7 rfl 16 rfl ?_ ?_
          refine WL.c1 hb110 rfl rfl ((r18_hex _ _)) (fun w26 hw26 => ?_)
          obtain rfl := hw26
          refine WL.nil <| ?_
          refine WY.tk 8 rfl (.iis (((hexN (s[i + 1]'oO) : Nat) : Int) * 16) (.mul rfl rfl (i64w oO)) oO) rfl ?_
          refine WY.br1 16 rfl ?_
          refine WL.r (Rd.iis (((s[i + 2]'oO).toNat : Int)) (Rd.ldc (isAgg5 _) rfl (hv22.cells (t0 + (i + 2)) oO)) (by rw [hsi (i + 2) oO oO])) rfl <| WL.nil <| ?_
          refine WY.br1 17 rfl ?_
          refine WL.c1 hb110 rfl rfl ((r18_hex _ _)) (fun w27 hw27 => ?_)
          obtain rfl := hw27
          refine WL.nil <| ?_
          refine WY.tk 18 rfl (.iis (((16 * hexN (s[i + 1]'oO) + hexN (s[i + 2]'oO) : Nat) : Int)) (.add rfl rfl (i64w oO)) oO) rfl ?_
          refine WY.tk 19 rfl (.cvt underlying3 underlying5 rfl (u8w oO)) rfl ?_
          refine WY.tk 20 rfl (.as rfl) rfl ?_
          refine WY.done kR ?_
          refine W.reg <| WL.m rfl rfl <| WL.p (.add rfl rfl (i64w oO)) rfl <| WL.z rfl rfl ?_
          exact ⟨(i + 3, ch ((16 * hexN (s[i + 1]'oO) + hexN (s[i + 2]'oO) : Nat) : Int)), ⟨rfl, rfl, rfl, lk_i rfl oM, lk_i rfl (by rw [ch_val _ oO oO]), trivial⟩, ⟨hk21, hv22⟩, hB23, ho20, by rw [← hw, decR_hash _ _ _ oO h35, if_pos oO], by ((try simp only) <;> omega), by ((try simp only) <;> omega)⟩
          refine WL.r (Rd.iis (((s[i + 2]'oO).toNat : Int)) (Rd.ldc (isAgg5 _) rfl (hv22.cells (t0 + (i + 2)) oO)) (by rw [hsi (i + 2) oO oO])) rfl <| WL.nil <| ?_
          refine WY.br1 7 rfl ?_
          refine WL.c1 hb110 rfl rfl ((r18_hex _ _)) (fun w28 hw28 => ?_)
          obtain rfl := hw28
          refine WL.nil <| ?_
          refine WY.tk 8 rfl (.iis (((hexN (s[i + 1]'oO) : Nat) : Int) * 16) (.mul rfl rfl (i64w oO)) oO) rfl ?_
          refine WY.br1 17 rfl ?_
          refine WL.c1 hb110 rfl rfl ((r18_hex _ _)) (fun w29 hw29 => ?_)
          obtain rfl := hw29
          refine WL.nil <| ?_
          refine WY.tk 18 rfl (.iis (((16 * hexN (s[i + 1]'oO) + hexN (s[i + 2]'oO) : Nat) : Int)) (.add rfl rfl (i64w oO)) oO) rfl ?_
          refine WY.tk 19 rfl (.cvt underlying3 underlying5 rfl (u8w oO)) rfl ?_
          refine WY.tk 20 rfl (.as rfl) rfl ?_
          refine WY.done kR ?_
          refine W.reg <| WL.m rfl rfl <| WL.p (.add rfl rfl (i64w oO)) rfl <| WL.z rfl rfl ?_
          exact ⟨(i + 3, ch ((16 * hexN (s[i + 1]'oO) + hexN (s[i + 2]'oO) : Nat) : Int)), ⟨rfl, rfl, rfl, lk_i rfl oM, lk_i rfl (by rw [ch_val _ oO oO]), trivial⟩, ⟨hk21, hv22⟩, hB23, ho20, by rw [← hw, decR_hash _ _ _ oO h35, if_pos oO], by ((try simp only) <;> omega), by ((try simp only) <;> omega)⟩
          refine WL.r (Rd.ld (isAgg22 _) rfl hk21 rfl) rfl <| WL.nil <| ?_
          refine WY.tk 15 rfl (.ixb underlying22 sizeOf5 rfl rfl (hv22.isp oO) (t0 + (i + 2)) oO oO) rfl ?_
          refine WY.br2 6 rfl 16 rfl ?_ ?_
          refine WL.r (Rd.iis (((s[i + 1]'oO).toNat : Int)) (Rd.ldc (isAgg5 _) rfl (hv22.cells (t0 + (i + 1)) oO)) (by rw [hsi (i + 1) oO oO])) rfl <| WL.nil <| ?_
          refine WY.br2 7 rfl 16 rfl ?_ ?_
          refine WL.c1 hb110 rfl rfl ((r18_hex _ _)) (fun w30 hw30 => ?_)
          obtain rfl := hw30
          refine WL.nil <| ?_
          refine WY.tk 8 rfl (.iis (((hexN (s[i + 1]'oO) : Nat) : Int) * 16) (.mul rfl rfl (i64w oO)) oO) rfl ?_
          refine WY.br1 16 rfl ?_
          refine WL.r (Rd.iis (((s[i + 2]'oO).toNat : Int)) (Rd.ldc (isAgg5 _) rfl (hv22.cells (t0 + (i + 2)) oO)) (by rw [hsi (i + 2) oO oO])) rfl <| WL.nil <| ?_
          refine WY.br1 17 rfl ?_
          refine WL.c1 hb110 rfl rfl ((r18_hex _ _)) (fun w31 hw31 => ?_)
          obtain rfl := hw31
          refine WL.nil <| ?_
          refine WY.tk 18 rfl (.iis (((16 * hexN (s[i + 1]'oO) + hexN (s[i + 2]'oO) : Nat) : Int)) (.add rfl rfl (i64w oO)) oO) rfl ?_
          refine WY.tk 19 rfl (.cvt underlying3 underlying5 rfl (u8w oO)) rfl ?_
          refine WY.tk 20 rfl (.as rfl) rfl ?_
          refine WY.done kR ?_
          refine W.reg <| WL.m rfl rfl <| WL.p (.add rfl rfl (i64w oO)) rfl <| WL.z rfl rfl ?_
          exact ⟨(i + 3, ch ((16 * hexN (s[i + 1]'oO) + hexN (s[i + 2]'oO) : Nat) : Int)), ⟨rfl, rfl, rfl, lk_i rfl oM, lk_i rfl (by rw [ch_val _ oO oO]), trivial⟩, ⟨hk21, hv22⟩, hB23, ho20, by rw [← hw, decR_hash _ _ _ oO h35, if_pos oO], by ((try simp only) <;> omega), by ((try simp only) <;> omega)⟩
          refine WL.r (Rd.iis (((s[i + 2]'oO).toNat : Int)) (Rd.ldc (isAgg5 _) rfl (hv22.cells (t0 + (i + 2)) oO)) (by rw [hsi (i + 2) oO oO])) rfl <| WL.nil <| ?_
          refine WY.br1 7 rfl ?_
          refine WL.c1 hb110 rfl rfl ((r18_hex _ _)) (fun w32 hw32 => ?_)
          obtain rfl := hw32
          refine WL.nil <| ?_
          refine WY.tk 8 rfl (.iis (((hexN (s[i + 1]'oO) : Nat) : Int) * 16) (.mul rfl rfl (i64w oO)) oO) rfl ?_
          refine WY.br1 17 rfl ?_
          refine WL.c1 hb110 rfl rfl ((r18_hex _ _)) (fun w33 hw33 => ?_)
          obtain rfl := hw33
          refine WL.nil <| ?_
          refine WY.tk 18 rfl (.iis (((16 * hexN (s[i + 1]'oO) + hexN (s[i + 2]'oO) : Nat) : Int)) (.add rfl rfl (i64w oO)) oO) rfl ?_
          refine WY.tk 19 rfl (.cvt underlying3 underlying5 rfl (u8w oO)) rfl ?_
          refine WY.tk 20 rfl (.as rfl) rfl ?_
          refine WY.done kR ?_
          refine W.reg <| WL.m rfl rfl <| WL.p (.add rfl rfl (i64w oO)) rfl <| WL.z rfl rfl ?_
          exact ⟨(i + 3, ch ((16 * hexN (s[i + 1]'oO) + hexN (s[i + 2]'oO) : Nat) : Int)), ⟨rfl, rfl, rfl, lk_i rfl oM, lk_i rfl (by rw [ch_val _ oO oO]), trivial⟩, ⟨hk21, hv22⟩, hB23, ho20, by rw [← hw, decR_hash _ _ _ oO h35, if_pos oO], by ((try simp only) <;> omega), by ((try simp only) <;> omega)⟩
          refine WL.r (Rd.iis (((s[i + 2]'oO).toNat : Int)) (Rd.ldc (isAgg5 _) rfl (hv22.cells (t0 + (i + 2)) oO)) (by rw [hsi (i + 2) oO oO])) rfl <| WL.nil <| ?_
          refine WY.br1 6 rfl ?_
          refine WL.r (Rd.iis (((s[i + 1]'oO).toNat : Int)) (Rd.ldc (isAgg5 _) rfl (hv22.cells (t0 + (i + 1)) oO)) (by rw [hsi (i + 1) oO oO])) rfl <| WL.nil <| ?_
          refine WY.br1 7 rfl ?_
          refine WL.c1 hb110 rfl rfl ((r18_hex _ _)) (fun w34 hw34 => ?_)
          obtain rfl := hw34
          refine WL.nil <| ?_
          refine WY.tk 8 rfl (.iis (((hexN (s[i + 1]'oO) : Nat) : Int) * 16) (.mul rfl rfl (i64w oO)) oO) rfl ?_
          refine WY.br1 17 rfl ?_
          refine WL.c1 hb110 rfl rfl ((r18_hex _ _)) (fun w35 hw35 => ?_)
          obtain rfl := hw35
          refine WL.nil <| ?_
          refine WY.tk 18 rfl (.iis (((16 * hexN (s[i + 1]'oO) + hexN (s[i + 2]'oO) : Nat) : Int)) (.add rfl rfl (i64w oO)) oO) rfl ?_
          refine WY.tk 19 rfl (.cvt underlying3 underlying5 rfl (u8w oO)) rfl ?_
          refine WY.tk 20 rfl (.as rfl) rfl ?_
          refine WY.done kR ?_
          refine W.reg <| WL.m rfl rfl <| WL.p (.add rfl rfl (i64w oO)) rfl <| WL.z rfl rfl ?_
          exact ⟨(i + 3, ch ((16 * hexN (s[i + 1]'oO) + hexN (s[i + 2]'oO) : Nat) : Int)), ⟨rfl, rfl, rfl, lk_i rfl oM, lk_i rfl (by rw [ch_val _ oO oO]), trivial⟩, ⟨hk21, hv22⟩, hB23, ho20, by rw [← hw, decR_hash _ _ _ oO h35, if_pos oO], by ((try simp only) <;> omega), by ((try simp only) <;> omega)⟩
          refine WL.r (Rd.ld (isAgg22 _) rfl hk21 rfl) rfl <| WL.nil <| ?_
          refine WY.tk 15 rfl (.ixb underlying22 sizeOf5 rfl rfl (hv22.isp oO) (t0 + (i + 2)) oO oO) rfl ?_
          refine WY.br2 3 rfl 16 rfl ?_ ?_
          refine WL.r (Rd.ld (isAgg22 _) rfl hk21 rfl) rfl <| WL.nil <| ?_
          refine WY.tk 5 rfl (.ixb underlying22 sizeOf5 rfl rfl (hv22.isp oO) (t0 + (i + 1)) (rfl) oO) rfl ?_
          refine WY.br2 6 rfl 16 rfl ?_ ?_
          refine WL.r (Rd.iis (((s[i + 1]'oO).toNat : Int)) (Rd.ldc (isAgg5 _) rfl (hv22.cells (t0 + (i + 1)) oO)) (by rw [hsi (i + 1) oO oO])) rfl <| WL.nil <| ?_
          refine WY.br2 7 rfl 16 rfl ?_ ?_
          refine WL.c1 hb110 rfl rfl ((r18_hex _ _)) (fun w36 hw36 => ?_)
          obtain rfl := hw36
          refine WL.nil <| ?_
          refine WY.tk 8 rfl (.iis (((hexN (s[i + 1]'oO) : Nat) : Int) * 16) (.mul rfl rfl (i64w oO)) oO) rfl ?_
          refine WY.br1 16 rfl ?_
          refine WL.r (Rd.iis (((s[i + 2]'oO).toNat : Int)) (Rd.ldc (isAgg5 _) rfl (hv22.cells (t0 + (i + 2)) oO)) (by rw [hsi (i + 2) oO oO])) rfl <| WL.nil <| ?_
          refine WY.br1 17 rfl ?_
          refine WL.c1 hb110 rfl rfl ((r18_hex _ _)) (fun w37 hw37 => ?_)
          obtain rfl := hw37
          refine WL.nil <| ?_
          refine WY.tk 18 rfl (.iis (((16 * hexN (s[i + 1]'oO) + hexN (s[i + 2]'oO) : Nat) : Int)) (.add rfl rfl (i64w oO)) oO) rfl ?_
          refine WY.tk 19 rfl (.cvt underlying3 underlying5 rfl (u8w oO)) rfl ?_
          refine WY.tk 20 rfl (.as rfl) rfl ?_
          refine WY.done kR ?_
          refine W.reg <| WL.m rfl rfl <| WL.p (.add rfl rfl (i64w oO)) rfl <| WL.z rfl rfl ?_
          exact ⟨(i + 3, ch ((16 * hexN (s[i + 1]'oO) + hexN (s[i + 2]'oO) : Nat) : Int)), ⟨rfl, rfl, rfl, lk_i rfl oM, lk_i rfl (by rw [ch_val _ oO oO]), trivial⟩, ⟨hk21, hv22⟩, hB23, ho20, by rw [← hw, decR_hash _ _ _ oO h35, if_pos oO], by ((try simp only) <;> omega), by ((try simp only) <;> omega)⟩
          refine WL.r (Rd.iis (((s[i + 2]'oO).toNat : Int)) (Rd.ldc (isAgg5 _) rfl (hv22.cells (t0 + (i + 2)) oO)) (by rw [hsi (i + 2) oO oO])) rfl <| WL.nil <| ?_
          refine WY.br1 7 rfl ?_
          refine WL.c1 hb110 rfl rfl ((r18_hex _ _)) (fun w38 hw38 => ?_)
          obtain rfl := hw38
          refine WL.nil <| ?_
          refine WY.tk 8 rfl (.iis (((hexN (s[i + 1]'oO) : Nat) : Int) * 16) (.mul rfl rfl (i64w oO)) oO) rfl ?_
          refine WY.br1 17 rfl ?_
          refine WL.c1 hb110 rfl rfl ((r18_hex _ _)) (fun w39 hw39 => ?_)
          obtain rfl := hw39
          refine WL.nil <| ?_
          refine WY.tk 18 rfl (.iis (((16 * hexN (s[i + 1]'oO) + hexN (s[i + 2]'oO) : Nat) : Int)) (.add rfl rfl (i64w oO)) oO) rfl ?_
          refine WY.tk 19 rfl (.cvt underlying3 underlying5 rfl (u8w oO)) rfl ?_
          refine WY.tk 20 rfl (.as rfl) rfl ?_
          refine WY.done kR ?_
          refine W.reg <| WL.m rfl rfl <| WL.p (.add rfl rfl (i64w oO)) rfl <| WL.z rfl rfl ?_
          exact ⟨(i + 3, ch ((16 * hexN (s[i + 1]'oO) + hexN (s[i + 2]'oO) : Nat) : Int)), ⟨rfl, rfl, rfl, lk_i rfl oM, lk_i rfl (by rw [ch_val _ oO oO]), trivial⟩, ⟨hk21, hv22⟩, hB23, ho20, by rw [← hw, decR_hash _ _ _ oO h35, if_pos oO], by ((try simp only) <;> omega), by ((try simp only) <;> omega)⟩
          refine WL.r (Rd.iis (((s[i + 2]'oO).toNat : Int)) (Rd.ldc (isAgg5 _) rfl (hv22.cells (t0 + (i + 2)) oO)) (by rw [hsi (i + 2) oO oO])) rfl <| WL.nil <| ?_
          refine WY.br1 6 rfl ?_
          refine WL.r (Rd.iis (((s[i + 1]'oO).toNat : Int)) (Rd.ldc (isAgg5 _) rfl (hv22.cells (t0 + (i + 1)) oO)) (by rw [hsi (i + 1) oO oO])) rfl <| WL.nil <| ?_
          refine WY.br1 7 rfl ?_
          refine WL.c1 hb110 rfl rfl ((r18_hex _ _)) (fun w40 hw40 => ?_)
          obtain rfl := hw40
          refine WL.nil <| ?_
          refine WY.tk 8 rfl (.iis (((hexN (s[i + 1]'oO) : Nat) : Int) * 16) (.mul rfl rfl (i64w oO)) oO) rfl ?_
          refine WY.br1 17 rfl ?_
          refine WL.c1 hb110 rfl rfl ((r18_hex _ _)) (fun w41 hw41 => ?_)
          obtain rfl := hw41
          refine WL.nil <| ?_
          refine WY.tk 18 rfl (.iis (((16 * hexN (s[i + 1]'oO) + hexN (s[i + 2]'oO) : Nat) : Int)) (.add rfl rfl (i64w oO)) oO) rfl ?_
          refine WY.tk 19 rfl (.cvt underlying3 underlying5 rfl (u8w oO)) rfl ?_
          refine WY.tk 20 rfl (.as rfl) rfl ?_
          refine WY.done kR ?_
          refine W.reg <| WL.m rfl rfl <| WL.p (.add rfl rfl (i64w oO)) rfl <| WL.z rfl rfl ?_
          exact ⟨(i + 3, ch ((16 * hexN (s[i + 1]'oO) + hexN (s[i + 2]'oO) : Nat) : Int)), ⟨rfl, rfl, rfl, lk_i rfl oM, lk_i rfl (by rw [ch_val _ oO oO]), trivial⟩, ⟨hk21, hv22⟩, hB23, ho20, by rw [← hw, decR_hash _ _ _ oO h35, if_pos oO], by ((try simp only) <;> omega), by ((try simp only) <;> omega)⟩
          refine WL.r (Rd.iis (((s[i + 2]'oO).toNat : Int)) (Rd.ldc (isAgg5 _) rfl (hv22.cells (t0 + (i + 2)) oO)) (by rw [hsi (i + 2) oO oO])) rfl <| WL.nil <| ?_
          refine WY.br1 3 rfl ?_
          refine WL.r (Rd.ld (isAgg22 _) rfl hk21 rfl) rfl <| WL.nil <| ?_
          refine WY.tk 5 rfl (.ixb underlying22 sizeOf5 rfl rfl (hv22.isp oO) (t0 + (i + 1)) (rfl) oO) rfl ?_
          refine WY.br1 6 rfl ?_
          refine WL.r (Rd.iis (((s[i + 1]'oO).toNat : Int)) (Rd.ldc (isAgg5 _) rfl (hv22.cells (t0 + (i + 1)) oO)) (by rw [hsi (i + 1) oO oO])) rfl <| WL.nil <| ?_
          refine WY.br1 7 rfl ?_
          refine WL.c1 hb110 rfl rfl ((r18_hex _ _)) (fun w42 hw42 => ?_)
          obtain rfl := hw42
          refine WL.nil <| ?_
          refine WY.tk 8 rfl (.iis (((hexN (s[i + 1]'oO) : Nat) : Int) * 16) (.mul rfl rfl (i64w oO)) oO) rfl ?_
          refine WY.br1 17 rfl ?_
          refine WL.c1 hb110 rfl rfl ((r18_hex _ _)) (fun w43 hw43 => ?_)
          obtain rfl := hw43
          refine WL.nil <| ?_
          refine WY.tk 18 rfl (.iis (((16 * hexN (s[i + 1]'oO) + hexN (s[i + 2]'oO) : Nat) : Int)) (.add rfl rfl (i64w oO)) oO) rfl ?_
          refine WY.tk 19 rfl (.cvt underlying3 underlying5 rfl (u8w oO)) rfl ?_
          refine WY.tk 20 rfl (.as rfl) rfl ?_
          refine WY.done kR ?_
          refine W.reg <| WL.m rfl rfl <| WL.p (.add rfl rfl (i64w oO)) rfl <| WL.z rfl rfl ?_
          exact ⟨(i + 3, ch ((16 * hexN (s[i + 1]'oO) + hexN (s[i + 2]'oO) : Nat) : Int)), ⟨rfl, rfl, rfl, lk_i rfl oM, lk_i rfl (by rw [ch_val _ oO oO]), trivial⟩, ⟨hk21, hv22⟩, hB23, ho20, by rw [← hw, decR_hash _ _ _ oO h35, if_pos oO], by ((try simp only) <;> omega), by ((try simp only) <;> omega)⟩
        have g11' := dT g11
        refine WL.gn rfl rfl rfl g11 <| WL.gn rfl rfl rfl g11 <| WL.gn rfl rfl rfl g11 <| WL.gn rfl rfl rfl g11 <| WL.gn rfl rfl rfl g11 <| WL.gn rfl rfl rfl g11 <| WL.gn rfl rfl rfl g11 <| WL.gn rfl rfl rfl g11 <| WL.gn rfl rfl rfl g11 <| WL.p (.pkT rfl g11 rfl) rfl <| WL.nil <| ?_
        refine W.condT rfl rfl ?_
        refine W.sr <| WL.m rfl rfl <| WL.c1 hb74 rfl rfl ((r18_fail r p l c _ refs _ 23 _ ⟨hrd.1, hrd.2⟩ hne)) (fun w44 hw44 => ?_)
        have hk46 := hw44.1.1
        have hv47 := hw44.1.2
        have hB48 := Touch.trans hT (Touch.mono hw44.2 hT.size)
        refine WL.nil <| ?_
        refine W.sr <| WL.z rfl rfl ?_
        refine W.ret (W.ret1 rfl rfl ?_)
        (have hDn : D = none := by
           first
           | rw [← hw, decR_short _ _ _ oO h35 oO]
           | rw [← hw, decR_hash _ _ _ oO h35, if_neg oO]
         rw [hDn] at hX; subst hX; exact ⟨rfl, ⟨hk46, hv47⟩, hB48⟩)
      have g9' := dT g9
      refine WL.gn rfl rfl rfl g9 <| WL.gn rfl rfl rfl g9 <| WL.gn rfl rfl rfl g9 <| WL.gn rfl rfl rfl g9 <| WL.gn rfl rfl rfl g9 <| WL.gn rfl rfl rfl g9 <| WL.gn rfl rfl rfl g9 <| WL.gn rfl rfl rfl g9 <| WL.p (.pkT rfl g9 rfl) rfl <| WL.m rfl rfl <| WL.gn rfl rfl rfl rfl <| WL.gn rfl rfl rfl rfl <| WL.gn rfl rfl rfl rfl <| WL.gn rfl rfl rfl rfl <| WL.gn rfl rfl rfl rfl <| WL.gn rfl rfl rfl rfl <| WL.gn rfl rfl rfl rfl <| WL.gn rfl rfl rfl rfl <| WL.gn rfl rfl rfl rfl <| WL.gn rfl rfl rfl rfl <| WL.p (.pkT rfl rfl rfl) rfl <| WL.nil <| ?_
      refine W.condT rfl rfl ?_
      refine W.sr <| WL.m rfl rfl <| WL.c1 hb74 rfl rfl ((r18_fail r p l c _ refs _ 23 _ ⟨hrd.1, hrd.2⟩ hne)) (fun w49 hw49 => ?_)
      have hk51 := hw49.1.1
      have hv52 := hw49.1.2
      have hB53 := Touch.trans hT (Touch.mono hw49.2 hT.size)
      refine WL.nil <| ?_
      refine W.sr <| WL.z rfl rfl ?_
      refine W.ret (W.ret1 rfl rfl ?_)
      (have hDn : D = none := by
         first
         | rw [← hw, decR_short _ _ _ oO h35 oO]
         | rw [← hw, decR_hash _ _ _ oO h35, if_neg oO]
       rw [hDn] at hX; subst hX; exact ⟨rfl, ⟨hk51, hv52⟩, hB53⟩)
    have h8' := dF h8
    have h35 : s[i]'oO ≠ 35 := u8_ne (d := 35) aS
    refine W.skip ?_
    exact ⟨(i + 1, s[i]'oO), ⟨rfl, rfl, rfl, rfl, rfl, trivial⟩, ⟨hrd.1, hrd.2⟩, hT, hown, by rw [← hw, decR_plain _ _ _ oO h35], by ((try simp only) <;> omega), by ((try simp only) <;> omega)⟩
    obtain ⟨i', x⟩ := t
    obtain ⟨hrd, hT, hown, hw', hi1, hi2⟩ := hR
    simp only at hw' hi1 hi2 ⊢
    refine W.reg <| WL.m rfl rfl <| WL.m rfl rfl <| WL.bsl (ps := _) underlying22 sizeOf5 zeroValue5 rfl rfl rfl rfl rfl pR rfl (fun b54 wb54 eb54 hkb54 hub54 hsb54 => ?_)
    have ho55 := Own.new hown eb54 hub54
    have hl57 : r < b54 := by rw [eb54]; exact hrd.1.lt
    have hk56 := hrd.1.upd hub54 (Nat.ne_of_lt hl57)
    have hvl59 := fun h0 => eb54 ▸ hrd.2.lt h0
    have hv58 := BytesAt.upd hrd.2 hub54 (fun h0 => Nat.ne_of_lt (hvl59 h0))
    have hgeb54 : w.heap.size ≤ b54 := by rw [eb54]; exact hT.size
    have hB60 := Touch.trans hT (Touch.of_new hub54 hgeb54)
    refine WL.appm underlying22 inf5 rfl rfl rfl ho55 rfl hkb54 rfl (by rw [byteVals_len]; omega) (hB60.size) rfl (fun v61 w62 how62 hbw62 hgw62 => ?_)
    have hk63 := hk56.below hbw62 oO
    have hv64 := BytesAt.below hv58 hbw62 hbl
    have hB65 := Touch.trans hB60 (Touch.of_below (hbw62.mono (Nat.le_refl _)))
    have ho66 := Own.snoc how62 (x) (rfl)
    refine WL.z rfl rfl ?_
    exact ⟨(_, o ++ [x], i'), ⟨rfl, rfl, rfl, rfl, trivial⟩, ⟨⟨hk63, hv64⟩, hB65, ho66, hw', by simp only [List.length_append, List.length_cons, List.length_nil]; omega, by ((try simp only) <;> omega)⟩, by ((try simp only) <;> omega)⟩
  have h7' := dF h7
  refine W.exit <| W.sr <| WL.m rfl rfl <| WL.m rfl rfl <| WL.p (.nck rfl) rfl <| WL.p (.fa underlying69 rfl sizeOf3 dD rfl) rfl <| WL.st sizeOf3 rfl rfl rfl hrd.1 oD (fun w67 hkw67 huw67 hsw67 => ?_)
  have hkw67 : Blk w67 r _ _ := hkw67
  have huw67 : Upd r _ _ := huw67
  have ho68 := Own.touch hown huw67 oM
  have hv69 := BytesAt.upd hrd.2 huw67 hne
  have hB70 := Touch.trans hT (Touch.of_upd huw67)
  refine WL.nil <| ?_
  refine W.seq <| W.seq ?_
  obtain ⟨q, cq, rfl, hqb, hqB⟩ := Own.bytes ho68
  have hDo : D = some o := by rw [← hw, show i = s.length by omega, List.drop_length, decR_nil]
  refine W.reg <| WL.z rfl rfl ?_
  refine W.block ?_
  refine W.loop (α := Nat) (fun t => [(0, .pointer (some ⟨r, 0, none⟩)), (4, .slice q o.length cq), (7, .int .i64 (t : Int))]) (fun t w' => RRd w' r p l c t1 refs (zeroE (o.take t)) ∧ Touch w.heap.size r w w' ∧ Own 5 w.heap.size w' (.slice q o.length cq) (byteVals o) ∧ t ≤ o.length) (fun t => o.length - t) (0) ⟨rfl, rfl, rfl, trivial⟩ (⟨⟨hkw67, hv69⟩, hB70, ho68, Nat.zero_le _⟩) (fun t w1 hR => ?_)
  obtain ⟨k, rfl⟩ : ∃ k, k = t := ⟨t, rfl⟩
  obtain ⟨hrd, hT, hown, hk⟩ := hR
  have hqb := Own.bytesQ hown
  have hst := zeroE_step o k
  refine W.seq <| W.sr <| WL.m rfl rfl <| WL.m rfl rfl <| WL.p (.lenS underlying22 rfl) rfl <| WL.p (.lss rfl rfl) rfl <| WL.nil <| ?_
  refine W.cond rfl (fun h71 => ?_) (fun h71 => ?_)
  · have h71' := dT h71
    refine W.skip <| W.seq <| W.block <| W.sr <| WL.m rfl rfl <| WL.m rfl rfl <| WL.p (.ixb underlying22 sizeOf5 rfl rfl (hqb.isp oO) (k) (rfl) oO) rfl <| WL.r (Rd.ldc (isAgg5 _) rfl (hqb.cells (k) oO)) rfl <| WL.p (.eql rfl rfl) rfl <| WL.nil <| ?_
    refine W.cond rfl (fun h72 => ?_) (fun h72 => ?_)
    · have h72' := dT h72
      refine W.reg <| WL.m rfl rfl <| WL.c1 hb74 rfl rfl ((r18_fail r p l c _ refs _ 23 _ ⟨hrd.1, hrd.2⟩ hne)) (fun w73 hw73 => ?_)
      have ho74 := Own.touch' hown hw73.2 oO
      have hk75 := hw73.1.1
      have hv76 := hw73.1.2
      have hB78 := Touch.trans hT (Touch.mono hw73.2 hT.size)
      refine WL.nil <| ?_
      refine W.reg <| WL.m rfl rfl <| WL.p (.iis (((k + 1 : Nat) : Int)) (.add rfl rfl (i64w oO)) oO) rfl <| WL.z rfl rfl ?_
      exact ⟨k + 1, ⟨rfl, rfl, rfl, trivial⟩, ⟨by rw [hst oO, if_pos (u8_eq (d := 0) aS)]; exact ⟨hk75, hv76⟩, hB78, ho74, by ((try simp only) <;> omega)⟩, by ((try simp only) <;> omega)⟩
    have h72' := dF h72
    refine W.skip <| W.reg <| WL.m rfl rfl <| WL.p (.iis (((k + 1 : Nat) : Int)) (.add rfl rfl (i64w oO)) oO) rfl <| WL.z rfl rfl ?_
    exact ⟨k + 1, ⟨rfl, rfl, rfl, trivial⟩, ⟨by rw [hst oO, if_neg (u8_ne (d := 0) aS)]; exact ⟨hrd.1, hrd.2⟩, hT, hown, by ((try simp only) <;> omega)⟩, by ((try simp only) <;> omega)⟩
  have h71' := dF h71
  refine W.exit <| W.seq <| W.sr <| WL.m rfl rfl <| WL.p (.lenS underlying22 rfl) rfl <| WL.p (.eql rfl rfl) rfl <| WL.nil <| ?_
  refine W.cond rfl (fun h79 => ?_) (fun h79 => ?_)
  · have h79' := dT h79
    refine W.reg <| WL.m rfl rfl <| WL.c1 hb74 rfl rfl ((r18_fail r p l c _ refs _ 23 _ ⟨hrd.1, hrd.2⟩ hne)) (fun w80 hw80 => ?_)
    have ho81 := Own.touch' hown hw80.2 oO
    have hk82 := hw80.1.1
    have hv83 := hw80.1.2
    have hB85 := Touch.trans hT (Touch.mono hw80.2 hT.size)
    refine WL.nil <| ?_
    refine W.seq <| W.sr <| WL.m rfl rfl <| WL.p (.lenS underlying22 rfl) rfl <| WL.p (.gtr rfl rfl) rfl <| WL.nil <| ?_
    refine W.cond rfl (fun h86 => ?_) (fun h86 => ?_)
    · have h86' := dT h86
      refine W.reg <| WL.m rfl rfl <| WL.c1 hb74 rfl rfl ((r18_fail r p l c _ refs _ 25 _ ⟨hk82, hv83⟩ hne)) (fun w87 hw87 => ?_)
      have ho88 := Own.touch' ho81 hw87.2 oO
      refine WL.nil <| ?_
      refine W.sr <| WL.m rfl rfl <| WL.r (Rd.b2s (l := o) underlying22 underlying5 underlying9 rfl (Own.bytesQ ho88)) rfl <| WL.z rfl rfl ?_
      refine W.ret (W.ret1 rfl rfl ?_)
      (exfalso; omega)
    have h86' := dF h86
    refine W.skip <| W.sr <| WL.m rfl rfl <| WL.r (Rd.b2s (l := o) underlying22 underlying5 underlying9 rfl (Own.bytesQ ho81)) rfl <| WL.z rfl rfl ?_
    refine W.ret (W.ret1 rfl rfl ?_)
    (rw [hDo] at hX; subst hX; exact ⟨rfl, by show RRd _ _ _ _ _ _ _ (nameE o); rw [nameE_a (k := k) oO]; exact ⟨hk82, hv83⟩, hB85⟩)
  have h79' := dF h79
  refine W.skip <| W.seq <| W.sr <| WL.m rfl rfl <| WL.p (.lenS underlying22 rfl) rfl <| WL.p (.gtr rfl rfl) rfl <| WL.nil <| ?_
  refine W.cond rfl (fun h93 => ?_) (fun h93 => ?_)
  · have h93' := dT h93
    refine W.reg <| WL.m rfl rfl <| WL.c1 hb74 rfl rfl ((r18_fail r p l c _ refs _ 25 _ ⟨hrd.1, hrd.2⟩ hne)) (fun w94 hw94 => ?_)
    have ho95 := Own.touch' hown hw94.2 oO
    have hk96 := hw94.1.1
    have hv97 := hw94.1.2
    have hB99 := Touch.trans hT (Touch.mono hw94.2 hT.size)
    refine WL.nil <| ?_
    refine W.sr <| WL.m rfl rfl <| WL.r (Rd.b2s (l := o) underlying22 underlying5 underlying9 rfl (Own.bytesQ ho95)) rfl <| WL.z rfl rfl ?_
    refine W.ret (W.ret1 rfl rfl ?_)
    (rw [hDo] at hX; subst hX; exact ⟨rfl, by show RRd _ _ _ _ _ _ _ (nameE o); rw [nameE_b (k := k) oO oO oO]; exact ⟨hk96, hv97⟩, hB99⟩)
  have h93' := dF h93
  refine W.skip <| W.sr <| WL.m rfl rfl <| WL.r (Rd.b2s (l := o) underlying22 underlying5 underlying9 rfl (Own.bytesQ hown)) rfl <| WL.z rfl rfl ?_
  refine W.ret (W.ret1 rfl rfl ?_)
  (rw [hDo] at hX; subst hX; exact ⟨rfl, by show RRd _ _ _ _ _ _ _ (nameE o); rw [nameE_c (k := k) oO oO oO]; exact ⟨hrd.1, hrd.2⟩, hT⟩)
end
section
theorem pOpen_yes' {c : UInt8} (h2 : blankB c = true ∨ ¬ digI c < 0) : pOpen c = true := by
 refine pOpen_yes ?_ h2
 rintro rfl
 rcases h2 with h | h
 ·
  exact absurd h dD
 ·
  exact h dD
/-- what the document's text answers: kind, bytes, place, error -/
def textD (l : List UInt8) (t : Nat) : Int × List UInt8 × Nat × Int :=
 match textR l t with
 | .ok (s, t') => (5, s, t', 0)
 | .error k => (0, [], t, k)
theorem r18_text (r : Nat) (p : Option Addr) (l : List UInt8) (c t : Nat) (refs : Bool) (w : World) (h : RRd w r p l c t refs 0) (hne : 0 < l.length → (pA p).block ≠ r) (hc : l.length ≤ c) (hl : l.length ≤ 100000000) (ht : t < l.length) (h46 : l[t] = 40 ∨ l[t] = 60) :
    Calls Tryz.prog 73 #[.pointer (some ⟨r, 0, none⟩)] w fun e w' => e = .returned (.agg (pobj (textD l t).1 0 (textD l t).2.1).toArray) ∧ RRd w' r p l c (textD l t).2.2.1 refs (textD l t).2.2.2 ∧ Touch w.heap.size r w w' := by
  have hr := h.1
  have hb := h.2
  obtain ⟨X, hX⟩ : ∃ X, X = textD l t := ⟨_, rfl⟩
  rw [← hX]
  unfold textD textR at hX
  have hg : l[t]? = some l[t] := List.getElem?_eq_getElem ht
  have hN : ∀ w1, BytesAt w1 p l → Calls Tryz.prog 111 #[.slice p l.length c, .int .i64 (t : Int)] w1 fun e w' => e = .returned (nextR l t).val ∧ Below w1.heap.size w1 w' := fun w1 h1 => ref_Next t p l c w1 h1 hc hl
  have hstep := nextR_step l t oO
  generalize nextR l t = N at hX hN hstep
  obtain ⟨t0, ht0⟩ : ∃ t0, t0 = t := ⟨t, rfl⟩
  subst ht0
  refine W.enter func73 rfl ntmps73 (Nat.le_of_ble_eq_true rfl) ?_
  have hB0 := Touch.refl (w.heap.size) r w
  refine W.sr <| WL.alloc zeroValue31 rfl (fun b1 wb1 eb1 hkb1 hub1 hsb1 => ?_)
  have hl3 : r < b1 := by rw [eb1]; exact hr.lt
  have hk2 := hr.upd hub1 (Nat.ne_of_lt hl3)
  have hvl5 := fun h0 => eb1 ▸ hb.lt h0
  have hv4 := bup hb hub1 hvl5
  have hgeb1 : w.heap.size ≤ b1 := by rw [eb1]; exact hB0.size
  have hB6 := Touch.trans hB0 (Touch.of_new hub1 hgeb1)
  refine WL.nil <| ?_
  have hrB : r < b1 := by have := hr.lt; omega
  refine W.cut (α := Nat) (fun t => [(0, .pointer (some ⟨r, 0, none⟩)), (2, .pointer (some ⟨b1, 0, none⟩)), (3, .pointer (some ⟨t, 0, none⟩)), (4, .int .i64 N.at'), (5, .int .i64 N.e)]) (fun t w' => Touch w.heap.size r w w' ∧ RRd w' r p l c t0 refs 0 ∧ Blk w' b1 (pobj 0 0 []).toArray 31 ∧ Blk w' t #[.int .i64 N.k, .int .i64 N.n, .string (bs N.s)] 143 ∧ b1 < t) ?_ (fun t w1 hR => ?_)
  refine W.regY 17 rfl mixed (fun w7 dw7 => ?_)
  have hk8 := hk2.drew dw7
  have hk9 := hkb1.drew dw7
  have hv10 := hv4.drew dw7
  have hB11 := Touch.trans hB6 (Touch.of_drew dw7)
  refine WY.tk 0 rfl (.mv rfl) rfl ?_
  refine WY.tk 1 rfl (.nck rfl) rfl ?_
  refine WY.tk 2 rfl (.fa underlying69 rfl sizeOf22 dD rfl) rfl ?_
  refine WY.tk 4 rfl (.mv rfl) rfl ?_
  refine WY.tk 5 rfl (.nck rfl) rfl ?_
  refine WY.tk 6 rfl (.fa underlying69 rfl sizeOf3 dD rfl) rfl ?_
  refine WY.br [3, 7, 13] kR rfl ⟨⟨_, rfl, ?_⟩, ⟨_, rfl, ?_⟩, ⟨_, rfl, ?_⟩, trivial⟩
  refine WL.r (Rd.ld (isAgg22 _) rfl hk8 rfl) rfl <| WL.nil <| ?_
  refine WY.br2 7 rfl 13 rfl ?_ ?_
  refine WL.r (Rd.ld (isAgg3 _) rfl hk8 rfl) rfl <| WL.nil <| ?_
  refine WY.br2 8 rfl 13 rfl ?_ ?_
  refine WL.c1 hb111 rfl rfl ((hN _ hv10)) (fun w12 hw12 => ?_)
  have hk13 := hk8.below hw12 hk8.lt
  have hk14 := hk9.below hw12 hk9.lt
  have hv15 := BytesAt.below hv10 hw12 (fun h0 => hv10.lt h0)
  have hB16 := Touch.trans hB11 (Touch.mono (Touch.of_below hw12) hB11.size)
  refine WL.nil <| ?_
  refine WY.tk 9 rfl (.mv rfl) rfl ?_
  refine WY.tk 10 rfl (.ext rfl rfl) rfl ?_
  refine WY.tk 11 rfl (.ext rfl rfl) rfl ?_
  refine WY.tk 12 rfl (.ext rfl rfl) rfl ?_
  refine WY.br1 13 rfl ?_
  refine WL.alloc zeroValue143 rfl (fun b17 wb17 eb17 hkb17 hub17 hsb17 => ?_)
  have hl19 : r < b17 := by rw [eb17]; exact hk13.lt
  have hk18 := hk13.upd hub17 (Nat.ne_of_lt hl19)
  have hl21 : b1 < b17 := by rw [eb17]; exact hk14.lt
  have hk20 := hk14.upd hub17 (Nat.ne_of_lt hl21)
  have hvl23 := fun h0 => eb17 ▸ hv15.lt h0
  have hv22 := bup hv15 hub17 hvl23
  have hgeb17 : w.heap.size ≤ b17 := by rw [eb17]; exact hB16.size
  have hB24 := Touch.trans hB16 (Touch.of_new hub17 hgeb17)
  refine WL.nil <| ?_
  refine WY.br1 14 rfl ?_
  refine WL.stL rfl rfl hkb17 isz143 rfl rfl (fun w25 hkw25 huw25 hsw25 => ?_)
  have hk26 := hk18.up huw25
  have hk27 := hk20.up huw25
  have hv28 := bup hv22 huw25 hvl23
  have hB29 := Touch.trans hB24 (Touch.of_new huw25 oO)
  refine WL.nil <| ?_
  refine WY.tk 15 rfl (.as rfl) rfl ?_
  refine WY.tk 16 rfl (.as rfl) rfl ?_
  refine WY.done kR ?_
  exact ⟨_, ⟨rfl, rfl, rfl, rfl, rfl, trivial⟩, hB29, ⟨hk26, hv28⟩, hk27, hkw25, by omega⟩
  refine WL.alloc zeroValue143 rfl (fun b30 wb30 eb30 hkb30 hub30 hsb30 => ?_)
  have hl32 : r < b30 := by rw [eb30]; exact hk8.lt
  have hk31 := hk8.upd hub30 (Nat.ne_of_lt hl32)
  have hl34 : b1 < b30 := by rw [eb30]; exact hk9.lt
  have hk33 := hk9.upd hub30 (Nat.ne_of_lt hl34)
  have hvl36 := fun h0 => eb30 ▸ hv10.lt h0
  have hv35 := bup hv10 hub30 hvl36
  have hgeb30 : w.heap.size ≤ b30 := by rw [eb30]; exact hB11.size
  have hB37 := Touch.trans hB11 (Touch.of_new hub30 hgeb30)
  refine WL.nil <| ?_
  refine WY.br1 8 rfl ?_
  refine WL.c1 hb111 rfl rfl ((hN _ hv35)) (fun w38 hw38 => ?_)
  have hk39 := hk31.below hw38 hk31.lt
  have hk40 := hk33.below hw38 hk33.lt
  have hk41 := hkb30.below hw38 hkb30.lt
  have hv42 := BytesAt.below hv35 hw38 (fun h0 => hv35.lt h0)
  have hB43 := Touch.trans hB37 (Touch.mono (Touch.of_below hw38) hB37.size)
  refine WL.nil <| ?_
  refine WY.tk 9 rfl (.mv rfl) rfl ?_
  refine WY.tk 10 rfl (.ext rfl rfl) rfl ?_
  refine WY.tk 11 rfl (.ext rfl rfl) rfl ?_
  refine WY.tk 12 rfl (.ext rfl rfl) rfl ?_
  refine WY.br1 14 rfl ?_
  refine WL.stL rfl rfl hk41 isz143 rfl rfl (fun w44 hkw44 huw44 hsw44 => ?_)
  have hk45 := hk39.up huw44
  have hk46 := hk40.up huw44
  have hv47 := bup hv42 huw44 hvl36
  have hB48 := Touch.trans hB43 (Touch.of_new huw44 oO)
  refine WL.nil <| ?_
  refine WY.tk 15 rfl (.as rfl) rfl ?_
  refine WY.tk 16 rfl (.as rfl) rfl ?_
  refine WY.done kR ?_
  exact ⟨_, ⟨rfl, rfl, rfl, rfl, rfl, trivial⟩, hB48, ⟨hk45, hv47⟩, hk46, hkw44, by omega⟩
  refine WL.alloc zeroValue143 rfl (fun b49 wb49 eb49 hkb49 hub49 hsb49 => ?_)
  have hl51 : r < b49 := by rw [eb49]; exact hk8.lt
  have hk50 := hk8.upd hub49 (Nat.ne_of_lt hl51)
  have hl53 : b1 < b49 := by rw [eb49]; exact hk9.lt
  have hk52 := hk9.upd hub49 (Nat.ne_of_lt hl53)
  have hvl55 := fun h0 => eb49 ▸ hv10.lt h0
  have hv54 := bup hv10 hub49 hvl55
  have hgeb49 : w.heap.size ≤ b49 := by rw [eb49]; exact hB11.size
  have hB56 := Touch.trans hB11 (Touch.of_new hub49 hgeb49)
  refine WL.nil <| ?_
  refine WY.br1 7 rfl ?_
  refine WL.r (Rd.ld (isAgg3 _) rfl hk50 rfl) rfl <| WL.nil <| ?_
  refine WY.br1 8 rfl ?_
  refine WL.c1 hb111 rfl rfl ((hN _ hv54)) (fun w57 hw57 => ?_)
  have hk58 := hk50.below hw57 hk50.lt
  have hk59 := hk52.below hw57 hk52.lt
  have hk60 := hkb49.below hw57 hkb49.lt
  have hv61 := BytesAt.below hv54 hw57 (fun h0 => hv54.lt h0)
  have hB62 := Touch.trans hB56 (Touch.mono (Touch.of_below hw57) hB56.size)
  refine WL.nil <| ?_
  refine WY.tk 9 rfl (.mv rfl) rfl ?_
  refine WY.tk 10 rfl (.ext rfl rfl) rfl ?_
  refine WY.tk 11 rfl (.ext rfl rfl) rfl ?_
  refine WY.tk 12 rfl (.ext rfl rfl) rfl ?_
  refine WY.br1 14 rfl ?_
  refine WL.stL rfl rfl hk60 isz143 rfl rfl (fun w63 hkw63 huw63 hsw63 => ?_)
  have hk64 := hk58.up huw63
  have hk65 := hk59.up huw63
  have hv66 := bup hv61 huw63 hvl55
  have hB67 := Touch.trans hB62 (Touch.of_new huw63 oO)
  refine WL.nil <| ?_
  refine WY.tk 15 rfl (.as rfl) rfl ?_
  refine WY.tk 16 rfl (.as rfl) rfl ?_
  refine WY.done kR ?_
  exact ⟨_, ⟨rfl, rfl, rfl, rfl, rfl, trivial⟩, hB67, ⟨hk64, hv66⟩, hk65, hkw63, by omega⟩
  refine WL.r (Rd.ld (isAgg3 _) rfl hk8 rfl) rfl <| WL.nil <| ?_
  refine WY.br2 3 rfl 13 rfl ?_ ?_
  refine WL.r (Rd.ld (isAgg22 _) rfl hk8 rfl) rfl <| WL.nil <| ?_
  refine WY.br2 8 rfl 13 rfl ?_ ?_
  refine WL.c1 hb111 rfl rfl ((hN _ hv10)) (fun w68 hw68 => ?_)
  have hk69 := hk8.below hw68 hk8.lt
  have hk70 := hk9.below hw68 hk9.lt
  have hv71 := BytesAt.below hv10 hw68 (fun h0 => hv10.lt h0)
  have hB72 := Touch.trans hB11 (Touch.mono (Touch.of_below hw68) hB11.size)
  refine WL.nil <| ?_
  refine WY.tk 9 rfl (.mv rfl) rfl ?_
  refine WY.tk 10 rfl (.ext rfl rfl) rfl ?_
  refine WY.tk 11 rfl (.ext rfl rfl) rfl ?_
  refine WY.tk 12 rfl (.ext rfl rfl) rfl ?_
  refine WY.br1 13 rfl ?_
  refine WL.alloc zeroValue143 rfl (fun b73 wb73 eb73 hkb73 hub73 hsb73 => ?_)
  have hl75 : r < b73 := by rw [eb73]; exact hk69.lt
  have hk74 := hk69.upd hub73 (Nat.ne_of_lt hl75)
  have hl77 : b1 < b73 := by rw [eb73]; exact hk70.lt
  have hk76 := hk70.upd hub73 (Nat.ne_of_lt hl77)
  have hvl79 := fun h0 => eb73 ▸ hv71.lt h0
  have hv78 := bup hv71 hub73 hvl79
  have hgeb73 : w.heap.size ≤ b73 := by rw [eb73]; exact hB72.size
  have hB80 := Touch.trans hB72 (Touch.of_new hub73 hgeb73)
  refine WL.nil <| ?_
  refine WY.br1 14 rfl ?_
  refine WL.stL rfl rfl hkb73 isz143 rfl rfl (fun w81 hkw81 huw81 hsw81 => ?_)
  have hk82 := hk74.up huw81
  have hk83 := hk76.up huw81
  have hv84 := bup hv78 huw81 hvl79
  have hB85 := Touch.trans hB80 (Touch.of_new huw81 oO)
  refine WL.nil <| ?_
  refine WY.tk 15 rfl (.as rfl) rfl ?_
  refine WY.tk 16 rfl (.as rfl) rfl ?_
  refine WY.done kR ?_
  exact ⟨_, ⟨rfl, rfl, rfl, rfl, rfl, trivial⟩, hB85, ⟨hk82, hv84⟩, hk83, hkw81, by omega⟩
  refine WL.alloc zeroValue143 rfl (fun b86 wb86 eb86 hkb86 hub86 hsb86 => ?_)
  have hl88 : r < b86 := by rw [eb86]; exact hk8.lt
  have hk87 := hk8.upd hub86 (Nat.ne_of_lt hl88)
  have hl90 : b1 < b86 := by rw [eb86]; exact hk9.lt
  have hk89 := hk9.upd hub86 (Nat.ne_of_lt hl90)
  have hvl92 := fun h0 => eb86 ▸ hv10.lt h0
  have hv91 := bup hv10 hub86 hvl92
  have hgeb86 : w.heap.size ≤ b86 := by rw [eb86]; exact hB11.size
  have hB93 := Touch.trans hB11 (Touch.of_new hub86 hgeb86)
  refine WL.nil <| ?_
  refine WY.br1 8 rfl ?_
  refine WL.c1 hb111 rfl rfl ((hN _ hv91)) (fun w94 hw94 => ?_)
  have hk95 := hk87.below hw94 hk87.lt
  have hk96 := hk89.below hw94 hk89.lt
  have hk97 := hkb86.below hw94 hkb86.lt
  have hv98 := BytesAt.below hv91 hw94 (fun h0 => hv91.lt h0)
  have hB99 := Touch.trans hB93 (Touch.mono (Touch.of_below hw94) hB93.size)
  refine WL.nil <| ?_
  refine WY.tk 9 rfl (.mv rfl) rfl ?_
  refine WY.tk 10 rfl (.ext rfl rfl) rfl ?_
  refine WY.tk 11 rfl (.ext rfl rfl) rfl ?_
  refine WY.tk 12 rfl (.ext rfl rfl) rfl ?_
  refine WY.br1 14 rfl ?_
  refine WL.stL rfl rfl hk97 isz143 rfl rfl (fun w100 hkw100 huw100 hsw100 => ?_)
  have hk101 := hk95.up huw100
  have hk102 := hk96.up huw100
  have hv103 := bup hv98 huw100 hvl92
  have hB104 := Touch.trans hB99 (Touch.of_new huw100 oO)
  refine WL.nil <| ?_
  refine WY.tk 15 rfl (.as rfl) rfl ?_
  refine WY.tk 16 rfl (.as rfl) rfl ?_
  refine WY.done kR ?_
  exact ⟨_, ⟨rfl, rfl, rfl, rfl, rfl, trivial⟩, hB104, ⟨hk101, hv103⟩, hk102, hkw100, by omega⟩
  refine WL.alloc zeroValue143 rfl (fun b105 wb105 eb105 hkb105 hub105 hsb105 => ?_)
  have hl107 : r < b105 := by rw [eb105]; exact hk8.lt
  have hk106 := hk8.upd hub105 (Nat.ne_of_lt hl107)
  have hl109 : b1 < b105 := by rw [eb105]; exact hk9.lt
  have hk108 := hk9.upd hub105 (Nat.ne_of_lt hl109)
  have hvl111 := fun h0 => eb105 ▸ hv10.lt h0
  have hv110 := bup hv10 hub105 hvl111
  have hgeb105 : w.heap.size ≤ b105 := by rw [eb105]; exact hB11.size
  have hB112 := Touch.trans hB11 (Touch.of_new hub105 hgeb105)
  refine WL.nil <| ?_
  refine WY.br1 3 rfl ?_
  refine WL.r (Rd.ld (isAgg22 _) rfl hk106 rfl) rfl <| WL.nil <| ?_
  refine WY.br1 8 rfl ?_
  refine WL.c1 hb111 rfl rfl ((hN _ hv110)) (fun w113 hw113 => ?_)
  have hk114 := hk106.below hw113 hk106.lt
  have hk115 := hk108.below hw113 hk108.lt
  have hk116 := hkb105.below hw113 hkb105.lt
  have hv117 := BytesAt.below hv110 hw113 (fun h0 => hv110.lt h0)
  have hB118 := Touch.trans hB112 (Touch.mono (Touch.of_below hw113) hB112.size)
  refine WL.nil <| ?_
  refine WY.tk 9 rfl (.mv rfl) rfl ?_
  refine WY.tk 10 rfl (.ext rfl rfl) rfl ?_
  refine WY.tk 11 rfl (.ext rfl rfl) rfl ?_
  refine WY.tk 12 rfl (.ext rfl rfl) rfl ?_
  refine WY.br1 14 rfl ?_
  refine WL.stL rfl rfl hk116 isz143 rfl rfl (fun w119 hkw119 huw119 hsw119 => ?_)
  have hk120 := hk114.up huw119
  have hk121 := hk115.up huw119
  have hv122 := bup hv117 huw119 hvl111
  have hB123 := Touch.trans hB118 (Touch.of_new huw119 oO)
  refine WL.nil <| ?_
  refine WY.tk 15 rfl (.as rfl) rfl ?_
  refine WY.tk 16 rfl (.as rfl) rfl ?_
  refine WY.done kR ?_
  exact ⟨_, ⟨rfl, rfl, rfl, rfl, rfl, trivial⟩, hB123, ⟨hk120, hv122⟩, hk121, hkw119, by omega⟩
  refine WL.alloc zeroValue143 rfl (fun b124 wb124 eb124 hkb124 hub124 hsb124 => ?_)
  have hl126 : r < b124 := by rw [eb124]; exact hk8.lt
  have hk125 := hk8.upd hub124 (Nat.ne_of_lt hl126)
  have hl128 : b1 < b124 := by rw [eb124]; exact hk9.lt
  have hk127 := hk9.upd hub124 (Nat.ne_of_lt hl128)
  have hvl130 := fun h0 => eb124 ▸ hv10.lt h0
  have hv129 := bup hv10 hub124 hvl130
  have hgeb124 : w.heap.size ≤ b124 := by rw [eb124]; exact hB11.size
  have hB131 := Touch.trans hB11 (Touch.of_new hub124 hgeb124)
  refine WL.nil <| ?_
  refine WY.br2 3 rfl 7 rfl ?_ ?_
  refine WL.r (Rd.ld (isAgg22 _) rfl hk125 rfl) rfl <| WL.nil <| ?_
  refine WY.br1 7 rfl ?_
  refine WL.r (Rd.ld (isAgg3 _) rfl hk125 rfl) rfl <| WL.nil <| ?_
  refine WY.br1 8 rfl ?_
  refine WL.c1 hb111 rfl rfl ((hN _ hv129)) (fun w132 hw132 => ?_)
  have hk133 := hk125.below hw132 hk125.lt
  have hk134 := hk127.below hw132 hk127.lt
  have hk135 := hkb124.below hw132 hkb124.lt
  have hv136 := BytesAt.below hv129 hw132 (fun h0 => hv129.lt h0)
  have hB137 := Touch.trans hB131 (Touch.mono (Touch.of_below hw132) hB131.size)
  refine WL.nil <| ?_
  refine WY.tk 9 rfl (.mv rfl) rfl ?_
  refine WY.tk 10 rfl (.ext rfl rfl) rfl ?_
  refine WY.tk 11 rfl (.ext rfl rfl) rfl ?_
  refine WY.tk 12 rfl (.ext rfl rfl) rfl ?_
  refine WY.br1 14 rfl ?_
  refine WL.stL rfl rfl hk135 isz143 rfl rfl (fun w138 hkw138 huw138 hsw138 => ?_)
  have hk139 := hk133.up huw138
  have hk140 := hk134.up huw138
  have hv141 := bup hv136 huw138 hvl130
  have hB142 := Touch.trans hB137 (Touch.of_new huw138 oO)
  refine WL.nil <| ?_
  refine WY.tk 15 rfl (.as rfl) rfl ?_
  refine WY.tk 16 rfl (.as rfl) rfl ?_
  refine WY.done kR ?_
  exact ⟨_, ⟨rfl, rfl, rfl, rfl, rfl, trivial⟩, hB142, ⟨hk139, hv141⟩, hk140, hkw138, by omega⟩
  refine WL.r (Rd.ld (isAgg3 _) rfl hk125 rfl) rfl <| WL.nil <| ?_
  refine WY.br1 3 rfl ?_
  refine WL.r (Rd.ld (isAgg22 _) rfl hk125 rfl) rfl <| WL.nil <| ?_
  refine WY.br1 8 rfl ?_
  refine WL.c1 hb111 rfl rfl ((hN _ hv129)) (fun w143 hw143 => ?_)
  have hk144 := hk125.below hw143 hk125.lt
  have hk145 := hk127.below hw143 hk127.lt
  have hk146 := hkb124.below hw143 hkb124.lt
  have hv147 := BytesAt.below hv129 hw143 (fun h0 => hv129.lt h0)
  have hB148 := Touch.trans hB131 (Touch.mono (Touch.of_below hw143) hB131.size)
  refine WL.nil <| ?_
  refine WY.tk 9 rfl (.mv rfl) rfl ?_
  refine WY.tk 10 rfl (.ext rfl rfl) rfl ?_
  refine WY.tk 11 rfl (.ext rfl rfl) rfl ?_
  refine WY.tk 12 rfl (.ext rfl rfl) rfl ?_
  refine WY.br1 14 rfl ?_
  refine WL.stL rfl rfl hk146 isz143 rfl rfl (fun w149 hkw149 huw149 hsw149 => ?_)
  have hk150 := hk144.up huw149
  have hk151 := hk145.up huw149
  have hv152 := bup hv147 huw149 hvl130
  have hB153 := Touch.trans hB148 (Touch.of_new huw149 oO)
  refine WL.nil <| ?_
  refine WY.tk 15 rfl (.as rfl) rfl ?_
  refine WY.tk 16 rfl (.as rfl) rfl ?_
  refine WY.done kR ?_
  exact ⟨_, ⟨rfl, rfl, rfl, rfl, rfl, trivial⟩, hB153, ⟨hk150, hv152⟩, hk151, hkw149, by omega⟩
  obtain ⟨b3, rfl⟩ : ∃ b3, b3 = t := ⟨t, rfl⟩
  obtain ⟨hT, hrd, hk1, hk3, h13⟩ := hR
  refine W.seq <| W.sr <| WL.m rfl rfl <| WL.p (.eql rfl rfl) rfl <| WL.nil <| ?_
  refine W.cond rfl (fun h154 => ?_) (fun h154 => ?_)
  · have h154' := dT h154
    refine W.seq ?_
    refine W.cut (α := Unit) (fun _ => [(0, .pointer (some ⟨r, 0, none⟩)), (2, .pointer (some ⟨b1, 0, none⟩)), (3, .pointer (some ⟨b3, 0, none⟩)), (4, .int .i64 N.at'), (5, .int .i64 N.e), (32, .bool (decide (((l[t0]'ht).toNat : Int) = 40)))]) (fun _ w' => Drew w1 w') ?_ (fun _ w1 hR => ?_)
    refine W.regY 11 rfl mixed (fun w155 dw155 => ?_)
    have hk156 := hrd.1.drew dw155
    have hv159 := hrd.2.drew dw155
    refine WY.tk 0 rfl (.mv rfl) rfl ?_
    refine WY.tk 1 rfl (.nck rfl) rfl ?_
    refine WY.tk 2 rfl (.fa underlying69 rfl sizeOf22 dD rfl) rfl ?_
    refine WY.tk 4 rfl (.mv rfl) rfl ?_
    refine WY.tk 5 rfl (.nck rfl) rfl ?_
    refine WY.tk 6 rfl (.fa underlying69 rfl sizeOf3 dD rfl) rfl ?_
    refine WY.br2 3 rfl 7 rfl ?_ ?_
    refine WL.r (Rd.ld (isAgg22 _) rfl hk156 rfl) rfl <| WL.nil <| ?_
    refine WY.br1 7 rfl ?_
    refine WL.r (Rd.ld (isAgg3 _) rfl hk156 rfl) rfl <| WL.nil <| ?_
    refine WY.tk 8 rfl (.ixb underlying22 sizeOf5 rfl rfl (hv159.isp oO) (t0) (rfl) (ht)) rfl ?_
    refine WY.br1 9 rfl ?_
    refine WL.r (Rd.ldc (isAgg5 _) rfl (hv159.cells (t0) oO)) rfl <| WL.nil <| ?_
    refine WY.tk 10 rfl (.eql rfl rfl) rfl ?_
    refine WY.done kR ?_
    exact ⟨(), ⟨rfl, rfl, rfl, rfl, rfl, rfl, trivial⟩, dw155⟩
    refine WL.r (Rd.ld (isAgg3 _) rfl hk156 rfl) rfl <| WL.nil <| ?_
    refine WY.br1 3 rfl ?_
    refine WL.r (Rd.ld (isAgg22 _) rfl hk156 rfl) rfl <| WL.nil <| ?_
    refine WY.tk 8 rfl (.ixb underlying22 sizeOf5 rfl rfl (hv159.isp oO) (t0) (rfl) (ht)) rfl ?_
    refine WY.br1 9 rfl ?_
    refine WL.r (Rd.ldc (isAgg5 _) rfl (hv159.cells (t0) oO)) rfl <| WL.nil <| ?_
    refine WY.tk 10 rfl (.eql rfl rfl) rfl ?_
    refine WY.done kR ?_
    exact ⟨(), ⟨rfl, rfl, rfl, rfl, rfl, rfl, trivial⟩, dw155⟩
    have hk161 := hrd.1.drew hR
    have hk162 := hk1.drew hR
    have hv164 := hrd.2.drew hR
    have hB165 := Touch.trans hT (Touch.of_drew hR)
    refine W.cond rfl (fun h166 => ?_) (fun h166 => ?_)
    · have h166' := dT h166
      have hop : openB l t0 = true := by unfold openB; rw [if_neg (by rw [hg, show l[t0] = 40 from u8_eq aS]; decide)]
      refine W.sr <| WL.m rfl rfl <| WL.c1 hb74 rfl rfl ((r18_fail r p l c t0 refs 0 24 _ ⟨hk161, hv164⟩ hne)) (fun w167 hw167 => ?_)
      have hk168 := hw167.1.1
      have hk169 := Blk.touch hk162 hw167.2 hk162.lt oO
      have hv171 := hw167.1.2
      have hB172 := Touch.trans hB165 (Touch.mono hw167.2 hB165.size)
      refine WL.stL rfl rfl hk169 isz31 rfl rfl (fun w173 hkw173 huw173 hsw173 => ?_)
      have hk174 := hk168.up huw173
      have hv176 := bup hv171 huw173 hvl5
      have hB177 := Touch.trans hB172 (Touch.of_new huw173 oO)
      refine WL.nil <| ?_
      refine W.ret (W.retc1 rfl rfl (ldRow hkw173 underlying31 rfl isz31)  ?_)
      (rw [if_pos ⟨by assumption, by assumption⟩] at hX; subst hX; exact ⟨rfl, ⟨hk174, hv176⟩, hB177⟩)
    have h166' := dF h166
    have h60 : l[t0] = 60 := h46.resolve_left (u8_ne (d := 40) aS)
    have hop : openB l t0 = (l.drop (t0 + 1)).all pOpen := by unfold openB; rw [if_pos (by rw [hg, h60])]
    refine W.skip <| W.seq <| W.sr <| WL.m rfl rfl <| WL.p (.nck rfl) rfl <| WL.p (.fa underlying69 rfl sizeOf3 dD rfl) rfl <| WL.r (Rd.ld (isAgg3 _) rfl hk161 rfl) rfl <| WL.p (.iis (((t0 + 1 : Nat) : Int)) (.add rfl rfl (i64w oO)) oO) rfl <| WL.z rfl rfl ?_
    refine W.block ?_
    refine W.loop (α := Nat) (fun t => [(0, .pointer (some ⟨r, 0, none⟩)), (2, .pointer (some ⟨b1, 0, none⟩)), (6, .int .i64 (t : Int))]) (fun t w' => Touch w.heap.size r w w' ∧ RRd w' r p l c t0 refs 0 ∧ Blk w' b1 (pobj 0 0 []).toArray 31 ∧ openB l t0 = (l.drop t).all pOpen ∧ t ≤ l.length) (fun t => l.length - t) (t0 + 1) ⟨rfl, rfl, rfl, trivial⟩ (⟨hB165, ⟨hk161, hv164⟩, hk162, hop, ht⟩) (fun t w1 hR => ?_)
    obtain ⟨i, rfl⟩ : ∃ i, i = t := ⟨t, rfl⟩
    obtain ⟨hT, hrd, hk1, hz, hi⟩ := hR
    refine W.seq <| W.sr <| WL.m rfl rfl <| WL.m rfl rfl <| WL.p (.nck rfl) rfl <| WL.p (.fa underlying69 rfl sizeOf22 dD rfl) rfl <| WL.r (Rd.ld (isAgg22 _) rfl hrd.1 rfl) rfl <| WL.p (.lenS underlying22 rfl) rfl <| WL.p (.lss rfl rfl) rfl <| WL.nil <| ?_
    refine W.cond rfl (fun h178 => ?_) (fun h178 => ?_)
    · have h178' := dT h178
      have hst := all_step l i oO
      refine W.skip <| W.seq <| W.block <| W.sr <| WL.m rfl rfl <| WL.p (.nck rfl) rfl <| WL.p (.fa underlying69 rfl sizeOf22 dD rfl) rfl <| WL.r (Rd.ld (isAgg22 _) rfl hrd.1 rfl) rfl <| WL.m rfl rfl <| WL.p (.ixb underlying22 sizeOf5 rfl rfl (hrd.2.isp oO) (i) (rfl) oO) rfl <| WL.r (Rd.ldc (isAgg5 _) rfl (hrd.2.cells (i) oO)) rfl <| WL.c1 hb35 rfl rfl ((ref_Blank _ _)) (fun w179 hw179 => ?_)
      obtain rfl := hw179
      refine WL.p (.not rfl) rfl <| WL.m rfl rfl <| WL.gd rfl rfl rfl (fun g180 => ?_) (fun g180 => ?_)
      · have g180' := (nT g180)
        refine WL.m rfl rfl <| WL.gy rfl rfl rfl (by rw [(nT g180)] <;> rfl) <| WL.p (.nck rfl) rfl <| WL.gy rfl rfl rfl (by rw [(nT g180)] <;> rfl) <| WL.p (.fa underlying69 rfl sizeOf22 dD rfl) rfl <| WL.gy rfl rfl rfl (by rw [(nT g180)] <;> rfl) <| WL.r (Rd.ld (isAgg22 _) rfl hrd.1 rfl) rfl <| WL.gy rfl rfl rfl (by rw [(nT g180)] <;> rfl) <| WL.m rfl rfl <| WL.gy rfl rfl rfl (by rw [(nT g180)] <;> rfl) <| WL.p (.ixb underlying22 sizeOf5 rfl rfl (hrd.2.isp oO) (i) (rfl) oO) rfl <| WL.gy rfl rfl rfl (by rw [(nT g180)] <;> rfl) <| WL.r (Rd.ldc (isAgg5 _) rfl (hrd.2.cells (i) oO)) rfl <| WL.gy rfl rfl rfl (by rw [(nT g180)] <;> rfl) <| WL.c1 hb110 rfl rfl ((r18_hex _ _)) (fun w181 hw181 => ?_)
        obtain rfl := hw181
        refine WL.gy rfl rfl rfl (by rw [(nT g180)] <;> rfl) <| WL.p (.lss rfl rfl) rfl <| WL.p (.pkT rfl (by rw [(nT g180)] <;> rfl) rfl) rfl <| WL.nil <| ?_
        refine W.cond rfl (fun h182 => ?_) (fun h182 => ?_)
        · have h182' := dT h182
          refine W.sr <| WL.m rfl rfl <| WL.c1 hb74 rfl rfl ((r18_fail r p l c t0 refs 0 23 _ ⟨hrd.1, hrd.2⟩ hne)) (fun w183 hw183 => ?_)
          have hk184 := hw183.1.1
          have hk185 := Blk.touch hk1 hw183.2 hk1.lt oO
          have hv186 := hw183.1.2
          have hB187 := Touch.trans hT (Touch.mono hw183.2 hT.size)
          refine WL.stL rfl rfl hk185 isz31 rfl rfl (fun w188 hkw188 huw188 hsw188 => ?_)
          have hk189 := hk184.up huw188
          have hv190 := bup hv186 huw188 hvl5
          have hB191 := Touch.trans hB187 (Touch.of_new huw188 oO)
          refine WL.nil <| ?_
          refine W.ret (W.retc1 rfl rfl (ldRow hkw188 underlying31 rfl isz31)  ?_)
          (have h14 : N.e = 14 := by assumption
           have hno : openB l t0 = false := by rw [hz, hst, pOpen_no (.inr ⟨by assumption, by assumption⟩)]; rfl
           rw [if_neg (fun h => by rw [hno] at h; exact absurd h.2 dD), if_neg oO, if_pos (.inl oO)] at hX; subst hX; exact ⟨rfl, ⟨hk189, hv190⟩, hB191⟩)
        have h182' := dF h182
        refine W.skip <| W.reg <| WL.m rfl rfl <| WL.p (.iis (((i + 1 : Nat) : Int)) (.add rfl rfl (i64w oO)) oO) rfl <| WL.z rfl rfl ?_
        exact ⟨i + 1, ⟨rfl, rfl, rfl, trivial⟩, ⟨hT, ⟨hrd.1, hrd.2⟩, hk1, by rw [hz, hst, pOpen_yes' (.inr aS), Bool.true_and], by ((try simp only) <;> omega)⟩, by ((try simp only) <;> omega)⟩
      have g180' := (nF g180)
      refine WL.gn rfl rfl rfl (by rw [(nF g180)] <;> rfl) <| WL.gn rfl rfl rfl (by rw [(nF g180)] <;> rfl) <| WL.gn rfl rfl rfl (by rw [(nF g180)] <;> rfl) <| WL.gn rfl rfl rfl (by rw [(nF g180)] <;> rfl) <| WL.gn rfl rfl rfl (by rw [(nF g180)] <;> rfl) <| WL.gn rfl rfl rfl (by rw [(nF g180)] <;> rfl) <| WL.gn rfl rfl rfl (by rw [(nF g180)] <;> rfl) <| WL.gn rfl rfl rfl (by rw [(nF g180)] <;> rfl) <| WL.p (.pkF rfl (by rw [(nF g180)] <;> rfl) rfl) rfl <| WL.nil <| ?_
      refine W.condF rfl rfl ?_
      refine W.skip <| W.reg <| WL.m rfl rfl <| WL.p (.iis (((i + 1 : Nat) : Int)) (.add rfl rfl (i64w oO)) oO) rfl <| WL.z rfl rfl ?_
      exact ⟨i + 1, ⟨rfl, rfl, rfl, trivial⟩, ⟨hT, ⟨hrd.1, hrd.2⟩, hk1, by rw [hz, hst, pOpen_yes' (.inl aS), Bool.true_and], by ((try simp only) <;> omega)⟩, by ((try simp only) <;> omega)⟩
    have h178' := dF h178
    have hop2 : openB l t0 = true := by rw [hz, List.drop_eq_nil_of_le oO]; rfl
    refine W.exit <| W.sr <| WL.m rfl rfl <| WL.c1 hb74 rfl rfl ((r18_fail r p l c t0 refs 0 24 _ ⟨hrd.1, hrd.2⟩ hne)) (fun w192 hw192 => ?_)
    have hk193 := hw192.1.1
    have hk194 := Blk.touch hk1 hw192.2 hk1.lt oO
    have hv195 := hw192.1.2
    have hB196 := Touch.trans hT (Touch.mono hw192.2 hT.size)
    refine WL.stL rfl rfl hk194 isz31 rfl rfl (fun w197 hkw197 huw197 hsw197 => ?_)
    have hk198 := hk193.up huw197
    have hv199 := bup hv195 huw197 hvl5
    have hB200 := Touch.trans hB196 (Touch.of_new huw197 oO)
    refine WL.nil <| ?_
    refine W.ret (W.retc1 rfl rfl (ldRow hkw197 underlying31 rfl isz31)  ?_)
    (rw [if_pos ⟨by assumption, by assumption⟩] at hX; subst hX; exact ⟨rfl, ⟨hk198, hv199⟩, hB200⟩)
  have h154' := dF h154
  refine W.skip <| W.seq <| W.sr <| WL.m rfl rfl <| WL.p (.eql rfl rfl) rfl <| WL.nil <| ?_
  refine W.cond rfl (fun h201 => ?_) (fun h201 => ?_)
  · have h201' := dT h201
    refine W.sr <| WL.m rfl rfl <| WL.c1 hb74 rfl rfl ((r18_fail r p l c t0 refs 0 25 _ ⟨hrd.1, hrd.2⟩ hne)) (fun w202 hw202 => ?_)
    have hk203 := hw202.1.1
    have hk204 := Blk.touch hk1 hw202.2 hk1.lt oO
    have hv206 := hw202.1.2
    have hB207 := Touch.trans hT (Touch.mono hw202.2 hT.size)
    refine WL.stL rfl rfl hk204 isz31 rfl rfl (fun w208 hkw208 huw208 hsw208 => ?_)
    have hk209 := hk203.up huw208
    have hv211 := bup hv206 huw208 hvl5
    have hB212 := Touch.trans hB207 (Touch.of_new huw208 oO)
    refine WL.nil <| ?_
    refine W.ret (W.retc1 rfl rfl (ldRow hkw208 underlying31 rfl isz31)  ?_)
    (have h14 : ¬ N.e = 14 := by assumption
     rw [if_neg (fun h => h14 h.1), if_pos aS] at hX; subst hX; exact ⟨rfl, ⟨hk209, hv211⟩, hB212⟩)
  have h201' := dF h201
  refine W.skip <| W.seq <| W.sr <| WL.m rfl rfl <| WL.p (.neq rfl rfl) rfl <| WL.m rfl rfl <| WL.gd rfl rfl rfl (fun g213 => ?_) (fun g213 => ?_)
  · have g213' := ndF g213
    refine WL.p (.fa underlying143 rfl sizeOf3 dD rfl) rfl <| WL.gy rfl rfl rfl g213 <| WL.r (Rd.ld (isAgg3 _) rfl hk3 rfl) rfl <| WL.gy rfl rfl rfl g213 <| WL.p (.neq rfl rfl) rfl <| WL.p (.pkF rfl g213 rfl) rfl <| WL.nil <| ?_
    refine W.cond rfl (fun h214 => ?_) (fun h214 => ?_)
    · have h214' := ndT h214
      refine W.sr <| WL.m rfl rfl <| WL.c1 hb74 rfl rfl ((r18_fail r p l c t0 refs 0 23 _ ⟨hrd.1, hrd.2⟩ hne)) (fun w215 hw215 => ?_)
      have hk216 := hw215.1.1
      have hk217 := Blk.touch hk1 hw215.2 hk1.lt oO
      have hv219 := hw215.1.2
      have hB220 := Touch.trans hT (Touch.mono hw215.2 hT.size)
      refine WL.stL rfl rfl hk217 isz31 rfl rfl (fun w221 hkw221 huw221 hsw221 => ?_)
      have hk222 := hk216.up huw221
      have hv224 := bup hv219 huw221 hvl5
      have hB225 := Touch.trans hB220 (Touch.of_new huw221 oO)
      refine WL.nil <| ?_
      refine W.ret (W.retc1 rfl rfl (ldRow hkw221 underlying31 rfl isz31)  ?_)
      (have h14 : ¬ N.e = 14 := by assumption
       rw [if_neg (fun h => h14 h.1), if_neg aS, if_pos (.inr aS)] at hX; subst hX; exact ⟨rfl, ⟨hk222, hv224⟩, hB225⟩)
    have h214' := ndF h214
    refine W.skip <| W.sr <| WL.m rfl rfl <| WL.p (.iis (((N.at'.toNat : Nat) : Int)) (.mv rfl) oO) rfl <| WL.p (.nck rfl) rfl <| WL.p (.fa underlying69 rfl sizeOf3 dD rfl) rfl <| WL.st sizeOf3 rfl rfl rfl hrd.1 oD (fun w226 hkw226 huw226 hsw226 => ?_)
    have hkw226 : Blk w226 r _ _ := hkw226
    have huw226 : Upd r _ _ := huw226
    have hk227 := hk1.up huw226
    have hk228 := hk3.up huw226
    have hv229 := BytesAt.upd hrd.2 huw226 hne
    have hB230 := Touch.trans hT (Touch.of_upd huw226)
    refine WL.nil <| ?_
    refine W.sr <| WL.p (.fa underlying143 rfl sizeOf9 dD rfl) rfl <| WL.r (Rd.ld (isAgg9 _) rfl hk228 rfl) rfl <| ?_
    refine WL.p (.buildL (ps := _) blt31 rfl rfl rfl pS) rfl ?_
    refine WL.stL rfl rfl hk227 isz31 rfl rfl (fun w231 hkw231 huw231 hsw231 => ?_)
    have hk232 := hkw226.up huw231
    have hv234 := bup hv229 huw231 hvl5
    have hB235 := Touch.trans hB230 (Touch.of_new huw231 oO)
    refine WL.nil <| ?_
    refine W.ret (W.retc1 rfl rfl (ldRow hkw231 underlying31 rfl isz31)  ?_)
    (have h14 : ¬ N.e = 14 := by assumption
     rw [if_neg (fun h => h14 h.1), if_neg aS, if_neg oO] at hX; subst hX; exact ⟨rfl, ⟨hk232, hv234⟩, hB235⟩)
  have g213' := ndT g213
  refine WL.gn rfl rfl rfl g213 <| WL.gn rfl rfl rfl g213 <| WL.p (.pkT rfl g213 rfl) rfl <| WL.nil <| ?_
  refine W.condT rfl rfl ?_
  refine W.sr <| WL.m rfl rfl <| WL.c1 hb74 rfl rfl ((r18_fail r p l c t0 refs 0 23 _ ⟨hrd.1, hrd.2⟩ hne)) (fun w236 hw236 => ?_)
  have hk237 := hw236.1.1
  have hk238 := Blk.touch hk1 hw236.2 hk1.lt oO
  have hv240 := hw236.1.2
  have hB241 := Touch.trans hT (Touch.mono hw236.2 hT.size)
  refine WL.stL rfl rfl hk238 isz31 rfl rfl (fun w242 hkw242 huw242 hsw242 => ?_)
  have hk243 := hk237.up huw242
  have hv245 := bup hv240 huw242 hvl5
  have hB246 := Touch.trans hB241 (Touch.of_new huw242 oO)
  refine WL.nil <| ?_
  refine W.ret (W.retc1 rfl rfl (ldRow hkw242 underlying31 rfl isz31)  ?_)
  (have h14 : ¬ N.e = 14 := by assumption
   rw [if_neg (fun h => h14 h.1), if_neg aS, if_pos (.inl aS)] at hX; subst hX; exact ⟨rfl, ⟨hk243, hv245⟩, hB246⟩)
end
end Go.Proofs.YtjghbcjnplcleaaGreatDoor
