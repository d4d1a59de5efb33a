/-
  What the claim leans on, part 4: pruned and joined by my own tool out of the texts that stand in wip/ as templates.
-/
import Derived.Test.YtjghbcjnplcleaaGreatDoorPt3
namespace Go.Proofs.YtjghbcjnplcleaaGreatDoor
open Go.RowKit
open Go.Proofs.Tryz
section
theorem all_step (l : List UInt8) (i : Nat) (h : i < l.length) : (l.drop i).all pOpen = (pOpen l[i] && (l.drop (i + 1)).all pOpen) := by
 rw [List.drop_eq_getElem_cons h, List.all_cons]
theorem pOpen_no {c : UInt8} (h : c = 62 ∨ (blankB c = false ∧ digI c < 0)) : pOpen c = false := by
 rcases h with rfl | ⟨h1, h2⟩
 ·
  rfl
 ·
  unfold pOpen
  rcases digI_cases c with h3 | h3
  ·
   rw [h1, decide_eq_false oO]; simp
  ·
   omega
theorem pOpen_yes {c : UInt8} (h : c ≠ 62) (h2 : blankB c = true ∨ ¬ digI c < 0) : pOpen c = true := by
 unfold pOpen
 rw [bne_iff_ne.2 h, Bool.true_and]
 rcases h2 with h2 | h2
 ·
  rw [h2]; rfl
 ·
  rcases digI_cases c with h3 | h3
  ·
   omega
  ·
   rw [decide_eq_true h3.2]; simp
theorem plex_open (r : Nat) (p : Option Addr) (l : List UInt8) (c t : Nat) (refs : Bool) (w : World) (h : PRd w r p l c t refs) (hl : l.length ≤ 100000000) (ht : t < l.length) :
  Calls Tryz.prog 108 #[.pointer (some ⟨r, 0, none⟩)] w fun e w' => e = .returned (.bool (openB l t)) ∧ Below w.heap.size w w' := by
 have hr := h.1
 have hb := h.2
 have hg : l[t]? = some l[t] := List.getElem?_eq_getElem ht
 refine W.enter func108 rfl ntmps108 (Nat.le_of_ble_eq_true rfl) ?_
 have hB0 := Below.refl (w.heap.size) w
 refine W.sr <| WL.z rfl rfl ?_
 refine W.sr <| WL.z rfl rfl ?_
 refine W.seq <| W.seq <| W.regQ mixed kR ?_
 refine WQ.p (.mv rfl) rfl <| WQ.p (.nck rfl) rfl <| WQ.p (.fa underlying63 rfl sizeOf22 dD rfl) rfl <| WQ.r (fun m => Rd.ld (isAgg22 _) rfl hr rfl) rfl <| WQ.p (.mv rfl) rfl <| WQ.p (.nck rfl) rfl <| WQ.p (.fa underlying63 rfl sizeOf3 dD rfl) rfl <| WQ.r (fun m => Rd.ld (isAgg3 _) rfl hr rfl) rfl <| WQ.p (.ixb underlying22 sizeOf5 rfl rfl (hb.isp oO) (t) (rfl) (ht)) rfl <| WQ.r (fun m => Rd.ldc (isAgg5 _) rfl ((hb.drewN m).cells (t) oO)) rfl <| WQ.p (.eql rfl rfl) rfl <| WQ.nil (fun w1 dw1 => ?_)
 have hk2 := hr.drew dw1
 have hv3 := hb.drew dw1
 have hB4 := Drew.below hB0 dw1
 refine W.cond rfl (fun h5 => ?_) (fun h5 => ?_)
 have h5' := dT h5
 refine W.reg <| WL.z rfl rfl ?_
 refine W.seq <| W.sr <| WL.m rfl rfl <| WL.p (.nck rfl) rfl <| WL.p (.fa underlying63 rfl sizeOf3 dD rfl) rfl <| WL.r (Rd.ld (isAgg3 _) rfl hk2 rfl) rfl <| WL.p (.iis (((t + 1 : Nat) : Int)) (.add rfl rfl (i64w oO)) oO) rfl <| WL.z rfl rfl ?_
 refine W.block ?_
 obtain ⟨T0, hT0⟩ : ∃ T0, T0 = t := ⟨t, rfl⟩
 subst hT0
 refine W.loop (α := Nat × Int) (fun t => [(0, .pointer (some ⟨r, 0, none⟩)), (3, .int .u8 t.2), (4, .int .i64 (t.1 : Int))]) (fun t w' => Below w.heap.size w w' ∧ PRd w' r p l c T0 refs ∧ T0 + 1 ≤ t.1 ∧ t.1 ≤ l.length ∧ ((t.2 = 62 ∧ l[T0]? = some 60 ∧ (l.drop (T0 + 1)).all pOpen = (l.drop t.1).all pOpen) ∨ (t.2 = 41 ∧ l[T0]? ≠ some 60))) (fun t => l.length - t.1) ((T0 + 1, _)) ⟨rfl, rfl, rfl, trivial⟩ (⟨hB4, ⟨hk2, hv3⟩, Nat.le_refl _, ht, by first | exact .inl ⟨rfl, by rw [hg, show l[T0] = 60 from u8_eq aS], rfl⟩ | exact .inr ⟨rfl, by rw [hg]; exact fun h => absurd (Option.some.inj h) (u8_ne (d := 60) aS)⟩⟩) (fun t w1 hR => ?_)
 obtain ⟨i, z⟩ := t
 obtain ⟨hT, hrd, hi0, hi, hz⟩ := hR
 simp only at hi0 hi hz ⊢
 refine W.seq ?_
 refine W.cutB 32 (decide (i < l.length ∧ z = 62)) ?_ ?_
 refine W.reg <| WL.m rfl rfl <| WL.m rfl rfl <| WL.p (.nck rfl) rfl <| WL.p (.fa underlying63 rfl sizeOf22 dD rfl) rfl <| WL.r (Rd.ld (isAgg22 _) rfl hrd.1 rfl) rfl <| WL.p (.lenS underlying22 rfl) rfl <| WL.p (.lss rfl rfl) rfl <| WL.m rfl rfl <| WL.gd rfl rfl rfl (fun g6 => ?_) (fun g6 => ?_)
 have g6' := dT g6
 refine WL.m rfl rfl <| WL.gy rfl rfl rfl g6 <| WL.p (.eql rfl rfl) rfl <| WL.p (.pkT rfl g6 rfl) rfl <| WL.nil <| ?_
 exact ⟨leE (lk_b rfl (by (apply Bool.eq_iff_iff.2; (try simp) <;> omega))), rfl⟩
 have g6' := dF g6
 refine WL.gn rfl rfl rfl g6 <| WL.p (.pkF rfl g6 rfl) rfl <| WL.nil <| ?_
 exact ⟨leE (lk_b rfl (by (apply Bool.eq_iff_iff.2; (try simp) <;> omega))), rfl⟩
 refine W.cond rfl (fun h7 => ?_) (fun h7 => ?_)
 have h7' := dT h7
 have hz2 : l[T0]? = some 60 ∧ (l.drop (T0 + 1)).all pOpen = (l.drop i).all pOpen := by rcases hz with h | h; exact h.2; omega
 have hst := all_step l i oO
 refine W.skip <| W.seq <| W.block <| W.sr <| WL.m rfl rfl <| WL.p (.nck rfl) rfl <| WL.p (.fa underlying63 rfl sizeOf22 dD rfl) rfl <| WL.r (Rd.ld (isAgg22 _) rfl hrd.1 rfl) rfl <| WL.m rfl rfl <| WL.p (.ixb underlying22 sizeOf5 rfl rfl (hrd.2.isp oO) (i) (rfl) oO) rfl <| WL.r (Rd.ldc (isAgg5 _) rfl (hrd.2.cells (i) oO)) rfl <| WL.z rfl rfl ?_
 refine W.sr <| WL.m rfl rfl <| WL.p (.eql rfl rfl) rfl <| WL.m rfl rfl <| WL.gd rfl rfl rfl (fun g8 => ?_) (fun g8 => ?_)
 have g8' := dF g8
 refine WL.m rfl rfl <| WL.gy rfl rfl rfl g8 <| WL.c1 hb34 rfl rfl ((plex_blank _ _)) (fun w9 hw9 => ?_)
 obtain rfl := hw9
 refine WL.gy rfl rfl rfl g8 <| WL.p (.not rfl) rfl <| WL.gy rfl rfl rfl g8 <| WL.m rfl rfl <| WL.gd rfl rfl rfl (fun g10 => ?_) (fun g10 => ?_)
 have g10' := (nT g10)
 refine WL.m rfl rfl <| WL.gy rfl rfl rfl (by rw [(nT g10)] <;> rfl) <| WL.c1 hb104 rfl rfl ((plex_digit _ _)) (fun w11 hw11 => ?_)
 obtain rfl := hw11
 refine WL.gy rfl rfl rfl (by rw [(nT g10)] <;> rfl) <| WL.p (.lss rfl rfl) rfl <| WL.gy rfl rfl rfl g8 <| WL.p (.pkT rfl (by rw [(nT g10)] <;> rfl) rfl) rfl <| WL.p (.pkF rfl g8 rfl) rfl <| WL.nil <| ?_
 refine W.cond rfl (fun h12 => ?_) (fun h12 => ?_)
 have h12' := dT h12
 refine W.sr <| WL.z rfl rfl ?_
 refine W.ret (W.ret1 rfl rfl ?_)
 exact ⟨ret_bool (by unfold openB; rw [if_pos hz2.1, hz2.2, hst, pOpen_no (.inr ⟨by assumption, by assumption⟩)]; rfl), hT⟩
 have h12' := dF h12
 refine W.skip <| W.reg <| WL.m rfl rfl <| WL.p (.iis (((i + 1 : Nat) : Int)) (.add rfl rfl (i64w oO)) oO) rfl <| WL.z rfl rfl ?_
 exact ⟨(i + 1, z), ⟨rfl, rfl, rfl, trivial⟩, ⟨hT, ⟨hrd.1, hrd.2⟩, by ((try simp only) <;> omega), by ((try simp only) <;> omega), .inl ⟨by omega, hz2.1, by rw [hz2.2, hst, pOpen_yes (u8_ne (d := 62) aS) (.inr aS), Bool.true_and]⟩⟩, by ((try simp only) <;> omega)⟩
 have g10' := (nF g10)
 refine WL.gn rfl rfl rfl (by rw [(nF g10)] <;> rfl) <| WL.gn rfl rfl rfl (by rw [(nF g10)] <;> rfl) <| WL.gy rfl rfl rfl g8 <| WL.p (.pkF rfl (by rw [(nF g10)] <;> rfl) rfl) rfl <| WL.p (.pkF rfl g8 rfl) rfl <| WL.nil <| ?_
 refine W.condF rfl rfl ?_
 refine W.skip <| W.reg <| WL.m rfl rfl <| WL.p (.iis (((i + 1 : Nat) : Int)) (.add rfl rfl (i64w oO)) oO) rfl <| WL.z rfl rfl ?_
 exact ⟨(i + 1, z), ⟨rfl, rfl, rfl, trivial⟩, ⟨hT, ⟨hrd.1, hrd.2⟩, by ((try simp only) <;> omega), by ((try simp only) <;> omega), .inl ⟨by omega, hz2.1, by rw [hz2.2, hst, pOpen_yes (u8_ne (d := 62) aS) (.inl aS), Bool.true_and]⟩⟩, by ((try simp only) <;> omega)⟩
 have g8' := dT g8
 refine WL.gn rfl rfl rfl g8 <| WL.gn rfl rfl rfl g8 <| WL.gn rfl rfl rfl g8 <| WL.gu rfl rfl rfl <| WL.gu rfl rfl rfl <| WL.gu rfl rfl rfl <| WL.gn rfl rfl rfl g8 <| WL.p (.pkT rfl g8 rfl) rfl <| WL.nil <| ?_
 refine W.condT rfl rfl ?_
 refine W.sr <| WL.z rfl rfl ?_
 refine W.ret (W.ret1 rfl rfl ?_)
 exact ⟨ret_bool (by unfold openB; rw [if_pos hz2.1, hz2.2, hst, pOpen_no (.inl (u8_eq (d := 62) aS))]; rfl), hT⟩
 have h7' := dF h7
 refine W.exit <| W.sr <| WL.z rfl rfl ?_
 refine W.ret (W.ret1 rfl rfl ?_)
 exact ⟨ret_bool (by
  unfold openB
  rcases hz with h | h
  rw [if_pos h.2.1, h.2.2, List.drop_eq_nil_of_le oO]; rfl
  rw [if_neg h.2]), hT⟩
 have h5' := dF h5
 refine W.skip <| W.seq <| W.sr <| WL.m rfl rfl <| WL.p (.nck rfl) rfl <| WL.p (.fa underlying63 rfl sizeOf3 dD rfl) rfl <| WL.r (Rd.ld (isAgg3 _) rfl hk2 rfl) rfl <| WL.p (.iis (((t + 1 : Nat) : Int)) (.add rfl rfl (i64w oO)) oO) rfl <| WL.z rfl rfl ?_
 refine W.block ?_
 obtain ⟨T0, hT0⟩ : ∃ T0, T0 = t := ⟨t, rfl⟩
 subst hT0
 refine W.loop (α := Nat × Int) (fun t => [(0, .pointer (some ⟨r, 0, none⟩)), (3, .int .u8 t.2), (4, .int .i64 (t.1 : Int))]) (fun t w' => Below w.heap.size w w' ∧ PRd w' r p l c T0 refs ∧ T0 + 1 ≤ t.1 ∧ t.1 ≤ l.length ∧ ((t.2 = 62 ∧ l[T0]? = some 60 ∧ (l.drop (T0 + 1)).all pOpen = (l.drop t.1).all pOpen) ∨ (t.2 = 41 ∧ l[T0]? ≠ some 60))) (fun t => l.length - t.1) ((T0 + 1, _)) ⟨rfl, rfl, rfl, trivial⟩ (⟨hB4, ⟨hk2, hv3⟩, Nat.le_refl _, ht, by first | exact .inl ⟨rfl, by rw [hg, show l[T0] = 60 from u8_eq aS], rfl⟩ | exact .inr ⟨rfl, by rw [hg]; exact fun h => absurd (Option.some.inj h) (u8_ne (d := 60) aS)⟩⟩) (fun t w1 hR => ?_)
 obtain ⟨i, z⟩ := t
 obtain ⟨hT, hrd, hi0, hi, hz⟩ := hR
 simp only at hi0 hi hz ⊢
 refine W.seq ?_
 refine W.cutB 32 (decide (i < l.length ∧ z = 62)) ?_ ?_
 refine W.reg <| WL.m rfl rfl <| WL.m rfl rfl <| WL.p (.nck rfl) rfl <| WL.p (.fa underlying63 rfl sizeOf22 dD rfl) rfl <| WL.r (Rd.ld (isAgg22 _) rfl hrd.1 rfl) rfl <| WL.p (.lenS underlying22 rfl) rfl <| WL.p (.lss rfl rfl) rfl <| WL.m rfl rfl <| WL.gd rfl rfl rfl (fun g13 => ?_) (fun g13 => ?_)
 have g13' := dT g13
 refine WL.m rfl rfl <| WL.gy rfl rfl rfl g13 <| WL.p (.eql rfl rfl) rfl <| WL.p (.pkT rfl g13 rfl) rfl <| WL.nil <| ?_
 exact ⟨leE (lk_b rfl (by (apply Bool.eq_iff_iff.2; (try simp) <;> omega))), rfl⟩
 have g13' := dF g13
 refine WL.gn rfl rfl rfl g13 <| WL.p (.pkF rfl g13 rfl) rfl <| WL.nil <| ?_
 exact ⟨leE (lk_b rfl (by (apply Bool.eq_iff_iff.2; (try simp) <;> omega))), rfl⟩
 refine W.cond rfl (fun h14 => ?_) (fun h14 => ?_)
 have h14' := dT h14
 have hz2 : l[T0]? = some 60 ∧ (l.drop (T0 + 1)).all pOpen = (l.drop i).all pOpen := by rcases hz with h | h; exact h.2; omega
 have hst := all_step l i oO
 refine W.skip <| W.seq <| W.block <| W.sr <| WL.m rfl rfl <| WL.p (.nck rfl) rfl <| WL.p (.fa underlying63 rfl sizeOf22 dD rfl) rfl <| WL.r (Rd.ld (isAgg22 _) rfl hrd.1 rfl) rfl <| WL.m rfl rfl <| WL.p (.ixb underlying22 sizeOf5 rfl rfl (hrd.2.isp oO) (i) (rfl) oO) rfl <| WL.r (Rd.ldc (isAgg5 _) rfl (hrd.2.cells (i) oO)) rfl <| WL.z rfl rfl ?_
 refine W.sr <| WL.m rfl rfl <| WL.p (.eql rfl rfl) rfl <| WL.m rfl rfl <| WL.gd rfl rfl rfl (fun g15 => ?_) (fun g15 => ?_)
 have g15' := dF g15
 refine WL.m rfl rfl <| WL.gy rfl rfl rfl g15 <| WL.c1 hb34 rfl rfl ((plex_blank _ _)) (fun w16 hw16 => ?_)
 obtain rfl := hw16
 refine WL.gy rfl rfl rfl g15 <| WL.p (.not rfl) rfl <| WL.gy rfl rfl rfl g15 <| WL.m rfl rfl <| WL.gd rfl rfl rfl (fun g17 => ?_) (fun g17 => ?_)
 have g17' := (nT g17)
 refine WL.m rfl rfl <| WL.gy rfl rfl rfl (by rw [(nT g17)] <;> rfl) <| WL.c1 hb104 rfl rfl ((plex_digit _ _)) (fun w18 hw18 => ?_)
 obtain rfl := hw18
 refine WL.gy rfl rfl rfl (by rw [(nT g17)] <;> rfl) <| WL.p (.lss rfl rfl) rfl <| WL.gy rfl rfl rfl g15 <| WL.p (.pkT rfl (by rw [(nT g17)] <;> rfl) rfl) rfl <| WL.p (.pkF rfl g15 rfl) rfl <| WL.nil <| ?_
 refine W.cond rfl (fun h19 => ?_) (fun h19 => ?_)
 have h19' := dT h19
 refine W.sr <| WL.z rfl rfl ?_
 refine W.ret (W.ret1 rfl rfl ?_)
 exact ⟨ret_bool (by unfold openB; rw [if_pos hz2.1, hz2.2, hst, pOpen_no (.inr ⟨by assumption, by assumption⟩)]; rfl), hT⟩
 have h19' := dF h19
 refine W.skip <| W.reg <| WL.m rfl rfl <| WL.p (.iis (((i + 1 : Nat) : Int)) (.add rfl rfl (i64w oO)) oO) rfl <| WL.z rfl rfl ?_
 exact ⟨(i + 1, z), ⟨rfl, rfl, rfl, trivial⟩, ⟨hT, ⟨hrd.1, hrd.2⟩, by ((try simp only) <;> omega), by ((try simp only) <;> omega), .inl ⟨by omega, hz2.1, by rw [hz2.2, hst, pOpen_yes (u8_ne (d := 62) aS) (.inr aS), Bool.true_and]⟩⟩, by ((try simp only) <;> omega)⟩
 have g17' := (nF g17)
 refine WL.gn rfl rfl rfl (by rw [(nF g17)] <;> rfl) <| WL.gn rfl rfl rfl (by rw [(nF g17)] <;> rfl) <| WL.gy rfl rfl rfl g15 <| WL.p (.pkF rfl (by rw [(nF g17)] <;> rfl) rfl) rfl <| WL.p (.pkF rfl g15 rfl) rfl <| WL.nil <| ?_
 refine W.condF rfl rfl ?_
 refine W.skip <| W.reg <| WL.m rfl rfl <| WL.p (.iis (((i + 1 : Nat) : Int)) (.add rfl rfl (i64w oO)) oO) rfl <| WL.z rfl rfl ?_
 exact ⟨(i + 1, z), ⟨rfl, rfl, rfl, trivial⟩, ⟨hT, ⟨hrd.1, hrd.2⟩, by ((try simp only) <;> omega), by ((try simp only) <;> omega), .inl ⟨by omega, hz2.1, by rw [hz2.2, hst, pOpen_yes (u8_ne (d := 62) aS) (.inl aS), Bool.true_and]⟩⟩, by ((try simp only) <;> omega)⟩
 have g15' := dT g15
 refine WL.gn rfl rfl rfl g15 <| WL.gn rfl rfl rfl g15 <| WL.gn rfl rfl rfl g15 <| WL.gu rfl rfl rfl <| WL.gu rfl rfl rfl <| WL.gu rfl rfl rfl <| WL.gn rfl rfl rfl g15 <| WL.p (.pkT rfl g15 rfl) rfl <| WL.nil <| ?_
 refine W.condT rfl rfl ?_
 refine W.sr <| WL.z rfl rfl ?_
 refine W.ret (W.ret1 rfl rfl ?_)
 exact ⟨ret_bool (by unfold openB; rw [if_pos hz2.1, hz2.2, hst, pOpen_no (.inl (u8_eq (d := 62) aS))]; rfl), hT⟩
 have h14' := dF h14
 refine W.exit <| W.sr <| WL.z rfl rfl ?_
 refine W.ret (W.ret1 rfl rfl ?_)
 exact ⟨ret_bool (by
  unfold openB
  rcases hz with h | h
  rw [if_pos h.2.1, h.2.2, List.drop_eq_nil_of_le oO]; rfl
  rw [if_neg h.2]), hT⟩
theorem plex_text (r : Nat) (p : Option Addr) (l : List UInt8) (c t : Nat) (refs : Bool) (w : World) (h : PRd w r p l c t refs) (hne : 0 < l.length → (pA p).block ≠ r) (hc : l.length ≤ c) (hl : l.length ≤ 100000000) (ht : t < l.length) :
  Calls Tryz.prog 70 #[.pointer (some ⟨r, 0, none⟩)] w (Ends 35 (textR l t) (fun a => .agg (pobj 5 0 a.1).toArray) (fun a w' => PRd w' r p l c a.2 refs ∧ Touch w.heap.size r w w') (fun w' => Touch w.heap.size r w w')) := by
 have hr := h.1
 have hb := h.2
 obtain ⟨X, hX⟩ : ∃ X, X = textR l t := ⟨_, rfl⟩
 rw [← hX]
 unfold textR at hX
 have hN : ∀ w1, BytesAt w1 p l → Calls Tryz.prog 107 #[.slice p l.length c, .int .i64 (t : Int)] w1 fun e w' => e = .returned (nextR l t).val ∧ Below w1.heap.size w1 w' := fun w1 h1 => scan_Next t p l c w1 h1 hc hl
 have hstep := nextR_step l t oO
 generalize nextR l t = N at hX hN hstep
 refine W.enter func70 rfl ntmps70 (Nat.le_of_ble_eq_true rfl) ?_
 have hB0 := Touch.refl (w.heap.size) r w
 refine W.sr <| WL.alloc zeroValue31 rfl (fun b1 wb1 eb1 hkb1 hub1 hsb1 => ?_)
 have hl3 : r < b1 := by rw [eb1]; exact hr.lt
 have hk2 := hr.upd hub1 (Nat.ne_of_lt hl3)
 have hvl5 := fun h0 => eb1 ▸ hb.lt h0
 have hv4 := bup hb hub1 hvl5
 have hgeb1 : w.heap.size ≤ b1 := by rw [eb1]; exact hB0.size
 have hB6 := Touch.trans hB0 (Touch.of_new hub1 hgeb1)
 refine WL.nil <| ?_
 obtain ⟨t0, ht0⟩ : ∃ t0, t0 = t := ⟨t, rfl⟩
 refine W.cut (α := Nat) (fun t => [(0, .pointer (some ⟨r, 0, none⟩)), (2, .pointer (some ⟨b1, 0, none⟩)), (3, .pointer (some ⟨t, 0, none⟩)), (4, .int .i64 N.at'), (5, .int .i64 N.e)]) (fun t w' => Touch w.heap.size r w w' ∧ Blk w' r #[.slice p l.length c, .int .i64 (t0 : Int), .bool refs] 63 ∧ BytesAt w' p l ∧ Blk w' b1 (pobj 0 0 []).toArray 31 ∧ Blk w' t #[.int .i64 N.k, .int .i64 N.n, .string (bs N.s)] 143 ∧ b1 < t) ?_ (fun t w1 hR => ?_)
 have hrB : r < b1 := by have := hr.lt; omega
 refine W.regY 17 rfl mixed (fun w7 dw7 => ?_)
 have hk8 := hk2.drew dw7
 have hk9 := hkb1.drew dw7
 have hv10 := hv4.drew dw7
 have hB11 := Touch.trans hB6 (Touch.of_drew dw7)
 refine WY.tk 0 rfl (.mv rfl) rfl ?_
 refine WY.tk 1 rfl (.nck rfl) rfl ?_
 refine WY.tk 2 rfl (.fa underlying63 rfl sizeOf22 dD rfl) rfl ?_
 refine WY.tk 4 rfl (.mv rfl) rfl ?_
 refine WY.tk 5 rfl (.nck rfl) rfl ?_
 refine WY.tk 6 rfl (.fa underlying63 rfl sizeOf3 dD rfl) rfl ?_
 refine WY.br [3, 7, 13] kR rfl ⟨⟨_, rfl, ?_⟩, ⟨_, rfl, ?_⟩, ⟨_, rfl, ?_⟩, trivial⟩
 refine WL.r (Rd.ld (isAgg22 _) rfl hk8 rfl) rfl <| WL.nil <| ?_
 refine WY.br2 7 rfl 13 rfl ?_ ?_
 refine WL.r (Rd.ld (isAgg3 _) rfl hk8 rfl) rfl <| WL.nil <| ?_
 refine WY.br2 8 rfl 13 rfl ?_ ?_
 refine WL.c1 hb107 rfl rfl ((hN _ hv10)) (fun w12 hw12 => ?_)
 have hk13 := hk8.below hw12 hk8.lt
 have hk14 := hk9.below hw12 hk9.lt
 have hv15 := BytesAt.below hv10 hw12 (fun h0 => hv10.lt h0)
 have hB16 := Touch.trans hB11 (Touch.mono (Touch.of_below hw12) hB11.size)
 refine WL.nil <| ?_
 refine WY.tk 9 rfl (.mv rfl) rfl ?_
 refine WY.tk 10 rfl (.ext rfl rfl) rfl ?_
 refine WY.tk 11 rfl (.ext rfl rfl) rfl ?_
 refine WY.tk 12 rfl (.ext rfl rfl) rfl ?_
 refine WY.br1 13 rfl ?_
 refine WL.alloc zeroValue143 rfl (fun b17 wb17 eb17 hkb17 hub17 hsb17 => ?_)
 have hl19 : r < b17 := by rw [eb17]; exact hk13.lt
 have hk18 := hk13.upd hub17 (Nat.ne_of_lt hl19)
 have hl21 : b1 < b17 := by rw [eb17]; exact hk14.lt
 have hk20 := hk14.upd hub17 (Nat.ne_of_lt hl21)
 have hvl23 := fun h0 => eb17 ▸ hv15.lt h0
 have hv22 := bup hv15 hub17 hvl23
 have hgeb17 : w.heap.size ≤ b17 := by rw [eb17]; exact hB16.size
 have hB24 := Touch.trans hB16 (Touch.of_new hub17 hgeb17)
 refine WL.nil <| ?_
 refine WY.br1 14 rfl ?_
 refine WL.stL rfl rfl hkb17 isz143 rfl rfl (fun w25 hkw25 huw25 hsw25 => ?_)
 have hk26 := hk18.up huw25
 have hk27 := hk20.up huw25
 have hv28 := bup hv22 huw25 hvl23
 have hB29 := Touch.trans hB24 (Touch.of_new huw25 oO)
 refine WL.nil <| ?_
 refine WY.tk 15 rfl (.as rfl) rfl ?_
 refine WY.tk 16 rfl (.as rfl) rfl ?_
 refine WY.done kR ?_
 exact ⟨_, ⟨rfl, rfl, rfl, rfl, rfl, trivial⟩, hB29, by rw [ht0]; exact hk26, hv28, hk27, hkw25, by omega⟩
 refine WL.alloc zeroValue143 rfl (fun b30 wb30 eb30 hkb30 hub30 hsb30 => ?_)
 have hl32 : r < b30 := by rw [eb30]; exact hk8.lt
 have hk31 := hk8.upd hub30 (Nat.ne_of_lt hl32)
 have hl34 : b1 < b30 := by rw [eb30]; exact hk9.lt
 have hk33 := hk9.upd hub30 (Nat.ne_of_lt hl34)
 have hvl36 := fun h0 => eb30 ▸ hv10.lt h0
 have hv35 := bup hv10 hub30 hvl36
 have hgeb30 : w.heap.size ≤ b30 := by rw [eb30]; exact hB11.size
 have hB37 := Touch.trans hB11 (Touch.of_new hub30 hgeb30)
 refine WL.nil <| ?_
 refine WY.br1 8 rfl ?_
 refine WL.c1 hb107 rfl rfl ((hN _ hv35)) (fun w38 hw38 => ?_)
 have hk39 := hk31.below hw38 hk31.lt
 have hk40 := hk33.below hw38 hk33.lt
 have hk41 := hkb30.below hw38 hkb30.lt
 have hv42 := BytesAt.below hv35 hw38 (fun h0 => hv35.lt h0)
 have hB43 := Touch.trans hB37 (Touch.mono (Touch.of_below hw38) hB37.size)
 refine WL.nil <| ?_
 refine WY.tk 9 rfl (.mv rfl) rfl ?_
 refine WY.tk 10 rfl (.ext rfl rfl) rfl ?_
 refine WY.tk 11 rfl (.ext rfl rfl) rfl ?_
 refine WY.tk 12 rfl (.ext rfl rfl) rfl ?_
 refine WY.br1 14 rfl ?_
 refine WL.stL rfl rfl hk41 isz143 rfl rfl (fun w44 hkw44 huw44 hsw44 => ?_)
 have hk45 := hk39.up huw44
 have hk46 := hk40.up huw44
 have hv47 := bup hv42 huw44 hvl36
 have hB48 := Touch.trans hB43 (Touch.of_new huw44 oO)
 refine WL.nil <| ?_
 refine WY.tk 15 rfl (.as rfl) rfl ?_
 refine WY.tk 16 rfl (.as rfl) rfl ?_
 refine WY.done kR ?_
 exact ⟨_, ⟨rfl, rfl, rfl, rfl, rfl, trivial⟩, hB48, by rw [ht0]; exact hk45, hv47, hk46, hkw44, by omega⟩
 refine WL.alloc zeroValue143 rfl (fun b49 wb49 eb49 hkb49 hub49 hsb49 => ?_)
 have hl51 : r < b49 := by rw [eb49]; exact hk8.lt
 have hk50 := hk8.upd hub49 (Nat.ne_of_lt hl51)
 have hl53 : b1 < b49 := by rw [eb49]; exact hk9.lt
 have hk52 := hk9.upd hub49 (Nat.ne_of_lt hl53)
 have hvl55 := fun h0 => eb49 ▸ hv10.lt h0
 have hv54 := bup hv10 hub49 hvl55
 have hgeb49 : w.heap.size ≤ b49 := by rw [eb49]; exact hB11.size
 have hB56 := Touch.trans hB11 (Touch.of_new hub49 hgeb49)
 refine WL.nil <| ?_
 refine WY.br1 7 rfl ?_
 refine WL.r (Rd.ld (isAgg3 _) rfl hk50 rfl) rfl <| WL.nil <| ?_
 refine WY.br1 8 rfl ?_
 refine WL.c1 hb107 rfl rfl ((hN _ hv54)) (fun w57 hw57 => ?_)
 have hk58 := hk50.below hw57 hk50.lt
 have hk59 := hk52.below hw57 hk52.lt
 have hk60 := hkb49.below hw57 hkb49.lt
 have hv61 := BytesAt.below hv54 hw57 (fun h0 => hv54.lt h0)
 have hB62 := Touch.trans hB56 (Touch.mono (Touch.of_below hw57) hB56.size)
 refine WL.nil <| ?_
 refine WY.tk 9 rfl (.mv rfl) rfl ?_
 refine WY.tk 10 rfl (.ext rfl rfl) rfl ?_
 refine WY.tk 11 rfl (.ext rfl rfl) rfl ?_
 refine WY.tk 12 rfl (.ext rfl rfl) rfl ?_
 refine WY.br1 14 rfl ?_
 refine WL.stL rfl rfl hk60 isz143 rfl rfl (fun w63 hkw63 huw63 hsw63 => ?_)
 have hk64 := hk58.up huw63
 have hk65 := hk59.up huw63
 have hv66 := bup hv61 huw63 hvl55
 have hB67 := Touch.trans hB62 (Touch.of_new huw63 oO)
 refine WL.nil <| ?_
 refine WY.tk 15 rfl (.as rfl) rfl ?_
 refine WY.tk 16 rfl (.as rfl) rfl ?_
 refine WY.done kR ?_
 exact ⟨_, ⟨rfl, rfl, rfl, rfl, rfl, trivial⟩, hB67, by rw [ht0]; exact hk64, hv66, hk65, hkw63, by omega⟩
 refine WL.r (Rd.ld (isAgg3 _) rfl hk8 rfl) rfl <| WL.nil <| ?_
 refine WY.br2 3 rfl 13 rfl ?_ ?_
 refine WL.r (Rd.ld (isAgg22 _) rfl hk8 rfl) rfl <| WL.nil <| ?_
 refine WY.br2 8 rfl 13 rfl ?_ ?_
 refine WL.c1 hb107 rfl rfl ((hN _ hv10)) (fun w68 hw68 => ?_)
 have hk69 := hk8.below hw68 hk8.lt
 have hk70 := hk9.below hw68 hk9.lt
 have hv71 := BytesAt.below hv10 hw68 (fun h0 => hv10.lt h0)
 have hB72 := Touch.trans hB11 (Touch.mono (Touch.of_below hw68) hB11.size)
 refine WL.nil <| ?_
 refine WY.tk 9 rfl (.mv rfl) rfl ?_
 refine WY.tk 10 rfl (.ext rfl rfl) rfl ?_
 refine WY.tk 11 rfl (.ext rfl rfl) rfl ?_
 refine WY.tk 12 rfl (.ext rfl rfl) rfl ?_
 refine WY.br1 13 rfl ?_
 refine WL.alloc zeroValue143 rfl (fun b73 wb73 eb73 hkb73 hub73 hsb73 => ?_)
 have hl75 : r < b73 := by rw [eb73]; exact hk69.lt
 have hk74 := hk69.upd hub73 (Nat.ne_of_lt hl75)
 have hl77 : b1 < b73 := by rw [eb73]; exact hk70.lt
 have hk76 := hk70.upd hub73 (Nat.ne_of_lt hl77)
 have hvl79 := fun h0 => eb73 ▸ hv71.lt h0
 have hv78 := bup hv71 hub73 hvl79
 have hgeb73 : w.heap.size ≤ b73 := by rw [eb73]; exact hB72.size
 have hB80 := Touch.trans hB72 (Touch.of_new hub73 hgeb73)
 refine WL.nil <| ?_
 refine WY.br1 14 rfl ?_
 refine WL.stL rfl rfl hkb73 isz143 rfl rfl (fun w81 hkw81 huw81 hsw81 => ?_)
 have hk82 := hk74.up huw81
 have hk83 := hk76.up huw81
 have hv84 := bup hv78 huw81 hvl79
 have hB85 := Touch.trans hB80 (Touch.of_new huw81 oO)
 refine WL.nil <| ?_
 refine WY.tk 15 rfl (.as rfl) rfl ?_
 refine WY.tk 16 rfl (.as rfl) rfl ?_
 refine WY.done kR ?_
 exact ⟨_, ⟨rfl, rfl, rfl, rfl, rfl, trivial⟩, hB85, by rw [ht0]; exact hk82, hv84, hk83, hkw81, by omega⟩
 refine WL.alloc zeroValue143 rfl (fun b86 wb86 eb86 hkb86 hub86 hsb86 => ?_)
 have hl88 : r < b86 := by rw [eb86]; exact hk8.lt
 have hk87 := hk8.upd hub86 (Nat.ne_of_lt hl88)
 have hl90 : b1 < b86 := by rw [eb86]; exact hk9.lt
 have hk89 := hk9.upd hub86 (Nat.ne_of_lt hl90)
 have hvl92 := fun h0 => eb86 ▸ hv10.lt h0
 have hv91 := bup hv10 hub86 hvl92
 have hgeb86 : w.heap.size ≤ b86 := by rw [eb86]; exact hB11.size
 have hB93 := Touch.trans hB11 (Touch.of_new hub86 hgeb86)
 refine WL.nil <| ?_
 refine WY.br1 8 rfl ?_
 refine WL.c1 hb107 rfl rfl ((hN _ hv91)) (fun w94 hw94 => ?_)
 have hk95 := hk87.below hw94 hk87.lt
 have hk96 := hk89.below hw94 hk89.lt
 have hk97 := hkb86.below hw94 hkb86.lt
 have hv98 := BytesAt.below hv91 hw94 (fun h0 => hv91.lt h0)
 have hB99 := Touch.trans hB93 (Touch.mono (Touch.of_below hw94) hB93.size)
 refine WL.nil <| ?_
 refine WY.tk 9 rfl (.mv rfl) rfl ?_
 refine WY.tk 10 rfl (.ext rfl rfl) rfl ?_
 refine WY.tk 11 rfl (.ext rfl rfl) rfl ?_
 refine WY.tk 12 rfl (.ext rfl rfl) rfl ?_
 refine WY.br1 14 rfl ?_
 refine WL.stL rfl rfl hk97 isz143 rfl rfl (fun w100 hkw100 huw100 hsw100 => ?_)
 have hk101 := hk95.up huw100
 have hk102 := hk96.up huw100
 have hv103 := bup hv98 huw100 hvl92
 have hB104 := Touch.trans hB99 (Touch.of_new huw100 oO)
 refine WL.nil <| ?_
 refine WY.tk 15 rfl (.as rfl) rfl ?_
 refine WY.tk 16 rfl (.as rfl) rfl ?_
 refine WY.done kR ?_
 exact ⟨_, ⟨rfl, rfl, rfl, rfl, rfl, trivial⟩, hB104, by rw [ht0]; exact hk101, hv103, hk102, hkw100, by omega⟩
 refine WL.alloc zeroValue143 rfl (fun b105 wb105 eb105 hkb105 hub105 hsb105 => ?_)
 have hl107 : r < b105 := by rw [eb105]; exact hk8.lt
 have hk106 := hk8.upd hub105 (Nat.ne_of_lt hl107)
 have hl109 : b1 < b105 := by rw [eb105]; exact hk9.lt
 have hk108 := hk9.upd hub105 (Nat.ne_of_lt hl109)
 have hvl111 := fun h0 => eb105 ▸ hv10.lt h0
 have hv110 := bup hv10 hub105 hvl111
 have hgeb105 : w.heap.size ≤ b105 := by rw [eb105]; exact hB11.size
 have hB112 := Touch.trans hB11 (Touch.of_new hub105 hgeb105)
 refine WL.nil <| ?_
 refine WY.br1 3 rfl ?_
 refine WL.r (Rd.ld (isAgg22 _) rfl hk106 rfl) rfl <| WL.nil <| ?_
 refine WY.br1 8 rfl ?_
 refine WL.c1 hb107 rfl rfl ((hN _ hv110)) (fun w113 hw113 => ?_)
 have hk114 := hk106.below hw113 hk106.lt
 have hk115 := hk108.below hw113 hk108.lt
 have hk116 := hkb105.below hw113 hkb105.lt
 have hv117 := BytesAt.below hv110 hw113 (fun h0 => hv110.lt h0)
 have hB118 := Touch.trans hB112 (Touch.mono (Touch.of_below hw113) hB112.size)
 refine WL.nil <| ?_
 refine WY.tk 9 rfl (.mv rfl) rfl ?_
 refine WY.tk 10 rfl (.ext rfl rfl) rfl ?_
 refine WY.tk 11 rfl (.ext rfl rfl) rfl ?_
 refine WY.tk 12 rfl (.ext rfl rfl) rfl ?_
 refine WY.br1 14 rfl ?_
 refine WL.stL rfl rfl hk116 isz143 rfl rfl (fun w119 hkw119 huw119 hsw119 => ?_)
 have hk120 := hk114.up huw119
 have hk121 := hk115.up huw119
 have hv122 := bup hv117 huw119 hvl111
 have hB123 := Touch.trans hB118 (Touch.of_new huw119 oO)
 refine WL.nil <| ?_
 refine WY.tk 15 rfl (.as rfl) rfl ?_
 refine WY.tk 16 rfl (.as rfl) rfl ?_
 refine WY.done kR ?_
 exact ⟨_, ⟨rfl, rfl, rfl, rfl, rfl, trivial⟩, hB123, by rw [ht0]; exact hk120, hv122, hk121, hkw119, by omega⟩
 refine WL.alloc zeroValue143 rfl (fun b124 wb124 eb124 hkb124 hub124 hsb124 => ?_)
 have hl126 : r < b124 := by rw [eb124]; exact hk8.lt
 have hk125 := hk8.upd hub124 (Nat.ne_of_lt hl126)
 have hl128 : b1 < b124 := by rw [eb124]; exact hk9.lt
 have hk127 := hk9.upd hub124 (Nat.ne_of_lt hl128)
 have hvl130 := fun h0 => eb124 ▸ hv10.lt h0
 have hv129 := bup hv10 hub124 hvl130
 have hgeb124 : w.heap.size ≤ b124 := by rw [eb124]; exact hB11.size
 have hB131 := Touch.trans hB11 (Touch.of_new hub124 hgeb124)
 refine WL.nil <| ?_
 refine WY.br2 3 rfl 7 rfl ?_ ?_
 refine WL.r (Rd.ld (isAgg22 _) rfl hk125 rfl) rfl <| WL.nil <| ?_
 refine WY.br1 7 rfl ?_
 refine WL.r (Rd.ld (isAgg3 _) rfl hk125 rfl) rfl <| WL.nil <| ?_
 refine WY.br1 8 rfl ?_
 refine WL.c1 hb107 rfl rfl ((hN _ hv129)) (fun w132 hw132 => ?_)
 have hk133 := hk125.below hw132 hk125.lt
 have hk134 := hk127.below hw132 hk127.lt
 have hk135 := hkb124.below hw132 hkb124.lt
 have hv136 := BytesAt.below hv129 hw132 (fun h0 => hv129.lt h0)
 have hB137 := Touch.trans hB131 (Touch.mono (Touch.of_below hw132) hB131.size)
 refine WL.nil <| ?_
 refine WY.tk 9 rfl (.mv rfl) rfl ?_
 refine WY.tk 10 rfl (.ext rfl rfl) rfl ?_
 refine WY.tk 11 rfl (.ext rfl rfl) rfl ?_
 refine WY.tk 12 rfl (.ext rfl rfl) rfl ?_
 refine WY.br1 14 rfl ?_
 refine WL.stL rfl rfl hk135 isz143 rfl rfl (fun w138 hkw138 huw138 hsw138 => ?_)
 have hk139 := hk133.up huw138
 have hk140 := hk134.up huw138
 have hv141 := bup hv136 huw138 hvl130
 have hB142 := Touch.trans hB137 (Touch.of_new huw138 oO)
 refine WL.nil <| ?_
 refine WY.tk 15 rfl (.as rfl) rfl ?_
 refine WY.tk 16 rfl (.as rfl) rfl ?_
 refine WY.done kR ?_
 exact ⟨_, ⟨rfl, rfl, rfl, rfl, rfl, trivial⟩, hB142, by rw [ht0]; exact hk139, hv141, hk140, hkw138, by omega⟩
 refine WL.r (Rd.ld (isAgg3 _) rfl hk125 rfl) rfl <| WL.nil <| ?_
 refine WY.br1 3 rfl ?_
 refine WL.r (Rd.ld (isAgg22 _) rfl hk125 rfl) rfl <| WL.nil <| ?_
 refine WY.br1 8 rfl ?_
 refine WL.c1 hb107 rfl rfl ((hN _ hv129)) (fun w143 hw143 => ?_)
 have hk144 := hk125.below hw143 hk125.lt
 have hk145 := hk127.below hw143 hk127.lt
 have hk146 := hkb124.below hw143 hkb124.lt
 have hv147 := BytesAt.below hv129 hw143 (fun h0 => hv129.lt h0)
 have hB148 := Touch.trans hB131 (Touch.mono (Touch.of_below hw143) hB131.size)
 refine WL.nil <| ?_
 refine WY.tk 9 rfl (.mv rfl) rfl ?_
 refine WY.tk 10 rfl (.ext rfl rfl) rfl ?_
 refine WY.tk 11 rfl (.ext rfl rfl) rfl ?_
 refine WY.tk 12 rfl (.ext rfl rfl) rfl ?_
 refine WY.br1 14 rfl ?_
 refine WL.stL rfl rfl hk146 isz143 rfl rfl (fun w149 hkw149 huw149 hsw149 => ?_)
 have hk150 := hk144.up huw149
 have hk151 := hk145.up huw149
 have hv152 := bup hv147 huw149 hvl130
 have hB153 := Touch.trans hB148 (Touch.of_new huw149 oO)
 refine WL.nil <| ?_
 refine WY.tk 15 rfl (.as rfl) rfl ?_
 refine WY.tk 16 rfl (.as rfl) rfl ?_
 refine WY.done kR ?_
 exact ⟨_, ⟨rfl, rfl, rfl, rfl, rfl, trivial⟩, hB153, by rw [ht0]; exact hk150, hv152, hk151, hkw149, by omega⟩
 obtain ⟨b3, rfl⟩ : ∃ b3, b3 = t := ⟨t, rfl⟩
 subst ht0
 obtain ⟨hT, hr2, hb2, hk1, hk3, h13⟩ := hR
 refine W.seq <| W.block <| W.sr <| WL.m rfl rfl <| WL.p (.eql rfl rfl) rfl <| WL.m rfl rfl <| WL.gd rfl rfl rfl (fun g154 => ?_) (fun g154 => ?_)
 have g154' := dT g154
 refine WL.m rfl rfl <| WL.gy rfl rfl rfl g154 <| WL.c1 hb108 rfl rfl ((plex_open r p l c t0 refs _ ⟨hr2, hb2⟩ hl ht)) (fun w155 hw155 => ?_)
 have hk156 := hr2.below hw155 hr2.lt
 have hk157 := hk1.below hw155 hk1.lt
 have hk158 := hk3.below hw155 hk3.lt
 have hv159 := BytesAt.below hb2 hw155 (fun h0 => hb2.lt h0)
 have hB160 := Touch.trans hT (Touch.mono (Touch.of_below hw155) hT.size)
 refine WL.p (.pkT rfl g154 rfl) rfl <| WL.z rfl rfl ?_
 refine W.cond rfl (fun h161 => ?_) (fun h161 => ?_)
 refine W.reg <| WL.cp hb68 rfl ((plex_fail 24 _)) (fun w162 hw162 => ?_)
 obtain rfl := hw162
 exact pn_is (Ends.err 24 (by rw [hX, if_pos ⟨by assumption, by assumption⟩]) hB160)
 refine W.sr <| WL.m rfl rfl <| WL.p (.eql rfl rfl) rfl <| WL.z rfl rfl ?_
 refine W.cond rfl (fun h163 => ?_) (fun h163 => ?_)
 have h163' := dT h163
 refine W.reg <| WL.cp hb68 rfl ((plex_fail 25 _)) (fun w164 hw164 => ?_)
 obtain rfl := hw164
 exact pn_is (Ends.err 25 (by rw [hX, if_neg (by rintro ⟨h1, h2⟩; simp_all), if_pos aS]) hB160)
 have h163' := dF h163
 refine W.sr <| WL.m rfl rfl <| WL.p (.neq rfl rfl) rfl <| WL.m rfl rfl <| WL.gd rfl rfl rfl (fun g165 => ?_) (fun g165 => ?_)
 have g165' := ndF g165
 refine WL.p (.fa underlying143 rfl sizeOf3 dD rfl) rfl <| WL.gy rfl rfl rfl g165 <| WL.r (Rd.ld (isAgg3 _) rfl hk158 rfl) rfl <| WL.gy rfl rfl rfl g165 <| WL.p (.neq rfl rfl) rfl <| WL.p (.pkF rfl g165 rfl) rfl <| WL.z rfl rfl ?_
 refine W.cond rfl (fun h166 => ?_) (fun h166 => ?_)
 have h166' := ndT h166
 refine W.reg <| WL.cp hb68 rfl ((plex_fail 23 _)) (fun w167 hw167 => ?_)
 obtain rfl := hw167
 exact pn_is (Ends.err 23 (by rw [hX, if_neg (by rintro ⟨h1, h2⟩; simp_all), if_neg aS, if_pos (.inr aS)]) hB160)
 have h166' := ndF h166
 refine W.skip <| W.sr <| WL.m rfl rfl <| WL.p (.iis (((N.at'.toNat : Nat) : Int)) (.mv rfl) oO) rfl <| WL.p (.nck rfl) rfl <| WL.p (.fa underlying63 rfl sizeOf3 dD rfl) rfl <| WL.st sizeOf3 rfl rfl rfl hk156 oD (fun w168 hkw168 huw168 hsw168 => ?_)
 have hkw168 : Blk w168 r _ _ := hkw168
 have huw168 : Upd r _ _ := huw168
 have hk169 := hk157.up huw168
 have hk170 := hk158.up huw168
 have hv171 := BytesAt.upd hv159 huw168 hne
 have hB172 := Touch.trans hB160 (Touch.of_upd huw168)
 refine WL.nil <| ?_
 refine W.sr <| WL.p (.fa underlying143 rfl sizeOf9 dD rfl) rfl <| WL.r (Rd.ld (isAgg9 _) rfl hk170 rfl) rfl <| ?_
 refine WL.p (.buildL (ps := _) blt31 rfl rfl rfl pS) rfl ?_
 refine WL.stL rfl rfl hk169 isz31 rfl rfl (fun w173 hkw173 huw173 hsw173 => ?_)
 have hk174 := hkw168.up huw173
 have hv176 := bup hv171 huw173 hvl5
 have hB177 := Touch.trans hB172 (Touch.of_new huw173 oO)
 refine WL.nil <| ?_
 refine W.ret (W.retc1 rfl rfl (ldRow hkw173 underlying31 rfl isz31)  ?_)
 exact Ends.ok (N.s, N.at'.toNat) (by rw [hX, if_neg (by rintro ⟨h1, h2⟩; simp_all), if_neg aS, if_neg oO]) rfl ⟨⟨hk174, hv176⟩, hB177⟩
 have g165' := ndT g165
 refine WL.gn rfl rfl rfl g165 <| WL.gn rfl rfl rfl g165 <| WL.p (.pkT rfl g165 rfl) rfl <| WL.z rfl rfl ?_
 refine W.condT rfl rfl ?_
 refine W.reg <| WL.cp hb68 rfl ((plex_fail 23 _)) (fun w178 hw178 => ?_)
 obtain rfl := hw178
 exact pn_is (Ends.err 23 (by rw [hX, if_neg (by rintro ⟨h1, h2⟩; simp_all), if_neg aS, if_pos (.inl aS)]) hB160)
 have g154' := dF g154
 refine WL.gn rfl rfl rfl g154 <| WL.p (.pkF rfl g154 rfl) rfl <| WL.z rfl rfl ?_
 refine W.condF rfl rfl ?_
 refine W.sr <| WL.m rfl rfl <| WL.p (.eql rfl rfl) rfl <| WL.z rfl rfl ?_
 refine W.cond rfl (fun h179 => ?_) (fun h179 => ?_)
 have h179' := dT h179
 refine W.reg <| WL.cp hb68 rfl ((plex_fail 25 _)) (fun w180 hw180 => ?_)
 obtain rfl := hw180
 exact pn_is (Ends.err 25 (by rw [hX, if_neg (by rintro ⟨h1, h2⟩; simp_all), if_pos aS]) hT)
 have h179' := dF h179
 refine W.sr <| WL.m rfl rfl <| WL.p (.neq rfl rfl) rfl <| WL.m rfl rfl <| WL.gd rfl rfl rfl (fun g181 => ?_) (fun g181 => ?_)
 have g181' := ndF g181
 refine WL.p (.fa underlying143 rfl sizeOf3 dD rfl) rfl <| WL.gy rfl rfl rfl g181 <| WL.r (Rd.ld (isAgg3 _) rfl hk3 rfl) rfl <| WL.gy rfl rfl rfl g181 <| WL.p (.neq rfl rfl) rfl <| WL.p (.pkF rfl g181 rfl) rfl <| WL.z rfl rfl ?_
 refine W.cond rfl (fun h182 => ?_) (fun h182 => ?_)
 have h182' := ndT h182
 refine W.reg <| WL.cp hb68 rfl ((plex_fail 23 _)) (fun w183 hw183 => ?_)
 obtain rfl := hw183
 exact pn_is (Ends.err 23 (by rw [hX, if_neg (by rintro ⟨h1, h2⟩; simp_all), if_neg aS, if_pos (.inr aS)]) hT)
 have h182' := ndF h182
 refine W.skip <| W.sr <| WL.m rfl rfl <| WL.p (.iis (((N.at'.toNat : Nat) : Int)) (.mv rfl) oO) rfl <| WL.p (.nck rfl) rfl <| WL.p (.fa underlying63 rfl sizeOf3 dD rfl) rfl <| WL.st sizeOf3 rfl rfl rfl hr2 oD (fun w184 hkw184 huw184 hsw184 => ?_)
 have hkw184 : Blk w184 r _ _ := hkw184
 have huw184 : Upd r _ _ := huw184
 have hk185 := hk1.up huw184
 have hk186 := hk3.up huw184
 have hv187 := BytesAt.upd hb2 huw184 hne
 have hB188 := Touch.trans hT (Touch.of_upd huw184)
 refine WL.nil <| ?_
 refine W.sr <| WL.p (.fa underlying143 rfl sizeOf9 dD rfl) rfl <| WL.r (Rd.ld (isAgg9 _) rfl hk186 rfl) rfl <| ?_
 refine WL.p (.buildL (ps := _) blt31 rfl rfl rfl pS) rfl ?_
 refine WL.stL rfl rfl hk185 isz31 rfl rfl (fun w189 hkw189 huw189 hsw189 => ?_)
 have hk190 := hkw184.up huw189
 have hv192 := bup hv187 huw189 hvl5
 have hB193 := Touch.trans hB188 (Touch.of_new huw189 oO)
 refine WL.nil <| ?_
 refine W.ret (W.retc1 rfl rfl (ldRow hkw189 underlying31 rfl isz31)  ?_)
 exact Ends.ok (N.s, N.at'.toNat) (by rw [hX, if_neg (by rintro ⟨h1, h2⟩; simp_all), if_neg aS, if_neg oO]) rfl ⟨⟨hk190, hv192⟩, hB193⟩
 have g181' := ndT g181
 refine WL.gn rfl rfl rfl g181 <| WL.gn rfl rfl rfl g181 <| WL.p (.pkT rfl g181 rfl) rfl <| WL.z rfl rfl ?_
 refine W.condT rfl rfl ?_
 refine W.reg <| WL.cp hb68 rfl ((plex_fail 23 _)) (fun w194 hw194 => ?_)
 obtain rfl := hw194
 exact pn_is (Ends.err 23 (by rw [hX, if_neg (by rintro ⟨h1, h2⟩; simp_all), if_neg aS, if_pos (.inl aS)]) hT)
def skipE (l : List UInt8) (t : Nat) : Except Int UInt8 := match l[skipAt false l t]? with | none => .error 24 | some x => .ok x
theorem plex_skip (r : Nat) (p : Option Addr) (l : List UInt8) (c t : Nat) (refs : Bool) (w : World) (h : PRd w r p l c t refs) (hne : 0 < l.length → (pA p).block ≠ r) (hl : l.length ≤ 100000000) (ht : t ≤ l.length) :
  Calls Tryz.prog 106 #[.pointer (some ⟨r, 0, none⟩)] w (Ends 35 (skipE l t) (fun x => .int .u8 (x.toNat : Int)) (fun _ w' => PRd w' r p l c (skipAt false l t) refs ∧ Touch w.heap.size r w w') (fun w' => Touch w.heap.size r w w')) := by
 have hr := h.1
 have hb := h.2
 unfold skipE
 obtain ⟨s, hs⟩ : ∃ s, s = skipAt false l t := ⟨_, rfl⟩
 have hsl : s ≤ l.length := by rw [hs]; exact skipAt_le _ _ _
 rw [← hs]
 have hS : ∀ w1, BytesAt w1 p l → Calls Tryz.prog 13 #[.slice p l.length c, .int .i64 (t : Int)] w1 fun e w' => e = .returned (.int .i64 (s : Int)) ∧ w1 = w' := fun w1 h1 => (plex_Skip p l c t w1 h1 hl).mono fun e w' h => ⟨by rw [h.1, insA_nat l t ht, hs], h.2⟩
 refine W.enter func106 rfl ntmps106 (Nat.le_of_ble_eq_true rfl) ?_
 have hB0 := Touch.refl (w.heap.size) r w
 refine W.sr <| WL.z rfl rfl ?_
 refine W.seq <| W.regY 13 rfl mixed (fun w1 dw1 => ?_)
 have hk2 := hr.drew dw1
 have hv3 := hb.drew dw1
 have hB4 := Touch.trans hB0 (Touch.of_drew dw1)
 refine WY.tk 0 rfl (.mv rfl) rfl ?_
 refine WY.tk 1 rfl (.mv rfl) rfl ?_
 refine WY.tk 2 rfl (.nck rfl) rfl ?_
 refine WY.tk 3 rfl (.fa underlying63 rfl sizeOf22 dD rfl) rfl ?_
 refine WY.tk 5 rfl (.mv rfl) rfl ?_
 refine WY.tk 6 rfl (.nck rfl) rfl ?_
 refine WY.tk 7 rfl (.fa underlying63 rfl sizeOf3 dD rfl) rfl ?_
 refine WY.br2 4 rfl 8 rfl ?_ ?_
 refine WL.r (Rd.ld (isAgg22 _) rfl hk2 rfl) rfl <| WL.nil <| ?_
 refine WY.br1 8 rfl ?_
 refine WL.r (Rd.ld (isAgg3 _) rfl hk2 rfl) rfl <| WL.nil <| ?_
 refine WY.br1 9 rfl ?_
 refine WL.c1 hb13 rfl rfl ((hS _ hv3)) (fun w5 hw5 => ?_)
 obtain rfl := hw5
 refine WL.nil <| ?_
 refine WY.tk 10 rfl (.nck rfl) rfl ?_
 refine WY.tk 11 rfl (.fa underlying63 rfl sizeOf3 dD rfl) rfl ?_
 refine WY.br1 12 rfl ?_
 refine WL.st sizeOf3 rfl rfl rfl hk2 oD (fun w6 hkw6 huw6 hsw6 => ?_)
 have hkw6 : Blk w6 r _ _ := hkw6
 have huw6 : Upd r _ _ := huw6
 have hv7 := BytesAt.upd hv3 huw6 hne
 have hB8 := Touch.trans hB4 (Touch.of_upd huw6)
 refine WL.nil <| ?_
 refine WY.done kR ?_
 refine W.seq <| W.seq <| W.regQ mixed kR ?_
 refine WQ.p (.mv rfl) rfl <| WQ.p (.nck rfl) rfl <| WQ.p (.fa underlying63 rfl sizeOf3 dD rfl) rfl <| WQ.r (fun m => Rd.ld (isAgg3 _) rfl hkw6 rfl) rfl <| WQ.p (.mv rfl) rfl <| WQ.p (.nck rfl) rfl <| WQ.p (.fa underlying63 rfl sizeOf22 dD rfl) rfl <| WQ.r (fun m => Rd.ld (isAgg22 _) rfl hkw6 rfl) rfl <| WQ.p (.lenS underlying22 rfl) rfl <| WQ.p (.geq rfl rfl) rfl <| WQ.nil (fun w9 dw9 => ?_)
 have hk10 := hkw6.drew dw9
 have hv11 := hv7.drew dw9
 have hB12 := Touch.trans hB8 (Touch.of_drew dw9)
 refine W.cond rfl (fun h13 => ?_) (fun h13 => ?_)
 have h13' := dT h13
 refine W.reg <| WL.cp hb68 rfl ((plex_fail 24 _)) (fun w14 hw14 => ?_)
 obtain rfl := hw14
 exact pn_is (Ends.err 24 (by rw [List.getElem?_eq_none oO]) hB12)
 have h13' := dF h13
 refine W.skip <| W.seq <| W.regQ mixed kR ?_
 refine WQ.p (.mv rfl) rfl <| WQ.p (.nck rfl) rfl <| WQ.p (.fa underlying63 rfl sizeOf22 dD rfl) rfl <| WQ.r (fun m => Rd.ld (isAgg22 _) rfl hk10 rfl) rfl <| WQ.p (.mv rfl) rfl <| WQ.p (.nck rfl) rfl <| WQ.p (.fa underlying63 rfl sizeOf3 dD rfl) rfl <| WQ.r (fun m => Rd.ld (isAgg3 _) rfl hk10 rfl) rfl <| WQ.p (.ixb underlying22 sizeOf5 rfl rfl (hv11.isp oO) (s) (rfl) oO) rfl <| WQ.r (fun m => Rd.ldc (isAgg5 _) rfl ((hv11.drewN m).cells (s) oO)) rfl <| WQ.p (.as rfl) rfl <| WQ.nil (fun w15 dw15 => ?_)
 have hk16 := hk10.drew dw15
 have hv17 := hv11.drew dw15
 have hB18 := Touch.trans hB12 (Touch.of_drew dw15)
 refine W.ret (W.ret1 rfl rfl ?_)
 exact Ends.ok (l[s]'oO) (by rw [List.getElem?_eq_getElem oO]) rfl ⟨⟨hk16, hv17⟩, hB18⟩
 refine WL.r (Rd.ld (isAgg3 _) rfl hk2 rfl) rfl <| WL.nil <| ?_
 refine WY.br1 4 rfl ?_
 refine WL.r (Rd.ld (isAgg22 _) rfl hk2 rfl) rfl <| WL.nil <| ?_
 refine WY.br1 9 rfl ?_
 refine WL.c1 hb13 rfl rfl ((hS _ hv3)) (fun w19 hw19 => ?_)
 obtain rfl := hw19
 refine WL.nil <| ?_
 refine WY.tk 10 rfl (.nck rfl) rfl ?_
 refine WY.tk 11 rfl (.fa underlying63 rfl sizeOf3 dD rfl) rfl ?_
 refine WY.br1 12 rfl ?_
 refine WL.st sizeOf3 rfl rfl rfl hk2 oD (fun w20 hkw20 huw20 hsw20 => ?_)
 have hkw20 : Blk w20 r _ _ := hkw20
 have huw20 : Upd r _ _ := huw20
 have hv21 := BytesAt.upd hv3 huw20 hne
 have hB22 := Touch.trans hB4 (Touch.of_upd huw20)
 refine WL.nil <| ?_
 refine WY.done kR ?_
 refine W.seq <| W.seq <| W.regQ mixed kR ?_
 refine WQ.p (.mv rfl) rfl <| WQ.p (.nck rfl) rfl <| WQ.p (.fa underlying63 rfl sizeOf3 dD rfl) rfl <| WQ.r (fun m => Rd.ld (isAgg3 _) rfl hkw20 rfl) rfl <| WQ.p (.mv rfl) rfl <| WQ.p (.nck rfl) rfl <| WQ.p (.fa underlying63 rfl sizeOf22 dD rfl) rfl <| WQ.r (fun m => Rd.ld (isAgg22 _) rfl hkw20 rfl) rfl <| WQ.p (.lenS underlying22 rfl) rfl <| WQ.p (.geq rfl rfl) rfl <| WQ.nil (fun w23 dw23 => ?_)
 have hk24 := hkw20.drew dw23
 have hv25 := hv21.drew dw23
 have hB26 := Touch.trans hB22 (Touch.of_drew dw23)
 refine W.cond rfl (fun h27 => ?_) (fun h27 => ?_)
 have h27' := dT h27
 refine W.reg <| WL.cp hb68 rfl ((plex_fail 24 _)) (fun w28 hw28 => ?_)
 obtain rfl := hw28
 exact pn_is (Ends.err 24 (by rw [List.getElem?_eq_none oO]) hB26)
 have h27' := dF h27
 refine W.skip <| W.seq <| W.regQ mixed kR ?_
 refine WQ.p (.mv rfl) rfl <| WQ.p (.nck rfl) rfl <| WQ.p (.fa underlying63 rfl sizeOf22 dD rfl) rfl <| WQ.r (fun m => Rd.ld (isAgg22 _) rfl hk24 rfl) rfl <| WQ.p (.mv rfl) rfl <| WQ.p (.nck rfl) rfl <| WQ.p (.fa underlying63 rfl sizeOf3 dD rfl) rfl <| WQ.r (fun m => Rd.ld (isAgg3 _) rfl hk24 rfl) rfl <| WQ.p (.ixb underlying22 sizeOf5 rfl rfl (hv25.isp oO) (s) (rfl) oO) rfl <| WQ.r (fun m => Rd.ldc (isAgg5 _) rfl ((hv25.drewN m).cells (s) oO)) rfl <| WQ.p (.as rfl) rfl <| WQ.nil (fun w29 dw29 => ?_)
 have hk30 := hk24.drew dw29
 have hv31 := hv25.drew dw29
 have hB32 := Touch.trans hB26 (Touch.of_drew dw29)
 refine W.ret (W.ret1 rfl rfl ?_)
 exact Ends.ok (l[s]'oO) (by rw [List.getElem?_eq_getElem oO]) rfl ⟨⟨hk30, hv31⟩, hB32⟩
end
section
/-- objects that lie in blocks of S -/
structure LInv (w : World) (S : Nat → Prop) (cs : List PC) (acc : List PV) : Prop where
 len : cs.length = acc.length
 sub : ∀ i (h : i < cs.length) (h2 : i < acc.length), PRep w S cs[i] acc[i]
theorem LInv.nil (w : World) (S : Nat → Prop) : LInv w S [] [] := ⟨rfl, fun i h => by simp at h⟩
theorem LInv.same {w w1 : World} {S : Nat → Prop} {cs : List PC} {acc : List PV} (h : LInv w S cs acc) (hb : ∀ k, S k → k < w.heap.size → w1.heap[k]? = w.heap[k]?) : LInv w1 S cs acc := ⟨h.len, fun i h1 h2 => (h.sub i h1 h2).same hb⟩
theorem LInv.mono {w : World} {S T : Nat → Prop} {cs : List PC} {acc : List PV} (h : LInv w S cs acc) (hST : ∀ k, S k → k < w.heap.size → T k) : LInv w T cs acc := ⟨h.len, fun i h1 h2 => (h.sub i h1 h2).mono hST⟩
theorem LInv.grow {w w1 : World} {S T : Nat → Prop} {cs : List PC} {acc : List PV} (h : LInv w S cs acc) (hb : ∀ k, S k → k < w.heap.size → w1.heap[k]? = w.heap[k]?) (hT : ∀ k, S k → k < w.heap.size → T k) : LInv w1 T cs acc :=
 ((h.mono (T := fun k => S k ∧ k < w.heap.size) (fun k hk hl => ⟨hk, hl⟩)).same (fun k hk _ => hb k hk.1 hk.2)).mono (fun k hk _ => hT k hk.1 hk.2)
theorem LInv.push {w : World} {S : Nat → Prop} {cs : List PC} {acc : List PV} {x : PC} {o : PV} (h : LInv w S cs acc) (hx : PRep w S x o) : LInv w S (cs ++ [x]) (acc ++ [o]) :=
  ⟨by simp [h.len], fun i h1 h2 => by
    have hl := h.len
    rcases Nat.lt_or_ge i cs.length with h3 | h3
    · rw [List.getElem_append_left h3, List.getElem_append_left oO]
      exact h.sub i h3 oO
    · obtain rfl : i = cs.length := by simp at h1; omega
      rw [List.getElem_append_right (Nat.le_refl _), List.getElem_append_right oO]
      simpa [hl] using hx⟩
theorem PRep.ofRow {w : World} {S : Nat → Prop} {k n : Int} {s : List UInt8} {kp lp : Option Addr} {kl kc lc : Nat} {keys : List (List UInt8)} {cs : List PC} {acc : List PV} (hk : StrsAt S w (.slice kp kl kc) keys) (hr : RowIn S w (.slice lp cs.length lc) cs) (h : LInv w S cs acc) :
  PRep w S ⟨k, n, s, kp, kl, kc, lp, cs.length, lc⟩ (.mk k n s keys acc) := PRep.mk ⟨k, n, s, kp, kl, kc, lp, cs.length, lc⟩ keys acc cs hk hr h.len h.sub
theorem inf31 : (Tryz.prog.info? 31).map (fun i => (i.zero, i.size, i.bytes)) = some (some (.agg (pobj 0 0 []).toArray), 6, 104) := by kernel_rfl
/-- what an object's reading leaves -/
def ObjS (w : World) (r : Nat) (p : Option Addr) (l : List UInt8) (c : Nat) (refs : Bool) (a : PV × Nat) (v : Value) (w' : World) : Prop :=
 ∃ x : PC, v = .agg (pcV x).toArray ∧ PRep w' (fun k => w.heap.size ≤ k) x a.1 ∧ PRd w' r p l c a.2 refs ∧ Touch w.heap.size r w w'
/-- a call of object at depth d keeps its word -/
def ObjC (p : Option Addr) (l : List UInt8) (c : Nat) (refs : Bool) (D : Int) : Prop :=
 ∀ (r t : Nat) (w : World), PRd w r p l c t refs → (0 < l.length → (pA p).block ≠ r) → t < l.length →
  Calls Tryz.prog 43 #[.pointer (some ⟨r, 0, none⟩), .int .i64 D] w (EndsV 35 (objP refs l D.toNat t) (ObjS w r p l c refs) (fun w' => Touch w.heap.size r w w'))
theorem skipE_ok {l : List UInt8} {t : Nat} {x : UInt8} (h : skipE l t = .ok x) : l[skipAt false l t]? = some x := by
 unfold skipE at h
 split at h
 ·
  cases h
 ·
  next h1 => rw [h1]; cases h; rfl
theorem skipE_err {l : List UInt8} {t : Nat} {k : Int} (h : skipE l t = .error k) : l[skipAt false l t]? = none ∧ k = 24 := by
 unfold skipE at h
 split at h
 ·
  next h1 => cases h; exact ⟨h1, rfl⟩
 ·
  cases h
theorem skipAt_ge (l : List UInt8) (t : Nat) (ht : t ≤ l.length) : t ≤ skipAt false l t := by
 unfold skipAt
 have h1 := skipS_len (l.drop t) false
 rw [List.length_drop] at h1
 omega
theorem listP_step {obj : Nat → ObjE} {l : List UInt8} {f : Nat} {acc : List PV} {t : Nat} (hf : 0 < f) : listP obj l f acc t = (match l[skipAt false l t]? with
  | none => .error 24
  | some c => if c = 93 then .ok (acc, skipAt false l t + 1) else if 65535 ≤ acc.length then .error 25 else match obj (skipAt false l t) with | .error k => .error k | .ok (o, t') => listP obj l (f - 1) (acc ++ [o]) t') := by
 cases f with
 | zero => omega
 | succ f => rfl
theorem plex_list (p : Option Addr) (l : List UInt8) (c : Nat) (refs : Bool) (D : Int) (hO : ObjC p l c refs D) (hadv : ∀ t o t', t < l.length → objP refs l D.toNat t = .ok (o, t') → t < t' ∧ t' ≤ l.length) (r t : Nat) (w : World) (h : PRd w r p l c t refs) (hne : 0 < l.length → (pA p).block ≠ r) (hl : l.length ≤ 100000000) (ht : t ≤ l.length) :
  Calls Tryz.prog 69 #[.pointer (some ⟨r, 0, none⟩), .int .i64 D] w (EndsV 35 (listO (listP (objP refs l D.toNat) l (l.length + 1) [] t)) (ObjS w r p l c refs) (fun w' => Touch w.heap.size r w w')) := by
 have hr := h.1
 have hb := h.2
 have hbl : 0 < l.length → (pA p).block < w.heap.size := fun h0 => hb.lt h0
 obtain ⟨R, hR⟩ : ∃ R, R = listP (objP refs l D.toNat) l (l.length + 1) [] t := ⟨_, rfl⟩
 rw [← hR]
 obtain ⟨t0, ht0⟩ : ∃ t0, t0 = t := ⟨t, rfl⟩
 subst ht0
 refine W.enter func69 rfl ntmps69 (Nat.le_of_ble_eq_true rfl) ?_
 have hB0 := Touch.refl (w.heap.size) r w
 refine W.seq ?_
 have hrw : r < w.heap.size := hr.lt
 refine W.reg <| WL.alloc zeroValue31 rfl (fun b1 wb1 eb1 hkb1 hub1 hsb1 => ?_)
 have hl3 : r < b1 := by rw [eb1]; exact hr.lt
 have hk2 := hr.upd hub1 (Nat.ne_of_lt hl3)
 have hvl5 := fun h0 => eb1 ▸ hb.lt h0
 have hv4 := bup hb hub1 hvl5
 have hgeb1 : w.heap.size ≤ b1 := by rw [eb1]; exact hB0.size
 have hB6 := Touch.trans hB0 (Touch.of_new hub1 hgeb1)
 refine WL.nil <| ?_
 refine W.sr <| WL.p (.buildL (ps := _) blt31 rfl rfl rfl pS) rfl ?_
 refine WL.alloc zeroValue31 rfl (fun b7 wb7 eb7 hkb7 hub7 hsb7 => ?_)
 have hl9 : r < b7 := by rw [eb7]; exact hk2.lt
 have hk8 := hk2.upd hub7 (Nat.ne_of_lt hl9)
 have hl11 : b1 < b7 := by rw [eb7]; exact hkb1.lt
 have hk10 := hkb1.upd hub7 (Nat.ne_of_lt hl11)
 have hvl13 := fun h0 => eb7 ▸ hv4.lt h0
 have hv12 := bup hv4 hub7 hvl13
 have hgeb7 : w.heap.size ≤ b7 := by rw [eb7]; exact hB6.size
 have hB14 := Touch.trans hB6 (Touch.of_new hub7 hgeb7)
 refine WL.stL rfl rfl hkb7 isz31 rfl rfl (fun w15 hkw15 huw15 hsw15 => ?_)
 have hk16 := hk8.up huw15
 have hk17 := hk10.up huw15
 have hv18 := bup hv12 huw15 hvl13
 have hB19 := Touch.trans hB14 (Touch.of_new huw15 oO)
 refine WL.nil <| ?_
 refine W.seq <| W.block ?_
 have hpB : 0 < l.length → (pA p).block < b7 + 1 := fun h0 => by have := hbl h0; omega
 have hrb : r < b7 := by omega
 refine W.loop (α := Value × List PC × List PV × Nat × Nat) (fun t => [(0, .pointer (some ⟨r, 0, none⟩)), (1, .int .i64 D), (4, .pointer (some ⟨b1, 0, none⟩)), (5, .pointer (some ⟨b7, 0, none⟩))]) (fun t w' => PRd w' r p l c t.2.2.2.1 refs ∧ Touch w.heap.size r w w' ∧ Blk w' b1 (pobj 0 0 []).toArray 31 ∧ Blk w' b7 #[.int .i64 6, .int .i64 0, .string ⟨#[]⟩, .slice none 0 0, t.1, .slice none 0 0] 31 ∧ OwnM pcL 31 (b7 + 1) w' t.1 t.2.1 ∧ LInv w' (fun k => b7 < k ∧ t.1.ownBlock ≠ some k) t.2.1 t.2.2.1 ∧ listP (objP refs l D.toNat) l t.2.2.2.2 t.2.2.1 t.2.2.2.1 = R ∧ l.length < t.2.2.2.2 + t.2.2.2.1 ∧ t.2.2.2.1 ≤ l.length ∧ t.2.2.1.length ≤ 65535) (fun t => t.2.2.2.2) ((.slice none 0 0, [], [], t0, l.length + 1)) ⟨rfl, rfl, rfl, rfl, trivial⟩ (⟨⟨hk16, hv18⟩, hB19, hk17, hkw15, OwnM.nil _ _ _ _, LInv.nil _ _, hR.symm, by ((try simp only) <;> omega), ht, by simp⟩) (fun t w1 hR => ?_)
 obtain ⟨v, cs, acc, t, f⟩ := t
 obtain ⟨hrd, hT, hk1, hk2, hown, hsub, hw, hft, htl, hal⟩ := hR
 simp only at hrd hk2 hown hsub hw hft htl hal ⊢
 have hst := listP_step (obj := objP refs l D.toNat) (l := l) (acc := acc) (t := t) (f := f) oO
 have hsge := skipAt_ge l t htl
 have hcl := hsub.len
 obtain ⟨pl, cl, rfl, -⟩ := hown.row
 refine W.seq <| W.sr <| WL.m rfl rfl <| WL.ce hb106 rfl rfl ((plex_skip r p l c t refs _ ⟨hrd.1, hrd.2⟩ hne hl htl)) (fun k22 w20 hrw20 hw20 => ?_) (fun a21 w20 hrw20 hw20 => ?_)
 have hBew20 := Touch.trans hT (Touch.mono hw20 hT.size)
 exact pn_is (EndsV.err k22 (by rw [← hw, hst, (skipE_err hrw20).1, (skipE_err hrw20).2]; rfl) hBew20)
 have ho23 := OwnM.touch' hown hw20.2 oO
 have hF24 := LInv.same (w1 := w20) hsub (fun k hk hl => hw20.2.block k hl (by first | omega | (have := hk.1; omega)))
 have hk25 := hw20.1.1
 have hk26 := Blk.touch hk1 hw20.2 hk1.lt oO
 have hk27 := Blk.touch hk2 hw20.2 hk2.lt oO
 have hv28 := hw20.1.2
 have hB29 := Touch.trans hT (Touch.mono hw20.2 hT.size)
 have hsk := skipE_ok hrw20
 rw [hsk] at hst
 obtain ⟨hsl, hsx⟩ := List.getElem?_eq_some_iff.1 hsk
 obtain ⟨x0, hx0⟩ : ∃ x0, x0 = a21 := ⟨_, rfl⟩
 rw [← hx0] at hst hsx hsk ⊢
 generalize skipAt false l t = s at *
 refine WL.p (.neq rfl rfl) rfl <| WL.nil <| ?_
 refine W.cond rfl (fun h30 => ?_) (fun h30 => ?_)
 have h30' := ndT h30
 refine W.skip <| W.block <| W.seq <| W.sr <| WL.p (.fa underlying31 rfl sizeOf29 dD rfl) rfl <| WL.r (Rd.ld (isAgg29 _) rfl hk27 rfl) rfl <| WL.p (.lenS underlying29 rfl) rfl <| WL.p (.geq rfl rfl) rfl <| WL.nil <| ?_
 refine W.cond rfl (fun h31 => ?_) (fun h31 => ?_)
 have h31' := dT h31
 refine W.reg <| WL.cp hb68 rfl ((plex_fail 25 _)) (fun w32 hw32 => ?_)
 obtain rfl := hw32
 exact pn_is (EndsV.err 25 (by rw [← hw, hst]; simp only []; rw [if_neg (u8_ne (d := 93) aS), if_pos oO]; rfl) hB29)
 have h31' := dF h31
 refine W.skip <| W.regY 9 rfl mixed (fun w33 dw33 => ?_)
 have ho34 := OwnM.drew ho23 dw33
 have hF35 := LInv.same (w1 := w33) hF24 (fun k hk hl => (by obtain ⟨m, rfl⟩ := dw33; rfl))
 have hk36 := hk25.drew dw33
 have hk37 := hk26.drew dw33
 have hk38 := hk27.drew dw33
 have hv39 := hv28.drew dw33
 have hB40 := Touch.trans hB29 (Touch.of_drew dw33)
 refine WY.tk 0 rfl (.fa underlying31 rfl sizeOf29 dD rfl) rfl ?_
 refine WY.tk 2 rfl (.mv rfl) rfl ?_
 refine WY.tk 3 rfl (.mv rfl) rfl ?_
 refine WY.br2 1 rfl 4 rfl ?_ ?_
 refine WL.r (Rd.ld (isAgg29 _) rfl hk38 rfl) rfl <| WL.nil <| ?_
 refine WY.br1 4 rfl ?_
 refine WL.cx hb43 rfl rfl ((hO r s _ ⟨hk36, hv39⟩ hne hsl)) (fun k43 w41 hrw41 hw41 => ?_) (fun a42 x44 w41 hrw41 hw41 => ?_)
 have hBew41 := Touch.trans hB40 (Touch.mono hw41 hB40.size)
 exact pn_is (EndsV.err k43 (by rw [← hw, hst]; simp only []; rw [if_neg (u8_ne (d := 93) aS), if_neg oO, hrw41]; rfl) hBew41)
 have hrr := hrw41
 obtain ⟨oX, tX⟩ := a42
 obtain ⟨x1, rfl, hpx, hrd1, hT1⟩ := hw41
 have had := hadv s oX tX hsl hrr
 have ho1 := OwnM.touch' ho34 hT1 oO
 have hsub1 := LInv.same hF35 (fun k hk hl => hT1.block k hl (by have := hk.1; omega))
 have hk11 := Blk.touch hk37 hT1 (hk37).lt oO
 have hk21 := Blk.touch hk38 hT1 (hk38).lt oO
 have hB1 := Touch.trans hB40 (Touch.mono hT1 hB40.size)
 have hpx1 := hpx.mono (T := fun k => b7 < k ∧ (Value.slice pl cs.length cl).ownBlock ≠ some k) (fun k hk _ => ⟨by have := (hk38).lt; omega, fun e => by have := ((ho34).lt k e).2; omega⟩)
 have hsub2 := hsub1.push hpx1
 have hr1 := hrd1.1
 have hv1 := hrd1.2
 refine WL.nil <| ?_
 refine WY.br1 5 rfl ?_
 refine WL.bslM (L := pcL) (ps := _) ([x1]) underlying29 sizeOf31 zeroValue31 rfl rfl rfl rfl rfl (by first | rfl | decide) rfl rfl (fun b45 wb45 eb45 hob45 hub45 hsb45 => ?_)
 have ho46 := OwnM.new ho1 eb45 hub45
 have hF47 := LInv.same (w1 := wb45) hsub2 (fun k hk hl => hub45.other k oO)
 have hl49 : r < b45 := by rw [eb45]; exact hr1.lt
 have hk48 := hr1.upd hub45 (Nat.ne_of_lt hl49)
 have hl51 : b1 < b45 := by rw [eb45]; exact hk11.lt
 have hk50 := hk11.upd hub45 (Nat.ne_of_lt hl51)
 have hl53 : b7 < b45 := by rw [eb45]; exact hk21.lt
 have hk52 := hk21.upd hub45 (Nat.ne_of_lt hl53)
 have hvl55 := fun h0 => eb45 ▸ hv1.lt h0
 have hv54 := bup hv1 hub45 hvl55
 have hgeb45 : w.heap.size ≤ b45 := by rw [eb45]; exact hB1.size
 have hB56 := Touch.trans hB1 (Touch.of_new hub45 hgeb45)
 have hleb45 : b45 ≤ wb45.heap.size := by omega
 refine WL.nil <| ?_
 refine WY.br1 6 rfl ?_
 refine WL.appM underlying29 inf31 rfl rfl rfl ho46 rfl (hob45).rowp (by simp only [List.length_cons, List.length_nil]; omega) ((hk52).lt) rfl (fun h => nomatch h) (fun v57 w58 how58 hbw58 hgw58 hfw58 => ?_)
 have hk59 := hk48.below hbw58 oO
 have hk60 := hk50.below hbw58 oO
 have hk61 := hk52.below hbw58 oO
 have hF62 := LInv.grow (T := fun k => b7 < k ∧ (v57).ownBlock ≠ some k) hF47 (fun k hk hl => hgw58.block k hl (fun e => hk.2 e.symm)) (fun k hk hl => ⟨hk.1, fun e => by rcases hfw58 k e with h | h; exact hk.2 h; omega⟩)
 have hv63 := BytesAt.below hv54 hbw58 hpB
 have hB64 := Touch.trans hB56 (Touch.of_below (hbw58.mono oO))
 refine WL.nil <| ?_
 refine WY.tk 7 rfl (.fa underlying31 rfl sizeOf29 dD rfl) rfl ?_
 refine WY.br1 8 rfl ?_
 refine WL.st sizeOf29 rfl rfl (how58).one hk61 oD (fun w65 hkw65 huw65 hsw65 => ?_)
 have hkw65 : Blk w65 b7 _ _ := hkw65
 have huw65 : Upd b7 _ _ := huw65
 have ho66 := OwnM.touch how58 huw65 oM
 have hF67 := LInv.same (w1 := w65) hF62 (fun k hk hl => huw65.other k (by first | ((try simp only) <;> omega) | (have := hk.1; ((try simp only) <;> omega))))
 have hk68 := hk59.up huw65
 have hk69 := hk60.up huw65
 have hv70 := bup hv63 huw65 hvl13
 have hB71 := Touch.trans hB64 (Touch.of_new huw65 oO)
 refine WL.nil <| ?_
 refine WY.done kR ?_
 exact ⟨(_, cs ++ [x1], acc ++ [oX], tX, f - 1), ⟨rfl, rfl, rfl, rfl, trivial⟩, ⟨⟨hk68, hv70⟩, hB71, hk69, hkw65, ho66, hF67, by rw [← hw, hst]; simp only []; rw [if_neg (u8_ne (d := 93) aS), if_neg oO, hrr], by ((try simp only) <;> omega), had.2, by simp only [List.length_append, List.length_cons, List.length_nil]; omega⟩, by ((try simp only) <;> omega)⟩
 refine WL.cx hb43 rfl rfl ((hO r s _ ⟨hk36, hv39⟩ hne hsl)) (fun k74 w72 hrw72 hw72 => ?_) (fun a73 x75 w72 hrw72 hw72 => ?_)
 have hBew72 := Touch.trans hB40 (Touch.mono hw72 hB40.size)
 exact pn_is (EndsV.err k74 (by rw [← hw, hst]; simp only []; rw [if_neg (u8_ne (d := 93) aS), if_neg oO, hrw72]; rfl) hBew72)
 have hrr := hrw72
 obtain ⟨oX, tX⟩ := a73
 obtain ⟨x1, rfl, hpx, hrd1, hT1⟩ := hw72
 have had := hadv s oX tX hsl hrr
 have ho1 := OwnM.touch' ho34 hT1 oO
 have hsub1 := LInv.same hF35 (fun k hk hl => hT1.block k hl (by have := hk.1; omega))
 have hk11 := Blk.touch hk37 hT1 (hk37).lt oO
 have hk21 := Blk.touch hk38 hT1 (hk38).lt oO
 have hB1 := Touch.trans hB40 (Touch.mono hT1 hB40.size)
 have hpx1 := hpx.mono (T := fun k => b7 < k ∧ (Value.slice pl cs.length cl).ownBlock ≠ some k) (fun k hk _ => ⟨by have := (hk38).lt; omega, fun e => by have := ((ho34).lt k e).2; omega⟩)
 have hsub2 := hsub1.push hpx1
 have hr1 := hrd1.1
 have hv1 := hrd1.2
 refine WL.nil <| ?_
 refine WY.br2 1 rfl 5 rfl ?_ ?_
 refine WL.r (Rd.ld (isAgg29 _) rfl hk21 rfl) rfl <| WL.nil <| ?_
 refine WY.br1 5 rfl ?_
 refine WL.bslM (L := pcL) (ps := _) ([x1]) underlying29 sizeOf31 zeroValue31 rfl rfl rfl rfl rfl (by first | rfl | decide) rfl rfl (fun b76 wb76 eb76 hob76 hub76 hsb76 => ?_)
 have ho77 := OwnM.new ho1 eb76 hub76
 have hF78 := LInv.same (w1 := wb76) hsub2 (fun k hk hl => hub76.other k oO)
 have hl80 : r < b76 := by rw [eb76]; exact hr1.lt
 have hk79 := hr1.upd hub76 (Nat.ne_of_lt hl80)
 have hl82 : b1 < b76 := by rw [eb76]; exact hk11.lt
 have hk81 := hk11.upd hub76 (Nat.ne_of_lt hl82)
 have hl84 : b7 < b76 := by rw [eb76]; exact hk21.lt
 have hk83 := hk21.upd hub76 (Nat.ne_of_lt hl84)
 have hvl86 := fun h0 => eb76 ▸ hv1.lt h0
 have hv85 := bup hv1 hub76 hvl86
 have hgeb76 : w.heap.size ≤ b76 := by rw [eb76]; exact hB1.size
 have hB87 := Touch.trans hB1 (Touch.of_new hub76 hgeb76)
 have hleb76 : b76 ≤ wb76.heap.size := by omega
 refine WL.nil <| ?_
 refine WY.br1 6 rfl ?_
 refine WL.appM underlying29 inf31 rfl rfl rfl ho77 rfl (hob76).rowp (by simp only [List.length_cons, List.length_nil]; omega) ((hk83).lt) rfl (fun h => nomatch h) (fun v88 w89 how89 hbw89 hgw89 hfw89 => ?_)
 have hk90 := hk79.below hbw89 oO
 have hk91 := hk81.below hbw89 oO
 have hk92 := hk83.below hbw89 oO
 have hF93 := LInv.grow (T := fun k => b7 < k ∧ (v88).ownBlock ≠ some k) hF78 (fun k hk hl => hgw89.block k hl (fun e => hk.2 e.symm)) (fun k hk hl => ⟨hk.1, fun e => by rcases hfw89 k e with h | h; exact hk.2 h; omega⟩)
 have hv94 := BytesAt.below hv85 hbw89 hpB
 have hB95 := Touch.trans hB87 (Touch.of_below (hbw89.mono oO))
 refine WL.nil <| ?_
 refine WY.tk 7 rfl (.fa underlying31 rfl sizeOf29 dD rfl) rfl ?_
 refine WY.br1 8 rfl ?_
 refine WL.st sizeOf29 rfl rfl (how89).one hk92 oD (fun w96 hkw96 huw96 hsw96 => ?_)
 have hkw96 : Blk w96 b7 _ _ := hkw96
 have huw96 : Upd b7 _ _ := huw96
 have ho97 := OwnM.touch how89 huw96 oM
 have hF98 := LInv.same (w1 := w96) hF93 (fun k hk hl => huw96.other k (by first | ((try simp only) <;> omega) | (have := hk.1; ((try simp only) <;> omega))))
 have hk99 := hk90.up huw96
 have hk100 := hk91.up huw96
 have hv101 := bup hv94 huw96 hvl13
 have hB102 := Touch.trans hB95 (Touch.of_new huw96 oO)
 refine WL.nil <| ?_
 refine WY.done kR ?_
 exact ⟨(_, cs ++ [x1], acc ++ [oX], tX, f - 1), ⟨rfl, rfl, rfl, rfl, trivial⟩, ⟨⟨hk99, hv101⟩, hB102, hk100, hkw96, ho97, hF98, by rw [← hw, hst]; simp only []; rw [if_neg (u8_ne (d := 93) aS), if_neg oO, hrr], by ((try simp only) <;> omega), had.2, by simp only [List.length_append, List.length_cons, List.length_nil]; omega⟩, by ((try simp only) <;> omega)⟩
 refine WL.bslM (L := pcL) (ps := _) ([x1]) underlying29 sizeOf31 zeroValue31 rfl rfl rfl rfl rfl (by first | rfl | decide) rfl rfl (fun b103 wb103 eb103 hob103 hub103 hsb103 => ?_)
 have ho104 := OwnM.new ho1 eb103 hub103
 have hF105 := LInv.same (w1 := wb103) hsub2 (fun k hk hl => hub103.other k oO)
 have hl107 : r < b103 := by rw [eb103]; exact hr1.lt
 have hk106 := hr1.upd hub103 (Nat.ne_of_lt hl107)
 have hl109 : b1 < b103 := by rw [eb103]; exact hk11.lt
 have hk108 := hk11.upd hub103 (Nat.ne_of_lt hl109)
 have hl111 : b7 < b103 := by rw [eb103]; exact hk21.lt
 have hk110 := hk21.upd hub103 (Nat.ne_of_lt hl111)
 have hvl113 := fun h0 => eb103 ▸ hv1.lt h0
 have hv112 := bup hv1 hub103 hvl113
 have hgeb103 : w.heap.size ≤ b103 := by rw [eb103]; exact hB1.size
 have hB114 := Touch.trans hB1 (Touch.of_new hub103 hgeb103)
 have hleb103 : b103 ≤ wb103.heap.size := by omega
 refine WL.nil <| ?_
 refine WY.br1 1 rfl ?_
 refine WL.r (Rd.ld (isAgg29 _) rfl hk110 rfl) rfl <| WL.nil <| ?_
 refine WY.br1 6 rfl ?_
 refine WL.appM underlying29 inf31 rfl rfl rfl ho104 rfl (hob103).rowp (by simp only [List.length_cons, List.length_nil]; omega) ((hk110).lt) rfl (fun h => nomatch h) (fun v115 w116 how116 hbw116 hgw116 hfw116 => ?_)
 have hk117 := hk106.below hbw116 oO
 have hk118 := hk108.below hbw116 oO
 have hk119 := hk110.below hbw116 oO
 have hF120 := LInv.grow (T := fun k => b7 < k ∧ (v115).ownBlock ≠ some k) hF105 (fun k hk hl => hgw116.block k hl (fun e => hk.2 e.symm)) (fun k hk hl => ⟨hk.1, fun e => by rcases hfw116 k e with h | h; exact hk.2 h; omega⟩)
 have hv121 := BytesAt.below hv112 hbw116 hpB
 have hB122 := Touch.trans hB114 (Touch.of_below (hbw116.mono oO))
 refine WL.nil <| ?_
 refine WY.tk 7 rfl (.fa underlying31 rfl sizeOf29 dD rfl) rfl ?_
 refine WY.br1 8 rfl ?_
 refine WL.st sizeOf29 rfl rfl (how116).one hk119 oD (fun w123 hkw123 huw123 hsw123 => ?_)
 have hkw123 : Blk w123 b7 _ _ := hkw123
 have huw123 : Upd b7 _ _ := huw123
 have ho124 := OwnM.touch how116 huw123 oM
 have hF125 := LInv.same (w1 := w123) hF120 (fun k hk hl => huw123.other k (by first | ((try simp only) <;> omega) | (have := hk.1; ((try simp only) <;> omega))))
 have hk126 := hk117.up huw123
 have hk127 := hk118.up huw123
 have hv128 := bup hv121 huw123 hvl13
 have hB129 := Touch.trans hB122 (Touch.of_new huw123 oO)
 refine WL.nil <| ?_
 refine WY.done kR ?_
 exact ⟨(_, cs ++ [x1], acc ++ [oX], tX, f - 1), ⟨rfl, rfl, rfl, rfl, trivial⟩, ⟨⟨hk126, hv128⟩, hB129, hk127, hkw123, ho124, hF125, by rw [← hw, hst]; simp only []; rw [if_neg (u8_ne (d := 93) aS), if_neg oO, hrr], by ((try simp only) <;> omega), had.2, by simp only [List.length_append, List.length_cons, List.length_nil]; omega⟩, by ((try simp only) <;> omega)⟩
 have h30' := ndF h30
 refine W.exit <| W.sr <| WL.m rfl rfl <| WL.p (.nck rfl) rfl <| WL.p (.fa underlying63 rfl sizeOf3 dD rfl) rfl <| WL.r (Rd.ld (isAgg3 _) rfl hk25 rfl) rfl <| WL.p (.iis (((s + 1 : Nat) : Int)) (.add rfl rfl (i64w oO)) oO) rfl <| WL.p (.nck rfl) rfl <| WL.p (.fa underlying63 rfl sizeOf3 dD rfl) rfl <| WL.st sizeOf3 rfl rfl rfl hk25 oD (fun w130 hkw130 huw130 hsw130 => ?_)
 have hkw130 : Blk w130 r _ _ := hkw130
 have huw130 : Upd r _ _ := huw130
 have ho131 := OwnM.touch ho23 huw130 oM
 have hF132 := LInv.same (w1 := w130) hF24 (fun k hk hl => huw130.other k (by first | ((try simp only) <;> omega) | (have := hk.1; ((try simp only) <;> omega))))
 have hk133 := hk26.up huw130
 have hk134 := hk27.up huw130
 have hv135 := BytesAt.upd hv28 huw130 hne
 have hB136 := Touch.trans hB29 (Touch.of_upd huw130)
 refine WL.nil <| ?_
 refine W.sr <| WL.r (Rd.ldA rfl hk134 underlying31 rfl isz31) rfl <| WL.stL rfl rfl hk133 isz31 rfl rfl (fun w137 hkw137 huw137 hsw137 => ?_)
 have ho138 := OwnM.touch ho131 huw137 oM
 have hF139 := LInv.same (w1 := w137) hF132 (fun k hk hl => huw137.other k (by first | ((try simp only) <;> omega) | (have := hk.1; ((try simp only) <;> omega))))
 have hk140 := hkw130.up huw137
 have hv142 := bup hv135 huw137 hvl5
 have hB143 := Touch.trans hB136 (Touch.of_new huw137 oO)
 refine WL.nil <| ?_
 refine W.ret (W.retc1 rfl rfl (ldRow hkw137 underlying31 rfl isz31)  ?_)
 exact EndsV.ok (.mk 6 0 [] [] acc, s + 1) _ (by rw [← hw, hst]; simp only []; rw [if_pos (u8_eq (d := 93) aS)]; rfl) rfl ⟨⟨6, 0, [], none, 0, 0, pl, cs.length, cl⟩, rfl, PRep.ofRow ⟨OwnM.nil _ _ _ _, fun g h => by cases h⟩ ⟨(ho138).base (fun g hg => Nat.zero_le _), fun g hg => by have := (ho138).lt g hg; omega⟩ ((hF139).mono (fun k hk _ => by have := hk.1; omega)), ⟨hk140, hv142⟩, hB143⟩
end
section
theorem inf9 : (Tryz.prog.info? 9).map (fun i => (i.zero, i.size, i.bytes)) = some (some (.string ⟨#[]⟩), 1, 16) := by kernel_rfl
theorem lib_idxS (q : Option Addr) (s : List (List UInt8)) (c : Nat) (x : List UInt8) (w : World) (hb : RowAt strV w q s) (hl : s.length ≤ 1000000000) :
  Calls Tryz.prog 152 #[.slice q s.length c, .string (bs x)] w fun e w' => ∃ a : { a : Int // 0 ≤ a ↔ x ∈ s }, e = .returned (.int .i64 a.1) ∧ w = w' := by
 refine W.enter func152 rfl ntmps152 (Nat.le_of_ble_eq_true rfl) ?_
 refine W.sr <| WL.z rfl rfl ?_
 refine W.seq <| W.sr <| WL.m rfl rfl <| WL.p (.lenS underlying28 rfl) rfl <| WL.m rfl rfl <| WL.nil <| ?_
 refine W.block ?_
 refine W.loop (α := Nat) (fun t => [(0, .slice q s.length c), (1, .string (bs x)), (7, .int .i64 (s.length : Int)), (8, .int .i64 (t : Int))]) (fun t w' => w = w' ∧ t ≤ s.length ∧ x ∉ s.take t) (fun t => s.length - t) (0) ⟨rfl, rfl, rfl, rfl, trivial⟩ (⟨rfl, Nat.zero_le _, by simp⟩) (fun t w1 hR => ?_)
 obtain ⟨i, rfl⟩ : ∃ i, i = t := ⟨t, rfl⟩
 obtain ⟨rfl, hi, hno⟩ := hR
 refine W.sr <| WL.p (.lss rfl rfl) rfl <| WL.nil <| ?_
 refine W.seq <| W.cond rfl (fun h1 => ?_) (fun h1 => ?_)
 have h1' := dT h1
 refine W.skip <| W.seq <| W.block <| W.sr <| WL.m rfl rfl <| WL.z rfl rfl ?_
 refine W.sr <| WL.m rfl rfl <| WL.m rfl rfl <| WL.m rfl rfl <| WL.p (.ixb underlying28 sizeOf9 rfl rfl (hb.isp oO) (i) (rfl) oO) rfl <| WL.r (Rd.ldc (isAgg9 _) rfl (hb.cells (i) oO)) rfl <| WL.p (.eqs rfl rfl) rfl <| WL.nil <| ?_
 refine W.cond rfl (fun h2 => ?_) (fun h2 => ?_)
 have h2' := dT h2
 refine W.sr <| WL.m rfl rfl <| WL.z rfl rfl ?_
 refine W.ret (W.ret1 rfl rfl ?_)
 exact ⟨⟨(i : Int), fun _ => by rw [show x = s[i]'oO by assumption]; exact List.getElem_mem _, fun _ => by omega⟩, rfl, rfl⟩
 have h2' := dF h2
 refine W.skip <| W.reg <| WL.p (.iis (((i + 1 : Nat) : Int)) (.add rfl rfl (i64w oO)) oO) rfl <| WL.m rfl rfl <| WL.nil <| ?_
 exact ⟨i + 1, ⟨rfl, rfl, rfl, rfl, trivial⟩, ⟨rfl, by ((try simp only) <;> omega), by
  rw [List.take_add_one, List.getElem?_eq_getElem oO, Option.toList_some, List.mem_append, List.mem_singleton]
  exact fun h => h.elim hno aS⟩, by ((try simp only) <;> omega)⟩
 have h1' := dF h1
 refine W.exit <| W.sr <| WL.z rfl rfl ?_
 refine W.ret (W.ret1 rfl rfl ?_)
 exact ⟨⟨-1, fun h => absurd h dD, fun h => by rw [show s.take i = s from List.take_of_length_le oO] at hno; exact absurd h hno⟩, rfl, rfl⟩
theorem lib_hasS (q : Option Addr) (s : List (List UInt8)) (c : Nat) (x : List UInt8) (w : World) (hb : RowAt strV w q s) (hl : s.length ≤ 1000000000) :
  Calls Tryz.prog 109 #[.slice q s.length c, .string (bs x)] w fun e w' => e = .returned (.bool (decide (x ∈ s))) ∧ w = w' := by
 refine W.enter func109 rfl ntmps109 (Nat.le_of_ble_eq_true rfl) ?_
 refine W.sr <| WL.z rfl rfl ?_
 refine W.sr <| WL.m rfl rfl <| WL.m rfl rfl <| WL.call hb152 rfl rfl ((lib_idxS q s c x _ hb hl)) (fun a w1 hw1 => ?_)
 obtain rfl := hw1
 refine WL.p (.geq rfl rfl) rfl <| WL.z rfl rfl ?_
 refine W.ret (W.ret1 rfl rfl ?_)
 exact ⟨ret_bool (decide_eq_decide.2 a.2), rfl⟩
theorem nameP_le {l : List UInt8} {t : Nat} {k : List UInt8} {t1 : Nat} (ht : t ≤ l.length) (h : nameP l t = .ok (k, t1)) : t ≤ t1 ∧ t1 ≤ l.length := by
 have hw := wordAt_le l t ht
 unfold nameP at h
 split at h
 ·
  cases h
 ·
  split at h
  ·
   cases h
  ·
   split at h
   ·
    cases h
   ·
    cases h; exact hw
theorem pairsP_step {obj : Nat → ObjE} {l : List UInt8} {f : Nat} {ks : List (List UInt8)} {os : List PV} {t : Nat} (hf : 0 < f) : pairsP obj l f ks os t = (match l[skipAt false l t]? with
  | none => .error 24
  | some c =>
   if c = 62 ∧ l.length ≤ skipAt false l t + 1 then .error 24
   else if c = 62 ∧ l[skipAt false l t + 1]? = some 62 then .ok (ks, os, skipAt false l t + 2)
   else if c ≠ 47 then .error 23
   else match nameP l (skipAt false l t + 1) with
    | .error k => .error k
    | .ok (k, t1) =>
     if k ∈ ks then .error 23
     else if 65535 ≤ os.length then .error 25
     else match l[skipAt false l t1]? with
      | none => .error 24
      | some _ => match obj (skipAt false l t1) with
       | .error k => .error k
       | .ok (o, t') => pairsP obj l (f - 1) (ks ++ [k]) (os ++ [o]) t') := by
 cases f with
 | zero => omega
 | succ f => rfl
theorem nextB_62 {l : List UInt8} {t : Nat} (h : nextB l t 62 = true) : l[t]? = some 62 := by
 obtain ⟨h1, h2⟩ := nextB_t h
 rw [List.getElem?_eq_getElem h1, h2]
theorem nextB_not62 {l : List UInt8} {t : Nat} (h : nextB l t 62 = false) : l[t]? ≠ some 62 := fun e => by
 obtain ⟨h1, h2⟩ := List.getElem?_eq_some_iff.1 e
 exact nextB_f h h1 h2
theorem plex_pairs (p : Option Addr) (l : List UInt8) (c : Nat) (refs : Bool) (D : Int) (hO : ObjC p l c refs D) (hadv : ∀ t o t', t < l.length → objP refs l D.toNat t = .ok (o, t') → t < t' ∧ t' ≤ l.length) (r t : Nat) (w : World) (h : PRd w r p l c t refs) (hne : 0 < l.length → (pA p).block ≠ r) (hc : l.length ≤ c) (hl : l.length ≤ 100000000) (ht : t ≤ l.length) :
  Calls Tryz.prog 71 #[.pointer (some ⟨r, 0, none⟩), .int .i64 D] w (EndsV 35 (pairsO (pairsP (objP refs l D.toNat) l (l.length + 1) [] [] t)) (ObjS w r p l c refs) (fun w' => Touch w.heap.size r w w')) := by
 have hr := h.1
 have hb := h.2
 have hbl : 0 < l.length → (pA p).block < w.heap.size := fun h0 => hb.lt h0
 obtain ⟨R, hR⟩ : ∃ R, R = pairsP (objP refs l D.toNat) l (l.length + 1) [] [] t := ⟨_, rfl⟩
 rw [← hR]
 obtain ⟨t0, ht0⟩ : ∃ t0, t0 = t := ⟨t, rfl⟩
 subst ht0
 refine W.enter func71 rfl ntmps71 (Nat.le_of_ble_eq_true rfl) ?_
 have hB0 := Touch.refl (w.heap.size) r w
 refine W.seq ?_
 have hrw : r < w.heap.size := hr.lt
 refine W.reg <| WL.alloc zeroValue31 rfl (fun b1 wb1 eb1 hkb1 hub1 hsb1 => ?_)
 have hl3 : r < b1 := by rw [eb1]; exact hr.lt
 have hk2 := hr.upd hub1 (Nat.ne_of_lt hl3)
 have hvl5 := fun h0 => eb1 ▸ hb.lt h0
 have hv4 := bup hb hub1 hvl5
 have hgeb1 : w.heap.size ≤ b1 := by rw [eb1]; exact hB0.size
 have hB6 := Touch.trans hB0 (Touch.of_new hub1 hgeb1)
 refine WL.nil <| ?_
 refine W.sr <| WL.p (.buildL (ps := _) blt31 rfl rfl rfl pS) rfl ?_
 refine WL.alloc zeroValue31 rfl (fun b7 wb7 eb7 hkb7 hub7 hsb7 => ?_)
 have hl9 : r < b7 := by rw [eb7]; exact hk2.lt
 have hk8 := hk2.upd hub7 (Nat.ne_of_lt hl9)
 have hl11 : b1 < b7 := by rw [eb7]; exact hkb1.lt
 have hk10 := hkb1.upd hub7 (Nat.ne_of_lt hl11)
 have hvl13 := fun h0 => eb7 ▸ hv4.lt h0
 have hv12 := bup hv4 hub7 hvl13
 have hgeb7 : w.heap.size ≤ b7 := by rw [eb7]; exact hB6.size
 have hB14 := Touch.trans hB6 (Touch.of_new hub7 hgeb7)
 refine WL.stL rfl rfl hkb7 isz31 rfl rfl (fun w15 hkw15 huw15 hsw15 => ?_)
 have hk16 := hk8.up huw15
 have hk17 := hk10.up huw15
 have hv18 := bup hv12 huw15 hvl13
 have hB19 := Touch.trans hB14 (Touch.of_new huw15 oO)
 refine WL.nil <| ?_
 refine W.block ?_
 have hpB : 0 < l.length → (pA p).block < b7 + 1 := fun h0 => by have := hbl h0; omega
 have hrb : r < b7 := by omega
 refine W.loop (α := Value × Value × List (List UInt8) × List PC × List PV × Nat × Nat) (fun t => [(0, .pointer (some ⟨r, 0, none⟩)), (1, .int .i64 D), (4, .pointer (some ⟨b1, 0, none⟩)), (5, .pointer (some ⟨b7, 0, none⟩))]) (fun t w' => PRd w' r p l c t.2.2.2.2.2.1 refs ∧ Touch w.heap.size r w w' ∧ Blk w' b1 (pobj 0 0 []).toArray 31 ∧ Blk w' b7 #[.int .i64 7, .int .i64 0, .string ⟨#[]⟩, t.1, t.2.1, .slice none 0 0] 31 ∧ OwnM strL 9 (b7 + 1) w' t.1 t.2.2.1 ∧ OwnM pcL 31 (b7 + 1) w' t.2.1 t.2.2.2.1 ∧ (∀ g, t.1.ownBlock = some g → t.2.1.ownBlock ≠ some g) ∧ LInv w' (fun k => b7 < k ∧ t.1.ownBlock ≠ some k ∧ t.2.1.ownBlock ≠ some k) t.2.2.2.1 t.2.2.2.2.1 ∧ pairsP (objP refs l D.toNat) l t.2.2.2.2.2.2 t.2.2.1 t.2.2.2.2.1 t.2.2.2.2.2.1 = R ∧ l.length < t.2.2.2.2.2.2 + t.2.2.2.2.2.1 ∧ t.2.2.2.2.2.1 ≤ l.length ∧ t.2.2.2.2.1.length ≤ 65535 ∧ t.2.2.1.length = t.2.2.2.2.1.length) (fun t => t.2.2.2.2.2.2) ((.slice none 0 0, .slice none 0 0, [], [], [], t0, l.length + 1)) ⟨rfl, rfl, rfl, rfl, trivial⟩ (⟨⟨hk16, hv18⟩, hB19, hk17, hkw15, OwnM.nil _ _ _ _, OwnM.nil _ _ _ _, fun g h => (by cases h), LInv.nil _ _, hR.symm, by ((try simp only) <;> omega), ht, Nat.zero_le _, rfl⟩) (fun t w1 hR => ?_)
 obtain ⟨kv, v, ks, cs, acc, t, f⟩ := t
 obtain ⟨hrd, hT, hk1, hk2, hkeys, hown, hsep, hsub, hw, hft, htl, hal, hkl⟩ := hR
 simp only at hrd hk2 hkeys hown hsep hsub hw hft htl hal hkl ⊢
 have hst := pairsP_step (obj := objP refs l D.toNat) (l := l) (ks := ks) (os := acc) (t := t) (f := f) oO
 have hsge := skipAt_ge l t htl
 have hcl := hsub.len
 obtain ⟨pl, cl, rfl, -⟩ := hown.row
 obtain ⟨pk, ck, rfl, -⟩ := hkeys.row
 refine W.block <| W.seq <| W.sr <| WL.m rfl rfl <| WL.ce hb106 rfl rfl ((plex_skip r p l c t refs _ ⟨hrd.1, hrd.2⟩ hne hl htl)) (fun k22 w20 hrw20 hw20 => ?_) (fun a21 w20 hrw20 hw20 => ?_)
 have hBew20 := Touch.trans hT (Touch.mono hw20 hT.size)
 exact pn_is (EndsV.err k22 (by rw [← hw, hst, (skipE_err hrw20).1, (skipE_err hrw20).2]; rfl) hBew20)
 have ho23 := OwnM.touch' hkeys hw20.2 oO
 have ho24 := OwnM.touch' hown hw20.2 oO
 have hF25 := LInv.same (w1 := w20) hsub (fun k hk hl => hw20.2.block k hl (by first | omega | (have := hk.1; omega)))
 have hk26 := hw20.1.1
 have hk27 := Blk.touch hk1 hw20.2 hk1.lt oO
 have hk28 := Blk.touch hk2 hw20.2 hk2.lt oO
 have hv29 := hw20.1.2
 have hB30 := Touch.trans hT (Touch.mono hw20.2 hT.size)
 have hsk := skipE_ok hrw20
 rw [hsk] at hst
 obtain ⟨hsl, hsx⟩ := List.getElem?_eq_some_iff.1 hsk
 obtain ⟨x0, hx0⟩ : ∃ x0, x0 = a21 := ⟨_, rfl⟩
 rw [← hx0] at hst hsx hsk ⊢
 generalize skipAt false l t = s at *
 refine WL.z rfl rfl ?_
 refine W.block ?_
 refine W.cutBQ 11 (decide ((x0.toNat : Int) = 62 ∧ (l.length : Int) ≤ (s : Int) + 1)) ?_ (fun w31 dw31 => ?_)
 refine W.regQ mixed kR ?_
 refine WQ.p (.mv rfl) rfl <| WQ.p (.eql rfl rfl) rfl <| WQ.p (.mv rfl) rfl <| WQ.gd rfl rfl rfl (fun g32 => ?_) (fun g32 => ?_)
 have g32' := dT g32
 refine WQ.p (.mv rfl) rfl <| WQ.gy rfl rfl rfl g32 <| WQ.p (.nck rfl) rfl <| WQ.gy rfl rfl rfl g32 <| WQ.p (.fa underlying63 rfl sizeOf3 dD rfl) rfl <| WQ.gy rfl rfl rfl g32 <| WQ.r (fun m => Rd.ld (isAgg3 _) rfl hk26 rfl) rfl <| WQ.gy rfl rfl rfl g32 <| WQ.p (.iis ((s : Int) + 1) (.add rfl rfl (i64w oO)) oO) rfl <| WQ.gy rfl rfl rfl g32 <| WQ.p (.mv rfl) rfl <| WQ.gy rfl rfl rfl g32 <| WQ.p (.nck rfl) rfl <| WQ.gy rfl rfl rfl g32 <| WQ.p (.fa underlying63 rfl sizeOf22 dD rfl) rfl <| WQ.gy rfl rfl rfl g32 <| WQ.r (fun m => Rd.ld (isAgg22 _) rfl hk26 rfl) rfl <| WQ.gy rfl rfl rfl g32 <| WQ.p (.lenS underlying22 rfl) rfl <| WQ.gy rfl rfl rfl g32 <| WQ.p (.geq rfl rfl) rfl <| WQ.p (.pkT rfl g32 rfl) rfl <| WQ.p (.as rfl) rfl <| WQ.nil (fun w33 dw33 => ?_)
 exact ⟨leE (lk_b rfl (by (apply Bool.eq_iff_iff.2; (try simp) <;> omega))), dw33⟩
 have g32' := dF g32
 refine WQ.gn rfl rfl rfl g32 <| WQ.gn rfl rfl rfl g32 <| WQ.gn rfl rfl rfl g32 <| WQ.gn rfl rfl rfl g32 <| WQ.gn rfl rfl rfl g32 <| WQ.gn rfl rfl rfl g32 <| WQ.gn rfl rfl rfl g32 <| WQ.gn rfl rfl rfl g32 <| WQ.gn rfl rfl rfl g32 <| WQ.gn rfl rfl rfl g32 <| WQ.p (.pkF rfl g32 rfl) rfl <| WQ.p (.as rfl) rfl <| WQ.nil (fun w42 dw42 => ?_)
 exact ⟨leE (lk_b rfl (by (apply Bool.eq_iff_iff.2; (try simp) <;> omega))), dw42⟩
 have ho51 := OwnM.drew ho23 dw31
 have ho52 := OwnM.drew ho24 dw31
 have hF53 := LInv.same (w1 := w31) hF25 (fun k hk hl => (by obtain ⟨m, rfl⟩ := dw31; rfl))
 have hk54 := hk26.drew dw31
 have hk55 := hk27.drew dw31
 have hk56 := hk28.drew dw31
 have hv57 := hv29.drew dw31
 have hB58 := Touch.trans hB30 (Touch.of_drew dw31)
 refine W.cond rfl (fun h59 => ?_) (fun h59 => ?_)
 have h59' := dT h59
 refine W.reg <| WL.cp hb68 rfl ((plex_fail 24 _)) (fun w60 hw60 => ?_)
 obtain rfl := hw60
 exact pn_is (EndsV.err 24 (by rw [← hw, hst]; (try simp only []); rw [if_pos ⟨u8_eq (d := 62) (show (x0.toNat : Int) = 62 by omega), by omega⟩]; rfl) hB58)
 have h59' := dF h59
 have hn1 : ¬ (x0 = 62 ∧ l.length ≤ s + 1) := fun h => by (have h2 : (x0.toNat : Int) = 62 := by rw [h.1]; rfl); omega
 refine W.cutBQ 28 (decide ((x0.toNat : Int) = 62) && nextB l (s + 1) 62) ?_ (fun w61 dw61 => ?_)
 refine W.regQ mixed kR ?_
 refine WQ.p (.mv rfl) rfl <| WQ.p (.eql rfl rfl) rfl <| WQ.p (.mv rfl) rfl <| WQ.gd rfl rfl rfl (fun g62 => ?_) (fun g62 => ?_)
 have g62' := dT g62
 refine WQ.p (.mv rfl) rfl <| WQ.gy rfl rfl rfl g62 <| WQ.p (.nck rfl) rfl <| WQ.gy rfl rfl rfl g62 <| WQ.p (.fa underlying63 rfl sizeOf22 dD rfl) rfl <| WQ.gy rfl rfl rfl g62 <| WQ.r (fun m => Rd.ld (isAgg22 _) rfl hk54 rfl) rfl <| WQ.gy rfl rfl rfl g62 <| WQ.p (.mv rfl) rfl <| WQ.gy rfl rfl rfl g62 <| WQ.p (.nck rfl) rfl <| WQ.gy rfl rfl rfl g62 <| WQ.p (.fa underlying63 rfl sizeOf3 dD rfl) rfl <| WQ.gy rfl rfl rfl g62 <| WQ.r (fun m => Rd.ld (isAgg3 _) rfl hk54 rfl) rfl <| WQ.gy rfl rfl rfl g62 <| WQ.p (.iis (((s + 1 : Nat) : Int)) (.add rfl rfl (i64w oO)) oO) rfl <| WQ.gy rfl rfl rfl g62 <| WQ.p (.ixb underlying22 sizeOf5 rfl rfl (hv57.isp oO) (s + 1) oO oO) rfl <| WQ.gy rfl rfl rfl g62 <| WQ.r (fun m => Rd.ldc (isAgg5 _) rfl ((hv57.drewN m).cells (s + 1) oO)) rfl <| WQ.gy rfl rfl rfl g62 <| WQ.p (.eql rfl rfl) rfl <| WQ.p (.pkT rfl g62 rfl) rfl <| WQ.p (.as rfl) rfl <| WQ.nil (fun w63 dw63 => ?_)
 exact ⟨leE (lk_b rfl (by first | (rw [show decide ((x0.toNat : Int) = 62) = false from decide_eq_false aS]; rfl) | (rw [show decide ((x0.toNat : Int) = 62) = true from decide_eq_true aS, Bool.true_and]; unfold nextB; rw [show decide (s + 1 < l.length) = true from decide_eq_true oO, Bool.true_and, getElem!_pos l (s + 1) oO]; rfl))), dw63⟩
 have g62' := dF g62
 refine WQ.gn rfl rfl rfl g62 <| WQ.gn rfl rfl rfl g62 <| WQ.gn rfl rfl rfl g62 <| WQ.gn rfl rfl rfl g62 <| WQ.gn rfl rfl rfl g62 <| WQ.gn rfl rfl rfl g62 <| WQ.gn rfl rfl rfl g62 <| WQ.gn rfl rfl rfl g62 <| WQ.gn rfl rfl rfl g62 <| WQ.gn rfl rfl rfl g62 <| WQ.gn rfl rfl rfl g62 <| WQ.p (.pkF rfl g62 rfl) rfl <| WQ.p (.as rfl) rfl <| WQ.nil (fun w72 dw72 => ?_)
 exact ⟨leE (lk_b rfl (by first | (rw [show decide ((x0.toNat : Int) = 62) = false from decide_eq_false aS]; rfl) | (rw [show decide ((x0.toNat : Int) = 62) = true from decide_eq_true aS, Bool.true_and]; unfold nextB; rw [show decide (s + 1 < l.length) = true from decide_eq_true oO, Bool.true_and, getElem!_pos l (s + 1) oO]; rfl))), dw72⟩
 have ho81 := OwnM.drew ho51 dw61
 have ho82 := OwnM.drew ho52 dw61
 have hF83 := LInv.same (w1 := w61) hF53 (fun k hk hl => (by obtain ⟨m, rfl⟩ := dw61; rfl))
 have hk84 := hk54.drew dw61
 have hk85 := hk55.drew dw61
 have hk86 := hk56.drew dw61
 have hv87 := hv57.drew dw61
 have hB88 := Touch.trans hB58 (Touch.of_drew dw61)
 refine W.cond rfl (fun h89 => ?_) (fun h89 => ?_)
 have hx62 : (x0.toNat : Int) = 62 ∧ nextB l (s + 1) 62 = true := by simp_all
 have hs2 := (nextB_t hx62.2).1
 refine W.sr <| WL.m rfl rfl <| WL.p (.nck rfl) rfl <| WL.p (.fa underlying63 rfl sizeOf3 dD rfl) rfl <| WL.r (Rd.ld (isAgg3 _) rfl hk84 rfl) rfl <| WL.p (.iis (((s + 2 : Nat) : Int)) (.add rfl rfl (i64w oO)) oO) rfl <| WL.p (.nck rfl) rfl <| WL.p (.fa underlying63 rfl sizeOf3 dD rfl) rfl <| WL.st sizeOf3 rfl rfl rfl hk84 oD (fun w90 hkw90 huw90 hsw90 => ?_)
 have hkw90 : Blk w90 r _ _ := hkw90
 have huw90 : Upd r _ _ := huw90
 have ho91 := OwnM.touch ho81 huw90 oM
 have ho92 := OwnM.touch ho82 huw90 oM
 have hF93 := LInv.same (w1 := w90) hF83 (fun k hk hl => huw90.other k (by first | ((try simp only) <;> omega) | (have := hk.1; ((try simp only) <;> omega))))
 have hk94 := hk85.up huw90
 have hk95 := hk86.up huw90
 have hv96 := BytesAt.upd hv87 huw90 hne
 have hB97 := Touch.trans hB88 (Touch.of_upd huw90)
 refine WL.nil <| ?_
 refine W.sr <| WL.r (Rd.ldA rfl hk95 underlying31 rfl isz31) rfl <| WL.stL rfl rfl hk94 isz31 rfl rfl (fun w98 hkw98 huw98 hsw98 => ?_)
 have ho99 := OwnM.touch ho91 huw98 oM
 have ho100 := OwnM.touch ho92 huw98 oM
 have hF101 := LInv.same (w1 := w98) hF93 (fun k hk hl => huw98.other k (by first | ((try simp only) <;> omega) | (have := hk.1; ((try simp only) <;> omega))))
 have hk102 := hkw90.up huw98
 have hv104 := bup hv96 huw98 hvl5
 have hB105 := Touch.trans hB97 (Touch.of_new huw98 oO)
 refine WL.nil <| ?_
 refine W.ret (W.retc1 rfl rfl (ldRow hkw98 underlying31 rfl isz31)  ?_)
 exact EndsV.ok (.mk 7 0 [] ks acc, s + 2) _ (by rw [← hw, hst]; (try simp only []); rw [if_neg hn1, if_pos ⟨u8_eq (d := 62) hx62.1, nextB_62 hx62.2⟩]; rfl) rfl ⟨⟨7, 0, [], pk, ks.length, ck, pl, cs.length, cl⟩, rfl, PRep.ofRow ⟨(ho99).base (fun g hg => Nat.zero_le _), fun g hg => by have := (ho99).lt g hg; omega⟩ ⟨(ho100).base (fun g hg => Nat.zero_le _), fun g hg => by have := (ho100).lt g hg; omega⟩ ((hF101).mono (fun k hk _ => by have := hk.1; omega)), ⟨hk102, hv104⟩, hB105⟩
 have hn2 : ¬ (x0 = 62 ∧ l[s + 1]? = some 62) := fun h => by (have h2 : (x0.toNat : Int) = 62 := by rw [h.1]; rfl); (have h3 := nextB_not62 (l := l) (t := s + 1) (by simp_all)); exact h3 h.2
 refine W.sr <| WL.m rfl rfl <| WL.p (.neq rfl rfl) rfl <| WL.z rfl rfl ?_
 refine W.cond rfl (fun h106 => ?_) (fun h106 => ?_)
 have h106' := ndT h106
 refine W.reg <| WL.cp hb68 rfl ((plex_fail 23 _)) (fun w107 hw107 => ?_)
 obtain rfl := hw107
 exact pn_is (EndsV.err 23 (by rw [← hw, hst]; (try simp only []); rw [if_neg hn1, if_neg hn2, if_pos (u8_ne (d := 47) aS)]; rfl) hB88)
 have h106' := ndF h106
 have h47 : x0 = 47 := u8_eq (d := 47) aS
 refine W.skip <| W.sr <| WL.m rfl rfl <| WL.p (.nck rfl) rfl <| WL.p (.fa underlying63 rfl sizeOf3 dD rfl) rfl <| WL.r (Rd.ld (isAgg3 _) rfl hk84 rfl) rfl <| WL.p (.iis (((s + 1 : Nat) : Int)) (.add rfl rfl (i64w oO)) oO) rfl <| WL.p (.nck rfl) rfl <| WL.p (.fa underlying63 rfl sizeOf3 dD rfl) rfl <| WL.st sizeOf3 rfl rfl rfl hk84 oD (fun w108 hkw108 huw108 hsw108 => ?_)
 have hkw108 : Blk w108 r _ _ := hkw108
 have huw108 : Upd r _ _ := huw108
 have ho109 := OwnM.touch ho81 huw108 oM
 have ho110 := OwnM.touch ho82 huw108 oM
 have hF111 := LInv.same (w1 := w108) hF83 (fun k hk hl => huw108.other k (by first | ((try simp only) <;> omega) | (have := hk.1; ((try simp only) <;> omega))))
 have hk112 := hk85.up huw108
 have hk113 := hk86.up huw108
 have hv114 := BytesAt.upd hv87 huw108 hne
 have hB115 := Touch.trans hB88 (Touch.of_upd huw108)
 refine WL.nil <| ?_
 refine W.sr <| WL.m rfl rfl <| WL.ce hb67 rfl rfl ((plex_name r p l c (s + 1) refs _ ⟨hkw108, hv114⟩ hne hc hl oO)) (fun k118 w116 hrw116 hw116 => ?_) (fun a117 w116 hrw116 hw116 => ?_)
 have hBew116 := Touch.trans hB115 (Touch.mono hw116 hB115.size)
 exact pn_is (EndsV.err k118 (by rw [← hw, hst]; (try simp only []); rw [if_neg hn1, if_neg hn2, if_neg (by rw [h47]; simp), hrw116]; rfl) hBew116)
 have ho119 := OwnM.touch' ho109 hw116.2 oO
 have ho120 := OwnM.touch' ho110 hw116.2 oO
 have hF121 := LInv.same (w1 := w116) hF111 (fun k hk hl => hw116.2.block k hl (by first | omega | (have := hk.1; omega)))
 have hk122 := hw116.1.1
 have hk123 := Blk.touch hk112 hw116.2 hk112.lt oO
 have hk124 := Blk.touch hk113 hw116.2 hk113.lt oO
 have hv125 := hw116.1.2
 have hB126 := Touch.trans hB115 (Touch.mono hw116.2 hB115.size)
 have hnm := hrw116
 obtain ⟨kX, t1⟩ := a117
 have hle := nameP_le oO hnm
 simp only [] at *
 refine WL.z rfl rfl ?_
 refine W.seq <| W.sr <| WL.p (.fa underlying31 rfl sizeOf28 dD rfl) rfl <| WL.r (Rd.ld (isAgg28 _) rfl hk124 rfl) rfl <| WL.m rfl rfl <| WL.c1 hb109 rfl rfl ((lib_hasS pk ks ck kX _ ((ho119).rowp.strs) oO)) (fun w127 hw127 => ?_)
 obtain rfl := hw127
 refine WL.nil <| ?_
 refine W.cond rfl (fun h128 => ?_) (fun h128 => ?_)
 refine W.reg <| WL.cp hb68 rfl ((plex_fail 23 _)) (fun w129 hw129 => ?_)
 obtain rfl := hw129
 exact pn_is (EndsV.err 23 (by rw [← hw, hst]; (try simp only []); rw [if_neg hn1, if_neg hn2, if_neg (by rw [h47]; simp), hnm]; (try simp only []); rw [if_pos (dT aS)]; rfl) hB126)
 refine W.skip <| W.seq <| W.sr <| WL.p (.fa underlying31 rfl sizeOf29 dD rfl) rfl <| WL.r (Rd.ld (isAgg29 _) rfl hk124 rfl) rfl <| WL.p (.lenS underlying29 rfl) rfl <| WL.p (.geq rfl rfl) rfl <| WL.nil <| ?_
 refine W.cond rfl (fun h130 => ?_) (fun h130 => ?_)
 have h130' := dT h130
 refine W.reg <| WL.cp hb68 rfl ((plex_fail 25 _)) (fun w131 hw131 => ?_)
 obtain rfl := hw131
 exact pn_is (EndsV.err 25 (by rw [← hw, hst]; (try simp only []); rw [if_neg hn1, if_neg hn2, if_neg (by rw [h47]; simp), hnm]; (try simp only []); rw [if_neg (dF aS), if_pos oO]; rfl) hB126)
 have h130' := dF h130
 refine W.skip <| W.sr <| WL.p (.fa underlying31 rfl sizeOf28 dD rfl) rfl <| WL.r (Rd.ld (isAgg28 _) rfl hk124 rfl) rfl <| WL.m rfl rfl <| WL.bsl (ps := _) underlying28 sizeOf9 zeroValue9 rfl rfl rfl rfl rfl pR rfl (fun b132 wb132 eb132 hkb132 hub132 hsb132 => ?_)
 have ho133 := OwnM.new ho119 eb132 hub132
 have ho134 := OwnM.new ho120 eb132 hub132
 have hF135 := LInv.same (w1 := wb132) hF121 (fun k hk hl => hub132.other k oO)
 have hl137 : r < b132 := by rw [eb132]; exact hk122.lt
 have hk136 := hk122.upd hub132 (Nat.ne_of_lt hl137)
 have hl139 : b1 < b132 := by rw [eb132]; exact hk123.lt
 have hk138 := hk123.upd hub132 (Nat.ne_of_lt hl139)
 have hl141 : b7 < b132 := by rw [eb132]; exact hk124.lt
 have hk140 := hk124.upd hub132 (Nat.ne_of_lt hl141)
 have hvl143 := fun h0 => eb132 ▸ hv125.lt h0
 have hv142 := bup hv125 hub132 hvl143
 have hgeb132 : w.heap.size ≤ b132 := by rw [eb132]; exact hB126.size
 have hB144 := Touch.trans hB126 (Touch.of_new hub132 hgeb132)
 have hzz := RowM.lit (V := strL) (l := [kX]) hkb132 (rfl)
 have hlo := (ho134).lt
 refine WL.appM underlying28 inf9 rfl rfl rfl ho133 rfl hzz (by simp only [List.length_cons, List.length_nil]; omega) ((hk140).lt) rfl (fun h => nomatch h) (fun v145 w146 how146 hbw146 hgw146 hfw146 => ?_)
 have hk147 := hk136.below hbw146 oO
 have hk148 := hk138.below hbw146 oO
 have hk149 := hk140.below hbw146 oO
 have hF150 := LInv.grow (T := fun k => b7 < k ∧ (v145).ownBlock ≠ some k ∧ (Value.slice pl cs.length cl).ownBlock ≠ some k) hF135 (fun k hk hl => hgw146.block k hl (fun e => hk.2.1 e.symm)) (fun k hk hl => ⟨hk.1, fun e => by rcases hfw146 k e with h | h; exact hk.2.1 h; omega, hk.2.2⟩)
 have ho151 := OwnM.same ho134 (fun g hg => hgw146.block g ((ho134).lt g hg).2 (fun hx => hsep g hx.symm hg))
 have hv152 := BytesAt.below hv142 hbw146 hpB
 have hB153 := Touch.trans hB144 (Touch.of_below (hbw146.mono oO))
 have hsep2 : ∀ g, (v145).ownBlock = some g → (Value.slice pl cs.length cl).ownBlock ≠ some g := fun g hg => by rcases hfw146 g hg with h | h; exact hsep g h; exact fun h2 => by have := hlo g h2; omega
 obtain ⟨kv2, rfl⟩ : ∃ kv2, kv2 = v145 := ⟨v145, rfl⟩
 refine WL.p (.fa underlying31 rfl sizeOf28 dD rfl) rfl <| WL.st sizeOf28 rfl rfl (how146).one hk149 oD (fun w154 hkw154 huw154 hsw154 => ?_)
 have hkw154 : Blk w154 b7 _ _ := hkw154
 have huw154 : Upd b7 _ _ := huw154
 have ho155 := OwnM.touch how146 huw154 oM
 have ho156 := OwnM.touch ho151 huw154 oM
 have hF157 := LInv.same (w1 := w154) hF150 (fun k hk hl => huw154.other k (by first | ((try simp only) <;> omega) | (have := hk.1; ((try simp only) <;> omega))))
 have hk158 := hk147.up huw154
 have hk159 := hk148.up huw154
 have hv160 := bup hv152 huw154 hvl13
 have hB161 := Touch.trans hB153 (Touch.of_new huw154 oO)
 refine WL.nil <| ?_
 refine W.sr <| WL.m rfl rfl <| WL.ce hb106 rfl rfl ((plex_skip r p l c t1 refs _ ⟨hk158, hv160⟩ hne hl hle.2)) (fun k164 w162 hrw162 hw162 => ?_) (fun a163 w162 hrw162 hw162 => ?_)
 have hBew162 := Touch.trans hB161 (Touch.mono hw162 hB161.size)
 exact pn_is (EndsV.err k164 (by rw [← hw, hst]; (try simp only []); rw [if_neg hn1, if_neg hn2, if_neg (by rw [h47]; simp), hnm]; (try simp only []); rw [if_neg (dF aS), if_neg oO, (skipE_err hrw162).1, (skipE_err hrw162).2]; rfl) hBew162)
 have ho165 := OwnM.touch' ho155 hw162.2 oO
 have ho166 := OwnM.touch' ho156 hw162.2 oO
 have hF167 := LInv.same (w1 := w162) hF157 (fun k hk hl => hw162.2.block k hl (by first | omega | (have := hk.1; omega)))
 have hk168 := hw162.1.1
 have hk169 := Blk.touch hk159 hw162.2 hk159.lt oO
 have hk170 := Blk.touch hkw154 hw162.2 hkw154.lt oO
 have hv171 := hw162.1.2
 have hB172 := Touch.trans hB161 (Touch.mono hw162.2 hB161.size)
 have hsk2 := skipE_ok hrw162
 obtain ⟨hsl2, -⟩ := List.getElem?_eq_some_iff.1 hsk2
 have hsge2 := skipAt_ge l t1 hle.2
 refine WL.nil <| ?_
 refine W.regY 9 rfl mixed (fun w173 dw173 => ?_)
 have ho174 := OwnM.drew ho165 dw173
 have ho175 := OwnM.drew ho166 dw173
 have hF176 := LInv.same (w1 := w173) hF167 (fun k hk hl => (by obtain ⟨m, rfl⟩ := dw173; rfl))
 have hk177 := hk168.drew dw173
 have hk178 := hk169.drew dw173
 have hk179 := hk170.drew dw173
 have hv180 := hv171.drew dw173
 have hB181 := Touch.trans hB172 (Touch.of_drew dw173)
 refine WY.tk 0 rfl (.fa underlying31 rfl sizeOf29 dD rfl) rfl ?_
 refine WY.tk 2 rfl (.mv rfl) rfl ?_
 refine WY.tk 3 rfl (.mv rfl) rfl ?_
 refine WY.br2 1 rfl 4 rfl ?_ ?_
 refine WL.r (Rd.ld (isAgg29 _) rfl hk179 rfl) rfl <| WL.nil <| ?_
 refine WY.br1 4 rfl ?_
 refine WL.cx hb43 rfl rfl ((hO r _ _ ⟨hk177, hv180⟩ hne hsl2)) (fun k184 w182 hrw182 hw182 => ?_) (fun a183 x185 w182 hrw182 hw182 => ?_)
 have hBew182 := Touch.trans hB181 (Touch.mono hw182 hB181.size)
 exact pn_is (EndsV.err k184 (by rw [← hw, hst]; (try simp only []); rw [if_neg hn1, if_neg hn2, if_neg (by rw [h47]; simp), hnm]; (try simp only []); rw [if_neg (dF aS), if_neg oO, hsk2]; (try simp only []); rw [hrw182]; rfl) hBew182)
 have hrr := hrw182
 obtain ⟨oX, tX⟩ := a183
 obtain ⟨x1, rfl, hpx, hrd1, hT1⟩ := hw182
 have had := hadv _ oX tX hsl2 hrr
 have ho1 := OwnM.touch' ho175 hT1 oO
 have hq1 := OwnM.touch' ho174 hT1 oO
 have hsub1 := LInv.same (w1 := w182) hF176 (fun k hk hl => hT1.block k hl (by have := hk.1; omega))
 have hk11 := Blk.touch hk178 hT1 (hk178).lt oO
 have hk21 := Blk.touch hk179 hT1 (hk179).lt oO
 have hB1 := Touch.trans hB181 (Touch.mono hT1 hB181.size)
 have hpx1 := hpx.mono (T := fun k => b7 < k ∧ kv2.ownBlock ≠ some k ∧ (Value.slice pl cs.length cl).ownBlock ≠ some k) (fun k hk _ => ⟨by have := (hk179).lt; omega, fun e => by have := ((ho174).lt k e).2; omega, fun e => by have := ((ho175).lt k e).2; omega⟩)
 have hsub2 := hsub1.push hpx1
 have hr1 := hrd1.1
 have hv1 := hrd1.2
 refine WL.nil <| ?_
 refine WY.br1 5 rfl ?_
 refine WL.bslM (L := pcL) (ps := _) ([x1]) underlying29 sizeOf31 zeroValue31 rfl rfl rfl rfl rfl (by first | rfl | decide) rfl rfl (fun b186 wb186 eb186 hob186 hub186 hsb186 => ?_)
 have ho187 := OwnM.new hq1 eb186 hub186
 have ho188 := OwnM.new ho1 eb186 hub186
 have hF189 := LInv.same (w1 := wb186) hsub2 (fun k hk hl => hub186.other k oO)
 have hl191 : r < b186 := by rw [eb186]; exact hr1.lt
 have hk190 := hr1.upd hub186 (Nat.ne_of_lt hl191)
 have hl193 : b1 < b186 := by rw [eb186]; exact hk11.lt
 have hk192 := hk11.upd hub186 (Nat.ne_of_lt hl193)
 have hl195 : b7 < b186 := by rw [eb186]; exact hk21.lt
 have hk194 := hk21.upd hub186 (Nat.ne_of_lt hl195)
 have hvl197 := fun h0 => eb186 ▸ hv1.lt h0
 have hv196 := bup hv1 hub186 hvl197
 have hgeb186 : w.heap.size ≤ b186 := by rw [eb186]; exact hB1.size
 have hB198 := Touch.trans hB1 (Touch.of_new hub186 hgeb186)
 have hleb186 : b186 ≤ wb186.heap.size := by omega
 refine WL.nil <| ?_
 refine WY.br1 6 rfl ?_
 have hlk := (ho187).lt
 refine WL.appM underlying29 inf31 rfl rfl rfl ho188 rfl (hob186).rowp (by simp only [List.length_cons, List.length_nil]; omega) ((hk194).lt) rfl (fun h => nomatch h) (fun v199 w200 how200 hbw200 hgw200 hfw200 => ?_)
 have hk201 := hk190.below hbw200 oO
 have hk202 := hk192.below hbw200 oO
 have hk203 := hk194.below hbw200 oO
 have hF204 := LInv.grow (T := fun k => b7 < k ∧ kv2.ownBlock ≠ some k ∧ (v199).ownBlock ≠ some k) hF189 (fun k hk hl => hgw200.block k hl (fun e => hk.2.2 e.symm)) (fun k hk hl => ⟨hk.1, hk.2.1, fun e => by rcases hfw200 k e with h | h; exact hk.2.2 h; omega⟩)
 have ho205 := OwnM.same ho187 (fun g hg => hgw200.block g ((ho187).lt g hg).2 (fun hx => hsep2 g hg hx.symm))
 have hv206 := BytesAt.below hv196 hbw200 hpB
 have hB207 := Touch.trans hB198 (Touch.of_below (hbw200.mono oO))
 have hsep3 : ∀ g, kv2.ownBlock = some g → (v199).ownBlock ≠ some g := fun g hg h2 => by rcases hfw200 g h2 with h | h; exact hsep2 g hg h; have := hlk g hg; omega
 refine WL.nil <| ?_
 refine WY.tk 7 rfl (.fa underlying31 rfl sizeOf29 dD rfl) rfl ?_
 refine WY.br1 8 rfl ?_
 refine WL.st sizeOf29 rfl rfl (how200).one hk203 oD (fun w208 hkw208 huw208 hsw208 => ?_)
 have hkw208 : Blk w208 b7 _ _ := hkw208
 have huw208 : Upd b7 _ _ := huw208
 have ho209 := OwnM.touch ho205 huw208 oM
 have ho210 := OwnM.touch how200 huw208 oM
 have hF211 := LInv.same (w1 := w208) hF204 (fun k hk hl => huw208.other k (by first | ((try simp only) <;> omega) | (have := hk.1; ((try simp only) <;> omega))))
 have hk212 := hk201.up huw208
 have hk213 := hk202.up huw208
 have hv214 := bup hv206 huw208 hvl13
 have hB215 := Touch.trans hB207 (Touch.of_new huw208 oO)
 refine WL.nil <| ?_
 refine WY.done kR ?_
 exact ⟨(_, _, ks ++ [kX], cs ++ [x1], acc ++ [oX], tX, f - 1), ⟨rfl, rfl, rfl, rfl, trivial⟩, ⟨⟨hk212, hv214⟩, hB215, hk213, hkw208, ho209, ho210, hsep3, hF211, by rw [← hw, hst]; (try simp only []); rw [if_neg hn1, if_neg hn2, if_neg (by rw [h47]; simp), hnm]; (try simp only []); rw [if_neg (dF aS), if_neg oO, hsk2]; (try simp only []); rw [hrr], by ((try simp only) <;> omega), had.2, by simp only [List.length_append, List.length_cons, List.length_nil]; omega, by simp only [List.length_append, List.length_cons, List.length_nil]; omega⟩, by ((try simp only) <;> omega)⟩
 refine WL.cx hb43 rfl rfl ((hO r _ _ ⟨hk177, hv180⟩ hne hsl2)) (fun k218 w216 hrw216 hw216 => ?_) (fun a217 x219 w216 hrw216 hw216 => ?_)
 have hBew216 := Touch.trans hB181 (Touch.mono hw216 hB181.size)
 exact pn_is (EndsV.err k218 (by rw [← hw, hst]; (try simp only []); rw [if_neg hn1, if_neg hn2, if_neg (by rw [h47]; simp), hnm]; (try simp only []); rw [if_neg (dF aS), if_neg oO, hsk2]; (try simp only []); rw [hrw216]; rfl) hBew216)
 have hrr := hrw216
 obtain ⟨oX, tX⟩ := a217
 obtain ⟨x1, rfl, hpx, hrd1, hT1⟩ := hw216
 have had := hadv _ oX tX hsl2 hrr
 have ho1 := OwnM.touch' ho175 hT1 oO
 have hq1 := OwnM.touch' ho174 hT1 oO
 have hsub1 := LInv.same (w1 := w216) hF176 (fun k hk hl => hT1.block k hl (by have := hk.1; omega))
 have hk11 := Blk.touch hk178 hT1 (hk178).lt oO
 have hk21 := Blk.touch hk179 hT1 (hk179).lt oO
 have hB1 := Touch.trans hB181 (Touch.mono hT1 hB181.size)
 have hpx1 := hpx.mono (T := fun k => b7 < k ∧ kv2.ownBlock ≠ some k ∧ (Value.slice pl cs.length cl).ownBlock ≠ some k) (fun k hk _ => ⟨by have := (hk179).lt; omega, fun e => by have := ((ho174).lt k e).2; omega, fun e => by have := ((ho175).lt k e).2; omega⟩)
 have hsub2 := hsub1.push hpx1
 have hr1 := hrd1.1
 have hv1 := hrd1.2
 refine WL.nil <| ?_
 refine WY.br2 1 rfl 5 rfl ?_ ?_
 refine WL.r (Rd.ld (isAgg29 _) rfl hk21 rfl) rfl <| WL.nil <| ?_
 refine WY.br1 5 rfl ?_
 refine WL.bslM (L := pcL) (ps := _) ([x1]) underlying29 sizeOf31 zeroValue31 rfl rfl rfl rfl rfl (by first | rfl | decide) rfl rfl (fun b220 wb220 eb220 hob220 hub220 hsb220 => ?_)
 have ho221 := OwnM.new hq1 eb220 hub220
 have ho222 := OwnM.new ho1 eb220 hub220
 have hF223 := LInv.same (w1 := wb220) hsub2 (fun k hk hl => hub220.other k oO)
 have hl225 : r < b220 := by rw [eb220]; exact hr1.lt
 have hk224 := hr1.upd hub220 (Nat.ne_of_lt hl225)
 have hl227 : b1 < b220 := by rw [eb220]; exact hk11.lt
 have hk226 := hk11.upd hub220 (Nat.ne_of_lt hl227)
 have hl229 : b7 < b220 := by rw [eb220]; exact hk21.lt
 have hk228 := hk21.upd hub220 (Nat.ne_of_lt hl229)
 have hvl231 := fun h0 => eb220 ▸ hv1.lt h0
 have hv230 := bup hv1 hub220 hvl231
 have hgeb220 : w.heap.size ≤ b220 := by rw [eb220]; exact hB1.size
 have hB232 := Touch.trans hB1 (Touch.of_new hub220 hgeb220)
 have hleb220 : b220 ≤ wb220.heap.size := by omega
 refine WL.nil <| ?_
 refine WY.br1 6 rfl ?_
 have hlk := (ho221).lt
 refine WL.appM underlying29 inf31 rfl rfl rfl ho222 rfl (hob220).rowp (by simp only [List.length_cons, List.length_nil]; omega) ((hk228).lt) rfl (fun h => nomatch h) (fun v233 w234 how234 hbw234 hgw234 hfw234 => ?_)
 have hk235 := hk224.below hbw234 oO
 have hk236 := hk226.below hbw234 oO
 have hk237 := hk228.below hbw234 oO
 have hF238 := LInv.grow (T := fun k => b7 < k ∧ kv2.ownBlock ≠ some k ∧ (v233).ownBlock ≠ some k) hF223 (fun k hk hl => hgw234.block k hl (fun e => hk.2.2 e.symm)) (fun k hk hl => ⟨hk.1, hk.2.1, fun e => by rcases hfw234 k e with h | h; exact hk.2.2 h; omega⟩)
 have ho239 := OwnM.same ho221 (fun g hg => hgw234.block g ((ho221).lt g hg).2 (fun hx => hsep2 g hg hx.symm))
 have hv240 := BytesAt.below hv230 hbw234 hpB
 have hB241 := Touch.trans hB232 (Touch.of_below (hbw234.mono oO))
 have hsep3 : ∀ g, kv2.ownBlock = some g → (v233).ownBlock ≠ some g := fun g hg h2 => by rcases hfw234 g h2 with h | h; exact hsep2 g hg h; have := hlk g hg; omega
 refine WL.nil <| ?_
 refine WY.tk 7 rfl (.fa underlying31 rfl sizeOf29 dD rfl) rfl ?_
 refine WY.br1 8 rfl ?_
 refine WL.st sizeOf29 rfl rfl (how234).one hk237 oD (fun w242 hkw242 huw242 hsw242 => ?_)
 have hkw242 : Blk w242 b7 _ _ := hkw242
 have huw242 : Upd b7 _ _ := huw242
 have ho243 := OwnM.touch ho239 huw242 oM
 have ho244 := OwnM.touch how234 huw242 oM
 have hF245 := LInv.same (w1 := w242) hF238 (fun k hk hl => huw242.other k (by first | ((try simp only) <;> omega) | (have := hk.1; ((try simp only) <;> omega))))
 have hk246 := hk235.up huw242
 have hk247 := hk236.up huw242
 have hv248 := bup hv240 huw242 hvl13
 have hB249 := Touch.trans hB241 (Touch.of_new huw242 oO)
 refine WL.nil <| ?_
 refine WY.done kR ?_
 exact ⟨(_, _, ks ++ [kX], cs ++ [x1], acc ++ [oX], tX, f - 1), ⟨rfl, rfl, rfl, rfl, trivial⟩, ⟨⟨hk246, hv248⟩, hB249, hk247, hkw242, ho243, ho244, hsep3, hF245, by rw [← hw, hst]; (try simp only []); rw [if_neg hn1, if_neg hn2, if_neg (by rw [h47]; simp), hnm]; (try simp only []); rw [if_neg (dF aS), if_neg oO, hsk2]; (try simp only []); rw [hrr], by ((try simp only) <;> omega), had.2, by simp only [List.length_append, List.length_cons, List.length_nil]; omega, by simp only [List.length_append, List.length_cons, List.length_nil]; omega⟩, by ((try simp only) <;> omega)⟩
 refine WL.bslM (L := pcL) (ps := _) ([x1]) underlying29 sizeOf31 zeroValue31 rfl rfl rfl rfl rfl (by first | rfl | decide) rfl rfl (fun b250 wb250 eb250 hob250 hub250 hsb250 => ?_)
 have ho251 := OwnM.new hq1 eb250 hub250
 have ho252 := OwnM.new ho1 eb250 hub250
 have hF253 := LInv.same (w1 := wb250) hsub2 (fun k hk hl => hub250.other k oO)
 have hl255 : r < b250 := by rw [eb250]; exact hr1.lt
 have hk254 := hr1.upd hub250 (Nat.ne_of_lt hl255)
 have hl257 : b1 < b250 := by rw [eb250]; exact hk11.lt
 have hk256 := hk11.upd hub250 (Nat.ne_of_lt hl257)
 have hl259 : b7 < b250 := by rw [eb250]; exact hk21.lt
 have hk258 := hk21.upd hub250 (Nat.ne_of_lt hl259)
 have hvl261 := fun h0 => eb250 ▸ hv1.lt h0
 have hv260 := bup hv1 hub250 hvl261
 have hgeb250 : w.heap.size ≤ b250 := by rw [eb250]; exact hB1.size
 have hB262 := Touch.trans hB1 (Touch.of_new hub250 hgeb250)
 have hleb250 : b250 ≤ wb250.heap.size := by omega
 refine WL.nil <| ?_
 refine WY.br1 1 rfl ?_
 refine WL.r (Rd.ld (isAgg29 _) rfl hk258 rfl) rfl <| WL.nil <| ?_
 refine WY.br1 6 rfl ?_
 have hlk := (ho251).lt
 refine WL.appM underlying29 inf31 rfl rfl rfl ho252 rfl (hob250).rowp (by simp only [List.length_cons, List.length_nil]; omega) ((hk258).lt) rfl (fun h => nomatch h) (fun v263 w264 how264 hbw264 hgw264 hfw264 => ?_)
 have hk265 := hk254.below hbw264 oO
 have hk266 := hk256.below hbw264 oO
 have hk267 := hk258.below hbw264 oO
 have hF268 := LInv.grow (T := fun k => b7 < k ∧ kv2.ownBlock ≠ some k ∧ (v263).ownBlock ≠ some k) hF253 (fun k hk hl => hgw264.block k hl (fun e => hk.2.2 e.symm)) (fun k hk hl => ⟨hk.1, hk.2.1, fun e => by rcases hfw264 k e with h | h; exact hk.2.2 h; omega⟩)
 have ho269 := OwnM.same ho251 (fun g hg => hgw264.block g ((ho251).lt g hg).2 (fun hx => hsep2 g hg hx.symm))
 have hv270 := BytesAt.below hv260 hbw264 hpB
 have hB271 := Touch.trans hB262 (Touch.of_below (hbw264.mono oO))
 have hsep3 : ∀ g, kv2.ownBlock = some g → (v263).ownBlock ≠ some g := fun g hg h2 => by rcases hfw264 g h2 with h | h; exact hsep2 g hg h; have := hlk g hg; omega
 refine WL.nil <| ?_
 refine WY.tk 7 rfl (.fa underlying31 rfl sizeOf29 dD rfl) rfl ?_
 refine WY.br1 8 rfl ?_
 refine WL.st sizeOf29 rfl rfl (how264).one hk267 oD (fun w272 hkw272 huw272 hsw272 => ?_)
 have hkw272 : Blk w272 b7 _ _ := hkw272
 have huw272 : Upd b7 _ _ := huw272
 have ho273 := OwnM.touch ho269 huw272 oM
 have ho274 := OwnM.touch how264 huw272 oM
 have hF275 := LInv.same (w1 := w272) hF268 (fun k hk hl => huw272.other k (by first | ((try simp only) <;> omega) | (have := hk.1; ((try simp only) <;> omega))))
 have hk276 := hk265.up huw272
 have hk277 := hk266.up huw272
 have hv278 := bup hv270 huw272 hvl13
 have hB279 := Touch.trans hB271 (Touch.of_new huw272 oO)
 refine WL.nil <| ?_
 refine WY.done kR ?_
 exact ⟨(_, _, ks ++ [kX], cs ++ [x1], acc ++ [oX], tX, f - 1), ⟨rfl, rfl, rfl, rfl, trivial⟩, ⟨⟨hk276, hv278⟩, hB279, hk277, hkw272, ho273, ho274, hsep3, hF275, by rw [← hw, hst]; (try simp only []); rw [if_neg hn1, if_neg hn2, if_neg (by rw [h47]; simp), hnm]; (try simp only []); rw [if_neg (dF aS), if_neg oO, hsk2]; (try simp only []); rw [hrr], by ((try simp only) <;> omega), had.2, by simp only [List.length_append, List.length_cons, List.length_nil]; omega, by simp only [List.length_append, List.length_cons, List.length_nil]; omega⟩, by ((try simp only) <;> omega)⟩
end
section
theorem listP_adv {obj : Nat → ObjE} {l : List UInt8} (hobj : ∀ t o t', t < l.length → obj t = .ok (o, t') → t < t' ∧ t' ≤ l.length) : ∀ (f : Nat) (acc : List PV) (t : Nat) (os : List PV) (t' : Nat), t ≤ l.length → listP obj l f acc t = .ok (os, t') → t < t' ∧ t' ≤ l.length
 | 0, _, _, _, _, _, h => by cases h
 | f + 1, acc, t, os, t', ht, h => by
  have hs := skipAt_ge l t ht
  simp only [listP] at h
  cases hg : l[skipAt false l t]? with
  | none => rw [hg] at h; cases h
  | some c =>
   obtain ⟨hlt, -⟩ := List.getElem?_eq_some_iff.1 hg
   rw [hg] at h
   simp only at h
   split at h
   ·
    cases h; omega
   ·
    split at h
    ·
     cases h
    ·
     cases ho : obj (skipAt false l t) with
     | error k => rw [ho] at h; cases h
     | ok a =>
      obtain ⟨o, t1⟩ := a
      rw [ho] at h
      have h1 := hobj _ _ _ hlt ho
      have h2 := listP_adv hobj f _ _ _ _ h1.2 h
      omega
theorem pairsP_adv {obj : Nat → ObjE} {l : List UInt8} (hobj : ∀ t o t', t < l.length → obj t = .ok (o, t') → t < t' ∧ t' ≤ l.length) : ∀ (f : Nat) (ks : List (List UInt8)) (acc : List PV) (t : Nat) (ks' : List (List UInt8)) (os : List PV) (t' : Nat), t ≤ l.length → pairsP obj l f ks acc t = .ok (ks', os, t') → t < t' ∧ t' ≤ l.length
 | 0, _, _, _, _, _, _, _, h => by cases h
 | f + 1, ks, acc, t, ks', os, t', ht, h => by
  have hs := skipAt_ge l t ht
  simp only [pairsP] at h
  cases hg : l[skipAt false l t]? with
  | none => rw [hg] at h; cases h
  | some c =>
   obtain ⟨hlt, -⟩ := List.getElem?_eq_some_iff.1 hg
   rw [hg] at h
   simp only at h
   split at h
   ·
    cases h
   ·
    split at h
    ·
     next hq =>
     obtain ⟨h2, -⟩ := List.getElem?_eq_some_iff.1 hq.2
     cases h; omega
    ·
     split at h
     ·
      cases h
     ·
      cases hn : nameP l (skipAt false l t + 1) with
      | error k => rw [hn] at h; cases h
      | ok a =>
       obtain ⟨k, t1⟩ := a
       rw [hn] at h
       have hle := nameP_le oO hn
       simp only at h
       split at h
       ·
        cases h
       ·
        split at h
        ·
         cases h
        ·
         have hs1 := skipAt_ge l t1 hle.2
         cases hg1 : l[skipAt false l t1]? with
         | none => rw [hg1] at h; cases h
         | some c1 =>
          obtain ⟨hlt1, -⟩ := List.getElem?_eq_some_iff.1 hg1
          rw [hg1] at h
          simp only at h
          cases ho : obj (skipAt false l t1) with
          | error k => rw [ho] at h; cases h
          | ok a =>
           obtain ⟨o, t2⟩ := a
           rw [ho] at h
           have h1 := hobj _ _ _ hlt1 ho
           have h2 := pairsP_adv hobj f _ _ _ _ _ _ h1.2 h
           omega
theorem textR_adv {l : List UInt8} {t : Nat} {s : List UInt8} {t' : Nat} (ht : t ≤ l.length) (h : textR l t = .ok (s, t')) : t < t' ∧ t' ≤ l.length := by
 have hst := nextR_step l t ht
 unfold textR at h
 split at h
 ·
  cases h
 ·
  split at h
  ·
   cases h
  ·
   split at h
   ·
    cases h
   ·
    cases h; omega
theorem word_pos {l : List UInt8} {t : Nat} (ht : t ≤ l.length) (h : wordL l t ≠ []) : t < wordAt l t ∧ wordAt l t ≤ l.length := by
 have h1 := wordAt_le l t ht
 refine ⟨?_, h1.2⟩
 rcases Nat.lt_or_ge t (wordAt l t) with h2 | h2
 ·
  exact h2
 ·
  exact absurd (by unfold wordL; rw [show wordAt l t - t = 0 by omega, List.take_zero]) h
theorem numR_nil : (numR []).2.2 = false := by kernel_rfl
theorem refR_nil (refs : Bool) (l : List UInt8) (t : Nat) : (refR refs l [] t).isSome = false := by
 unfold refR
 have : (wholeV [] 4096).2 = false := by rfl
 rw [this]; simp
theorem refT_adv {refs : Bool} {l s : List UInt8} {t : Nat} (ht : t ≤ l.length) : t ≤ refT (refR refs l s t) t ∧ refT (refR refs l s t) t ≤ l.length := by
 have h1 := skipAt_ge l t ht
 have h2 := skipAt_le false l t
 have h3 := wordAt_le l _ h2
 have h4 := skipAt_ge l _ h3.2
 have h5 := skipAt_le false l (wordAt l (skipAt false l t))
 have h6 := wordAt_le l _ h5
 unfold refR
 split
 ·
  split
  ·
   split
   ·
    show t ≤ wordAt l _ ∧ wordAt l _ ≤ l.length
    omega
   ·
    exact ⟨Nat.le_refl _, ht⟩
  ·
   exact ⟨Nat.le_refl _, ht⟩
 ·
  exact ⟨Nat.le_refl _, ht⟩
theorem plexW_adv {refs : Bool} {l : List UInt8} {t : Nat} (ht : t < l.length) (h : (plexW refs l t).ok = true) : t < (plexW refs l t).np ∧ (plexW refs l t).np ≤ l.length := by
  by_cases hw : wordL l t = []
  · exfalso
    unfold plexW at h
    rw [hw, refR_nil, numR_nil] at h
    simp at h
  · have h1 := word_pos oO hw
    have h2 := refT_adv (refs := refs) (s := wordL l t) h1.2
    unfold plexW
    split
    · exact h1
    · split
      · exact h1
      · split
        · exact h1
        · split
          · exact ⟨by show t < refT _ _; omega, h2.2⟩
          · split
            · exact h1
            · exact h1
theorem objP_adv (refs : Bool) (l : List UInt8) : ∀ (d t : Nat) (o : PV) (t' : Nat), t < l.length → objP refs l d t = .ok (o, t') → t < t' ∧ t' ≤ l.length := by
 have hname : ∀ t (o : PV) t', t < l.length → nameO l (t + 1) = .ok (o, t') → t < t' ∧ t' ≤ l.length := fun t o t' ht h => by
  unfold nameO at h
  cases hn : nameP l (t + 1) with
  | error k => rw [hn] at h; cases h
  | ok a =>
   obtain ⟨k, t1⟩ := a
   rw [hn] at h
   have hle := nameP_le oO hn
   cases h; omega
 have htext : ∀ t (o : PV) t', t < l.length → textP l t = .ok (o, t') → t < t' ∧ t' ≤ l.length := fun t o t' ht h => by
  unfold textP at h
  cases hn : textR l t with
  | error k => rw [hn] at h; cases h
  | ok a =>
   obtain ⟨k, t1⟩ := a
   rw [hn] at h
   have hle := textR_adv oO hn
   cases h; exact hle
 have hplain : ∀ t (o : PV) t', t < l.length → plainO (plexW refs l t) = .ok (o, t') → t < t' ∧ t' ≤ l.length := fun t o t' ht h => by
  unfold plainO at h
  split at h
  ·
   next hok => have := plexW_adv ht hok; cases h; exact this
  ·
   cases h
 intro d
 induction d with
 | zero =>
  intro t o t' ht h
  simp only [objP] at h
  rw [List.getElem?_eq_getElem ht] at h
  simp only at h
  split at h
  ·
   exact hname t o t' ht h
  ·
   split at h
   ·
    cases h
   ·
    split at h
    ·
     exact htext t o t' ht h
    ·
     split at h
     ·
      split at h
      ·
       cases h
      ·
       split at h
       ·
        exact htext t o t' ht h
       ·
        cases h
     ·
      exact hplain t o t' ht h
 | succ d ih =>
  intro t o t' ht h
  simp only [objP] at h
  rw [List.getElem?_eq_getElem ht] at h
  simp only at h
  split at h
  ·
   exact hname t o t' ht h
  ·
   split at h
   ·
    unfold listO at h
    cases hn : listP (objP refs l d) l (l.length + 1) [] (t + 1) with
    | error k => rw [hn] at h; cases h
    | ok a =>
     obtain ⟨os, t1⟩ := a
     rw [hn] at h
     have := listP_adv ih _ _ _ _ _ oO hn
     cases h; omega
   ·
    split at h
    ·
     exact htext t o t' ht h
    ·
     split at h
     ·
      split at h
      ·
       cases h
      ·
       split at h
       ·
        exact htext t o t' ht h
       ·
        unfold pairsO at h
        cases hn : pairsP (objP refs l d) l (l.length + 1) [] [] (t + 2) with
        | error k => rw [hn] at h; cases h
        | ok a =>
         obtain ⟨ks, os, t1⟩ := a
         rw [hn] at h
         have := pairsP_adv ih _ _ _ _ _ _ _ oO hn
         cases h; omega
     ·
      exact hplain t o t' ht h
theorem objP_at (refs : Bool) (l : List UInt8) (d : Int) (t : Nat) (x : UInt8) (h : l[t]? = some x) : objP refs l d.toNat t =
    if x = 47 then nameO l (t + 1)
    else if x = 91 then (if d < 1 then .error 25 else listO (listP (objP refs l (d - 1).toNat) l (l.length + 1) [] (t + 1)))
    else if x = 40 then textP l t
    else if x = 60 then (if l.length ≤ t + 1 then .error 24 else if l[t + 1]? ≠ some 60 then textP l t else if d < 1 then .error 25 else pairsO (pairsP (objP refs l (d - 1).toNat) l (l.length + 1) [] [] (t + 2)))
    else plainO (plexW refs l t) := by
  by_cases hd : d < 1
  · rw [show d.toNat = 0 by omega, if_pos hd]
    simp only [objP, h]
    rw [if_pos hd]
  · rw [show d.toNat = (d - 1).toNat + 1 by omega, if_neg hd]
    simp only [objP, h]
    rw [if_neg hd]
/-- what is said of object at depth D holds -/
theorem plex_object (p : Option Addr) (l : List UInt8) (c : Nat) (refs : Bool) (hc : l.length ≤ c) (hl : l.length ≤ 100000000) (D : Int) (hD : -9223372036854775808 < D ∧ D ≤ 1000000000) (hO : 1 ≤ D → ObjC p l c refs (D - 1)) : ObjC p l c refs D := by
 intro r t w h hne ht
 have hr := h.1
 have hb := h.2
 obtain ⟨X, hX⟩ : ∃ X, X = objP refs l D.toNat t := ⟨_, rfl⟩
 rw [← hX]
 have hg : l[t]? = some l[t] := List.getElem?_eq_getElem ht
 rw [objP_at refs l D t l[t] hg] at hX
 obtain ⟨Wd, hWd⟩ : ∃ Wd, Wd = plexW refs l t := ⟨_, rfl⟩
 have hWc : ∀ w1, PRd w1 r p l c t refs → Calls Tryz.prog 48 #[.pointer (some ⟨r, 0, none⟩)] w1 fun e w' => e = .returned Wd.val ∧ PRd w' r p l c Wd.np refs ∧ Touch w1.heap.size r w1 w' := fun w1 h1 => by rw [hWd]; exact plex_word r p l c t refs w1 h1 hne hc hl oO
 rw [← hWd] at hX
 refine W.enter func43 rfl ntmps43 (Nat.le_of_ble_eq_true rfl) ?_
 have hB0 := Touch.refl (w.heap.size) r w
 refine W.sr <| WL.alloc zeroValue31 rfl (fun b1 wb1 eb1 hkb1 hub1 hsb1 => ?_)
 have hl3 : r < b1 := by rw [eb1]; exact hr.lt
 have hk2 := hr.upd hub1 (Nat.ne_of_lt hl3)
 have hvl5 := fun h0 => eb1 ▸ hb.lt h0
 have hv4 := bup hb hub1 hvl5
 have hgeb1 : w.heap.size ≤ b1 := by rw [eb1]; exact hB0.size
 have hB6 := Touch.trans hB0 (Touch.of_new hub1 hgeb1)
 refine WL.nil <| ?_
 refine W.seq <| W.seq ?_
 have hrB : r < b1 := by have := hr.lt; omega
 refine W.regQ mixed kR ?_
 refine WQ.p (.mv rfl) rfl <| WQ.p (.nck rfl) rfl <| WQ.p (.fa underlying63 rfl sizeOf22 dD rfl) rfl <| WQ.r (fun m => Rd.ld (isAgg22 _) rfl hk2 rfl) rfl <| WQ.p (.mv rfl) rfl <| WQ.p (.nck rfl) rfl <| WQ.p (.fa underlying63 rfl sizeOf3 dD rfl) rfl <| WQ.r (fun m => Rd.ld (isAgg3 _) rfl hk2 rfl) rfl <| WQ.p (.ixb underlying22 sizeOf5 rfl rfl (hv4.isp oO) (t) (rfl) (ht)) rfl <| WQ.r (fun m => Rd.iis ((l[t].toNat : Int)) (Rd.ldc (isAgg5 _) rfl ((hv4.drewN m).cells (t) oO)) oO) rfl <| WQ.p (.as rfl) rfl <| WQ.nil (fun w7 dw7 => ?_)
 have hk8 := hk2.drew dw7
 have hk9 := hkb1.drew dw7
 have hv10 := hv4.drew dw7
 have hB11 := Touch.trans hB6 (Touch.of_drew dw7)
 refine W.sr <| WL.m rfl rfl <| WL.nil <| ?_
 refine W.block <| W.sr <| WL.p (.eql rfl rfl) rfl <| WL.z rfl rfl ?_
 refine W.cond rfl (fun h12 => ?_) (fun h12 => ?_)
 have h12' := dT h12
 have h47 : l[t] = 47 := u8_eq aS
 rw [if_pos h47] at hX
 refine W.sr <| WL.m rfl rfl <| WL.p (.nck rfl) rfl <| WL.p (.fa underlying63 rfl sizeOf3 dD rfl) rfl <| WL.r (Rd.ld (isAgg3 _) rfl hk8 rfl) rfl <| WL.p (.iis (((t + 1 : Nat) : Int)) (.add rfl rfl (i64w oO)) oO) rfl <| WL.p (.nck rfl) rfl <| WL.p (.fa underlying63 rfl sizeOf3 dD rfl) rfl <| WL.st sizeOf3 rfl rfl rfl hk8 oD (fun w13 hkw13 huw13 hsw13 => ?_)
 have hkw13 : Blk w13 r _ _ := hkw13
 have huw13 : Upd r _ _ := huw13
 have hk14 := hk9.up huw13
 have hv15 := BytesAt.upd hv10 huw13 hne
 have hB16 := Touch.trans hB11 (Touch.of_upd huw13)
 refine WL.nil <| ?_
 refine W.sr <| WL.m rfl rfl <| WL.ce hb67 rfl rfl ((plex_name r p l c (t + 1) refs _ ⟨hkw13, hv15⟩ hne hc hl oO)) (fun k19 w17 hrw17 hw17 => ?_) (fun a18 w17 hrw17 hw17 => ?_)
 have hBew17 := Touch.trans hB16 (Touch.mono hw17 hB16.size)
 exact pn_is (EndsV.err k19 (by rw [hX]; unfold nameO; rw [hrw17]) hBew17)
 have hk20 := hw17.1.1
 have hk21 := Blk.touch hk14 hw17.2 hk14.lt oO
 have hv22 := hw17.1.2
 have hB23 := Touch.trans hB16 (Touch.mono hw17.2 hB16.size)
 have hra := hrw17
 obtain ⟨sN, tN⟩ := a18
 refine WL.p (.buildL (ps := _) blt31 rfl rfl rfl pS) rfl ?_
 refine WL.stL rfl rfl hk21 isz31 rfl rfl (fun w24 hkw24 huw24 hsw24 => ?_)
 have hk25 := hk20.up huw24
 have hv26 := bup hv22 huw24 hvl5
 have hB27 := Touch.trans hB23 (Touch.of_new huw24 oO)
 refine WL.nil <| ?_
 refine W.ret (W.retc1 rfl rfl (ldRow hkw24 underlying31 rfl isz31)  ?_)
 exact EndsV.ok (pv0 4 0 sN, tN) _ (by rw [hX]; unfold nameO; rw [hra]) rfl ⟨pc0 4 0 sN, rfl, PRep.zero _ _ _ _ _, ⟨hk25, hv26⟩, hB27⟩
 have h12' := dF h12
 have h47 : l[t] ≠ 47 := u8_ne (d := 47) aS
 rw [if_neg h47] at hX
 refine W.sr <| WL.p (.eql rfl rfl) rfl <| WL.z rfl rfl ?_
 refine W.cond rfl (fun h28 => ?_) (fun h28 => ?_)
 have h28' := dT h28
 have h91 : l[t] = 91 := u8_eq aS
 rw [if_pos h91] at hX
 refine W.seq <| W.sr <| WL.m rfl rfl <| WL.p (.lss rfl rfl) rfl <| WL.nil <| ?_
 refine W.cond rfl (fun h29 => ?_) (fun h29 => ?_)
 have h29' := dT h29
 refine W.reg <| WL.cp hb68 rfl ((plex_fail 25 _)) (fun w30 hw30 => ?_)
 obtain rfl := hw30
 exact pn_is (EndsV.err 25 (by rw [hX, if_pos oO]) hB11)
 have h29' := dF h29
 refine W.skip <| W.sr <| WL.m rfl rfl <| WL.p (.nck rfl) rfl <| WL.p (.fa underlying63 rfl sizeOf3 dD rfl) rfl <| WL.r (Rd.ld (isAgg3 _) rfl hk8 rfl) rfl <| WL.p (.iis (((t + 1 : Nat) : Int)) (.add rfl rfl (i64w oO)) oO) rfl <| WL.p (.nck rfl) rfl <| WL.p (.fa underlying63 rfl sizeOf3 dD rfl) rfl <| WL.st sizeOf3 rfl rfl rfl hk8 oD (fun w31 hkw31 huw31 hsw31 => ?_)
 have hkw31 : Blk w31 r _ _ := hkw31
 have huw31 : Upd r _ _ := huw31
 have hk32 := hk9.up huw31
 have hv33 := BytesAt.upd hv10 huw31 hne
 have hB34 := Touch.trans hB11 (Touch.of_upd huw31)
 refine WL.nil <| ?_
 refine W.sr <| WL.m rfl rfl <| WL.m rfl rfl <| WL.p (.sub rfl rfl (i64w oO)) rfl <| WL.cx hb69 rfl rfl ((plex_list p l c refs (D - 1) (hO oO) (objP_adv refs l _) r (t + 1) _ ⟨hkw31, hv33⟩ hne hl oO)) (fun k37 w35 hrw35 hw35 => ?_) (fun a36 x38 w35 hrw35 hw35 => ?_)
 have hBew35 := Touch.trans hB34 (Touch.mono hw35 hB34.size)
 exact pn_is (EndsV.err k37 (by rw [hX, if_neg oO, hrw35]) hBew35)
 have hrr := hrw35
 obtain ⟨oX, tX⟩ := a36
 obtain ⟨x1, rfl, hpx, hrd1, hT1⟩ := hw35
 have hpx1 := hpx.mono (T := fun k => b1 < k ∧ w.heap.size ≤ k) (fun k hk _ => by have h1 := (hk32).lt; have h2 := hB34.size; omega)
 have hk11 := Blk.touch hk32 hT1 (hk32).lt oO
 have hB1 := Touch.trans hB34 (Touch.mono hT1 hB34.size)
 have hr1 := hrd1.1
 have hv1 := hrd1.2
 refine WL.stL rfl rfl hk11 isz31 rfl rfl (fun w39 hkw39 huw39 hsw39 => ?_)
 have hF40 := PRep.same (w1 := w39) hpx1 (fun k hk hl => huw39.other k (by first | ((try simp only) <;> omega) | (have := hk.1; ((try simp only) <;> omega))))
 have hk41 := hr1.upd huw39 oM
 have hv42 := bup hv1 huw39 hvl5
 have hB43 := Touch.trans hB1 (Touch.of_new huw39 oO)
 refine WL.nil <| ?_
 refine W.ret (W.retc1 rfl rfl (ldRow hkw39 underlying31 rfl isz31)  ?_)
 exact EndsV.ok (oX, tX) _ (by rw [hX, if_neg oO, hrr]) rfl ⟨x1, rfl, (hF40).mono (fun k hk _ => hk.2), ⟨hk41, hv42⟩, hB43⟩
 have h28' := dF h28
 have h91 : l[t] ≠ 91 := u8_ne (d := 91) aS
 rw [if_neg h91] at hX
 refine W.sr <| WL.p (.eql rfl rfl) rfl <| WL.z rfl rfl ?_
 refine W.cond rfl (fun h44 => ?_) (fun h44 => ?_)
 have h44' := dT h44
 have h40 : l[t] = 40 := u8_eq aS
 rw [if_pos h40] at hX
 refine W.sr <| WL.m rfl rfl <| WL.ce hb70 rfl rfl ((plex_text r p l c t refs _ ⟨hk8, hv10⟩ hne hc hl ht)) (fun k47 w45 hrw45 hw45 => ?_) (fun a46 w45 hrw45 hw45 => ?_)
 have hBew45 := Touch.trans hB11 (Touch.mono hw45 hB11.size)
 exact pn_is (EndsV.err k47 (by rw [hX]; unfold textP; rw [hrw45]) hBew45)
 have hk48 := hw45.1.1
 have hk49 := Blk.touch hk9 hw45.2 hk9.lt oO
 have hv50 := hw45.1.2
 have hB51 := Touch.trans hB11 (Touch.mono hw45.2 hB11.size)
 have hra := hrw45
 obtain ⟨sN, tN⟩ := a46
 refine WL.stL rfl rfl hk49 isz31 rfl rfl (fun w52 hkw52 huw52 hsw52 => ?_)
 have hk53 := hk48.up huw52
 have hv54 := bup hv50 huw52 hvl5
 have hB55 := Touch.trans hB51 (Touch.of_new huw52 oO)
 refine WL.nil <| ?_
 refine W.ret (W.retc1 rfl rfl (ldRow hkw52 underlying31 rfl isz31)  ?_)
 exact EndsV.ok (pv0 5 0 sN, tN) _ (by rw [hX]; unfold textP; rw [hra]) rfl ⟨pc0 5 0 sN, rfl, PRep.zero _ _ _ _ _, ⟨hk53, hv54⟩, hB55⟩
 have h44' := dF h44
 have h40 : l[t] ≠ 40 := u8_ne (d := 40) aS
 rw [if_neg h40] at hX
 refine W.sr <| WL.p (.eql rfl rfl) rfl <| WL.z rfl rfl ?_
 refine W.cond rfl (fun h56 => ?_) (fun h56 => ?_)
 have h56' := dT h56
 have h60 : l[t] = 60 := u8_eq aS
 rw [if_pos h60] at hX
 refine W.seq <| W.seq <| W.regQ mixed kR ?_
 refine WQ.p (.mv rfl) rfl <| WQ.p (.nck rfl) rfl <| WQ.p (.fa underlying63 rfl sizeOf3 dD rfl) rfl <| WQ.r (fun m => Rd.ld (isAgg3 _) rfl hk8 rfl) rfl <| WQ.p (.iis ((t : Int) + 1) (.add rfl rfl (i64w oO)) oO) rfl <| WQ.p (.mv rfl) rfl <| WQ.p (.nck rfl) rfl <| WQ.p (.fa underlying63 rfl sizeOf22 dD rfl) rfl <| WQ.r (fun m => Rd.ld (isAgg22 _) rfl hk8 rfl) rfl <| WQ.p (.lenS underlying22 rfl) rfl <| WQ.p (.geq rfl rfl) rfl <| WQ.nil (fun w57 dw57 => ?_)
 have hk58 := hk8.drew dw57
 have hk59 := hk9.drew dw57
 have hv60 := hv10.drew dw57
 have hB61 := Touch.trans hB11 (Touch.of_drew dw57)
 refine W.cond rfl (fun h62 => ?_) (fun h62 => ?_)
 have h62' := dT h62
 refine W.reg <| WL.cp hb68 rfl ((plex_fail 24 _)) (fun w63 hw63 => ?_)
 obtain rfl := hw63
 exact pn_is (EndsV.err 24 (by rw [hX, if_pos oO]) hB61)
 have h62' := dF h62
 have hlt1 : t + 1 < l.length := by omega
 have hg1 : l[t + 1]? = some l[t + 1] := List.getElem?_eq_getElem hlt1
 refine W.skip <| W.seq <| W.seq <| W.regQ mixed kR ?_
 refine WQ.p (.mv rfl) rfl <| WQ.p (.nck rfl) rfl <| WQ.p (.fa underlying63 rfl sizeOf22 dD rfl) rfl <| WQ.r (fun m => Rd.ld (isAgg22 _) rfl hk58 rfl) rfl <| WQ.p (.mv rfl) rfl <| WQ.p (.nck rfl) rfl <| WQ.p (.fa underlying63 rfl sizeOf3 dD rfl) rfl <| WQ.r (fun m => Rd.ld (isAgg3 _) rfl hk58 rfl) rfl <| WQ.p (.iis (((t + 1 : Nat) : Int)) (.add rfl rfl (i64w oO)) oO) rfl <| WQ.p (.ixb underlying22 sizeOf5 rfl rfl (hv60.isp oO) (t + 1) oO oO) rfl <| WQ.r (fun m => Rd.ldc (isAgg5 _) rfl ((hv60.drewN m).cells (t + 1) oO)) rfl <| WQ.p (.neq rfl rfl) rfl <| WQ.nil (fun w64 dw64 => ?_)
 have hk65 := hk58.drew dw64
 have hk66 := hk59.drew dw64
 have hv67 := hv60.drew dw64
 have hB68 := Touch.trans hB61 (Touch.of_drew dw64)
 refine W.cond rfl (fun h69 => ?_) (fun h69 => ?_)
 have h69' := ndT h69
 refine W.sr <| WL.m rfl rfl <| WL.ce hb70 rfl rfl ((plex_text r p l c t refs _ ⟨hk65, hv67⟩ hne hc hl ht)) (fun k72 w70 hrw70 hw70 => ?_) (fun a71 w70 hrw70 hw70 => ?_)
 have hBew70 := Touch.trans hB68 (Touch.mono hw70 hB68.size)
 exact pn_is (EndsV.err k72 (by rw [hX, if_neg oO, if_pos (by rw [hg1]; exact fun e => u8_ne (d := 60) aS (Option.some.inj e))]; unfold textP; rw [hrw70]) hBew70)
 have hk73 := hw70.1.1
 have hk74 := Blk.touch hk66 hw70.2 hk66.lt oO
 have hv75 := hw70.1.2
 have hB76 := Touch.trans hB68 (Touch.mono hw70.2 hB68.size)
 have hra := hrw70
 obtain ⟨sN, tN⟩ := a71
 refine WL.stL rfl rfl hk74 isz31 rfl rfl (fun w77 hkw77 huw77 hsw77 => ?_)
 have hk78 := hk73.up huw77
 have hv79 := bup hv75 huw77 hvl5
 have hB80 := Touch.trans hB76 (Touch.of_new huw77 oO)
 refine WL.nil <| ?_
 refine W.ret (W.retc1 rfl rfl (ldRow hkw77 underlying31 rfl isz31)  ?_)
 exact EndsV.ok (pv0 5 0 sN, tN) _ (by rw [hX, if_neg oO, if_pos (by rw [hg1]; exact fun e => u8_ne (d := 60) aS (Option.some.inj e))]; unfold textP; rw [hra]) rfl ⟨pc0 5 0 sN, rfl, PRep.zero _ _ _ _ _, ⟨hk78, hv79⟩, hB80⟩
 have h69' := ndF h69
 refine W.skip <| W.seq <| W.sr <| WL.m rfl rfl <| WL.p (.lss rfl rfl) rfl <| WL.nil <| ?_
 refine W.cond rfl (fun h81 => ?_) (fun h81 => ?_)
 have h81' := dT h81
 refine W.reg <| WL.cp hb68 rfl ((plex_fail 25 _)) (fun w82 hw82 => ?_)
 obtain rfl := hw82
 exact pn_is (EndsV.err 25 (by rw [hX, if_neg oO, if_neg (fun e => e (by rw [hg1, show l[t + 1] = 60 from u8_eq (d := 60) aS])), if_pos oO]) hB68)
 have h81' := dF h81
 refine W.skip <| W.sr <| WL.m rfl rfl <| WL.p (.nck rfl) rfl <| WL.p (.fa underlying63 rfl sizeOf3 dD rfl) rfl <| WL.r (Rd.ld (isAgg3 _) rfl hk65 rfl) rfl <| WL.p (.iis (((t + 2 : Nat) : Int)) (.add rfl rfl (i64w oO)) oO) rfl <| WL.p (.nck rfl) rfl <| WL.p (.fa underlying63 rfl sizeOf3 dD rfl) rfl <| WL.st sizeOf3 rfl rfl rfl hk65 oD (fun w83 hkw83 huw83 hsw83 => ?_)
 have hkw83 : Blk w83 r _ _ := hkw83
 have huw83 : Upd r _ _ := huw83
 have hk84 := hk66.up huw83
 have hv85 := BytesAt.upd hv67 huw83 hne
 have hB86 := Touch.trans hB68 (Touch.of_upd huw83)
 refine WL.nil <| ?_
 refine W.sr <| WL.m rfl rfl <| WL.m rfl rfl <| WL.p (.sub rfl rfl (i64w oO)) rfl <| WL.cx hb71 rfl rfl ((plex_pairs p l c refs (D - 1) (hO oO) (objP_adv refs l _) r (t + 2) _ ⟨hkw83, hv85⟩ hne hc hl oO)) (fun k89 w87 hrw87 hw87 => ?_) (fun a88 x90 w87 hrw87 hw87 => ?_)
 have hBew87 := Touch.trans hB86 (Touch.mono hw87 hB86.size)
 exact pn_is (EndsV.err k89 (by rw [hX, if_neg oO, if_neg (fun e => e (by rw [hg1, show l[t + 1] = 60 from u8_eq (d := 60) aS])), if_neg oO, hrw87]) hBew87)
 have hrr := hrw87
 obtain ⟨oX, tX⟩ := a88
 obtain ⟨x1, rfl, hpx, hrd1, hT1⟩ := hw87
 have hpx1 := hpx.mono (T := fun k => b1 < k ∧ w.heap.size ≤ k) (fun k hk _ => by have h1 := (hk84).lt; have h2 := hB86.size; omega)
 have hk11 := Blk.touch hk84 hT1 (hk84).lt oO
 have hB1 := Touch.trans hB86 (Touch.mono hT1 hB86.size)
 have hr1 := hrd1.1
 have hv1 := hrd1.2
 refine WL.stL rfl rfl hk11 isz31 rfl rfl (fun w91 hkw91 huw91 hsw91 => ?_)
 have hF92 := PRep.same (w1 := w91) hpx1 (fun k hk hl => huw91.other k (by first | ((try simp only) <;> omega) | (have := hk.1; ((try simp only) <;> omega))))
 have hk93 := hr1.upd huw91 oM
 have hv94 := bup hv1 huw91 hvl5
 have hB95 := Touch.trans hB1 (Touch.of_new huw91 oO)
 refine WL.nil <| ?_
 refine W.ret (W.retc1 rfl rfl (ldRow hkw91 underlying31 rfl isz31)  ?_)
 exact EndsV.ok (oX, tX) _ (by rw [hX, if_neg oO, if_neg (fun e => e (by rw [hg1, show l[t + 1] = 60 from u8_eq (d := 60) aS])), if_neg oO, hrr]) rfl ⟨x1, rfl, (hF92).mono (fun k hk _ => hk.2), ⟨hk93, hv94⟩, hB95⟩
 have h56' := dF h56
 have h60 : l[t] ≠ 60 := u8_ne (d := 60) aS
 rw [if_neg h60] at hX
 refine W.skip <| W.sr <| WL.m rfl rfl <| WL.c1 hb48 rfl rfl ((hWc _ ⟨hk8, hv10⟩)) (fun w96 hw96 => ?_)
 have hk97 := hw96.1.1
 have hk98 := Blk.touch hk9 hw96.2 hk9.lt oO
 have hv99 := hw96.1.2
 have hB100 := Touch.trans hB11 (Touch.mono hw96.2 hB11.size)
 refine WL.m rfl rfl <| WL.p (.ext rfl rfl) rfl <| WL.p (.ext rfl rfl) rfl <| WL.p (.ext rfl rfl) rfl <| WL.alloc zeroValue31 rfl (fun b101 wb101 eb101 hkb101 hub101 hsb101 => ?_)
 have hl103 : r < b101 := by rw [eb101]; exact hk97.lt
 have hk102 := hk97.upd hub101 (Nat.ne_of_lt hl103)
 have hl105 : b1 < b101 := by rw [eb101]; exact hk98.lt
 have hk104 := hk98.upd hub101 (Nat.ne_of_lt hl105)
 have hvl107 := fun h0 => eb101 ▸ hv99.lt h0
 have hv106 := bup hv99 hub101 hvl107
 have hgeb101 : w.heap.size ≤ b101 := by rw [eb101]; exact hB100.size
 have hB108 := Touch.trans hB100 (Touch.of_new hub101 hgeb101)
 refine WL.stL rfl rfl hkb101 isz31 rfl rfl (fun w109 hkw109 huw109 hsw109 => ?_)
 have hk110 := hk102.up huw109
 have hk111 := hk104.up huw109
 have hv112 := bup hv106 huw109 hvl107
 have hB113 := Touch.trans hB108 (Touch.of_new huw109 oO)
 refine WL.a rfl rfl <| WL.z rfl rfl ?_
 refine W.seq <| W.sr <| WL.m rfl rfl <| WL.p (.not rfl) rfl <| WL.nil <| ?_
 refine W.cond rfl (fun h114 => ?_) (fun h114 => ?_)
 have h114' := (nT h114)
 refine W.reg <| WL.cp hb68 rfl ((plex_fail 23 _)) (fun w115 hw115 => ?_)
 obtain rfl := hw115
 exact pn_is (EndsV.err 23 (by rw [hX]; unfold plainO; rw [if_neg (bF aS)]) hB113)
 have h114' := (nF h114)
 refine W.skip <| W.sr <| WL.r (Rd.ldA rfl hkw109 underlying31 rfl isz31) rfl <| WL.stL rfl rfl hk111 isz31 rfl rfl (fun w116 hkw116 huw116 hsw116 => ?_)
 have hk117 := hk110.up huw116
 have hv119 := bup hv112 huw116 hvl5
 have hB120 := Touch.trans hB113 (Touch.of_new huw116 oO)
 refine WL.nil <| ?_
 refine W.ret (W.retc1 rfl rfl (ldRow hkw116 underlying31 rfl isz31)  ?_)
 exact EndsV.ok (pv0 Wd.kind Wd.n [], Wd.np) _ (by rw [hX]; unfold plainO; rw [if_pos aS]) rfl ⟨pc0 Wd.kind Wd.n [], rfl, PRep.zero _ _ _ _ _, ⟨hk117, hv119⟩, hB120⟩
end
section
theorem ObjC_all (p : Option Addr) (l : List UInt8) (c : Nat) (refs : Bool) (hc : l.length ≤ c) (hl : l.length ≤ 100000000) : ∀ (n : Nat) (D : Int), D.toNat ≤ n → -9223372036854775808 < D ∧ D ≤ 1000000000 → ObjC p l c refs D
 | 0, D, hn, hD => plex_object p l c refs hc hl D hD fun h => by omega
 | n + 1, D, hn, hD => plex_object p l c refs hc hl D hD fun h => ObjC_all p l c refs hc hl n (D - 1) oO oO
/-- the errors of objects -/
def Err3 (k : Int) : Prop := k = 23 ∨ k = 24 ∨ k = 25
theorem Err3.ne {k : Int} (h : Err3 k) : k ≠ 0 := by unfold Err3 at h; omega
theorem nameP_err {l : List UInt8} {t : Nat} {k : Int} (h : nameP l t = .error k) : Err3 k := by
 unfold nameP at h
 split at h
 ·
  cases h; exact .inl rfl
 ·
  split at h
  ·
   cases h; exact .inl rfl
  ·
   split at h
   ·
    cases h; exact .inr (.inr rfl)
   ·
    cases h
theorem textR_err {l : List UInt8} {t : Nat} {k : Int} (h : textR l t = .error k) : Err3 k := by
 unfold textR at h
 split at h
 ·
  cases h; exact .inr (.inl rfl)
 ·
  split at h
  ·
   cases h; exact .inr (.inr rfl)
  ·
   split at h
   ·
    cases h; exact .inl rfl
   ·
    cases h
theorem listP_err {obj : Nat → ObjE} {l : List UInt8} (hobj : ∀ t k, obj t = .error k → Err3 k) : ∀ (f : Nat) (acc : List PV) (t : Nat) (k : Int), listP obj l f acc t = .error k → Err3 k
 | 0, _, _, _, h => by cases h; exact .inr (.inl rfl)
 | f + 1, acc, t, k, h => by
  simp only [listP] at h
  split at h
  ·
   cases h; exact .inr (.inl rfl)
  ·
   split at h
   ·
    cases h
   ·
    split at h
    ·
     cases h; exact .inr (.inr rfl)
    ·
     split at h
     ·
      next ho => cases h; exact hobj _ _ ho
     ·
      exact listP_err hobj f _ _ _ h
theorem pairsP_err {obj : Nat → ObjE} {l : List UInt8} (hobj : ∀ t k, obj t = .error k → Err3 k) : ∀ (f : Nat) (ks : List (List UInt8)) (acc : List PV) (t : Nat) (k : Int), pairsP obj l f ks acc t = .error k → Err3 k
 | 0, _, _, _, _, h => by cases h; exact .inr (.inl rfl)
 | f + 1, ks, acc, t, k, h => by
  simp only [pairsP] at h
  split at h
  ·
   cases h; exact .inr (.inl rfl)
  ·
   split at h
   ·
    cases h; exact .inr (.inl rfl)
   ·
    split at h
    ·
     cases h
    ·
     split at h
     ·
      cases h; exact .inl rfl
     ·
      split at h
      ·
       next hn => cases h; exact nameP_err hn
      ·
       split at h
       ·
        cases h; exact .inl rfl
       ·
        split at h
        ·
         cases h; exact .inr (.inr rfl)
        ·
         split at h
         ·
          cases h; exact .inr (.inl rfl)
         ·
          split at h
          ·
           next ho => cases h; exact hobj _ _ ho
          ·
           exact pairsP_err hobj f _ _ _ _ h
theorem objP_err (refs : Bool) (l : List UInt8) : ∀ (d t : Nat) (k : Int), objP refs l d t = .error k → Err3 k := by
 have hname : ∀ t (k : Int), nameO l t = .error k → Err3 k := fun t k h => by
  unfold nameO at h
  split at h
  ·
   next hn => cases h; exact nameP_err hn
  ·
   cases h
 have htext : ∀ t (k : Int), textP l t = .error k → Err3 k := fun t k h => by
  unfold textP at h
  split at h
  ·
   next hn => cases h; exact textR_err hn
  ·
   cases h
 have hplain : ∀ t (k : Int), plainO (plexW refs l t) = .error k → Err3 k := fun t k h => by
  unfold plainO at h
  split at h
  ·
   cases h
  ·
   cases h; exact .inl rfl
 intro d
 induction d with
 | zero =>
  intro t k h
  simp only [objP] at h
  repeat' split at h
  all_goals first | exact hname _ _ h | exact htext _ _ h | exact hplain _ _ h | (cases h; first | exact .inl rfl | exact .inr (.inl rfl) | exact .inr (.inr rfl))
 | succ d ih =>
  have hlist : ∀ t (k : Int), listO (listP (objP refs l d) l (l.length + 1) [] t) = .error k → Err3 k := fun t k h => by
   unfold listO at h
   split at h
   ·
    next hn => cases h; exact listP_err ih _ _ _ _ hn
   ·
    cases h
  have hpairs : ∀ t (k : Int), pairsO (pairsP (objP refs l d) l (l.length + 1) [] [] t) = .error k → Err3 k := fun t k h => by
   unfold pairsO at h
   split at h
   ·
    next hn => cases h; exact pairsP_err ih _ _ _ _ _ hn
   ·
    cases h
  intro t k h
  simp only [objP] at h
  repeat' split at h
  all_goals first | exact hname _ _ h | exact htext _ _ h | exact hplain _ _ h | exact hlist _ _ h | exact hpairs _ _ h | (cases h; first | exact .inl rfl | exact .inr (.inl rfl) | exact .inr (.inr rfl))
/-- what Token answers: object, word, place, error -/
def tokP (l : List UInt8) (a : Int) : PV × List UInt8 × Int × Int :=
 if a < 0 ∨ (l.length : Int) < a then (pv0 0 0 [], [], 0, 21)
 else if h : skipAt false l a.toNat < l.length then
  (if regB l[skipAt false l a.toNat] then
   (pv0 (plexW false l (skipAt false l a.toNat)).kind (plexW false l (skipAt false l a.toNat)).n [], if (plexW false l (skipAt false l a.toNat)).ok then [] else (plexW false l (skipAt false l a.toNat)).word, (plexW false l (skipAt false l a.toNat)).np, 0)
  else match objP false l 32 (skipAt false l a.toNat) with
   | .ok (o, t') => (o, [], t', 0)
   | .error k => (pv0 0 0 [], [], 0, k))
 else (pv0 0 0 [], [], 0, 26)
/-- an answer of Token as it lies in memory, in blocks from B on -/
def TokS (B : Nat) (R : PV × List UInt8 × Int × Int) (e : Ending) (w' : World) : Prop :=
 ∃ x : PC, e = .returned (.tuple #[.agg (pcV x).toArray, .string (bs R.2.1), .int .i64 R.2.2.1, .int .i64 R.2.2.2]) ∧ PRep w' (fun k => B ≤ k) x R.1
section
variable {P : Program} {fn : Func} {f : Fr} {w : World}
theorem ResOk.cells4 {a b c d : Tmp} {ta tb tc td : TypeId} {pa pb pc pd : Addr} {x y z u : Value} (hr : fn.results = #[.cell a ta, .cell b tb, .cell c tc, .cell d td]) (ha : look f a = some (.pointer (some pa))) (hb : look f b = some (.pointer (some pb))) (hc : look f c = some (.pointer (some pc))) (hd : look f d = some (.pointer (some pd)))
  (hx : (loadVar ta pa).run P w = .ok x w) (hy : (loadVar tb pb).run P w = .ok y w) (hz : (loadVar tc pc).run P w = .ok z w) (hu : (loadVar td pd).run P w = .ok u w) : ResOk P fn f w (.tuple #[x, y, z, u]) := fun tmps hh => by
 have e1 := hh _ _ ha; have e2 := hh _ _ hb; have e3 := hh _ _ hc; have e4 := hh _ _ hd
 simp only [Array.getD_eq_getD_getElem?] at e1 e2 e3 e4
 simp [results, hr, e1, e2, e3, e4, asAddr, hx, hy, hz, hu]
end
theorem tok_quiet (b1 b2 b3 b5 : Nat) (w : World) (h : Blk w b5 #[.int .i64 0] 35) :
  CallsD Tryz.prog 47 #[.pointer (some ⟨b5, 0, none⟩), .pointer (some ⟨b1, 0, none⟩), .pointer (some ⟨b2, 0, none⟩), .pointer (some ⟨b3, 0, none⟩)] .returning w fun e u' w' => u' = .returning ∧ (∃ v, e = .returned v) ∧ w' = w := by
 refine CallsD.rec func47 rfl ntmps47 (Nat.le_of_ble_eq_true rfl) rfl ?_
 refine WL.c1 hb42 rfl rfl ((guard_nil _ _)) (fun w1 hw1 => ?_)
 obtain rfl := hw1
 refine WL.nil <| ?_
 refine W.sr <| WL.r (Rd.ld (isAgg35 _) rfl h rfl) rfl <| WL.p (.neq rfl rfl) rfl <| WL.nil <| ?_
 refine W.condF rfl rfl ?_
 refine W.skip ?_
 refine W.norm (W.ret0 rfl ?_)
 exact ⟨⟨_, rfl⟩, rfl⟩
theorem tok_caught (b1 b2 b3 b5 B : Nat) (c0 c1 c2 c3 c4 c5 : Value) (s : List UInt8) (i j k : Int) (w : World) (h1 : Blk w b1 [c0, c1, c2, c3, c4, c5].toArray 31) (h2 : Blk w b2 #[.string (bs s)] 9) (h3 : Blk w b3 #[.int .i64 i] 3) (h5 : Blk w b5 #[.int .i64 j] 35) (hB1 : B ≤ b1) (h12 : b1 < b2) (h23 : b2 < b3) (h35 : b3 < b5) (hk : k ≠ 0) :
  CallsD Tryz.prog 47 #[.pointer (some ⟨b5, 0, none⟩), .pointer (some ⟨b1, 0, none⟩), .pointer (some ⟨b2, 0, none⟩), .pointer (some ⟨b3, 0, none⟩)] (.panicking [{ v := .iface 35 (.int .i64 k), recovered := false }]) w
   fun e u' w' => u' = .panicking [{ v := .iface 35 (.int .i64 k), recovered := true }] ∧ (∃ v, e = .returned v) ∧
    Blk w' b1 (pobj 0 0 []).toArray 31 ∧ Blk w' b2 #[.string (bs [])] 9 ∧ Blk w' b3 #[.int .i64 0] 3 ∧ Blk w' b5 #[.int .i64 k] 35 ∧ Below B w w' := by
 refine CallsD.rec func47 rfl ntmps47 (Nat.le_of_ble_eq_true rfl) rfl ?_
 have hB0 := Below.refl (B) w
 refine WL.c1 hb42 rfl rfl ((guard_err b5 B _ k _ h5 oO)) (fun w1 hw1 => ?_)
 obtain ⟨hg1, hg2⟩ := hw1
 have hb1 := (h1).upd hg2 oO
 have hb2 := (h2).upd hg2 oO
 have hb3 := (h3).upd hg2 oO
 have hBg := Upd.below hB0 oO hg2
 refine WL.nil <| ?_
 refine W.sr <| WL.r (Rd.ld (isAgg35 _) rfl hg1 rfl) rfl <| WL.p (.bis (true) (.neq rfl rfl) (by simp [hk])) rfl <| WL.nil <| ?_
 refine W.condT rfl rfl ?_
 refine W.reg <| WL.p (.buildL (ps := _) blt31 rfl rfl rfl pZ) rfl ?_
 refine WL.stL rfl rfl hb1 isz31 rfl rfl (fun w2 hkw2 huw2 hsw2 => ?_)
 have hk3 := hg1.upd huw2 oM
 have hk4 := hb2.upd huw2 oM
 have hk5 := hb3.upd huw2 oM
 have hB6 := Upd.below hBg oO huw2
 refine WL.st sizeOf9 rfl rfl rfl hk4 oD (fun w7 hkw7 huw7 hsw7 => ?_)
 have hkw7 : Blk w7 b2 _ _ := hkw7
 have huw7 : Upd b2 _ _ := huw7
 have hk8 := hk3.up huw7
 have hk9 := hkw2.up huw7
 have hk10 := hk5.up huw7
 have hB11 := Upd.below hB6 oO huw7
 refine WL.st sizeOf3 rfl rfl rfl hk10 oD (fun w12 hkw12 huw12 hsw12 => ?_)
 have hkw12 : Blk w12 b3 _ _ := hkw12
 have huw12 : Upd b3 _ _ := huw12
 have hk13 := hk8.up huw12
 have hk14 := hk9.up huw12
 have hk15 := hkw7.up huw12
 have hB16 := Upd.below hB11 oO huw12
 refine WL.nil <| ?_
 refine W.norm (W.ret0 rfl ?_)
 exact ⟨⟨_, rfl⟩, hk14, hk15, hkw12, hk13, hB16⟩
end
section
theorem plex_Token (p : Option Addr) (l : List UInt8) (c : Nat) (a : Int) (w : World) (hb : BytesAt w p l) (hc : l.length ≤ c) (hl : l.length ≤ 100000000) :
    Calls Tryz.prog 23 #[.slice p l.length c, .int .i64 a] w fun e w' => TokS w.heap.size (tokP l a) e w' ∧ Below w.heap.size w w' := by
  obtain ⟨R, hR⟩ : ∃ R, R = tokP l a := ⟨_, rfl⟩
  rw [← hR]
  unfold tokP at hR
  obtain ⟨t, ht⟩ : ∃ t, t = skipAt false l (insA l a) := ⟨_, rfl⟩
  have hSk : ∀ w1, BytesAt w1 p l → Calls Tryz.prog 13 #[.slice p l.length c, .int .i64 a] w1 fun e w' => e = .returned (.int .i64 (t : Int)) ∧ w1 = w' := fun w1 h1 => by rw [ht]; exact plex_Skip p l c a w1 h1 hl
  have htl : t ≤ l.length := by rw [ht]; exact skipAt_le _ _ _
  have hta : ¬ (a < 0 ∨ (l.length : Int) < a) → skipAt false l a.toNat = t := fun h => by rw [ht]; unfold insA; rw [if_neg h]
  obtain ⟨X, hX⟩ : ∃ X, X = plexW false l t := ⟨_, rfl⟩
  have hWc : ∀ r w1, PRd w1 r p l c t false → (0 < l.length → (pA p).block ≠ r) → Calls Tryz.prog 48 #[.pointer (some ⟨r, 0, none⟩)] w1 fun e w' => e = .returned X.val ∧ PRd w' r p l c X.np false ∧ Touch w1.heap.size r w1 w' := fun r w1 h1 h2 => by rw [hX]; exact plex_word r p l c t false w1 h1 h2 hc hl oO
  refine W.enterD func23 rfl ntmps23 (Nat.le_of_ble_eq_true rfl) ?_
  have hB0 := Below.refl (w.heap.size) w
  refine WD.seq ?_
  refine W.reg <| WL.alloc zeroValue31 rfl (fun b1 wb1 eb1 hkb1 hub1 hsb1 => ?_)
  have hvl3 := fun h0 => eb1 ▸ hb.lt h0
  have hv2 := bup hb hub1 hvl3
  have hB4 := Upd.below hB0 (by rw [eb1]; exact hB0.size) hub1
  have hgeb1 : w.heap.size ≤ b1 := by rw [eb1]; exact hB0.size
  refine WL.alloc zeroValue9 rfl (fun b5 wb5 eb5 hkb5 hub5 hsb5 => ?_)
  have hl7 : b1 < b5 := by rw [eb5]; exact hkb1.lt
  have hk6 := hkb1.upd hub5 (Nat.ne_of_lt hl7)
  have hvl9 := fun h0 => eb5 ▸ hv2.lt h0
  have hv8 := bup hv2 hub5 hvl9
  have hB10 := Upd.below hB4 (by rw [eb5]; exact hB4.size) hub5
  have hgeb5 : w.heap.size ≤ b5 := by rw [eb5]; exact hB4.size
  refine WL.alloc zeroValue3 rfl (fun b11 wb11 eb11 hkb11 hub11 hsb11 => ?_)
  have hl13 : b1 < b11 := by rw [eb11]; exact hk6.lt
  have hk12 := hk6.upd hub11 (Nat.ne_of_lt hl13)
  have hl15 : b5 < b11 := by rw [eb11]; exact hkb5.lt
  have hk14 := hkb5.upd hub11 (Nat.ne_of_lt hl15)
  have hvl17 := fun h0 => eb11 ▸ hv8.lt h0
  have hv16 := bup hv8 hub11 hvl17
  have hB18 := Upd.below hB10 (by rw [eb11]; exact hB10.size) hub11
  have hgeb11 : w.heap.size ≤ b11 := by rw [eb11]; exact hB10.size
  refine WL.alloc zeroValue35 rfl (fun b19 wb19 eb19 hkb19 hub19 hsb19 => ?_)
  have hl21 : b1 < b19 := by rw [eb19]; exact hk12.lt
  have hk20 := hk12.upd hub19 (Nat.ne_of_lt hl21)
  have hl23 : b5 < b19 := by rw [eb19]; exact hk14.lt
  have hk22 := hk14.upd hub19 (Nat.ne_of_lt hl23)
  have hl25 : b11 < b19 := by rw [eb19]; exact hkb11.lt
  have hk24 := hkb11.upd hub19 (Nat.ne_of_lt hl25)
  have hvl27 := fun h0 => eb19 ▸ hv16.lt h0
  have hv26 := bup hv16 hub19 hvl27
  have hB28 := Upd.below hB18 (by rw [eb19]; exact hB18.size) hub19
  have hgeb19 : w.heap.size ≤ b19 := by rw [eb19]; exact hB18.size
  refine WL.nil <| ?_
  refine WD.seq ?_
  refine W.cutB 17 (decide (a < 0 ∨ (l.length : Int) < a)) ?_ ?_
  refine W.reg <| WL.m rfl rfl <| WL.p (.lss rfl rfl) rfl <| WL.m rfl rfl <| WL.gd rfl rfl rfl (fun g29 => ?_) (fun g29 => ?_)
  · have g29' := dF g29
    refine WL.m rfl rfl <| WL.gy rfl rfl rfl g29 <| WL.m rfl rfl <| WL.gy rfl rfl rfl g29 <| WL.p (.lenS underlying22 rfl) rfl <| WL.gy rfl rfl rfl g29 <| WL.p (.gtr rfl rfl) rfl <| WL.p (.pkF rfl g29 rfl) rfl <| WL.nil <| ?_
    exact ⟨leF rfl, rfl⟩
  have g29' := dT g29
  refine WL.gn rfl rfl rfl g29 <| WL.gn rfl rfl rfl g29 <| WL.gn rfl rfl rfl g29 <| WL.p (.pkT rfl g29 rfl) rfl <| WL.nil <| ?_
  exact ⟨leF rfl, rfl⟩
  refine W.cond rfl (fun h30 => ?_) (fun h30 => ?_)
  · have h30' := dT h30
    rw [if_pos aS] at hR
    subst hR
    refine W.sr <| WL.p (.buildL (ps := _) blt31 rfl rfl rfl pZ) rfl ?_
    refine WL.stL rfl rfl hk20 isz31 rfl rfl (fun w31 hkw31 huw31 hsw31 => ?_)
    have hk32 := hk22.up huw31
    have hk33 := hk24.up huw31
    have hk34 := hkb19.up huw31
    have hB36 := Upd.below hB28 oO huw31
    refine WL.st sizeOf9 rfl rfl rfl hk32 oD (fun w37 hkw37 huw37 hsw37 => ?_)
    have hkw37 : Blk w37 b5 _ _ := hkw37
    have huw37 : Upd b5 _ _ := huw37
    have hk38 := hkw31.up huw37
    have hk39 := hk33.up huw37
    have hk40 := hk34.up huw37
    have hB42 := Upd.below hB36 oO huw37
    refine WL.st sizeOf3 rfl rfl rfl hk39 oD (fun w43 hkw43 huw43 hsw43 => ?_)
    have hkw43 : Blk w43 b11 _ _ := hkw43
    have huw43 : Upd b11 _ _ := huw43
    have hk44 := hk38.up huw43
    have hk45 := hkw37.up huw43
    have hk46 := hk40.up huw43
    have hB48 := Upd.below hB42 oO huw43
    refine WL.st sizeOf35 rfl rfl rfl hk46 oD (fun w49 hkw49 huw49 hsw49 => ?_)
    have hkw49 : Blk w49 b19 _ _ := hkw49
    have huw49 : Upd b19 _ _ := huw49
    have hk50 := hk44.up huw49
    have hk51 := hk45.up huw49
    have hk52 := hkw43.up huw49
    have hB54 := Upd.below hB48 oO huw49
    refine WL.nil <| ?_
    refine W.ret ?_
    exact PostD.ret0 (ResOk.cells4 rfl rfl rfl rfl rfl (ldRow hk50 underlying31 rfl isz31) (ldCell hk51 (isAgg9 _) rfl) (ldCell hk52 (isAgg3 _) rfl) (ldCell hkw49 (isAgg35 _) rfl)) ⟨⟨pc0 0 0 [], ret_val rfl, PRep.zero _ _ _ _ _⟩, hB54⟩
  have h30' := dF h30
  rw [if_neg aS, hta aS] at hR
  refine W.skip ?_
  refine WD.seq ?_
  refine W.reg <| WL.m rfl rfl <| WL.m rfl rfl <| WL.c1 hb13 rfl rfl ((hSk _ hv26)) (fun w55 hw55 => ?_)
  obtain rfl := hw55
  refine WL.z rfl rfl ?_
  refine WD.seq ?_
  refine W.sr <| WL.m rfl rfl <| WL.m rfl rfl <| WL.p (.lenS underlying22 rfl) rfl <| WL.p (.eql rfl rfl) rfl <| WL.nil <| ?_
  refine W.cond rfl (fun h56 => ?_) (fun h56 => ?_)
  · have h56' := dT h56
    rw [dif_neg oO] at hR
    subst hR
    refine W.sr <| WL.p (.buildL (ps := _) blt31 rfl rfl rfl pZ) rfl ?_
    refine WL.stL rfl rfl hk20 isz31 rfl rfl (fun w57 hkw57 huw57 hsw57 => ?_)
    have hk58 := hk22.up huw57
    have hk59 := hk24.up huw57
    have hk60 := hkb19.up huw57
    have hB62 := Upd.below hB28 oO huw57
    refine WL.st sizeOf9 rfl rfl rfl hk58 oD (fun w63 hkw63 huw63 hsw63 => ?_)
    have hkw63 : Blk w63 b5 _ _ := hkw63
    have huw63 : Upd b5 _ _ := huw63
    have hk64 := hkw57.up huw63
    have hk65 := hk59.up huw63
    have hk66 := hk60.up huw63
    have hB68 := Upd.below hB62 oO huw63
    refine WL.st sizeOf3 rfl rfl rfl hk65 oD (fun w69 hkw69 huw69 hsw69 => ?_)
    have hkw69 : Blk w69 b11 _ _ := hkw69
    have huw69 : Upd b11 _ _ := huw69
    have hk70 := hk64.up huw69
    have hk71 := hkw63.up huw69
    have hk72 := hk66.up huw69
    have hB74 := Upd.below hB68 oO huw69
    refine WL.st sizeOf35 rfl rfl rfl hk72 oD (fun w75 hkw75 huw75 hsw75 => ?_)
    have hkw75 : Blk w75 b19 _ _ := hkw75
    have huw75 : Upd b19 _ _ := huw75
    have hk76 := hk70.up huw75
    have hk77 := hk71.up huw75
    have hk78 := hkw69.up huw75
    have hB80 := Upd.below hB74 oO huw75
    refine WL.nil <| ?_
    refine W.ret ?_
    exact PostD.ret0 (ResOk.cells4 rfl rfl rfl rfl rfl (ldRow hk76 underlying31 rfl isz31) (ldCell hk77 (isAgg9 _) rfl) (ldCell hk78 (isAgg3 _) rfl) (ldCell hkw75 (isAgg35 _) rfl)) ⟨⟨pc0 0 0 [], ret_val rfl, PRep.zero _ _ _ _ _⟩, hB80⟩
  have h56' := dF h56
  have htlt : t < l.length := by omega
  rw [dif_pos htlt] at hR
  refine W.skip ?_
  refine WD.defer rfl rfl ?_
  refine WD.of ?_
  refine W.sr <| WL.m rfl rfl <| WL.m rfl rfl <| ?_
  refine WL.p (.buildL (ps := _) blt63 rfl rfl rfl pS) rfl ?_
  refine WL.box rfl rfl (fun b81 wb81 eb81 hkb81 hub81 hsb81 => ?_)
  have hl83 : b1 < b81 := by rw [eb81]; exact hk20.lt
  have hk82 := hk20.upd hub81 (Nat.ne_of_lt hl83)
  have hl85 : b5 < b81 := by rw [eb81]; exact hk22.lt
  have hk84 := hk22.upd hub81 (Nat.ne_of_lt hl85)
  have hl87 : b11 < b81 := by rw [eb81]; exact hk24.lt
  have hk86 := hk24.upd hub81 (Nat.ne_of_lt hl87)
  have hl89 : b19 < b81 := by rw [eb81]; exact hkb19.lt
  have hk88 := hkb19.upd hub81 (Nat.ne_of_lt hl89)
  have hvl91 := fun h0 => eb81 ▸ hv26.lt h0
  have hv90 := bup hv26 hub81 hvl91
  have hB92 := Upd.below hB28 (by rw [eb81]; exact hB28.size) hub81
  have hgeb81 : w.heap.size ≤ b81 := by rw [eb81]; exact hB28.size
  refine WL.z rfl rfl ?_
  refine W.seq <| W.sr <| WL.m rfl rfl <| WL.m rfl rfl <| WL.p (.ixb underlying22 sizeOf5 rfl rfl (hv90.isp oO) (t) (rfl) (htlt)) rfl <| WL.r (Rd.ldc (isAgg5 _) rfl (hv90.cells (t) oO)) rfl <| WL.c1 hb32 rfl rfl ((plex_regular _ _)) (fun w93 hw93 => ?_)
  obtain rfl := hw93
  refine WL.p (.not rfl) rfl <| WL.nil <| ?_
  refine W.cond rfl (fun h94 => ?_) (fun h94 => ?_)
  · have h94' := (nT h94)
    refine W.sr <| WL.m rfl rfl <| WL.cx hb43 rfl rfl ((ObjC_all p l c false hc hl 32 32 dD dD b81 t _ ⟨hkb81, hv90⟩ (fun h0 => by have := hb.lt h0; omega) htlt)) (fun k97 w95 hrw95 hw95 => ?_) (fun a96 x98 w95 hrw95 hw95 => ?_)
    have hBew95 := Below.trans hB92 (Touch.below hw95 hB92.size oO)
    exact PostD.caught hb47 (fun w' => _) (tok_caught b1 b5 b11 b19 w.heap.size _ _ _ _ _ _ [] _ _ k97 _ (Blk.touch hk82 hw95 (hk82).lt oO) (Blk.touch hk84 hw95 (hk84).lt oO) (Blk.touch hk86 hw95 (hk86).lt oO) (Blk.touch hk88 hw95 (hk88).lt oO) oO oO oO oO (objP_err false l _ _ _ hrw95).ne)
      (fun w' hS => ⟨_, ResOk.cells4 rfl rfl rfl rfl rfl (ldRow hS.1 underlying31 rfl isz31) (ldCell hS.2.1 (isAgg9 _) rfl) (ldCell hS.2.2.1 (isAgg3 _) rfl) (ldCell hS.2.2.2.1 (isAgg35 _) rfl), ⟨pc0 0 0 [], ret_val (by rw [hR, if_neg (bF (nT aS)), show objP false l 32 t = _ from hrw95]; rfl), by rw [hR, if_neg (bF (nT aS)), show objP false l 32 t = _ from hrw95]; exact PRep.zero _ _ _ _ _⟩, hBew95.trans hS.2.2.2.2⟩)
    have hrr := hrw95
    obtain ⟨oX, tX⟩ := a96
    obtain ⟨x1, rfl, hpx, hrd1, hT1⟩ := hw95
    have hpx1 := hpx.mono (T := fun k => b81 < k ∧ w.heap.size ≤ k) (fun k hk _ => by have h1 := (hkb81).lt; have h2 := hB92.size; omega)
    have hk41 := Blk.touch hk82 hT1 (hk82).lt oO
    have hk51 := Blk.touch hk84 hT1 (hk84).lt oO
    have hk61 := Blk.touch hk86 hT1 (hk86).lt oO
    have hk71 := Blk.touch hk88 hT1 (hk88).lt oO
    have hB1 := Below.trans hB92 (Touch.below hT1 hB92.size oO)
    have hr1 := hrd1.1
    rw [if_neg (bF (nT aS)), show objP false l 32 t = _ from hrr] at hR
    subst hR
    refine WL.stL rfl rfl hk41 isz31 rfl rfl (fun w99 hkw99 huw99 hsw99 => ?_)
    have hF100 := PRep.same (w1 := w99) hpx1 (fun k hk hl => huw99.other k (by first | ((try simp only) <;> omega) | (have := hk.1; ((try simp only) <;> omega))))
    have hk101 := hk51.up huw99
    have hk102 := hk61.up huw99
    have hk103 := hk71.up huw99
    have hk104 := hr1.upd huw99 oM
    have hB106 := Upd.below hB1 oO huw99
    refine WL.nil <| ?_
    refine W.seq ?_
    refine W.noPn ?_
    refine W.regY 9 rfl mixed (fun w107 dw107 => ?_)
    have hF108 := PRep.same (w1 := w107) hF100 (fun k hk hl => (by obtain ⟨m, rfl⟩ := dw107; rfl))
    have hk109 := hkw99.drew dw107
    have hk110 := hk101.drew dw107
    have hk111 := hk102.drew dw107
    have hk112 := hk103.drew dw107
    have hk113 := hk104.drew dw107
    have hB115 := Drew.below hB106 dw107
    refine WY.tk 1 rfl (.mv rfl) rfl ?_
    refine WY.tk 2 rfl (.nck rfl) rfl ?_
    refine WY.tk 3 rfl (.fa underlying63 rfl sizeOf3 dD rfl) rfl ?_
    refine WY.br2 0 rfl 4 rfl ?_ ?_
    refine WL.r (Rd.ldA rfl hk109 underlying31 rfl isz31) rfl <| WL.nil <| ?_
    refine WY.br2 4 rfl 5 rfl ?_ ?_
    refine WL.r (Rd.ld (isAgg3 _) rfl hk113 rfl) rfl <| WL.nil <| ?_
    refine WY.br1 5 rfl ?_
    refine WL.stL rfl rfl hk109 isz31 rfl rfl (fun w116 hkw116 huw116 hsw116 => ?_)
    have hF117 := PRep.same (w1 := w116) hF108 (fun k hk hl => huw116.other k (by first | ((try simp only) <;> omega) | (have := hk.1; ((try simp only) <;> omega))))
    have hk118 := hk110.up huw116
    have hk119 := hk111.up huw116
    have hk120 := hk112.up huw116
    have hB123 := Upd.below hB115 oO huw116
    refine WL.nil <| ?_
    refine WY.br1 6 rfl ?_
    refine WL.st sizeOf9 rfl rfl rfl hk118 oD (fun w124 hkw124 huw124 hsw124 => ?_)
    have hkw124 : Blk w124 b5 _ _ := hkw124
    have huw124 : Upd b5 _ _ := huw124
    have hF125 := PRep.same (w1 := w124) hF117 (fun k hk hl => huw124.other k (by first | ((try simp only) <;> omega) | (have := hk.1; ((try simp only) <;> omega))))
    have hk126 := hkw116.up huw124
    have hk127 := hk119.up huw124
    have hk128 := hk120.up huw124
    have hB131 := Upd.below hB123 oO huw124
    refine WL.nil <| ?_
    refine WY.br1 7 rfl ?_
    refine WL.st sizeOf3 rfl rfl rfl hk127 oD (fun w132 hkw132 huw132 hsw132 => ?_)
    have hkw132 : Blk w132 b11 _ _ := hkw132
    have huw132 : Upd b11 _ _ := huw132
    have hF133 := PRep.same (w1 := w132) hF125 (fun k hk hl => huw132.other k (by first | ((try simp only) <;> omega) | (have := hk.1; ((try simp only) <;> omega))))
    have hk134 := hk126.up huw132
    have hk135 := hkw124.up huw132
    have hk136 := hk128.up huw132
    have hB139 := Upd.below hB131 oO huw132
    refine WL.nil <| ?_
    refine WY.br1 8 rfl ?_
    refine WL.st sizeOf35 rfl rfl rfl hk136 oD (fun w140 hkw140 huw140 hsw140 => ?_)
    have hkw140 : Blk w140 b19 _ _ := hkw140
    have huw140 : Upd b19 _ _ := huw140
    have hF141 := PRep.same (w1 := w140) hF133 (fun k hk hl => huw140.other k (by first | ((try simp only) <;> omega) | (have := hk.1; ((try simp only) <;> omega))))
    have hk142 := hk134.up huw140
    have hk143 := hk135.up huw140
    have hk144 := hkw132.up huw140
    have hB147 := Upd.below hB139 oO huw140
    refine WL.nil <| ?_
    refine WY.done kR ?_
    refine W.ret ?_
    exact PostD.ret hb47 (fun w' => _) (tok_quiet b1 b5 b11 b19 _ hkw140) (fun w' hS => by subst hS; exact ⟨_, ResOk.cells4 rfl rfl rfl rfl rfl (ldRow hk142 underlying31 rfl isz31) (ldCell hk143 (isAgg9 _) rfl) (ldCell hk144 (isAgg3 _) rfl) (ldCell hkw140 (isAgg35 _) rfl), ⟨x1, ret_val rfl, (hF141).mono (fun k hk _ => hk.2)⟩, hB147⟩)
    refine WL.stL rfl rfl hk109 isz31 rfl rfl (fun w148 hkw148 huw148 hsw148 => ?_)
    have hF149 := PRep.same (w1 := w148) hF108 (fun k hk hl => huw148.other k (by first | ((try simp only) <;> omega) | (have := hk.1; ((try simp only) <;> omega))))
    have hk150 := hk110.up huw148
    have hk151 := hk111.up huw148
    have hk152 := hk112.up huw148
    have hk153 := hk113.up huw148
    have hB155 := Upd.below hB115 oO huw148
    refine WL.nil <| ?_
    refine WY.br2 4 rfl 6 rfl ?_ ?_
    refine WL.r (Rd.ld (isAgg3 _) rfl hk153 rfl) rfl <| WL.nil <| ?_
    refine WY.br1 6 rfl ?_
    refine WL.st sizeOf9 rfl rfl rfl hk150 oD (fun w156 hkw156 huw156 hsw156 => ?_)
    have hkw156 : Blk w156 b5 _ _ := hkw156
    have huw156 : Upd b5 _ _ := huw156
    have hF157 := PRep.same (w1 := w156) hF149 (fun k hk hl => huw156.other k (by first | ((try simp only) <;> omega) | (have := hk.1; ((try simp only) <;> omega))))
    have hk158 := hkw148.up huw156
    have hk159 := hk151.up huw156
    have hk160 := hk152.up huw156
    have hB163 := Upd.below hB155 oO huw156
    refine WL.nil <| ?_
    refine WY.br1 7 rfl ?_
    refine WL.st sizeOf3 rfl rfl rfl hk159 oD (fun w164 hkw164 huw164 hsw164 => ?_)
    have hkw164 : Blk w164 b11 _ _ := hkw164
    have huw164 : Upd b11 _ _ := huw164
    have hF165 := PRep.same (w1 := w164) hF157 (fun k hk hl => huw164.other k (by first | ((try simp only) <;> omega) | (have := hk.1; ((try simp only) <;> omega))))
    have hk166 := hk158.up huw164
    have hk167 := hkw156.up huw164
    have hk168 := hk160.up huw164
    have hB171 := Upd.below hB163 oO huw164
    refine WL.nil <| ?_
    refine WY.br1 8 rfl ?_
    refine WL.st sizeOf35 rfl rfl rfl hk168 oD (fun w172 hkw172 huw172 hsw172 => ?_)
    have hkw172 : Blk w172 b19 _ _ := hkw172
    have huw172 : Upd b19 _ _ := huw172
    have hF173 := PRep.same (w1 := w172) hF165 (fun k hk hl => huw172.other k (by first | ((try simp only) <;> omega) | (have := hk.1; ((try simp only) <;> omega))))
    have hk174 := hk166.up huw172
    have hk175 := hk167.up huw172
    have hk176 := hkw164.up huw172
    have hB179 := Upd.below hB171 oO huw172
    refine WL.nil <| ?_
    refine WY.done kR ?_
    refine W.ret ?_
    exact PostD.ret hb47 (fun w' => _) (tok_quiet b1 b5 b11 b19 _ hkw172) (fun w' hS => by subst hS; exact ⟨_, ResOk.cells4 rfl rfl rfl rfl rfl (ldRow hk174 underlying31 rfl isz31) (ldCell hk175 (isAgg9 _) rfl) (ldCell hk176 (isAgg3 _) rfl) (ldCell hkw172 (isAgg35 _) rfl), ⟨x1, ret_val rfl, (hF173).mono (fun k hk _ => hk.2)⟩, hB179⟩)
    refine WL.st sizeOf9 rfl rfl rfl hk150 oD (fun w180 hkw180 huw180 hsw180 => ?_)
    have hkw180 : Blk w180 b5 _ _ := hkw180
    have huw180 : Upd b5 _ _ := huw180
    have hF181 := PRep.same (w1 := w180) hF149 (fun k hk hl => huw180.other k (by first | ((try simp only) <;> omega) | (have := hk.1; ((try simp only) <;> omega))))
    have hk182 := hkw148.up huw180
    have hk183 := hk151.up huw180
    have hk184 := hk152.up huw180
    have hk185 := hk153.up huw180
    have hB187 := Upd.below hB155 oO huw180
    refine WL.nil <| ?_
    refine WY.br1 4 rfl ?_
    refine WL.r (Rd.ld (isAgg3 _) rfl hk185 rfl) rfl <| WL.nil <| ?_
    refine WY.br1 7 rfl ?_
    refine WL.st sizeOf3 rfl rfl rfl hk183 oD (fun w188 hkw188 huw188 hsw188 => ?_)
    have hkw188 : Blk w188 b11 _ _ := hkw188
    have huw188 : Upd b11 _ _ := huw188
    have hF189 := PRep.same (w1 := w188) hF181 (fun k hk hl => huw188.other k (by first | ((try simp only) <;> omega) | (have := hk.1; ((try simp only) <;> omega))))
    have hk190 := hk182.up huw188
    have hk191 := hkw180.up huw188
    have hk192 := hk184.up huw188
    have hB195 := Upd.below hB187 oO huw188
    refine WL.nil <| ?_
    refine WY.br1 8 rfl ?_
    refine WL.st sizeOf35 rfl rfl rfl hk192 oD (fun w196 hkw196 huw196 hsw196 => ?_)
    have hkw196 : Blk w196 b19 _ _ := hkw196
    have huw196 : Upd b19 _ _ := huw196
    have hF197 := PRep.same (w1 := w196) hF189 (fun k hk hl => huw196.other k (by first | ((try simp only) <;> omega) | (have := hk.1; ((try simp only) <;> omega))))
    have hk198 := hk190.up huw196
    have hk199 := hk191.up huw196
    have hk200 := hkw188.up huw196
    have hB203 := Upd.below hB195 oO huw196
    refine WL.nil <| ?_
    refine WY.done kR ?_
    refine W.ret ?_
    exact PostD.ret hb47 (fun w' => _) (tok_quiet b1 b5 b11 b19 _ hkw196) (fun w' hS => by subst hS; exact ⟨_, ResOk.cells4 rfl rfl rfl rfl rfl (ldRow hk198 underlying31 rfl isz31) (ldCell hk199 (isAgg9 _) rfl) (ldCell hk200 (isAgg3 _) rfl) (ldCell hkw196 (isAgg35 _) rfl), ⟨x1, ret_val rfl, (hF197).mono (fun k hk _ => hk.2)⟩, hB203⟩)
    refine WL.r (Rd.ld (isAgg3 _) rfl hk113 rfl) rfl <| WL.nil <| ?_
    refine WY.br1 0 rfl ?_
    refine WL.r (Rd.ldA rfl hk109 underlying31 rfl isz31) rfl <| WL.nil <| ?_
    refine WY.br1 5 rfl ?_
    refine WL.stL rfl rfl hk109 isz31 rfl rfl (fun w204 hkw204 huw204 hsw204 => ?_)
    have hF205 := PRep.same (w1 := w204) hF108 (fun k hk hl => huw204.other k (by first | ((try simp only) <;> omega) | (have := hk.1; ((try simp only) <;> omega))))
    have hk206 := hk110.up huw204
    have hk207 := hk111.up huw204
    have hk208 := hk112.up huw204
    have hB211 := Upd.below hB115 oO huw204
    refine WL.nil <| ?_
    refine WY.br1 6 rfl ?_
    refine WL.st sizeOf9 rfl rfl rfl hk206 oD (fun w212 hkw212 huw212 hsw212 => ?_)
    have hkw212 : Blk w212 b5 _ _ := hkw212
    have huw212 : Upd b5 _ _ := huw212
    have hF213 := PRep.same (w1 := w212) hF205 (fun k hk hl => huw212.other k (by first | ((try simp only) <;> omega) | (have := hk.1; ((try simp only) <;> omega))))
    have hk214 := hkw204.up huw212
    have hk215 := hk207.up huw212
    have hk216 := hk208.up huw212
    have hB219 := Upd.below hB211 oO huw212
    refine WL.nil <| ?_
    refine WY.br1 7 rfl ?_
    refine WL.st sizeOf3 rfl rfl rfl hk215 oD (fun w220 hkw220 huw220 hsw220 => ?_)
    have hkw220 : Blk w220 b11 _ _ := hkw220
    have huw220 : Upd b11 _ _ := huw220
    have hF221 := PRep.same (w1 := w220) hF213 (fun k hk hl => huw220.other k (by first | ((try simp only) <;> omega) | (have := hk.1; ((try simp only) <;> omega))))
    have hk222 := hk214.up huw220
    have hk223 := hkw212.up huw220
    have hk224 := hk216.up huw220
    have hB227 := Upd.below hB219 oO huw220
    refine WL.nil <| ?_
    refine WY.br1 8 rfl ?_
    refine WL.st sizeOf35 rfl rfl rfl hk224 oD (fun w228 hkw228 huw228 hsw228 => ?_)
    have hkw228 : Blk w228 b19 _ _ := hkw228
    have huw228 : Upd b19 _ _ := huw228
    have hF229 := PRep.same (w1 := w228) hF221 (fun k hk hl => huw228.other k (by first | ((try simp only) <;> omega) | (have := hk.1; ((try simp only) <;> omega))))
    have hk230 := hk222.up huw228
    have hk231 := hk223.up huw228
    have hk232 := hkw220.up huw228
    have hB235 := Upd.below hB227 oO huw228
    refine WL.nil <| ?_
    refine WY.done kR ?_
    refine W.ret ?_
    exact PostD.ret hb47 (fun w' => _) (tok_quiet b1 b5 b11 b19 _ hkw228) (fun w' hS => by subst hS; exact ⟨_, ResOk.cells4 rfl rfl rfl rfl rfl (ldRow hk230 underlying31 rfl isz31) (ldCell hk231 (isAgg9 _) rfl) (ldCell hk232 (isAgg3 _) rfl) (ldCell hkw228 (isAgg35 _) rfl), ⟨x1, ret_val rfl, (hF229).mono (fun k hk _ => hk.2)⟩, hB235⟩)
  have h94' := (nF h94)
  refine W.skip <| W.sr <| WL.m rfl rfl <| WL.c1 hb48 rfl rfl ((hWc b81 _ ⟨hkb81, hv90⟩ (fun h0 => by have := hb.lt h0; omega))) (fun w236 hw236 => ?_)
  have hk237 := Blk.touch hk82 hw236.2 hk82.lt oO
  have hk238 := Blk.touch hk84 hw236.2 hk84.lt oO
  have hk239 := Blk.touch hk86 hw236.2 hk86.lt oO
  have hk240 := Blk.touch hk88 hw236.2 hk88.lt oO
  have hk241 := hw236.1.1
  have hv242 := hw236.1.2
  have hB243 := Below.trans hB92 (Touch.below hw236.2 hB92.size oO)
  rw [if_pos (nF aS), ← hX] at hR
  subst hR
  refine WL.m rfl rfl <| WL.p (.ext rfl rfl) rfl <| WL.p (.ext rfl rfl) rfl <| WL.p (.ext rfl rfl) rfl <| WL.stL rfl rfl hk237 isz31 rfl rfl (fun w244 hkw244 huw244 hsw244 => ?_)
  have hk245 := hk238.up huw244
  have hk246 := hk239.up huw244
  have hk247 := hk240.up huw244
  have hk248 := hk241.up huw244
  have hv249 := bup hv242 huw244 hvl3
  have hB250 := Upd.below hB243 oO huw244
  refine WL.st sizeOf9 rfl rfl rfl hk245 oD (fun w251 hkw251 huw251 hsw251 => ?_)
  have hkw251 : Blk w251 b5 _ _ := hkw251
  have huw251 : Upd b5 _ _ := huw251
  have hk252 := hkw244.up huw251
  have hk253 := hk246.up huw251
  have hk254 := hk247.up huw251
  have hk255 := hk248.up huw251
  have hv256 := bup hv249 huw251 hvl9
  have hB257 := Upd.below hB250 oO huw251
  refine WL.z rfl rfl ?_
  refine W.cut (α := Unit) (fun t => [(4, .pointer (some ⟨b1, 0, none⟩)), (5, .pointer (some ⟨b5, 0, none⟩)), (6, .pointer (some ⟨b11, 0, none⟩)), (7, .pointer (some ⟨b19, 0, none⟩)), (8, .pointer (some ⟨b81, 0, none⟩))]) (fun t w' => Blk w' b1 (pcV (pc0 X.kind X.n [])).toArray 31 ∧ Blk w' b5 #[.string (bs (if X.ok then [] else X.word))] 9 ∧ Blk w' b11 #[.int .i64 0] 3 ∧ Blk w' b19 #[.int .i64 0] 35 ∧ PRd w' b81 p l c X.np false ∧ Below w.heap.size w w') ?_ (fun t w1 hR => ?_)
  refine W.sr <| WL.m rfl rfl <| WL.nil <| ?_
  refine W.cond rfl (fun h258 => ?_) (fun h258 => ?_)
  refine W.reg <| WL.st sizeOf9 rfl rfl rfl hkw251 oD (fun w259 hkw259 huw259 hsw259 => ?_)
  have hkw259 : Blk w259 b5 _ _ := hkw259
  have huw259 : Upd b5 _ _ := huw259
  have hk260 := hk252.up huw259
  have hk261 := hk253.up huw259
  have hk262 := hk254.up huw259
  have hk263 := hk255.up huw259
  have hv264 := bup hv256 huw259 hvl9
  have hB265 := Upd.below hB257 oO huw259
  refine WL.nil <| ?_
  exact ⟨(), ⟨rfl, rfl, rfl, rfl, rfl, trivial⟩, hk260, by rw [show X.ok = _ by assumption]; exact hkw259, hk261, hk262, ⟨hk263, hv264⟩, hB265⟩
  refine W.skip ?_
  exact ⟨(), ⟨rfl, rfl, rfl, rfl, rfl, trivial⟩, hk252, by rw [show X.ok = _ by assumption]; exact hkw251, hk253, hk254, ⟨hk255, hv256⟩, hB257⟩
  obtain ⟨hj4, hj5, hj6, hj7, hj8, hjB⟩ := hR
  generalize (if X.ok then [] else X.word) = sX at *
  refine W.seq ?_
  refine W.noPn ?_
  refine W.regY 10 rfl mixed (fun w266 dw266 => ?_)
  have hk267 := hj4.drew dw266
  have hk268 := hj5.drew dw266
  have hk269 := hj6.drew dw266
  have hk270 := hj7.drew dw266
  have hk271 := hj8.1.drew dw266
  have hB272 := Drew.below hjB dw266
  refine WY.tk 2 rfl (.mv rfl) rfl ?_
  refine WY.tk 3 rfl (.nck rfl) rfl ?_
  refine WY.tk 4 rfl (.fa underlying63 rfl sizeOf3 dD rfl) rfl ?_
  refine WY.br [0, 1, 5] kR rfl ⟨⟨_, rfl, ?_⟩, ⟨_, rfl, ?_⟩, ⟨_, rfl, ?_⟩, trivial⟩
  refine WL.r (Rd.ldA rfl hk267 underlying31 rfl isz31) rfl <| WL.nil <| ?_
  refine WY.br [1, 5, 6] kR rfl ⟨⟨_, rfl, ?_⟩, ⟨_, rfl, ?_⟩, ⟨_, rfl, ?_⟩, trivial⟩
  refine WL.r (Rd.ld (isAgg9 _) rfl hk268 rfl) rfl <| WL.nil <| ?_
  refine WY.br2 5 rfl 6 rfl ?_ ?_
  refine WL.r (Rd.ld (isAgg3 _) rfl hk271 rfl) rfl <| WL.nil <| ?_
  refine WY.br1 6 rfl ?_
  refine WL.stL rfl rfl hk267 isz31 rfl rfl (fun w273 hkw273 huw273 hsw273 => ?_)
  have hk274 := hk268.up huw273
  have hk275 := hk269.up huw273
  have hk276 := hk270.up huw273
  have hB278 := Upd.below hB272 oO huw273
  refine WL.nil <| ?_
  refine WY.br1 7 rfl ?_
  refine WL.st sizeOf9 rfl rfl rfl hk274 oD (fun w279 hkw279 huw279 hsw279 => ?_)
  have hkw279 : Blk w279 b5 _ _ := hkw279
  have huw279 : Upd b5 _ _ := huw279
  have hk280 := hkw273.up huw279
  have hk281 := hk275.up huw279
  have hk282 := hk276.up huw279
  have hB284 := Upd.below hB278 oO huw279
  refine WL.nil <| ?_
  refine WY.br1 8 rfl ?_
  refine WL.st sizeOf3 rfl rfl rfl hk281 oD (fun w285 hkw285 huw285 hsw285 => ?_)
  have hkw285 : Blk w285 b11 _ _ := hkw285
  have huw285 : Upd b11 _ _ := huw285
  have hk286 := hk280.up huw285
  have hk287 := hkw279.up huw285
  have hk288 := hk282.up huw285
  have hB290 := Upd.below hB284 oO huw285
  refine WL.nil <| ?_
  refine WY.br1 9 rfl ?_
  refine WL.st sizeOf35 rfl rfl rfl hk288 oD (fun w291 hkw291 huw291 hsw291 => ?_)
  have hkw291 : Blk w291 b19 _ _ := hkw291
  have huw291 : Upd b19 _ _ := huw291
  have hk292 := hk286.up huw291
  have hk293 := hk287.up huw291
  have hk294 := hkw285.up huw291
  have hB296 := Upd.below hB290 oO huw291
  refine WL.nil <| ?_
  refine WY.done kR ?_
  refine W.ret ?_
  exact PostD.ret hb47 (fun w' => _) (tok_quiet b1 b5 b11 b19 _ hkw291) (fun w' hS => by subst hS; exact ⟨_, ResOk.cells4 rfl rfl rfl rfl rfl (ldRow hk292 underlying31 rfl isz31) (ldCell hk293 (isAgg9 _) rfl) (ldCell hk294 (isAgg3 _) rfl) (ldCell hkw291 (isAgg35 _) rfl), ⟨pc0 X.kind X.n [], ret_val rfl, PRep.zero _ _ _ _ _⟩, hB296⟩)
  refine WL.stL rfl rfl hk267 isz31 rfl rfl (fun w297 hkw297 huw297 hsw297 => ?_)
  have hk298 := hk268.up huw297
  have hk299 := hk269.up huw297
  have hk300 := hk270.up huw297
  have hk301 := hk271.up huw297
  have hB302 := Upd.below hB272 oO huw297
  refine WL.nil <| ?_
  refine WY.br2 5 rfl 7 rfl ?_ ?_
  refine WL.r (Rd.ld (isAgg3 _) rfl hk301 rfl) rfl <| WL.nil <| ?_
  refine WY.br1 7 rfl ?_
  refine WL.st sizeOf9 rfl rfl rfl hk298 oD (fun w303 hkw303 huw303 hsw303 => ?_)
  have hkw303 : Blk w303 b5 _ _ := hkw303
  have huw303 : Upd b5 _ _ := huw303
  have hk304 := hkw297.up huw303
  have hk305 := hk299.up huw303
  have hk306 := hk300.up huw303
  have hB308 := Upd.below hB302 oO huw303
  refine WL.nil <| ?_
  refine WY.br1 8 rfl ?_
  refine WL.st sizeOf3 rfl rfl rfl hk305 oD (fun w309 hkw309 huw309 hsw309 => ?_)
  have hkw309 : Blk w309 b11 _ _ := hkw309
  have huw309 : Upd b11 _ _ := huw309
  have hk310 := hk304.up huw309
  have hk311 := hkw303.up huw309
  have hk312 := hk306.up huw309
  have hB314 := Upd.below hB308 oO huw309
  refine WL.nil <| ?_
  refine WY.br1 9 rfl ?_
  refine WL.st sizeOf35 rfl rfl rfl hk312 oD (fun w315 hkw315 huw315 hsw315 => ?_)
  have hkw315 : Blk w315 b19 _ _ := hkw315
  have huw315 : Upd b19 _ _ := huw315
  have hk316 := hk310.up huw315
  have hk317 := hk311.up huw315
  have hk318 := hkw309.up huw315
  have hB320 := Upd.below hB314 oO huw315
  refine WL.nil <| ?_
  refine WY.done kR ?_
  refine W.ret ?_
  exact PostD.ret hb47 (fun w' => _) (tok_quiet b1 b5 b11 b19 _ hkw315) (fun w' hS => by subst hS; exact ⟨_, ResOk.cells4 rfl rfl rfl rfl rfl (ldRow hk316 underlying31 rfl isz31) (ldCell hk317 (isAgg9 _) rfl) (ldCell hk318 (isAgg3 _) rfl) (ldCell hkw315 (isAgg35 _) rfl), ⟨pc0 X.kind X.n [], ret_val rfl, PRep.zero _ _ _ _ _⟩, hB320⟩)
  refine WL.st sizeOf9 rfl rfl rfl hk298 oD (fun w321 hkw321 huw321 hsw321 => ?_)
  have hkw321 : Blk w321 b5 _ _ := hkw321
  have huw321 : Upd b5 _ _ := huw321
  have hk322 := hkw297.up huw321
  have hk323 := hk299.up huw321
  have hk324 := hk300.up huw321
  have hk325 := hk301.up huw321
  have hB326 := Upd.below hB302 oO huw321
  refine WL.nil <| ?_
  refine WY.br1 5 rfl ?_
  refine WL.r (Rd.ld (isAgg3 _) rfl hk325 rfl) rfl <| WL.nil <| ?_
  refine WY.br1 8 rfl ?_
  refine WL.st sizeOf3 rfl rfl rfl hk323 oD (fun w327 hkw327 huw327 hsw327 => ?_)
  have hkw327 : Blk w327 b11 _ _ := hkw327
  have huw327 : Upd b11 _ _ := huw327
  have hk328 := hk322.up huw327
  have hk329 := hkw321.up huw327
  have hk330 := hk324.up huw327
  have hB332 := Upd.below hB326 oO huw327
  refine WL.nil <| ?_
  refine WY.br1 9 rfl ?_
  refine WL.st sizeOf35 rfl rfl rfl hk330 oD (fun w333 hkw333 huw333 hsw333 => ?_)
  have hkw333 : Blk w333 b19 _ _ := hkw333
  have huw333 : Upd b19 _ _ := huw333
  have hk334 := hk328.up huw333
  have hk335 := hk329.up huw333
  have hk336 := hkw327.up huw333
  have hB338 := Upd.below hB332 oO huw333
  refine WL.nil <| ?_
  refine WY.done kR ?_
  refine W.ret ?_
  exact PostD.ret hb47 (fun w' => _) (tok_quiet b1 b5 b11 b19 _ hkw333) (fun w' hS => by subst hS; exact ⟨_, ResOk.cells4 rfl rfl rfl rfl rfl (ldRow hk334 underlying31 rfl isz31) (ldCell hk335 (isAgg9 _) rfl) (ldCell hk336 (isAgg3 _) rfl) (ldCell hkw333 (isAgg35 _) rfl), ⟨pc0 X.kind X.n [], ret_val rfl, PRep.zero _ _ _ _ _⟩, hB338⟩)
  refine WL.r (Rd.ld (isAgg3 _) rfl hk271 rfl) rfl <| WL.nil <| ?_
  refine WY.br2 1 rfl 6 rfl ?_ ?_
  refine WL.r (Rd.ld (isAgg9 _) rfl hk268 rfl) rfl <| WL.nil <| ?_
  refine WY.br1 6 rfl ?_
  refine WL.stL rfl rfl hk267 isz31 rfl rfl (fun w339 hkw339 huw339 hsw339 => ?_)
  have hk340 := hk268.up huw339
  have hk341 := hk269.up huw339
  have hk342 := hk270.up huw339
  have hB344 := Upd.below hB272 oO huw339
  refine WL.nil <| ?_
  refine WY.br1 7 rfl ?_
  refine WL.st sizeOf9 rfl rfl rfl hk340 oD (fun w345 hkw345 huw345 hsw345 => ?_)
  have hkw345 : Blk w345 b5 _ _ := hkw345
  have huw345 : Upd b5 _ _ := huw345
  have hk346 := hkw339.up huw345
  have hk347 := hk341.up huw345
  have hk348 := hk342.up huw345
  have hB350 := Upd.below hB344 oO huw345
  refine WL.nil <| ?_
  refine WY.br1 8 rfl ?_
  refine WL.st sizeOf3 rfl rfl rfl hk347 oD (fun w351 hkw351 huw351 hsw351 => ?_)
  have hkw351 : Blk w351 b11 _ _ := hkw351
  have huw351 : Upd b11 _ _ := huw351
  have hk352 := hk346.up huw351
  have hk353 := hkw345.up huw351
  have hk354 := hk348.up huw351
  have hB356 := Upd.below hB350 oO huw351
  refine WL.nil <| ?_
  refine WY.br1 9 rfl ?_
  refine WL.st sizeOf35 rfl rfl rfl hk354 oD (fun w357 hkw357 huw357 hsw357 => ?_)
  have hkw357 : Blk w357 b19 _ _ := hkw357
  have huw357 : Upd b19 _ _ := huw357
  have hk358 := hk352.up huw357
  have hk359 := hk353.up huw357
  have hk360 := hkw351.up huw357
  have hB362 := Upd.below hB356 oO huw357
  refine WL.nil <| ?_
  refine WY.done kR ?_
  refine W.ret ?_
  exact PostD.ret hb47 (fun w' => _) (tok_quiet b1 b5 b11 b19 _ hkw357) (fun w' hS => by subst hS; exact ⟨_, ResOk.cells4 rfl rfl rfl rfl rfl (ldRow hk358 underlying31 rfl isz31) (ldCell hk359 (isAgg9 _) rfl) (ldCell hk360 (isAgg3 _) rfl) (ldCell hkw357 (isAgg35 _) rfl), ⟨pc0 X.kind X.n [], ret_val rfl, PRep.zero _ _ _ _ _⟩, hB362⟩)
  refine WL.stL rfl rfl hk267 isz31 rfl rfl (fun w363 hkw363 huw363 hsw363 => ?_)
  have hk364 := hk268.up huw363
  have hk365 := hk269.up huw363
  have hk366 := hk270.up huw363
  have hB368 := Upd.below hB272 oO huw363
  refine WL.nil <| ?_
  refine WY.br1 1 rfl ?_
  refine WL.r (Rd.ld (isAgg9 _) rfl hk364 rfl) rfl <| WL.nil <| ?_
  refine WY.br1 7 rfl ?_
  refine WL.st sizeOf9 rfl rfl rfl hk364 oD (fun w369 hkw369 huw369 hsw369 => ?_)
  have hkw369 : Blk w369 b5 _ _ := hkw369
  have huw369 : Upd b5 _ _ := huw369
  have hk370 := hkw363.up huw369
  have hk371 := hk365.up huw369
  have hk372 := hk366.up huw369
  have hB374 := Upd.below hB368 oO huw369
  refine WL.nil <| ?_
  refine WY.br1 8 rfl ?_
  refine WL.st sizeOf3 rfl rfl rfl hk371 oD (fun w375 hkw375 huw375 hsw375 => ?_)
  have hkw375 : Blk w375 b11 _ _ := hkw375
  have huw375 : Upd b11 _ _ := huw375
  have hk376 := hk370.up huw375
  have hk377 := hkw369.up huw375
  have hk378 := hk372.up huw375
  have hB380 := Upd.below hB374 oO huw375
  refine WL.nil <| ?_
  refine WY.br1 9 rfl ?_
  refine WL.st sizeOf35 rfl rfl rfl hk378 oD (fun w381 hkw381 huw381 hsw381 => ?_)
  have hkw381 : Blk w381 b19 _ _ := hkw381
  have huw381 : Upd b19 _ _ := huw381
  have hk382 := hk376.up huw381
  have hk383 := hk377.up huw381
  have hk384 := hkw375.up huw381
  have hB386 := Upd.below hB380 oO huw381
  refine WL.nil <| ?_
  refine WY.done kR ?_
  refine W.ret ?_
  exact PostD.ret hb47 (fun w' => _) (tok_quiet b1 b5 b11 b19 _ hkw381) (fun w' hS => by subst hS; exact ⟨_, ResOk.cells4 rfl rfl rfl rfl rfl (ldRow hk382 underlying31 rfl isz31) (ldCell hk383 (isAgg9 _) rfl) (ldCell hk384 (isAgg3 _) rfl) (ldCell hkw381 (isAgg35 _) rfl), ⟨pc0 X.kind X.n [], ret_val rfl, PRep.zero _ _ _ _ _⟩, hB386⟩)
  refine WL.stL rfl rfl hk267 isz31 rfl rfl (fun w387 hkw387 huw387 hsw387 => ?_)
  have hk388 := hk268.up huw387
  have hk389 := hk269.up huw387
  have hk390 := hk270.up huw387
  have hk391 := hk271.up huw387
  have hB392 := Upd.below hB272 oO huw387
  refine WL.nil <| ?_
  refine WY.br2 1 rfl 5 rfl ?_ ?_
  refine WL.r (Rd.ld (isAgg9 _) rfl hk388 rfl) rfl <| WL.nil <| ?_
  refine WY.br2 5 rfl 7 rfl ?_ ?_
  refine WL.r (Rd.ld (isAgg3 _) rfl hk391 rfl) rfl <| WL.nil <| ?_
  refine WY.br1 7 rfl ?_
  refine WL.st sizeOf9 rfl rfl rfl hk388 oD (fun w393 hkw393 huw393 hsw393 => ?_)
  have hkw393 : Blk w393 b5 _ _ := hkw393
  have huw393 : Upd b5 _ _ := huw393
  have hk394 := hkw387.up huw393
  have hk395 := hk389.up huw393
  have hk396 := hk390.up huw393
  have hB398 := Upd.below hB392 oO huw393
  refine WL.nil <| ?_
  refine WY.br1 8 rfl ?_
  refine WL.st sizeOf3 rfl rfl rfl hk395 oD (fun w399 hkw399 huw399 hsw399 => ?_)
  have hkw399 : Blk w399 b11 _ _ := hkw399
  have huw399 : Upd b11 _ _ := huw399
  have hk400 := hk394.up huw399
  have hk401 := hkw393.up huw399
  have hk402 := hk396.up huw399
  have hB404 := Upd.below hB398 oO huw399
  refine WL.nil <| ?_
  refine WY.br1 9 rfl ?_
  refine WL.st sizeOf35 rfl rfl rfl hk402 oD (fun w405 hkw405 huw405 hsw405 => ?_)
  have hkw405 : Blk w405 b19 _ _ := hkw405
  have huw405 : Upd b19 _ _ := huw405
  have hk406 := hk400.up huw405
  have hk407 := hk401.up huw405
  have hk408 := hkw399.up huw405
  have hB410 := Upd.below hB404 oO huw405
  refine WL.nil <| ?_
  refine WY.done kR ?_
  refine W.ret ?_
  exact PostD.ret hb47 (fun w' => _) (tok_quiet b1 b5 b11 b19 _ hkw405) (fun w' hS => by subst hS; exact ⟨_, ResOk.cells4 rfl rfl rfl rfl rfl (ldRow hk406 underlying31 rfl isz31) (ldCell hk407 (isAgg9 _) rfl) (ldCell hk408 (isAgg3 _) rfl) (ldCell hkw405 (isAgg35 _) rfl), ⟨pc0 X.kind X.n [], ret_val rfl, PRep.zero _ _ _ _ _⟩, hB410⟩)
  refine WL.st sizeOf9 rfl rfl rfl hk388 oD (fun w411 hkw411 huw411 hsw411 => ?_)
  have hkw411 : Blk w411 b5 _ _ := hkw411
  have huw411 : Upd b5 _ _ := huw411
  have hk412 := hkw387.up huw411
  have hk413 := hk389.up huw411
  have hk414 := hk390.up huw411
  have hk415 := hk391.up huw411
  have hB416 := Upd.below hB392 oO huw411
  refine WL.nil <| ?_
  refine WY.br1 5 rfl ?_
  refine WL.r (Rd.ld (isAgg3 _) rfl hk415 rfl) rfl <| WL.nil <| ?_
  refine WY.br1 8 rfl ?_
  refine WL.st sizeOf3 rfl rfl rfl hk413 oD (fun w417 hkw417 huw417 hsw417 => ?_)
  have hkw417 : Blk w417 b11 _ _ := hkw417
  have huw417 : Upd b11 _ _ := huw417
  have hk418 := hk412.up huw417
  have hk419 := hkw411.up huw417
  have hk420 := hk414.up huw417
  have hB422 := Upd.below hB416 oO huw417
  refine WL.nil <| ?_
  refine WY.br1 9 rfl ?_
  refine WL.st sizeOf35 rfl rfl rfl hk420 oD (fun w423 hkw423 huw423 hsw423 => ?_)
  have hkw423 : Blk w423 b19 _ _ := hkw423
  have huw423 : Upd b19 _ _ := huw423
  have hk424 := hk418.up huw423
  have hk425 := hk419.up huw423
  have hk426 := hkw417.up huw423
  have hB428 := Upd.below hB422 oO huw423
  refine WL.nil <| ?_
  refine WY.done kR ?_
  refine W.ret ?_
  exact PostD.ret hb47 (fun w' => _) (tok_quiet b1 b5 b11 b19 _ hkw423) (fun w' hS => by subst hS; exact ⟨_, ResOk.cells4 rfl rfl rfl rfl rfl (ldRow hk424 underlying31 rfl isz31) (ldCell hk425 (isAgg9 _) rfl) (ldCell hk426 (isAgg3 _) rfl) (ldCell hkw423 (isAgg35 _) rfl), ⟨pc0 X.kind X.n [], ret_val rfl, PRep.zero _ _ _ _ _⟩, hB428⟩)
  refine WL.r (Rd.ld (isAgg3 _) rfl hk391 rfl) rfl <| WL.nil <| ?_
  refine WY.br1 1 rfl ?_
  refine WL.r (Rd.ld (isAgg9 _) rfl hk388 rfl) rfl <| WL.nil <| ?_
  refine WY.br1 7 rfl ?_
  refine WL.st sizeOf9 rfl rfl rfl hk388 oD (fun w429 hkw429 huw429 hsw429 => ?_)
  have hkw429 : Blk w429 b5 _ _ := hkw429
  have huw429 : Upd b5 _ _ := huw429
  have hk430 := hkw387.up huw429
  have hk431 := hk389.up huw429
  have hk432 := hk390.up huw429
  have hB434 := Upd.below hB392 oO huw429
  refine WL.nil <| ?_
  refine WY.br1 8 rfl ?_
  refine WL.st sizeOf3 rfl rfl rfl hk431 oD (fun w435 hkw435 huw435 hsw435 => ?_)
  have hkw435 : Blk w435 b11 _ _ := hkw435
  have huw435 : Upd b11 _ _ := huw435
  have hk436 := hk430.up huw435
  have hk437 := hkw429.up huw435
  have hk438 := hk432.up huw435
  have hB440 := Upd.below hB434 oO huw435
  refine WL.nil <| ?_
  refine WY.br1 9 rfl ?_
  refine WL.st sizeOf35 rfl rfl rfl hk438 oD (fun w441 hkw441 huw441 hsw441 => ?_)
  have hkw441 : Blk w441 b19 _ _ := hkw441
  have huw441 : Upd b19 _ _ := huw441
  have hk442 := hk436.up huw441
  have hk443 := hk437.up huw441
  have hk444 := hkw435.up huw441
  have hB446 := Upd.below hB440 oO huw441
  refine WL.nil <| ?_
  refine WY.done kR ?_
  refine W.ret ?_
  exact PostD.ret hb47 (fun w' => _) (tok_quiet b1 b5 b11 b19 _ hkw441) (fun w' hS => by subst hS; exact ⟨_, ResOk.cells4 rfl rfl rfl rfl rfl (ldRow hk442 underlying31 rfl isz31) (ldCell hk443 (isAgg9 _) rfl) (ldCell hk444 (isAgg3 _) rfl) (ldCell hkw441 (isAgg35 _) rfl), ⟨pc0 X.kind X.n [], ret_val rfl, PRep.zero _ _ _ _ _⟩, hB446⟩)
  refine WL.r (Rd.ld (isAgg9 _) rfl hk268 rfl) rfl <| WL.nil <| ?_
  refine WY.br2 0 rfl 5 rfl ?_ ?_
  refine WL.r (Rd.ldA rfl hk267 underlying31 rfl isz31) rfl <| WL.nil <| ?_
  refine WY.br2 5 rfl 6 rfl ?_ ?_
  refine WL.r (Rd.ld (isAgg3 _) rfl hk271 rfl) rfl <| WL.nil <| ?_
  refine WY.br1 6 rfl ?_
  refine WL.stL rfl rfl hk267 isz31 rfl rfl (fun w447 hkw447 huw447 hsw447 => ?_)
  have hk448 := hk268.up huw447
  have hk449 := hk269.up huw447
  have hk450 := hk270.up huw447
  have hB452 := Upd.below hB272 oO huw447
  refine WL.nil <| ?_
  refine WY.br1 7 rfl ?_
  refine WL.st sizeOf9 rfl rfl rfl hk448 oD (fun w453 hkw453 huw453 hsw453 => ?_)
  have hkw453 : Blk w453 b5 _ _ := hkw453
  have huw453 : Upd b5 _ _ := huw453
  have hk454 := hkw447.up huw453
  have hk455 := hk449.up huw453
  have hk456 := hk450.up huw453
  have hB458 := Upd.below hB452 oO huw453
  refine WL.nil <| ?_
  refine WY.br1 8 rfl ?_
  refine WL.st sizeOf3 rfl rfl rfl hk455 oD (fun w459 hkw459 huw459 hsw459 => ?_)
  have hkw459 : Blk w459 b11 _ _ := hkw459
  have huw459 : Upd b11 _ _ := huw459
  have hk460 := hk454.up huw459
  have hk461 := hkw453.up huw459
  have hk462 := hk456.up huw459
  have hB464 := Upd.below hB458 oO huw459
  refine WL.nil <| ?_
  refine WY.br1 9 rfl ?_
  refine WL.st sizeOf35 rfl rfl rfl hk462 oD (fun w465 hkw465 huw465 hsw465 => ?_)
  have hkw465 : Blk w465 b19 _ _ := hkw465
  have huw465 : Upd b19 _ _ := huw465
  have hk466 := hk460.up huw465
  have hk467 := hk461.up huw465
  have hk468 := hkw459.up huw465
  have hB470 := Upd.below hB464 oO huw465
  refine WL.nil <| ?_
  refine WY.done kR ?_
  refine W.ret ?_
  exact PostD.ret hb47 (fun w' => _) (tok_quiet b1 b5 b11 b19 _ hkw465) (fun w' hS => by subst hS; exact ⟨_, ResOk.cells4 rfl rfl rfl rfl rfl (ldRow hk466 underlying31 rfl isz31) (ldCell hk467 (isAgg9 _) rfl) (ldCell hk468 (isAgg3 _) rfl) (ldCell hkw465 (isAgg35 _) rfl), ⟨pc0 X.kind X.n [], ret_val rfl, PRep.zero _ _ _ _ _⟩, hB470⟩)
  refine WL.stL rfl rfl hk267 isz31 rfl rfl (fun w471 hkw471 huw471 hsw471 => ?_)
  have hk472 := hk268.up huw471
  have hk473 := hk269.up huw471
  have hk474 := hk270.up huw471
  have hk475 := hk271.up huw471
  have hB476 := Upd.below hB272 oO huw471
  refine WL.nil <| ?_
  refine WY.br2 5 rfl 7 rfl ?_ ?_
  refine WL.r (Rd.ld (isAgg3 _) rfl hk475 rfl) rfl <| WL.nil <| ?_
  refine WY.br1 7 rfl ?_
  refine WL.st sizeOf9 rfl rfl rfl hk472 oD (fun w477 hkw477 huw477 hsw477 => ?_)
  have hkw477 : Blk w477 b5 _ _ := hkw477
  have huw477 : Upd b5 _ _ := huw477
  have hk478 := hkw471.up huw477
  have hk479 := hk473.up huw477
  have hk480 := hk474.up huw477
  have hB482 := Upd.below hB476 oO huw477
  refine WL.nil <| ?_
  refine WY.br1 8 rfl ?_
  refine WL.st sizeOf3 rfl rfl rfl hk479 oD (fun w483 hkw483 huw483 hsw483 => ?_)
  have hkw483 : Blk w483 b11 _ _ := hkw483
  have huw483 : Upd b11 _ _ := huw483
  have hk484 := hk478.up huw483
  have hk485 := hkw477.up huw483
  have hk486 := hk480.up huw483
  have hB488 := Upd.below hB482 oO huw483
  refine WL.nil <| ?_
  refine WY.br1 9 rfl ?_
  refine WL.st sizeOf35 rfl rfl rfl hk486 oD (fun w489 hkw489 huw489 hsw489 => ?_)
  have hkw489 : Blk w489 b19 _ _ := hkw489
  have huw489 : Upd b19 _ _ := huw489
  have hk490 := hk484.up huw489
  have hk491 := hk485.up huw489
  have hk492 := hkw483.up huw489
  have hB494 := Upd.below hB488 oO huw489
  refine WL.nil <| ?_
  refine WY.done kR ?_
  refine W.ret ?_
  exact PostD.ret hb47 (fun w' => _) (tok_quiet b1 b5 b11 b19 _ hkw489) (fun w' hS => by subst hS; exact ⟨_, ResOk.cells4 rfl rfl rfl rfl rfl (ldRow hk490 underlying31 rfl isz31) (ldCell hk491 (isAgg9 _) rfl) (ldCell hk492 (isAgg3 _) rfl) (ldCell hkw489 (isAgg35 _) rfl), ⟨pc0 X.kind X.n [], ret_val rfl, PRep.zero _ _ _ _ _⟩, hB494⟩)
  refine WL.st sizeOf9 rfl rfl rfl hk472 oD (fun w495 hkw495 huw495 hsw495 => ?_)
  have hkw495 : Blk w495 b5 _ _ := hkw495
  have huw495 : Upd b5 _ _ := huw495
  have hk496 := hkw471.up huw495
  have hk497 := hk473.up huw495
  have hk498 := hk474.up huw495
  have hk499 := hk475.up huw495
  have hB500 := Upd.below hB476 oO huw495
  refine WL.nil <| ?_
  refine WY.br1 5 rfl ?_
  refine WL.r (Rd.ld (isAgg3 _) rfl hk499 rfl) rfl <| WL.nil <| ?_
  refine WY.br1 8 rfl ?_
  refine WL.st sizeOf3 rfl rfl rfl hk497 oD (fun w501 hkw501 huw501 hsw501 => ?_)
  have hkw501 : Blk w501 b11 _ _ := hkw501
  have huw501 : Upd b11 _ _ := huw501
  have hk502 := hk496.up huw501
  have hk503 := hkw495.up huw501
  have hk504 := hk498.up huw501
  have hB506 := Upd.below hB500 oO huw501
  refine WL.nil <| ?_
  refine WY.br1 9 rfl ?_
  refine WL.st sizeOf35 rfl rfl rfl hk504 oD (fun w507 hkw507 huw507 hsw507 => ?_)
  have hkw507 : Blk w507 b19 _ _ := hkw507
  have huw507 : Upd b19 _ _ := huw507
  have hk508 := hk502.up huw507
  have hk509 := hk503.up huw507
  have hk510 := hkw501.up huw507
  have hB512 := Upd.below hB506 oO huw507
  refine WL.nil <| ?_
  refine WY.done kR ?_
  refine W.ret ?_
  exact PostD.ret hb47 (fun w' => _) (tok_quiet b1 b5 b11 b19 _ hkw507) (fun w' hS => by subst hS; exact ⟨_, ResOk.cells4 rfl rfl rfl rfl rfl (ldRow hk508 underlying31 rfl isz31) (ldCell hk509 (isAgg9 _) rfl) (ldCell hk510 (isAgg3 _) rfl) (ldCell hkw507 (isAgg35 _) rfl), ⟨pc0 X.kind X.n [], ret_val rfl, PRep.zero _ _ _ _ _⟩, hB512⟩)
  refine WL.r (Rd.ld (isAgg3 _) rfl hk271 rfl) rfl <| WL.nil <| ?_
  refine WY.br1 0 rfl ?_
  refine WL.r (Rd.ldA rfl hk267 underlying31 rfl isz31) rfl <| WL.nil <| ?_
  refine WY.br1 6 rfl ?_
  refine WL.stL rfl rfl hk267 isz31 rfl rfl (fun w513 hkw513 huw513 hsw513 => ?_)
  have hk514 := hk268.up huw513
  have hk515 := hk269.up huw513
  have hk516 := hk270.up huw513
  have hB518 := Upd.below hB272 oO huw513
  refine WL.nil <| ?_
  refine WY.br1 7 rfl ?_
  refine WL.st sizeOf9 rfl rfl rfl hk514 oD (fun w519 hkw519 huw519 hsw519 => ?_)
  have hkw519 : Blk w519 b5 _ _ := hkw519
  have huw519 : Upd b5 _ _ := huw519
  have hk520 := hkw513.up huw519
  have hk521 := hk515.up huw519
  have hk522 := hk516.up huw519
  have hB524 := Upd.below hB518 oO huw519
  refine WL.nil <| ?_
  refine WY.br1 8 rfl ?_
  refine WL.st sizeOf3 rfl rfl rfl hk521 oD (fun w525 hkw525 huw525 hsw525 => ?_)
  have hkw525 : Blk w525 b11 _ _ := hkw525
  have huw525 : Upd b11 _ _ := huw525
  have hk526 := hk520.up huw525
  have hk527 := hkw519.up huw525
  have hk528 := hk522.up huw525
  have hB530 := Upd.below hB524 oO huw525
  refine WL.nil <| ?_
  refine WY.br1 9 rfl ?_
  refine WL.st sizeOf35 rfl rfl rfl hk528 oD (fun w531 hkw531 huw531 hsw531 => ?_)
  have hkw531 : Blk w531 b19 _ _ := hkw531
  have huw531 : Upd b19 _ _ := huw531
  have hk532 := hk526.up huw531
  have hk533 := hk527.up huw531
  have hk534 := hkw525.up huw531
  have hB536 := Upd.below hB530 oO huw531
  refine WL.nil <| ?_
  refine WY.done kR ?_
  refine W.ret ?_
  exact PostD.ret hb47 (fun w' => _) (tok_quiet b1 b5 b11 b19 _ hkw531) (fun w' hS => by subst hS; exact ⟨_, ResOk.cells4 rfl rfl rfl rfl rfl (ldRow hk532 underlying31 rfl isz31) (ldCell hk533 (isAgg9 _) rfl) (ldCell hk534 (isAgg3 _) rfl) (ldCell hkw531 (isAgg35 _) rfl), ⟨pc0 X.kind X.n [], ret_val rfl, PRep.zero _ _ _ _ _⟩, hB536⟩)
  refine WL.r (Rd.ld (isAgg3 _) rfl hk271 rfl) rfl <| WL.nil <| ?_
  refine WY.br2 0 rfl 1 rfl ?_ ?_
  refine WL.r (Rd.ldA rfl hk267 underlying31 rfl isz31) rfl <| WL.nil <| ?_
  refine WY.br2 1 rfl 6 rfl ?_ ?_
  refine WL.r (Rd.ld (isAgg9 _) rfl hk268 rfl) rfl <| WL.nil <| ?_
  refine WY.br1 6 rfl ?_
  refine WL.stL rfl rfl hk267 isz31 rfl rfl (fun w537 hkw537 huw537 hsw537 => ?_)
  have hk538 := hk268.up huw537
  have hk539 := hk269.up huw537
  have hk540 := hk270.up huw537
  have hB542 := Upd.below hB272 oO huw537
  refine WL.nil <| ?_
  refine WY.br1 7 rfl ?_
  refine WL.st sizeOf9 rfl rfl rfl hk538 oD (fun w543 hkw543 huw543 hsw543 => ?_)
  have hkw543 : Blk w543 b5 _ _ := hkw543
  have huw543 : Upd b5 _ _ := huw543
  have hk544 := hkw537.up huw543
  have hk545 := hk539.up huw543
  have hk546 := hk540.up huw543
  have hB548 := Upd.below hB542 oO huw543
  refine WL.nil <| ?_
  refine WY.br1 8 rfl ?_
  refine WL.st sizeOf3 rfl rfl rfl hk545 oD (fun w549 hkw549 huw549 hsw549 => ?_)
  have hkw549 : Blk w549 b11 _ _ := hkw549
  have huw549 : Upd b11 _ _ := huw549
  have hk550 := hk544.up huw549
  have hk551 := hkw543.up huw549
  have hk552 := hk546.up huw549
  have hB554 := Upd.below hB548 oO huw549
  refine WL.nil <| ?_
  refine WY.br1 9 rfl ?_
  refine WL.st sizeOf35 rfl rfl rfl hk552 oD (fun w555 hkw555 huw555 hsw555 => ?_)
  have hkw555 : Blk w555 b19 _ _ := hkw555
  have huw555 : Upd b19 _ _ := huw555
  have hk556 := hk550.up huw555
  have hk557 := hk551.up huw555
  have hk558 := hkw549.up huw555
  have hB560 := Upd.below hB554 oO huw555
  refine WL.nil <| ?_
  refine WY.done kR ?_
  refine W.ret ?_
  exact PostD.ret hb47 (fun w' => _) (tok_quiet b1 b5 b11 b19 _ hkw555) (fun w' hS => by subst hS; exact ⟨_, ResOk.cells4 rfl rfl rfl rfl rfl (ldRow hk556 underlying31 rfl isz31) (ldCell hk557 (isAgg9 _) rfl) (ldCell hk558 (isAgg3 _) rfl) (ldCell hkw555 (isAgg35 _) rfl), ⟨pc0 X.kind X.n [], ret_val rfl, PRep.zero _ _ _ _ _⟩, hB560⟩)
  refine WL.stL rfl rfl hk267 isz31 rfl rfl (fun w561 hkw561 huw561 hsw561 => ?_)
  have hk562 := hk268.up huw561
  have hk563 := hk269.up huw561
  have hk564 := hk270.up huw561
  have hB566 := Upd.below hB272 oO huw561
  refine WL.nil <| ?_
  refine WY.br1 1 rfl ?_
  refine WL.r (Rd.ld (isAgg9 _) rfl hk562 rfl) rfl <| WL.nil <| ?_
  refine WY.br1 7 rfl ?_
  refine WL.st sizeOf9 rfl rfl rfl hk562 oD (fun w567 hkw567 huw567 hsw567 => ?_)
  have hkw567 : Blk w567 b5 _ _ := hkw567
  have huw567 : Upd b5 _ _ := huw567
  have hk568 := hkw561.up huw567
  have hk569 := hk563.up huw567
  have hk570 := hk564.up huw567
  have hB572 := Upd.below hB566 oO huw567
  refine WL.nil <| ?_
  refine WY.br1 8 rfl ?_
  refine WL.st sizeOf3 rfl rfl rfl hk569 oD (fun w573 hkw573 huw573 hsw573 => ?_)
  have hkw573 : Blk w573 b11 _ _ := hkw573
  have huw573 : Upd b11 _ _ := huw573
  have hk574 := hk568.up huw573
  have hk575 := hkw567.up huw573
  have hk576 := hk570.up huw573
  have hB578 := Upd.below hB572 oO huw573
  refine WL.nil <| ?_
  refine WY.br1 9 rfl ?_
  refine WL.st sizeOf35 rfl rfl rfl hk576 oD (fun w579 hkw579 huw579 hsw579 => ?_)
  have hkw579 : Blk w579 b19 _ _ := hkw579
  have huw579 : Upd b19 _ _ := huw579
  have hk580 := hk574.up huw579
  have hk581 := hk575.up huw579
  have hk582 := hkw573.up huw579
  have hB584 := Upd.below hB578 oO huw579
  refine WL.nil <| ?_
  refine WY.done kR ?_
  refine W.ret ?_
  exact PostD.ret hb47 (fun w' => _) (tok_quiet b1 b5 b11 b19 _ hkw579) (fun w' hS => by subst hS; exact ⟨_, ResOk.cells4 rfl rfl rfl rfl rfl (ldRow hk580 underlying31 rfl isz31) (ldCell hk581 (isAgg9 _) rfl) (ldCell hk582 (isAgg3 _) rfl) (ldCell hkw579 (isAgg35 _) rfl), ⟨pc0 X.kind X.n [], ret_val rfl, PRep.zero _ _ _ _ _⟩, hB584⟩)
  refine WL.r (Rd.ld (isAgg9 _) rfl hk268 rfl) rfl <| WL.nil <| ?_
  refine WY.br1 0 rfl ?_
  refine WL.r (Rd.ldA rfl hk267 underlying31 rfl isz31) rfl <| WL.nil <| ?_
  refine WY.br1 6 rfl ?_
  refine WL.stL rfl rfl hk267 isz31 rfl rfl (fun w585 hkw585 huw585 hsw585 => ?_)
  have hk586 := hk268.up huw585
  have hk587 := hk269.up huw585
  have hk588 := hk270.up huw585
  have hB590 := Upd.below hB272 oO huw585
  refine WL.nil <| ?_
  refine WY.br1 7 rfl ?_
  refine WL.st sizeOf9 rfl rfl rfl hk586 oD (fun w591 hkw591 huw591 hsw591 => ?_)
  have hkw591 : Blk w591 b5 _ _ := hkw591
  have huw591 : Upd b5 _ _ := huw591
  have hk592 := hkw585.up huw591
  have hk593 := hk587.up huw591
  have hk594 := hk588.up huw591
  have hB596 := Upd.below hB590 oO huw591
  refine WL.nil <| ?_
  refine WY.br1 8 rfl ?_
  refine WL.st sizeOf3 rfl rfl rfl hk593 oD (fun w597 hkw597 huw597 hsw597 => ?_)
  have hkw597 : Blk w597 b11 _ _ := hkw597
  have huw597 : Upd b11 _ _ := huw597
  have hk598 := hk592.up huw597
  have hk599 := hkw591.up huw597
  have hk600 := hk594.up huw597
  have hB602 := Upd.below hB596 oO huw597
  refine WL.nil <| ?_
  refine WY.br1 9 rfl ?_
  refine WL.st sizeOf35 rfl rfl rfl hk600 oD (fun w603 hkw603 huw603 hsw603 => ?_)
  have hkw603 : Blk w603 b19 _ _ := hkw603
  have huw603 : Upd b19 _ _ := huw603
  have hk604 := hk598.up huw603
  have hk605 := hk599.up huw603
  have hk606 := hkw597.up huw603
  have hB608 := Upd.below hB602 oO huw603
  refine WL.nil <| ?_
  refine WY.done kR ?_
  refine W.ret ?_
  exact PostD.ret hb47 (fun w' => _) (tok_quiet b1 b5 b11 b19 _ hkw603) (fun w' hS => by subst hS; exact ⟨_, ResOk.cells4 rfl rfl rfl rfl rfl (ldRow hk604 underlying31 rfl isz31) (ldCell hk605 (isAgg9 _) rfl) (ldCell hk606 (isAgg3 _) rfl) (ldCell hkw603 (isAgg35 _) rfl), ⟨pc0 X.kind X.n [], ret_val rfl, PRep.zero _ _ _ _ _⟩, hB608⟩)
end
section
/-- the document's reader in memory -/
def RRd (w : World) (r : Nat) (p : Option Addr) (l : List UInt8) (c t : Nat) (refs : Bool) (e : Int) : Prop := Blk w r #[.slice p l.length c, .int .i64 (t : Int), .bool refs, .int .i64 e] 69 ∧ BytesAt w p l
def errK (e k : Int) : Int := if e = 0 then k else e
theorem r18_fail (r : Nat) (p : Option Addr) (l : List UInt8) (c t : Nat) (refs : Bool) (e k : Int) (w : World) (h : RRd w r p l c t refs e) (hne : 0 < l.length → (pA p).block ≠ r) :
  Calls Tryz.prog 74 #[.pointer (some ⟨r, 0, none⟩), .int .i64 k] w fun e' w' => e' = .returned (.agg (pobj 0 0 []).toArray) ∧ RRd w' r p l c t refs (errK e k) ∧ Touch w.heap.size r w w' := by
 have hr := h.1
 have hb := h.2
 refine W.enter func74 rfl ntmps74 (Nat.le_of_ble_eq_true rfl) ?_
 have hB0 := Touch.refl (w.heap.size) r w
 refine W.sr <| WL.alloc zeroValue31 rfl (fun b1 wb1 eb1 hkb1 hub1 hsb1 => ?_)
 have hl3 : r < b1 := by rw [eb1]; exact hr.lt
 have hk2 := hr.upd hub1 (Nat.ne_of_lt hl3)
 have hvl5 := fun h0 => eb1 ▸ hb.lt h0
 have hv4 := bup hb hub1 hvl5
 have hgeb1 : w.heap.size ≤ b1 := by rw [eb1]; exact hB0.size
 have hB6 := Touch.trans hB0 (Touch.of_new hub1 hgeb1)
 refine WL.nil <| ?_
 refine W.seq <| W.seq ?_
 have hrB : r < b1 := by have := hr.lt; omega
 refine W.reg <| WL.m rfl rfl <| WL.p (.nck rfl) rfl <| WL.p (.fa underlying69 rfl sizeOf35 dD rfl) rfl <| WL.r (Rd.ld (isAgg35 _) rfl hk2 rfl) rfl <| WL.p (.eql rfl rfl) rfl <| WL.nil <| ?_
 refine W.cond rfl (fun h7 => ?_) (fun h7 => ?_)
 have h7' := dT h7
 refine W.reg <| WL.m rfl rfl <| WL.m rfl rfl <| WL.p (.nck rfl) rfl <| WL.p (.fa underlying69 rfl sizeOf35 dD rfl) rfl <| WL.st sizeOf35 rfl rfl rfl hk2 oD (fun w8 hkw8 huw8 hsw8 => ?_)
 have hkw8 : Blk w8 r _ _ := hkw8
 have huw8 : Upd r _ _ := huw8
 have hk9 := hkb1.up huw8
 have hv10 := BytesAt.upd hv4 huw8 hne
 have hB11 := Touch.trans hB6 (Touch.of_upd huw8)
 refine WL.nil <| ?_
 refine W.sr <| WL.p (.buildL (ps := _) blt31 rfl rfl rfl pZ) rfl ?_
 refine WL.stL rfl rfl hk9 isz31 rfl rfl (fun w12 hkw12 huw12 hsw12 => ?_)
 have hk13 := hkw8.up huw12
 have hv14 := bup hv10 huw12 hvl5
 have hB15 := Touch.trans hB11 (Touch.of_new huw12 oO)
 refine WL.nil <| ?_
 refine W.ret (W.retc1 rfl rfl (ldRow hkw12 underlying31 rfl isz31)  ?_)
 exact ⟨rfl, ⟨by unfold errK; rw [if_pos aS]; exact hk13, hv14⟩, hB15⟩
 have h7' := dF h7
 refine W.skip <| W.sr <| WL.p (.buildL (ps := _) blt31 rfl rfl rfl pZ) rfl ?_
 refine WL.stL rfl rfl hkb1 isz31 rfl rfl (fun w16 hkw16 huw16 hsw16 => ?_)
 have hk17 := hk2.up huw16
 have hv18 := bup hv4 huw16 hvl5
 have hB19 := Touch.trans hB6 (Touch.of_new huw16 oO)
 refine WL.nil <| ?_
 refine W.ret (W.retc1 rfl rfl (ldRow hkw16 underlying31 rfl isz31)  ?_)
 exact ⟨rfl, ⟨by unfold errK; rw [if_neg aS]; exact hk17, hv18⟩, hB19⟩
theorem r18_hex (c : UInt8) (w : World) : Calls Tryz.prog 110 #[.int .u8 (c.toNat : Int)] w fun e w' => e = .returned (.int .i64 (digI c)) ∧ w = w' := by
 have hd := digI_cases c
 refine W.enter func110 rfl ntmps110 (Nat.le_of_ble_eq_true rfl) ?_
 refine W.sr <| WL.z rfl rfl ?_
 refine W.sr <| WL.m rfl rfl <| WL.c1 hb153 rfl rfl ((ref_Hex c _)) (fun w1 hw1 => ?_)
 obtain rfl := hw1
 refine WL.z rfl rfl ?_
 refine W.seq <| W.sr <| WL.m rfl rfl <| WL.p (.gtr rfl rfl) rfl <| WL.nil <| ?_
 refine W.cond rfl (fun h2 => ?_) (fun h2 => ?_)
 have h2' := dT h2
 refine W.sr <| WL.z rfl rfl ?_
 refine W.ret (W.ret1 rfl rfl ?_)
 exact ⟨ret_int oO, rfl⟩
 have h2' := dF h2
 refine W.skip <| W.sr <| WL.m rfl rfl <| WL.z rfl rfl ?_
 refine W.ret (W.ret1 rfl rfl ?_)
 exact ⟨ret_int oO, rfl⟩
theorem r18_skip (r : Nat) (p : Option Addr) (l : List UInt8) (c t : Nat) (refs : Bool) (w : World) (h : RRd w r p l c t refs 0) (hne : 0 < l.length → (pA p).block ≠ r) (hl : l.length ≤ 100000000) (ht : t ≤ l.length) :
  Calls Tryz.prog 112 #[.pointer (some ⟨r, 0, none⟩)] w fun e' w' => e' = .returned (.bool (decide (skipAt false l t < l.length))) ∧ RRd w' r p l c (skipAt false l t) refs (if skipAt false l t < l.length then 0 else 24) ∧ Touch w.heap.size r w w' := by
 have hr := h.1
 have hb := h.2
 obtain ⟨s, hs⟩ : ∃ s, s = skipAt false l t := ⟨_, rfl⟩
 have hS : ∀ w1, BytesAt w1 p l → Calls Tryz.prog 14 #[.slice p l.length c, .int .i64 (t : Int)] w1 fun e w' => e = .returned (.int .i64 (s : Int)) ∧ w1 = w' := fun w1 h1 => by rw [hs]; exact ref_Skip p l c t w1 h1 ht hl
 rw [← hs]
 refine W.enter func112 rfl ntmps112 (Nat.le_of_ble_eq_true rfl) ?_
 have hB0 := Touch.refl (w.heap.size) r w
 refine W.sr <| WL.z rfl rfl ?_
 refine W.seq <| W.regY 13 rfl mixed (fun w1 dw1 => ?_)
 have hk2 := hr.drew dw1
 have hv3 := hb.drew dw1
 have hB4 := Touch.trans hB0 (Touch.of_drew dw1)
 refine WY.tk 0 rfl (.mv rfl) rfl ?_
 refine WY.tk 1 rfl (.mv rfl) rfl ?_
 refine WY.tk 2 rfl (.nck rfl) rfl ?_
 refine WY.tk 3 rfl (.fa underlying69 rfl sizeOf22 dD rfl) rfl ?_
 refine WY.tk 5 rfl (.mv rfl) rfl ?_
 refine WY.tk 6 rfl (.nck rfl) rfl ?_
 refine WY.tk 7 rfl (.fa underlying69 rfl sizeOf3 dD rfl) rfl ?_
 refine WY.br2 4 rfl 8 rfl ?_ ?_
 refine WL.r (Rd.ld (isAgg22 _) rfl hk2 rfl) rfl <| WL.nil <| ?_
 refine WY.br1 8 rfl ?_
 refine WL.r (Rd.ld (isAgg3 _) rfl hk2 rfl) rfl <| WL.nil <| ?_
 refine WY.br1 9 rfl ?_
 refine WL.c1 hb14 rfl rfl ((hS _ hv3)) (fun w5 hw5 => ?_)
 obtain rfl := hw5
 refine WL.nil <| ?_
 refine WY.tk 10 rfl (.nck rfl) rfl ?_
 refine WY.tk 11 rfl (.fa underlying69 rfl sizeOf3 dD rfl) rfl ?_
 refine WY.br1 12 rfl ?_
 refine WL.st sizeOf3 rfl rfl rfl hk2 oD (fun w6 hkw6 huw6 hsw6 => ?_)
 have hkw6 : Blk w6 r _ _ := hkw6
 have huw6 : Upd r _ _ := huw6
 have hv7 := BytesAt.upd hv3 huw6 hne
 have hB8 := Touch.trans hB4 (Touch.of_upd huw6)
 refine WL.nil <| ?_
 refine WY.done kR ?_
 refine W.seq <| W.seq <| W.regY 10 rfl mixed (fun w9 dw9 => ?_)
 have hk10 := hkw6.drew dw9
 have hv11 := hv7.drew dw9
 have hB12 := Touch.trans hB8 (Touch.of_drew dw9)
 refine WY.tk 0 rfl (.mv rfl) rfl ?_
 refine WY.tk 1 rfl (.nck rfl) rfl ?_
 refine WY.tk 2 rfl (.fa underlying69 rfl sizeOf3 dD rfl) rfl ?_
 refine WY.tk 4 rfl (.mv rfl) rfl ?_
 refine WY.tk 5 rfl (.nck rfl) rfl ?_
 refine WY.tk 6 rfl (.fa underlying69 rfl sizeOf22 dD rfl) rfl ?_
 refine WY.br2 3 rfl 7 rfl ?_ ?_
 refine WL.r (Rd.ld (isAgg3 _) rfl hk10 rfl) rfl <| WL.nil <| ?_
 refine WY.br1 7 rfl ?_
 refine WL.r (Rd.ld (isAgg22 _) rfl hk10 rfl) rfl <| WL.nil <| ?_
 refine WY.tk 8 rfl (.lenS underlying22 rfl) rfl ?_
 refine WY.tk 9 rfl (.geq rfl rfl) rfl ?_
 refine WY.done kR ?_
 refine W.cond rfl (fun h13 => ?_) (fun h13 => ?_)
 have h13' := dT h13
 refine W.sr <| WL.m rfl rfl <| WL.c1 hb74 rfl rfl ((r18_fail r p l c s refs 0 24 _ ⟨hk10, hv11⟩ hne)) (fun w14 hw14 => ?_)
 have hk15 := hw14.1.1
 have hv16 := hw14.1.2
 have hB17 := Touch.trans hB12 (Touch.mono hw14.2 hB12.size)
 refine WL.nil <| ?_
 refine W.sr <| WL.z rfl rfl ?_
 refine W.ret (W.ret1 rfl rfl ?_)
 exact ⟨ret_bool (by simp; omega), ⟨by rw [if_neg oO]; exact hk15, hv16⟩, hB17⟩
 have h13' := dF h13
 refine W.skip <| W.sr <| WL.z rfl rfl ?_
 refine W.ret (W.ret1 rfl rfl ?_)
 exact ⟨ret_bool (by simp; omega), ⟨by rw [if_pos oO]; exact hk10, hv11⟩, hB12⟩
 refine WL.r (Rd.ld (isAgg22 _) rfl hk10 rfl) rfl <| WL.nil <| ?_
 refine WY.tk 8 rfl (.lenS underlying22 rfl) rfl ?_
 refine WY.br1 3 rfl ?_
 refine WL.r (Rd.ld (isAgg3 _) rfl hk10 rfl) rfl <| WL.nil <| ?_
 refine WY.tk 9 rfl (.geq rfl rfl) rfl ?_
 refine WY.done kR ?_
 refine W.cond rfl (fun h18 => ?_) (fun h18 => ?_)
 have h18' := dT h18
 refine W.sr <| WL.m rfl rfl <| WL.c1 hb74 rfl rfl ((r18_fail r p l c s refs 0 24 _ ⟨hk10, hv11⟩ hne)) (fun w19 hw19 => ?_)
 have hk20 := hw19.1.1
 have hv21 := hw19.1.2
 have hB22 := Touch.trans hB12 (Touch.mono hw19.2 hB12.size)
 refine WL.nil <| ?_
 refine W.sr <| WL.z rfl rfl ?_
 refine W.ret (W.ret1 rfl rfl ?_)
 exact ⟨ret_bool (by simp; omega), ⟨by rw [if_neg oO]; exact hk20, hv21⟩, hB22⟩
 have h18' := dF h18
 refine W.skip <| W.sr <| WL.z rfl rfl ?_
 refine W.ret (W.ret1 rfl rfl ?_)
 exact ⟨ret_bool (by simp; omega), ⟨by rw [if_pos oO]; exact hk10, hv11⟩, hB12⟩
 refine WL.r (Rd.ld (isAgg3 _) rfl hk2 rfl) rfl <| WL.nil <| ?_
 refine WY.br1 4 rfl ?_
 refine WL.r (Rd.ld (isAgg22 _) rfl hk2 rfl) rfl <| WL.nil <| ?_
 refine WY.br1 9 rfl ?_
 refine WL.c1 hb14 rfl rfl ((hS _ hv3)) (fun w23 hw23 => ?_)
 obtain rfl := hw23
 refine WL.nil <| ?_
 refine WY.tk 10 rfl (.nck rfl) rfl ?_
 refine WY.tk 11 rfl (.fa underlying69 rfl sizeOf3 dD rfl) rfl ?_
 refine WY.br1 12 rfl ?_
 refine WL.st sizeOf3 rfl rfl rfl hk2 oD (fun w24 hkw24 huw24 hsw24 => ?_)
 have hkw24 : Blk w24 r _ _ := hkw24
 have huw24 : Upd r _ _ := huw24
 have hv25 := BytesAt.upd hv3 huw24 hne
 have hB26 := Touch.trans hB4 (Touch.of_upd huw24)
 refine WL.nil <| ?_
 refine WY.done kR ?_
 refine W.seq <| W.seq <| W.regY 10 rfl mixed (fun w27 dw27 => ?_)
 have hk28 := hkw24.drew dw27
 have hv29 := hv25.drew dw27
 have hB30 := Touch.trans hB26 (Touch.of_drew dw27)
 refine WY.tk 0 rfl (.mv rfl) rfl ?_
 refine WY.tk 1 rfl (.nck rfl) rfl ?_
 refine WY.tk 2 rfl (.fa underlying69 rfl sizeOf3 dD rfl) rfl ?_
 refine WY.tk 4 rfl (.mv rfl) rfl ?_
 refine WY.tk 5 rfl (.nck rfl) rfl ?_
 refine WY.tk 6 rfl (.fa underlying69 rfl sizeOf22 dD rfl) rfl ?_
 refine WY.br2 3 rfl 7 rfl ?_ ?_
 refine WL.r (Rd.ld (isAgg3 _) rfl hk28 rfl) rfl <| WL.nil <| ?_
 refine WY.br1 7 rfl ?_
 refine WL.r (Rd.ld (isAgg22 _) rfl hk28 rfl) rfl <| WL.nil <| ?_
 refine WY.tk 8 rfl (.lenS underlying22 rfl) rfl ?_
 refine WY.tk 9 rfl (.geq rfl rfl) rfl ?_
 refine WY.done kR ?_
 refine W.cond rfl (fun h31 => ?_) (fun h31 => ?_)
 have h31' := dT h31
 refine W.sr <| WL.m rfl rfl <| WL.c1 hb74 rfl rfl ((r18_fail r p l c s refs 0 24 _ ⟨hk28, hv29⟩ hne)) (fun w32 hw32 => ?_)
 have hk33 := hw32.1.1
 have hv34 := hw32.1.2
 have hB35 := Touch.trans hB30 (Touch.mono hw32.2 hB30.size)
 refine WL.nil <| ?_
 refine W.sr <| WL.z rfl rfl ?_
 refine W.ret (W.ret1 rfl rfl ?_)
 exact ⟨ret_bool (by simp; omega), ⟨by rw [if_neg oO]; exact hk33, hv34⟩, hB35⟩
 have h31' := dF h31
 refine W.skip <| W.sr <| WL.z rfl rfl ?_
 refine W.ret (W.ret1 rfl rfl ?_)
 exact ⟨ret_bool (by simp; omega), ⟨by rw [if_pos oO]; exact hk28, hv29⟩, hB30⟩
 refine WL.r (Rd.ld (isAgg22 _) rfl hk28 rfl) rfl <| WL.nil <| ?_
 refine WY.tk 8 rfl (.lenS underlying22 rfl) rfl ?_
 refine WY.br1 3 rfl ?_
 refine WL.r (Rd.ld (isAgg3 _) rfl hk28 rfl) rfl <| WL.nil <| ?_
 refine WY.tk 9 rfl (.geq rfl rfl) rfl ?_
 refine WY.done kR ?_
 refine W.cond rfl (fun h36 => ?_) (fun h36 => ?_)
 have h36' := dT h36
 refine W.sr <| WL.m rfl rfl <| WL.c1 hb74 rfl rfl ((r18_fail r p l c s refs 0 24 _ ⟨hk28, hv29⟩ hne)) (fun w37 hw37 => ?_)
 have hk38 := hw37.1.1
 have hv39 := hw37.1.2
 have hB40 := Touch.trans hB30 (Touch.mono hw37.2 hB30.size)
 refine WL.nil <| ?_
 refine W.sr <| WL.z rfl rfl ?_
 refine W.ret (W.ret1 rfl rfl ?_)
 exact ⟨ret_bool (by simp; omega), ⟨by rw [if_neg oO]; exact hk38, hv39⟩, hB40⟩
 have h36' := dF h36
 refine W.skip <| W.sr <| WL.z rfl rfl ?_
 refine W.ret (W.ret1 rfl rfl ?_)
 exact ⟨ret_bool (by simp; omega), ⟨by rw [if_pos oO]; exact hk28, hv29⟩, hB30⟩
theorem r18_word (r : Nat) (p : Option Addr) (l : List UInt8) (c t : Nat) (refs : Bool) (e : Int) (a : Nat) (w : World) (h : RRd w r p l c t refs e) (hl : l.length ≤ 100000000) (hc : l.length ≤ c) (ha : a ≤ l.length) :
  Calls Tryz.prog 79 #[.pointer (some ⟨r, 0, none⟩), .int .i64 (a : Int)] w fun e' w' => e' = .returned (.tuple #[.string (bs (wordL l (skipAt false l a))), .int .i64 (wordAt l (skipAt false l a) : Int)]) ∧ w = w' := by
 have hr := h.1
 have hb := h.2
 obtain ⟨s, hs⟩ : ∃ s, s = skipAt false l a := ⟨_, rfl⟩
 have hsl : s ≤ l.length := by rw [hs]; exact skipAt_le _ _ _
 have hwl := wordAt_le l s hsl
 have hS : ∀ w1, BytesAt w1 p l → Calls Tryz.prog 14 #[.slice p l.length c, .int .i64 (a : Int)] w1 fun e w' => e = .returned (.int .i64 (s : Int)) ∧ w1 = w' := fun w1 h1 => by rw [hs]; exact ref_Skip p l c a w1 h1 ha hl
 rw [← hs]
 refine W.enter func79 rfl ntmps79 (Nat.le_of_ble_eq_true rfl) ?_
 refine W.sr <| WL.a rfl rfl <| WL.z rfl rfl ?_
 refine W.sr <| WL.m rfl rfl <| WL.p (.nck rfl) rfl <| WL.p (.fa underlying69 rfl sizeOf22 dD rfl) rfl <| WL.r (Rd.ld (isAgg22 _) rfl hr rfl) rfl <| WL.m rfl rfl <| WL.c1 hb14 rfl rfl ((hS _ hb)) (fun w1 hw1 => ?_)
 obtain rfl := hw1
 refine WL.z rfl rfl ?_
 refine W.sr <| WL.m rfl rfl <| WL.p (.nck rfl) rfl <| WL.p (.fa underlying69 rfl sizeOf22 dD rfl) rfl <| WL.r (Rd.ld (isAgg22 _) rfl hr rfl) rfl <| WL.m rfl rfl <| WL.c1 hb12 rfl rfl ((ref_Word p l c s _ hb hsl hl)) (fun w2 hw2 => ?_)
 obtain rfl := hw2
 refine WL.z rfl rfl ?_
 refine W.sr <| WL.m rfl rfl <| WL.p (.nck rfl) rfl <| WL.p (.fa underlying69 rfl sizeOf22 dD rfl) rfl <| WL.r (Rd.ld (isAgg22 _) rfl hr rfl) rfl <| WL.m rfl rfl <| WL.m rfl rfl <| WL.p (.slb underlying22 sizeOf5 rfl rfl rfl  (s) (wordAt l s) (rfl) oO oO oO) rfl <| WL.r (Rd.b2sPart underlying22 underlying5 underlying9 rfl rfl hb oO oO oO) rfl <| WL.m rfl rfl <| WL.a rfl rfl <| WL.z rfl rfl ?_
 refine W.ret (W.ret2 rfl rfl rfl ?_)
 exact ⟨rfl, rfl⟩
theorem realL2_kind (l : List UInt8) : (realL2 l).kind ≠ 1 := by
 unfold realL2 finL
 repeat' split
 all_goals (intro h; cases h)
theorem radixL_pm {s : List UInt8} (h : s.all pmDig = true) : (radixL s).ok = false := by
 have h35 : (35 : UInt8) ∉ s := fun hm => by
  have := List.all_eq_true.1 h _ hm
  exact absurd this dD
 unfold radixL radixOk
 rw [cutC_no 35 s h35]
 rfl
/-- a sign, perhaps, and digits -/
def intOk (s : List UInt8) : Bool := !(signedL s).2.isEmpty && (signedL s).2.all isDig
theorem intOk_pm {s : List UInt8} (h : intOk s = true) : s.all pmDig = true := by
 unfold intOk at h
 rw [Bool.and_eq_true] at h
 have hd : ∀ r : List UInt8, r.all isDig = true → r.all pmDig = true := fun r hr => List.all_eq_true.2 fun x hx => by
  have := List.all_eq_true.1 hr x hx
  unfold pmDig; rw [this]; rfl
 cases s with
 | nil => rfl
 | cons c r =>
  have h2 := h.2
  simp only [signedL] at h2
  split at h2
  ·
   next hc => subst hc; rw [List.all_cons, hd r h2]; decide
  ·
   split at h2
   ·
    next hc => subst hc; rw [List.all_cons, hd r h2]; decide
   ·
    exact hd _ h2
theorem pm_intOk {s : List UInt8} (h : s.all pmDig = true) (ho : (tokenL s).ok = true) (hk : (tokenL s).kind = 1) : intOk s = true := by
 unfold tokenL at ho hk
 rw [radixL_pm h] at ho hk
 simp only [Bool.false_eq_true, if_false] at ho hk
 split at ho
 ·
  cases ho
 ·
  next hn =>
  rw [if_neg hn] at hk
  split at ho
  ·
   next hw =>
   unfold wholeT at hw
   split at hw
   ·
    cases hw
   ·
    next hx => unfold intOk; cases h1 : (signedL s).2.isEmpty <;> cases h2 : (signedL s).2.all isDig <;> rw [h1, h2] at hx <;> first | rfl | exact absurd rfl hx
  ·
   next hw => rw [if_neg hw] at hk; exact absurd hk (realL2_kind s)
theorem numR_int (s : List UInt8) : numR s = if s.contains 46 then (3, (parseP s).1, (parseP s).2) else if intOk s && ((tokenL s).ok && decide ((tokenL s).e = 0) && decide ((tokenL s).kind = 1)) then (2, (tokenL s).n, true) else (0, 0, false) := by
 unfold numR
 split
 ·
  rfl
 ·
  have : ((tokenL s).ok && decide ((tokenL s).e = 0) && decide ((tokenL s).kind = 1) && s.all pmDig) = (intOk s && ((tokenL s).ok && decide ((tokenL s).e = 0) && decide ((tokenL s).kind = 1))) := by
   rw [Bool.eq_iff_iff]
   simp only [Bool.and_eq_true, decide_eq_true_eq]
   exact ⟨fun h => ⟨pm_intOk h.2 h.1.1.1 h.1.2, h.1⟩, fun h => ⟨h.2, intOk_pm h.1⟩⟩
  rw [this]
end
section
theorem contains_step (l : List UInt8) (i : Nat) (h : i < l.length) : (l.take (i + 1)).contains 46 = ((l.take i).contains 46 || decide ((l[i].toNat : Int) = 46)) := by
 rw [List.take_succ_eq_append_getElem h, Bool.eq_iff_iff]
 simp only [List.contains_append, Bool.or_eq_true, decide_eq_true_eq]
 constructor
 ·
  rintro (h1 | h1)
  ·
   exact .inl h1
  ·
   refine .inr ?_
   simp at h1
   rw [← h1]; rfl
 ·
  rintro (h1 | h1)
  ·
   exact .inl h1
  ·
   refine .inr ?_
   rw [u8_eq (d := 46) h1]; simp
theorem signedL_drop {s : List UInt8} (h : 0 < s.length) (hc : s[0] = 43 ∨ s[0] = 45) : (signedL s).2 = s.drop 1 := by
 cases s with
 | nil => simp at h
 | cons c r =>
  simp only [List.getElem_cons_zero] at hc
  simp only [signedL]
  split
  ·
   rfl
  ·
   split
   ·
    rfl
   ·
    next h1 h2 => exact absurd hc (by rintro (h | h); exact h2 h; exact h1 h)
theorem signedL_same {s : List UInt8} (hc : ∀ h : 0 < s.length, ¬ (s[0] = 43 ∨ s[0] = 45)) : (signedL s).2 = s := by
 cases s with
 | nil => rfl
 | cons c r =>
  have hc := hc (by simp)
  simp only [List.getElem_cons_zero] at hc
  simp only [signedL]
  split
  ·
   next h1 => exact absurd (.inr h1) hc
  ·
   split
   ·
    next h1 => exact absurd (.inl h1) hc
   ·
    rfl
theorem digN_eq (l : List UInt8) : decide ((digN l : Int) = l.length) = l.all isDig := by
 rw [digN_all, Bool.eq_iff_iff]
 have := digN_le l
 rw [List.isEmpty_iff, List.drop_eq_nil_iff, decide_eq_true_eq]
 omega
theorem r18_Number (s : List UInt8) (w : World) (hl : s.length ≤ 100000000) :
  Calls Tryz.prog 81 #[.string (bs s)] w fun e w' => e = .returned (.tuple #[.agg (pobj (numR s).1 (numR s).2.1 []).toArray, .bool (numR s).2.2]) ∧ Below w.heap.size w w' := by
 obtain ⟨T, hT⟩ : ∃ T, T = tokenL s := ⟨_, rfl⟩
 have hTc : ∀ w, Calls Tryz.prog 118 #[.string (bs s)] w fun e w' => e = .returned T.val ∧ Below w.heap.size w w' := fun w => by rw [hT]; exact ref_Token _ w
 have hN := numR_int s
 rw [← hT] at hN
 have hsg : (signedL s).2.length ≤ s.length := by cases s with
  | nil => exact Nat.le_refl _
  | cons c r => simp only [signedL]; split; simp; split; simp; simp
 refine W.enter func81 rfl ntmps81 (Nat.le_of_ble_eq_true rfl) ?_
 have hB0 := Below.refl (w.heap.size) w
 refine W.sr <| WL.alloc zeroValue31 rfl (fun b1 wb1 eb1 hkb1 hub1 hsb1 => ?_)
 have hB2 := Upd.below hB0 (by rw [eb1]; exact hB0.size) hub1
 have hgeb1 : w.heap.size ≤ b1 := by rw [eb1]; exact hB0.size
 refine WL.z rfl rfl ?_
 refine W.sr <| WL.z rfl rfl ?_
 refine W.seq <| W.sr <| WL.z rfl rfl ?_
 refine W.block ?_
 refine W.loop (α := Nat) (fun t => [(0, .string (bs s)), (2, .pointer (some ⟨b1, 0, none⟩)), (4, .bool ((s.take t).contains 46)), (5, .int .i64 (t : Int))]) (fun t w' => Below w.heap.size w w' ∧ Blk w' b1 (pobj 0 0 []).toArray 31 ∧ t ≤ s.length) (fun t => s.length - t) (0) ⟨rfl, rfl, rfl, rfl, trivial⟩ (⟨hB2, hkb1, Nat.zero_le _⟩) (fun t w1 hR => ?_)
 obtain ⟨hT1, hk1, htl⟩ := hR
 refine W.seq <| W.sr <| WL.m rfl rfl <| WL.m rfl rfl <| WL.p (.len underlying9 rfl) rfl <| WL.p (.lss rfl rfl) rfl <| WL.nil <| ?_
 refine W.cond rfl (fun h3 => ?_) (fun h3 => ?_)
 have h3' := dT h3
 refine W.skip <| W.seq <| W.block <| W.reg <| WL.m rfl rfl <| WL.m rfl rfl <| WL.gd rfl rfl rfl (fun g4 => ?_) (fun g4 => ?_)
 refine WL.m rfl rfl <| WL.gy rfl rfl rfl g4 <| WL.m rfl rfl <| WL.gy rfl rfl rfl g4 <| WL.p (.ix underlying9 rfl rfl (t) (rfl) oO) rfl <| WL.gy rfl rfl rfl g4 <| WL.p (.eql rfl rfl) rfl <| WL.p (.pkF rfl g4 rfl) rfl <| WL.z rfl rfl ?_
 refine W.reg <| WL.m rfl rfl <| WL.p (.add rfl rfl (i64w oO)) rfl <| WL.z rfl rfl ?_
 exact ⟨t + 1, ⟨rfl, rfl, lk_b rfl (by rw [contains_step s t oO, show (s.take t).contains 46 = _ by assumption]; rfl), rfl, trivial⟩, ⟨hT1, hk1, by omega⟩, by omega⟩
 refine WL.gn rfl rfl rfl g4 <| WL.gn rfl rfl rfl g4 <| WL.gn rfl rfl rfl g4 <| WL.p (.pkT rfl g4 rfl) rfl <| WL.z rfl rfl ?_
 refine W.reg <| WL.m rfl rfl <| WL.p (.add rfl rfl (i64w oO)) rfl <| WL.z rfl rfl ?_
 exact ⟨t + 1, ⟨rfl, rfl, lk_b rfl (by rw [contains_step s t oO, show (s.take t).contains 46 = _ by assumption]; rfl), rfl, trivial⟩, ⟨hT1, hk1, by omega⟩, by omega⟩
 have h3' := dF h3
 have hfull : s.take t = s := List.take_of_length_le oO
 refine W.exit <| W.seq <| W.sr <| WL.m rfl rfl <| WL.nil <| ?_
 refine W.cond rfl (fun h5 => ?_) (fun h5 => ?_)
 rw [if_pos (by rw [← hfull]; assumption)] at hN
 refine W.sr <| WL.m rfl rfl <| WL.c1 hb117 rfl rfl ((ref_Parse s _)) (fun w6 hw6 => ?_)
 have hk7 := hk1.below hw6 hk1.lt
 have hB8 := btr hT1 hw6
 refine WL.m rfl rfl <| WL.p (.ext rfl rfl) rfl <| WL.p (.ext rfl rfl) rfl <| WL.a rfl rfl <| WL.z rfl rfl ?_
 refine W.sr <| WL.m rfl rfl <| ?_
 refine WL.p (.buildL (ps := _) blt31 rfl rfl rfl pS) rfl ?_
 refine WL.m rfl rfl <| WL.stL rfl rfl hk7 isz31 rfl rfl (fun w9 hkw9 huw9 hsw9 => ?_)
 have hB10 := Upd.below hB8 oO huw9
 refine WL.z rfl rfl ?_
 refine W.ret (W.retc2 rfl rfl (ldRow hkw9 underlying31 rfl isz31) rfl ?_)
 exact ⟨ret_val (by rw [hN]; rfl), hB10⟩
 rw [if_neg (by rw [← hfull]; exact bF aS)] at hN
 refine W.skip <| W.sr <| WL.m rfl rfl <| WL.z rfl rfl ?_
 refine W.cut (α := Unit) (fun t => [(0, .string (bs s)), (2, .pointer (some ⟨b1, 0, none⟩)), (8, .string (bs (signedL s).2))]) (fun t w' => Below w.heap.size w w' ∧ Blk w' b1 (pobj 0 0 []).toArray 31) ?_ (fun t w1 hR => ?_)
 refine W.sr <| WL.m rfl rfl <| WL.p (.len underlying9 rfl) rfl <| WL.p (.gtr rfl rfl) rfl <| WL.m rfl rfl <| WL.gd rfl rfl rfl (fun g11 => ?_) (fun g11 => ?_)
 have g11' := dT g11
 refine WL.m rfl rfl <| WL.gy rfl rfl rfl g11 <| WL.p (.ix underlying9 rfl rfl 0 rfl oO) rfl <| WL.gy rfl rfl rfl g11 <| WL.p (.eql rfl rfl) rfl <| WL.gy rfl rfl rfl g11 <| WL.m rfl rfl <| WL.gd rfl rfl rfl (fun g12 => ?_) (fun g12 => ?_)
 have g12' := dF g12
 refine WL.m rfl rfl <| WL.gy rfl rfl rfl g12 <| WL.p (.ix underlying9 rfl rfl 0 rfl oO) rfl <| WL.gy rfl rfl rfl g12 <| WL.p (.eql rfl rfl) rfl <| WL.gy rfl rfl rfl g11 <| WL.p (.pkF rfl g12 rfl) rfl <| WL.p (.pkT rfl g11 rfl) rfl <| WL.nil <| ?_
 refine W.cond rfl (fun h13 => ?_) (fun h13 => ?_)
 have h13' := dT h13
 refine W.reg <| WL.m rfl rfl <| WL.p (.slF underlying9 rfl rfl 1 rfl oO) rfl <| WL.z rfl rfl ?_
 exact ⟨(), ⟨rfl, rfl, lk_s rfl (signedL_drop oO (.inr (u8_eq (d := 45) aS))).symm, trivial⟩, hT1, hk1⟩
 have h13' := dF h13
 refine W.skip ?_
 exact ⟨(), ⟨rfl, rfl, lk_s rfl (signedL_same fun h => not_or.2 ⟨u8_ne (d := 43) aS, u8_ne (d := 45) aS⟩).symm, trivial⟩, hT1, hk1⟩
 have g12' := dT g12
 refine WL.gn rfl rfl rfl g12 <| WL.gn rfl rfl rfl g12 <| WL.gy rfl rfl rfl g11 <| WL.p (.pkT rfl g12 rfl) rfl <| WL.p (.pkT rfl g11 rfl) rfl <| WL.nil <| ?_
 refine W.condT rfl rfl ?_
 refine W.reg <| WL.m rfl rfl <| WL.p (.slF underlying9 rfl rfl 1 rfl oO) rfl <| WL.z rfl rfl ?_
 exact ⟨(), ⟨rfl, rfl, lk_s rfl (signedL_drop oO (.inl (u8_eq (d := 43) aS))).symm, trivial⟩, hT1, hk1⟩
 have g11' := dF g11
 refine WL.gn rfl rfl rfl g11 <| WL.gn rfl rfl rfl g11 <| WL.gn rfl rfl rfl g11 <| WL.gu rfl rfl rfl <| WL.gu rfl rfl rfl <| WL.gu rfl rfl rfl <| WL.gn rfl rfl rfl g11 <| WL.p (.pkF rfl g11 rfl) rfl <| WL.nil <| ?_
 refine W.condF rfl rfl ?_
 refine W.skip ?_
 exact ⟨(), ⟨rfl, rfl, lk_s rfl (signedL_same fun h => absurd h oO).symm, trivial⟩, hT1, hk1⟩
 obtain ⟨hT1, hk1⟩ := hR
 refine W.seq ?_
 refine W.cutB 59 (!intOk s) ?_ ?_
 refine W.reg <| WL.m rfl rfl <| WL.p (.len underlying9 rfl) rfl <| WL.p (.eql rfl rfl) rfl <| WL.m rfl rfl <| WL.gd rfl rfl rfl (fun g14 => ?_) (fun g14 => ?_)
 have g14' := dF g14
 refine WL.m rfl rfl <| WL.gy rfl rfl rfl g14 <| WL.c1 hb80 rfl rfl ((ref_Digits (signedL s).2 _ oO)) (fun w15 hw15 => ?_)
 obtain rfl := hw15
 refine WL.gy rfl rfl rfl g14 <| WL.m rfl rfl <| WL.gy rfl rfl rfl g14 <| WL.p (.len underlying9 rfl) rfl <| WL.gy rfl rfl rfl g14 <| WL.p (.neq rfl rfl) rfl <| WL.p (.pkF rfl g14 rfl) rfl <| WL.nil <| ?_
 exact ⟨leE (lk_b rfl (by (have hq := digN_eq (signedL s).2; unfold intOk; rw [← hq]; cases hs : (signedL s).2 <;> simp_all <;> omega))), rfl⟩
 have g14' := dT g14
 refine WL.gn rfl rfl rfl g14 <| WL.gn rfl rfl rfl g14 <| WL.gn rfl rfl rfl g14 <| WL.gn rfl rfl rfl g14 <| WL.p (.pkT rfl g14 rfl) rfl <| WL.nil <| ?_
 exact ⟨leE (lk_b rfl (by (have hq := digN_eq (signedL s).2; unfold intOk; rw [← hq]; cases hs : (signedL s).2 <;> simp_all <;> omega))), rfl⟩
 refine W.cond rfl (fun h16 => ?_) (fun h16 => ?_)
 rw [show intOk s = false from nT aS, Bool.false_and, if_neg (by simp)] at hN
 refine W.sr <| WL.p (.buildL (ps := _) blt31 rfl rfl rfl pZ) rfl ?_
 refine WL.stL rfl rfl hk1 isz31 rfl rfl (fun w17 hkw17 huw17 hsw17 => ?_)
 have hB18 := Upd.below hT1 oO huw17
 refine WL.z rfl rfl ?_
 refine W.ret (W.retc2 rfl rfl (ldRow hkw17 underlying31 rfl isz31) rfl ?_)
 exact ⟨ret_val (by rw [hN]; rfl), hB18⟩
 rw [show intOk s = true from nF aS, Bool.true_and] at hN
 refine W.skip <| W.sr <| WL.m rfl rfl <| WL.c1 hb118 rfl rfl ((hTc _)) (fun w19 hw19 => ?_)
 have hk20 := hk1.below hw19 hk1.lt
 have hB21 := btr hT1 hw19
 refine WL.m rfl rfl <| WL.p (.ext rfl rfl) rfl <| WL.p (.ext rfl rfl) rfl <| WL.p (.ext rfl rfl) rfl <| WL.alloc zeroValue143 rfl (fun b22 wb22 eb22 hkb22 hub22 hsb22 => ?_)
 have hl24 : b1 < b22 := by rw [eb22]; exact hk20.lt
 have hk23 := hk20.upd hub22 (Nat.ne_of_lt hl24)
 have hB25 := Upd.below hB21 (by rw [eb22]; exact hB21.size) hub22
 have hgeb22 : w.heap.size ≤ b22 := by rw [eb22]; exact hB21.size
 refine WL.stL rfl rfl hkb22 isz143 rfl rfl (fun w26 hkw26 huw26 hsw26 => ?_)
 have hk27 := hk23.up huw26
 have hB28 := Upd.below hB25 oO huw26
 refine WL.a rfl rfl <| WL.z rfl rfl ?_
 refine W.seq ?_
 refine W.cutB 77 (!(T.ok && decide (T.e = 0) && decide (T.kind = 1))) ?_ ?_
 refine W.reg <| WL.m rfl rfl <| WL.p (.not rfl) rfl <| WL.m rfl rfl <| WL.gd rfl rfl rfl (fun g29 => ?_) (fun g29 => ?_)
 have g29' := (nF g29)
 refine WL.m rfl rfl <| WL.gy rfl rfl rfl (by rw [(nF g29)] <;> rfl) <| WL.p (.neq rfl rfl) rfl <| WL.p (.pkF rfl (by rw [(nF g29)] <;> rfl) rfl) rfl <| WL.m rfl rfl <| WL.gd rfl rfl rfl (fun g30 => ?_) (fun g30 => ?_)
 have g30' := ndF g30
 refine WL.p (.fa underlying143 rfl sizeOf3 dD rfl) rfl <| WL.gy rfl rfl rfl g30 <| WL.r (Rd.ld (isAgg3 _) rfl hkw26 rfl) rfl <| WL.gy rfl rfl rfl g30 <| WL.p (.neq rfl rfl) rfl <| WL.p (.pkF rfl g30 rfl) rfl <| WL.nil <| ?_
 exact ⟨leE (lk_b rfl (by (clear hN hT hTc; simp_all))), rfl⟩
 have g30' := ndT g30
 refine WL.gn rfl rfl rfl g30 <| WL.gn rfl rfl rfl g30 <| WL.p (.pkT rfl g30 rfl) rfl <| WL.nil <| ?_
 exact ⟨leE (lk_b rfl (by (clear hN hT hTc; simp_all))), rfl⟩
 have g29' := (nT g29)
 refine WL.gn rfl rfl rfl (by rw [(nT g29)] <;> rfl) <| WL.p (.pkT rfl (by rw [(nT g29)] <;> rfl) rfl) rfl <| WL.m rfl rfl <| WL.gn rfl rfl rfl rfl <| WL.gn rfl rfl rfl rfl <| WL.gn rfl rfl rfl rfl <| WL.p (.pkT rfl rfl rfl) rfl <| WL.nil <| ?_
 exact ⟨leE (lk_b rfl (by (clear hN hT hTc; simp_all))), rfl⟩
 refine W.cond rfl (fun h31 => ?_) (fun h31 => ?_)
 rw [show (T.ok && decide (T.e = 0) && decide (T.kind = 1)) = false from nT aS, if_neg (by simp)] at hN
 refine W.sr <| WL.p (.buildL (ps := _) blt31 rfl rfl rfl pZ) rfl ?_
 refine WL.stL rfl rfl hk27 isz31 rfl rfl (fun w32 hkw32 huw32 hsw32 => ?_)
 have hB34 := Upd.below hB28 oO huw32
 refine WL.z rfl rfl ?_
 refine W.ret (W.retc2 rfl rfl (ldRow hkw32 underlying31 rfl isz31) rfl ?_)
 exact ⟨ret_val (by rw [hN]; rfl), hB34⟩
 rw [show (T.ok && decide (T.e = 0) && decide (T.kind = 1)) = true from nF aS, if_pos rfl] at hN
 refine W.skip <| W.sr <| WL.p (.fa underlying143 rfl sizeOf3 dD rfl) rfl <| WL.r (Rd.ld (isAgg3 _) rfl hkw26 rfl) rfl <| ?_
 refine WL.p (.buildL (ps := _) blt31 rfl rfl rfl pS) rfl ?_
 refine WL.stL rfl rfl hk27 isz31 rfl rfl (fun w35 hkw35 huw35 hsw35 => ?_)
 have hB37 := Upd.below hB28 oO huw35
 refine WL.z rfl rfl ?_
 refine W.ret (W.retc2 rfl rfl (ldRow hkw35 underlying31 rfl isz31) rfl ?_)
 exact ⟨ret_val (by rw [hN]; rfl), hB37⟩
end
section
theorem skipAt_stop {l : List UInt8} {t : Nat} (h : t < l.length) (hb : blankB l[t] = false) (h37 : l[t] ≠ 37) : skipAt false l t = t := by
 rw [skipAt_f l t h, if_neg h37, if_neg (by rw [hb]; simp)]
theorem skipAt_head {l : List UInt8} {t : Nat} (h : skipAt false l t < l.length) : blankB l[skipAt false l t] = false ∧ l[skipAt false l t] ≠ 37 := by
 have h1 := skipAt_drop false l t
 rw [List.drop_eq_getElem_cons h] at h1
 exact skipS_head _ _ h1.symm
theorem skipAt_idem (l : List UInt8) (t : Nat) : skipAt false l (skipAt false l t) = skipAt false l t := by
 rcases Nat.lt_or_ge (skipAt false l t) l.length with h | h
 ·
  have h1 := skipAt_head h
  exact skipAt_stop h h1.1 h1.2
 ·
  rw [skipAt_end false l _ h]
  have := skipAt_le false l t
  omega
theorem whole61 (refs : Bool) (s : List UInt8) : (refs && wholeOk s) = (refs && decide ((1 : Int) ≤ (s.length : Int)) && decide ((s.length : Int) ≤ 10) && decide ((digN s : Int) = (s.length : Int))) := by
 rw [digN_eq]
 unfold wholeOk
 have h1 : (!decide (s = [])) = decide ((1 : Int) ≤ (s.length : Int)) := by cases s <;> simp; omega
 have h2 : decide (s.length ≤ 10) = decide ((s.length : Int) ≤ 10) := by rw [Bool.eq_iff_iff]; simp only [decide_eq_true_eq]; omega
 rw [h1, h2, Bool.and_assoc, Bool.and_assoc, Bool.and_assoc]
theorem refIf_none {A : Bool} {z q : Prop} [Decidable z] [Decidable q] {x : Int × Nat} (h : ¬ (A = true ∧ z ∧ q)) : (if A then (if z then (if q then some x else none) else none) else none) = none := by
 split
 ·
  split
  ·
   split
   ·
    exact absurd ⟨by assumption, by assumption, by assumption⟩ h
   ·
    rfl
  ·
   rfl
 ·
  rfl
theorem ref_no {refs : Bool} {s : List UInt8} (h : (refs && (wholeV s 4096).2 && decide (1 ≤ (wholeV s 4096).1)) = true) (h2 : (refs && wholeOk s) = false) : False := by
 simp only [Bool.and_eq_true] at h
 rw [h.1.1, Bool.true_and] at h2
 have := h.1.2
 unfold wholeV at this
 rw [h2] at this
 cases this
theorem r18_plain (r : Nat) (p : Option Addr) (l : List UInt8) (c t : Nat) (refs : Bool) (w : World) (h : RRd w r p l c t refs 0) (hne : 0 < l.length → (pA p).block ≠ r) (hc : l.length ≤ c) (hl : l.length ≤ 100000000) (ht : t ≤ l.length) (hst : skipAt false l t = t) :
    Calls Tryz.prog 49 #[.pointer (some ⟨r, 0, none⟩)] w fun e w' => e = .returned (plexW refs l t).val ∧ RRd w' r p l c (plexW refs l t).np refs 0 ∧ Touch w.heap.size r w w' := by
  have hr := h.1
  have hb := h.2
  obtain ⟨X, hX⟩ : ∃ X, X = plexW refs l t := ⟨_, rfl⟩
  rw [← hX]
  unfold plexW at hX
  have hwt := wordAt_le l t ht
  have hsl := wordL_len l t
  have hWq : ∀ w1, RRd w1 r p l c t refs 0 → Calls Tryz.prog 79 #[.pointer (some ⟨r, 0, none⟩), .int .i64 (t : Int)] w1 fun e' w' => e' = .returned (.tuple #[.string (bs (wordL l t)), .int .i64 (wordAt l t : Int)]) ∧ w1 = w' := fun w1 h1 => by
    have := r18_word r p l c t refs 0 t w1 h1 hl hc ht
    rw [hst] at this
    exact this
  generalize wordL l t = s at hX hsl hWq
  generalize wordAt l t = t1 at hX hwt hWq
  obtain ⟨a, ha⟩ : ∃ a, a = skipAt false l t1 := ⟨_, rfl⟩
  obtain ⟨b, hbb⟩ : ∃ b, b = skipAt false l (wordAt l a) := ⟨_, rfl⟩
  have hal : a ≤ l.length := by rw [ha]; exact skipAt_le _ _ _
  have hbl : b ≤ l.length := by rw [hbb]; exact skipAt_le _ _ _
  have hwa := wordAt_le l a hal
  have hwb := wordAt_le l b hbl
  have hRR : refR refs l s t1 = if refs && (wholeV s 4096).2 && decide (1 ≤ (wholeV s 4096).1) then (if wordL l a = [48] then (if wordL l b = [82] then some ((wholeV s 4096).1, wordAt l b) else none) else none) else none := by rw [hbb, ha]; rfl
  have hA : ∀ w1, RRd w1 r p l c t1 refs 0 → Calls Tryz.prog 79 #[.pointer (some ⟨r, 0, none⟩), .int .i64 (t1 : Int)] w1 fun e' w' => e' = .returned (.tuple #[.string (bs (wordL l a)), .int .i64 (wordAt l a : Int)]) ∧ w1 = w' := fun w1 h1 => by rw [ha]; exact r18_word r p l c t1 refs 0 t1 w1 h1 hl hc oO
  have hBq : ∀ w1, RRd w1 r p l c t1 refs 0 → Calls Tryz.prog 79 #[.pointer (some ⟨r, 0, none⟩), .int .i64 (wordAt l a : Int)] w1 fun e' w' => e' = .returned (.tuple #[.string (bs (wordL l b)), .int .i64 (wordAt l b : Int)]) ∧ w1 = w' := fun w1 h1 => by rw [hbb]; exact r18_word r p l c t1 refs 0 (wordAt l a) w1 h1 hl hc oO
  generalize refR refs l s t1 = R at hX hRR
  have hT0 : True := trivial
  refine W.enter func49 rfl ntmps49 (Nat.le_of_ble_eq_true rfl) ?_
  have hB0 := Touch.refl (w.heap.size) r w
  refine W.sr <| WL.alloc zeroValue31 rfl (fun b1 wb1 eb1 hkb1 hub1 hsb1 => ?_)
  have hl3 : r < b1 := by rw [eb1]; exact hr.lt
  have hk2 := hr.upd hub1 (Nat.ne_of_lt hl3)
  have hvl5 := fun h0 => eb1 ▸ hb.lt h0
  have hv4 := bup hb hub1 hvl5
  have hgeb1 : w.heap.size ≤ b1 := by rw [eb1]; exact hB0.size
  have hB6 := Touch.trans hB0 (Touch.of_new hub1 hgeb1)
  refine WL.a rfl rfl <| WL.z rfl rfl ?_
  refine W.seq ?_
  have hrB : r < b1 := by have := hr.lt; omega
  refine W.reg <| WL.m rfl rfl <| WL.m rfl rfl <| WL.p (.nck rfl) rfl <| WL.p (.fa underlying69 rfl sizeOf3 dD rfl) rfl <| WL.r (Rd.ld (isAgg3 _) rfl hk2 rfl) rfl <| WL.c1 hb79 rfl rfl ((hWq _ ⟨hk2, hv4⟩)) (fun w7 hw7 => ?_)
  obtain rfl := hw7
  refine WL.m rfl rfl <| WL.p (.ext rfl rfl) rfl <| WL.p (.ext rfl rfl) rfl <| WL.a rfl rfl <| WL.z rfl rfl ?_
  refine W.sr <| WL.m rfl rfl <| WL.m rfl rfl <| WL.p (.nck rfl) rfl <| WL.p (.fa underlying69 rfl sizeOf3 dD rfl) rfl <| WL.st sizeOf3 rfl rfl rfl hk2 oD (fun w8 hkw8 huw8 hsw8 => ?_)
  have hkw8 : Blk w8 r _ _ := hkw8
  have huw8 : Upd r _ _ := huw8
  have hk9 := hkb1.up huw8
  have hv10 := BytesAt.upd hv4 huw8 hne
  have hB11 := Touch.trans hB6 (Touch.of_upd huw8)
  refine WL.nil <| ?_
  refine W.seq <| W.sr <| WL.m rfl rfl <| WL.nil <| ?_
  refine W.block <| W.sr <| WL.p (.eqs rfl rfl) rfl <| WL.z rfl rfl ?_
  refine W.cond rfl (fun h12 => ?_) (fun h12 => ?_)
  · have h12' := dT h12
    refine W.sr <| WL.p (.buildL (ps := _) blt31 rfl rfl rfl pZ) rfl ?_
    refine WL.m rfl rfl <| WL.stL rfl rfl hk9 isz31 rfl rfl (fun w13 hkw13 huw13 hsw13 => ?_)
    have hk14 := hkw8.up huw13
    have hv15 := bup hv10 huw13 hvl5
    have hB16 := Touch.trans hB11 (Touch.of_new huw13 oO)
    refine WL.a rfl rfl <| WL.z rfl rfl ?_
    refine W.ret (W.retc3 rfl rfl (ldRow hkw13 underlying31 rfl isz31) rfl rfl ?_)
    (rw [if_pos aS] at hX; subst hX; exact ⟨rfl, ⟨hk14, hv15⟩, hB16⟩)
  have h12' := dF h12
  refine W.sr <| WL.p (.eqs rfl rfl) rfl <| WL.z rfl rfl ?_
  refine W.cond rfl (fun h17 => ?_) (fun h17 => ?_)
  · have h17' := dT h17
    refine W.sr <| WL.p (.buildL (ps := _) blt31 rfl rfl rfl pS) rfl ?_
    refine WL.m rfl rfl <| WL.stL rfl rfl hk9 isz31 rfl rfl (fun w18 hkw18 huw18 hsw18 => ?_)
    have hk19 := hkw8.up huw18
    have hv20 := bup hv10 huw18 hvl5
    have hB21 := Touch.trans hB11 (Touch.of_new huw18 oO)
    refine WL.a rfl rfl <| WL.z rfl rfl ?_
    refine W.ret (W.retc3 rfl rfl (ldRow hkw18 underlying31 rfl isz31) rfl rfl ?_)
    (rw [if_neg aS, if_pos aS] at hX; subst hX; exact ⟨rfl, ⟨hk19, hv20⟩, hB21⟩)
  have h17' := dF h17
  refine W.sr <| WL.p (.eqs rfl rfl) rfl <| WL.z rfl rfl ?_
  refine W.cond rfl (fun h22 => ?_) (fun h22 => ?_)
  · have h22' := dT h22
    refine W.sr <| WL.p (.buildL (ps := _) blt31 rfl rfl rfl pS) rfl ?_
    refine WL.m rfl rfl <| WL.stL rfl rfl hk9 isz31 rfl rfl (fun w23 hkw23 huw23 hsw23 => ?_)
    have hk24 := hkw8.up huw23
    have hv25 := bup hv10 huw23 hvl5
    have hB26 := Touch.trans hB11 (Touch.of_new huw23 oO)
    refine WL.a rfl rfl <| WL.z rfl rfl ?_
    refine W.ret (W.retc3 rfl rfl (ldRow hkw23 underlying31 rfl isz31) rfl rfl ?_)
    (rw [if_neg aS, if_neg aS, if_pos aS] at hX; subst hX; exact ⟨rfl, ⟨hk24, hv25⟩, hB26⟩)
  have h22' := dF h22
  refine W.skip ?_
  refine W.cut (α := Unit) (fun t => [(0, .pointer (some ⟨r, 0, none⟩)), (2, .pointer (some ⟨b1, 0, none⟩)), (5, .string (bs s))]) (fun t w' => Touch w.heap.size r w w' ∧ RRd w' r p l c t1 refs 0 ∧ Blk w' b1 (pobj 0 0 []).toArray 31 ∧ R = none) ?_ (fun t w1 hR => ?_)
  refine W.cutB 61 (refs && wholeOk s) ?_ ?_
  refine W.reg <| WL.m rfl rfl <| WL.p (.nck rfl) rfl <| WL.p (.fa underlying69 rfl sizeOf4 dD rfl) rfl <| WL.r (Rd.ld (isAgg4 _) rfl hkw8 rfl) rfl <| WL.m rfl rfl <| WL.gd rfl rfl rfl (fun g27 => ?_) (fun g27 => ?_)
  refine WL.m rfl rfl <| WL.gy rfl rfl rfl g27 <| WL.p (.len underlying9 rfl) rfl <| WL.gy rfl rfl rfl g27 <| WL.p (.geq rfl rfl) rfl <| WL.p (.pkT rfl g27 rfl) rfl <| WL.m rfl rfl <| WL.gd rfl rfl rfl (fun g28 => ?_) (fun g28 => ?_)
  · have g28' := dT g28
    refine WL.m rfl rfl <| WL.gy rfl rfl rfl g28 <| WL.p (.len underlying9 rfl) rfl <| WL.gy rfl rfl rfl g28 <| WL.p (.leq rfl rfl) rfl <| WL.p (.pkT rfl g28 rfl) rfl <| WL.m rfl rfl <| WL.gd rfl rfl rfl (fun g29 => ?_) (fun g29 => ?_)
    · have g29' := dT g29
      refine WL.m rfl rfl <| WL.gy rfl rfl rfl g29 <| WL.c1 hb80 rfl rfl ((ref_Digits s _ oO)) (fun w30 hw30 => ?_)
      obtain rfl := hw30
      refine WL.gy rfl rfl rfl g29 <| WL.m rfl rfl <| WL.gy rfl rfl rfl g29 <| WL.p (.len underlying9 rfl) rfl <| WL.gy rfl rfl rfl g29 <| WL.p (.eql rfl rfl) rfl <| WL.p (.pkT rfl g29 rfl) rfl <| WL.nil <| ?_
      exact ⟨leE (lk_b rfl (by (rw [whole61]; first | (rw [show refs = false by assumption]; rfl) | (rw [show refs = true by assumption, show decide ((1 : Int) ≤ (s.length : Int)) = false by assumption]; rfl) | (rw [show refs = true by assumption, show decide ((1 : Int) ≤ (s.length : Int)) = true by assumption, show decide ((s.length : Int) ≤ 10) = false by assumption]; rfl) | (rw [show refs = true by assumption, show decide ((1 : Int) ≤ (s.length : Int)) = true by assumption, show decide ((s.length : Int) ≤ 10) = true by assumption]; rfl)))), rfl⟩
    have g29' := dF g29
    refine WL.gn rfl rfl rfl g29 <| WL.gn rfl rfl rfl g29 <| WL.gn rfl rfl rfl g29 <| WL.gn rfl rfl rfl g29 <| WL.p (.pkF rfl g29 rfl) rfl <| WL.nil <| ?_
    exact ⟨leE (lk_b rfl (by (rw [whole61]; first | (rw [show refs = false by assumption]; rfl) | (rw [show refs = true by assumption, show decide ((1 : Int) ≤ (s.length : Int)) = false by assumption]; rfl) | (rw [show refs = true by assumption, show decide ((1 : Int) ≤ (s.length : Int)) = true by assumption, show decide ((s.length : Int) ≤ 10) = false by assumption]; rfl) | (rw [show refs = true by assumption, show decide ((1 : Int) ≤ (s.length : Int)) = true by assumption, show decide ((s.length : Int) ≤ 10) = true by assumption]; rfl)))), rfl⟩
  have g28' := dF g28
  refine WL.gn rfl rfl rfl g28 <| WL.gn rfl rfl rfl g28 <| WL.p (.pkF rfl g28 rfl) rfl <| WL.m rfl rfl <| WL.gn rfl rfl rfl rfl <| WL.gn rfl rfl rfl rfl <| WL.gn rfl rfl rfl rfl <| WL.gn rfl rfl rfl rfl <| WL.gn rfl rfl rfl rfl <| WL.p (.pkF rfl rfl rfl) rfl <| WL.nil <| ?_
  exact ⟨leE (lk_b rfl (by (rw [whole61]; first | (rw [show refs = false by assumption]; rfl) | (rw [show refs = true by assumption, show decide ((1 : Int) ≤ (s.length : Int)) = false by assumption]; rfl) | (rw [show refs = true by assumption, show decide ((1 : Int) ≤ (s.length : Int)) = true by assumption, show decide ((s.length : Int) ≤ 10) = false by assumption]; rfl) | (rw [show refs = true by assumption, show decide ((1 : Int) ≤ (s.length : Int)) = true by assumption, show decide ((s.length : Int) ≤ 10) = true by assumption]; rfl)))), rfl⟩
  refine WL.gn rfl rfl rfl g27 <| WL.gn rfl rfl rfl g27 <| WL.p (.pkF rfl g27 rfl) rfl <| WL.m rfl rfl <| WL.gn rfl rfl rfl rfl <| WL.gn rfl rfl rfl rfl <| WL.gn rfl rfl rfl rfl <| WL.p (.pkF rfl rfl rfl) rfl <| WL.m rfl rfl <| WL.gn rfl rfl rfl rfl <| WL.gn rfl rfl rfl rfl <| WL.gn rfl rfl rfl rfl <| WL.gn rfl rfl rfl rfl <| WL.gn rfl rfl rfl rfl <| WL.p (.pkF rfl rfl rfl) rfl <| WL.nil <| ?_
  exact ⟨leE (lk_b rfl (by (rw [whole61]; first | (rw [show refs = false by assumption]; rfl) | (rw [show refs = true by assumption, show decide ((1 : Int) ≤ (s.length : Int)) = false by assumption]; rfl) | (rw [show refs = true by assumption, show decide ((1 : Int) ≤ (s.length : Int)) = true by assumption, show decide ((s.length : Int) ≤ 10) = false by assumption]; rfl) | (rw [show refs = true by assumption, show decide ((1 : Int) ≤ (s.length : Int)) = true by assumption, show decide ((s.length : Int) ≤ 10) = true by assumption]; rfl)))), rfl⟩
  refine W.cond rfl (fun h31 => ?_) (fun h31 => ?_)
  have h61 : refs = true ∧ wholeOk s = true := Bool.and_eq_true_iff.1 aS
  have hok := h61.2
  have hwv : wholeV s 4096 = ((natOf s : Int), decide ((natOf s : Int) ≤ 4096)) := by unfold wholeV; rw [if_pos hok]
  refine W.sr <| WL.m rfl rfl <| WL.m rfl rfl <| WL.c1 hb79 rfl rfl ((hA _ ⟨hkw8, hv10⟩)) (fun w32 hw32 => ?_)
  obtain rfl := hw32
  refine WL.m rfl rfl <| WL.p (.ext rfl rfl) rfl <| WL.p (.ext rfl rfl) rfl <| WL.a rfl rfl <| WL.z rfl rfl ?_
  refine W.sr <| WL.m rfl rfl <| WL.m rfl rfl <| WL.c1 hb79 rfl rfl ((hBq _ ⟨hkw8, hv10⟩)) (fun w33 hw33 => ?_)
  obtain rfl := hw33
  refine WL.m rfl rfl <| WL.p (.ext rfl rfl) rfl <| WL.p (.ext rfl rfl) rfl <| WL.a rfl rfl <| WL.z rfl rfl ?_
  refine W.sr <| WL.z rfl rfl ?_
  refine W.seq <| W.sr <| WL.z rfl rfl ?_
  refine W.block ?_
  obtain ⟨b0, hb0⟩ : ∃ b0, b0 = b := ⟨b, rfl⟩
  have hok' := hok
  unfold wholeOk at hok'
  simp only [Bool.and_eq_true, decide_eq_true_eq, Bool.not_eq_true', decide_eq_false_iff_not] at hok'
  have hdig := List.all_eq_true.1 hok'.2
  refine W.loop (α := Nat) (fun t => [(0, .pointer (some ⟨r, 0, none⟩)), (2, .pointer (some ⟨b1, 0, none⟩)), (5, .string (bs s)), (7, .string (bs (wordL l a))), (9, .string (bs (wordL l b))), (10, .int .i64 (wordAt l b : Int)), (11, .int .i64 (natOf (s.take t) : Int)), (12, .int .i64 (t : Int))]) (fun t w' => w8 = w' ∧ t ≤ s.length) (fun t => s.length - t) (0) ⟨rfl, rfl, rfl, rfl, rfl, rfl, rfl, rfl, trivial⟩ (⟨rfl, Nat.zero_le _⟩) (fun t w1 hR => ?_)
  obtain ⟨i, rfl⟩ : ∃ i, i = t := ⟨t, rfl⟩
  obtain ⟨rfl, hi⟩ := hR
  refine W.seq <| W.sr <| WL.m rfl rfl <| WL.m rfl rfl <| WL.p (.len underlying9 rfl) rfl <| WL.p (.lss rfl rfl) rfl <| WL.nil <| ?_
  refine W.cond rfl (fun h34 => ?_) (fun h34 => ?_)
  · have h34' := dT h34
    refine W.skip <| W.seq <| W.block ?_
    have hst := natOf_take s i oO
    have hbd := isDig_bounds (hdig _ (List.getElem_mem (show i < s.length by omega)))
    have hlt := natOf_lt (s.take i) (fun c hc => hdig c (List.mem_of_mem_take hc))
    have hpw : 10 ^ (s.take i).length ≤ 10 ^ 9 := Nat.pow_le_pow_right oO (by rw [List.length_take]; omega)
    refine W.reg <| WL.m rfl rfl <| WL.p (.mul rfl rfl (i64w oO)) rfl <| WL.m rfl rfl <| WL.m rfl rfl <| WL.p (.ix underlying9 rfl rfl (i) (rfl) oO) rfl <| WL.p (.sub rfl rfl (u8w oO)) rfl <| WL.p (.cvt underlying5 underlying3 rfl (i64w oO)) rfl <| WL.p (.iis ((natOf (s.take (i + 1)) : Int)) (.add rfl rfl (i64w oO)) oO) rfl <| WL.z rfl rfl ?_
    refine W.reg <| WL.m rfl rfl <| WL.p (.iis (((i + 1 : Nat) : Int)) (.add rfl rfl (i64w oO)) oO) rfl <| WL.z rfl rfl ?_
    exact ⟨i + 1, ⟨rfl, rfl, rfl, rfl, rfl, rfl, rfl, rfl, trivial⟩, ⟨rfl, by ((try simp only) <;> omega)⟩, by ((try simp only) <;> omega)⟩
  have h34' := dF h34
  have htk : s.take i = s := List.take_of_length_le oO
  have hnat : natOf (s.take i) = natOf s := by rw [htk]
  refine W.exit <| W.sr <| WL.m rfl rfl <| WL.p (.eqs rfl rfl) rfl <| WL.m rfl rfl <| WL.gd rfl rfl rfl (fun g35 => ?_) (fun g35 => ?_)
  · have g35' := dT g35
    refine WL.m rfl rfl <| WL.gy rfl rfl rfl g35 <| WL.p (.eqs rfl rfl) rfl <| WL.p (.pkT rfl g35 rfl) rfl <| WL.m rfl rfl <| WL.gd rfl rfl rfl (fun g36 => ?_) (fun g36 => ?_)
    · have g36' := dT g36
      refine WL.m rfl rfl <| WL.gy rfl rfl rfl g36 <| WL.p (.geq rfl rfl) rfl <| WL.p (.pkT rfl g36 rfl) rfl <| WL.m rfl rfl <| WL.gd rfl rfl rfl (fun g37 => ?_) (fun g37 => ?_)
      · have g37' := dT g37
        refine WL.m rfl rfl <| WL.gy rfl rfl rfl g37 <| WL.p (.leq rfl rfl) rfl <| WL.p (.pkT rfl g37 rfl) rfl <| WL.nil <| ?_
        refine W.cond rfl (fun h38 => ?_) (fun h38 => ?_)
        · have h38' := dT h38
          refine W.sr <| WL.m rfl rfl <| WL.m rfl rfl <| WL.p (.nck rfl) rfl <| WL.p (.fa underlying69 rfl sizeOf3 dD rfl) rfl <| WL.st sizeOf3 rfl rfl rfl hkw8 oD (fun w39 hkw39 huw39 hsw39 => ?_)
          have hkw39 : Blk w39 r _ _ := hkw39
          have huw39 : Upd r _ _ := huw39
          have hk40 := hk9.up huw39
          have hv41 := BytesAt.upd hv10 huw39 hne
          have hB42 := Touch.trans hB11 (Touch.of_upd huw39)
          refine WL.nil <| ?_
          refine W.sr <| WL.m rfl rfl <| ?_
          refine WL.p (.buildL (ps := _) blt31 rfl rfl rfl pS) rfl ?_
          refine WL.m rfl rfl <| WL.stL rfl rfl hk40 isz31 rfl rfl (fun w43 hkw43 huw43 hsw43 => ?_)
          have hk44 := hkw39.up huw43
          have hv45 := bup hv41 huw43 hvl5
          have hB46 := Touch.trans hB42 (Touch.of_new huw43 oO)
          refine WL.a rfl rfl <| WL.z rfl rfl ?_
          refine W.ret (W.retc3 rfl rfl (ldRow hkw43 underlying31 rfl isz31) rfl rfl ?_)
          (have hRs : R = some ((natOf s : Int), wordAt l b) := by
             rw [hRR, hwv, h61.1, if_pos (by simp only [Bool.and_eq_true, decide_eq_true_eq, true_and]; omega), if_pos aS, if_pos aS]
           rw [hRs, if_neg aS, if_neg aS, if_neg aS, if_pos (show (some ((natOf s : Int), wordAt l b) : Option (Int × Nat)).isSome = true from rfl)] at hX; subst hX; exact ⟨ret_val (by rw [hnat]; rfl), ⟨hk44, hv45⟩, hB46⟩)
        have h38' := dF h38
        refine W.skip ?_
        exact ⟨(), ⟨rfl, rfl, rfl, trivial⟩, hB11, ⟨hkw8, hv10⟩, hk9, hRR.trans (refIf_none (by rintro ⟨h1, h2, h3⟩; rw [hwv] at h1; simp only [Bool.and_eq_true, decide_eq_true_eq] at h1; omega))⟩
      have g37' := dF g37
      refine WL.gn rfl rfl rfl g37 <| WL.p (.pkF rfl g37 rfl) rfl <| WL.nil <| ?_
      refine W.condF rfl rfl ?_
      refine W.skip ?_
      exact ⟨(), ⟨rfl, rfl, rfl, trivial⟩, hB11, ⟨hkw8, hv10⟩, hk9, hRR.trans (refIf_none (by rintro ⟨h1, h2, h3⟩; rw [hwv] at h1; simp only [Bool.and_eq_true, decide_eq_true_eq] at h1; omega))⟩
    have g36' := dF g36
    refine WL.gn rfl rfl rfl g36 <| WL.p (.pkF rfl g36 rfl) rfl <| WL.m rfl rfl <| WL.gn rfl rfl rfl rfl <| WL.gn rfl rfl rfl rfl <| WL.p (.pkF rfl rfl rfl) rfl <| WL.nil <| ?_
    refine W.condF rfl rfl ?_
    refine W.skip ?_
    exact ⟨(), ⟨rfl, rfl, rfl, trivial⟩, hB11, ⟨hkw8, hv10⟩, hk9, hRR.trans (refIf_none (by rintro ⟨h1, h2, h3⟩; contradiction))⟩
  have g35' := dF g35
  refine WL.gn rfl rfl rfl g35 <| WL.p (.pkF rfl g35 rfl) rfl <| WL.m rfl rfl <| WL.gn rfl rfl rfl rfl <| WL.gn rfl rfl rfl rfl <| WL.p (.pkF rfl rfl rfl) rfl <| WL.m rfl rfl <| WL.gn rfl rfl rfl rfl <| WL.gn rfl rfl rfl rfl <| WL.p (.pkF rfl rfl rfl) rfl <| WL.nil <| ?_
  refine W.condF rfl rfl ?_
  refine W.skip ?_
  exact ⟨(), ⟨rfl, rfl, rfl, trivial⟩, hB11, ⟨hkw8, hv10⟩, hk9, hRR.trans (refIf_none (by rintro ⟨h1, h2, h3⟩; contradiction))⟩
  refine W.skip ?_
  exact ⟨(), ⟨rfl, rfl, rfl, trivial⟩, hB11, ⟨hkw8, hv10⟩, hk9, hRR.trans (refIf_none (by rintro ⟨h1, h2, h3⟩; exact ref_no h1 aS))⟩
  obtain ⟨hT1, hrd1, hk1, hRn⟩ := hR
  rw [hRn] at hX
  refine W.sr <| WL.m rfl rfl <| WL.c1 hb81 rfl rfl ((r18_Number s _ oO)) (fun w47 hw47 => ?_)
  have hk48 := hrd1.1.below hw47 hrd1.1.lt
  have hk49 := hk1.below hw47 hk1.lt
  have hv50 := BytesAt.below hrd1.2 hw47 (fun h0 => hrd1.2.lt h0)
  have hB51 := Touch.trans hT1 (Touch.mono (Touch.of_below hw47) hT1.size)
  refine WL.m rfl rfl <| WL.p (.ext rfl rfl) rfl <| WL.p (.ext rfl rfl) rfl <| WL.alloc zeroValue31 rfl (fun b52 wb52 eb52 hkb52 hub52 hsb52 => ?_)
  have hl54 : r < b52 := by rw [eb52]; exact hk48.lt
  have hk53 := hk48.upd hub52 (Nat.ne_of_lt hl54)
  have hl56 : b1 < b52 := by rw [eb52]; exact hk49.lt
  have hk55 := hk49.upd hub52 (Nat.ne_of_lt hl56)
  have hvl58 := fun h0 => eb52 ▸ hv50.lt h0
  have hv57 := bup hv50 hub52 hvl58
  have hgeb52 : w.heap.size ≤ b52 := by rw [eb52]; exact hB51.size
  have hB59 := Touch.trans hB51 (Touch.of_new hub52 hgeb52)
  refine WL.stL rfl rfl hkb52 isz31 rfl rfl (fun w60 hkw60 huw60 hsw60 => ?_)
  have hk61 := hk53.up huw60
  have hk62 := hk55.up huw60
  have hv63 := bup hv57 huw60 hvl58
  have hB64 := Touch.trans hB59 (Touch.of_new huw60 oO)
  refine WL.z rfl rfl ?_
  refine W.seq <| W.sr <| WL.m rfl rfl <| WL.p (.not rfl) rfl <| WL.nil <| ?_
  refine W.cond rfl (fun h65 => ?_) (fun h65 => ?_)
  · have h65' := (nT h65)
    refine W.sr <| WL.p (.buildL (ps := _) blt31 rfl rfl rfl pZ) rfl ?_
    refine WL.m rfl rfl <| WL.stL rfl rfl hk62 isz31 rfl rfl (fun w66 hkw66 huw66 hsw66 => ?_)
    have hk67 := hk61.up huw66
    have hv69 := bup hv63 huw66 hvl5
    have hB70 := Touch.trans hB64 (Touch.of_new huw66 oO)
    refine WL.a rfl rfl <| WL.z rfl rfl ?_
    refine W.ret (W.retc3 rfl rfl (ldRow hkw66 underlying31 rfl isz31) rfl rfl ?_)
    (rw [if_neg aS, if_neg aS, if_neg aS, if_neg (show ¬ (none : Option (Int × Nat)).isSome = true by simp), if_neg (bF (show (numR s).2.2 = false by assumption))] at hX; subst hX; exact ⟨rfl, ⟨hk67, hv69⟩, hB70⟩)
  have h65' := (nF h65)
  refine W.skip <| W.sr <| WL.r (Rd.ldA rfl hkw60 underlying31 rfl isz31) rfl <| WL.m rfl rfl <| WL.stL rfl rfl hk62 isz31 rfl rfl (fun w71 hkw71 huw71 hsw71 => ?_)
  have hk72 := hk61.up huw71
  have hv74 := bup hv63 huw71 hvl5
  have hB75 := Touch.trans hB64 (Touch.of_new huw71 oO)
  refine WL.a rfl rfl <| WL.z rfl rfl ?_
  refine W.ret (W.retc3 rfl rfl (ldRow hkw71 underlying31 rfl isz31) rfl rfl ?_)
  (rw [if_neg aS, if_neg aS, if_neg aS, if_neg (show ¬ (none : Option (Int × Nat)).isSome = true by simp), if_pos (show (numR s).2.2 = true by assumption)] at hX; subst hX; exact ⟨rfl, ⟨hk72, hv74⟩, hB75⟩)
end
section
def nameE (out : List UInt8) : Int := if out = [] ∨ 0 ∈ out then 23 else if 127 < out.length then 25 else 0
/-- what the document's name answers: bytes, place, error -/
def nameD (l : List UInt8) (t : Nat) : List UInt8 × Nat × Int :=
 match decN (wordL l t) with
 | none => ([], t, 23)
 | some out => (out, wordAt l t, nameE out)
theorem nameD_P (l : List UInt8) (t : Nat) : nameP l t = if (nameD l t).2.2 = 0 then .ok ((nameD l t).1, (nameD l t).2.1) else .error (nameD l t).2.2 := by
 unfold nameP nameD
 cases decN (wordL l t) with
 | none => rfl
 | some out =>
  show (if out = [] ∨ 0 ∈ out then _ else if 127 < out.length then _ else _) = if nameE out = 0 then Except.ok (out, wordAt l t) else Except.error (nameE out)
  by_cases h1 : out = [] ∨ 0 ∈ out
  ·
   rw [if_pos h1, show nameE out = 23 from if_pos h1]; rfl
  ·
   rw [if_neg h1]
   by_cases h2 : 127 < out.length
   ·
    rw [if_pos h2, show nameE out = 25 from (if_neg h1).trans (if_pos h2)]; rfl
   ·
    rw [if_neg h2, show nameE out = 0 from (if_neg h1).trans (if_neg h2)]; rfl
theorem wordL_at {l : List UInt8} {t j : Nat} (h : j < (wordL l t).length) (h2 : t + j < l.length) : (wordL l t)[j] = l[t + j] := by
 have h3 : (wordL l t)[j]? = l[t + j]? := by
  unfold wordL at h ⊢
  rw [List.getElem?_take, if_pos (by rw [List.length_take] at h; omega), List.getElem?_drop]
 rw [List.getElem?_eq_getElem h, List.getElem?_eq_getElem h2] at h3
 exact Option.some.inj h3
theorem wordL_size {l : List UInt8} {t : Nat} (ht : t ≤ l.length) : (wordL l t).length = wordAt l t - t := by
 have := wordAt_le l t ht
 unfold wordL
 rw [List.length_take, List.length_drop]
 omega
def zeroE (o : List UInt8) : Int := if 0 ∈ o then 23 else 0
theorem zeroE_step (o : List UInt8) (i : Nat) (h : i < o.length) : zeroE (o.take (i + 1)) = if o[i] = 0 then errK (zeroE (o.take i)) 23 else zeroE (o.take i) := by
 unfold zeroE errK
 rw [List.take_succ_eq_append_getElem h]
 by_cases h1 : 0 ∈ o.take i
 ·
  rw [if_pos (List.mem_append_left _ h1), if_pos h1]; split <;> rfl
 ·
  by_cases h2 : o[i] = 0
  ·
   rw [if_pos (List.mem_append_right _ (by rw [h2]; simp)), if_neg h1, if_pos h2]; rfl
  ·
   rw [if_neg (by rw [List.mem_append, List.mem_singleton]; exact fun h => h.elim h1 (fun e => h2 e.symm)), if_neg h1, if_neg h2]
theorem nameE_a {o : List UInt8} {k : Nat} (h : o.length = 0) : nameE o = errK (zeroE (o.take k)) 23 := by
 obtain rfl := List.length_eq_zero_iff.1 h
 rw [List.take_nil]; rfl
theorem nameE_b {o : List UInt8} {k : Nat} (hk : o.length ≤ k) (h : o.length ≠ 0) (h2 : 127 < o.length) : nameE o = errK (zeroE (o.take k)) 25 := by
 have h3 : o ≠ [] := fun e => h (by rw [e]; rfl)
 rw [List.take_of_length_le hk]
 unfold nameE zeroE errK
 by_cases h4 : 0 ∈ o
 ·
  rw [if_pos (.inr h4), if_pos h4]; rfl
 ·
  rw [if_neg (fun e => e.elim h3 h4), if_pos h2, if_neg h4]; rfl
theorem nameE_c {o : List UInt8} {k : Nat} (hk : o.length ≤ k) (h : o.length ≠ 0) (h2 : ¬ 127 < o.length) : nameE o = zeroE (o.take k) := by
 have h3 : o ≠ [] := fun e => h (by rw [e]; rfl)
 rw [List.take_of_length_le hk]
 unfold nameE zeroE
 by_cases h4 : 0 ∈ o
 ·
  rw [if_pos (.inr h4), if_pos h4]
 ·
  rw [if_neg (fun e => e.elim h3 h4), if_neg h2, if_neg h4]
theorem Own.bytesQ {e : TypeId} {B : Nat} {w : World} {q : Option Addr} {c : Nat} {l : List UInt8} (h : Own e B w (.slice q l.length c) (byteVals l)) : BytesAt w q l := by
 obtain ⟨p', c', he, hb, -⟩ := h.bytes
 cases he
 exact hb
theorem r18_name (r : Nat) (p : Option Addr) (l : List UInt8) (c t : Nat) (refs : Bool) (w : World) (h : RRd w r p l c t refs 0) (hne : 0 < l.length → (pA p).block ≠ r) (hc : l.length ≤ c) (hl : l.length ≤ 100000000) (ht : t ≤ l.length) :
    Calls Tryz.prog 72 #[.pointer (some ⟨r, 0, none⟩)] w fun e w' => e = .returned (.string (bs (nameD l t).1)) ∧ RRd w' r p l c (nameD l t).2.1 refs (nameD l t).2.2 ∧ Touch w.heap.size r w w' := by
  have hr := h.1
  have hb := h.2
  obtain ⟨X, hX⟩ : ∃ X, X = nameD l t := ⟨_, rfl⟩
  rw [← hX]
  unfold nameD at hX
  have hwt := wordAt_le l t ht
  have hsl := wordL_size ht
  obtain ⟨t0, ht0⟩ : ∃ t0, t0 = t := ⟨t, rfl⟩
  subst ht0
  have hsi : ∀ j (h1 : j < (wordL l t0).length) (h2 : t0 + j < l.length), l[t0 + j] = (wordL l t0)[j] := fun j h1 h2 => (wordL_at h1 h2).symm
  have hWq : ∀ w1, BytesAt w1 p l → Calls Tryz.prog 12 #[.slice p l.length c, .int .i64 (t0 : Int)] w1 fun e w' => e = .returned (.int .i64 (wordAt l t0 : Int)) ∧ w1 = w' := fun w1 h1 => ref_Word p l c t0 w1 h1 ht hl
  generalize wordL l t0 = s at hX hsl hsi
  generalize wordAt l t0 = t1 at hX hwt hWq hsl
  obtain ⟨D, hD⟩ : ∃ D, D = decN s := ⟨_, rfl⟩
  rw [← hD] at hX
  refine W.enter func72 rfl ntmps72 (Nat.le_of_ble_eq_true rfl) ?_
  have hB0 := Touch.refl (w.heap.size) r w
  refine W.sr <| WL.z rfl rfl ?_
  have hrB : r < w.heap.size := hr.lt
  have hbl : 0 < l.length → (pA p).block < w.heap.size := fun h0 => hb.lt h0
  refine W.cut (α := Unit) (fun t => [(0, .pointer (some ⟨r, 0, none⟩)), (3, .int .i64 (t1 : Int))]) (fun t w' => RRd w' r p l c t0 refs 0 ∧ Touch w.heap.size r w w') ?_ (fun t w1 hR => ?_)
  refine W.regY 10 rfl mixed (fun w1 dw1 => ?_)
  have hk2 := hr.drew dw1
  have hv3 := hb.drew dw1
  have hB4 := Touch.trans hB0 (Touch.of_drew dw1)
  refine WY.tk 0 rfl (.mv rfl) rfl ?_
  refine WY.tk 1 rfl (.nck rfl) rfl ?_
  refine WY.tk 2 rfl (.fa underlying69 rfl sizeOf22 dD rfl) rfl ?_
  refine WY.tk 4 rfl (.mv rfl) rfl ?_
  refine WY.tk 5 rfl (.nck rfl) rfl ?_
  refine WY.tk 6 rfl (.fa underlying69 rfl sizeOf3 dD rfl) rfl ?_
  refine WY.br2 3 rfl 7 rfl ?_ ?_
  refine WL.r (Rd.ld (isAgg22 _) rfl hk2 rfl) rfl <| WL.nil <| ?_
  refine WY.br1 7 rfl ?_
  refine WL.r (Rd.ld (isAgg3 _) rfl hk2 rfl) rfl <| WL.nil <| ?_
  refine WY.br1 8 rfl ?_
  refine WL.c1 hb12 rfl rfl ((hWq _ hv3)) (fun w5 hw5 => ?_)
  obtain rfl := hw5
  refine WL.nil <| ?_
  refine WY.tk 9 rfl (.as rfl) rfl ?_
  refine WY.done kR ?_
  exact ⟨(), ⟨rfl, rfl, trivial⟩, ⟨hk2, hv3⟩, hB4⟩
  refine WL.r (Rd.ld (isAgg3 _) rfl hk2 rfl) rfl <| WL.nil <| ?_
  refine WY.br1 3 rfl ?_
  refine WL.r (Rd.ld (isAgg22 _) rfl hk2 rfl) rfl <| WL.nil <| ?_
  refine WY.br1 8 rfl ?_
  refine WL.c1 hb12 rfl rfl ((hWq _ hv3)) (fun w6 hw6 => ?_)
  obtain rfl := hw6
  refine WL.nil <| ?_
  refine WY.tk 9 rfl (.as rfl) rfl ?_
  refine WY.done kR ?_
  exact ⟨(), ⟨rfl, rfl, trivial⟩, ⟨hk2, hv3⟩, hB4⟩
  obtain ⟨hrd, hT⟩ := hR
  refine W.sr <| WL.z rfl rfl ?_
  refine W.sr <| WL.m rfl rfl <| WL.p (.nck rfl) rfl <| WL.p (.fa underlying69 rfl sizeOf3 dD rfl) rfl <| WL.r (Rd.ld (isAgg3 _) rfl hrd.1 rfl) rfl <| WL.z rfl rfl ?_
  refine W.seq <| W.block ?_
  refine W.loop (α := Value × List UInt8 × Nat) (fun t => [(0, .pointer (some ⟨r, 0, none⟩)), (3, .int .i64 (t1 : Int)), (4, t.1), (5, .int .i64 ((t0 + t.2.2 : Nat) : Int))]) (fun t w' => RRd w' r p l c t0 refs 0 ∧ Touch w.heap.size r w w' ∧ Own 5 w.heap.size w' t.1 (byteVals t.2.1) ∧ decR t.2.1 (s.drop t.2.2) = D ∧ t.2.1.length ≤ t.2.2 ∧ t.2.2 ≤ s.length) (fun t => s.length - t.2.2) ((.slice none 0 0, [], 0)) ⟨rfl, rfl, rfl, rfl, trivial⟩ (⟨⟨hrd.1, hrd.2⟩, hT, Own.nil _ _ _, by rw [hD, List.drop_zero]; simp [decR], Nat.zero_le _, Nat.zero_le _⟩) (fun t w1 hR => ?_)
  obtain ⟨v, o, i⟩ := t
  obtain ⟨hrd, hT, hown, hw, hol, hi⟩ := hR
  simp only at hrd hT hown hw hol hi ⊢
  refine W.seq <| W.sr <| WL.m rfl rfl <| WL.m rfl rfl <| WL.p (.lss rfl rfl) rfl <| WL.nil <| ?_
  refine W.cond rfl (fun h7 => ?_) (fun h7 => ?_)
  · have h7' := dT h7
    refine W.skip <| W.block <| W.sr <| WL.m rfl rfl <| WL.p (.nck rfl) rfl <| WL.p (.fa underlying69 rfl sizeOf22 dD rfl) rfl <| WL.r (Rd.ld (isAgg22 _) rfl hrd.1 rfl) rfl <| WL.m rfl rfl <| WL.p (.ixb underlying22 sizeOf5 rfl rfl (hrd.2.isp oO) (t0 + i) (rfl) oO) rfl <| WL.r (Rd.iis (((s[i]'oO).toNat : Int)) (Rd.ldc (isAgg5 _) rfl (hrd.2.cells (t0 + i) oO)) (by rw [hsi i oO oO])) rfl <| WL.z rfl rfl ?_
    refine W.sr <| WL.m rfl rfl <| WL.p (.iis (((t0 + (i + 1) : Nat) : Int)) (.add rfl rfl (i64w oO)) oO) rfl <| WL.z rfl rfl ?_
    refine W.cut (α := Nat × UInt8) (fun t => [(0, .pointer (some ⟨r, 0, none⟩)), (3, .int .i64 (t1 : Int)), (4, v), (5, .int .i64 ((t0 + t.1 : Nat) : Int)), (6, .int .u8 (t.2.toNat : Int))]) (fun t w' => RRd w' r p l c t0 refs 0 ∧ Touch w.heap.size r w w' ∧ Own 5 w.heap.size w' v (byteVals o) ∧ decR (o ++ [t.2]) (s.drop t.1) = D ∧ i < t.1 ∧ t.1 ≤ s.length) ?_ (fun t w1 hR => ?_)
    refine W.sr <| WL.m rfl rfl <| WL.p (.eql rfl rfl) rfl <| WL.nil <| ?_
    refine W.cond rfl (fun h8 => ?_) (fun h8 => ?_)
    · have h8' := dT h8
      have h35 : s[i]'oO = 35 := u8_eq aS
      refine W.seq <| W.sr <| WL.m rfl rfl <| WL.p (.add rfl rfl (i64w oO)) rfl <| WL.m rfl rfl <| WL.p (.geq rfl rfl) rfl <| WL.m rfl rfl <| WL.gd rfl rfl rfl (fun g9 => ?_) (fun g9 => ?_)
      · have g9' := dF g9
        refine WL.m rfl rfl <| WL.gy rfl rfl rfl g9 <| WL.p (.nck rfl) rfl <| WL.gy rfl rfl rfl g9 <| WL.p (.fa underlying69 rfl sizeOf22 dD rfl) rfl <| WL.gy rfl rfl rfl g9 <| WL.r (Rd.ld (isAgg22 _) rfl hrd.1 rfl) rfl <| WL.gy rfl rfl rfl g9 <| WL.m rfl rfl <| WL.gy rfl rfl rfl g9 <| WL.p (.ixb underlying22 sizeOf5 rfl rfl (hrd.2.isp oO) (t0 + (i + 1)) (rfl) oO) rfl <| WL.gy rfl rfl rfl g9 <| WL.r (Rd.iis (((s[i + 1]'oO).toNat : Int)) (Rd.ldc (isAgg5 _) rfl (hrd.2.cells (t0 + (i + 1)) oO)) (by rw [hsi (i + 1) oO oO])) rfl <| WL.gy rfl rfl rfl g9 <| WL.c1 hb110 rfl rfl ((r18_hex _ _)) (fun w10 hw10 => ?_)
        obtain rfl := hw10
        have hd1 := digI_cases (s[i + 1]'oO)
        refine WL.gy rfl rfl rfl g9 <| WL.p (.lss rfl rfl) rfl <| WL.p (.pkF rfl g9 rfl) rfl <| WL.m rfl rfl <| WL.gd rfl rfl rfl (fun g11 => ?_) (fun g11 => ?_)
        · have g11' := dF g11
          refine WL.m rfl rfl <| WL.gy rfl rfl rfl g11 <| WL.p (.nck rfl) rfl <| WL.gy rfl rfl rfl g11 <| WL.p (.fa underlying69 rfl sizeOf22 dD rfl) rfl <| WL.gy rfl rfl rfl g11 <| WL.r (Rd.ld (isAgg22 _) rfl hrd.1 rfl) rfl <| WL.gy rfl rfl rfl g11 <| WL.m rfl rfl <| WL.gy rfl rfl rfl g11 <| WL.p (.add rfl rfl (i64w oO)) rfl <| WL.gy rfl rfl rfl g11 <| WL.p (.ixb underlying22 sizeOf5 rfl rfl (hrd.2.isp oO) (t0 + (i + 2)) oO oO) rfl <| WL.gy rfl rfl rfl g11 <| WL.r (Rd.iis (((s[i + 2]'oO).toNat : Int)) (Rd.ldc (isAgg5 _) rfl (hrd.2.cells (t0 + (i + 2)) oO)) (by rw [hsi (i + 2) oO oO])) rfl <| WL.gy rfl rfl rfl g11 <| WL.c1 hb110 rfl rfl ((r18_hex _ _)) (fun w12 hw12 => ?_)
          obtain rfl := hw12
          have hd2 := digI_cases (s[i + 2]'oO)
          refine WL.gy rfl rfl rfl g11 <| WL.p (.lss rfl rfl) rfl <| WL.p (.pkF rfl g11 rfl) rfl <| WL.nil <| ?_
          refine W.cond rfl (fun h13 => ?_) (fun h13 => ?_)
          · have h13' := dT h13
            refine W.sr <| WL.m rfl rfl <| WL.c1 hb74 rfl rfl ((r18_fail r p l c _ refs _ 23 _ ⟨hrd.1, hrd.2⟩ hne)) (fun w14 hw14 => ?_)
            have hk16 := hw14.1.1
            have hv17 := hw14.1.2
            have hB18 := Touch.trans hT (Touch.mono hw14.2 hT.size)
            refine WL.nil <| ?_
            refine W.sr <| WL.z rfl rfl ?_
            refine W.ret (W.ret1 rfl rfl ?_)
            (have hDn : D = none := by
               first
               | rw [← hw, decR_short _ _ _ oO h35 oO]
               | rw [← hw, decR_hash _ _ _ oO h35, if_neg oO]
             rw [hDn] at hX; subst hX; exact ⟨rfl, ⟨hk16, hv17⟩, hB18⟩)
          have h13' := dF h13
          refine W.skip <| W.seq <| W.regY 21 rfl mixed (fun w19 dw19 => ?_)
          have ho20 := Own.drew hown dw19
          have hk21 := hrd.1.drew dw19
          have hv22 := hrd.2.drew dw19
          have hB23 := Touch.trans hT (Touch.of_drew dw19)
          refine WY.tk 0 rfl (.mv rfl) rfl ?_
          refine WY.tk 1 rfl (.nck rfl) rfl ?_
          refine WY.tk 2 rfl (.fa underlying69 rfl sizeOf22 dD rfl) rfl ?_
          refine WY.tk 4 rfl (.mv rfl) rfl ?_
          refine WY.tk 9 rfl (.mv rfl) rfl ?_
          refine WY.tk 10 rfl (.nck rfl) rfl ?_
          refine WY.tk 11 rfl (.fa underlying69 rfl sizeOf22 dD rfl) rfl ?_
          refine WY.tk 13 rfl (.mv rfl) rfl ?_
          refine WY.tk 14 rfl (.add rfl rfl (i64w oO)) rfl ?_
          refine WY.br2 3 rfl 12 rfl ?_ ?_
          refine WL.r (Rd.ld (isAgg22 _) rfl hk21 rfl) rfl <| WL.nil <| ?_
          refine WY.tk 5 rfl (.ixb underlying22 sizeOf5 rfl rfl (hv22.isp oO) (t0 + (i + 1)) (rfl) oO) rfl ?_
          refine WY.br2 6 rfl 12 rfl ?_ ?_
          refine WL.r (Rd.iis (((s[i + 1]'oO).toNat : Int)) (Rd.ldc (isAgg5 _) rfl (hv22.cells (t0 + (i + 1)) oO)) (by rw [hsi (i + 1) oO oO])) rfl <| WL.nil <| ?_
          refine WY.br2 7 rfl 12 rfl ?_ ?_
          refine WL.c1 hb110 rfl rfl ((r18_hex _ _)) (fun w24 hw24 => ?_)
          obtain rfl := hw24
          refine WL.nil <| ?_
          refine WY.tk 8 rfl (.iis (((hexN (s[i + 1]'oO) : Nat) : Int) * 16) (.mul rfl rfl (i64w oO)) oO) rfl ?_
          refine WY.br1 12 rfl ?_
          refine WL.r (Rd.ld (isAgg22 _) rfl hk21 rfl) rfl <| WL.nil <| ?_
          refine WY.tk 15 rfl (.ixb underlying22 sizeOf5 rfl rfl (hv22.isp oO) (t0 + (i + 2)) oO oO) rfl ?_
          refine WY.br1 16 rfl ?_
          refine WL.r (Rd.iis (((s[i + 2]'oO).toNat : Int)) (Rd.ldc (isAgg5 _) rfl (hv22.cells (t0 + (i + 2)) oO)) (by rw [hsi (i + 2) oO oO])) rfl <| WL.nil <| ?_
          refine WY.br1 17 rfl ?_
          refine WL.c1 hb110 rfl rfl ((r18_hex _ _)) (fun w25 hw25 => ?_)
          obtain rfl := hw25
          refine WL.nil <| ?_
          refine WY.tk 18 rfl (.iis (((16 * hexN (s[i + 1]'oO) + hexN (s[i + 2]'oO) : Nat) : Int)) (.add rfl rfl (i64w oO)) oO) rfl ?_
          refine WY.tk 19 rfl (.cvt underlying3 underlying5 rfl (u8w oO)) rfl ?_
          refine WY.tk 20 rfl (.as rfl) rfl ?_
          refine WY.done kR ?_
          refine W.reg <| WL.m rfl rfl <| WL.p (.add rfl rfl (i64w oO)) rfl <| WL.z rfl rfl ?_
          exact ⟨(i + 3, ch ((16 * hexN (s[i + 1]'oO) + hexN (s[i + 2]'oO) : Nat) : Int)), ⟨rfl, rfl, rfl, lk_i rfl oM, lk_i rfl (by rw [ch_val _ oO oO]), trivial⟩, ⟨hk21, hv22⟩, hB23, ho20, by rw [← hw, decR_hash _ _ _ oO h35, if_pos oO], by ((try simp only) <;> omega), by ((try simp only) <;> omega)⟩
          refine WL.r (Rd.ld (isAgg22 _) rfl hk21 rfl) rfl <| WL.nil <| ?_
          refine WY.tk 15 rfl (.ixb underlying22 sizeOf5 rfl rfl (hv22.isp oO) (t0 + (i + 2)) oO oO) rfl ?_
          refine WY.br2 7 rfl 16 rfl ?_ ?_
          refine WL.c1 hb110 rfl rfl ((r18_hex _ _)) (fun w26 hw26 => ?_)
          obtain rfl := hw26
          refine WL.nil <| ?_
          refine WY.tk 8 rfl (.iis (((hexN (s[i + 1]'oO) : Nat) : Int) * 16) (.mul rfl rfl (i64w oO)) oO) rfl ?_
          refine WY.br1 16 rfl ?_
          refine WL.r (Rd.iis (((s[i + 2]'oO).toNat : Int)) (Rd.ldc (isAgg5 _) rfl (hv22.cells (t0 + (i + 2)) oO)) (by rw [hsi (i + 2) oO oO])) rfl <| WL.nil <| ?_
          refine WY.br1 17 rfl ?_
          refine WL.c1 hb110 rfl rfl ((r18_hex _ _)) (fun w27 hw27 => ?_)
          obtain rfl := hw27
          refine WL.nil <| ?_
          refine WY.tk 18 rfl (.iis (((16 * hexN (s[i + 1]'oO) + hexN (s[i + 2]'oO) : Nat) : Int)) (.add rfl rfl (i64w oO)) oO) rfl ?_
          refine WY.tk 19 rfl (.cvt underlying3 underlying5 rfl (u8w oO)) rfl ?_
          refine WY.tk 20 rfl (.as rfl) rfl ?_
          refine WY.done kR ?_
          refine W.reg <| WL.m rfl rfl <| WL.p (.add rfl rfl (i64w oO)) rfl <| WL.z rfl rfl ?_
          exact ⟨(i + 3, ch ((16 * hexN (s[i + 1]'oO) + hexN (s[i + 2]'oO) : Nat) : Int)), ⟨rfl, rfl, rfl, lk_i rfl oM, lk_i rfl (by rw [ch_val _ oO oO]), trivial⟩, ⟨hk21, hv22⟩, hB23, ho20, by rw [← hw, decR_hash _ _ _ oO h35, if_pos oO], by ((try simp only) <;> omega), by ((try simp only) <;> omega)⟩
          refine WL.r (Rd.iis (((s[i + 2]'oO).toNat : Int)) (Rd.ldc (isAgg5 _) rfl (hv22.cells (t0 + (i + 2)) oO)) (by rw [hsi (i + 2) oO oO])) rfl <| WL.nil <| ?_
          refine WY.br1 7 rfl ?_
          refine WL.c1 hb110 rfl rfl ((r18_hex _ _)) (fun w28 hw28 => ?_)
          obtain rfl := hw28
          refine WL.nil <| ?_
          refine WY.tk 8 rfl (.iis (((hexN (s[i + 1]'oO) : Nat) : Int) * 16) (.mul rfl rfl (i64w oO)) oO) rfl ?_
          refine WY.br1 17 rfl ?_
          refine WL.c1 hb110 rfl rfl ((r18_hex _ _)) (fun w29 hw29 => ?_)
          obtain rfl := hw29
          refine WL.nil <| ?_
          refine WY.tk 18 rfl (.iis (((16 * hexN (s[i + 1]'oO) + hexN (s[i + 2]'oO) : Nat) : Int)) (.add rfl rfl (i64w oO)) oO) rfl ?_
          refine WY.tk 19 rfl (.cvt underlying3 underlying5 rfl (u8w oO)) rfl ?_
          refine WY.tk 20 rfl (.as rfl) rfl ?_
          refine WY.done kR ?_
          refine W.reg <| WL.m rfl rfl <| WL.p (.add rfl rfl (i64w oO)) rfl <| WL.z rfl rfl ?_
          exact ⟨(i + 3, ch ((16 * hexN (s[i + 1]'oO) + hexN (s[i + 2]'oO) : Nat) : Int)), ⟨rfl, rfl, rfl, lk_i rfl oM, lk_i rfl (by rw [ch_val _ oO oO]), trivial⟩, ⟨hk21, hv22⟩, hB23, ho20, by rw [← hw, decR_hash _ _ _ oO h35, if_pos oO], by ((try simp only) <;> omega), by ((try simp only) <;> omega)⟩
          refine WL.r (Rd.ld (isAgg22 _) rfl hk21 rfl) rfl <| WL.nil <| ?_
          refine WY.tk 15 rfl (.ixb underlying22 sizeOf5 rfl rfl (hv22.isp oO) (t0 + (i + 2)) oO oO) rfl ?_
          refine WY.br2 6 rfl 16 rfl ?_ ?_
          refine WL.r (Rd.iis (((s[i + 1]'oO).toNat : Int)) (Rd.ldc (isAgg5 _) rfl (hv22.cells (t0 + (i + 1)) oO)) (by rw [hsi (i + 1) oO oO])) rfl <| WL.nil <| ?_
          refine WY.br2 7 rfl 16 rfl ?_ ?_
          refine WL.c1 hb110 rfl rfl ((r18_hex _ _)) (fun w30 hw30 => ?_)
          obtain rfl := hw30
          refine WL.nil <| ?_
          refine WY.tk 8 rfl (.iis (((hexN (s[i + 1]'oO) : Nat) : Int) * 16) (.mul rfl rfl (i64w oO)) oO) rfl ?_
          refine WY.br1 16 rfl ?_
          refine WL.r (Rd.iis (((s[i + 2]'oO).toNat : Int)) (Rd.ldc (isAgg5 _) rfl (hv22.cells (t0 + (i + 2)) oO)) (by rw [hsi (i + 2) oO oO])) rfl <| WL.nil <| ?_
          refine WY.br1 17 rfl ?_
          refine WL.c1 hb110 rfl rfl ((r18_hex _ _)) (fun w31 hw31 => ?_)
          obtain rfl := hw31
          refine WL.nil <| ?_
          refine WY.tk 18 rfl (.iis (((16 * hexN (s[i + 1]'oO) + hexN (s[i + 2]'oO) : Nat) : Int)) (.add rfl rfl (i64w oO)) oO) rfl ?_
          refine WY.tk 19 rfl (.cvt underlying3 underlying5 rfl (u8w oO)) rfl ?_
          refine WY.tk 20 rfl (.as rfl) rfl ?_
          refine WY.done kR ?_
          refine W.reg <| WL.m rfl rfl <| WL.p (.add rfl rfl (i64w oO)) rfl <| WL.z rfl rfl ?_
          exact ⟨(i + 3, ch ((16 * hexN (s[i + 1]'oO) + hexN (s[i + 2]'oO) : Nat) : Int)), ⟨rfl, rfl, rfl, lk_i rfl oM, lk_i rfl (by rw [ch_val _ oO oO]), trivial⟩, ⟨hk21, hv22⟩, hB23, ho20, by rw [← hw, decR_hash _ _ _ oO h35, if_pos oO], by ((try simp only) <;> omega), by ((try simp only) <;> omega)⟩
          refine WL.r (Rd.iis (((s[i + 2]'oO).toNat : Int)) (Rd.ldc (isAgg5 _) rfl (hv22.cells (t0 + (i + 2)) oO)) (by rw [hsi (i + 2) oO oO])) rfl <| WL.nil <| ?_
          refine WY.br1 7 rfl ?_
          refine WL.c1 hb110 rfl rfl ((r18_hex _ _)) (fun w32 hw32 => ?_)
          obtain rfl := hw32
          refine WL.nil <| ?_
          refine WY.tk 8 rfl (.iis (((hexN (s[i + 1]'oO) : Nat) : Int) * 16) (.mul rfl rfl (i64w oO)) oO) rfl ?_
          refine WY.br1 17 rfl ?_
          refine WL.c1 hb110 rfl rfl ((r18_hex _ _)) (fun w33 hw33 => ?_)
          obtain rfl := hw33
          refine WL.nil <| ?_
          refine WY.tk 18 rfl (.iis (((16 * hexN (s[i + 1]'oO) + hexN (s[i + 2]'oO) : Nat) : Int)) (.add rfl rfl (i64w oO)) oO) rfl ?_
          refine WY.tk 19 rfl (.cvt underlying3 underlying5 rfl (u8w oO)) rfl ?_
          refine WY.tk 20 rfl (.as rfl) rfl ?_
          refine WY.done kR ?_
          refine W.reg <| WL.m rfl rfl <| WL.p (.add rfl rfl (i64w oO)) rfl <| WL.z rfl rfl ?_
          exact ⟨(i + 3, ch ((16 * hexN (s[i + 1]'oO) + hexN (s[i + 2]'oO) : Nat) : Int)), ⟨rfl, rfl, rfl, lk_i rfl oM, lk_i rfl (by rw [ch_val _ oO oO]), trivial⟩, ⟨hk21, hv22⟩, hB23, ho20, by rw [← hw, decR_hash _ _ _ oO h35, if_pos oO], by ((try simp only) <;> omega), by ((try simp only) <;> omega)⟩
          refine WL.r (Rd.iis (((s[i + 2]'oO).toNat : Int)) (Rd.ldc (isAgg5 _) rfl (hv22.cells (t0 + (i + 2)) oO)) (by rw [hsi (i + 2) oO oO])) rfl <| WL.nil <| ?_
          refine WY.br1 6 rfl ?_
          refine WL.r (Rd.iis (((s[i + 1]'oO).toNat : Int)) (Rd.ldc (isAgg5 _) rfl (hv22.cells (t0 + (i + 1)) oO)) (by rw [hsi (i + 1) oO oO])) rfl <| WL.nil <| ?_
          refine WY.br1 7 rfl ?_
          refine WL.c1 hb110 rfl rfl ((r18_hex _ _)) (fun w34 hw34 => ?_)
          obtain rfl := hw34
          refine WL.nil <| ?_
          refine WY.tk 8 rfl (.iis (((hexN (s[i + 1]'oO) : Nat) : Int) * 16) (.mul rfl rfl (i64w oO)) oO) rfl ?_
          refine WY.br1 17 rfl ?_
          refine WL.c1 hb110 rfl rfl ((r18_hex _ _)) (fun w35 hw35 => ?_)
          obtain rfl := hw35
          refine WL.nil <| ?_
          refine WY.tk 18 rfl (.iis (((16 * hexN (s[i + 1]'oO) + hexN (s[i + 2]'oO) : Nat) : Int)) (.add rfl rfl (i64w oO)) oO) rfl ?_
          refine WY.tk 19 rfl (.cvt underlying3 underlying5 rfl (u8w oO)) rfl ?_
          refine WY.tk 20 rfl (.as rfl) rfl ?_
          refine WY.done kR ?_
          refine W.reg <| WL.m rfl rfl <| WL.p (.add rfl rfl (i64w oO)) rfl <| WL.z rfl rfl ?_
          exact ⟨(i + 3, ch ((16 * hexN (s[i + 1]'oO) + hexN (s[i + 2]'oO) : Nat) : Int)), ⟨rfl, rfl, rfl, lk_i rfl oM, lk_i rfl (by rw [ch_val _ oO oO]), trivial⟩, ⟨hk21, hv22⟩, hB23, ho20, by rw [← hw, decR_hash _ _ _ oO h35, if_pos oO], by ((try simp only) <;> omega), by ((try simp only) <;> omega)⟩
          refine WL.r (Rd.ld (isAgg22 _) rfl hk21 rfl) rfl <| WL.nil <| ?_
          refine WY.tk 15 rfl (.ixb underlying22 sizeOf5 rfl rfl (hv22.isp oO) (t0 + (i + 2)) oO oO) rfl ?_
          refine WY.br2 3 rfl 16 rfl ?_ ?_
          refine WL.r (Rd.ld (isAgg22 _) rfl hk21 rfl) rfl <| WL.nil <| ?_
          refine WY.tk 5 rfl (.ixb underlying22 sizeOf5 rfl rfl (hv22.isp oO) (t0 + (i + 1)) (rfl) oO) rfl ?_
          refine WY.br2 6 rfl 16 rfl ?_ ?_
          refine WL.r (Rd.iis (((s[i + 1]'oO).toNat : Int)) (Rd.ldc (isAgg5 _) rfl (hv22.cells (t0 + (i + 1)) oO)) (by rw [hsi (i + 1) oO oO])) rfl <| WL.nil <| ?_
          refine WY.br2 7 rfl 16 rfl ?_ ?_
          refine WL.c1 hb110 rfl rfl ((r18_hex _ _)) (fun w36 hw36 => ?_)
          obtain rfl := hw36
          refine WL.nil <| ?_
          refine WY.tk 8 rfl (.iis (((hexN (s[i + 1]'oO) : Nat) : Int) * 16) (.mul rfl rfl (i64w oO)) oO) rfl ?_
          refine WY.br1 16 rfl ?_
          refine WL.r (Rd.iis (((s[i + 2]'oO).toNat : Int)) (Rd.ldc (isAgg5 _) rfl (hv22.cells (t0 + (i + 2)) oO)) (by rw [hsi (i + 2) oO oO])) rfl <| WL.nil <| ?_
          refine WY.br1 17 rfl ?_
          refine WL.c1 hb110 rfl rfl ((r18_hex _ _)) (fun w37 hw37 => ?_)
          obtain rfl := hw37
          refine WL.nil <| ?_
          refine WY.tk 18 rfl (.iis (((16 * hexN (s[i + 1]'oO) + hexN (s[i + 2]'oO) : Nat) : Int)) (.add rfl rfl (i64w oO)) oO) rfl ?_
          refine WY.tk 19 rfl (.cvt underlying3 underlying5 rfl (u8w oO)) rfl ?_
          refine WY.tk 20 rfl (.as rfl) rfl ?_
          refine WY.done kR ?_
          refine W.reg <| WL.m rfl rfl <| WL.p (.add rfl rfl (i64w oO)) rfl <| WL.z rfl rfl ?_
          exact ⟨(i + 3, ch ((16 * hexN (s[i + 1]'oO) + hexN (s[i + 2]'oO) : Nat) : Int)), ⟨rfl, rfl, rfl, lk_i rfl oM, lk_i rfl (by rw [ch_val _ oO oO]), trivial⟩, ⟨hk21, hv22⟩, hB23, ho20, by rw [← hw, decR_hash _ _ _ oO h35, if_pos oO], by ((try simp only) <;> omega), by ((try simp only) <;> omega)⟩
          refine WL.r (Rd.iis (((s[i + 2]'oO).toNat : Int)) (Rd.ldc (isAgg5 _) rfl (hv22.cells (t0 + (i + 2)) oO)) (by rw [hsi (i + 2) oO oO])) rfl <| WL.nil <| ?_
          refine WY.br1 7 rfl ?_
          refine WL.c1 hb110 rfl rfl ((r18_hex _ _)) (fun w38 hw38 => ?_)
          obtain rfl := hw38
          refine WL.nil <| ?_
          refine WY.tk 8 rfl (.iis (((hexN (s[i + 1]'oO) : Nat) : Int) * 16) (.mul rfl rfl (i64w oO)) oO) rfl ?_
          refine WY.br1 17 rfl ?_
          refine WL.c1 hb110 rfl rfl ((r18_hex _ _)) (fun w39 hw39 => ?_)
          obtain rfl := hw39
          refine WL.nil <| ?_
          refine WY.tk 18 rfl (.iis (((16 * hexN (s[i + 1]'oO) + hexN (s[i + 2]'oO) : Nat) : Int)) (.add rfl rfl (i64w oO)) oO) rfl ?_
          refine WY.tk 19 rfl (.cvt underlying3 underlying5 rfl (u8w oO)) rfl ?_
          refine WY.tk 20 rfl (.as rfl) rfl ?_
          refine WY.done kR ?_
          refine W.reg <| WL.m rfl rfl <| WL.p (.add rfl rfl (i64w oO)) rfl <| WL.z rfl rfl ?_
          exact ⟨(i + 3, ch ((16 * hexN (s[i + 1]'oO) + hexN (s[i + 2]'oO) : Nat) : Int)), ⟨rfl, rfl, rfl, lk_i rfl oM, lk_i rfl (by rw [ch_val _ oO oO]), trivial⟩, ⟨hk21, hv22⟩, hB23, ho20, by rw [← hw, decR_hash _ _ _ oO h35, if_pos oO], by ((try simp only) <;> omega), by ((try simp only) <;> omega)⟩
          refine WL.r (Rd.iis (((s[i + 2]'oO).toNat : Int)) (Rd.ldc (isAgg5 _) rfl (hv22.cells (t0 + (i + 2)) oO)) (by rw [hsi (i + 2) oO oO])) rfl <| WL.nil <| ?_
          refine WY.br1 6 rfl ?_
          refine WL.r (Rd.iis (((s[i + 1]'oO).toNat : Int)) (Rd.ldc (isAgg5 _) rfl (hv22.cells (t0 + (i + 1)) oO)) (by rw [hsi (i + 1) oO oO])) rfl <| WL.nil <| ?_
          refine WY.br1 7 rfl ?_
          refine WL.c1 hb110 rfl rfl ((r18_hex _ _)) (fun w40 hw40 => ?_)
          obtain rfl := hw40
          refine WL.nil <| ?_
          refine WY.tk 8 rfl (.iis (((hexN (s[i + 1]'oO) : Nat) : Int) * 16) (.mul rfl rfl (i64w oO)) oO) rfl ?_
          refine WY.br1 17 rfl ?_
          refine WL.c1 hb110 rfl rfl ((r18_hex _ _)) (fun w41 hw41 => ?_)
          obtain rfl := hw41
          refine WL.nil <| ?_
          refine WY.tk 18 rfl (.iis (((16 * hexN (s[i + 1]'oO) + hexN (s[i + 2]'oO) : Nat) : Int)) (.add rfl rfl (i64w oO)) oO) rfl ?_
          refine WY.tk 19 rfl (.cvt underlying3 underlying5 rfl (u8w oO)) rfl ?_
          refine WY.tk 20 rfl (.as rfl) rfl ?_
          refine WY.done kR ?_
          refine W.reg <| WL.m rfl rfl <| WL.p (.add rfl rfl (i64w oO)) rfl <| WL.z rfl rfl ?_
          exact ⟨(i + 3, ch ((16 * hexN (s[i + 1]'oO) + hexN (s[i + 2]'oO) : Nat) : Int)), ⟨rfl, rfl, rfl, lk_i rfl oM, lk_i rfl (by rw [ch_val _ oO oO]), trivial⟩, ⟨hk21, hv22⟩, hB23, ho20, by rw [← hw, decR_hash _ _ _ oO h35, if_pos oO], by ((try simp only) <;> omega), by ((try simp only) <;> omega)⟩
          refine WL.r (Rd.iis (((s[i + 2]'oO).toNat : Int)) (Rd.ldc (isAgg5 _) rfl (hv22.cells (t0 + (i + 2)) oO)) (by rw [hsi (i + 2) oO oO])) rfl <| WL.nil <| ?_
          refine WY.br1 3 rfl ?_
          refine WL.r (Rd.ld (isAgg22 _) rfl hk21 rfl) rfl <| WL.nil <| ?_
          refine WY.tk 5 rfl (.ixb underlying22 sizeOf5 rfl rfl (hv22.isp oO) (t0 + (i + 1)) (rfl) oO) rfl ?_
          refine WY.br1 6 rfl ?_
          refine WL.r (Rd.iis (((s[i + 1]'oO).toNat : Int)) (Rd.ldc (isAgg5 _) rfl (hv22.cells (t0 + (i + 1)) oO)) (by rw [hsi (i + 1) oO oO])) rfl <| WL.nil <| ?_
          refine WY.br1 7 rfl ?_
          refine WL.c1 hb110 rfl rfl ((r18_hex _ _)) (fun w42 hw42 => ?_)
          obtain rfl := hw42
          refine WL.nil <| ?_
          refine WY.tk 8 rfl (.iis (((hexN (s[i + 1]'oO) : Nat) : Int) * 16) (.mul rfl rfl (i64w oO)) oO) rfl ?_
          refine WY.br1 17 rfl ?_
          refine WL.c1 hb110 rfl rfl ((r18_hex _ _)) (fun w43 hw43 => ?_)
          obtain rfl := hw43
          refine WL.nil <| ?_
          refine WY.tk 18 rfl (.iis (((16 * hexN (s[i + 1]'oO) + hexN (s[i + 2]'oO) : Nat) : Int)) (.add rfl rfl (i64w oO)) oO) rfl ?_
          refine WY.tk 19 rfl (.cvt underlying3 underlying5 rfl (u8w oO)) rfl ?_
          refine WY.tk 20 rfl (.as rfl) rfl ?_
          refine WY.done kR ?_
          refine W.reg <| WL.m rfl rfl <| WL.p (.add rfl rfl (i64w oO)) rfl <| WL.z rfl rfl ?_
          exact ⟨(i + 3, ch ((16 * hexN (s[i + 1]'oO) + hexN (s[i + 2]'oO) : Nat) : Int)), ⟨rfl, rfl, rfl, lk_i rfl oM, lk_i rfl (by rw [ch_val _ oO oO]), trivial⟩, ⟨hk21, hv22⟩, hB23, ho20, by rw [← hw, decR_hash _ _ _ oO h35, if_pos oO], by ((try simp only) <;> omega), by ((try simp only) <;> omega)⟩
        have g11' := dT g11
        refine WL.gn rfl rfl rfl g11 <| WL.gn rfl rfl rfl g11 <| WL.gn rfl rfl rfl g11 <| WL.gn rfl rfl rfl g11 <| WL.gn rfl rfl rfl g11 <| WL.gn rfl rfl rfl g11 <| WL.gn rfl rfl rfl g11 <| WL.gn rfl rfl rfl g11 <| WL.gn rfl rfl rfl g11 <| WL.p (.pkT rfl g11 rfl) rfl <| WL.nil <| ?_
        refine W.condT rfl rfl ?_
        refine W.sr <| WL.m rfl rfl <| WL.c1 hb74 rfl rfl ((r18_fail r p l c _ refs _ 23 _ ⟨hrd.1, hrd.2⟩ hne)) (fun w44 hw44 => ?_)
        have hk46 := hw44.1.1
        have hv47 := hw44.1.2
        have hB48 := Touch.trans hT (Touch.mono hw44.2 hT.size)
        refine WL.nil <| ?_
        refine W.sr <| WL.z rfl rfl ?_
        refine W.ret (W.ret1 rfl rfl ?_)
        (have hDn : D = none := by
           first
           | rw [← hw, decR_short _ _ _ oO h35 oO]
           | rw [← hw, decR_hash _ _ _ oO h35, if_neg oO]
         rw [hDn] at hX; subst hX; exact ⟨rfl, ⟨hk46, hv47⟩, hB48⟩)
      have g9' := dT g9
      refine WL.gn rfl rfl rfl g9 <| WL.gn rfl rfl rfl g9 <| WL.gn rfl rfl rfl g9 <| WL.gn rfl rfl rfl g9 <| WL.gn rfl rfl rfl g9 <| WL.gn rfl rfl rfl g9 <| WL.gn rfl rfl rfl g9 <| WL.gn rfl rfl rfl g9 <| WL.p (.pkT rfl g9 rfl) rfl <| WL.m rfl rfl <| WL.gn rfl rfl rfl rfl <| WL.gn rfl rfl rfl rfl <| WL.gn rfl rfl rfl rfl <| WL.gn rfl rfl rfl rfl <| WL.gn rfl rfl rfl rfl <| WL.gn rfl rfl rfl rfl <| WL.gn rfl rfl rfl rfl <| WL.gn rfl rfl rfl rfl <| WL.gn rfl rfl rfl rfl <| WL.gn rfl rfl rfl rfl <| WL.p (.pkT rfl rfl rfl) rfl <| WL.nil <| ?_
      refine W.condT rfl rfl ?_
      refine W.sr <| WL.m rfl rfl <| WL.c1 hb74 rfl rfl ((r18_fail r p l c _ refs _ 23 _ ⟨hrd.1, hrd.2⟩ hne)) (fun w49 hw49 => ?_)
      have hk51 := hw49.1.1
      have hv52 := hw49.1.2
      have hB53 := Touch.trans hT (Touch.mono hw49.2 hT.size)
      refine WL.nil <| ?_
      refine W.sr <| WL.z rfl rfl ?_
      refine W.ret (W.ret1 rfl rfl ?_)
      (have hDn : D = none := by
         first
         | rw [← hw, decR_short _ _ _ oO h35 oO]
         | rw [← hw, decR_hash _ _ _ oO h35, if_neg oO]
       rw [hDn] at hX; subst hX; exact ⟨rfl, ⟨hk51, hv52⟩, hB53⟩)
    have h8' := dF h8
    have h35 : s[i]'oO ≠ 35 := u8_ne (d := 35) aS
    refine W.skip ?_
    exact ⟨(i + 1, s[i]'oO), ⟨rfl, rfl, rfl, rfl, rfl, trivial⟩, ⟨hrd.1, hrd.2⟩, hT, hown, by rw [← hw, decR_plain _ _ _ oO h35], by ((try simp only) <;> omega), by ((try simp only) <;> omega)⟩
    obtain ⟨i', x⟩ := t
    obtain ⟨hrd, hT, hown, hw', hi1, hi2⟩ := hR
    simp only at hw' hi1 hi2 ⊢
    refine W.reg <| WL.m rfl rfl <| WL.m rfl rfl <| WL.bsl (ps := _) underlying22 sizeOf5 zeroValue5 rfl rfl rfl rfl rfl pR rfl (fun b54 wb54 eb54 hkb54 hub54 hsb54 => ?_)
    have ho55 := Own.new hown eb54 hub54
    have hl57 : r < b54 := by rw [eb54]; exact hrd.1.lt
    have hk56 := hrd.1.upd hub54 (Nat.ne_of_lt hl57)
    have hvl59 := fun h0 => eb54 ▸ hrd.2.lt h0
    have hv58 := BytesAt.upd hrd.2 hub54 (fun h0 => Nat.ne_of_lt (hvl59 h0))
    have hgeb54 : w.heap.size ≤ b54 := by rw [eb54]; exact hT.size
    have hB60 := Touch.trans hT (Touch.of_new hub54 hgeb54)
    refine WL.appm underlying22 inf5 rfl rfl rfl ho55 rfl hkb54 rfl (by rw [byteVals_len]; omega) (hB60.size) rfl (fun v61 w62 how62 hbw62 hgw62 => ?_)
    have hk63 := hk56.below hbw62 oO
    have hv64 := BytesAt.below hv58 hbw62 hbl
    have hB65 := Touch.trans hB60 (Touch.of_below (hbw62.mono (Nat.le_refl _)))
    have ho66 := Own.snoc how62 (x) (rfl)
    refine WL.z rfl rfl ?_
    exact ⟨(_, o ++ [x], i'), ⟨rfl, rfl, rfl, rfl, trivial⟩, ⟨⟨hk63, hv64⟩, hB65, ho66, hw', by simp only [List.length_append, List.length_cons, List.length_nil]; omega, by ((try simp only) <;> omega)⟩, by ((try simp only) <;> omega)⟩
  have h7' := dF h7
  refine W.exit <| W.sr <| WL.m rfl rfl <| WL.m rfl rfl <| WL.p (.nck rfl) rfl <| WL.p (.fa underlying69 rfl sizeOf3 dD rfl) rfl <| WL.st sizeOf3 rfl rfl rfl hrd.1 oD (fun w67 hkw67 huw67 hsw67 => ?_)
  have hkw67 : Blk w67 r _ _ := hkw67
  have huw67 : Upd r _ _ := huw67
  have ho68 := Own.touch hown huw67 oM
  have hv69 := BytesAt.upd hrd.2 huw67 hne
  have hB70 := Touch.trans hT (Touch.of_upd huw67)
  refine WL.nil <| ?_
  refine W.seq <| W.seq ?_
  obtain ⟨q, cq, rfl, hqb, hqB⟩ := Own.bytes ho68
  have hDo : D = some o := by rw [← hw, show i = s.length by omega, List.drop_length, decR_nil]
  refine W.reg <| WL.z rfl rfl ?_
  refine W.block ?_
  refine W.loop (α := Nat) (fun t => [(0, .pointer (some ⟨r, 0, none⟩)), (4, .slice q o.length cq), (7, .int .i64 (t : Int))]) (fun t w' => RRd w' r p l c t1 refs (zeroE (o.take t)) ∧ Touch w.heap.size r w w' ∧ Own 5 w.heap.size w' (.slice q o.length cq) (byteVals o) ∧ t ≤ o.length) (fun t => o.length - t) (0) ⟨rfl, rfl, rfl, trivial⟩ (⟨⟨hkw67, hv69⟩, hB70, ho68, Nat.zero_le _⟩) (fun t w1 hR => ?_)
  obtain ⟨k, rfl⟩ : ∃ k, k = t := ⟨t, rfl⟩
  obtain ⟨hrd, hT, hown, hk⟩ := hR
  have hqb := Own.bytesQ hown
  have hst := zeroE_step o k
  refine W.seq <| W.sr <| WL.m rfl rfl <| WL.m rfl rfl <| WL.p (.lenS underlying22 rfl) rfl <| WL.p (.lss rfl rfl) rfl <| WL.nil <| ?_
  refine W.cond rfl (fun h71 => ?_) (fun h71 => ?_)
  · have h71' := dT h71
    refine W.skip <| W.seq <| W.block <| W.sr <| WL.m rfl rfl <| WL.m rfl rfl <| WL.p (.ixb underlying22 sizeOf5 rfl rfl (hqb.isp oO) (k) (rfl) oO) rfl <| WL.r (Rd.ldc (isAgg5 _) rfl (hqb.cells (k) oO)) rfl <| WL.p (.eql rfl rfl) rfl <| WL.nil <| ?_
    refine W.cond rfl (fun h72 => ?_) (fun h72 => ?_)
    · have h72' := dT h72
      refine W.reg <| WL.m rfl rfl <| WL.c1 hb74 rfl rfl ((r18_fail r p l c _ refs _ 23 _ ⟨hrd.1, hrd.2⟩ hne)) (fun w73 hw73 => ?_)
      have ho74 := Own.touch' hown hw73.2 oO
      have hk75 := hw73.1.1
      have hv76 := hw73.1.2
      have hB78 := Touch.trans hT (Touch.mono hw73.2 hT.size)
      refine WL.nil <| ?_
      refine W.reg <| WL.m rfl rfl <| WL.p (.iis (((k + 1 : Nat) : Int)) (.add rfl rfl (i64w oO)) oO) rfl <| WL.z rfl rfl ?_
      exact ⟨k + 1, ⟨rfl, rfl, rfl, trivial⟩, ⟨by rw [hst oO, if_pos (u8_eq (d := 0) aS)]; exact ⟨hk75, hv76⟩, hB78, ho74, by ((try simp only) <;> omega)⟩, by ((try simp only) <;> omega)⟩
    have h72' := dF h72
    refine W.skip <| W.reg <| WL.m rfl rfl <| WL.p (.iis (((k + 1 : Nat) : Int)) (.add rfl rfl (i64w oO)) oO) rfl <| WL.z rfl rfl ?_
    exact ⟨k + 1, ⟨rfl, rfl, rfl, trivial⟩, ⟨by rw [hst oO, if_neg (u8_ne (d := 0) aS)]; exact ⟨hrd.1, hrd.2⟩, hT, hown, by ((try simp only) <;> omega)⟩, by ((try simp only) <;> omega)⟩
  have h71' := dF h71
  refine W.exit <| W.seq <| W.sr <| WL.m rfl rfl <| WL.p (.lenS underlying22 rfl) rfl <| WL.p (.eql rfl rfl) rfl <| WL.nil <| ?_
  refine W.cond rfl (fun h79 => ?_) (fun h79 => ?_)
  · have h79' := dT h79
    refine W.reg <| WL.m rfl rfl <| WL.c1 hb74 rfl rfl ((r18_fail r p l c _ refs _ 23 _ ⟨hrd.1, hrd.2⟩ hne)) (fun w80 hw80 => ?_)
    have ho81 := Own.touch' hown hw80.2 oO
    have hk82 := hw80.1.1
    have hv83 := hw80.1.2
    have hB85 := Touch.trans hT (Touch.mono hw80.2 hT.size)
    refine WL.nil <| ?_
    refine W.seq <| W.sr <| WL.m rfl rfl <| WL.p (.lenS underlying22 rfl) rfl <| WL.p (.gtr rfl rfl) rfl <| WL.nil <| ?_
    refine W.cond rfl (fun h86 => ?_) (fun h86 => ?_)
    · have h86' := dT h86
      refine W.reg <| WL.m rfl rfl <| WL.c1 hb74 rfl rfl ((r18_fail r p l c _ refs _ 25 _ ⟨hk82, hv83⟩ hne)) (fun w87 hw87 => ?_)
      have ho88 := Own.touch' ho81 hw87.2 oO
      refine WL.nil <| ?_
      refine W.sr <| WL.m rfl rfl <| WL.r (Rd.b2s (l := o) underlying22 underlying5 underlying9 rfl (Own.bytesQ ho88)) rfl <| WL.z rfl rfl ?_
      refine W.ret (W.ret1 rfl rfl ?_)
      (exfalso; omega)
    have h86' := dF h86
    refine W.skip <| W.sr <| WL.m rfl rfl <| WL.r (Rd.b2s (l := o) underlying22 underlying5 underlying9 rfl (Own.bytesQ ho81)) rfl <| WL.z rfl rfl ?_
    refine W.ret (W.ret1 rfl rfl ?_)
    (rw [hDo] at hX; subst hX; exact ⟨rfl, by show RRd _ _ _ _ _ _ _ (nameE o); rw [nameE_a (k := k) oO]; exact ⟨hk82, hv83⟩, hB85⟩)
  have h79' := dF h79
  refine W.skip <| W.seq <| W.sr <| WL.m rfl rfl <| WL.p (.lenS underlying22 rfl) rfl <| WL.p (.gtr rfl rfl) rfl <| WL.nil <| ?_
  refine W.cond rfl (fun h93 => ?_) (fun h93 => ?_)
  · have h93' := dT h93
    refine W.reg <| WL.m rfl rfl <| WL.c1 hb74 rfl rfl ((r18_fail r p l c _ refs _ 25 _ ⟨hrd.1, hrd.2⟩ hne)) (fun w94 hw94 => ?_)
    have ho95 := Own.touch' hown hw94.2 oO
    have hk96 := hw94.1.1
    have hv97 := hw94.1.2
    have hB99 := Touch.trans hT (Touch.mono hw94.2 hT.size)
    refine WL.nil <| ?_
    refine W.sr <| WL.m rfl rfl <| WL.r (Rd.b2s (l := o) underlying22 underlying5 underlying9 rfl (Own.bytesQ ho95)) rfl <| WL.z rfl rfl ?_
    refine W.ret (W.ret1 rfl rfl ?_)
    (rw [hDo] at hX; subst hX; exact ⟨rfl, by show RRd _ _ _ _ _ _ _ (nameE o); rw [nameE_b (k := k) oO oO oO]; exact ⟨hk96, hv97⟩, hB99⟩)
  have h93' := dF h93
  refine W.skip <| W.sr <| WL.m rfl rfl <| WL.r (Rd.b2s (l := o) underlying22 underlying5 underlying9 rfl (Own.bytesQ hown)) rfl <| WL.z rfl rfl ?_
  refine W.ret (W.ret1 rfl rfl ?_)
  (rw [hDo] at hX; subst hX; exact ⟨rfl, by show RRd _ _ _ _ _ _ _ (nameE o); rw [nameE_c (k := k) oO oO oO]; exact ⟨hrd.1, hrd.2⟩, hT⟩)
end
end Go.Proofs.YtjghbcjnplcleaaGreatDoor
