/-
  Plex: an object that is a word; what recovers; Object at such a place.
-/
import Derived.Test.YtjghbcjnplcleaaGreatDoorPlxB
import Derived.Test.YtjghbcjnplcleaaGreatDoorFwX
namespace Go.Proofs.YtjghbcjnplcleaaGreatDoor
open Go.RowKit

theorem plex_fail (k : Int) (w : World) : Calls Tryz.prog 68 #[.int .i64 k] w fun e w' => e = .panicked [{ v := .iface 35 (.int .i64 k), recovered := false }] ∧ w = w' := by
  refine W.enter Tryz.func68 rfl Tryz.ntmps68 (Nat.le_of_ble_eq_true rfl) ?_
  refine W.reg ?_ -- 0
  refine WL.p (.mv rfl) rfl <| WL.p (.mkI Tryz.underlying35 rfl) rfl <| WL.panic rfl (pn_is ?_)
  exact ⟨rfl, rfl⟩
def wordE (X : WR) : Except Int WR := if X.ok then .ok X else .error 23
theorem plex_objw (r : Nat) (p : Option Addr) (l : List UInt8) (c t : Nat) (refs : Bool) (d : Int) (w : World) (h : PRd w r p l c t refs) (hne : 0 < l.length → (pA p).block ≠ r) (hc : l.length ≤ c) (hl : l.length ≤ 1000000) (ht : t < l.length)
    (h47 : l[t] ≠ 47) (h91 : l[t] ≠ 91) (h40 : l[t] ≠ 40) (h60 : l[t] ≠ 60) :
    Calls Tryz.prog 43 #[.pointer (some ⟨r, 0, none⟩), .int .i64 d] w (Ends 35 (wordE (plexW refs l t)) (fun X => .agg (pobj X.kind X.n []).toArray) (fun X w' => PRd w' r p l c X.np refs ∧ Touch w.heap.size r w w') (fun w' => Touch w.heap.size r w w')) := by
  have hr := h.1
  have hb := h.2
  obtain ⟨X, hX⟩ : ∃ X, X = plexW refs l t := ⟨_, rfl⟩
  have hWc : ∀ w1, PRd w1 r p l c t refs → Calls Tryz.prog 48 #[.pointer (some ⟨r, 0, none⟩)] w1 fun e w' => e = .returned X.val ∧ PRd w' r p l c X.np refs ∧ Touch w1.heap.size r w1 w' := fun w1 h1 => by rw [hX]; exact plex_word r p l c t refs w1 h1 hne hc hl (by omega)
  rw [← hX]
  refine W.enter Tryz.func43 rfl Tryz.ntmps43 (Nat.le_of_ble_eq_true rfl) ?_
  have hB0 := Touch.refl (w.heap.size) r w
  refine W.seq ?_
  refine W.reg ?_ -- 0
  refine WL.alloc Tryz.zeroValue31 rfl (fun b1 wb1 eb1 hkb1 hub1 hsb1 => ?_)
  have hl3 : r < b1 := by rw [eb1]; exact hr.lt
  have hk2 := hr.upd hub1 (Nat.ne_of_lt hl3)
  have hvl5 := fun h0 => eb1 ▸ hb.lt h0
  have hv4 := BytesAt.upd hb hub1 (fun h0 => Nat.ne_of_lt (hvl5 h0))
  have hgeb1 : w.heap.size ≤ b1 := by rw [eb1]; exact hB0.size
  have hB6 := Touch.trans hB0 (Touch.of_new hub1 hgeb1)
  refine WL.nil <| ?_
  refine W.seq ?_
  refine W.seq ?_
  have hrB : r < b1 := by have := hr.lt; omega
  refine W.regQ mixed (by kernel_rfl) ?_ -- 1
  refine WQ.p (.mv rfl) rfl <| WQ.p (.nck rfl) rfl <| WQ.p (.fa Tryz.underlying63 rfl Tryz.sizeOf22 (by decide) rfl) rfl <| WQ.r (fun m => Rd.ld (Tryz.isAgg22 _) rfl hk2 rfl) rfl <| WQ.p (.mv rfl) rfl <| WQ.p (.nck rfl) rfl <| WQ.p (.fa Tryz.underlying63 rfl Tryz.sizeOf3 (by decide) rfl) rfl <| WQ.r (fun m => Rd.ld (Tryz.isAgg3 _) rfl hk2 rfl) rfl <| WQ.p (.ixb Tryz.underlying22 Tryz.sizeOf5 rfl rfl (hv4.isp (by omega)) (t) (rfl) (ht)) rfl <| WQ.r (fun m => Rd.iis ((l[t].toNat : Int)) (Rd.ldc (Tryz.isAgg5 _) rfl ((hv4.drewN m).cells (t) (by omega))) (by omega)) rfl <| WQ.p (.as rfl) rfl <| WQ.nil (fun w7 dw7 => ?_)
  have hk8 := hk2.drew dw7
  have hk9 := hkb1.drew dw7
  have hv10 := hv4.drew dw7
  have hB11 := Touch.trans hB6 (Touch.of_drew dw7)
  refine W.seq ?_
  refine W.reg ?_ -- 2
  refine WL.p (.mv rfl) rfl <| WL.nil <| ?_
  refine W.block ?_
  refine W.seq ?_
  refine W.reg ?_ -- 3
  refine WL.p (.eql rfl rfl) rfl <| WL.p (.as rfl) rfl <| WL.nil <| ?_
  refine W.cond rfl (fun h12 => ?_) (fun h12 => ?_) -- slot 20
  · have h12' := of_decide_eq_true h12
    exact absurd (u8_eq (by assumption)) h47
  · have h12' := of_decide_eq_false h12
    refine W.seq ?_
    refine W.reg ?_ -- 6
    refine WL.p (.eql rfl rfl) rfl <| WL.p (.as rfl) rfl <| WL.nil <| ?_
    refine W.cond rfl (fun h13 => ?_) (fun h13 => ?_) -- slot 32
    · have h13' := of_decide_eq_true h13
      exact absurd (u8_eq (by assumption)) h91
    · have h13' := of_decide_eq_false h13
      refine W.seq ?_
      refine W.reg ?_ -- 11
      refine WL.p (.eql rfl rfl) rfl <| WL.p (.as rfl) rfl <| WL.nil <| ?_
      refine W.cond rfl (fun h14 => ?_) (fun h14 => ?_) -- slot 48
      · have h14' := of_decide_eq_true h14
        exact absurd (u8_eq (by assumption)) h40
      · have h14' := of_decide_eq_false h14
        refine W.seq ?_
        refine W.reg ?_ -- 13
        refine WL.p (.eql rfl rfl) rfl <| WL.p (.as rfl) rfl <| WL.nil <| ?_
        refine W.cond rfl (fun h15 => ?_) (fun h15 => ?_) -- slot 52
        · have h15' := of_decide_eq_true h15
          exact absurd (u8_eq (by assumption)) h60
        · have h15' := of_decide_eq_false h15
          refine W.skip ?_
          refine W.seq ?_
          refine W.reg ?_ -- 22
          refine WL.p (.mv rfl) rfl <| WL.c1 hb48 rfl rfl ((hWc _ ⟨hk8, hv10⟩)) (fun w16 hw16 => ?_)
          have hk17 := hw16.1.1
          have hk18 := Blk.touch hk9 hw16.2 hk9.lt (by omega)
          have hv19 := hw16.1.2
          have hB20 := Touch.trans hB11 (Touch.mono hw16.2 hB11.size)
          refine WL.p (.mv rfl) rfl <| WL.p (.ext rfl rfl) rfl <| WL.p (.ext rfl rfl) rfl <| WL.p (.ext rfl rfl) rfl <| WL.alloc Tryz.zeroValue31 rfl (fun b21 wb21 eb21 hkb21 hub21 hsb21 => ?_)
          have hl23 : r < b21 := by rw [eb21]; exact hk17.lt
          have hk22 := hk17.upd hub21 (Nat.ne_of_lt hl23)
          have hl25 : b1 < b21 := by rw [eb21]; exact hk18.lt
          have hk24 := hk18.upd hub21 (Nat.ne_of_lt hl25)
          have hvl27 := fun h0 => eb21 ▸ hv19.lt h0
          have hv26 := BytesAt.upd hv19 hub21 (fun h0 => Nat.ne_of_lt (hvl27 h0))
          have hgeb21 : w.heap.size ≤ b21 := by rw [eb21]; exact hB20.size
          have hB28 := Touch.trans hB20 (Touch.of_new hub21 hgeb21)
          refine WL.stL rfl rfl hkb21 isz31 rfl rfl (fun w29 hkw29 huw29 hsw29 => ?_)
          have hk30 := hk22.upd huw29 (by ((try simp only) <;> omega))
          have hk31 := hk24.upd huw29 (by ((try simp only) <;> omega))
          have hv32 := BytesAt.upd hv26 huw29 (fun h0 => Nat.ne_of_lt (hvl27 h0))
          have hB33 := Touch.trans hB28 (Touch.of_new huw29 (by omega))
          refine WL.p (.as rfl) rfl <| WL.p (.as rfl) rfl <| WL.nil <| ?_
          refine W.seq ?_
          refine W.seq ?_
          refine W.reg ?_ -- 23
          refine WL.p (.mv rfl) rfl <| WL.p (.not rfl) rfl <| WL.nil <| ?_
          refine W.cond rfl (fun h34 => ?_) (fun h34 => ?_) -- slot 101
          · have h34' := (nT h34)
            refine W.reg ?_ -- 24
            refine WL.cp hb68 rfl ((plex_fail 23 _)) (fun w35 hw35 => ?_)
            obtain rfl := hw35
            exact pn_is (Ends.err 23 (by unfold wordE; rw [if_neg (bF (by assumption))]) hB33)
          · have h34' := (nF h34)
            refine W.skip ?_
            refine W.seq ?_
            refine W.reg ?_ -- 25
            refine WL.r (Rd.ldA rfl hkw29 Tryz.underlying31 rfl isz31) rfl <| WL.stL rfl rfl hk31 isz31 rfl rfl (fun w36 hkw36 huw36 hsw36 => ?_)
            have hk37 := hk30.upd huw36 (by ((try simp only) <;> omega))
            have hk38 := hkw29.upd huw36 (by ((try simp only) <;> omega))
            have hv39 := BytesAt.upd hv32 huw36 (fun h0 => Nat.ne_of_lt (hvl5 h0))
            have hB40 := Touch.trans hB33 (Touch.of_new huw36 (by omega))
            refine WL.nil <| ?_
            refine W.ret (W.retc1 rfl rfl (ldRow hkw36 Tryz.underlying31 rfl isz31)  ?_)
            exact Ends.ok X (by unfold wordE; rw [if_pos (by assumption)]) rfl ⟨⟨hk37, hv39⟩, hB40⟩

theorem guard_nil (b : Nat) (w : World) : Calls Tryz.prog 42 #[.nilIface, .pointer (some ⟨b, 0, none⟩)] w fun e w' => e = .returned (.tuple #[]) ∧ w = w' := by
  refine W.enter Tryz.func42 rfl Tryz.ntmps42 (Nat.le_of_ble_eq_true rfl) ?_
  refine W.seq ?_
  refine W.seq ?_
  refine W.reg ?_ -- 0
  refine WL.p (.mv rfl) rfl <| WL.p (.eqNil0 (by kernel_rfl) rfl) rfl <| WL.nil <| ?_
  refine W.condT rfl rfl ?_
  refine W.ret (W.ret0 rfl  ?_)
  exact ⟨rfl, rfl⟩
theorem guard_err (b B : Nat) (j k : Int) (w : World) (h : Blk w b #[.int .i64 j] 35) (hB : B ≤ b) : Calls Tryz.prog 42 #[.iface 35 (.int .i64 k), .pointer (some ⟨b, 0, none⟩)] w fun e w' => e = .returned (.tuple #[]) ∧ Blk w' b #[.int .i64 k] 35 ∧ Upd b w w' := by
  refine W.enter Tryz.func42 rfl Tryz.ntmps42 (Nat.le_of_ble_eq_true rfl) ?_
  refine W.seq ?_
  refine W.seq ?_
  refine W.reg ?_ -- 0
  refine WL.p (.mv rfl) rfl <| WL.p (.eqNil (by kernel_rfl) rfl) rfl <| WL.nil <| ?_
  refine W.condF rfl rfl ?_
  refine W.skip ?_
  refine W.seq ?_
  refine W.reg ?_ -- 1
  refine WL.p (.mv rfl) rfl <| WL.p (.tas Tryz.underlying35 rfl) rfl <| WL.p (.mv rfl) rfl <| WL.p (.ext rfl rfl) rfl <| WL.p (.ext rfl rfl) rfl <| WL.p (.as rfl) rfl <| WL.p (.as rfl) rfl <| WL.nil <| ?_
  refine W.seq ?_
  refine W.seq ?_
  refine W.reg ?_ -- 2
  refine WL.p (.mv rfl) rfl <| WL.p (.not rfl) rfl <| WL.nil <| ?_
  refine W.condF rfl rfl ?_
  refine W.skip ?_
  refine W.reg ?_ -- 4
  refine WL.p (.mv rfl) rfl <| WL.p (.mv rfl) rfl <| WL.p (.nck rfl) rfl <| WL.st Tryz.sizeOf35 rfl rfl rfl h (by first | decide | exact Nat.le_of_ble_eq_true rfl) (fun w1 hkw1 huw1 hsw1 => ?_)
  refine WL.nil <| ?_
  refine W.norm (W.ret0 rfl ?_)
  exact ⟨rfl, hkw1, by assumption⟩
theorem plex_quiet (b1 b2 b5 : Nat) (w : World) (h : Blk w b5 #[.int .i64 0] 35) :
    CallsD Tryz.prog 41 #[.pointer (some ⟨b5, 0, none⟩), .pointer (some ⟨b1, 0, none⟩), .pointer (some ⟨b2, 0, none⟩)] .returning w fun e u' w' => u' = .returning ∧ (∃ v, e = .returned v) ∧ w' = w := by
  refine CallsD.rec Tryz.func41 rfl Tryz.ntmps41 (Nat.le_of_ble_eq_true rfl) rfl ?_
  refine WL.c1 hb42 rfl rfl ((guard_nil _ _)) (fun w1 hw1 => ?_)
  obtain rfl := hw1
  refine WL.nil <| ?_
  refine W.seq ?_
  refine W.reg ?_ -- 1
  refine WL.r (Rd.ld (Tryz.isAgg35 _) rfl h rfl) rfl <| WL.p (.neq rfl rfl) rfl <| WL.nil <| ?_
  refine W.condF rfl rfl ?_
  refine W.skip ?_
  refine W.norm (W.ret0 rfl ?_)
  exact ⟨⟨_, rfl⟩, rfl⟩
theorem plex_caught (b1 b2 b5 B : Nat) (c0 c1 c2 c3 c4 c5 : Value) (i j k : Int) (w : World) (h1 : Blk w b1 [c0, c1, c2, c3, c4, c5].toArray 31) (h2 : Blk w b2 #[.int .i64 i] 3) (h5 : Blk w b5 #[.int .i64 j] 35) (hB1 : B ≤ b1) (h12 : b1 < b2) (h25 : b2 < b5) (hk : k ≠ 0) :
    CallsD Tryz.prog 41 #[.pointer (some ⟨b5, 0, none⟩), .pointer (some ⟨b1, 0, none⟩), .pointer (some ⟨b2, 0, none⟩)] (.panicking [{ v := .iface 35 (.int .i64 k), recovered := false }]) w
      fun e u' w' => u' = .panicking [{ v := .iface 35 (.int .i64 k), recovered := true }] ∧ (∃ v, e = .returned v) ∧
        Blk w' b1 (pobj 0 0 []).toArray 31 ∧ Blk w' b2 #[.int .i64 0] 3 ∧ Blk w' b5 #[.int .i64 k] 35 ∧ Below B w w' := by
  refine CallsD.rec Tryz.func41 rfl Tryz.ntmps41 (Nat.le_of_ble_eq_true rfl) rfl ?_
  have hB0 := Below.refl (B) w
  refine WL.c1 hb42 rfl rfl ((guard_err b5 B _ k _ h5 (by omega))) (fun w1 hw1 => ?_)
  obtain ⟨hg1, hg2⟩ := hw1
  have hb1 := (h1).upd hg2 (by omega)
  have hb2 := (h2).upd hg2 (by omega)
  have hBg := Upd.below hB0 (by omega) hg2
  refine WL.nil <| ?_
  refine W.seq ?_
  refine W.reg ?_ -- 1
  refine WL.r (Rd.ld (Tryz.isAgg35 _) rfl hg1 rfl) rfl <| WL.p (.bis (true) (.neq rfl rfl) (by simp [hk])) rfl <| WL.nil <| ?_
  refine W.condT rfl rfl ?_
  refine W.reg ?_ -- 2
  refine WL.p (.buildL (ps := _) blt31 rfl rfl rfl (by simp only [put1, List.map, List.zip, List.zipWith] <;> rfl)) rfl ?_
  refine WL.stL rfl rfl hb1 isz31 rfl rfl (fun w2 hkw2 huw2 hsw2 => ?_)
  have hk3 := hg1.upd huw2 (by ((try simp only) <;> omega))
  have hk4 := hb2.upd huw2 (by ((try simp only) <;> omega))
  have hB5 := Upd.below hBg (by omega) huw2
  refine WL.st Tryz.sizeOf3 rfl rfl rfl hk4 (by first | decide | exact Nat.le_of_ble_eq_true rfl) (fun w6 hkw6 huw6 hsw6 => ?_)
  have hk7 := hk3.upd huw6 (by ((try simp only) <;> omega))
  have hk8 := hkw2.upd huw6 (by ((try simp only) <;> omega))
  have hB9 := Upd.below hB5 (by omega) huw6
  refine WL.nil <| ?_
  refine W.norm (W.ret0 rfl ?_)
  exact ⟨⟨_, rfl⟩, hk8, hkw6, hk7, hB9⟩

/-- what Object answers where a word is -/
def objwV (X : WR) : Value := if X.ok then .tuple #[.agg (pobj X.kind X.n []).toArray, .int .i64 (X.np : Int), .int .i64 0] else .tuple #[.agg (pobj 0 0 []).toArray, .int .i64 0, .int .i64 23]
theorem plex_Objw (a d : Int) (p : Option Addr) (l : List UInt8) (c t : Nat) (w : World) (hb : BytesAt w p l) (hc : l.length ≤ c) (hl : l.length ≤ 1000000) (ha : ¬ (a < 0 ∨ (l.length : Int) < a)) (hst : t = skipAt false l (insA l a)) (ht : t < l.length)
    (h47 : l[t] ≠ 47) (h91 : l[t] ≠ 91) (h40 : l[t] ≠ 40) (h60 : l[t] ≠ 60) :
    Calls Tryz.prog 18 #[.slice p l.length c, .int .i64 a, .int .i64 d] w fun e w' => e = .returned (objwV (plexW true l t)) ∧ Below w.heap.size w w' := by
  obtain ⟨X, hX⟩ : ∃ X, X = plexW true l t := ⟨_, rfl⟩
  have hSk : ∀ w1, BytesAt w1 p l → Calls Tryz.prog 13 #[.slice p l.length c, .int .i64 a] w1 fun e w' => e = .returned (.int .i64 (t : Int)) ∧ w1 = w' := fun w1 h1 => by rw [hst]; exact plex_Skip p l c a w1 h1 hl
  rw [← hX]
  refine W.enterD Tryz.func18 rfl Tryz.ntmps18 (Nat.le_of_ble_eq_true rfl) ?_
  have hB0 := Below.refl (w.heap.size) w
  refine WD.seq ?_
  refine W.reg ?_ -- 0
  refine WL.alloc Tryz.zeroValue31 rfl (fun b1 wb1 eb1 hkb1 hub1 hsb1 => ?_)
  have hvl3 := fun h0 => eb1 ▸ hb.lt h0
  have hv2 := BytesAt.upd hb hub1 (fun h0 => Nat.ne_of_lt (hvl3 h0))
  have hB4 := Upd.below hB0 (by rw [eb1]; exact hB0.size) hub1
  have hgeb1 : w.heap.size ≤ b1 := by rw [eb1]; exact hB0.size
  refine WL.alloc Tryz.zeroValue3 rfl (fun b5 wb5 eb5 hkb5 hub5 hsb5 => ?_)
  have hl7 : b1 < b5 := by rw [eb5]; exact hkb1.lt
  have hk6 := hkb1.upd hub5 (Nat.ne_of_lt hl7)
  have hvl9 := fun h0 => eb5 ▸ hv2.lt h0
  have hv8 := BytesAt.upd hv2 hub5 (fun h0 => Nat.ne_of_lt (hvl9 h0))
  have hB10 := Upd.below hB4 (by rw [eb5]; exact hB4.size) hub5
  have hgeb5 : w.heap.size ≤ b5 := by rw [eb5]; exact hB4.size
  refine WL.alloc Tryz.zeroValue35 rfl (fun b11 wb11 eb11 hkb11 hub11 hsb11 => ?_)
  have hl13 : b1 < b11 := by rw [eb11]; exact hk6.lt
  have hk12 := hk6.upd hub11 (Nat.ne_of_lt hl13)
  have hl15 : b5 < b11 := by rw [eb11]; exact hkb5.lt
  have hk14 := hkb5.upd hub11 (Nat.ne_of_lt hl15)
  have hvl17 := fun h0 => eb11 ▸ hv8.lt h0
  have hv16 := BytesAt.upd hv8 hub11 (fun h0 => Nat.ne_of_lt (hvl17 h0))
  have hB18 := Upd.below hB10 (by rw [eb11]; exact hB10.size) hub11
  have hgeb11 : w.heap.size ≤ b11 := by rw [eb11]; exact hB10.size
  refine WL.nil <| ?_
  refine WD.seq ?_
  refine W.cutB 17 (false) ?_ ?_
  · skip
    refine W.reg ?_ -- 1
    refine WL.p (.mv rfl) rfl <| WL.p (.lss rfl rfl) rfl <| WL.p (.mv rfl) rfl <| WL.gd rfl rfl rfl (fun g19 => ?_) (fun g19 => ?_)
    · have g19' := of_decide_eq_false g19
      refine WL.p (.mv rfl) rfl <| WL.gy rfl rfl rfl g19 <| WL.p (.mv rfl) rfl <| WL.gy rfl rfl rfl g19 <| WL.p (.lenS Tryz.underlying22 rfl) rfl <| WL.gy rfl rfl rfl g19 <| WL.p (.gtr rfl rfl) rfl <| WL.p (.pkF rfl g19 rfl) rfl <| WL.nil <| ?_
      exact ⟨⟨lk_b rfl (by first | (simp; omega) | (exfalso; simp_all; omega) | (exfalso; omega)), by repeat (first | exact Le.refl _ | refine Le.cons rfl ?_)⟩, rfl⟩
    · have g19' := of_decide_eq_true g19
      refine WL.gn rfl rfl rfl g19 <| WL.gn rfl rfl rfl g19 <| WL.gn rfl rfl rfl g19 <| WL.p (.pkT rfl g19 rfl) rfl <| WL.nil <| ?_
      exact ⟨⟨lk_b rfl (by first | (simp; omega) | (exfalso; simp_all; omega) | (exfalso; omega)), by repeat (first | exact Le.refl _ | refine Le.cons rfl ?_)⟩, rfl⟩
  refine W.condF rfl rfl ?_
  refine W.skip ?_
  refine WD.seq ?_
  refine W.reg ?_ -- 3
  refine WL.p (.mv rfl) rfl <| WL.p (.mv rfl) rfl <| WL.c1 hb13 rfl rfl ((hSk _ hv16)) (fun w20 hw20 => ?_)
  obtain rfl := hw20
  refine WL.p (.as rfl) rfl <| WL.nil <| ?_
  refine WD.seq ?_
  refine W.seq ?_
  refine W.reg ?_ -- 4
  refine WL.p (.mv rfl) rfl <| WL.p (.mv rfl) rfl <| WL.p (.lenS Tryz.underlying22 rfl) rfl <| WL.p (.bis (false) (.eql rfl rfl) (by simp; omega)) rfl <| WL.nil <| ?_
  refine W.condF rfl rfl ?_
  refine W.skip ?_
  refine WD.defer rfl rfl ?_ -- 6
  refine WD.of ?_
  refine W.seq ?_
  refine W.reg ?_ -- 7
  refine WL.p (.mv rfl) rfl <| WL.p (.mv rfl) rfl <| ?_
  refine WL.p (.buildL (ps := _) blt63 rfl rfl rfl (by simp only [put1, List.map, List.zip, List.zipWith, List.set] <;> rfl)) rfl ?_
  refine WL.box rfl rfl (fun b21 wb21 eb21 hkb21 hub21 hsb21 => ?_)
  have hl23 : b1 < b21 := by rw [eb21]; exact hk12.lt
  have hk22 := hk12.upd hub21 (Nat.ne_of_lt hl23)
  have hl25 : b5 < b21 := by rw [eb21]; exact hk14.lt
  have hk24 := hk14.upd hub21 (Nat.ne_of_lt hl25)
  have hl27 : b11 < b21 := by rw [eb21]; exact hkb11.lt
  have hk26 := hkb11.upd hub21 (Nat.ne_of_lt hl27)
  have hvl29 := fun h0 => eb21 ▸ hv16.lt h0
  have hv28 := BytesAt.upd hv16 hub21 (fun h0 => Nat.ne_of_lt (hvl29 h0))
  have hB30 := Upd.below hB18 (by rw [eb21]; exact hB18.size) hub21
  have hgeb21 : w.heap.size ≤ b21 := by rw [eb21]; exact hB18.size
  refine WL.p (.as rfl) rfl <| WL.nil <| ?_
  refine W.seq ?_
  refine W.reg ?_ -- 8
  refine WL.p (.mv rfl) rfl <| WL.p (.mv rfl) rfl <| WL.ce hb43 rfl rfl ((by have hq := plex_objw b21 p l c t true d _ ⟨hkb21, hv28⟩ (fun h0 => by have := hb.lt h0; omega) hc hl ht h47 h91 h40 h60; rw [← hX] at hq; exact hq)) (fun k33 w31 hrw31 hw31 => ?_) (fun a32 w31 hrw31 hw31 => ?_)
  · skip
    have hBew31 := Below.trans hB30 (Touch.below hw31 hB30.size (by omega))
    have hkk : X.ok = false ∧ k33 = 23 := by have h0 := hrw31; unfold wordE at h0; cases hxo : X.ok <;> rw [hxo] at h0 <;> simp at h0; exact ⟨rfl, h0.symm⟩
    exact PostD.caught hb41 (fun w' => _) (plex_caught b1 b5 b11 w.heap.size _ _ _ _ _ _ _ _ k33 _ (Blk.touch hk22 hw31 hk22.lt (by omega)) (Blk.touch hk24 hw31 hk24.lt (by omega)) (Blk.touch hk26 hw31 hk26.lt (by omega)) (by omega) (by omega) (by omega) (by rw [hkk.2]; decide))
      (fun w' hS => ⟨_, ResOk.cells3 rfl rfl rfl rfl (ldRow hS.1 Tryz.underlying31 rfl isz31) (ldCell hS.2.1 (Tryz.isAgg3 _) rfl) (ldCell hS.2.2.1 (Tryz.isAgg35 _) rfl), ret_val (by unfold objwV; rw [hkk.1, hkk.2]; rfl), hBew31.trans hS.2.2.2⟩)
  · skip
    have hk34 := Blk.touch hk22 hw31.2 hk22.lt (by omega)
    have hk35 := Blk.touch hk24 hw31.2 hk24.lt (by omega)
    have hk36 := Blk.touch hk26 hw31.2 hk26.lt (by omega)
    have hk37 := hw31.1.1
    have hv38 := hw31.1.2
    have hB39 := Below.trans hB30 (Touch.below hw31.2 hB30.size (by omega))
    obtain ⟨hxo, ha0⟩ : X.ok = true ∧ a32 = X := by have h0 := hrw31; unfold wordE at h0; cases hxo : X.ok <;> rw [hxo] at h0 <;> simp at h0; exact ⟨rfl, h0.symm⟩
    refine WL.stL rfl rfl hk34 isz31 rfl rfl (fun w40 hkw40 huw40 hsw40 => ?_)
    have hk41 := hk35.upd huw40 (by ((try simp only) <;> omega))
    have hk42 := hk36.upd huw40 (by ((try simp only) <;> omega))
    have hk43 := hk37.upd huw40 (by ((try simp only) <;> omega))
    have hv44 := BytesAt.upd hv38 huw40 (fun h0 => Nat.ne_of_lt (hvl3 h0))
    have hB45 := Upd.below hB39 (by omega) huw40
    refine WL.nil <| ?_
    refine W.seq ?_
    refine W.noPn ?_
    refine W.regY 8 rfl mixed (fun w46 dw46 => ?_) -- 9
    have hk47 := hkw40.drew dw46
    have hk48 := hk41.drew dw46
    have hk49 := hk42.drew dw46
    have hk50 := hk43.drew dw46
    have hv51 := hv44.drew dw46
    have hB52 := Drew.below hB45 dw46
    refine WY.take 1 rfl (by kernel_rfl) (by kernel_rfl) (by kernel_rfl) (fun c f w h => h) (.mv rfl) rfl ?_
    refine WY.take 2 rfl (by kernel_rfl) (by kernel_rfl) (by kernel_rfl) (fun c f w h => h) (.nck rfl) rfl ?_
    refine WY.take 3 rfl (by kernel_rfl) (by kernel_rfl) (by kernel_rfl) (fun c f w h => h) (.fa Tryz.underlying63 rfl Tryz.sizeOf3 (by decide) rfl) rfl ?_
    refine WY.br [0, 4] (by kernel_rfl) rfl ⟨⟨_, rfl, ?_⟩, ⟨_, rfl, ?_⟩, trivial⟩
    · skip
      refine WL.r (Rd.ldA rfl hk47 Tryz.underlying31 rfl isz31) rfl <| WL.nil <| ?_
      refine WY.br [4, 5] (by kernel_rfl) rfl ⟨⟨_, rfl, ?_⟩, ⟨_, rfl, ?_⟩, trivial⟩
      · skip
        refine WL.r (Rd.ld (Tryz.isAgg3 _) rfl hk50 rfl) rfl <| WL.nil <| ?_
        refine WY.br [5] (by kernel_rfl) rfl ⟨⟨_, rfl, ?_⟩, trivial⟩
        · skip
          refine WL.stL rfl rfl hk47 isz31 rfl rfl (fun w53 hkw53 huw53 hsw53 => ?_)
          have hk54 := hk48.upd huw53 (by ((try simp only) <;> omega))
          have hk55 := hk49.upd huw53 (by ((try simp only) <;> omega))
          have hk56 := hk50.upd huw53 (by ((try simp only) <;> omega))
          have hv57 := BytesAt.upd hv51 huw53 (fun h0 => Nat.ne_of_lt (hvl3 h0))
          have hB58 := Upd.below hB52 (by omega) huw53
          refine WL.nil <| ?_
          refine WY.br [6] (by kernel_rfl) rfl ⟨⟨_, rfl, ?_⟩, trivial⟩
          · skip
            refine WL.st Tryz.sizeOf3 rfl rfl rfl hk54 (by first | decide | exact Nat.le_of_ble_eq_true rfl) (fun w59 hkw59 huw59 hsw59 => ?_)
            have hk60 := hkw53.upd huw59 (by ((try simp only) <;> omega))
            have hk61 := hk55.upd huw59 (by ((try simp only) <;> omega))
            have hk62 := hk56.upd huw59 (by ((try simp only) <;> omega))
            have hv63 := BytesAt.upd hv57 huw59 (fun h0 => Nat.ne_of_lt (hvl9 h0))
            have hB64 := Upd.below hB58 (by omega) huw59
            refine WL.nil <| ?_
            refine WY.br [7] (by kernel_rfl) rfl ⟨⟨_, rfl, ?_⟩, trivial⟩
            · skip
              refine WL.st Tryz.sizeOf35 rfl rfl rfl hk61 (by first | decide | exact Nat.le_of_ble_eq_true rfl) (fun w65 hkw65 huw65 hsw65 => ?_)
              have hk66 := hk60.upd huw65 (by ((try simp only) <;> omega))
              have hk67 := hkw59.upd huw65 (by ((try simp only) <;> omega))
              have hk68 := hk62.upd huw65 (by ((try simp only) <;> omega))
              have hv69 := BytesAt.upd hv63 huw65 (fun h0 => Nat.ne_of_lt (hvl17 h0))
              have hB70 := Upd.below hB64 (by omega) huw65
              refine WL.nil <| ?_
              refine WY.done (by kernel_rfl) ?_
              refine W.ret ?_
              exact PostD.ret hb41 (fun w' => _) (plex_quiet b1 b5 b11 _ hkw65)
                (fun w' hS => by subst hS; exact ⟨_, ResOk.cells3 rfl rfl rfl rfl (ldRow hk66 Tryz.underlying31 rfl isz31) (ldCell hk67 (Tryz.isAgg3 _) rfl) (ldCell hkw65 (Tryz.isAgg35 _) rfl), ret_val (by unfold objwV; rw [hxo, ha0]; rfl), hB70⟩)
      · skip
        refine WL.stL rfl rfl hk47 isz31 rfl rfl (fun w71 hkw71 huw71 hsw71 => ?_)
        have hk72 := hk48.upd huw71 (by ((try simp only) <;> omega))
        have hk73 := hk49.upd huw71 (by ((try simp only) <;> omega))
        have hk74 := hk50.upd huw71 (by ((try simp only) <;> omega))
        have hv75 := BytesAt.upd hv51 huw71 (fun h0 => Nat.ne_of_lt (hvl3 h0))
        have hB76 := Upd.below hB52 (by omega) huw71
        refine WL.nil <| ?_
        refine WY.br [4] (by kernel_rfl) rfl ⟨⟨_, rfl, ?_⟩, trivial⟩
        · skip
          refine WL.r (Rd.ld (Tryz.isAgg3 _) rfl hk74 rfl) rfl <| WL.nil <| ?_
          refine WY.br [6] (by kernel_rfl) rfl ⟨⟨_, rfl, ?_⟩, trivial⟩
          · skip
            refine WL.st Tryz.sizeOf3 rfl rfl rfl hk72 (by first | decide | exact Nat.le_of_ble_eq_true rfl) (fun w77 hkw77 huw77 hsw77 => ?_)
            have hk78 := hkw71.upd huw77 (by ((try simp only) <;> omega))
            have hk79 := hk73.upd huw77 (by ((try simp only) <;> omega))
            have hk80 := hk74.upd huw77 (by ((try simp only) <;> omega))
            have hv81 := BytesAt.upd hv75 huw77 (fun h0 => Nat.ne_of_lt (hvl9 h0))
            have hB82 := Upd.below hB76 (by omega) huw77
            refine WL.nil <| ?_
            refine WY.br [7] (by kernel_rfl) rfl ⟨⟨_, rfl, ?_⟩, trivial⟩
            · skip
              refine WL.st Tryz.sizeOf35 rfl rfl rfl hk79 (by first | decide | exact Nat.le_of_ble_eq_true rfl) (fun w83 hkw83 huw83 hsw83 => ?_)
              have hk84 := hk78.upd huw83 (by ((try simp only) <;> omega))
              have hk85 := hkw77.upd huw83 (by ((try simp only) <;> omega))
              have hk86 := hk80.upd huw83 (by ((try simp only) <;> omega))
              have hv87 := BytesAt.upd hv81 huw83 (fun h0 => Nat.ne_of_lt (hvl17 h0))
              have hB88 := Upd.below hB82 (by omega) huw83
              refine WL.nil <| ?_
              refine WY.done (by kernel_rfl) ?_
              refine W.ret ?_
              exact PostD.ret hb41 (fun w' => _) (plex_quiet b1 b5 b11 _ hkw83)
                (fun w' hS => by subst hS; exact ⟨_, ResOk.cells3 rfl rfl rfl rfl (ldRow hk84 Tryz.underlying31 rfl isz31) (ldCell hk85 (Tryz.isAgg3 _) rfl) (ldCell hkw83 (Tryz.isAgg35 _) rfl), ret_val (by unfold objwV; rw [hxo, ha0]; rfl), hB88⟩)
    · skip
      refine WL.r (Rd.ld (Tryz.isAgg3 _) rfl hk50 rfl) rfl <| WL.nil <| ?_
      refine WY.br [0] (by kernel_rfl) rfl ⟨⟨_, rfl, ?_⟩, trivial⟩
      · skip
        refine WL.r (Rd.ldA rfl hk47 Tryz.underlying31 rfl isz31) rfl <| WL.nil <| ?_
        refine WY.br [5] (by kernel_rfl) rfl ⟨⟨_, rfl, ?_⟩, trivial⟩
        · skip
          refine WL.stL rfl rfl hk47 isz31 rfl rfl (fun w89 hkw89 huw89 hsw89 => ?_)
          have hk90 := hk48.upd huw89 (by ((try simp only) <;> omega))
          have hk91 := hk49.upd huw89 (by ((try simp only) <;> omega))
          have hk92 := hk50.upd huw89 (by ((try simp only) <;> omega))
          have hv93 := BytesAt.upd hv51 huw89 (fun h0 => Nat.ne_of_lt (hvl3 h0))
          have hB94 := Upd.below hB52 (by omega) huw89
          refine WL.nil <| ?_
          refine WY.br [6] (by kernel_rfl) rfl ⟨⟨_, rfl, ?_⟩, trivial⟩
          · skip
            refine WL.st Tryz.sizeOf3 rfl rfl rfl hk90 (by first | decide | exact Nat.le_of_ble_eq_true rfl) (fun w95 hkw95 huw95 hsw95 => ?_)
            have hk96 := hkw89.upd huw95 (by ((try simp only) <;> omega))
            have hk97 := hk91.upd huw95 (by ((try simp only) <;> omega))
            have hk98 := hk92.upd huw95 (by ((try simp only) <;> omega))
            have hv99 := BytesAt.upd hv93 huw95 (fun h0 => Nat.ne_of_lt (hvl9 h0))
            have hB100 := Upd.below hB94 (by omega) huw95
            refine WL.nil <| ?_
            refine WY.br [7] (by kernel_rfl) rfl ⟨⟨_, rfl, ?_⟩, trivial⟩
            · skip
              refine WL.st Tryz.sizeOf35 rfl rfl rfl hk97 (by first | decide | exact Nat.le_of_ble_eq_true rfl) (fun w101 hkw101 huw101 hsw101 => ?_)
              have hk102 := hk96.upd huw101 (by ((try simp only) <;> omega))
              have hk103 := hkw95.upd huw101 (by ((try simp only) <;> omega))
              have hk104 := hk98.upd huw101 (by ((try simp only) <;> omega))
              have hv105 := BytesAt.upd hv99 huw101 (fun h0 => Nat.ne_of_lt (hvl17 h0))
              have hB106 := Upd.below hB100 (by omega) huw101
              refine WL.nil <| ?_
              refine WY.done (by kernel_rfl) ?_
              refine W.ret ?_
              exact PostD.ret hb41 (fun w' => _) (plex_quiet b1 b5 b11 _ hkw101)
                (fun w' hS => by subst hS; exact ⟨_, ResOk.cells3 rfl rfl rfl rfl (ldRow hk102 Tryz.underlying31 rfl isz31) (ldCell hk103 (Tryz.isAgg3 _) rfl) (ldCell hkw101 (Tryz.isAgg35 _) rfl), ret_val (by unfold objwV; rw [hxo, ha0]; rfl), hB106⟩)

end Go.Proofs.YtjghbcjnplcleaaGreatDoor
