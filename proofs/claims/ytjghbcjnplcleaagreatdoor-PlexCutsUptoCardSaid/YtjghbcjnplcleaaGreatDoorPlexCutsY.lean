/-
  The law PlexCuts, in its second form: no proper part of the bytes of an object that ends with a bracket is an object. Condition: the row's own, that what is read is of bulk at most 1048576.
-/
import Derived.Test.YtjghbcjnplcleaaGreatDoorPc5
namespace Go.Proofs.YtjghbcjnplcleaaGreatDoor
open Go.RowKit
open Go.Proofs.Tryz
section
/-- what Object answers: object, place, error -/
def objT (l : List UInt8) (a d : Int) : PV × Int × Int :=
 if a < 0 ∨ (l.length : Int) < a then (pv0 0 0 [], 0, 21)
 else if skipAt false l a.toNat < l.length then
  (match objP true l d.toNat (skipAt false l a.toNat) with
   | .ok (o, t') => (o, t', 0)
   | .error k => (pv0 0 0 [], 0, k))
 else (pv0 0 0 [], 0, 26)
/-- an answer of Object as it lies in memory, in blocks from B on -/
def ObjA (B : Nat) (R : PV × Int × Int) (e : Ending) (w' : World) : Prop :=
 ∃ x : PC, e = .returned (.tuple #[.agg (pcV x).toArray, .int .i64 R.2.1, .int .i64 R.2.2]) ∧ PRep w' (fun k => B ≤ k) x R.1
theorem plex_Object (p : Option Addr) (l : List UInt8) (c : Nat) (a d : Int) (w : World) (hb : BytesAt w p l) (hc : l.length ≤ c) (hl : l.length ≤ 100000000) (hd : -9223372036854775808 < d ∧ d ≤ 1000000000) :
    Calls Tryz.prog 18 #[.slice p l.length c, .int .i64 a, .int .i64 d] w fun e w' => ObjA w.heap.size (objT l a d) e w' ∧ Below w.heap.size w w' := by
  obtain ⟨R, hR⟩ : ∃ R, R = objT l a d := ⟨_, rfl⟩
  rw [← hR]
  unfold objT at hR
  obtain ⟨t, ht⟩ : ∃ t, t = skipAt false l (insA l a) := ⟨_, rfl⟩
  have hSk : ∀ w1, BytesAt w1 p l → Calls Tryz.prog 13 #[.slice p l.length c, .int .i64 a] w1 fun e w' => e = .returned (.int .i64 (t : Int)) ∧ w1 = w' := fun w1 h1 => by rw [ht]; exact plex_Skip p l c a w1 h1 hl
  have htl : t ≤ l.length := by rw [ht]; exact skipAt_le _ _ _
  have hta : ¬ (a < 0 ∨ (l.length : Int) < a) → skipAt false l a.toNat = t := fun h => by rw [ht]; unfold insA; rw [if_neg h]
  refine W.enterD func18 rfl ntmps18 (Nat.le_of_ble_eq_true rfl) ?_
  have hB0 := Below.refl (w.heap.size) w
  refine WD.seq ?_
  refine W.reg <| WL.alloc zeroValue31 rfl (fun b1 wb1 eb1 hkb1 hub1 hsb1 => ?_)
  have hvl3 := fun h0 => eb1 ▸ hb.lt h0
  have hv2 := bup hb hub1 hvl3
  have hB4 := Upd.below hB0 (by rw [eb1]; exact hB0.size) hub1
  have hgeb1 : w.heap.size ≤ b1 := by rw [eb1]; exact hB0.size
  refine WL.alloc zeroValue3 rfl (fun b5 wb5 eb5 hkb5 hub5 hsb5 => ?_)
  have hl7 : b1 < b5 := by rw [eb5]; exact hkb1.lt
  have hk6 := hkb1.upd hub5 (Nat.ne_of_lt hl7)
  have hvl9 := fun h0 => eb5 ▸ hv2.lt h0
  have hv8 := bup hv2 hub5 hvl9
  have hB10 := Upd.below hB4 (by rw [eb5]; exact hB4.size) hub5
  have hgeb5 : w.heap.size ≤ b5 := by rw [eb5]; exact hB4.size
  refine WL.alloc zeroValue35 rfl (fun b11 wb11 eb11 hkb11 hub11 hsb11 => ?_)
  have hl13 : b1 < b11 := by rw [eb11]; exact hk6.lt
  have hk12 := hk6.upd hub11 (Nat.ne_of_lt hl13)
  have hl15 : b5 < b11 := by rw [eb11]; exact hkb5.lt
  have hk14 := hkb5.upd hub11 (Nat.ne_of_lt hl15)
  have hvl17 := fun h0 => eb11 ▸ hv8.lt h0
  have hv16 := bup hv8 hub11 hvl17
  have hB18 := Upd.below hB10 (by rw [eb11]; exact hB10.size) hub11
  have hgeb11 : w.heap.size ≤ b11 := by rw [eb11]; exact hB10.size
  refine WL.nil <| ?_
  refine WD.seq ?_
  refine W.cutB 17 (decide (a < 0 ∨ (l.length : Int) < a)) ?_ ?_
  refine W.reg <| WL.m rfl rfl <| WL.p (.lss rfl rfl) rfl <| WL.m rfl rfl <| WL.gd rfl rfl rfl (fun g19 => ?_) (fun g19 => ?_)
  · have g19' := dF g19
    refine WL.m rfl rfl <| WL.gy rfl rfl rfl g19 <| WL.m rfl rfl <| WL.gy rfl rfl rfl g19 <| WL.p (.lenS underlying22 rfl) rfl <| WL.gy rfl rfl rfl g19 <| WL.p (.gtr rfl rfl) rfl <| WL.p (.pkF rfl g19 rfl) rfl <| WL.nil <| ?_
    exact ⟨leF rfl, rfl⟩
  have g19' := dT g19
  refine WL.gn rfl rfl rfl g19 <| WL.gn rfl rfl rfl g19 <| WL.gn rfl rfl rfl g19 <| WL.p (.pkT rfl g19 rfl) rfl <| WL.nil <| ?_
  exact ⟨leF rfl, rfl⟩
  refine W.cond rfl (fun h20 => ?_) (fun h20 => ?_)
  · have h20' := dT h20
    rw [if_pos aS] at hR
    subst hR
    refine W.sr <| WL.p (.buildL (ps := _) blt31 rfl rfl rfl pZ) rfl ?_
    refine WL.stL rfl rfl hk12 isz31 rfl rfl (fun w21 hkw21 huw21 hsw21 => ?_)
    have hk22 := hk14.up huw21
    have hk23 := hkb11.up huw21
    have hB25 := Upd.below hB18 oO huw21
    refine WL.st sizeOf3 rfl rfl rfl hk22 oD (fun w26 hkw26 huw26 hsw26 => ?_)
    have hkw26 : Blk w26 b5 _ _ := hkw26
    have huw26 : Upd b5 _ _ := huw26
    have hk27 := hkw21.up huw26
    have hk28 := hk23.up huw26
    have hB30 := Upd.below hB25 oO huw26
    refine WL.st sizeOf35 rfl rfl rfl hk28 oD (fun w31 hkw31 huw31 hsw31 => ?_)
    have hkw31 : Blk w31 b11 _ _ := hkw31
    have huw31 : Upd b11 _ _ := huw31
    have hk32 := hk27.up huw31
    have hk33 := hkw26.up huw31
    have hB35 := Upd.below hB30 oO huw31
    refine WL.nil <| ?_
    refine W.ret ?_
    first
    | exact PostD.ret hb41 (fun w' => _) (plex_quiet b1 b5 b11 _ hkw31) (fun w' hS => by subst hS; exact ⟨_, ResOk.cells3 rfl rfl rfl rfl (ldRow hk32 underlying31 rfl isz31) (ldCell hk33 (isAgg3 _) rfl) (ldCell hkw31 (isAgg35 _) rfl), ⟨x1, ret_val rfl, (FACT).mono (fun k hk _ => hk.2)⟩, hB35⟩)
    | exact PostD.ret0 (ResOk.cells3 rfl rfl rfl rfl (ldRow hk32 underlying31 rfl isz31) (ldCell hk33 (isAgg3 _) rfl) (ldCell hkw31 (isAgg35 _) rfl)) ⟨⟨pc0 0 0 [], ret_val rfl, PRep.zero _ _ _ _ _⟩, hB35⟩
  have h20' := dF h20
  rw [if_neg aS, hta aS] at hR
  refine W.skip ?_
  refine WD.seq ?_
  refine W.reg <| WL.m rfl rfl <| WL.m rfl rfl <| WL.c1 hb13 rfl rfl ((hSk _ hv16)) (fun w36 hw36 => ?_)
  obtain rfl := hw36
  refine WL.z rfl rfl ?_
  refine WD.seq ?_
  refine W.sr <| WL.m rfl rfl <| WL.m rfl rfl <| WL.p (.lenS underlying22 rfl) rfl <| WL.p (.eql rfl rfl) rfl <| WL.nil <| ?_
  refine W.cond rfl (fun h37 => ?_) (fun h37 => ?_)
  · have h37' := dT h37
    rw [if_neg oO] at hR
    subst hR
    refine W.sr <| WL.p (.buildL (ps := _) blt31 rfl rfl rfl pZ) rfl ?_
    refine WL.stL rfl rfl hk12 isz31 rfl rfl (fun w38 hkw38 huw38 hsw38 => ?_)
    have hk39 := hk14.up huw38
    have hk40 := hkb11.up huw38
    have hB42 := Upd.below hB18 oO huw38
    refine WL.st sizeOf3 rfl rfl rfl hk39 oD (fun w43 hkw43 huw43 hsw43 => ?_)
    have hkw43 : Blk w43 b5 _ _ := hkw43
    have huw43 : Upd b5 _ _ := huw43
    have hk44 := hkw38.up huw43
    have hk45 := hk40.up huw43
    have hB47 := Upd.below hB42 oO huw43
    refine WL.st sizeOf35 rfl rfl rfl hk45 oD (fun w48 hkw48 huw48 hsw48 => ?_)
    have hkw48 : Blk w48 b11 _ _ := hkw48
    have huw48 : Upd b11 _ _ := huw48
    have hk49 := hk44.up huw48
    have hk50 := hkw43.up huw48
    have hB52 := Upd.below hB47 oO huw48
    refine WL.nil <| ?_
    refine W.ret ?_
    first
    | exact PostD.ret hb41 (fun w' => _) (plex_quiet b1 b5 b11 _ hkw48) (fun w' hS => by subst hS; exact ⟨_, ResOk.cells3 rfl rfl rfl rfl (ldRow hk49 underlying31 rfl isz31) (ldCell hk50 (isAgg3 _) rfl) (ldCell hkw48 (isAgg35 _) rfl), ⟨x1, ret_val rfl, (FACT).mono (fun k hk _ => hk.2)⟩, hB52⟩)
    | exact PostD.ret0 (ResOk.cells3 rfl rfl rfl rfl (ldRow hk49 underlying31 rfl isz31) (ldCell hk50 (isAgg3 _) rfl) (ldCell hkw48 (isAgg35 _) rfl)) ⟨⟨pc0 0 0 [], ret_val rfl, PRep.zero _ _ _ _ _⟩, hB52⟩
  have h37' := dF h37
  have htlt : t < l.length := by omega
  rw [if_pos htlt] at hR
  refine W.skip ?_
  refine WD.defer rfl rfl ?_
  refine WD.of ?_
  refine W.sr <| WL.m rfl rfl <| WL.m rfl rfl <| ?_
  refine WL.p (.buildL (ps := _) blt63 rfl rfl rfl pS) rfl ?_
  refine WL.box rfl rfl (fun b53 wb53 eb53 hkb53 hub53 hsb53 => ?_)
  have hl55 : b1 < b53 := by rw [eb53]; exact hk12.lt
  have hk54 := hk12.upd hub53 (Nat.ne_of_lt hl55)
  have hl57 : b5 < b53 := by rw [eb53]; exact hk14.lt
  have hk56 := hk14.upd hub53 (Nat.ne_of_lt hl57)
  have hl59 : b11 < b53 := by rw [eb53]; exact hkb11.lt
  have hk58 := hkb11.upd hub53 (Nat.ne_of_lt hl59)
  have hvl61 := fun h0 => eb53 ▸ hv16.lt h0
  have hv60 := bup hv16 hub53 hvl61
  have hB62 := Upd.below hB18 (by rw [eb53]; exact hB18.size) hub53
  have hgeb53 : w.heap.size ≤ b53 := by rw [eb53]; exact hB18.size
  refine WL.z rfl rfl ?_
  refine W.sr <| WL.m rfl rfl <| WL.m rfl rfl <| WL.cx hb43 rfl rfl ((ObjC_all p l c true hc hl d.toNat d (Nat.le_refl _) hd b53 t _ ⟨hkb53, hv60⟩ (fun h0 => by have := hb.lt h0; omega) htlt)) (fun k65 w63 hrw63 hw63 => ?_) (fun a64 x66 w63 hrw63 hw63 => ?_)
  have hBew63 := Below.trans hB62 (Touch.below hw63 hB62.size oO)
  exact PostD.caught hb41 (fun w' => _) (plex_caught b1 b5 b11 w.heap.size _ _ _ _ _ _ _ _ k65 _ (Blk.touch hk54 hw63 hk54.lt oO) (Blk.touch hk56 hw63 hk56.lt oO) (Blk.touch hk58 hw63 hk58.lt oO) oO oO oO (objP_err true l _ _ _ hrw63).ne)
    (fun w' hS => ⟨_, ResOk.cells3 rfl rfl rfl rfl (ldRow hS.1 underlying31 rfl isz31) (ldCell hS.2.1 (isAgg3 _) rfl) (ldCell hS.2.2.1 (isAgg35 _) rfl), ⟨pc0 0 0 [], ret_val (by rw [hR, show objP true l d.toNat t = _ from hrw63]; rfl), by rw [hR, show objP true l d.toNat t = _ from hrw63]; exact PRep.zero _ _ _ _ _⟩, hBew63.trans hS.2.2.2⟩)
  have hrr := hrw63
  obtain ⟨oX, tX⟩ := a64
  obtain ⟨x1, rfl, hpx, hrd1, hT1⟩ := hw63
  have hpx1 := hpx.mono (T := fun k => b53 < k ∧ w.heap.size ≤ k) (fun k hk _ => by have h1 := (hkb53).lt; have h2 := hB62.size; omega)
  have hk61 := Blk.touch hk54 hT1 (hk54).lt oO
  have hk71 := Blk.touch hk56 hT1 (hk56).lt oO
  have hk81 := Blk.touch hk58 hT1 (hk58).lt oO
  have hB1 := Below.trans hB62 (Touch.below hT1 hB62.size oO)
  have hr1 := hrd1.1
  rw [show objP true l d.toNat t = _ from hrr] at hR
  subst hR
  refine WL.stL rfl rfl hk61 isz31 rfl rfl (fun w67 hkw67 huw67 hsw67 => ?_)
  have hF68 := PRep.same (w1 := w67) hpx1 (fun k hk hl => huw67.other k (by first | ((try simp only) <;> omega) | (have := hk.1; ((try simp only) <;> omega))))
  have hk69 := hk71.up huw67
  have hk70 := hk81.up huw67
  have hk71 := hr1.upd huw67 oM
  have hB73 := Upd.below hB1 oO huw67
  refine WL.nil <| ?_
  refine W.seq ?_
  refine W.noPn ?_
  refine W.regY 8 rfl mixed (fun w74 dw74 => ?_)
  have hF75 := PRep.same (w1 := w74) hF68 (fun k hk hl => (by obtain ⟨m, rfl⟩ := dw74; rfl))
  have hk76 := hkw67.drew dw74
  have hk77 := hk69.drew dw74
  have hk78 := hk70.drew dw74
  have hk79 := hk71.drew dw74
  have hB81 := Drew.below hB73 dw74
  refine WY.tk 1 rfl (.mv rfl) rfl ?_
  refine WY.tk 2 rfl (.nck rfl) rfl ?_
  refine WY.tk 3 rfl (.fa underlying63 rfl sizeOf3 dD rfl) rfl ?_
  refine WY.br2 0 rfl 4 rfl ?_ ?_
  refine WL.r (Rd.ldA rfl hk76 underlying31 rfl isz31) rfl <| WL.nil <| ?_
  refine WY.br2 4 rfl 5 rfl ?_ ?_
  refine WL.r (Rd.ld (isAgg3 _) rfl hk79 rfl) rfl <| WL.nil <| ?_
  refine WY.br1 5 rfl ?_
  refine WL.stL rfl rfl hk76 isz31 rfl rfl (fun w82 hkw82 huw82 hsw82 => ?_)
  have hF83 := PRep.same (w1 := w82) hF75 (fun k hk hl => huw82.other k (by first | ((try simp only) <;> omega) | (have := hk.1; ((try simp only) <;> omega))))
  have hk84 := hk77.up huw82
  have hk85 := hk78.up huw82
  have hB88 := Upd.below hB81 oO huw82
  refine WL.nil <| ?_
  refine WY.br1 6 rfl ?_
  refine WL.st sizeOf3 rfl rfl rfl hk84 oD (fun w89 hkw89 huw89 hsw89 => ?_)
  have hkw89 : Blk w89 b5 _ _ := hkw89
  have huw89 : Upd b5 _ _ := huw89
  have hF90 := PRep.same (w1 := w89) hF83 (fun k hk hl => huw89.other k (by first | ((try simp only) <;> omega) | (have := hk.1; ((try simp only) <;> omega))))
  have hk91 := hkw82.up huw89
  have hk92 := hk85.up huw89
  have hB95 := Upd.below hB88 oO huw89
  refine WL.nil <| ?_
  refine WY.br1 7 rfl ?_
  refine WL.st sizeOf35 rfl rfl rfl hk92 oD (fun w96 hkw96 huw96 hsw96 => ?_)
  have hkw96 : Blk w96 b11 _ _ := hkw96
  have huw96 : Upd b11 _ _ := huw96
  have hF97 := PRep.same (w1 := w96) hF90 (fun k hk hl => huw96.other k (by first | ((try simp only) <;> omega) | (have := hk.1; ((try simp only) <;> omega))))
  have hk98 := hk91.up huw96
  have hk99 := hkw89.up huw96
  have hB102 := Upd.below hB95 oO huw96
  refine WL.nil <| ?_
  refine WY.done kR ?_
  refine W.ret ?_
  first
  | exact PostD.ret hb41 (fun w' => _) (plex_quiet b1 b5 b11 _ hkw96) (fun w' hS => by subst hS; exact ⟨_, ResOk.cells3 rfl rfl rfl rfl (ldRow hk98 underlying31 rfl isz31) (ldCell hk99 (isAgg3 _) rfl) (ldCell hkw96 (isAgg35 _) rfl), ⟨x1, ret_val rfl, (hF97).mono (fun k hk _ => hk.2)⟩, hB102⟩)
  | exact PostD.ret0 (ResOk.cells3 rfl rfl rfl rfl (ldRow hk98 underlying31 rfl isz31) (ldCell hk99 (isAgg3 _) rfl) (ldCell hkw96 (isAgg35 _) rfl)) ⟨⟨pc0 0 0 [], ret_val rfl, PRep.zero _ _ _ _ _⟩, hB102⟩
  refine WL.stL rfl rfl hk76 isz31 rfl rfl (fun w103 hkw103 huw103 hsw103 => ?_)
  have hF104 := PRep.same (w1 := w103) hF75 (fun k hk hl => huw103.other k (by first | ((try simp only) <;> omega) | (have := hk.1; ((try simp only) <;> omega))))
  have hk105 := hk77.up huw103
  have hk106 := hk78.up huw103
  have hk107 := hk79.up huw103
  have hB109 := Upd.below hB81 oO huw103
  refine WL.nil <| ?_
  refine WY.br1 4 rfl ?_
  refine WL.r (Rd.ld (isAgg3 _) rfl hk107 rfl) rfl <| WL.nil <| ?_
  refine WY.br1 6 rfl ?_
  refine WL.st sizeOf3 rfl rfl rfl hk105 oD (fun w110 hkw110 huw110 hsw110 => ?_)
  have hkw110 : Blk w110 b5 _ _ := hkw110
  have huw110 : Upd b5 _ _ := huw110
  have hF111 := PRep.same (w1 := w110) hF104 (fun k hk hl => huw110.other k (by first | ((try simp only) <;> omega) | (have := hk.1; ((try simp only) <;> omega))))
  have hk112 := hkw103.up huw110
  have hk113 := hk106.up huw110
  have hB116 := Upd.below hB109 oO huw110
  refine WL.nil <| ?_
  refine WY.br1 7 rfl ?_
  refine WL.st sizeOf35 rfl rfl rfl hk113 oD (fun w117 hkw117 huw117 hsw117 => ?_)
  have hkw117 : Blk w117 b11 _ _ := hkw117
  have huw117 : Upd b11 _ _ := huw117
  have hF118 := PRep.same (w1 := w117) hF111 (fun k hk hl => huw117.other k (by first | ((try simp only) <;> omega) | (have := hk.1; ((try simp only) <;> omega))))
  have hk119 := hk112.up huw117
  have hk120 := hkw110.up huw117
  have hB123 := Upd.below hB116 oO huw117
  refine WL.nil <| ?_
  refine WY.done kR ?_
  refine W.ret ?_
  first
  | exact PostD.ret hb41 (fun w' => _) (plex_quiet b1 b5 b11 _ hkw117) (fun w' hS => by subst hS; exact ⟨_, ResOk.cells3 rfl rfl rfl rfl (ldRow hk119 underlying31 rfl isz31) (ldCell hk120 (isAgg3 _) rfl) (ldCell hkw117 (isAgg35 _) rfl), ⟨x1, ret_val rfl, (hF118).mono (fun k hk _ => hk.2)⟩, hB123⟩)
  | exact PostD.ret0 (ResOk.cells3 rfl rfl rfl rfl (ldRow hk119 underlying31 rfl isz31) (ldCell hk120 (isAgg3 _) rfl) (ldCell hkw117 (isAgg35 _) rfl)) ⟨⟨pc0 0 0 [], ret_val rfl, PRep.zero _ _ _ _ _⟩, hB123⟩
  refine WL.r (Rd.ld (isAgg3 _) rfl hk79 rfl) rfl <| WL.nil <| ?_
  refine WY.br1 0 rfl ?_
  refine WL.r (Rd.ldA rfl hk76 underlying31 rfl isz31) rfl <| WL.nil <| ?_
  refine WY.br1 5 rfl ?_
  refine WL.stL rfl rfl hk76 isz31 rfl rfl (fun w124 hkw124 huw124 hsw124 => ?_)
  have hF125 := PRep.same (w1 := w124) hF75 (fun k hk hl => huw124.other k (by first | ((try simp only) <;> omega) | (have := hk.1; ((try simp only) <;> omega))))
  have hk126 := hk77.up huw124
  have hk127 := hk78.up huw124
  have hB130 := Upd.below hB81 oO huw124
  refine WL.nil <| ?_
  refine WY.br1 6 rfl ?_
  refine WL.st sizeOf3 rfl rfl rfl hk126 oD (fun w131 hkw131 huw131 hsw131 => ?_)
  have hkw131 : Blk w131 b5 _ _ := hkw131
  have huw131 : Upd b5 _ _ := huw131
  have hF132 := PRep.same (w1 := w131) hF125 (fun k hk hl => huw131.other k (by first | ((try simp only) <;> omega) | (have := hk.1; ((try simp only) <;> omega))))
  have hk133 := hkw124.up huw131
  have hk134 := hk127.up huw131
  have hB137 := Upd.below hB130 oO huw131
  refine WL.nil <| ?_
  refine WY.br1 7 rfl ?_
  refine WL.st sizeOf35 rfl rfl rfl hk134 oD (fun w138 hkw138 huw138 hsw138 => ?_)
  have hkw138 : Blk w138 b11 _ _ := hkw138
  have huw138 : Upd b11 _ _ := huw138
  have hF139 := PRep.same (w1 := w138) hF132 (fun k hk hl => huw138.other k (by first | ((try simp only) <;> omega) | (have := hk.1; ((try simp only) <;> omega))))
  have hk140 := hk133.up huw138
  have hk141 := hkw131.up huw138
  have hB144 := Upd.below hB137 oO huw138
  refine WL.nil <| ?_
  refine WY.done kR ?_
  refine W.ret ?_
  first
  | exact PostD.ret hb41 (fun w' => _) (plex_quiet b1 b5 b11 _ hkw138) (fun w' hS => by subst hS; exact ⟨_, ResOk.cells3 rfl rfl rfl rfl (ldRow hk140 underlying31 rfl isz31) (ldCell hk141 (isAgg3 _) rfl) (ldCell hkw138 (isAgg35 _) rfl), ⟨x1, ret_val rfl, (hF139).mono (fun k hk _ => hk.2)⟩, hB144⟩)
  | exact PostD.ret0 (ResOk.cells3 rfl rfl rfl rfl (ldRow hk140 underlying31 rfl isz31) (ldCell hk141 (isAgg3 _) rfl) (ldCell hkw138 (isAgg35 _) rfl)) ⟨⟨pc0 0 0 [], ret_val rfl, PRep.zero _ _ _ _ _⟩, hB144⟩
theorem r18_Object (p : Option Addr) (l : List UInt8) (c : Nat) (a d : Int) (w : World) (hb : BytesAt w p l) (hc : l.length ≤ c) (hl : l.length ≤ 100000000) (hd : -9223372036854775808 < d ∧ d ≤ 1000000000) :
  Calls Tryz.prog 22 #[.slice p l.length c, .int .i64 a, .int .i64 d] w fun e w' => ObjA w.heap.size (objT l a d) e w' ∧ Below w.heap.size w w' := by
 obtain ⟨R, hR⟩ : ∃ R, R = objT l a d := ⟨_, rfl⟩
 rw [← hR]
 unfold objT at hR
 obtain ⟨t, ht⟩ : ∃ t, t = skipAt false l a.toNat := ⟨_, rfl⟩
 have hst : skipAt false l t = t := by rw [ht]; exact skipAt_idem l a.toNat
 have hSk : ¬ (a < 0 ∨ (l.length : Int) < a) → ∀ w1, BytesAt w1 p l → Calls Tryz.prog 14 #[.slice p l.length c, .int .i64 a] w1 fun e w' => e = .returned (.int .i64 (t : Int)) ∧ w1 = w' := fun h w1 h1 => by
  have := ref_Skip p l c a.toNat w1 h1 oO hl
  rw [show ((a.toNat : Nat) : Int) = a by omega, ← ht] at this
  exact this
 have htl : t ≤ l.length := by rw [ht]; exact skipAt_le _ _ _
 rw [← ht] at hR
 refine W.enter func22 rfl ntmps22 (Nat.le_of_ble_eq_true rfl) ?_
 have hB0 := Below.refl (w.heap.size) w
 refine W.sr <| WL.alloc zeroValue31 rfl (fun b1 wb1 eb1 hkb1 hub1 hsb1 => ?_)
 have hvl3 := fun h0 => eb1 ▸ hb.lt h0
 have hv2 := bup hb hub1 hvl3
 have hB4 := Upd.below hB0 (by rw [eb1]; exact hB0.size) hub1
 have hgeb1 : w.heap.size ≤ b1 := by rw [eb1]; exact hB0.size
 refine WL.a rfl rfl <| WL.z rfl rfl ?_
 refine W.seq ?_
 refine W.cutB 18 (decide (a < 0 ∨ (l.length : Int) < a)) ?_ ?_
 refine W.reg <| WL.m rfl rfl <| WL.p (.lss rfl rfl) rfl <| WL.m rfl rfl <| WL.gd rfl rfl rfl (fun g5 => ?_) (fun g5 => ?_)
 have g5' := dF g5
 refine WL.m rfl rfl <| WL.gy rfl rfl rfl g5 <| WL.m rfl rfl <| WL.gy rfl rfl rfl g5 <| WL.p (.lenS underlying22 rfl) rfl <| WL.gy rfl rfl rfl g5 <| WL.p (.gtr rfl rfl) rfl <| WL.p (.pkF rfl g5 rfl) rfl <| WL.nil <| ?_
 exact ⟨leF rfl, rfl⟩
 have g5' := dT g5
 refine WL.gn rfl rfl rfl g5 <| WL.gn rfl rfl rfl g5 <| WL.gn rfl rfl rfl g5 <| WL.p (.pkT rfl g5 rfl) rfl <| WL.nil <| ?_
 exact ⟨leF rfl, rfl⟩
 refine W.cond rfl (fun h6 => ?_) (fun h6 => ?_)
 have h6' := dT h6
 rw [if_pos aS] at hR
 subst hR
 refine W.sr <| WL.p (.buildL (ps := _) blt31 rfl rfl rfl pZ) rfl ?_
 refine WL.stL rfl rfl hkb1 isz31 rfl rfl (fun w7 hkw7 huw7 hsw7 => ?_)
 have hB9 := Upd.below hB4 oO huw7
 refine WL.a rfl rfl <| WL.z rfl rfl ?_
 refine W.ret (W.retc3 rfl rfl (ldRow hkw7 underlying31 rfl isz31) rfl rfl ?_)
 first
 | exact ⟨⟨pc0 0 0 [], ret_val rfl, PRep.zero _ _ _ _ _⟩, hB9⟩
 | (rw [resOf_bad aS] at hR; subst hR; exact ⟨⟨pc0 0 0 [], ret_val rfl, PRep.zero _ _ _ _ _⟩, hB9⟩)
 | (rw [resOf_ok oO] at hR; subst hR; exact ⟨⟨x1, ret_val rfl, (FACT).mono (fun k hk _ => hk.2)⟩, hB9⟩)
 have h6' := dF h6
 rw [if_neg aS] at hR
 refine W.skip <| W.sr <| WL.m rfl rfl <| WL.m rfl rfl <| WL.c1 hb14 rfl rfl ((hSk aS _ hv2)) (fun w10 hw10 => ?_)
 obtain rfl := hw10
 refine WL.z rfl rfl ?_
 refine W.seq <| W.sr <| WL.m rfl rfl <| WL.m rfl rfl <| WL.p (.lenS underlying22 rfl) rfl <| WL.p (.geq rfl rfl) rfl <| WL.nil <| ?_
 refine W.cond rfl (fun h11 => ?_) (fun h11 => ?_)
 have h11' := dT h11
 rw [if_neg oO] at hR
 subst hR
 refine W.sr <| WL.p (.buildL (ps := _) blt31 rfl rfl rfl pZ) rfl ?_
 refine WL.stL rfl rfl hkb1 isz31 rfl rfl (fun w12 hkw12 huw12 hsw12 => ?_)
 have hB14 := Upd.below hB4 oO huw12
 refine WL.a rfl rfl <| WL.z rfl rfl ?_
 refine W.ret (W.retc3 rfl rfl (ldRow hkw12 underlying31 rfl isz31) rfl rfl ?_)
 first
 | exact ⟨⟨pc0 0 0 [], ret_val rfl, PRep.zero _ _ _ _ _⟩, hB14⟩
 | (rw [resOf_bad aS] at hR; subst hR; exact ⟨⟨pc0 0 0 [], ret_val rfl, PRep.zero _ _ _ _ _⟩, hB14⟩)
 | (rw [resOf_ok oO] at hR; subst hR; exact ⟨⟨x1, ret_val rfl, (FACT).mono (fun k hk _ => hk.2)⟩, hB14⟩)
 have h11' := dF h11
 have htlt : t < l.length := by omega
 rw [if_pos htlt] at hR
 refine W.skip <| W.sr <| WL.m rfl rfl <| WL.m rfl rfl <| ?_
 refine WL.p (.buildL (ps := _) blt69 rfl rfl rfl pS) rfl ?_
 refine WL.box rfl rfl (fun b15 wb15 eb15 hkb15 hub15 hsb15 => ?_)
 have hl17 : b1 < b15 := by rw [eb15]; exact hkb1.lt
 have hk16 := hkb1.upd hub15 (Nat.ne_of_lt hl17)
 have hvl19 := fun h0 => eb15 ▸ hv2.lt h0
 have hv18 := bup hv2 hub15 hvl19
 have hB20 := Upd.below hB4 (by rw [eb15]; exact hB4.size) hub15
 have hgeb15 : w.heap.size ≤ b15 := by rw [eb15]; exact hB4.size
 refine WL.z rfl rfl ?_
 refine W.sr <| WL.m rfl rfl <| WL.m rfl rfl <| WL.call hb46 rfl rfl ((RObjC_all p l c true hc hl d.toNat d (Nat.le_refl _) hd b15 t _ ⟨hkb15, hv18⟩ (fun h0 => by have := hb.lt h0; omega) htlt hst)) (fun xv w21 hw21 => ?_)
 obtain ⟨x1, oX, tX, eX, rfl, hpx, hrd1, hT1, hres, htX⟩ := hw21
 have hpx1 := hpx.mono (T := fun k => (b15 < k ∧ k < w21.heap.size) ∧ w.heap.size ≤ k) (fun k hk hlt => by have h1 := (hkb15).lt; have h2 := hB20.size; omega)
 have hk61 := Blk.touch hk16 hT1 (hk16).lt oO
 have hB1 := Below.trans hB20 (Touch.below hT1 hB20.size oO)
 have hr1 := hrd1.1
 rw [show objP true l d.toNat t = _ from hres] at hR
 refine WL.alloc zeroValue31 rfl (fun b22 wb22 eb22 hkb22 hub22 hsb22 => ?_)
 have hF23 := PRep.same (w1 := wb22) hpx1 (fun k hk hl => hub22.other k oO)
 have hl25 : b1 < b22 := by rw [eb22]; exact hk61.lt
 have hk24 := hk61.upd hub22 (Nat.ne_of_lt hl25)
 have hl27 : b15 < b22 := by rw [eb22]; exact hr1.lt
 have hk26 := hr1.upd hub22 (Nat.ne_of_lt hl27)
 have hB30 := Upd.below hB1 (by rw [eb22]; exact hB1.size) hub22
 have hgeb22 : w.heap.size ≤ b22 := by rw [eb22]; exact hB1.size
 refine WL.stL rfl rfl hkb22 isz31 rfl rfl (fun w31 hkw31 huw31 hsw31 => ?_)
 have hF32 := PRep.same (w1 := w31) hF23 (fun k hk hl => huw31.other k (by first | ((try simp only) <;> omega) | (have := hk.1; ((try simp only) <;> omega))))
 have hk33 := hk24.up huw31
 have hk34 := hk26.up huw31
 have hB36 := Upd.below hB30 oO huw31
 refine WL.nil <| ?_
 refine W.seq <| W.sr <| WL.m rfl rfl <| WL.p (.nck rfl) rfl <| WL.p (.fa underlying69 rfl sizeOf35 dD rfl) rfl <| WL.r (Rd.ld (isAgg35 _) rfl hk34 rfl) rfl <| WL.p (.neq rfl rfl) rfl <| WL.nil <| ?_
 refine W.cond rfl (fun h37 => ?_) (fun h37 => ?_)
 have h37' := ndT h37
 refine W.seq <| W.regY 8 rfl mixed (fun w38 dw38 => ?_)
 have hF39 := PRep.same (w1 := w38) hF32 (fun k hk hl => (by obtain ⟨m, rfl⟩ := dw38; rfl))
 have hk40 := hk33.drew dw38
 have hk41 := hk34.drew dw38
 have hB44 := Drew.below hB36 dw38
 refine WY.tk 0 rfl (.buildL (ps := _) blt31 rfl rfl rfl pZ) rfl ?_
 refine WY.tk 1 rfl (.mv rfl) rfl ?_
 refine WY.tk 2 rfl (.nck rfl) rfl ?_
 refine WY.tk 3 rfl (.fa underlying69 rfl sizeOf35 dD rfl) rfl ?_
 refine WY.br2 4 rfl 5 rfl ?_ ?_
 refine WL.r (Rd.ld (isAgg35 _) rfl hk41 rfl) rfl <| WL.nil <| ?_
 refine WY.br1 5 rfl ?_
 refine WL.stL rfl rfl hk40 isz31 rfl rfl (fun w45 hkw45 huw45 hsw45 => ?_)
 have hF46 := PRep.same (w1 := w45) hF39 (fun k hk hl => huw45.other k (by first | ((try simp only) <;> omega) | (have := hk.1; ((try simp only) <;> omega))))
 have hB50 := Upd.below hB44 oO huw45
 refine WL.nil <| ?_
 refine WY.tk 6 rfl (.as rfl) rfl ?_
 refine WY.tk 7 rfl (.as rfl) rfl ?_
 refine WY.done kR ?_
 refine W.ret (W.retc3 rfl rfl (ldRow hkw45 underlying31 rfl isz31) rfl rfl ?_)
 first
 | exact ⟨⟨pc0 0 0 [], ret_val rfl, PRep.zero _ _ _ _ _⟩, hB50⟩
 | (rw [resOf_bad aS] at hR; subst hR; exact ⟨⟨pc0 0 0 [], ret_val rfl, PRep.zero _ _ _ _ _⟩, hB50⟩)
 | (rw [resOf_ok oO] at hR; subst hR; exact ⟨⟨x1, ret_val rfl, (hF46).mono (fun k hk _ => hk.2)⟩, hB50⟩)
 refine WL.stL rfl rfl hk40 isz31 rfl rfl (fun w51 hkw51 huw51 hsw51 => ?_)
 have hF52 := PRep.same (w1 := w51) hF39 (fun k hk hl => huw51.other k (by first | ((try simp only) <;> omega) | (have := hk.1; ((try simp only) <;> omega))))
 have hk53 := hk41.up huw51
 have hB56 := Upd.below hB44 oO huw51
 refine WL.nil <| ?_
 refine WY.tk 6 rfl (.as rfl) rfl ?_
 refine WY.br1 4 rfl ?_
 refine WL.r (Rd.ld (isAgg35 _) rfl hk53 rfl) rfl <| WL.nil <| ?_
 refine WY.tk 7 rfl (.as rfl) rfl ?_
 refine WY.done kR ?_
 refine W.ret (W.retc3 rfl rfl (ldRow hkw51 underlying31 rfl isz31) rfl rfl ?_)
 first
 | exact ⟨⟨pc0 0 0 [], ret_val rfl, PRep.zero _ _ _ _ _⟩, hB56⟩
 | (rw [resOf_bad aS] at hR; subst hR; exact ⟨⟨pc0 0 0 [], ret_val rfl, PRep.zero _ _ _ _ _⟩, hB56⟩)
 | (rw [resOf_ok oO] at hR; subst hR; exact ⟨⟨x1, ret_val rfl, (hF52).mono (fun k hk _ => hk.2)⟩, hB56⟩)
 have h37' := ndF h37
 refine W.skip <| W.seq <| W.regY 8 rfl mixed (fun w57 dw57 => ?_)
 have hF58 := PRep.same (w1 := w57) hF32 (fun k hk hl => (by obtain ⟨m, rfl⟩ := dw57; rfl))
 have hk59 := hk33.drew dw57
 have hk60 := hk34.drew dw57
 have hk61 := hkw31.drew dw57
 have hB63 := Drew.below hB36 dw57
 refine WY.tk 1 rfl (.mv rfl) rfl ?_
 refine WY.tk 2 rfl (.nck rfl) rfl ?_
 refine WY.tk 3 rfl (.fa underlying69 rfl sizeOf3 dD rfl) rfl ?_
 refine WY.br2 0 rfl 4 rfl ?_ ?_
 refine WL.r (Rd.ldA rfl hk61 underlying31 rfl isz31) rfl <| WL.nil <| ?_
 refine WY.br2 4 rfl 5 rfl ?_ ?_
 refine WL.r (Rd.ld (isAgg3 _) rfl hk60 rfl) rfl <| WL.nil <| ?_
 refine WY.br1 5 rfl ?_
 refine WL.stL rfl rfl hk59 isz31 rfl rfl (fun w64 hkw64 huw64 hsw64 => ?_)
 have hF65 := PRep.same (w1 := w64) hF58 (fun k hk hl => huw64.other k (by first | ((try simp only) <;> omega) | (have := hk.1; ((try simp only) <;> omega))))
 have hB69 := Upd.below hB63 oO huw64
 refine WL.nil <| ?_
 refine WY.tk 6 rfl (.as rfl) rfl ?_
 refine WY.tk 7 rfl (.as rfl) rfl ?_
 refine WY.done kR ?_
 refine W.ret (W.retc3 rfl rfl (ldRow hkw64 underlying31 rfl isz31) rfl rfl ?_)
 first
 | exact ⟨⟨pc0 0 0 [], ret_val rfl, PRep.zero _ _ _ _ _⟩, hB69⟩
 | (rw [resOf_bad aS] at hR; subst hR; exact ⟨⟨pc0 0 0 [], ret_val rfl, PRep.zero _ _ _ _ _⟩, hB69⟩)
 | (rw [resOf_ok oO] at hR; subst hR; exact ⟨⟨x1, ret_val rfl, (hF65).mono (fun k hk _ => hk.2)⟩, hB69⟩)
 refine WL.stL rfl rfl hk59 isz31 rfl rfl (fun w70 hkw70 huw70 hsw70 => ?_)
 have hF71 := PRep.same (w1 := w70) hF58 (fun k hk hl => huw70.other k (by first | ((try simp only) <;> omega) | (have := hk.1; ((try simp only) <;> omega))))
 have hk72 := hk60.up huw70
 have hB75 := Upd.below hB63 oO huw70
 refine WL.nil <| ?_
 refine WY.br1 4 rfl ?_
 refine WL.r (Rd.ld (isAgg3 _) rfl hk72 rfl) rfl <| WL.nil <| ?_
 refine WY.tk 6 rfl (.as rfl) rfl ?_
 refine WY.tk 7 rfl (.as rfl) rfl ?_
 refine WY.done kR ?_
 refine W.ret (W.retc3 rfl rfl (ldRow hkw70 underlying31 rfl isz31) rfl rfl ?_)
 first
 | exact ⟨⟨pc0 0 0 [], ret_val rfl, PRep.zero _ _ _ _ _⟩, hB75⟩
 | (rw [resOf_bad aS] at hR; subst hR; exact ⟨⟨pc0 0 0 [], ret_val rfl, PRep.zero _ _ _ _ _⟩, hB75⟩)
 | (rw [resOf_ok oO] at hR; subst hR; exact ⟨⟨x1, ret_val rfl, (hF71).mono (fun k hk _ => hk.2)⟩, hB75⟩)
 refine WL.r (Rd.ld (isAgg3 _) rfl hk60 rfl) rfl <| WL.nil <| ?_
 refine WY.br1 0 rfl ?_
 refine WL.r (Rd.ldA rfl hk61 underlying31 rfl isz31) rfl <| WL.nil <| ?_
 refine WY.br1 5 rfl ?_
 refine WL.stL rfl rfl hk59 isz31 rfl rfl (fun w76 hkw76 huw76 hsw76 => ?_)
 have hF77 := PRep.same (w1 := w76) hF58 (fun k hk hl => huw76.other k (by first | ((try simp only) <;> omega) | (have := hk.1; ((try simp only) <;> omega))))
 have hB81 := Upd.below hB63 oO huw76
 refine WL.nil <| ?_
 refine WY.tk 6 rfl (.as rfl) rfl ?_
 refine WY.tk 7 rfl (.as rfl) rfl ?_
 refine WY.done kR ?_
 refine W.ret (W.retc3 rfl rfl (ldRow hkw76 underlying31 rfl isz31) rfl rfl ?_)
 first
 | exact ⟨⟨pc0 0 0 [], ret_val rfl, PRep.zero _ _ _ _ _⟩, hB81⟩
 | (rw [resOf_bad aS] at hR; subst hR; exact ⟨⟨pc0 0 0 [], ret_val rfl, PRep.zero _ _ _ _ _⟩, hB81⟩)
 | (rw [resOf_ok oO] at hR; subst hR; exact ⟨⟨x1, ret_val rfl, (hF77).mono (fun k hk _ => hk.2)⟩, hB81⟩)
end
section
theorem objT_in {l : List UInt8} {a : Nat} {d : Int} {t : Nat} (ha : a ≤ l.length) (hs : skipAt false l a = t) (ht : t < l.length) : objT l a d = match objP true l d.toNat t with | .ok (o, t') => (o, (t' : Int), 0) | .error k => (pv0 0 0 [], 0, k) := by
 unfold objT
 rw [if_neg oO, show (a : Int).toNat = a from rfl, hs, if_pos ht]
 all_goals (cases objP true l d.toNat t <;> rfl)
theorem skip_print {D : Int} {st : Bool} {o : AV} (h : Snd D st o) {l rest : List UInt8} {a : Nat} (ha : a ≤ l.length) (hl : l.drop a = prO o ++ rest) : skipAt false l a = a ∧ a < l.length := by
 obtain ⟨c, r, e, hc⟩ := pr_head h
 have hb := headB_f hc
 have hlen := congrArg List.length hl
 rw [List.length_drop, e, List.cons_append, List.length_cons] at hlen
 refine ⟨?_, by omega⟩
 have := (skip_at (l := l) (t := a) (x := l.drop a) (by rw [hl]; exact pr_skip h rest)).1
 rw [List.length_drop] at this
 omega
theorem objT_print {D : Int} {st : Bool} {o : AV} (h : Snd D st o) (h9 : o.kind ≠ 9) {l rest : List UInt8} {a : Nat} (ha : a ≤ l.length) (hl : l.drop a = prO o ++ rest) (hb : Bnd rest) (hn : NoR o.kind rest) (d : Int) :
  objT l a d = if dpO o ≤ d.toNat then (pvO o, ((l.length - rest.length : Nat) : Int), 0) else (pv0 0 0 [], 0, 25) := by
 obtain ⟨h1, h2⟩ := skip_print h ha hl
 rw [objT_in ha h1 h2, reads h h9 l a rest d.toNat ha hl hb hn]
 by_cases hd : dpO o ≤ d.toNat
 ·
  rw [if_pos hd, if_pos hd]
 ·
  rw [if_neg hd, if_neg hd]
theorem NoR.nil (k : Int) : NoR k [] := fun _ h => by cases h.1
/-- read by itself: so deep, and not less -/
theorem alone {st : Bool} {o : AV} (h : Snd 32 st o) (h9 : o.kind ≠ 9) (d : Int) : objT (prO o) 0 d = if dpO o ≤ d.toNat then (pvO o, ((prO o).length : Int), 0) else (pv0 0 0 [], 0, 25) := by
 have := objT_print h h9 (l := prO o) (rest := []) (a := 0) (Nat.zero_le _) (by simp) Bnd.nil (NoR.nil _) d
 simpa using this
end
section
theorem r18_SoundA (y : AC) (o : AV) (S : Nat → Prop) (w : World) (h : ARep w S y o) :
  Calls Tryz.prog 16 #[.agg (acV y).toArray] w fun e w' => ∃ b : { b : Bool // b = true → Snd 32 true o }, e = .returned (.bool b.1) ∧ Below w.heap.size w w' := by
 refine W.enter func16 rfl ntmps16 (Nat.le_of_ble_eq_true rfl) ?_
 have hB0 := Below.refl (w.heap.size) w
 refine W.sr <| WL.box rfl rfl (fun b1 wb1 eb1 hkb1 hub1 hsb1 => ?_)
 have hF2 := ARep.same (w1 := wb1) h (fun k hk hl => hub1.other k oO)
 have hB3 := Upd.below hB0 (by rw [eb1]; exact hB0.size) hub1
 have hgeb1 : w.heap.size ≤ b1 := by rw [eb1]; exact hB0.size
 refine WL.z rfl rfl ?_
 refine W.sr <| WL.r (Rd.ldA rfl hkb1 underlying31 rfl isz31) rfl <| WL.call hb36 rfl rfl ((r18_soundA _ o (Nat.lt_succ_self _) y S 32 true _ hF2 dD dD)) (fun sb w4 hw4 => ?_)
 have hB7 := btr hB3 hw4
 refine WL.z rfl rfl ?_
 refine W.ret (W.ret1 rfl rfl ?_)
 exact ⟨sb, rfl, hB7⟩
theorem ARep.kind {w : World} {S : Nat → Prop} {x : AC} {o : AV} (h : ARep w S x o) : o.kind = x.kind := by
 cases h; rfl
theorem plex_ObjectR (p : Option Addr) (l : List UInt8) (c : Nat) (a d : Int) (R : PV × Int × Int) (hR : objT l a d = R) (w : World) (hb : BytesAt w p l) (hc : l.length ≤ c) (hl : l.length ≤ 100000000) (hd : -9223372036854775808 < d ∧ d ≤ 1000000000) :
  Calls Tryz.prog 18 #[.slice p l.length c, .int .i64 a, .int .i64 d] w fun e w' => ∃ x : PC, e = .returned (.tuple #[.agg (pcV x).toArray, .int .i64 R.2.1, .int .i64 R.2.2]) ∧ PRep w' (fun k => w.heap.size ≤ k) x R.1 ∧ Below w.heap.size w w' := by
 subst hR
 exact (plex_Object p l c a d w hb hc hl hd).mono fun e w' h => by obtain ⟨⟨x, h1, h2⟩, h3⟩ := h; exact ⟨x, h1, h2, h3⟩
theorem r18_ObjectR (p : Option Addr) (l : List UInt8) (c : Nat) (a d : Int) (R : PV × Int × Int) (hR : objT l a d = R) (w : World) (hb : BytesAt w p l) (hc : l.length ≤ c) (hl : l.length ≤ 100000000) (hd : -9223372036854775808 < d ∧ d ≤ 1000000000) :
  Calls Tryz.prog 22 #[.slice p l.length c, .int .i64 a, .int .i64 d] w fun e w' => ∃ x : PC, e = .returned (.tuple #[.agg (pcV x).toArray, .int .i64 R.2.1, .int .i64 R.2.2]) ∧ PRep w' (fun k => w.heap.size ≤ k) x R.1 ∧ Below w.heap.size w w' := by
 subst hR
 exact (r18_Object p l c a d w hb hc hl hd).mono fun e w' h => by obtain ⟨⟨x, h1, h2⟩, h3⟩ := h; exact ⟨x, h1, h2, h3⟩
theorem ansB_objT : objT [51, 32, 48, 32, 82] 0 0 = (pv0 8 3 [], 5, 0) := by kernel_rfl
theorem PRep.head {w : World} {S : Nat → Prop} {x : PC} {k n : Int} (h : PRep w S x (pv0 k n [])) : x.kind = k ∧ x.n = n := by
 obtain ⟨o, ho⟩ : ∃ o, o = pv0 k n [] := ⟨_, rfl⟩
 rw [← ho] at h
 cases h with
 | mk _ keys list cs => injection ho with h1 h2; exact ⟨h1, h2⟩
theorem answersB (w : World) : Calls Tryz.prog 10 #[] w fun e w' => e = .returned (.bool true) ∧ Below w.heap.size w w' := by
 have hO : ∀ (q : Option Addr) (d : Nat) (w1 : World), BytesAt w1 q [51, 32, 48, 32, 82] → 5 ≤ d → Calls Tryz.prog 18 #[.slice q 5 d, .int .i64 0, .int .i64 0] w1 fun e w' => ∃ x : PC, e = .returned (.tuple #[.agg #[.int .i64 8, .int .i64 3, .string (bs x.text), .slice x.kp x.kl x.kc, .slice x.lp x.ll x.lc, .slice none 0 0], .int .i64 5, .int .i64 0]) ∧ Below w1.heap.size w1 w' := fun q d w1 h1 h2 =>
  (plex_ObjectR q [51, 32, 48, 32, 82] d 0 0 _ ansB_objT w1 h1 h2 dD dD).mono fun e w' ⟨x, h3, h4, h5⟩ => by
   obtain ⟨k1, k2⟩ := h4.head
   obtain ⟨k, n, s, kp, kl, kc, lp, ll, lc⟩ := x
   simp only at k1 k2
   subst k1; subst k2
   exact ⟨⟨8, 3, s, kp, kl, kc, lp, ll, lc⟩, h3, h5⟩
 refine W.enter func10 rfl ntmps10 (Nat.le_of_ble_eq_true rfl) ?_
 have hB0 := Below.refl (w.heap.size) w
 refine W.sr <| WL.z rfl rfl ?_
 refine W.sr <| WL.bsl (ps := _) underlying22 sizeOf5 zeroValue5 rfl rfl rfl rfl rfl pR rfl (fun b1 wb1 eb1 hkb1 hub1 hsb1 => ?_)
 have hB2 := Upd.below hB0 (by rw [eb1]; exact hB0.size) hub1
 have hgeb1 : w.heap.size ≤ b1 := by rw [eb1]; exact hB0.size
 refine WL.cvB ([51, 32, 48, 32, 82]) underlying22 underlying5 rfl hkb1 rfl rfl (fun w3 hs huw3 hsw3 => ?_)
 have hB4 := Upd.below hB2 oO huw3
 refine WL.call hb18 rfl rfl ((hO _ _ _ hs dD)) (fun xo w5 hw5 => ?_)
 have hB7 := btr hB4 hw5
 refine WL.m rfl rfl <| WL.p (.ext rfl rfl) rfl <| WL.p (.ext rfl rfl) rfl <| WL.p (.ext rfl rfl) rfl <| WL.alloc zeroValue31 rfl (fun b8 wb8 eb8 hkb8 hub8 hsb8 => ?_)
 have hB11 := Upd.below hB7 (by rw [eb8]; exact hB7.size) hub8
 have hgeb8 : w.heap.size ≤ b8 := by rw [eb8]; exact hB7.size
 refine WL.stL rfl rfl hkb8 isz31 rfl rfl (fun w12 hkw12 huw12 hsw12 => ?_)
 have hB14 := Upd.below hB11 oO huw12
 refine WL.a rfl rfl <| WL.z rfl rfl ?_
 refine W.sr <| WL.m rfl rfl <| WL.p (.eql rfl rfl) rfl <| WL.m rfl rfl <| WL.gy rfl rfl rfl rfl <| WL.m rfl rfl <| WL.gy rfl rfl rfl rfl <| WL.p (.eql rfl rfl) rfl <| WL.p (.pkT rfl rfl rfl) rfl <| WL.m rfl rfl <| WL.gy rfl rfl rfl rfl <| WL.p (.fa underlying31 rfl sizeOf3 dD rfl) rfl <| WL.gy rfl rfl rfl rfl <| WL.r (Rd.ld (isAgg3 _) rfl hkw12 rfl) rfl <| WL.gy rfl rfl rfl rfl <| WL.p (.eql rfl rfl) rfl <| WL.p (.pkT rfl rfl rfl) rfl <| WL.m rfl rfl <| WL.gy rfl rfl rfl rfl <| WL.p (.fa underlying31 rfl sizeOf3 dD rfl) rfl <| WL.gy rfl rfl rfl rfl <| WL.r (Rd.ld (isAgg3 _) rfl hkw12 rfl) rfl <| WL.gy rfl rfl rfl rfl <| WL.p (.eql rfl rfl) rfl <| WL.p (.pkT rfl rfl rfl) rfl <| WL.z rfl rfl ?_
 refine W.ret (W.ret1 rfl rfl ?_)
 exact ⟨rfl, hB14⟩
end
section
/-- no part of it is an object -/
def CutE (o : AV) : Prop := ∀ (l : List UInt8) (t d j : Nat), t ≤ l.length → 0 < j → j < (prO o).length → l.drop t = (prO o).take j → ∃ e, objP true l d t = .error e
theorem mem_drop_ge {l : List UInt8} {x : UInt8} {t s : Nat} (hts : t ≤ s) (h : x ∉ l.drop t) : x ∉ l.drop s := fun hx => h (by
 rw [show s = t + (s - t) by omega, ← List.drop_drop] at hx
 exact List.mem_of_mem_drop hx)
theorem get_mem_drop {l : List UInt8} {x : UInt8} {t s : Nat} (hts : t ≤ s) (h : l[s]? = some x) : x ∈ l.drop t := by
 rw [List.mem_iff_getElem?]
 exact ⟨s - t, by rw [List.getElem?_drop, show t + (s - t) = s by omega]; exact h⟩
theorem no93 (l : List UInt8) (d : Nat) : ∀ (f : Nat) (acc : List PV) (t : Nat), t ≤ l.length → 93 ∉ l.drop t → ∃ e, listP (objP true l d) l f acc t = .error e
 | 0, _, _, _, _ => ⟨24, rfl⟩
 | f + 1, acc, t, ht, h => by
  have hge := skipAt_ge l t ht
  rw [listP_step oO]
  cases hc : l[skipAt false l t]? with
  | none => exact ⟨24, rfl⟩
  | some c =>
   simp only
   have hcm := get_mem_drop hge hc
   rw [if_neg (show ¬ c = 93 from fun e => h (e ▸ hcm))]
   split
   ·
    exact ⟨25, rfl⟩
   ·
    cases ho : objP true l d (skipAt false l t) with
    | error k => exact ⟨k, rfl⟩
    | ok a =>
     obtain ⟨o, t1⟩ := a
     have ha := objP_adv true l d _ _ _ (List.getElem?_eq_some_iff.1 hc).1 ho
     exact no93 l d f _ t1 ha.2 (mem_drop_ge oO h)
theorem no62 (l : List UInt8) (d : Nat) : ∀ (f : Nat) (ks : List (List UInt8)) (acc : List PV) (t : Nat), t ≤ l.length → 62 ∉ l.drop t → ∃ e, pairsP (objP true l d) l f ks acc t = .error e
 | 0, _, _, _, _, _ => ⟨24, rfl⟩
 | f + 1, ks, acc, t, ht, h => by
  have hge := skipAt_ge l t ht
  rw [pairsP_step oO]
  cases hc : l[skipAt false l t]? with
  | none => exact ⟨24, rfl⟩
  | some c =>
   simp only
   have hcm := get_mem_drop hge hc
   have hcl := (List.getElem?_eq_some_iff.1 hc).1
   rw [if_neg (by rintro ⟨e, -⟩; exact h (e ▸ hcm)), if_neg (by rintro ⟨e, -⟩; exact h (e ▸ hcm))]
   split
   ·
    exact ⟨23, rfl⟩
   ·
    cases hn : nameP l (skipAt false l t + 1) with
    | error k => exact ⟨k, rfl⟩
    | ok a =>
     obtain ⟨k, t1⟩ := a
     have hle := nameP_le oO hn
     simp only
     split
     ·
      exact ⟨23, rfl⟩
     ·
      split
      ·
       exact ⟨25, rfl⟩
      ·
       have hge1 := skipAt_ge l t1 hle.2
       cases hc1 : l[skipAt false l t1]? with
       | none => exact ⟨24, rfl⟩
       | some c1 =>
        simp only
        cases ho : objP true l d (skipAt false l t1) with
        | error k => exact ⟨k, rfl⟩
        | ok a =>
         obtain ⟨o, t2⟩ := a
         have ha := objP_adv true l d _ _ _ (List.getElem?_eq_some_iff.1 hc1).1 ho
         exact no62 l d f _ _ t2 ha.2 (mem_drop_ge oO h)
/-- bytes of words and names -/
theorem reg_not {x : UInt8} (h : regB x = true) : x ≠ 93 ∧ x ≠ 62 := ⟨fun e => (by subst e; exact absurd h dD), fun e => (by subst e; exact absurd h dD)⟩
theorem pr_plain {D : Int} {o : AV} (h : Snd D false o) (hk : ¬ (o.kind = 5 ∨ o.kind = 6 ∨ o.kind = 7)) : ∀ x ∈ prO o, x ≠ 93 ∧ x ≠ 62 := by
 cases h with
 | null => intro x hx; simp [prO] at hx; rcases hx with rfl | rfl | rfl <;> decide
 | bool _ _ n h =>
  rcases h with rfl | rfl
  ·
   intro x hx; simp [prO] at hx; rcases hx with rfl | rfl | rfl | rfl | rfl <;> decide
  ·
   intro x hx; simp [prO] at hx; rcases hx with rfl | rfl | rfl | rfl <;> decide
 | num _ _ k n hkn h =>
  rcases hkn with rfl | rfl
  ·
   intro x hx; simp only [prO] at hx; exact reg_not (dec_reg n h x (by simpa using hx))
  ·
   intro x hx; simp only [prO] at hx; exact reg_not ((real_facts n h).2.2 x (by simpa [norm_fits h] using hx))
 | name _ _ t h =>
  intro x hx
  have e : prO (.mk 4 0 t [] [] []) = 47 :: t.flatMap nmE := by simp [prO, nmT]
  rw [e] at hx
  rcases List.mem_cons.1 hx with rfl | hx
  ·
   decide
  ·
   exact reg_not (name_reg t x hx)
 | text _ _ t h => exact absurd (.inl rfl) hk
 | ref _ _ n h =>
  intro x hx
  have e : prO (.mk 8 n [] [] [] []) = decL n ++ [32, 48, 32, 82] := by simp [prO]
  rw [e] at hx
  rcases List.mem_append.1 hx with hx | hx
  ·
   exact reg_not (dec_reg n (by simp [fitsB]; omega) x hx)
  ·
   simp at hx; rcases hx with rfl | rfl | rfl | rfl <;> decide
 | arr _ _ l hD hl h => exact absurd (.inr (.inl rfl)) hk
 | dict _ _ k ks l d hk' hD hl hkl hn hnd h =>
  rcases hk' with ⟨rfl, -⟩ | ⟨-, h, -⟩
  ·
   exact absurd (.inr (.inr rfl)) hk
  ·
   cases h
/-- a part of a string's bytes does not end -/
theorem oct_digit (k : Nat) (h : k < 8) : octB (ch (48 + (k : Int))) = true ∧ 48 ≤ ((ch (48 + (k : Int))).toNat : Int) ∧ ((ch (48 + (k : Int))).toNat : Int) ≤ 55 := by
 have := ch_val (48 + (k : Int)) oO oO
 exact ⟨by simp only [octB, Bool.and_eq_true, decide_eq_true_eq]; omega, by omega, by omega⟩
theorem roundS_one (o : List UInt8) : roundS 1 o [92] = none := by rw [roundS.eq_def]; rfl
theorem roundS_oct (a b : Nat) (ha : a < 8) (hb : b < 8) (o : List UInt8) : roundS 1 o [92, ch (48 + (a : Int))] = none ∧ roundS 1 o [92, ch (48 + (a : Int)), ch (48 + (b : Int))] = none := by
 obtain ⟨a1, a2, a3⟩ := oct_digit a ha
 obtain ⟨b1, b2, b3⟩ := oct_digit b hb
 constructor
 ·
  rw [roundS_92, esc_oct _ a2 a3]
  simp only [octS, roundS_nil]
 ·
  rw [roundS_92, esc_oct _ a2 a3]
  simp only [octS, b1, if_true, roundS_nil]
theorem roundS_cutE (c : UInt8) (o : List UInt8) (n : Nat) (hn : n < (txE c).length) : roundS 1 o ((txE c).take n) = none := by
 have hc := UInt8.toNat_lt c
 unfold txE at hn ⊢
 split at hn
 ·
  next h =>
  rw [if_pos h]
  match n, hn with
  | 0, _ => exact roundS_nil 1 o
  | 1, _ => exact roundS_one o
 ·
  next h =>
  rw [if_neg h]
  split at hn
  ·
   next h2 =>
   rw [if_pos h2]
   have e1 : (48 + (c.toNat : Int) / 64) = 48 + ((c.toNat / 64 : Nat) : Int) := by omega
   have e2 : (48 + (c.toNat : Int) / 8 % 8) = 48 + ((c.toNat / 8 % 8 : Nat) : Int) := by omega
   unfold octE at hn ⊢
   rw [e1, e2]
   have hq := roundS_oct (c.toNat / 64) (c.toNat / 8 % 8) oO oO o
   match n, hn with
   | 0, _ => exact roundS_nil 1 o
   | 1, _ => exact roundS_one o
   | 2, _ => exact hq.1
   | 3, _ => exact hq.2
  ·
   next h2 =>
   rw [if_neg h2]
   match n, hn with
   | 0, _ => exact roundS_nil 1 o
theorem roundS_cutT : ∀ (s o : List UInt8) (n : Nat), roundS 1 o ((s.flatMap txE).take n) = none
  | [], o, n => by simp; exact roundS_nil 1 o
  | c :: s, o, n => by
    rw [List.flatMap_cons, List.take_append]
    by_cases h : n < (txE c).length
    · rw [show n - (txE c).length = 0 by omega, List.take_zero, List.append_nil]
      exact roundS_cutE c o n h
    · rw [List.take_of_length_le oO, roundS_textE]
      exact roundS_cutT s _ _
theorem text_cut (s : List UInt8) (l : List UInt8) (t d j : Nat) (ht : t ≤ l.length) (h0 : 0 < j) (hj : j < (txT s).length) (h : l.drop t = (txT s).take j) : ∃ e, objP true l d t = .error e := by
 have e : (txT s).take j = 40 :: (s.flatMap txE).take (j - 1) := by
  rw [show j = (j - 1) + 1 by omega]
  show (40 :: (s.flatMap txE ++ [41])).take (j - 1 + 1) = _
  rw [List.take_succ_cons]
  have : (txT s).length = (s.flatMap txE).length + 2 := by simp [txT]
  rw [List.take_append_of_le_length oO]
  rfl
 rw [e] at h
 obtain ⟨h1, h2, h3⟩ := head_at h
 have hN : (nextR l (t : Int)).e = 14 := by
  unfold nextR
  rw [if_neg oO, show (t : Int).toNat = t from rfl, h, tokS_40, roundS_cutT]
  rfl
 have := objP_at true l (d : Int) t 40 h1
 rw [Int.toNat_natCast, if_neg dD, if_neg dD, if_pos rfl] at this
 refine ⟨24, ?_⟩
 rw [this]
 unfold textP textR
 rw [if_pos ⟨hN, by unfold openB; rw [h1, if_neg dD]⟩]
theorem take_cases {A B : List UInt8} {n : Nat} : (n < A.length ∧ (A ++ B).take n = A.take n) ∨ (A.length ≤ n ∧ (A ++ B).take n = A ++ B.take (n - A.length)) := by
 rw [List.take_append]
 by_cases h : n < A.length
 ·
  exact .inl ⟨h, by rw [show n - A.length = 0 by omega]; simp⟩
 ·
  exact .inr ⟨by omega, by rw [List.take_of_length_le oO]⟩
theorem prB_nil93 : prB [] ++ [93] = [93] := by simp [prB]
/-- the first word of a part of objects -/
theorem cut_R {D : Int} (r : List AV) (hr : ∀ o ∈ r, Snd D false o) (n : Nat) : firstW ((prB r ++ [93]).take n) ≠ [82] := by
 cases r with
 | nil =>
  match n with
  | 0 => exact fun h => by cases h
  | n + 1 => rw [prB_nil93, List.take_succ_cons, List.take_nil, firstW_delim [] dD dD dD]; exact fun h => by cases h
 | cons o r =>
  match n with
  | 0 => exact fun h => by cases h
  | n + 1 =>
   have e : prB (o :: r) ++ [93] = 32 :: (prO o ++ (prB r ++ [93])) := by simp [prB]
   rw [e, List.take_succ_cons, (firstW_32 _).1]
   obtain ⟨c, q, ec, hc⟩ := pr_head (hr o (by simp))
   have hb := headB_f hc
   rw [ec, List.cons_append]
   match n with
   | 0 => exact fun h => by cases h
   | n + 1 =>
    rw [List.take_succ_cons]
    unfold firstW
    rw [skipS_stop hb.1 hb.2.1, List.takeWhile_cons]
    split
    ·
     exact fun he => hb.2.2.2.2 (List.cons.inj he).1
    ·
     exact fun he => by cases he
theorem bnd_cut {D : Int} (r : List AV) (_hr : ∀ o ∈ r, Snd D false o) (n : Nat) : Bnd ((prB r ++ [93]).take n) := by
 cases n with
 | zero => exact Bnd.nil
 | succ n =>
  cases r with
  | nil => rw [prB_nil93, List.take_succ_cons, List.take_nil]; exact Bnd.cons dD
  | cons o r => rw [show prB (o :: r) ++ [93] = 32 :: (prO o ++ (prB r ++ [93])) by simp [prB], List.take_succ_cons]; exact Bnd.cons dD
theorem reg_take {A : List UInt8} (hA : ∀ x ∈ A, regB x = true) (m : Nat) : ∀ x ∈ A.take m, regB x = true := fun x hx => hA x (List.mem_of_mem_take hx)
theorem after_reg {A : List UInt8} (hA : ∀ x ∈ A, regB x = true) : firstW (afterW A) = [] := by
 have h1 : skipS false A = A := by
  cases A with
  | nil => rfl
  | cons c r =>
   have hc := hA c (by simp)
   exact skipS_stop (by cases h : blankB c with | false => rfl | true => unfold regB at hc; rw [h] at hc; cases hc) (fun e => by subst e; cases hc)
 unfold afterW
 rw [h1]
 have := dw_app (r := []) hA Bnd.nil
 rw [List.append_nil] at this
 rw [this]; rfl
/-- a part of an object that begins with the word 0 ends there -/
theorem cut_0 {D : Int} {o : AV} (h : Snd D false o) (m : Nat) (h0 : firstW ((prO o).take m) = [48]) : firstW (afterW ((prO o).take m)) = [] := by
 have hd : ∀ (c : UInt8) (r : List UInt8), prO o = c :: r → regB c = false → blankB c = false → c ≠ 37 → False := fun c r e hc hb h37 => by
  rw [e] at h0
  match m with
  | 0 => cases h0
  | m + 1 => rw [List.take_succ_cons, firstW_delim _ hc hb h37] at h0; cases h0
 have hw : ∀ A : List UInt8, (∀ y ∈ A, regB y = true) → prO o = A → firstW (afterW ((prO o).take m)) = [] := fun A hA e => by
  rw [e]; exact after_reg (reg_take hA m)
 cases h with
 | null => exact hw [110, 117, 108, 108] dD (by simp [prO])
 | bool _ _ n h =>
  rcases h with rfl | rfl
  ·
   exact hw [102, 97, 108, 115, 101] dD (by simp [prO])
  ·
   exact hw [116, 114, 117, 101] dD (by simp [prO])
 | num _ _ k n hk h =>
  rcases hk with rfl | rfl
  ·
   exact hw _ (dec_reg n h) (by simp [prO])
  ·
   exact hw _ (real_facts n h).2.2 (by simp [prO, norm_fits h])
 | name _ _ t h => exact (hd 47 (t.flatMap nmE) (by simp [prO, nmT]) dD dD dD).elim
 | text _ _ t h => exact (hd 40 _ (by simp [prO, txT]; rfl) dD dD dD).elim
 | ref _ _ n h =>
  have hf : fitsB n = true := by simp [fitsB]; omega
  have e : prO (.mk 8 n [] [] [] []) = decL n ++ [32, 48, 32, 82] := by simp [prO]
  rw [e] at h0 ⊢
  rcases take_cases (A := decL n) (B := [32, 48, 32, 82]) (n := m) with ⟨hm, e1⟩ | ⟨hm, e1⟩
  ·
   rw [e1]; exact after_reg (reg_take (dec_reg n hf) m)
  ·
   exfalso
   obtain ⟨c, r, ec, hc⟩ := dec_head n hf
   have hb := headB_f (num_head hc).1
   rw [e1] at h0
   have hB : Bnd (([32, 48, 32, 82] : List UInt8).take (m - (decL n).length)) := by
    cases m - (decL n).length with
    | zero => exact Bnd.nil
    | succ q => exact Bnd.cons dD
   unfold firstW at h0
   have hs : skipS false (decL n ++ ([32, 48, 32, 82] : List UInt8).take (m - (decL n).length)) = decL n ++ ([32, 48, 32, 82] : List UInt8).take (m - (decL n).length) := by
    rw [ec, List.cons_append]; exact skipS_stop hb.1 hb.2.1
   rw [hs, tw_app (dec_reg n hf) hB] at h0
   have hn : natOf (digitsL n.natAbs) = n.natAbs := (digitsL_val n.natAbs).2.1
   have hd2 : decL n = digitsL n.natAbs := by unfold decL; rw [if_neg oO]
   rw [hd2] at h0
   rw [h0] at hn
   have : natOf [48] = 0 := by decide
   omega
 | arr _ _ l hD hl h => exact (hd 91 _ (by simp [prO]; rfl) dD dD dD).elim
 | dict _ _ k ks l d hk hD hl hkl hn hnd h =>
  have e : ∃ r, prO (.mk k 0 [] ks l d) = 60 :: r := by rcases hk with ⟨rfl, -⟩ | ⟨rfl, -⟩ <;> exact ⟨_, by simp [prO]; rfl⟩
  obtain ⟨r, e⟩ := e
  exact (hd 60 r e dD dD dD).elim
theorem nr_cut {D : Int} (k : Int) (r : List AV) (hr : ∀ o ∈ r, Snd D false o) (n : Nat) : NoR k ((prB r ++ [93]).take n) := by
 intro _ ⟨h0, h1⟩
 cases n with
 | zero => cases h0
 | succ n =>
  cases r with
  | nil => rw [prB_nil93, List.take_succ_cons, List.take_nil, firstW_delim [] dD dD dD] at h0; cases h0
  | cons o r =>
   have e : prB (o :: r) ++ [93] = 32 :: (prO o ++ (prB r ++ [93])) := by simp [prB]
   rw [e, List.take_succ_cons] at h0 h1
   rw [(firstW_32 _).1] at h0
   rw [(firstW_32 _).2] at h1
   have hr2 : ∀ x ∈ r, Snd D false x := fun x hx => hr x (by simp [hx])
   rcases take_cases (A := prO o) (B := prB r ++ [93]) (n := n) with ⟨hm, e1⟩ | ⟨hm, e1⟩
   ·
    rw [e1] at h0 h1
    rw [cut_0 (hr o (by simp)) n h0] at h1; cases h1
   ·
    rw [e1] at h0 h1
    rw [first_0 (hr o (by simp)) (bnd_cut r hr2 _) h0] at h1
    exact cut_R r hr2 _ h1
theorem listP_none {l : List UInt8} {obj : Nat → ObjE} {f : Nat} {acc : List PV} {t : Nat} (h : skipS false (l.drop t) = []) : ∃ e, listP obj l f acc t = .error e := by
 cases f with
 | zero => exact ⟨24, rfl⟩
 | succ f =>
  obtain ⟨h1, -⟩ := skip_at h
  rw [listP_step oO, h1, List.length_nil, List.getElem?_eq_none oO]
  exact ⟨24, rfl⟩
theorem pairsP_none {l : List UInt8} {obj : Nat → ObjE} {f : Nat} {ks : List (List UInt8)} {acc : List PV} {t : Nat} (h : skipS false (l.drop t) = []) : ∃ e, pairsP obj l f ks acc t = .error e := by
 cases f with
 | zero => exact ⟨24, rfl⟩
 | succ f =>
  obtain ⟨h1, -⟩ := skip_at h
  rw [pairsP_step oO, h1, List.length_nil, List.getElem?_eq_none oO]
  exact ⟨24, rfl⟩
theorem listP_cut (l : List UInt8) (d : Nat) {D : Int} : ∀ (r : List AV) (acc : List PV) (t f n : Nat), (∀ o ∈ r, Snd D false o) → (∀ o ∈ r, Reads o) → (∀ o ∈ r, o.kind = 5 ∨ o.kind = 6 ∨ o.kind = 7 → CutE o) → t ≤ l.length →
    n < ((prB r).drop 1 ++ [93]).length → skipS false (l.drop t) = ((prB r).drop 1 ++ [93]).take n → ∃ e, listP (objP true l d) l f acc t = .error e
  | [], acc, t, f, n, _, _, _, ht, hn, h => by
    have : n = 0 := by simp [prB] at hn; omega
    subst this
    exact listP_none h
  | o :: r, acc, t, f, n, hS, hR, hC, ht, hn, h => by
    cases f with
    | zero => exact ⟨24, rfl⟩
    | succ f =>
    have hso := hS o (by simp)
    have eX : (prB (o :: r)).drop 1 ++ [93] = prO o ++ (prB r ++ [93]) := by simp [prB]
    rw [eX] at hn h
    rcases Nat.eq_zero_or_pos n with rfl | hn0
    · exact listP_none h
    obtain ⟨-, h2⟩ := skip_at h
    obtain ⟨c, q, hq, hc⟩ := pr_head hso
    have hge := skipAt_ge l t ht
    have hle := skipAt_le false l t
    have hhead : ∃ y, (prO o ++ (prB r ++ [93])).take n = c :: y := by
      rw [hq, show n = (n - 1) + 1 by omega, List.cons_append, List.take_succ_cons]; exact ⟨_, rfl⟩
    obtain ⟨y, hy⟩ := hhead
    obtain ⟨h3, h4, -⟩ := head_at (h2.trans hy)
    rcases take_cases (A := prO o) (B := prB r ++ [93]) (n := n) with ⟨hm, e1⟩ | ⟨hm, e1⟩
    · by_cases hk : o.kind = 5 ∨ o.kind = 6 ∨ o.kind = 7
      · rw [listP_step oO, h3]
        simp only
        rw [if_neg (headB_f hc).2.2.1]
        split
        · exact ⟨25, rfl⟩
        · obtain ⟨e, he⟩ := hC o (by simp) hk l _ d n hle hn0 hm (h2.trans e1)
          rw [he]; exact ⟨e, rfl⟩
      · have hno : 93 ∉ l.drop (skipAt false l t) := by
          rw [h2, e1]
          exact fun hx => (pr_plain hso hk 93 (List.mem_of_mem_take hx)).1 rfl
        rw [listP_step oO, h3]
        simp only
        rw [if_neg (headB_f hc).2.2.1]
        split
        · exact ⟨25, rfl⟩
        · cases ho : objP true l d (skipAt false l t) with
          | error k => exact ⟨k, rfl⟩
          | ok a =>
            obtain ⟨o1, t1⟩ := a
            have ha := objP_adv true l d _ _ _ h4 ho
            exact no93 l d _ _ t1 ha.2 (mem_drop_ge oO hno)
    · have h5 := h2.trans e1
      have hr2 : ∀ x ∈ r, Snd D false x := fun x hx => hS x (by simp [hx])
      rw [listP_step oO, h3]
      simp only
      rw [if_neg (headB_f hc).2.2.1]
      split
      · exact ⟨25, rfl⟩
      · rw [hR o (by simp) l _ _ d hle h5 (bnd_cut r hr2 _) (nr_cut o.kind r hr2 _)]
        by_cases hd : dpO o ≤ d
        · rw [if_pos hd]
          simp only
          obtain ⟨g1, g2, g3⟩ := step_over hle h5
          have hn' : n - (prO o).length < (prB r ++ [93]).length := by
            rw [List.length_append] at hn; omega
          have hsk : ∃ m, m < ((prB r).drop 1 ++ [93]).length ∧ skipS false (l.drop (l.length - ((prB r ++ [93]).take (n - (prO o).length)).length)) = ((prB r).drop 1 ++ [93]).take m := by
            rw [g1]
            generalize n - (prO o).length = p at hn'
            match p, hn' with
            | 0, _ => exact ⟨0, by simp, rfl⟩
            | p + 1, hn' =>
              cases r with
              | nil => simp [prB] at hn'
              | cons o2 r2 =>
                have e3 : prB (o2 :: r2) ++ [93] = 32 :: (prO o2 ++ (prB r2 ++ [93])) := by simp [prB]
                have e4 : (prB (o2 :: r2)).drop 1 ++ [93] = prO o2 ++ (prB r2 ++ [93]) := by simp [prB]
                rw [e3] at hn' ⊢
                rw [e4, List.take_succ_cons, skipS_32]
                refine ⟨p, by simpa using hn', ?_⟩
                match p with
                | 0 => rfl
                | p + 1 =>
                  obtain ⟨c2, q2, hq2, hc2⟩ := pr_head (hr2 o2 (by simp))
                  rw [hq2, List.cons_append, List.take_succ_cons]
                  exact skipS_stop (headB_f hc2).1 (headB_f hc2).2.1
          obtain ⟨m, hm2, hsk⟩ := hsk
          exact listP_cut l d r _ _ _ m hr2 (fun x hx => hR x (by simp [hx])) (fun x hx => hC x (by simp [hx])) g2 hm2 hsk
        · rw [if_neg hd]; exact ⟨25, rfl⟩
theorem drop1 (c : UInt8) (x : List UInt8) : (c :: x).drop 1 = x := rfl
theorem pairs_take (ks : List (List UInt8)) (r : List AV) (n : Nat) : firstW ((prP ks r ++ [32, 62, 62]).take n) = [] ∧ Bnd ((prP ks r ++ [32, 62, 62]).take n) := by
 obtain ⟨c, y, e, hc⟩ := pairs_head ks r [62]
 rw [e]
 match n with
 | 0 => exact ⟨rfl, Bnd.nil⟩
 | 1 => exact ⟨rfl, Bnd.cons dD⟩
 | n + 2 =>
  rw [List.take_succ_cons, List.take_succ_cons]
  refine ⟨?_, Bnd.cons dD⟩
  rw [(firstW_32 _).1, firstW_delim _ (by rcases hc with rfl | rfl <;> decide) (by rcases hc with rfl | rfl <;> decide) (by rcases hc with rfl | rfl <;> decide)]
theorem pairsP_cut (l : List UInt8) (d : Nat) {D : Int} : ∀ (ks : List (List UInt8)) (r : List AV) (ka : List (List UInt8)) (acc : List PV) (t f n : Nat), ks.length = r.length → (∀ k ∈ ks, nmOk k) → (∀ o ∈ r, Snd D false o) → (∀ o ∈ r, Reads o) → (∀ o ∈ r, o.kind = 5 ∨ o.kind = 6 ∨ o.kind = 7 → CutE o) → t ≤ l.length →
    n < ((prP ks r ++ [32, 62, 62]).drop 1).length → skipS false (l.drop t) = ((prP ks r ++ [32, 62, 62]).drop 1).take n → ∃ e, pairsP (objP true l d) l f ka acc t = .error e
  | [], [], ka, acc, t, f, n, _, _, _, _, _, ht, hn, h => by
    cases f with
    | zero => exact ⟨24, rfl⟩
    | succ f =>
    rw [show List.drop 1 (prP [] [] ++ [32, 62, 62]) = ([62, 62] : List UInt8) by simp [prP]] at hn h
    match n, hn with
    | 0, _ => exact pairsP_none h
    | 1, _ =>
      obtain ⟨-, h2⟩ := skip_at h
      obtain ⟨h3, h4, -⟩ := head_at (show l.drop (skipAt false l t) = 62 :: [] from h2)
      have hl := congrArg List.length h2
      rw [List.length_drop] at hl
      rw [pairsP_step oO, h3]
      simp only
      rw [if_pos (by exact ⟨by trivial, by have : ([62, 62].take 1 : List UInt8).length = 1 := rfl; omega⟩)]
      exact ⟨24, rfl⟩
  | k :: ks, o :: r, ka, acc, t, f, n, hkl, hk, hS, hR, hC, ht, hn, h => by
    cases f with
    | zero => exact ⟨24, rfl⟩
    | succ f =>
    have hso := hS o (by simp)
    have hS2 : ∀ x ∈ r, Snd D false x := fun x hx => hS x (by simp [hx])
    obtain ⟨Y, hY⟩ : ∃ Y, Y = prP ks r ++ [32, 62, 62] := ⟨_, rfl⟩
    have eX : (prP (k :: ks) (o :: r) ++ [32, 62, 62]).drop 1 = 47 :: (k.flatMap nmE ++ 32 :: (prO o ++ Y)) := by rw [hY]; simp [prP, nmT]
    rw [eX] at hn h
    match n, hn, h with
    | 0, _, h => exact pairsP_none h
    | n + 1, hn, h =>
    rw [List.take_succ_cons] at h
    obtain ⟨-, h2⟩ := skip_at h
    obtain ⟨h3, h4, h5⟩ := head_at h2
    have hge := skipAt_ge l t ht
    obtain ⟨s, hs⟩ : ∃ s, s = skipAt false l t := ⟨_, rfl⟩
    rw [← hs] at h2 h3 h4 h5 hge
    rw [pairsP_step oO, ← hs, h3]
    simp only
    rw [if_neg (by rintro ⟨h, -⟩; cases h), if_neg (by rintro ⟨h, -⟩; cases h), if_neg (by simp)]
    rcases take_cases (A := k.flatMap nmE) (B := 32 :: (prO o ++ Y)) (n := n) with ⟨hm, e1⟩ | ⟨hm, e1⟩
    · -- within the name
      rw [e1] at h5
      have hreg := reg_take (name_reg k) n
      have hw : wordAt l (s + 1) = l.length := by
        have := (word_at (r := []) (show s + 1 ≤ l.length by omega) (by rw [h5, List.append_nil]) hreg Bnd.nil).2.1
        simpa using this
      cases hnm : nameP l (s + 1) with
      | error e => exact ⟨e, rfl⟩
      | ok a =>
        obtain ⟨k1, t1⟩ := a
        have ht1 : t1 = l.length := by
          have h6 := hnm
          unfold nameP at h6
          split at h6
          · cases h6
          · split at h6
            · cases h6
            · split at h6
              · cases h6
              · cases h6; exact hw
        simp only
        split
        · exact ⟨23, rfl⟩
        · split
          · exact ⟨25, rfl⟩
          · rw [ht1, skipAt_end false l l.length (Nat.le_refl _), List.getElem?_eq_none (Nat.le_refl _)]
            exact ⟨24, rfl⟩
    · rw [e1] at h5
      rcases Nat.eq_zero_or_pos (n - (k.flatMap nmE).length) with h0 | h0
      · -- the name alone
        rw [h0, List.take_zero] at h5
        have hw := word_at (r := []) (show s + 1 ≤ l.length by omega) h5 (name_reg k) Bnd.nil
        rw [nameP_at oO h5 (hk k (by simp)) Bnd.nil]
        simp only
        split
        · exact ⟨23, rfl⟩
        · split
          · exact ⟨25, rfl⟩
          · rw [show l.length - ([] : List UInt8).length = l.length by simp, skipAt_end false l l.length (Nat.le_refl _), List.getElem?_eq_none (Nat.le_refl _)]
            exact ⟨24, rfl⟩
      · obtain ⟨m, hm2⟩ : ∃ m, n - (k.flatMap nmE).length = m + 1 := ⟨n - (k.flatMap nmE).length - 1, by omega⟩
        rw [hm2, List.take_succ_cons] at h5
        have hlenm : m < (prO o ++ Y).length := by
          simp only [List.length_cons, List.length_append] at hn
          rw [List.length_append]; omega
        rw [nameP_at oO h5 (hk k (by simp)) (Bnd.cons dD)]
        simp only
        split
        · exact ⟨23, rfl⟩
        · split
          · exact ⟨25, rfl⟩
          · obtain ⟨g1, g2, g3⟩ := step_over (show s + 1 ≤ l.length by omega) h5
            obtain ⟨t1, ht1⟩ : ∃ t1, t1 = l.length - (32 :: (prO o ++ Y).take m).length := ⟨_, rfl⟩
            rw [← ht1] at g1 g2 ⊢
            have hts : s + 1 ≤ t1 := by
              have := congrArg List.length h5
              rw [List.length_drop, List.length_append] at this; omega
            rcases Nat.eq_zero_or_pos m with rfl | hm0
            · have hsk : skipS false (l.drop t1) = [] := by rw [g1]; rfl
              rw [(skip_at hsk).1, List.length_nil, List.getElem?_eq_none oO]
              exact ⟨24, rfl⟩
            · obtain ⟨c, q, hq, hc⟩ := pr_head hso
              have hb := headB_f hc
              have hsk : skipS false (l.drop t1) = (prO o ++ Y).take m := by
                rw [g1, skipS_32, hq, show m = (m - 1) + 1 by omega, List.cons_append, List.take_succ_cons]
                exact skipS_stop hb.1 hb.2.1
              obtain ⟨-, q2⟩ := skip_at hsk
              have hge1 := skipAt_ge l t1 g2
              have hle1 := skipAt_le false l t1
              obtain ⟨s1, hs1⟩ : ∃ s1, s1 = skipAt false l t1 := ⟨_, rfl⟩
              rw [← hs1] at q2 hge1 hle1 ⊢
              obtain ⟨y, hy⟩ : ∃ y, (prO o ++ Y).take m = c :: y := by
                rw [hq, show m = (m - 1) + 1 by omega, List.cons_append, List.take_succ_cons]; exact ⟨_, rfl⟩
              obtain ⟨h6, h7, -⟩ := head_at (q2.trans hy)
              rw [h6]
              simp only
              rcases take_cases (A := prO o) (B := Y) (n := m) with ⟨hm3, e2⟩ | ⟨hm3, e2⟩
              · by_cases hk5 : o.kind = 5 ∨ o.kind = 6 ∨ o.kind = 7
                · obtain ⟨e, he⟩ := hC o (by simp) hk5 l s1 d m hle1 hm0 hm3 (q2.trans e2)
                  rw [he]; exact ⟨e, rfl⟩
                · have hno : 62 ∉ l.drop s1 := by
                    rw [q2, e2]
                    exact fun hx => (pr_plain hso hk5 62 (List.mem_of_mem_take hx)).2 rfl
                  cases ho : objP true l d s1 with
                  | error e => exact ⟨e, rfl⟩
                  | ok a =>
                    obtain ⟨o1, t2⟩ := a
                    have ha := objP_adv true l d _ _ _ h7 ho
                    exact no62 l d _ _ _ t2 ha.2 (mem_drop_ge oO hno)
              · have hpt := pairs_take ks r (m - (prO o).length)
                rw [← hY] at hpt
                rw [hR o (by simp) l s1 _ d hle1 (q2.trans e2) hpt.2 (fun _ hx => by rw [hpt.1] at hx; cases hx.1)]
                by_cases hd : dpO o ≤ d
                · rw [if_pos hd]
                  simp only
                  obtain ⟨k1, k2, k3⟩ := step_over hle1 (q2.trans e2)
                  have hn3 : m - (prO o).length < Y.length := by rw [List.length_append] at hlenm; omega
                  have hsk2 : ∃ p, p < (Y.drop 1).length ∧ skipS false (l.drop (l.length - (Y.take (m - (prO o).length)).length)) = (Y.drop 1).take p := by
                    rw [k1]
                    obtain ⟨c2, y2, e3, hc2⟩ := pairs_head ks r [62]
                    have e3 : Y = 32 :: c2 :: y2 := by rw [hY]; exact e3
                    rw [e3] at hn3 ⊢
                    generalize m - (prO o).length = p at hn3
                    match p, hn3 with
                    | 0, _ => exact ⟨0, by simp, rfl⟩
                    | p + 1, hn3 =>
                      rw [List.take_succ_cons, skipS_32, drop1]
                      refine ⟨p, by simpa using hn3, ?_⟩
                      match p with
                      | 0 => rfl
                      | p + 1 => rw [List.take_succ_cons]; exact skipS_stop (by rcases hc2 with rfl | rfl <;> decide) (by rcases hc2 with rfl | rfl <;> decide)
                  obtain ⟨p, hp, hsk2⟩ := hsk2
                  rw [hY] at hp hsk2
                  rw [← hY] at hsk2
                  exact pairsP_cut l d ks r _ _ _ _ p (by simpa using hkl) (fun x hx => hk x (by simp [hx])) hS2 (fun x hx => hR x (by simp [hx])) (fun x hx => hC x (by simp [hx])) k2 hp (by rw [hsk2, hY])
                · rw [if_neg hd]; exact ⟨25, rfl⟩
/-- no part of what is written, that ends with a bracket, is an object -/
theorem cuts {D : Int} {st : Bool} {o : AV} (h : Snd D st o) : o.kind = 5 ∨ o.kind = 6 ∨ o.kind = 7 → CutE o := by
 induction h with
 | null => intro h; simp [AV.kind] at h
 | bool => intro h; simp [AV.kind] at h
 | num _ _ k n hk hf => intro h; rcases hk with rfl | rfl <;> simp [AV.kind] at h
 | name => intro h; simp [AV.kind] at h
 | text D st s hs =>
  intro _ l t d j ht h0 hj h
  have e : prO (.mk 5 0 s [] [] []) = txT s := by simp [prO]
  rw [e] at hj h
  exact text_cut s l t d j ht h0 hj h
 | ref => intro h; simp [AV.kind] at h
 | arr D st L hD hl hS ih =>
  intro _ l t d j ht h0 hj h
  have e : prO (.mk 6 0 [] [] L []) = 91 :: ((prB L).drop 1 ++ [93]) := by simp [prO]
  rw [e] at hj h
  obtain ⟨j, rfl⟩ : ∃ i, j = i + 1 := ⟨j - 1, by omega⟩
  rw [List.take_succ_cons] at h
  obtain ⟨h1, h2, h3⟩ := head_at h
  have := objP_at true l (d : Int) t 91 h1
  rw [Int.toNat_natCast, if_neg dD, if_pos rfl] at this
  rw [this]
  by_cases hd : (d : Int) < 1
  ·
   rw [if_pos hd]; exact ⟨25, rfl⟩
  ·
   rw [if_neg hd]
   have hsk : skipS false (l.drop (t + 1)) = ((prB L).drop 1 ++ [93]).take j := by
    rw [h3]
    cases j with
    | zero => rfl
    | succ j =>
     cases L with
     | nil => rw [show (prB []).drop 1 ++ [93] = [93] by simp [prB], List.take_succ_cons]; exact skipS_stop dD dD
     | cons o r =>
      obtain ⟨c, q, hq, hc⟩ := pr_head (hS o (by simp))
      rw [show (prB (o :: r)).drop 1 ++ [93] = prO o ++ (prB r ++ [93]) by simp [prB], hq, List.cons_append, List.take_succ_cons]
      exact skipS_stop (headB_f hc).1 (headB_f hc).2.1
   obtain ⟨e, he⟩ := listP_cut l ((d : Int) - 1).toNat L [] (t + 1) (l.length + 1) j hS (fun o ho => reads (hS o ho) (snd_no9 (hS o ho))) (fun o ho hk => ih o ho hk) oO (by simpa using hj) hsk
   rw [he]; exact ⟨e, rfl⟩
 | dict D st k ks L dd hk hD hl hkl hn hnd hS ih =>
  intro h5 l t d j ht h0 hj h
  have hk7 : k = 7 ∧ dd = [] := by
   rcases hk with hk | ⟨rfl, -⟩
   ·
    exact hk
   ·
    simp [AV.kind] at h5
  obtain ⟨rfl, rfl⟩ := hk7
  have e : prO (.mk 7 0 [] ks L []) = 60 :: 60 :: (prP ks L ++ [32, 62, 62]) := by simp [prO]
  rw [e] at hj h
  obtain ⟨j, rfl⟩ : ∃ i, j = i + 1 := ⟨j - 1, by omega⟩
  rw [List.take_succ_cons] at h
  obtain ⟨h1, h2, h3⟩ := head_at h
  have := objP_at true l (d : Int) t 60 h1
  rw [Int.toNat_natCast, if_neg dD, if_neg dD, if_neg dD, if_pos rfl] at this
  rw [this]
  cases j with
  | zero =>
   have := congrArg List.length h3
   rw [List.length_drop, List.take_zero, List.length_nil] at this
   rw [if_pos oO]; exact ⟨24, rfl⟩
  | succ j =>
   rw [List.take_succ_cons] at h3
   obtain ⟨h4, h6, h7⟩ := head_at h3
   rw [if_neg oO, if_neg (fun h => h h4)]
   by_cases hd : (d : Int) < 1
   ·
    rw [if_pos hd]; exact ⟨25, rfl⟩
   ·
    rw [if_neg hd]
    have hjl : j < (prP ks L ++ [32, 62, 62]).length := by simpa using hj
    obtain ⟨c2, y2, e2, hc2⟩ := pairs_head ks L [62]
    obtain ⟨e, he⟩ := pairsP_cut l ((d : Int) - 1).toNat ks L [] [] (t + 2) (l.length + 1) (j - 1) hkl hn hS (fun o ho => reads (hS o ho) (snd_no9 (hS o ho))) (fun o ho hk => ih o ho hk) oO (by rw [List.length_drop]; simp only [List.length_append, List.length_cons, List.length_nil] at hjl ⊢; omega) (by
     rw [show t + 2 = t + 1 + 1 from rfl, h7, show prP ks L ++ [32, 62, 62] = 32 :: c2 :: y2 from e2, drop1]
     match j with
     | 0 => rfl
     | 1 => rfl
     | j + 2 =>
      rw [List.take_succ_cons, List.take_succ_cons, skipS_32, show j + 2 - 1 = j + 1 by omega, List.take_succ_cons]
      exact skipS_stop (by rcases hc2 with rfl | rfl <;> decide) (by rcases hc2 with rfl | rfl <;> decide))
    rw [he]; exact ⟨e, rfl⟩
/-- what Object answers at a part of what is written -/
theorem objT_cut {st : Bool} {o : AV} (h : Snd 32 st o) (hk : o.kind = 5 ∨ o.kind = 6 ∨ o.kind = 7) (j : Nat) (h0 : 0 < j) (hj : j < (prO o).length) : ∃ k, Err3 k ∧ objT ((prO o).take j) 0 32 = (pv0 0 0 [], 0, k) := by
 obtain ⟨e, he⟩ := cuts h hk ((prO o).take j) 0 32 j (Nat.zero_le _) h0 hj (by rw [List.drop_zero])
 obtain ⟨c, r, ec, hc⟩ := pr_head h
 have hb := headB_f hc
 have hlen : ((prO o).take j).length = j := by rw [List.length_take]; omega
 have hs : skipAt false ((prO o).take j) 0 = 0 := by
  have := (skip_at (l := (prO o).take j) (t := 0) (x := (prO o).take j) (by
   rw [List.drop_zero, ec, show j = (j - 1) + 1 by omega, List.take_succ_cons]
   exact skipS_stop hb.1 hb.2.1)).1
  omega
 refine ⟨e, objP_err true _ _ _ _ he, ?_⟩
 have := objT_in (l := (prO o).take j) (a := 0) (d := 32) (Nat.zero_le _) hs oO
 rw [show (32 : Int).toNat = 32 from rfl, he] at this
 exact this
end
section
theorem pr_two {o : AV} (h : Snd 32 true o) (hk : o.kind = 5 ∨ o.kind = 6 ∨ o.kind = 7) : 2 ≤ (prO o).length := by
  cases h with
  | null => simp [AV.kind] at hk
  | bool => simp [AV.kind] at hk
  | num _ _ k n hkn hf => rcases hkn with rfl | rfl <;> simp [AV.kind] at hk
  | name => simp [AV.kind] at hk
  | text _ _ s hs =>
    have e : prO (.mk 5 0 s [] [] []) = txT s := by simp [prO]
    rw [e]; unfold txT; simp only [List.length_cons, List.length_append, List.length_nil]; omega
  | ref => simp [AV.kind] at hk
  | arr _ _ L hD hl hS =>
    have e : prO (.mk 6 0 [] [] L []) = 91 :: ((prB L).drop 1 ++ [93]) := by simp [prO]
    rw [e]; simp only [List.length_cons, List.length_append, List.length_nil]; omega
  | dict _ _ k ks L d hk' hD hl hkl hn hnd hS =>
    rcases hk' with ⟨rfl, rfl⟩ | ⟨rfl, -⟩
    · have e : prO (.mk 7 0 [] ks L []) = 60 :: 60 :: (prP ks L ++ [32, 62, 62]) := by simp [prO]
      rw [e]; simp only [List.length_cons]; omega
    · simp [AV.kind] at hk
set_option maxHeartbeats 1000000 in
theorem law_PlexCuts (y : AC) (o : AV) (a : Int) (w : World) (hrep : ARep w (· < w.heap.size) y o) (hbk : bkO o ≤ 1048576) (hwf : (Lit.int .u16 a).wf = true) :
  Calls Tryz.prog 5 #[.agg (acV y).toArray, .int .u16 a] w fun e w' => e = .returned (.bool true) ∧ Below w.heap.size w w' := by
 have hkd := hrep.kind
 have hlen : ∀ hS : Snd 32 true o, (prO o).length ≤ 50000000 := fun hS => by have := pr_len hS; omega
 have ha : 0 ≤ a ∧ a ≤ 65535 := by simp only [Lit.wf, Bool.and_eq_true, decide_eq_true_eq] at hwf; exact hwf
 obtain ⟨b6, hb6⟩ : ∃ b, b = !decide (y.kind = 6) := ⟨_, rfl⟩
 obtain ⟨b7, hb7⟩ : ∃ b, b = !decide (y.kind = 7) := ⟨_, rfl⟩
 obtain ⟨b5, hb5⟩ : ∃ b, b = !decide (y.kind = 5) := ⟨_, rfl⟩
 refine W.enter func5 rfl ntmps5 (Nat.le_of_ble_eq_true rfl) ?_
 have hB0 := Below.refl (w.heap.size) w
 refine W.sr <| WL.box rfl rfl (fun b1 wb1 eb1 hkb1 hub1 hsb1 => ?_)
 have hF2 := ARep.same (w1 := wb1) hrep (fun k hk hl => hub1.other k oO)
 have hB3 := Upd.below hB0 (by rw [eb1]; exact hB0.size) hub1
 have hgeb1 : w.heap.size ≤ b1 := by rw [eb1]; exact hB0.size
 refine WL.z rfl rfl ?_
 refine W.cut (α := Unit) (fun t => [(1, .int .u16 a), (2, .pointer (some ⟨b1, 0, none⟩))]) (fun t w' => Below w.heap.size w w' ∧ Blk w' b1 (Value.agg (acV y).toArray).cells 31 ∧ ARep w' (· < w.heap.size) y o ∧ Snd 32 true o ∧ (o.kind = 5 ∨ o.kind = 6 ∨ o.kind = 7)) ?_ (fun t w1 hR => ?_)
 refine W.sr <| WL.c1 hb10 rfl rfl ((answersB _)) (fun w4 hw4 => ?_)
 have hF5 := ARep.same (w1 := w4) hF2 (fun k hk hl => hw4.block k hl)
 have hk6 := hkb1.below hw4 hkb1.lt
 have hB7 := btr hB3 hw4
 refine WL.p (.not rfl) rfl <| WL.m rfl rfl <| WL.gy rfl rfl rfl rfl <| WL.r (Rd.ldA rfl hk6 underlying31 rfl isz31) rfl <| WL.gy rfl rfl rfl rfl <| WL.call hb15 rfl rfl ((law_light _ o (Nat.lt_succ_self _) y _ 40 _ hF5 dD dD)) (fun ql w8 hw8 => ?_)
 have hF9 := ARep.same (w1 := w8) hF5 (fun k hk hl => hw8.block k hl)
 have hk10 := hk6.below hw8 hk6.lt
 have hB11 := btr hB7 hw8
 refine WL.gy rfl rfl rfl rfl <| WL.p (.not rfl) rfl <| WL.p (.pkF rfl rfl rfl) rfl <| WL.m rfl rfl <| WL.gd rfl rfl rfl (fun g12 => ?_) (fun g12 => ?_)
 have g12' := (nF g12)
 refine WL.r (Rd.ldA rfl hk10 underlying31 rfl isz31) rfl <| WL.gy rfl rfl rfl (by rw [(nF g12)] <;> rfl) <| WL.call hb16 rfl rfl ((r18_SoundA y o _ _ hF9)) (fun sb w13 hw13 => ?_)
 have hF14 := ARep.same (w1 := w13) hF9 (fun k hk hl => hw13.block k hl)
 have hk15 := hk10.below hw13 hk10.lt
 have hB16 := btr hB11 hw13
 refine WL.gy rfl rfl rfl (by rw [(nF g12)] <;> rfl) <| WL.p (.not rfl) rfl <| WL.p (.pkF rfl (by rw [(nF g12)] <;> rfl) rfl) rfl <| WL.m rfl rfl <| WL.gd rfl rfl rfl (fun g17 => ?_) (fun g17 => ?_)
 have g17' := (nF g17)
 refine WL.p (.fa underlying31 rfl sizeOf3 dD rfl) rfl <| WL.gy rfl rfl rfl (by rw [(nF g17)] <;> rfl) <| WL.r (Rd.ld (isAgg3 _) rfl hk15 rfl) rfl <| WL.gy rfl rfl rfl (by rw [(nF g17)] <;> rfl) <| WL.p (.neq rfl rfl) rfl <| WL.gy rfl rfl rfl (by rw [(nF g17)] <;> rfl) <| WL.m rfl rfl <| WL.gd rfl rfl rfl (fun g18 => ?_) (fun g18 => ?_)
 have g18' := ndT g18
 refine WL.p (.fa underlying31 rfl sizeOf3 dD rfl) rfl <| WL.gy rfl rfl rfl g18 <| WL.r (Rd.ld (isAgg3 _) rfl hk15 rfl) rfl <| WL.gy rfl rfl rfl g18 <| WL.p (.neq rfl rfl) rfl <| WL.gy rfl rfl rfl (by rw [(nF g17)] <;> rfl) <| WL.p (.pkT rfl g18 rfl) rfl <| WL.gy rfl rfl rfl (by rw [(nF g17)] <;> rfl) <| WL.m rfl rfl <| WL.gd rfl rfl rfl (fun g19 => ?_) (fun g19 => ?_)
 have g19' := ndT g19
 refine WL.p (.fa underlying31 rfl sizeOf3 dD rfl) rfl <| WL.gy rfl rfl rfl g19 <| WL.r (Rd.ld (isAgg3 _) rfl hk15 rfl) rfl <| WL.gy rfl rfl rfl g19 <| WL.p (.neq rfl rfl) rfl <| WL.gy rfl rfl rfl (by rw [(nF g17)] <;> rfl) <| WL.p (.pkT rfl g19 rfl) rfl <| WL.p (.pkF rfl (by rw [(nF g17)] <;> rfl) rfl) rfl <| WL.nil <| ?_
 refine W.cond rfl (fun h20 => ?_) (fun h20 => ?_)
 have h20' := ndT h20
 refine W.sr <| WL.c1 hb10 rfl rfl ((answersB _)) (fun w21 hw21 => ?_)
 have hB24 := btr hB16 hw21
 refine WL.z rfl rfl ?_
 refine W.ret (W.ret1 rfl rfl ?_)
 exact ⟨rfl, hB24⟩
 have h20' := ndF h20
 refine W.skip ?_
 exact ⟨(), ⟨rfl, rfl, trivial⟩, hB16, hk15, hF14, sb.2 aS, by rw [hkd]; first | exact .inl aS | exact .inr (.inl aS) | exact .inr (.inr aS)⟩
 have g19' := ndF g19
 refine WL.gn rfl rfl rfl g19 <| WL.gn rfl rfl rfl g19 <| WL.gy rfl rfl rfl (by rw [(nF g17)] <;> rfl) <| WL.p (.pkF rfl g19 rfl) rfl <| WL.p (.pkF rfl (by rw [(nF g17)] <;> rfl) rfl) rfl <| WL.nil <| ?_
 refine W.condF rfl rfl ?_
 refine W.skip ?_
 exact ⟨(), ⟨rfl, rfl, trivial⟩, hB16, hk15, hF14, sb.2 aS, by rw [hkd]; first | exact .inl aS | exact .inr (.inl aS) | exact .inr (.inr aS)⟩
 have g18' := ndF g18
 refine WL.gn rfl rfl rfl g18 <| WL.gn rfl rfl rfl g18 <| WL.gy rfl rfl rfl (by rw [(nF g17)] <;> rfl) <| WL.p (.pkF rfl g18 rfl) rfl <| WL.gy rfl rfl rfl (by rw [(nF g17)] <;> rfl) <| WL.m rfl rfl <| WL.gn rfl rfl rfl rfl <| WL.gn rfl rfl rfl rfl <| WL.gn rfl rfl rfl rfl <| WL.gy rfl rfl rfl (by rw [(nF g17)] <;> rfl) <| WL.p (.pkF rfl rfl rfl) rfl <| WL.p (.pkF rfl (by rw [(nF g17)] <;> rfl) rfl) rfl <| WL.nil <| ?_
 refine W.condF rfl rfl ?_
 refine W.skip ?_
 exact ⟨(), ⟨rfl, rfl, trivial⟩, hB16, hk15, hF14, sb.2 aS, by rw [hkd]; first | exact .inl aS | exact .inr (.inl aS) | exact .inr (.inr aS)⟩
 have g17' := (nT g17)
 refine WL.gn rfl rfl rfl (by rw [(nT g17)] <;> rfl) <| WL.gn rfl rfl rfl (by rw [(nT g17)] <;> rfl) <| WL.gn rfl rfl rfl (by rw [(nT g17)] <;> rfl) <| WL.gu rfl rfl rfl <| WL.gu rfl rfl rfl <| WL.gu rfl rfl rfl <| WL.gn rfl rfl rfl (by rw [(nT g17)] <;> rfl) <| WL.gn rfl rfl rfl (by rw [(nT g17)] <;> rfl) <| WL.gu rfl rfl rfl <| WL.gu rfl rfl rfl <| WL.gu rfl rfl rfl <| WL.gn rfl rfl rfl (by rw [(nT g17)] <;> rfl) <| WL.p (.pkT rfl (by rw [(nT g17)] <;> rfl) rfl) rfl <| WL.nil <| ?_
 refine W.condT rfl rfl ?_
 refine W.sr <| WL.c1 hb10 rfl rfl ((answersB _)) (fun w25 hw25 => ?_)
 have hB28 := btr hB16 hw25
 refine WL.z rfl rfl ?_
 refine W.ret (W.ret1 rfl rfl ?_)
 exact ⟨rfl, hB28⟩
 have g12' := (nT g12)
 refine WL.gn rfl rfl rfl (by rw [(nT g12)] <;> rfl) <| WL.gn rfl rfl rfl (by rw [(nT g12)] <;> rfl) <| WL.p (.pkT rfl (by rw [(nT g12)] <;> rfl) rfl) rfl <| WL.m rfl rfl <| WL.gn rfl rfl rfl rfl <| WL.gn rfl rfl rfl rfl <| WL.gn rfl rfl rfl rfl <| WL.gn rfl rfl rfl rfl <| WL.gu rfl rfl rfl <| WL.gu rfl rfl rfl <| WL.gu rfl rfl rfl <| WL.gn rfl rfl rfl rfl <| WL.gn rfl rfl rfl rfl <| WL.gu rfl rfl rfl <| WL.gu rfl rfl rfl <| WL.gu rfl rfl rfl <| WL.gn rfl rfl rfl rfl <| WL.p (.pkT rfl rfl rfl) rfl <| WL.nil <| ?_
 refine W.condT rfl rfl ?_
 refine W.sr <| WL.c1 hb10 rfl rfl ((answersB _)) (fun w29 hw29 => ?_)
 have hB32 := btr hB11 hw29
 refine WL.z rfl rfl ?_
 refine W.ret (W.ret1 rfl rfl ?_)
 exact ⟨rfl, hB32⟩
 obtain ⟨hj1, hj2, hj3, hS, hk5⟩ := hR
 have hL := hlen hS
 have hcut := objT_cut hS hk5
 have h2 : 2 ≤ (prO o).length := pr_two hS hk5
 obtain ⟨s, hs⟩ : ∃ s, s = prO o := ⟨_, rfl⟩
 have hm1 := Int.emod_nonneg a (show ((s.length : Int) - 1) ≠ 0 by rw [hs]; omega)
 have hm2 := Int.emod_lt_of_pos a (show 0 < ((s.length : Int) - 1) by rw [hs]; omega)
 rw [← hs] at hL hcut h2
 obtain ⟨k0, hk0⟩ : ∃ k0 : Nat, (k0 : Int) = 1 + a % ((s.length : Int) - 1) := ⟨(1 + a % ((s.length : Int) - 1)).toNat, by omega⟩
 obtain ⟨e0, he0, hcut⟩ := hcut k0 oO oO
 have he0 := he0.ne
 have hkl : (s.take k0).length ≤ 50000000 := by rw [List.length_take]; omega
 refine W.sr <| WL.r (Rd.ldA rfl hj2 underlying31 rfl isz31) rfl <| WL.c1 hb17 rfl rfl ((by have h0 := r18_PrintA _ o (Nat.lt_succ_self _) y _ 32 true _ hj3 hS (by rw [← hs]; omega); rw [← hs] at h0; exact h0)) (fun w33 hw33 => ?_)
 have hk35 := hj2.below hw33 hj2.lt
 have hB36 := btr hj1 hw33
 refine WL.z rfl rfl ?_
 refine W.sr <| WL.m rfl rfl <| WL.p (.cvt underlying42 underlying3 rfl (i64w oO)) rfl <| WL.m rfl rfl <| WL.p (.len underlying9 rfl) rfl <| WL.p (.sub rfl rfl (i64w oO)) rfl <| WL.p (.rem rfl rfl oO (Int.tmod_eq_emod_of_nonneg oO)) rfl <| WL.p (.iis ((k0 : Int)) (.add rfl rfl (i64w oO)) (by exact hk0.symm)) rfl <| WL.z rfl rfl ?_
 refine W.sr <| WL.m rfl rfl <| WL.m rfl rfl <| WL.p (.slT underlying9 rfl rfl (k0) (rfl) oO) rfl <| WL.s2b underlying9 underlying22 underlying5 rfl rfl (fun b37 wb37 cu eb37 hu hcu hub37 hsb37 => ?_)
 have hl40 : b1 < b37 := by rw [eb37]; exact hk35.lt
 have hB41 := Upd.below hB36 (by rw [eb37]; exact hB36.size) hub37
 have hgeb37 : w.heap.size ≤ b37 := by rw [eb37]; exact hB36.size
 refine WL.call hb18 rfl rfl ((plex_ObjectR _ (s.take k0) _ 0 32 _ hcut _ hu hcu oO dD)) (fun x1 w42 hw42 => ?_)
 obtain ⟨hx1, hBo⟩ := hw42
 have hB2 := Below.trans hB41 (Below.mono hBo hB41.size)
 refine WL.m rfl rfl <| WL.p (.ext rfl rfl) rfl <| WL.p (.ext rfl rfl) rfl <| WL.p (.ext rfl rfl) rfl <| WL.alloc zeroValue31 rfl (fun b43 wb43 eb43 hkb43 hub43 hsb43 => ?_)
 have hB45 := Upd.below hB2 (by rw [eb43]; exact hB2.size) hub43
 have hgeb43 : w.heap.size ≤ b43 := by rw [eb43]; exact hB2.size
 refine WL.stL rfl rfl hkb43 isz31 rfl rfl (fun w46 hkw46 huw46 hsw46 => ?_)
 have hB48 := Upd.below hB45 oO huw46
 refine WL.a rfl rfl <| WL.z rfl rfl ?_
 refine W.sr <| WL.m rfl rfl <| WL.m rfl rfl <| WL.p (.slT underlying9 rfl rfl (k0) (rfl) oO) rfl <| WL.s2b underlying9 underlying22 underlying5 rfl rfl (fun b49 wb49 cv eb49 hv hcv hub49 hsb49 => ?_)
 have hl52 : b43 < b49 := by rw [eb49]; exact hkw46.lt
 have hB53 := Upd.below hB48 (by rw [eb49]; exact hB48.size) hub49
 have hgeb49 : w.heap.size ≤ b49 := by rw [eb49]; exact hB48.size
 refine WL.call hb22 rfl rfl ((r18_ObjectR _ (s.take k0) _ 0 32 _ hcut _ hv hcv oO dD)) (fun x2 w54 hw54 => ?_)
 obtain ⟨hx2, hBp⟩ := hw54
 have hB3 := Below.trans hB53 (Below.mono hBp hB53.size)
 refine WL.m rfl rfl <| WL.p (.ext rfl rfl) rfl <| WL.p (.ext rfl rfl) rfl <| WL.p (.ext rfl rfl) rfl <| WL.alloc zeroValue31 rfl (fun b55 wb55 eb55 hkb55 hub55 hsb55 => ?_)
 have hB57 := Upd.below hB3 (by rw [eb55]; exact hB3.size) hub55
 have hgeb55 : w.heap.size ≤ b55 := by rw [eb55]; exact hB3.size
 refine WL.stL rfl rfl hkb55 isz31 rfl rfl (fun w58 hkw58 huw58 hsw58 => ?_)
 have hB60 := Upd.below hB57 oO huw58
 refine WL.a rfl rfl <| WL.z rfl rfl ?_
 refine W.sr <| WL.m rfl rfl <| WL.p (.bis (true) (.neq rfl rfl) (by simp [he0])) rfl <| WL.m rfl rfl <| WL.gy rfl rfl rfl rfl <| WL.m rfl rfl <| WL.gy rfl rfl rfl rfl <| WL.m rfl rfl <| WL.gy rfl rfl rfl rfl <| WL.p (.bis (true) (.eql rfl rfl) (by simp)) rfl <| WL.p (.pkT rfl rfl rfl) rfl <| WL.m rfl rfl <| WL.gy rfl rfl rfl rfl <| WL.m rfl rfl <| WL.gy rfl rfl rfl rfl <| WL.p (.bis (true) (.eql rfl rfl) (by simp)) rfl <| WL.p (.pkT rfl rfl rfl) rfl <| WL.m rfl rfl <| WL.gy rfl rfl rfl rfl <| WL.m rfl rfl <| WL.gy rfl rfl rfl rfl <| WL.p (.bis (true) (.eql rfl rfl) (by simp)) rfl <| WL.p (.pkT rfl rfl rfl) rfl <| WL.z rfl rfl ?_
 refine W.ret (W.ret1 rfl rfl ?_)
 exact ⟨rfl, hB60⟩
end
section
open Go.ChangeShapes Go.WideShapes Go.ChangeAt Go.RowKit
theorem cells31 : Tryz.prog.cellsOf 31 = 6 := by kernel_rfl
theorem cells3 : Tryz.prog.cellsOf 3 = 1 := by kernel_rfl
theorem cells9 : Tryz.prog.cellsOf 9 = 1 := by kernel_rfl
theorem cells28 : Tryz.prog.cellsOf 28 = 1 := by kernel_rfl
theorem cells29 : Tryz.prog.cellsOf 29 = 1 := by kernel_rfl
theorem cells22 : Tryz.prog.cellsOf 22 = 1 := by kernel_rfl
theorem cells5 : Tryz.prog.cellsOf 5 = 1 := by kernel_rfl
/-- a sum over elements is no more than the bulk of what they read as -/
theorem bulk_sum {H : Type} {α : Type} (b : α → Nat) (l : List α) (D : Nat → DataW H) (h : ∀ i (hi : i < l.length), b l[i] ≤ Rows.uptoBulk (D i)) : (l.map b).sum ≤ Rows.uptoBulkAll ((List.range l.length).map D) := by
 have happ : ∀ a c : List (DataW H), Rows.uptoBulkAll (a ++ c) = Rows.uptoBulkAll a + Rows.uptoBulkAll c := by
  intro a c
  induction a with
  | nil => simp [Rows.uptoBulkAll]
  | cons x a ih => simp only [List.cons_append, Rows.uptoBulkAll, ih]; omega
 have key : ∀ k, k ≤ l.length → ((l.take k).map b).sum ≤ Rows.uptoBulkAll ((List.range k).map D) := by
  intro k
  induction k with
  | zero => intro _; simp [Rows.uptoBulkAll]
  | succ k ih =>
   intro hk
   have h1 := ih oO
   have h2 := h k oO
   rw [List.range_succ, List.map_append, happ, List.take_succ_eq_append_getElem oO, List.map_append, List.sum_append]
   simp only [List.map_cons, List.map_nil, List.sum_cons, List.sum_nil, Rows.uptoBulkAll]
   omega
 have := key l.length (Nat.le_refl _)
 rwa [List.take_length] at this
theorem bkK_sum : ∀ l : List (List UInt8), bkK l = (l.map fun k => k.length + 1).sum
 | [] => rfl
 | k :: r => by rw [bkK, bkK_sum r]; rfl
theorem bkL_sum : ∀ l : List AV, bkL l = (l.map bkO).sum
 | [] => by simp [bkL]
 | o :: r => by rw [bkL, bkL_sum r]; rfl
theorem sum_ones {α : Type} : ∀ l : List α, (l.map fun _ => 1).sum = l.length
 | [] => rfl
 | a :: r => by rw [List.map_cons, List.sum_cons, sum_ones r, List.length_cons]; omega
section
variable {H : Type} {enc : TypeId × Value → H} {w : World} {base : Nat} {sp : Nat → Bool} {held : Bool}
/-- a slice of strings -/
theorem open_keys {fuel : Nat} {cs : List Value} {x : DataW H × List MemPlace} (h : DataW.trod enc Tryz.prog w base sp held fuel 28 cs = some x) :
    ∃ p l c, cs = [.slice p (l : List (List UInt8)).length c] ∧ RowAt strV w p l ∧ l.length ≤ c ∧ c ≤ maxLen ∧ (∀ k ∈ l, k.length ≤ 9223372036854775807) ∧ bkK l + 1 ≤ Rows.uptoBulk x.1 := by
  rcases Go.Deep.open_slice1 underlying28 cells9 h with ⟨rfl, rfl⟩ | ⟨a, len, cap, k, n, F, D, Pl, rfl, -, hl, hm, hk, rfl, hx⟩
  · exact ⟨none, [], 0, rfl, RowAt.nil w, Nat.le_refl _, Nat.zero_le _, by simp, by simp [bkK, Rows.uptoBulk]⟩
  · have hlk : len ≤ k := by rw [hk]; split <;> omega
    obtain ⟨l, hll, hp⟩ := list_choose (fun i (o : List UInt8) => w.cell? (a.add i) = some (strV o) ∧ o.length + 1 ≤ Rows.uptoBulk (D i) ∧ o.length ≤ 9223372036854775807) len (fun i hi => by
      obtain ⟨h1, h2⟩ := hx i oO
      obtain ⟨s, e, e2, hs⟩ := DataW.trod_string underlying9 h2
      simp only [List.cons.injEq, and_true] at e
      refine ⟨s.data.toList, by rw [h1, e]; rfl, ?_, by rw [Array.length_toList]; unfold maxLen at hs; have : s.data.size = s.size := rfl; omega⟩
      rw [show D i = (D i, Pl i).1 from rfl, e2]
      simp [Rows.uptoBulk])
    subst hll
    refine ⟨some a, l, cap, rfl, ⟨fun _ => rfl, fun j hj => (hp j hj).1⟩, by omega, hm, fun k hk => by obtain ⟨i, hi, rfl⟩ := List.getElem_of_mem hk; exact (hp i hi).2.2, ?_⟩
    have := bulk_sum (fun k : List UInt8 => k.length + 1) l D (fun i hi => (hp i hi).2.1)
    rw [← bkK_sum] at this
    simp only [Rows.uptoBulk]; omega
/-- a slice of bytes -/
theorem open_data {fuel : Nat} {cs : List Value} {x : DataW H × List MemPlace} (h : DataW.trod enc Tryz.prog w base sp held fuel 22 cs = some x) :
    ∃ p l c, cs = [.slice p (l : List UInt8).length c] ∧ BytesAt w p l ∧ l.length ≤ c ∧ c ≤ maxLen ∧ l.length + 1 ≤ Rows.uptoBulk x.1 := by
  rcases Go.Deep.open_slice1 underlying22 cells5 h with ⟨rfl, rfl⟩ | ⟨a, len, cap, k, n, F, D, Pl, rfl, -, hl, hm, hk, rfl, hx⟩
  · exact ⟨none, [], 0, rfl, ⟨fun h => by simp at h, fun j h => by simp at h⟩, Nat.le_refl _, Nat.zero_le _, by simp [Rows.uptoBulk]⟩
  · have hlk : len ≤ k := by rw [hk]; split <;> omega
    obtain ⟨l, hll, hp⟩ := list_choose (fun i (o : UInt8) => w.cell? (a.add i) = some (.int .u8 (o.toNat : Int)) ∧ 1 ≤ Rows.uptoBulk (D i)) len (fun i hi => by
      obtain ⟨h1, h2⟩ := hx i oO
      obtain ⟨b, e, e2, w⟩ := DataW.trod_int underlying5 h2
      simp only [List.cons.injEq, and_true] at e
      have hb : 0 ≤ b ∧ b ≤ 255 := by simp only [Lit.wf, Bool.and_eq_true, decide_eq_true_eq] at w; exact w
      refine ⟨b.toNat.toUInt8, ?_, ?_⟩
      · rw [h1, e]
        have : (b.toNat.toUInt8).toNat = b.toNat % 256 := by simp
        rw [this]; congr 2; omega
      · rw [show D i = (D i, Pl i).1 from rfl, e2]; simp [Rows.uptoBulk])
    subst hll
    refine ⟨some a, l, cap, rfl, ⟨fun _ => rfl, fun j hj => (hp j hj).1⟩, by omega, hm, ?_⟩
    have := bulk_sum (fun _ : UInt8 => 1) l D (fun i hi => (hp i hi).2)
    rw [sum_ones] at this
    simp only [Rows.uptoBulk]; omega
set_option maxRecDepth 100000 in
/-- objects within objects -/
theorem open_pobj : ∀ (fuel : Nat) {cs : List Value} {x : DataW H × List MemPlace}, DataW.trod enc Tryz.prog w base sp held fuel 31 cs = some x → ∃ (y : AC) (o : AV), cs = acV y ∧ ARep w (· < w.heap.size) y o ∧ bkO o ≤ Rows.uptoBulk x.1 := by
 intro fuel
 induction fuel using Nat.strongRecOn with
 | _ fuel ih =>
 intro cs x h
 obtain ⟨xs, n, hfu, rfl, hl, hlen, hf⟩ := DataW.trod_struct underlying31 h
 rw [cells31] at hl
 have hlen6 : xs.length = 6 := hlen
 match cs, hl with
 | [c0, c1, c2, c3, c4, c5], _ =>
  have g : ∀ (i : Nat) (f : Field) (c : Value), _ → Tryz.prog.cellsOf f.type = 1 → (([c0, c1, c2, c3, c4, c5] : List Value).drop f.offset).take 1 = [c] → DataW.trod enc Tryz.prog w base sp held n f.type [c] = xs[i]? := fun i f c h1 h2 h3 => by
   have := hf i f h1
   rw [h2, h3] at this
   exact this
  have f0 := (g 0 _ c0 rfl cells3 rfl).trans (List.getElem?_eq_getElem oO)
  have f1 := (g 1 _ c1 rfl cells3 rfl).trans (List.getElem?_eq_getElem oO)
  have f2 := (g 2 _ c2 rfl cells9 rfl).trans (List.getElem?_eq_getElem oO)
  have f3 := (g 3 _ c3 rfl cells28 rfl).trans (List.getElem?_eq_getElem oO)
  have f4 := (g 4 _ c4 rfl cells29 rfl).trans (List.getElem?_eq_getElem oO)
  have f5 := (g 5 _ c5 rfl cells22 rfl).trans (List.getElem?_eq_getElem oO)
  obtain ⟨a0, e0, b0, w0⟩ := DataW.trod_int underlying3 f0
  obtain ⟨a1, e1, b1, w1⟩ := DataW.trod_int underlying3 f1
  obtain ⟨a2, e2, b2, w2⟩ := DataW.trod_string underlying9 f2
  obtain ⟨p3, l3, k3, e3, r3, g3, m3, q3, b3⟩ := open_keys f3
  obtain ⟨p5, l5, k5, e5, r5, g5, m5, b5⟩ := open_data f5
  have h4 : ∃ (p : Option Addr) (ys : List AC) (os : List AV) (c : Nat), [c4] = [.slice p ys.length c] ∧ RowM acL w p ys ∧ ys.length ≤ c ∧ c ≤ maxLen ∧ AInv w (· < w.heap.size) ys os ∧ bkL os + 1 ≤ Rows.uptoBulk (xs[4]'oO).1 := by
   generalize xs[4]'oO = z at f4
   rcases DataW.trod_slice underlying29 f4 with ⟨h0, rfl⟩ | ⟨a, len, cap, elems, rest, n2, hn2, h0, rfl, -, hle, hm, hel, hx, -, -⟩
   ·
    exact ⟨none, [], [], 0, h0, RowM.nil w, Nat.le_refl _, Nat.zero_le _, ⟨rfl, fun i h => by simp at h⟩, by simp [bkL, Rows.uptoBulk]⟩
   ·
    rw [cells31] at hx
    obtain ⟨zs, hz, hp⟩ := list_choose (fun i (z : AC × AV) => (∀ q, q < 6 → w.cell? (a.add (i * 6 + q)) = (acV z.1)[q]?) ∧ ARep w (· < w.heap.size) z.1 z.2 ∧ ∃ hi : i < elems.length, bkO z.2 ≤ Rows.uptoBulk elems[i].1) len (fun i hi => by
     have h1 := hx i hi
     rw [List.getElem?_eq_getElem oO] at h1
     obtain ⟨cs, h2, h3⟩ := Option.bind_eq_some_iff.1 h1
     obtain ⟨y, o, rfl, ho, hb⟩ := ih n2 oO h3
     obtain ⟨-, -, h4⟩ := World.cells?_some h2
     exact ⟨(y, o), fun q hq => by rw [← add_add]; exact h4 q hq, ho, by omega, hb⟩)
    subst hz
    refine ⟨some a, zs.map (·.1), zs.map (·.2), cap, by rw [List.length_map]; exact h0, ⟨fun _ => rfl, fun j hj q hq => ?_⟩, by rw [List.length_map]; omega, hm, ⟨by simp, fun i h1 h2 => ?_⟩, ?_⟩
    ·
     rw [List.getElem_map]
     exact (hp j (by simpa using hj)).1 q hq
    ·
     rw [List.getElem_map, List.getElem_map]
     exact (hp i (by simpa using h1)).2.1
    ·
     have := bulk_sum bkO (zs.map (·.2)) (fun i => (elems.getD i (.nil, [])).1) (fun i hi => by
      rw [List.getElem_map]
      obtain ⟨h5, h6⟩ := (hp i (by simpa using hi)).2.2
      rw [List.getD_eq_getElem?_getD, List.getElem?_eq_getElem h5]
      exact h6)
     rw [← bkL_sum] at this
     have e : (List.range (zs.map (·.2)).length).map (fun i => (elems.getD i (.nil, [])).1) = elems.map (·.1) := by
      refine List.ext_getElem (by simp; omega) fun i h1 h2 => ?_
      simp only [List.getElem_map, List.getElem_range]
      rw [List.getD_eq_getElem?_getD, List.getElem?_eq_getElem (by simpa using h2)]
      rfl
     rw [e] at this
     simp only [Rows.uptoBulk]; omega
  obtain ⟨p4, ys, os, k4, e4, r4, g4, m4, i4, b4⟩ := h4
  simp only [List.cons.injEq, and_true] at e0 e1 e2 e3 e4 e5
  have w1' := wf64 w1
  have hs2 : a2.data.toList.length = a2.size := by rw [Array.length_toList]; rfl
  unfold maxLen at *
  refine ⟨⟨a0, a1, a2.data.toList, p3, l3.length, k3, p4, ys.length, k4, p5, l5.length, k5⟩, .mk a0 a1 a2.data.toList l3 os l5, ?_, ?_, ?_⟩
  ·
   rw [e0, e1, e2, e3, e4, e5]; rfl
  ·
   exact ARep.mk ⟨a0, a1, a2.data.toList, p3, l3.length, k3, p4, ys.length, k4, p5, l5.length, k5⟩ l3 os l5 ys ⟨w1', by show a2.data.toList.length ≤ _; omega, rfl, rfl, rfl, g3, g4, g5, by show k3 ≤ _; omega, by show k4 ≤ _; omega, by show k5 ≤ _; omega⟩ q3 r3 (fun h0 => r3.lt h0) r4 (fun h0 => r4.lt h0) r5 (fun h0 => r5.lt h0) i4.len i4.sub
  ·
   have hall : Rows.uptoBulkAll (xs.map (·.1)) = Rows.uptoBulk (xs[0]'oO).1 + Rows.uptoBulk (xs[1]'oO).1 + Rows.uptoBulk (xs[2]'oO).1 + Rows.uptoBulk (xs[3]'oO).1 + Rows.uptoBulk (xs[4]'oO).1 + Rows.uptoBulk (xs[5]'oO).1 := by
    match xs, hlen6 with
    | [x0, x1, x2, x3, x4, x5], _ => simp [Rows.uptoBulkAll]; omega
   rw [b0, b1, b2] at hall
   simp only [Rows.uptoBulk] at hall
   simp only [bkO, Rows.uptoBulk]
   omega
end
end
section
open Go.ChangeShapes Go.WideShapes Go.ChangeAt Go.RowKit
theorem own : ownKnob Tryz.prog.godebug = none := by kernel_rfl
theorem laidOut : laidOutB Tryz.prog = true := by kernel_rfl
def firstCells : Array Value := (Go.Pinned.utf8FirstZ.map fun (n : Nat) => Value.int .u8 (n : Int)).toArray
def rangeCells : Array Value := #[.int .u8 128, .int .u8 191, .int .u8 160, .int .u8 191, .int .u8 128, .int .u8 159, .int .u8 144, .int .u8 191, .int .u8 128, .int .u8 143, .int .u8 0, .int .u8 0, .int .u8 0, .int .u8 0, .int .u8 0, .int .u8 0, .int .u8 0, .int .u8 0, .int .u8 0, .int .u8 0, .int .u8 0, .int .u8 0, .int .u8 0, .int .u8 0, .int .u8 0, .int .u8 0, .int .u8 0, .int .u8 0, .int .u8 0, .int .u8 0, .int .u8 0, .int .u8 0]
def putCells (cs : Array Value) : Obj → Obj
 | .cells _ t frozen => .cells cs t frozen
 | o => o
/-- a world for a witness: the settled one, the two tables (blocks 1 and 2) holding what their initialisers lay -/
noncomputable def laidWorld (os : Os) : World :=
 { World.holding Tryz.prog os ⟨#[], #[], []⟩ with heap := ((World.holding Tryz.prog os ⟨#[], #[], []⟩).heap.modify 2 (putCells firstCells)).modify 3 (putCells rangeCells) }
end
section
open Go.ChangeShapes Go.WideShapes Go.ChangeAt Go.RowKit
open Go.ChangeMaps (open_string shut_string)
set_option maxRecDepth 100000 in
theorem contract_PlexCuts (H : Type) (enc : TypeId × Value → H) (W : World) (base : Nat) (args : Array Value) (ds gs : List (DataW H)) (before : List MemPlace)
  (hval : ∀ (j : Nat) t v, Tryz.f5.params[j]? = some t → args[j]? = some v → Value.okWide Tryz.prog W .any base t v)
  (hW : DataW.Whole enc Tryz.prog Tryz.f5.params.toList Rows.plexCutsSpec.vars false W args.toList ds gs before) (hcd : Rows.uptoBulkAll (ds ++ gs) ≤ 1048576) :
  Calls Tryz.prog 5 args W fun e W' => ∃ v, e = .returned v ∧ Rows.plexCutsSpec.post enc Tryz.prog Tryz.f5 false true false false W args v W' := by
 have hW' := hW
 obtain ⟨p, q, hA0, hV, rfl, hfz, hnd⟩ := hW
 have hA : DataW.TrodAll enc Tryz.prog W 0 (fun _ => true) true Tryz.f5.params.toList args.toList ds p := hA0
 rw [Tryz.params5] at hA hval
 obtain ⟨v0, vs0, d0, ds0, p0, q0, hargs0, rfl, rfl, h0, r0⟩ := trodAll_cons hA
 obtain ⟨v1, vs1, d1, ds1, p1, q1, hargs1, rfl, rfl, h1, r1⟩ := trodAll_cons r0
 obtain ⟨rfl, rfl, rfl⟩ := trodAll_nil r1
 obtain rfl : args = #[v0, v1] := by cases args; simp_all
 obtain ⟨rfl, rfl⟩ := trodVars_none hV
 simp only [List.append_nil, Rows.uptoBulkAll] at hcd
 obtain ⟨cs0, rfl, -⟩ := okWide_struct underlying31 (hval 0 31 v0 rfl rfl)
 have hh0 := h0
 obtain ⟨fu0, ft0⟩ := hh0
 obtain ⟨y0, o0, ec0, hr0, hb0⟩ := open_pobj fu0 ft0
 obtain rfl : cs0 = (acV y0).toArray := by rw [← ec0]; rfl
 have hb0 : bkO o0 ≤ Rows.uptoBulk d0 := hb0
 obtain ⟨s1, rfl, rfl, rfl, hm1⟩ := open_int underlying42 (hval 1 42 v1 rfl rfl) h1
 clear hA0
 simp only [List.append_nil] at hW'
 refine (law_PlexCuts y0 o0 s1 W hr0 (Nat.le_trans hb0 oO) hm1).mono fun e W' ⟨he, bel⟩ => ?_
 subst he
 exact ⟨_, rfl, _, _, _, [], _, [], hW', trodAll_mk1 (shut_bool underlying4 _), (trodAll_cons_mk (trod_keep laidOut kR kR h0 bel (fun x hx => hW'.lt x (by first | exact hx | (simp only [List.mem_append]; simp_all)))) (trodAll_cons_mk (shut_int underlying42 hm1) trodAll_mk0)), rfl, bel.frame _, fun h => by cases h⟩
theorem laid_met_PlexCuts (os : Os) : laidMet Tryz.prog Rows.plexCutsUptoRow.laid ((laidWorld os).forCall (fun _ _ => 0) ⟨#[], #[.agg #[.int .i64 0, .int .i64 0, .string .empty, .slice none 0 0, .slice none 0 0, .slice none 0 0], .int .u16 0], []⟩).memory :=
 laidMet_of_run' 8 kR kR
theorem reads_PlexCuts (os : Os) {H : Type} (enc : TypeId × Value → H) : ∃ places, DataW.whole enc Tryz.prog ((laidWorld os).forCall (fun _ _ => 0) ⟨#[], #[.agg #[.int .i64 0, .int .i64 0, .string .empty, .slice none 0 0, .slice none 0 0, .slice none 0 0], .int .u16 0], []⟩).memory Tryz.f5.params.toList Rows.plexCutsSpec.vars false #[Value.agg #[.int .i64 0, .int .i64 0, .string .empty, .slice none 0 0, .slice none 0 0, .slice none 0 0], .int .u16 0].toList 8 = some ([.agg [.lit (.int .i64 0), .lit (.int .i64 0), .lit (.string []), .nil, .nil, .nil], .lit (.int .u16 0)], [], places) :=
 ⟨[], by kernel_rfl⟩
set_option maxRecDepth 100000 in
theorem lifted_PlexCuts (os : Os) (started : os.Started) (H : Type) (enc : TypeId × Value → H) (F : Stop.Interp) :
    ReturnsInHanded {} Tryz.checked os 5 .any ((Rows.OpenSpec.upto Rows.plexCutsSpec).preRow enc Tryz.prog Tryz.f5 Rows.plexCutsUptoRow.domain false Rows.plexCutsUptoRow.laid) (((Rows.OpenSpec.upto Rows.plexCutsSpec).at F).post enc Tryz.prog Tryz.f5 false true false false) := by
  obtain ⟨places, hx⟩ := reads_PlexCuts os enc
  refine returnsInHanded_of_row (C := Tryz.checked) (s := Rows.OpenSpec.upto Rows.plexCutsSpec) own started kR func5
    (witness_row_at (enc := enc) (C := Tryz.checked) false (laidWorld os) #[.agg #[.int .i64 0, .int .i64 0, .string .empty, .slice none 0 0, .slice none 0 0, .slice none 0 0], .int .u16 0] rfl kR kR kR
      (OpenSpec.preRow_of_cond 8 hx kR (fun k hk => by cases hk; rfl) kR (laid_met_PlexCuts os))) ?_
  intro W base args ds gs before hval hW _ hcd _ hL _ _
  exact contract_PlexCuts H enc W base args ds gs before hval hW (dT (hcd _ rfl))
theorem said_PlexCuts : Rows.PlexCutsUptoSaid :=
  OpenClaim.holds_of_cond 5 Tryz.f5 rfl rfl rfl rfl rfl rfl rfl ⟨rfl, rfl, rfl, rfl, rfl⟩ rfl rfl rfl rfl rfl kR func5 kR
    (dT kR) (by unfold Func.isWrapper; first | (rw [if_pos (by decide +kernel)]; kernel_rfl) | (rw [if_neg (by decide +kernel)]; exact ⟨rfl, rfl⟩))
    (fun os started H enc _ F => by rw [OpenClaim.pre_eq_preRow]; exact lifted_PlexCuts os started H enc F)
theorem plain_PlexCuts (f : FuncId) (fn : Func) (hf : Tryz.pinned.checked.prog.funcNamed "mezzotint/mezzotintlaw19.PlexCuts" = some f) (hfn : Tryz.pinned.checked.prog.funcs[f]? = some fn) :
  true = Tryz.pinned.checked.prog.looks [] ∧ ∀ (j : Nat) t, fn.params[j]? = some t → Tryz.pinned.checked.prog.wantsStandIn t = false := by
 obtain rfl : f = 5 := Option.some.inj ((show Tryz.prog.funcNamed "mezzotint/mezzotintlaw19.PlexCuts" = some 5 by kernel_rfl).symm.trans hf) |>.symm
 obtain rfl : fn = Tryz.f5 := (Option.some.inj (func5.symm.trans hfn)).symm
 refine ⟨by kernel_rfl, fun j t ht => ?_⟩
 rw [Tryz.params5] at ht
 have hmem := Array.mem_of_getElem? ht
 simp only [List.mem_toArray, List.mem_cons, List.not_mem_nil, or_false] at hmem
 rcases hmem with rfl | rfl
 ·
  exact (show Tryz.prog.wantsStandIn 31 = false by kernel_rfl)
 ·
  exact (show Tryz.prog.wantsStandIn 42 = false by kernel_rfl)
/-- THE CARD -/
theorem PlexCuts_holds : Rows.PlexCutsUptoCardSaid :=
 Claim7.holds_tied_plain_at .later [] _ _ _ _ said_PlexCuts (fun _ h => by cases h) kR (fun _ h => by cases h) plexCutsUpto_row_tie rfl ⟨rfl, rfl⟩ kR rfl plain_PlexCuts kR
#print axioms PlexCuts_holds
end
end Go.Proofs.YtjghbcjnplcleaaGreatDoor
