/-
  What the claim leans on, part 5: pruned and joined by my own tool out of the texts that stand in wip/ as templates.
-/
import Derived.Test.YtjghbcjnplcleaaGreatDoorPc4
namespace Go.Proofs.YtjghbcjnplcleaaGreatDoor
open Go.RowKit
open Go.Proofs.Tryz
section
def resOf (o : PV) (t : Nat) (e : Int) : ObjE := if e = 0 then .ok (o, t) else .error e
/-- what the document's reading of an object leaves -/
def RObj (w : World) (r : Nat) (p : Option Addr) (l : List UInt8) (c : Nat) (refs : Bool) (res : ObjE) (v : Value) (w' : World) : Prop :=
 ∃ (x : PC) (o : PV) (t : Nat) (e : Int), v = .agg (pcV x).toArray ∧ PRep w' (fun k => w.heap.size ≤ k) x o ∧ RRd w' r p l c t refs e ∧ Touch w.heap.size r w w' ∧ res = resOf o t e ∧ t ≤ l.length
def RObjC (p : Option Addr) (l : List UInt8) (c : Nat) (refs : Bool) (D : Int) : Prop :=
 ∀ (r t : Nat) (w : World), RRd w r p l c t refs 0 → (0 < l.length → (pA p).block ≠ r) → t < l.length → skipAt false l t = t →
  Calls Tryz.prog 46 #[.pointer (some ⟨r, 0, none⟩), .int .i64 D] w fun e w' => ∃ v, e = .returned v ∧ RObj w r p l c refs (objP refs l D.toNat t) v w'
theorem r18_list (p : Option Addr) (l : List UInt8) (c : Nat) (refs : Bool) (D : Int) (hO : RObjC p l c refs D) (hadv : ∀ t o t', t < l.length → objP refs l D.toNat t = .ok (o, t') → t < t' ∧ t' ≤ l.length) (r t : Nat) (w : World) (h : RRd w r p l c t refs 0) (hne : 0 < l.length → (pA p).block ≠ r) (hl : l.length ≤ 100000000) (ht : t ≤ l.length) :
  Calls Tryz.prog 76 #[.pointer (some ⟨r, 0, none⟩), .int .i64 D] w fun e w' => ∃ v, e = .returned v ∧ RObj w r p l c refs (listO (listP (objP refs l D.toNat) l (l.length + 1) [] t)) v w' := by
 have hr := h.1
 have hb := h.2
 have hbl : 0 < l.length → (pA p).block < w.heap.size := fun h0 => hb.lt h0
 obtain ⟨R, hR⟩ : ∃ R, R = listP (objP refs l D.toNat) l (l.length + 1) [] t := ⟨_, rfl⟩
 rw [← hR]
 obtain ⟨t0, ht0⟩ : ∃ t0, t0 = t := ⟨t, rfl⟩
 subst ht0
 refine W.enter func76 rfl ntmps76 (Nat.le_of_ble_eq_true rfl) ?_
 have hB0 := Touch.refl (w.heap.size) r w
 refine W.seq ?_
 have hrw : r < w.heap.size := hr.lt
 refine W.reg <| WL.alloc zeroValue31 rfl (fun b1 wb1 eb1 hkb1 hub1 hsb1 => ?_)
 have hl3 : r < b1 := by rw [eb1]; exact hr.lt
 have hk2 := hr.upd hub1 (Nat.ne_of_lt hl3)
 have hvl5 := fun h0 => eb1 ▸ hb.lt h0
 have hv4 := bup hb hub1 hvl5
 have hgeb1 : w.heap.size ≤ b1 := by rw [eb1]; exact hB0.size
 have hB6 := Touch.trans hB0 (Touch.of_new hub1 hgeb1)
 refine WL.nil <| ?_
 refine W.sr <| WL.p (.buildL (ps := _) blt31 rfl rfl rfl pS) rfl ?_
 refine WL.alloc zeroValue31 rfl (fun b7 wb7 eb7 hkb7 hub7 hsb7 => ?_)
 have hl9 : r < b7 := by rw [eb7]; exact hk2.lt
 have hk8 := hk2.upd hub7 (Nat.ne_of_lt hl9)
 have hl11 : b1 < b7 := by rw [eb7]; exact hkb1.lt
 have hk10 := hkb1.upd hub7 (Nat.ne_of_lt hl11)
 have hvl13 := fun h0 => eb7 ▸ hv4.lt h0
 have hv12 := bup hv4 hub7 hvl13
 have hgeb7 : w.heap.size ≤ b7 := by rw [eb7]; exact hB6.size
 have hB14 := Touch.trans hB6 (Touch.of_new hub7 hgeb7)
 refine WL.stL rfl rfl hkb7 isz31 rfl rfl (fun w15 hkw15 huw15 hsw15 => ?_)
 have hk16 := hk8.up huw15
 have hk17 := hk10.up huw15
 have hv18 := bup hv12 huw15 hvl13
 have hB19 := Touch.trans hB14 (Touch.of_new huw15 oO)
 refine WL.nil <| ?_
 refine W.seq <| W.block ?_
 have hpB : 0 < l.length → (pA p).block < b7 + 1 := fun h0 => by have := hbl h0; omega
 have hrb : r < b7 := by omega
 refine W.loop (α := Value × List PC × List PV × Nat × Nat × Int) (fun t => [(0, .pointer (some ⟨r, 0, none⟩)), (1, .int .i64 D), (4, .pointer (some ⟨b1, 0, none⟩)), (5, .pointer (some ⟨b7, 0, none⟩))]) (fun t w' => RRd w' r p l c t.2.2.2.1 refs t.2.2.2.2.2 ∧ Touch w.heap.size r w w' ∧ Blk w' b1 (pobj 0 0 []).toArray 31 ∧ Blk w' b7 #[.int .i64 6, .int .i64 0, .string ⟨#[]⟩, .slice none 0 0, t.1, .slice none 0 0] 31 ∧ OwnM pcL 31 (b7 + 1) w' t.1 t.2.1 ∧ LInv w' (fun k => b7 < k ∧ t.1.ownBlock ≠ some k) t.2.1 t.2.2.1 ∧ (t.2.2.2.2.2 = 0 → listP (objP refs l D.toNat) l t.2.2.2.2.1 t.2.2.1 t.2.2.2.1 = R ∧ l.length < t.2.2.2.2.1 + t.2.2.2.1 ∧ t.2.2.1.length ≤ 65535) ∧ (t.2.2.2.2.2 ≠ 0 → R = .error t.2.2.2.2.2) ∧ t.2.2.2.1 ≤ l.length) (fun t => t.2.2.2.2.1) ((.slice none 0 0, [], [], t0, l.length + 1, 0)) ⟨rfl, rfl, rfl, rfl, trivial⟩ (⟨⟨hk16, hv18⟩, hB19, hk17, hkw15, OwnM.nil _ _ _ _, LInv.nil _ _, fun _ => ⟨hR.symm, by ((try simp only) <;> omega), by simp⟩, fun h => absurd rfl h, ht⟩) (fun t w1 hR => ?_)
 obtain ⟨v, cs, acc, t, f, er⟩ := t
 obtain ⟨hrd, hT, hk1, hk2, hown, hsub, hok, hbad, htl⟩ := hR
 simp only at hrd hk2 hown hsub hok hbad htl ⊢
 have hsge := skipAt_ge l t htl
 have hcl := hsub.len
 obtain ⟨pl, cl, rfl, -⟩ := hown.row
 refine W.seq <| W.sr <| WL.m rfl rfl <| WL.p (.nck rfl) rfl <| WL.p (.fa underlying69 rfl sizeOf35 dD rfl) rfl <| WL.r (Rd.ld (isAgg35 _) rfl hrd.1 rfl) rfl <| WL.p (.eql rfl rfl) rfl <| WL.nil <| ?_
 refine W.cond rfl (fun h20 => ?_) (fun h20 => ?_)
 have h20' := dT h20
 obtain rfl : er = 0 := by omega
 obtain ⟨hw, hft, hal⟩ := hok rfl
 have hst := listP_step (obj := objP refs l D.toNat) (l := l) (acc := acc) (t := t) (f := f) oO
 obtain ⟨s, hs⟩ : ∃ s, s = skipAt false l t := ⟨_, rfl⟩
 have hss : skipAt false l s = s := by rw [hs]; exact skipAt_idem l t
 have hSk : ∀ w1, RRd w1 r p l c t refs 0 → Calls Tryz.prog 112 #[.pointer (some ⟨r, 0, none⟩)] w1 fun e' w' => e' = .returned (.bool (decide (s < l.length))) ∧ RRd w' r p l c s refs (if s < l.length then 0 else 24) ∧ Touch w1.heap.size r w1 w' := fun w1 h1 => by rw [hs]; exact r18_skip r p l c t refs w1 h1 hne hl htl
 have hsle : s ≤ l.length := by rw [hs]; exact skipAt_le _ _ _
 rw [← hs] at hst hsge
 refine W.skip <| W.block <| W.seq <| W.sr <| WL.m rfl rfl <| WL.c1 hb112 rfl rfl ((hSk _ ⟨hrd.1, hrd.2⟩)) (fun w21 hw21 => ?_)
 have ho22 := OwnM.touch' hown hw21.2 oO
 have hF23 := LInv.same (w1 := w21) hsub (fun k hk hl => hw21.2.block k hl (by first | omega | (have := hk.1; omega)))
 have hk24 := hw21.1.1
 have hk25 := Blk.touch hk1 hw21.2 hk1.lt oO
 have hk26 := Blk.touch hk2 hw21.2 hk2.lt oO
 have hv27 := hw21.1.2
 have hB28 := Touch.trans hT (Touch.mono hw21.2 hT.size)
 refine WL.p (.not rfl) rfl <| WL.nil <| ?_
 refine W.cond rfl (fun h29 => ?_) (fun h29 => ?_)
 have h29' := (nT h29)
 refine W.exit <| W.sr <| WL.p (.buildL (ps := _) blt31 rfl rfl rfl pZ) rfl ?_
 refine WL.stL rfl rfl hk25 isz31 rfl rfl (fun w30 hkw30 huw30 hsw30 => ?_)
 have hk33 := hk24.up huw30
 have hv35 := bup hv27 huw30 hvl5
 have hB36 := Touch.trans hB28 (Touch.of_new huw30 oO)
 refine WL.nil <| ?_
 refine W.ret (W.retc1 rfl rfl (ldRow hkw30 underlying31 rfl isz31)  ?_)
 exact ⟨_, rfl, pc0 0 0 [], pv0 0 0 [], s, _, rfl, PRep.zero _ _ _ _ _, ⟨hk33, hv35⟩, hB36, by
  have hns : ¬ s < l.length := dF (nT aS)
  rw [← hw, hst, show l[s]? = none from List.getElem?_eq_none oO, if_neg hns]; rfl, hsle⟩
 have h29' := (nF h29)
 refine W.skip <| W.seq ?_
 have hsl : s < l.length := dT (nF aS)
 have hk0 := hk24
 rw [if_pos hsl] at hk0
 have hgs : l[s]? = some l[s] := List.getElem?_eq_getElem hsl
 rw [hgs] at hst
 refine W.cut (α := Unit) (fun _ => [(0, .pointer (some ⟨r, 0, none⟩)), (1, .int .i64 D), (4, .pointer (some ⟨b1, 0, none⟩)), (5, .pointer (some ⟨b7, 0, none⟩)), (25, .bool (decide (((l[s]'hsl).toNat : Int) = 93)))]) (fun _ w' => Drew w21 w') ?_ (fun _ w1 hR => ?_)
 refine W.regY 11 rfl mixed (fun w37 dw37 => ?_)
 have hk40 := hk0.drew dw37
 have hv43 := hv27.drew dw37
 refine WY.tk 0 rfl (.mv rfl) rfl ?_
 refine WY.tk 1 rfl (.nck rfl) rfl ?_
 refine WY.tk 2 rfl (.fa underlying69 rfl sizeOf22 dD rfl) rfl ?_
 refine WY.tk 4 rfl (.mv rfl) rfl ?_
 refine WY.tk 5 rfl (.nck rfl) rfl ?_
 refine WY.tk 6 rfl (.fa underlying69 rfl sizeOf3 dD rfl) rfl ?_
 refine WY.br2 3 rfl 7 rfl ?_ ?_
 refine WL.r (Rd.ld (isAgg22 _) rfl hk40 rfl) rfl <| WL.nil <| ?_
 refine WY.br1 7 rfl ?_
 refine WL.r (Rd.ld (isAgg3 _) rfl hk40 rfl) rfl <| WL.nil <| ?_
 refine WY.tk 8 rfl (.ixb underlying22 sizeOf5 rfl rfl (hv43.isp oO) (s) (rfl) (hsl)) rfl ?_
 refine WY.br1 9 rfl ?_
 refine WL.r (Rd.ldc (isAgg5 _) rfl (hv43.cells (s) oO)) rfl <| WL.nil <| ?_
 refine WY.tk 10 rfl (.eql rfl rfl) rfl ?_
 refine WY.done kR ?_
 exact ⟨(), ⟨rfl, rfl, rfl, rfl, rfl, trivial⟩, dw37⟩
 refine WL.r (Rd.ld (isAgg3 _) rfl hk40 rfl) rfl <| WL.nil <| ?_
 refine WY.br1 3 rfl ?_
 refine WL.r (Rd.ld (isAgg22 _) rfl hk40 rfl) rfl <| WL.nil <| ?_
 refine WY.tk 8 rfl (.ixb underlying22 sizeOf5 rfl rfl (hv43.isp oO) (s) (rfl) (hsl)) rfl ?_
 refine WY.br1 9 rfl ?_
 refine WL.r (Rd.ldc (isAgg5 _) rfl (hv43.cells (s) oO)) rfl <| WL.nil <| ?_
 refine WY.tk 10 rfl (.eql rfl rfl) rfl ?_
 refine WY.done kR ?_
 exact ⟨(), ⟨rfl, rfl, rfl, rfl, rfl, trivial⟩, dw37⟩
 have ho45 := OwnM.drew ho22 hR
 have hF46 := LInv.same (w1 := w1) hF23 (fun k hk hl => (by obtain ⟨m, rfl⟩ := hR; rfl))
 have hk47 := hk0.drew hR
 have hk48 := hk25.drew hR
 have hk49 := hk26.drew hR
 have hv50 := hv27.drew hR
 have hB51 := Touch.trans hB28 (Touch.of_drew hR)
 refine W.cond rfl (fun h52 => ?_) (fun h52 => ?_)
 have h52' := dT h52
 refine W.sr <| WL.m rfl rfl <| WL.p (.nck rfl) rfl <| WL.p (.fa underlying69 rfl sizeOf3 dD rfl) rfl <| WL.r (Rd.ld (isAgg3 _) rfl hk47 rfl) rfl <| WL.p (.iis (((s + 1 : Nat) : Int)) (.add rfl rfl (i64w oO)) oO) rfl <| WL.p (.nck rfl) rfl <| WL.p (.fa underlying69 rfl sizeOf3 dD rfl) rfl <| WL.st sizeOf3 rfl rfl rfl hk47 oD (fun w53 hkw53 huw53 hsw53 => ?_)
 have hkw53 : Blk w53 r _ _ := hkw53
 have huw53 : Upd r _ _ := huw53
 have ho54 := OwnM.touch ho45 huw53 oM
 have hF55 := LInv.same (w1 := w53) hF46 (fun k hk hl => huw53.other k (by first | ((try simp only) <;> omega) | (have := hk.1; ((try simp only) <;> omega))))
 have hk56 := hk48.up huw53
 have hk57 := hk49.up huw53
 have hv58 := BytesAt.upd hv50 huw53 hne
 have hB59 := Touch.trans hB51 (Touch.of_upd huw53)
 refine WL.nil <| ?_
 refine W.sr <| WL.r (Rd.ldA rfl hk57 underlying31 rfl isz31) rfl <| WL.stL rfl rfl hk56 isz31 rfl rfl (fun w60 hkw60 huw60 hsw60 => ?_)
 have ho61 := OwnM.touch ho54 huw60 oM
 have hF62 := LInv.same (w1 := w60) hF55 (fun k hk hl => huw60.other k (by first | ((try simp only) <;> omega) | (have := hk.1; ((try simp only) <;> omega))))
 have hk63 := hkw53.up huw60
 have hv65 := bup hv58 huw60 hvl5
 have hB66 := Touch.trans hB59 (Touch.of_new huw60 oO)
 refine WL.nil <| ?_
 refine W.ret (W.retc1 rfl rfl (ldRow hkw60 underlying31 rfl isz31)  ?_)
 exact ⟨_, rfl, ⟨6, 0, [], none, 0, 0, pl, cs.length, cl⟩, .mk 6 0 [] [] acc, s + 1, 0, rfl, PRep.ofRow ⟨OwnM.nil _ _ _ _, fun g h => by cases h⟩ ⟨(ho61).base (fun g hg => Nat.zero_le _), fun g hg => by have := (ho61).lt g hg; omega⟩ ((hF62).mono (fun k hk _ => by have := hk.1; omega)), ⟨hk63, hv65⟩, hB66, by rw [← hw, hst]; simp only []; rw [if_pos (u8_eq (d := 93) aS)]; rfl, by omega⟩
 have h52' := dF h52
 refine W.skip <| W.seq <| W.sr <| WL.p (.fa underlying31 rfl sizeOf29 dD rfl) rfl <| WL.r (Rd.ld (isAgg29 _) rfl hk49 rfl) rfl <| WL.p (.lenS underlying29 rfl) rfl <| WL.p (.geq rfl rfl) rfl <| WL.nil <| ?_
 refine W.cond rfl (fun h67 => ?_) (fun h67 => ?_)
 have h67' := dT h67
 refine W.sr <| WL.m rfl rfl <| WL.c1 hb74 rfl rfl ((r18_fail r p l c s refs 0 25 _ ⟨hk47, hv50⟩ hne)) (fun w68 hw68 => ?_)
 have hk71 := hw68.1.1
 have hk72 := Blk.touch hk48 hw68.2 hk48.lt oO
 have hv74 := hw68.1.2
 have hB75 := Touch.trans hB51 (Touch.mono hw68.2 hB51.size)
 refine WL.stL rfl rfl hk72 isz31 rfl rfl (fun w76 hkw76 huw76 hsw76 => ?_)
 have hk79 := hk71.up huw76
 have hv81 := bup hv74 huw76 hvl5
 have hB82 := Touch.trans hB75 (Touch.of_new huw76 oO)
 refine WL.nil <| ?_
 refine W.ret (W.retc1 rfl rfl (ldRow hkw76 underlying31 rfl isz31)  ?_)
 exact ⟨_, rfl, pc0 0 0 [], pv0 0 0 [], s, 25, rfl, PRep.zero _ _ _ _ _, ⟨hk79, hv81⟩, hB82, by rw [← hw, hst]; simp only []; rw [if_neg (u8_ne (d := 93) aS), if_pos oO]; rfl, hsle⟩
 have h67' := dF h67
 refine W.skip <| W.regY 9 rfl mixed (fun w83 dw83 => ?_)
 have ho84 := OwnM.drew ho45 dw83
 have hF85 := LInv.same (w1 := w83) hF46 (fun k hk hl => (by obtain ⟨m, rfl⟩ := dw83; rfl))
 have hk86 := hk47.drew dw83
 have hk87 := hk48.drew dw83
 have hk88 := hk49.drew dw83
 have hv89 := hv50.drew dw83
 have hB90 := Touch.trans hB51 (Touch.of_drew dw83)
 refine WY.tk 0 rfl (.fa underlying31 rfl sizeOf29 dD rfl) rfl ?_
 refine WY.tk 2 rfl (.mv rfl) rfl ?_
 refine WY.tk 3 rfl (.mv rfl) rfl ?_
 refine WY.br2 1 rfl 4 rfl ?_ ?_
 refine WL.r (Rd.ld (isAgg29 _) rfl hk88 rfl) rfl <| WL.nil <| ?_
 refine WY.br1 4 rfl ?_
 refine WL.call hb46 rfl rfl ((hO r s _ ⟨hk86, hv89⟩ hne hsl hss)) (fun xv w91 hw91 => ?_)
 obtain ⟨x1, oX, tX, eX, rfl, hpx, hrd1, hT1, hres, htX⟩ := hw91
 have ho1 := OwnM.touch' ho84 hT1 oO
 have hsub1 := LInv.same hF85 (fun k hk hl => hT1.block k hl (by have := hk.1; omega))
 have hk11 := Blk.touch hk87 hT1 (hk87).lt oO
 have hk21 := Blk.touch hk88 hT1 (hk88).lt oO
 have hB1 := Touch.trans hB90 (Touch.mono hT1 hB90.size)
 have hpx1 := hpx.mono (T := fun k => b7 < k ∧ (Value.slice pl cs.length cl).ownBlock ≠ some k) (fun k hk _ => ⟨by have := (hk88).lt; omega, fun e => by have := ((ho84).lt k e).2; omega⟩)
 have hsub2 := hsub1.push hpx1
 have hr1 := hrd1.1
 have hv1 := hrd1.2
 refine WL.nil <| ?_
 refine WY.br1 5 rfl ?_
 refine WL.bslM (L := pcL) (ps := _) ([x1]) underlying29 sizeOf31 zeroValue31 rfl rfl rfl rfl rfl (by first | rfl | decide) rfl rfl (fun b92 wb92 eb92 hob92 hub92 hsb92 => ?_)
 have ho93 := OwnM.new ho1 eb92 hub92
 have hF94 := LInv.same (w1 := wb92) hsub2 (fun k hk hl => hub92.other k oO)
 have hl96 : r < b92 := by rw [eb92]; exact hr1.lt
 have hk95 := hr1.upd hub92 (Nat.ne_of_lt hl96)
 have hl98 : b1 < b92 := by rw [eb92]; exact hk11.lt
 have hk97 := hk11.upd hub92 (Nat.ne_of_lt hl98)
 have hl100 : b7 < b92 := by rw [eb92]; exact hk21.lt
 have hk99 := hk21.upd hub92 (Nat.ne_of_lt hl100)
 have hvl102 := fun h0 => eb92 ▸ hv1.lt h0
 have hv101 := bup hv1 hub92 hvl102
 have hgeb92 : w.heap.size ≤ b92 := by rw [eb92]; exact hB1.size
 have hB103 := Touch.trans hB1 (Touch.of_new hub92 hgeb92)
 have hleb92 : b92 ≤ wb92.heap.size := by omega
 refine WL.nil <| ?_
 refine WY.br1 6 rfl ?_
 refine WL.appM underlying29 inf31 rfl rfl rfl ho93 rfl (hob92).rowp (by simp only [List.length_cons, List.length_nil]; omega) ((hk99).lt) rfl (fun h => nomatch h) (fun v104 w105 how105 hbw105 hgw105 hfw105 => ?_)
 have hk106 := hk95.below hbw105 oO
 have hk107 := hk97.below hbw105 oO
 have hk108 := hk99.below hbw105 oO
 have hF109 := LInv.grow (T := fun k => b7 < k ∧ (v104).ownBlock ≠ some k) hF94 (fun k hk hl => hgw105.block k hl (fun e => hk.2 e.symm)) (fun k hk hl => ⟨hk.1, fun e => by rcases hfw105 k e with h | h; exact hk.2 h; omega⟩)
 have hv110 := BytesAt.below hv101 hbw105 hpB
 have hB111 := Touch.trans hB103 (Touch.of_below (hbw105.mono oO))
 refine WL.nil <| ?_
 refine WY.tk 7 rfl (.fa underlying31 rfl sizeOf29 dD rfl) rfl ?_
 refine WY.br1 8 rfl ?_
 refine WL.st sizeOf29 rfl rfl (how105).one hk108 oD (fun w112 hkw112 huw112 hsw112 => ?_)
 have hkw112 : Blk w112 b7 _ _ := hkw112
 have huw112 : Upd b7 _ _ := huw112
 have ho113 := OwnM.touch how105 huw112 oM
 have hF114 := LInv.same (w1 := w112) hF109 (fun k hk hl => huw112.other k (by first | ((try simp only) <;> omega) | (have := hk.1; ((try simp only) <;> omega))))
 have hk115 := hk106.up huw112
 have hk116 := hk107.up huw112
 have hv117 := bup hv110 huw112 hvl13
 have hB118 := Touch.trans hB111 (Touch.of_new huw112 oO)
 refine WL.nil <| ?_
 refine WY.done kR ?_
 exact ⟨(_, cs ++ [x1], acc ++ [oX], tX, f - 1, eX), ⟨rfl, rfl, rfl, rfl, trivial⟩, ⟨⟨hk115, hv117⟩, hB118, hk116, hkw112, ho113, hF114, fun h0 => by
  have hob : objP refs l D.toNat s = .ok (oX, tX) := by rw [hres]; exact if_pos h0
  have had := hadv s oX tX hsl hob
  exact ⟨by rw [← hw, hst]; simp only []; rw [if_neg (u8_ne (d := 93) aS), if_neg oO, hob], by ((try simp only) <;> omega), by simp only [List.length_append, List.length_cons, List.length_nil]; omega⟩, fun h1 => by
  have hob : objP refs l D.toNat s = .error eX := by rw [hres]; exact if_neg h1
  rw [← hw, hst]; simp only []; rw [if_neg (u8_ne (d := 93) aS), if_neg oO, hob], htX⟩, by ((try simp only) <;> omega)⟩
 refine WL.call hb46 rfl rfl ((hO r s _ ⟨hk86, hv89⟩ hne hsl hss)) (fun xv w119 hw119 => ?_)
 obtain ⟨x1, oX, tX, eX, rfl, hpx, hrd1, hT1, hres, htX⟩ := hw119
 have ho1 := OwnM.touch' ho84 hT1 oO
 have hsub1 := LInv.same hF85 (fun k hk hl => hT1.block k hl (by have := hk.1; omega))
 have hk11 := Blk.touch hk87 hT1 (hk87).lt oO
 have hk21 := Blk.touch hk88 hT1 (hk88).lt oO
 have hB1 := Touch.trans hB90 (Touch.mono hT1 hB90.size)
 have hpx1 := hpx.mono (T := fun k => b7 < k ∧ (Value.slice pl cs.length cl).ownBlock ≠ some k) (fun k hk _ => ⟨by have := (hk88).lt; omega, fun e => by have := ((ho84).lt k e).2; omega⟩)
 have hsub2 := hsub1.push hpx1
 have hr1 := hrd1.1
 have hv1 := hrd1.2
 refine WL.nil <| ?_
 refine WY.br2 1 rfl 5 rfl ?_ ?_
 refine WL.r (Rd.ld (isAgg29 _) rfl hk21 rfl) rfl <| WL.nil <| ?_
 refine WY.br1 5 rfl ?_
 refine WL.bslM (L := pcL) (ps := _) ([x1]) underlying29 sizeOf31 zeroValue31 rfl rfl rfl rfl rfl (by first | rfl | decide) rfl rfl (fun b120 wb120 eb120 hob120 hub120 hsb120 => ?_)
 have ho121 := OwnM.new ho1 eb120 hub120
 have hF122 := LInv.same (w1 := wb120) hsub2 (fun k hk hl => hub120.other k oO)
 have hl124 : r < b120 := by rw [eb120]; exact hr1.lt
 have hk123 := hr1.upd hub120 (Nat.ne_of_lt hl124)
 have hl126 : b1 < b120 := by rw [eb120]; exact hk11.lt
 have hk125 := hk11.upd hub120 (Nat.ne_of_lt hl126)
 have hl128 : b7 < b120 := by rw [eb120]; exact hk21.lt
 have hk127 := hk21.upd hub120 (Nat.ne_of_lt hl128)
 have hvl130 := fun h0 => eb120 ▸ hv1.lt h0
 have hv129 := bup hv1 hub120 hvl130
 have hgeb120 : w.heap.size ≤ b120 := by rw [eb120]; exact hB1.size
 have hB131 := Touch.trans hB1 (Touch.of_new hub120 hgeb120)
 have hleb120 : b120 ≤ wb120.heap.size := by omega
 refine WL.nil <| ?_
 refine WY.br1 6 rfl ?_
 refine WL.appM underlying29 inf31 rfl rfl rfl ho121 rfl (hob120).rowp (by simp only [List.length_cons, List.length_nil]; omega) ((hk127).lt) rfl (fun h => nomatch h) (fun v132 w133 how133 hbw133 hgw133 hfw133 => ?_)
 have hk134 := hk123.below hbw133 oO
 have hk135 := hk125.below hbw133 oO
 have hk136 := hk127.below hbw133 oO
 have hF137 := LInv.grow (T := fun k => b7 < k ∧ (v132).ownBlock ≠ some k) hF122 (fun k hk hl => hgw133.block k hl (fun e => hk.2 e.symm)) (fun k hk hl => ⟨hk.1, fun e => by rcases hfw133 k e with h | h; exact hk.2 h; omega⟩)
 have hv138 := BytesAt.below hv129 hbw133 hpB
 have hB139 := Touch.trans hB131 (Touch.of_below (hbw133.mono oO))
 refine WL.nil <| ?_
 refine WY.tk 7 rfl (.fa underlying31 rfl sizeOf29 dD rfl) rfl ?_
 refine WY.br1 8 rfl ?_
 refine WL.st sizeOf29 rfl rfl (how133).one hk136 oD (fun w140 hkw140 huw140 hsw140 => ?_)
 have hkw140 : Blk w140 b7 _ _ := hkw140
 have huw140 : Upd b7 _ _ := huw140
 have ho141 := OwnM.touch how133 huw140 oM
 have hF142 := LInv.same (w1 := w140) hF137 (fun k hk hl => huw140.other k (by first | ((try simp only) <;> omega) | (have := hk.1; ((try simp only) <;> omega))))
 have hk143 := hk134.up huw140
 have hk144 := hk135.up huw140
 have hv145 := bup hv138 huw140 hvl13
 have hB146 := Touch.trans hB139 (Touch.of_new huw140 oO)
 refine WL.nil <| ?_
 refine WY.done kR ?_
 exact ⟨(_, cs ++ [x1], acc ++ [oX], tX, f - 1, eX), ⟨rfl, rfl, rfl, rfl, trivial⟩, ⟨⟨hk143, hv145⟩, hB146, hk144, hkw140, ho141, hF142, fun h0 => by
  have hob : objP refs l D.toNat s = .ok (oX, tX) := by rw [hres]; exact if_pos h0
  have had := hadv s oX tX hsl hob
  exact ⟨by rw [← hw, hst]; simp only []; rw [if_neg (u8_ne (d := 93) aS), if_neg oO, hob], by ((try simp only) <;> omega), by simp only [List.length_append, List.length_cons, List.length_nil]; omega⟩, fun h1 => by
  have hob : objP refs l D.toNat s = .error eX := by rw [hres]; exact if_neg h1
  rw [← hw, hst]; simp only []; rw [if_neg (u8_ne (d := 93) aS), if_neg oO, hob], htX⟩, by ((try simp only) <;> omega)⟩
 refine WL.bslM (L := pcL) (ps := _) ([x1]) underlying29 sizeOf31 zeroValue31 rfl rfl rfl rfl rfl (by first | rfl | decide) rfl rfl (fun b147 wb147 eb147 hob147 hub147 hsb147 => ?_)
 have ho148 := OwnM.new ho1 eb147 hub147
 have hF149 := LInv.same (w1 := wb147) hsub2 (fun k hk hl => hub147.other k oO)
 have hl151 : r < b147 := by rw [eb147]; exact hr1.lt
 have hk150 := hr1.upd hub147 (Nat.ne_of_lt hl151)
 have hl153 : b1 < b147 := by rw [eb147]; exact hk11.lt
 have hk152 := hk11.upd hub147 (Nat.ne_of_lt hl153)
 have hl155 : b7 < b147 := by rw [eb147]; exact hk21.lt
 have hk154 := hk21.upd hub147 (Nat.ne_of_lt hl155)
 have hvl157 := fun h0 => eb147 ▸ hv1.lt h0
 have hv156 := bup hv1 hub147 hvl157
 have hgeb147 : w.heap.size ≤ b147 := by rw [eb147]; exact hB1.size
 have hB158 := Touch.trans hB1 (Touch.of_new hub147 hgeb147)
 have hleb147 : b147 ≤ wb147.heap.size := by omega
 refine WL.nil <| ?_
 refine WY.br1 1 rfl ?_
 refine WL.r (Rd.ld (isAgg29 _) rfl hk154 rfl) rfl <| WL.nil <| ?_
 refine WY.br1 6 rfl ?_
 refine WL.appM underlying29 inf31 rfl rfl rfl ho148 rfl (hob147).rowp (by simp only [List.length_cons, List.length_nil]; omega) ((hk154).lt) rfl (fun h => nomatch h) (fun v159 w160 how160 hbw160 hgw160 hfw160 => ?_)
 have hk161 := hk150.below hbw160 oO
 have hk162 := hk152.below hbw160 oO
 have hk163 := hk154.below hbw160 oO
 have hF164 := LInv.grow (T := fun k => b7 < k ∧ (v159).ownBlock ≠ some k) hF149 (fun k hk hl => hgw160.block k hl (fun e => hk.2 e.symm)) (fun k hk hl => ⟨hk.1, fun e => by rcases hfw160 k e with h | h; exact hk.2 h; omega⟩)
 have hv165 := BytesAt.below hv156 hbw160 hpB
 have hB166 := Touch.trans hB158 (Touch.of_below (hbw160.mono oO))
 refine WL.nil <| ?_
 refine WY.tk 7 rfl (.fa underlying31 rfl sizeOf29 dD rfl) rfl ?_
 refine WY.br1 8 rfl ?_
 refine WL.st sizeOf29 rfl rfl (how160).one hk163 oD (fun w167 hkw167 huw167 hsw167 => ?_)
 have hkw167 : Blk w167 b7 _ _ := hkw167
 have huw167 : Upd b7 _ _ := huw167
 have ho168 := OwnM.touch how160 huw167 oM
 have hF169 := LInv.same (w1 := w167) hF164 (fun k hk hl => huw167.other k (by first | ((try simp only) <;> omega) | (have := hk.1; ((try simp only) <;> omega))))
 have hk170 := hk161.up huw167
 have hk171 := hk162.up huw167
 have hv172 := bup hv165 huw167 hvl13
 have hB173 := Touch.trans hB166 (Touch.of_new huw167 oO)
 refine WL.nil <| ?_
 refine WY.done kR ?_
 exact ⟨(_, cs ++ [x1], acc ++ [oX], tX, f - 1, eX), ⟨rfl, rfl, rfl, rfl, trivial⟩, ⟨⟨hk170, hv172⟩, hB173, hk171, hkw167, ho168, hF169, fun h0 => by
  have hob : objP refs l D.toNat s = .ok (oX, tX) := by rw [hres]; exact if_pos h0
  have had := hadv s oX tX hsl hob
  exact ⟨by rw [← hw, hst]; simp only []; rw [if_neg (u8_ne (d := 93) aS), if_neg oO, hob], by ((try simp only) <;> omega), by simp only [List.length_append, List.length_cons, List.length_nil]; omega⟩, fun h1 => by
  have hob : objP refs l D.toNat s = .error eX := by rw [hres]; exact if_neg h1
  rw [← hw, hst]; simp only []; rw [if_neg (u8_ne (d := 93) aS), if_neg oO, hob], htX⟩, by ((try simp only) <;> omega)⟩
 have h20' := dF h20
 refine W.exit <| W.sr <| WL.p (.buildL (ps := _) blt31 rfl rfl rfl pZ) rfl ?_
 refine WL.stL rfl rfl hk1 isz31 rfl rfl (fun w174 hkw174 huw174 hsw174 => ?_)
 have hk177 := hrd.1.upd huw174 oM
 have hv179 := BytesAt.upd hrd.2 huw174 (fun h0 => Nat.ne_of_lt (hvl5 h0))
 have hB180 := Touch.trans hT (Touch.of_new huw174 oO)
 refine WL.nil <| ?_
 refine W.ret (W.retc1 rfl rfl (ldRow hkw174 underlying31 rfl isz31)  ?_)
 exact ⟨_, rfl, pc0 0 0 [], pv0 0 0 [], t, er, rfl, PRep.zero _ _ _ _ _, ⟨hk177, hv179⟩, hB180, by
  have h0 : er ≠ 0 := by assumption
  rw [hbad h0]; exact (if_neg h0).symm, htl⟩
end
section
theorem nameD_le {l : List UInt8} {t : Nat} (ht : t ≤ l.length) : t ≤ (nameD l t).2.1 ∧ (nameD l t).2.1 ≤ l.length := by
 have h := wordAt_le l t ht
 unfold nameD
 cases decN (wordL l t) with
 | none => exact ⟨Nat.le_refl _, ht⟩
 | some out => exact h
theorem r18_pairs (p : Option Addr) (l : List UInt8) (c : Nat) (refs : Bool) (D : Int) (hO : RObjC p l c refs D) (hadv : ∀ t o t', t < l.length → objP refs l D.toNat t = .ok (o, t') → t < t' ∧ t' ≤ l.length) (r t : Nat) (w : World) (h : RRd w r p l c t refs 0) (hne : 0 < l.length → (pA p).block ≠ r) (hc : l.length ≤ c) (hl : l.length ≤ 100000000) (ht : t ≤ l.length) :
  Calls Tryz.prog 75 #[.pointer (some ⟨r, 0, none⟩), .int .i64 D] w fun e w' => ∃ v, e = .returned v ∧ RObj w r p l c refs (pairsO (pairsP (objP refs l D.toNat) l (l.length + 1) [] [] t)) v w' := by
 have hr := h.1
 have hb := h.2
 have hbl : 0 < l.length → (pA p).block < w.heap.size := fun h0 => hb.lt h0
 obtain ⟨R, hR⟩ : ∃ R, R = pairsP (objP refs l D.toNat) l (l.length + 1) [] [] t := ⟨_, rfl⟩
 rw [← hR]
 obtain ⟨t0, ht0⟩ : ∃ t0, t0 = t := ⟨t, rfl⟩
 subst ht0
 refine W.enter func75 rfl ntmps75 (Nat.le_of_ble_eq_true rfl) ?_
 have hB0 := Touch.refl (w.heap.size) r w
 refine W.seq ?_
 have hrw : r < w.heap.size := hr.lt
 refine W.reg <| WL.alloc zeroValue31 rfl (fun b1 wb1 eb1 hkb1 hub1 hsb1 => ?_)
 have hl3 : r < b1 := by rw [eb1]; exact hr.lt
 have hk2 := hr.upd hub1 (Nat.ne_of_lt hl3)
 have hvl5 := fun h0 => eb1 ▸ hb.lt h0
 have hv4 := bup hb hub1 hvl5
 have hgeb1 : w.heap.size ≤ b1 := by rw [eb1]; exact hB0.size
 have hB6 := Touch.trans hB0 (Touch.of_new hub1 hgeb1)
 refine WL.nil <| ?_
 refine W.sr <| WL.p (.buildL (ps := _) blt31 rfl rfl rfl pS) rfl ?_
 refine WL.alloc zeroValue31 rfl (fun b7 wb7 eb7 hkb7 hub7 hsb7 => ?_)
 have hl9 : r < b7 := by rw [eb7]; exact hk2.lt
 have hk8 := hk2.upd hub7 (Nat.ne_of_lt hl9)
 have hl11 : b1 < b7 := by rw [eb7]; exact hkb1.lt
 have hk10 := hkb1.upd hub7 (Nat.ne_of_lt hl11)
 have hvl13 := fun h0 => eb7 ▸ hv4.lt h0
 have hv12 := bup hv4 hub7 hvl13
 have hgeb7 : w.heap.size ≤ b7 := by rw [eb7]; exact hB6.size
 have hB14 := Touch.trans hB6 (Touch.of_new hub7 hgeb7)
 refine WL.stL rfl rfl hkb7 isz31 rfl rfl (fun w15 hkw15 huw15 hsw15 => ?_)
 have hk16 := hk8.up huw15
 have hk17 := hk10.up huw15
 have hv18 := bup hv12 huw15 hvl13
 have hB19 := Touch.trans hB14 (Touch.of_new huw15 oO)
 refine WL.nil <| ?_
 refine W.seq <| W.block ?_
 have hpB : 0 < l.length → (pA p).block < b7 + 1 := fun h0 => by have := hbl h0; omega
 have hrb : r < b7 := by omega
 refine W.loop (α := Value × Value × List (List UInt8) × List PC × List PV × Nat × Nat × Int) (fun t => [(0, .pointer (some ⟨r, 0, none⟩)), (1, .int .i64 D), (4, .pointer (some ⟨b1, 0, none⟩)), (5, .pointer (some ⟨b7, 0, none⟩))]) (fun t w' => RRd w' r p l c t.2.2.2.2.2.1 refs t.2.2.2.2.2.2.2 ∧ Touch w.heap.size r w w' ∧ Blk w' b1 (pobj 0 0 []).toArray 31 ∧ Blk w' b7 #[.int .i64 7, .int .i64 0, .string ⟨#[]⟩, t.1, t.2.1, .slice none 0 0] 31 ∧ OwnM strL 9 (b7 + 1) w' t.1 t.2.2.1 ∧ OwnM pcL 31 (b7 + 1) w' t.2.1 t.2.2.2.1 ∧ (∀ g, t.1.ownBlock = some g → t.2.1.ownBlock ≠ some g) ∧ LInv w' (fun k => b7 < k ∧ t.1.ownBlock ≠ some k ∧ t.2.1.ownBlock ≠ some k) t.2.2.2.1 t.2.2.2.2.1 ∧ (t.2.2.2.2.2.2.2 = 0 → pairsP (objP refs l D.toNat) l t.2.2.2.2.2.2.1 t.2.2.1 t.2.2.2.2.1 t.2.2.2.2.2.1 = R ∧ l.length < t.2.2.2.2.2.2.1 + t.2.2.2.2.2.1 ∧ t.2.2.2.2.1.length ≤ 65535 ∧ t.2.2.1.length = t.2.2.2.2.1.length) ∧ (t.2.2.2.2.2.2.2 ≠ 0 → R = .error t.2.2.2.2.2.2.2) ∧ t.2.2.2.2.2.1 ≤ l.length) (fun t => t.2.2.2.2.2.2.1) ((.slice none 0 0, .slice none 0 0, [], [], [], t0, l.length + 1, 0)) ⟨rfl, rfl, rfl, rfl, trivial⟩ (⟨⟨hk16, hv18⟩, hB19, hk17, hkw15, OwnM.nil _ _ _ _, OwnM.nil _ _ _ _, fun g h => (by cases h), LInv.nil _ _, fun _ => ⟨hR.symm, by ((try simp only) <;> omega), Nat.zero_le _, rfl⟩, fun h => absurd rfl h, ht⟩) (fun t w1 hR => ?_)
 obtain ⟨kv, v, ks, cs, acc, t, f, er⟩ := t
 obtain ⟨hrd, hT, hk1, hk2, hkeys, hown, hsep, hsub, hok, hbad, htl⟩ := hR
 simp only at hrd hk2 hkeys hown hsep hsub hok hbad htl ⊢
 have hsge := skipAt_ge l t htl
 have hcl := hsub.len
 obtain ⟨pl, cl, rfl, -⟩ := hown.row
 obtain ⟨pk, ck, rfl, -⟩ := hkeys.row
 refine W.seq <| W.sr <| WL.m rfl rfl <| WL.p (.nck rfl) rfl <| WL.p (.fa underlying69 rfl sizeOf35 dD rfl) rfl <| WL.r (Rd.ld (isAgg35 _) rfl hrd.1 rfl) rfl <| WL.p (.eql rfl rfl) rfl <| WL.nil <| ?_
 refine W.cond rfl (fun h20 => ?_) (fun h20 => ?_)
 have h20' := dT h20
 obtain rfl : er = 0 := by omega
 obtain ⟨hw, hft, hal, hkl⟩ := hok rfl
 have hst := pairsP_step (obj := objP refs l D.toNat) (l := l) (ks := ks) (os := acc) (t := t) (f := f) oO
 obtain ⟨s, hs⟩ : ∃ s, s = skipAt false l t := ⟨_, rfl⟩
 have hSk : ∀ w1, RRd w1 r p l c t refs 0 → Calls Tryz.prog 112 #[.pointer (some ⟨r, 0, none⟩)] w1 fun e' w' => e' = .returned (.bool (decide (s < l.length))) ∧ RRd w' r p l c s refs (if s < l.length then 0 else 24) ∧ Touch w1.heap.size r w1 w' := fun w1 h1 => by rw [hs]; exact r18_skip r p l c t refs w1 h1 hne hl htl
 have hsle : s ≤ l.length := by rw [hs]; exact skipAt_le _ _ _
 rw [← hs] at hst hsge
 refine W.skip <| W.block <| W.seq <| W.sr <| WL.m rfl rfl <| WL.c1 hb112 rfl rfl ((hSk _ ⟨hrd.1, hrd.2⟩)) (fun w21 hw21 => ?_)
 have ho22 := OwnM.touch' hkeys hw21.2 oO
 have ho23 := OwnM.touch' hown hw21.2 oO
 have hF24 := LInv.same (w1 := w21) hsub (fun k hk hl => hw21.2.block k hl (by first | omega | (have := hk.1; omega)))
 have hk25 := hw21.1.1
 have hk26 := Blk.touch hk1 hw21.2 hk1.lt oO
 have hk27 := Blk.touch hk2 hw21.2 hk2.lt oO
 have hv28 := hw21.1.2
 have hB29 := Touch.trans hT (Touch.mono hw21.2 hT.size)
 refine WL.p (.not rfl) rfl <| WL.nil <| ?_
 refine W.cond rfl (fun h30 => ?_) (fun h30 => ?_)
 have h30' := (nT h30)
 refine W.exit <| W.sr <| WL.p (.buildL (ps := _) blt31 rfl rfl rfl pZ) rfl ?_
 refine WL.stL rfl rfl hk26 isz31 rfl rfl (fun w31 hkw31 huw31 hsw31 => ?_)
 have hk35 := hk25.up huw31
 have hv37 := bup hv28 huw31 hvl5
 have hB38 := Touch.trans hB29 (Touch.of_new huw31 oO)
 refine WL.nil <| ?_
 refine W.ret (W.retc1 rfl rfl (ldRow hkw31 underlying31 rfl isz31)  ?_)
 exact ⟨_, rfl, pc0 0 0 [], pv0 0 0 [], s, _, rfl, PRep.zero _ _ _ _ _, ⟨hk35, hv37⟩, hB38, by
  have hns : ¬ s < l.length := dF (nT aS)
  rw [← hw, hst, show l[s]? = none from List.getElem?_eq_none oO, if_neg hns]; rfl, hsle⟩
 have h30' := (nF h30)
 refine W.skip ?_
 have hsl : s < l.length := dT (nF aS)
 have hk0 := hk25
 rw [if_pos hsl] at hk0
 have hgs : l[s]? = some l[s] := List.getElem?_eq_getElem hsl
 rw [hgs] at hst
 have hx1 : ∀ x : UInt8, l[s]? = some x ↔ l[s] = x := fun x => by rw [hgs]; exact ⟨fun h => Option.some.inj h, fun h => congrArg some h⟩
 refine W.cut (α := Unit) (fun t => [(0, .pointer (some ⟨r, 0, none⟩)), (1, .int .i64 D), (4, .pointer (some ⟨b1, 0, none⟩)), (5, .pointer (some ⟨b7, 0, none⟩))]) (fun t w' => RRd w' r p l c s refs 0 ∧ Touch w.heap.size r w w' ∧ Blk w' b1 (pobj 0 0 []).toArray 31 ∧ Blk w' b7 #[.int .i64 7, .int .i64 0, .string ⟨#[]⟩, .slice pk ks.length ck, .slice pl cs.length cl, .slice none 0 0] 31 ∧ OwnM strL 9 (b7 + 1) w' (.slice pk ks.length ck) ks ∧ OwnM pcL 31 (b7 + 1) w' (.slice pl cs.length cl) cs ∧ LInv w' (fun k => b7 < k ∧ (Value.slice pk ks.length ck).ownBlock ≠ some k ∧ (Value.slice pl cs.length cl).ownBlock ≠ some k) cs acc ∧ ¬ (l[s]'hsl = 62 ∧ l.length ≤ s + 1) ∧ ¬ (l[s]'hsl = 62 ∧ l[s + 1]? = some 62)) ?_ (fun t w1 hR => ?_)
 refine W.cut (α := Unit) (fun _ => [(0, .pointer (some ⟨r, 0, none⟩)), (1, .int .i64 D), (4, .pointer (some ⟨b1, 0, none⟩)), (5, .pointer (some ⟨b7, 0, none⟩)), (27, .bool (decide (((l[s]'hsl).toNat : Int) = 62)))]) (fun _ w' => Drew w21 w') ?_ (fun _ w1 hR => ?_)
 refine W.regY 11 rfl mixed (fun w39 dw39 => ?_)
 have hk43 := hk0.drew dw39
 have hv46 := hv28.drew dw39
 refine WY.tk 0 rfl (.mv rfl) rfl ?_
 refine WY.tk 1 rfl (.nck rfl) rfl ?_
 refine WY.tk 2 rfl (.fa underlying69 rfl sizeOf22 dD rfl) rfl ?_
 refine WY.tk 4 rfl (.mv rfl) rfl ?_
 refine WY.tk 5 rfl (.nck rfl) rfl ?_
 refine WY.tk 6 rfl (.fa underlying69 rfl sizeOf3 dD rfl) rfl ?_
 refine WY.br2 3 rfl 7 rfl ?_ ?_
 refine WL.r (Rd.ld (isAgg22 _) rfl hk43 rfl) rfl <| WL.nil <| ?_
 refine WY.br1 7 rfl ?_
 refine WL.r (Rd.ld (isAgg3 _) rfl hk43 rfl) rfl <| WL.nil <| ?_
 refine WY.tk 8 rfl (.ixb underlying22 sizeOf5 rfl rfl (hv46.isp oO) (s) (rfl) (hsl)) rfl ?_
 refine WY.br1 9 rfl ?_
 refine WL.r (Rd.ldc (isAgg5 _) rfl (hv46.cells (s) oO)) rfl <| WL.nil <| ?_
 refine WY.tk 10 rfl (.eql rfl rfl) rfl ?_
 refine WY.done kR ?_
 exact ⟨(), ⟨rfl, rfl, rfl, rfl, rfl, trivial⟩, dw39⟩
 refine WL.r (Rd.ld (isAgg3 _) rfl hk43 rfl) rfl <| WL.nil <| ?_
 refine WY.br1 3 rfl ?_
 refine WL.r (Rd.ld (isAgg22 _) rfl hk43 rfl) rfl <| WL.nil <| ?_
 refine WY.tk 8 rfl (.ixb underlying22 sizeOf5 rfl rfl (hv46.isp oO) (s) (rfl) (hsl)) rfl ?_
 refine WY.br1 9 rfl ?_
 refine WL.r (Rd.ldc (isAgg5 _) rfl (hv46.cells (s) oO)) rfl <| WL.nil <| ?_
 refine WY.tk 10 rfl (.eql rfl rfl) rfl ?_
 refine WY.done kR ?_
 exact ⟨(), ⟨rfl, rfl, rfl, rfl, rfl, trivial⟩, dw39⟩
 have ho48 := OwnM.drew ho22 hR
 have ho49 := OwnM.drew ho23 hR
 have hF50 := LInv.same (w1 := w1) hF24 (fun k hk hl => (by obtain ⟨m, rfl⟩ := hR; rfl))
 have hk51 := hk0.drew hR
 have hk52 := hk26.drew hR
 have hk53 := hk27.drew hR
 have hv54 := hv28.drew hR
 have hB55 := Touch.trans hB29 (Touch.of_drew hR)
 refine W.cond rfl (fun h56 => ?_) (fun h56 => ?_)
 have h56' := dT h56
 refine W.seq ?_
 refine W.cut (α := Unit) (fun _ => [(0, .pointer (some ⟨r, 0, none⟩)), (1, .int .i64 D), (4, .pointer (some ⟨b1, 0, none⟩)), (5, .pointer (some ⟨b7, 0, none⟩)), (38, .bool (decide ((s : Int) + 1 ≥ (l.length : Int))))]) (fun _ w' => Drew w1 w') ?_ (fun _ w1 hR => ?_)
 refine W.regY 11 rfl mixed (fun w57 dw57 => ?_)
 have hk61 := hk51.drew dw57
 refine WY.tk 0 rfl (.mv rfl) rfl ?_
 refine WY.tk 1 rfl (.nck rfl) rfl ?_
 refine WY.tk 2 rfl (.fa underlying69 rfl sizeOf3 dD rfl) rfl ?_
 refine WY.tk 5 rfl (.mv rfl) rfl ?_
 refine WY.tk 6 rfl (.nck rfl) rfl ?_
 refine WY.tk 7 rfl (.fa underlying69 rfl sizeOf22 dD rfl) rfl ?_
 refine WY.br2 3 rfl 8 rfl ?_ ?_
 refine WL.r (Rd.ld (isAgg3 _) rfl hk61 rfl) rfl <| WL.nil <| ?_
 refine WY.tk 4 rfl (.iis ((s : Int) + 1) (.add rfl rfl (i64w oO)) oO) rfl ?_
 refine WY.br1 8 rfl ?_
 refine WL.r (Rd.ld (isAgg22 _) rfl hk61 rfl) rfl <| WL.nil <| ?_
 refine WY.tk 9 rfl (.lenS underlying22 rfl) rfl ?_
 refine WY.tk 10 rfl (.geq rfl rfl) rfl ?_
 refine WY.done kR ?_
 exact ⟨(), ⟨rfl, rfl, rfl, rfl, rfl, trivial⟩, dw57⟩
 refine WL.r (Rd.ld (isAgg22 _) rfl hk61 rfl) rfl <| WL.nil <| ?_
 refine WY.tk 9 rfl (.lenS underlying22 rfl) rfl ?_
 refine WY.br1 3 rfl ?_
 refine WL.r (Rd.ld (isAgg3 _) rfl hk61 rfl) rfl <| WL.nil <| ?_
 refine WY.tk 4 rfl (.iis ((s : Int) + 1) (.add rfl rfl (i64w oO)) oO) rfl ?_
 refine WY.tk 10 rfl (.geq rfl rfl) rfl ?_
 refine WY.done kR ?_
 exact ⟨(), ⟨rfl, rfl, rfl, rfl, rfl, trivial⟩, dw57⟩
 have ho66 := OwnM.drew ho48 hR
 have ho67 := OwnM.drew ho49 hR
 have hF68 := LInv.same (w1 := w1) hF50 (fun k hk hl => (by obtain ⟨m, rfl⟩ := hR; rfl))
 have hk69 := hk51.drew hR
 have hk70 := hk52.drew hR
 have hk71 := hk53.drew hR
 have hv72 := hv54.drew hR
 have hB73 := Touch.trans hB55 (Touch.of_drew hR)
 refine W.cond rfl (fun h74 => ?_) (fun h74 => ?_)
 have h74' := dT h74
 refine W.sr <| WL.m rfl rfl <| WL.c1 hb74 rfl rfl ((r18_fail r p l c s refs 0 24 _ ⟨hk69, hv72⟩ hne)) (fun w75 hw75 => ?_)
 have hk79 := hw75.1.1
 have hk80 := Blk.touch hk70 hw75.2 hk70.lt oO
 have hv82 := hw75.1.2
 have hB83 := Touch.trans hB73 (Touch.mono hw75.2 hB73.size)
 refine WL.stL rfl rfl hk80 isz31 rfl rfl (fun w84 hkw84 huw84 hsw84 => ?_)
 have hk88 := hk79.up huw84
 have hv90 := bup hv82 huw84 hvl5
 have hB91 := Touch.trans hB83 (Touch.of_new huw84 oO)
 refine WL.nil <| ?_
 refine W.ret (W.retc1 rfl rfl (ldRow hkw84 underlying31 rfl isz31)  ?_)
 exact ⟨_, rfl, pc0 0 0 [], pv0 0 0 [], s, 24, rfl, PRep.zero _ _ _ _ _, ⟨hk88, hv90⟩, hB91, by
  rw [← hw, hst]; (try simp only []); rw [if_pos ⟨u8_eq (d := 62) aS, by omega⟩]; rfl, hsle⟩
 have h74' := dF h74
 refine W.skip ?_
 refine W.cut (α := Unit) (fun _ => [(0, .pointer (some ⟨r, 0, none⟩)), (1, .int .i64 D), (4, .pointer (some ⟨b1, 0, none⟩)), (5, .pointer (some ⟨b7, 0, none⟩)), (52, .bool (decide (((l[s + 1]'oO).toNat : Int) = 62)))]) (fun _ w' => Drew w1 w') ?_ (fun _ w1 hR => ?_)
 refine W.regY 12 rfl mixed (fun w92 dw92 => ?_)
 have hk96 := hk69.drew dw92
 have hv99 := hv72.drew dw92
 refine WY.tk 0 rfl (.mv rfl) rfl ?_
 refine WY.tk 1 rfl (.nck rfl) rfl ?_
 refine WY.tk 2 rfl (.fa underlying69 rfl sizeOf22 dD rfl) rfl ?_
 refine WY.tk 4 rfl (.mv rfl) rfl ?_
 refine WY.tk 5 rfl (.nck rfl) rfl ?_
 refine WY.tk 6 rfl (.fa underlying69 rfl sizeOf3 dD rfl) rfl ?_
 refine WY.br2 3 rfl 7 rfl ?_ ?_
 refine WL.r (Rd.ld (isAgg22 _) rfl hk96 rfl) rfl <| WL.nil <| ?_
 refine WY.br1 7 rfl ?_
 refine WL.r (Rd.ld (isAgg3 _) rfl hk96 rfl) rfl <| WL.nil <| ?_
 refine WY.tk 8 rfl (.iis (((s + 1 : Nat) : Int)) (.add rfl rfl (i64w oO)) oO) rfl ?_
 refine WY.tk 9 rfl (.ixb underlying22 sizeOf5 rfl rfl (hv99.isp oO) (s + 1) oO oO) rfl ?_
 refine WY.br1 10 rfl ?_
 refine WL.r (Rd.ldc (isAgg5 _) rfl (hv99.cells (s + 1) oO)) rfl <| WL.nil <| ?_
 refine WY.tk 11 rfl (.eql rfl rfl) rfl ?_
 refine WY.done kR ?_
 exact ⟨(), ⟨rfl, rfl, rfl, rfl, rfl, trivial⟩, dw92⟩
 refine WL.r (Rd.ld (isAgg3 _) rfl hk96 rfl) rfl <| WL.nil <| ?_
 refine WY.tk 8 rfl (.iis (((s + 1 : Nat) : Int)) (.add rfl rfl (i64w oO)) oO) rfl ?_
 refine WY.br1 3 rfl ?_
 refine WL.r (Rd.ld (isAgg22 _) rfl hk96 rfl) rfl <| WL.nil <| ?_
 refine WY.tk 9 rfl (.ixb underlying22 sizeOf5 rfl rfl (hv99.isp oO) (s + 1) oO oO) rfl ?_
 refine WY.br1 10 rfl ?_
 refine WL.r (Rd.ldc (isAgg5 _) rfl (hv99.cells (s + 1) oO)) rfl <| WL.nil <| ?_
 refine WY.tk 11 rfl (.eql rfl rfl) rfl ?_
 refine WY.done kR ?_
 exact ⟨(), ⟨rfl, rfl, rfl, rfl, rfl, trivial⟩, dw92⟩
 have ho101 := OwnM.drew ho66 hR
 have ho102 := OwnM.drew ho67 hR
 have hF103 := LInv.same (w1 := w1) hF68 (fun k hk hl => (by obtain ⟨m, rfl⟩ := hR; rfl))
 have hk104 := hk69.drew hR
 have hk105 := hk70.drew hR
 have hk106 := hk71.drew hR
 have hv107 := hv72.drew hR
 have hB108 := Touch.trans hB73 (Touch.of_drew hR)
 refine W.cond rfl (fun h109 => ?_) (fun h109 => ?_)
 have h109' := dT h109
 refine W.sr <| WL.m rfl rfl <| WL.m rfl rfl <| WL.p (.nck rfl) rfl <| WL.p (.fa underlying69 rfl sizeOf3 dD rfl) rfl <| WL.r (Rd.ld (isAgg3 _) rfl hk104 rfl) rfl <| WL.p (.iis (((s + 2 : Nat) : Int)) (.add rfl rfl (i64w oO)) oO) rfl <| WL.p (.nck rfl) rfl <| WL.p (.fa underlying69 rfl sizeOf3 dD rfl) rfl <| WL.st sizeOf3 rfl rfl rfl hk104 oD (fun w110 hkw110 huw110 hsw110 => ?_)
 have hkw110 : Blk w110 r _ _ := hkw110
 have huw110 : Upd r _ _ := huw110
 have ho111 := OwnM.touch ho101 huw110 oM
 have ho112 := OwnM.touch ho102 huw110 oM
 have hF113 := LInv.same (w1 := w110) hF103 (fun k hk hl => huw110.other k (by first | ((try simp only) <;> omega) | (have := hk.1; ((try simp only) <;> omega))))
 have hk114 := hk105.up huw110
 have hk115 := hk106.up huw110
 have hv116 := BytesAt.upd hv107 huw110 hne
 have hB117 := Touch.trans hB108 (Touch.of_upd huw110)
 refine WL.nil <| ?_
 refine W.sr <| WL.r (Rd.ldA rfl hk115 underlying31 rfl isz31) rfl <| WL.stL rfl rfl hk114 isz31 rfl rfl (fun w118 hkw118 huw118 hsw118 => ?_)
 have ho119 := OwnM.touch ho111 huw118 oM
 have ho120 := OwnM.touch ho112 huw118 oM
 have hF121 := LInv.same (w1 := w118) hF113 (fun k hk hl => huw118.other k (by first | ((try simp only) <;> omega) | (have := hk.1; ((try simp only) <;> omega))))
 have hk122 := hkw110.up huw118
 have hv124 := bup hv116 huw118 hvl5
 have hB125 := Touch.trans hB117 (Touch.of_new huw118 oO)
 refine WL.nil <| ?_
 refine W.ret (W.retc1 rfl rfl (ldRow hkw118 underlying31 rfl isz31)  ?_)
 exact ⟨_, rfl, ⟨7, 0, [], pk, ks.length, ck, pl, cs.length, cl⟩, .mk 7 0 [] ks acc, s + 2, 0, rfl, PRep.ofRow ⟨(ho119).base (fun g hg => Nat.zero_le _), fun g hg => by have := (ho119).lt g hg; omega⟩ ⟨(ho120).base (fun g hg => Nat.zero_le _), fun g hg => by have := (ho120).lt g hg; omega⟩ ((hF121).mono (fun k hk _ => by have := hk.1; omega)), ⟨hk122, hv124⟩, hB125, by
  rw [← hw, hst]; (try simp only []); rw [if_neg (fun h => by have := h.2; omega), if_pos ⟨u8_eq (d := 62) aS, by rw [List.getElem?_eq_getElem oO]; exact congrArg some (u8_eq (d := 62) aS)⟩]; rfl, by omega⟩
 have h109' := dF h109
 refine W.skip ?_
 exact ⟨(), ⟨rfl, rfl, rfl, rfl, trivial⟩, ⟨hk104, hv107⟩, hB108, hk105, hk106, ho101, ho102, hF103, fun h => absurd h.2 oO, fun h => by obtain ⟨h3, h4⟩ := List.getElem?_eq_some_iff.1 h.2; exact absurd h4 (u8_ne (d := 62) aS)⟩
 have h56' := dF h56
 refine W.skip ?_
 exact ⟨(), ⟨rfl, rfl, rfl, rfl, trivial⟩, ⟨hk51, hv54⟩, hB55, hk52, hk53, ho48, ho49, hF50, fun h => absurd h.1 (u8_ne (d := 62) aS), fun h => absurd h.1 (u8_ne (d := 62) aS)⟩
 obtain ⟨hrd, hT, hk1, hk2, hkeys, hown, hsub, hn1, hn2⟩ := hR
 refine W.seq ?_
 refine W.cut (α := Unit) (fun t => [(0, .pointer (some ⟨r, 0, none⟩)), (1, .int .i64 D), (4, .pointer (some ⟨b1, 0, none⟩)), (5, .pointer (some ⟨b7, 0, none⟩)), (72, .bool (!decide (((l[s]'hsl).toNat : Int) = 47)))]) (fun t w' => RRd w' r p l c s refs 0 ∧ Touch w.heap.size r w w' ∧ Blk w' b1 (pobj 0 0 []).toArray 31 ∧ Blk w' b7 #[.int .i64 7, .int .i64 0, .string ⟨#[]⟩, .slice pk ks.length ck, .slice pl cs.length cl, .slice none 0 0] 31 ∧ OwnM strL 9 (b7 + 1) w' (.slice pk ks.length ck) ks ∧ OwnM pcL 31 (b7 + 1) w' (.slice pl cs.length cl) cs ∧ LInv w' (fun k => b7 < k ∧ (Value.slice pk ks.length ck).ownBlock ≠ some k ∧ (Value.slice pl cs.length cl).ownBlock ≠ some k) cs acc) ?_ (fun t w1 hR => ?_)
 refine W.regY 11 rfl mixed (fun w126 dw126 => ?_)
 have ho127 := OwnM.drew hkeys dw126
 have ho128 := OwnM.drew hown dw126
 have hF129 := LInv.same (w1 := w126) hsub (fun k hk hl => (by obtain ⟨m, rfl⟩ := dw126; rfl))
 have hk130 := hrd.1.drew dw126
 have hk131 := hk1.drew dw126
 have hk132 := hk2.drew dw126
 have hv133 := hrd.2.drew dw126
 have hB134 := Touch.trans hT (Touch.of_drew dw126)
 refine WY.tk 0 rfl (.mv rfl) rfl ?_
 refine WY.tk 1 rfl (.nck rfl) rfl ?_
 refine WY.tk 2 rfl (.fa underlying69 rfl sizeOf22 dD rfl) rfl ?_
 refine WY.tk 4 rfl (.mv rfl) rfl ?_
 refine WY.tk 5 rfl (.nck rfl) rfl ?_
 refine WY.tk 6 rfl (.fa underlying69 rfl sizeOf3 dD rfl) rfl ?_
 refine WY.br2 3 rfl 7 rfl ?_ ?_
 refine WL.r (Rd.ld (isAgg22 _) rfl hk130 rfl) rfl <| WL.nil <| ?_
 refine WY.br1 7 rfl ?_
 refine WL.r (Rd.ld (isAgg3 _) rfl hk130 rfl) rfl <| WL.nil <| ?_
 refine WY.tk 8 rfl (.ixb underlying22 sizeOf5 rfl rfl (hv133.isp oO) (s) (rfl) (hsl)) rfl ?_
 refine WY.br1 9 rfl ?_
 refine WL.r (Rd.ldc (isAgg5 _) rfl (hv133.cells (s) oO)) rfl <| WL.nil <| ?_
 refine WY.tk 10 rfl (.neq rfl rfl) rfl ?_
 refine WY.done kR ?_
 exact ⟨(), ⟨rfl, rfl, rfl, rfl, rfl, trivial⟩, ⟨hk130, hv133⟩, hB134, hk131, hk132, ho127, ho128, hF129⟩
 refine WL.r (Rd.ld (isAgg3 _) rfl hk130 rfl) rfl <| WL.nil <| ?_
 refine WY.br1 3 rfl ?_
 refine WL.r (Rd.ld (isAgg22 _) rfl hk130 rfl) rfl <| WL.nil <| ?_
 refine WY.tk 8 rfl (.ixb underlying22 sizeOf5 rfl rfl (hv133.isp oO) (s) (rfl) (hsl)) rfl ?_
 refine WY.br1 9 rfl ?_
 refine WL.r (Rd.ldc (isAgg5 _) rfl (hv133.cells (s) oO)) rfl <| WL.nil <| ?_
 refine WY.tk 10 rfl (.neq rfl rfl) rfl ?_
 refine WY.done kR ?_
 exact ⟨(), ⟨rfl, rfl, rfl, rfl, rfl, trivial⟩, ⟨hk130, hv133⟩, hB134, hk131, hk132, ho127, ho128, hF129⟩
 obtain ⟨hrd, hT, hk1, hk2, hkeys, hown, hsub⟩ := hR
 refine W.cond rfl (fun h135 => ?_) (fun h135 => ?_)
 have h72 : ¬ ((l[s].toNat : Int) = 47) := dF (nT aS)
 refine W.sr <| WL.m rfl rfl <| WL.c1 hb74 rfl rfl ((r18_fail r p l c s refs 0 23 _ ⟨hrd.1, hrd.2⟩ hne)) (fun w136 hw136 => ?_)
 have hk140 := hw136.1.1
 have hk141 := Blk.touch hk1 hw136.2 hk1.lt oO
 have hv143 := hw136.1.2
 have hB144 := Touch.trans hT (Touch.mono hw136.2 hT.size)
 refine WL.stL rfl rfl hk141 isz31 rfl rfl (fun w145 hkw145 huw145 hsw145 => ?_)
 have hk149 := hk140.up huw145
 have hv151 := bup hv143 huw145 hvl5
 have hB152 := Touch.trans hB144 (Touch.of_new huw145 oO)
 refine WL.nil <| ?_
 refine W.ret (W.retc1 rfl rfl (ldRow hkw145 underlying31 rfl isz31)  ?_)
 exact ⟨_, rfl, pc0 0 0 [], pv0 0 0 [], s, 23, rfl, PRep.zero _ _ _ _ _, ⟨hk149, hv151⟩, hB152, by
  rw [← hw, hst]; (try simp only []); rw [if_neg hn1, if_neg hn2, if_pos (u8_ne (d := 47) aS)]; rfl, hsle⟩
 have h47 : l[s] = 47 := u8_eq (d := 47) (dT (nF aS))
 refine W.skip <| W.sr <| WL.m rfl rfl <| WL.p (.nck rfl) rfl <| WL.p (.fa underlying69 rfl sizeOf3 dD rfl) rfl <| WL.r (Rd.ld (isAgg3 _) rfl hrd.1 rfl) rfl <| WL.p (.iis (((s + 1 : Nat) : Int)) (.add rfl rfl (i64w oO)) oO) rfl <| WL.p (.nck rfl) rfl <| WL.p (.fa underlying69 rfl sizeOf3 dD rfl) rfl <| WL.st sizeOf3 rfl rfl rfl hrd.1 oD (fun w153 hkw153 huw153 hsw153 => ?_)
 have hkw153 : Blk w153 r _ _ := hkw153
 have huw153 : Upd r _ _ := huw153
 have ho154 := OwnM.touch hkeys huw153 oM
 have ho155 := OwnM.touch hown huw153 oM
 have hF156 := LInv.same (w1 := w153) hsub (fun k hk hl => huw153.other k (by first | ((try simp only) <;> omega) | (have := hk.1; ((try simp only) <;> omega))))
 have hk157 := hk1.up huw153
 have hk158 := hk2.up huw153
 have hv159 := BytesAt.upd hrd.2 huw153 hne
 have hB160 := Touch.trans hT (Touch.of_upd huw153)
 refine WL.nil <| ?_
 refine W.seq ?_
 have hNle := nameD_le (l := l) (t := s + 1) oO
 have hNP := nameD_P l (s + 1)
 have hNc : ∀ w1, RRd w1 r p l c (s + 1) refs 0 → Calls Tryz.prog 72 #[.pointer (some ⟨r, 0, none⟩)] w1 fun e w' => e = .returned (.string (bs (nameD l (s + 1)).1)) ∧ RRd w' r p l c (nameD l (s + 1)).2.1 refs (nameD l (s + 1)).2.2 ∧ Touch w1.heap.size r w1 w' := fun w1 h1 => r18_name r p l c (s + 1) refs w1 h1 hne hc hl oO
 generalize nameD l (s + 1) = N at hNle hNP hNc
 obtain ⟨kX, t1, eN⟩ := N
 simp only at hNle hNP hNc
 refine W.reg <| WL.m rfl rfl <| WL.c1 hb72 rfl rfl ((hNc _ ⟨hkw153, hv159⟩)) (fun w161 hw161 => ?_)
 have ho162 := OwnM.touch' ho154 hw161.2 oO
 have ho163 := OwnM.touch' ho155 hw161.2 oO
 have hF164 := LInv.same (w1 := w161) hF156 (fun k hk hl => hw161.2.block k hl (by first | omega | (have := hk.1; omega)))
 have hk165 := hw161.1.1
 have hk166 := Blk.touch hk157 hw161.2 hk157.lt oO
 have hk167 := Blk.touch hk158 hw161.2 hk158.lt oO
 have hv168 := hw161.1.2
 have hB169 := Touch.trans hB160 (Touch.mono hw161.2 hB160.size)
 refine WL.z rfl rfl ?_
 refine W.seq <| W.sr <| WL.m rfl rfl <| WL.p (.nck rfl) rfl <| WL.p (.fa underlying69 rfl sizeOf35 dD rfl) rfl <| WL.r (Rd.ld (isAgg35 _) rfl hk165 rfl) rfl <| WL.p (.neq rfl rfl) rfl <| WL.nil <| ?_
 refine W.cond rfl (fun h170 => ?_) (fun h170 => ?_)
 have h170' := ndT h170
 have hnm : nameP l (s + 1) = .error eN := by rw [hNP]; exact if_neg aS
 refine W.exit <| W.sr <| WL.p (.buildL (ps := _) blt31 rfl rfl rfl pZ) rfl ?_
 refine WL.stL rfl rfl hk166 isz31 rfl rfl (fun w171 hkw171 huw171 hsw171 => ?_)
 have hk175 := hk165.up huw171
 have hv177 := bup hv168 huw171 hvl5
 have hB178 := Touch.trans hB169 (Touch.of_new huw171 oO)
 refine WL.nil <| ?_
 refine W.ret (W.retc1 rfl rfl (ldRow hkw171 underlying31 rfl isz31)  ?_)
 exact ⟨_, rfl, pc0 0 0 [], pv0 0 0 [], t1, eN, rfl, PRep.zero _ _ _ _ _, ⟨hk175, hv177⟩, hB178, by
  have h0 : eN ≠ 0 := by assumption
  rw [← hw, hst]; (try simp only []); rw [if_neg hn1, if_neg hn2, if_neg (by rw [h47]; simp), hnm]; exact (if_neg h0).symm, hNle.2⟩
 have h170' := ndF h170
 obtain rfl : eN = 0 := by omega
 have hnm : nameP l (s + 1) = .ok (kX, t1) := by rw [hNP]; exact if_pos rfl
 refine W.skip <| W.seq <| W.sr <| WL.z rfl rfl ?_
 refine W.block ?_
 have hkz := (ho162).rowp.strs
 refine W.loop (α := Nat) (fun t => [(0, .pointer (some ⟨r, 0, none⟩)), (1, .int .i64 D), (4, .pointer (some ⟨b1, 0, none⟩)), (5, .pointer (some ⟨b7, 0, none⟩)), (6, .string (bs kX)), (7, .int .i64 (t : Int))]) (fun t w' => w161 = w' ∧ t ≤ ks.length ∧ kX ∉ ks.take t) (fun t => ks.length - t) (0) ⟨rfl, rfl, rfl, rfl, rfl, rfl, trivial⟩ (⟨rfl, Nat.zero_le _, by simp⟩) (fun t w1 hR => ?_)
 obtain ⟨i, rfl⟩ : ∃ i, i = t := ⟨t, rfl⟩
 obtain ⟨rfl, hi, hno⟩ := hR
 refine W.seq <| W.sr <| WL.m rfl rfl <| WL.p (.fa underlying31 rfl sizeOf28 dD rfl) rfl <| WL.r (Rd.ld (isAgg28 _) rfl hk167 rfl) rfl <| WL.p (.lenS underlying28 rfl) rfl <| WL.p (.lss rfl rfl) rfl <| WL.nil <| ?_
 refine W.cond rfl (fun h179 => ?_) (fun h179 => ?_)
 have h179' := dT h179
 refine W.skip <| W.seq <| W.block <| W.sr <| WL.p (.fa underlying31 rfl sizeOf28 dD rfl) rfl <| WL.r (Rd.ld (isAgg28 _) rfl hk167 rfl) rfl <| WL.m rfl rfl <| WL.p (.ixb underlying28 sizeOf9 rfl rfl (hkz.isp oO) (i) (rfl) oO) rfl <| WL.r (Rd.ldc (isAgg9 _) rfl (hkz.cells (i) oO)) rfl <| WL.m rfl rfl <| WL.p (.eqs rfl rfl) rfl <| WL.nil <| ?_
 refine W.cond rfl (fun h180 => ?_) (fun h180 => ?_)
 have h180' := dT h180
 refine W.sr <| WL.m rfl rfl <| WL.c1 hb74 rfl rfl ((r18_fail r p l c t1 refs 0 23 _ ⟨hk165, hv168⟩ hne)) (fun w181 hw181 => ?_)
 have hk185 := hw181.1.1
 have hk186 := Blk.touch hk166 hw181.2 hk166.lt oO
 have hv188 := hw181.1.2
 have hB190 := Touch.trans hB169 (Touch.mono hw181.2 hB169.size)
 refine WL.stL rfl rfl hk186 isz31 rfl rfl (fun w191 hkw191 huw191 hsw191 => ?_)
 have hk195 := hk185.up huw191
 have hv197 := bup hv188 huw191 hvl5
 have hB198 := Touch.trans hB190 (Touch.of_new huw191 oO)
 refine WL.nil <| ?_
 refine W.ret (W.retc1 rfl rfl (ldRow hkw191 underlying31 rfl isz31)  ?_)
 exact ⟨_, rfl, pc0 0 0 [], pv0 0 0 [], t1, 23, rfl, PRep.zero _ _ _ _ _, ⟨hk195, hv197⟩, hB198, by
  rw [← hw, hst]; (try simp only []); rw [if_neg hn1, if_neg hn2, if_neg (by rw [h47]; simp), hnm]; (try simp only []); rw [if_pos (by rw [← (show ks[i]'oO = kX by assumption)]; exact List.getElem_mem _)]; rfl, hNle.2⟩
 have h180' := dF h180
 refine W.skip <| W.reg <| WL.m rfl rfl <| WL.p (.iis (((i + 1 : Nat) : Int)) (.add rfl rfl (i64w oO)) oO) rfl <| WL.z rfl rfl ?_
 exact ⟨i + 1, ⟨rfl, rfl, rfl, rfl, rfl, rfl, trivial⟩, ⟨rfl, by ((try simp only) <;> omega), by
  rw [List.take_add_one, List.getElem?_eq_getElem oO, Option.toList_some, List.mem_append, List.mem_singleton]
  exact fun h => h.elim hno (fun h => absurd h.symm aS)⟩, by ((try simp only) <;> omega)⟩
 have h179' := dF h179
 refine W.exit <| W.seq <| W.seq ?_
 have hnk : kX ∉ ks := by rw [show ks.take i = ks from List.take_of_length_le oO] at hno; exact hno
 refine W.reg <| WL.p (.fa underlying31 rfl sizeOf29 dD rfl) rfl <| WL.r (Rd.ld (isAgg29 _) rfl hk167 rfl) rfl <| WL.p (.lenS underlying29 rfl) rfl <| WL.p (.geq rfl rfl) rfl <| WL.nil <| ?_
 refine W.cond rfl (fun h199 => ?_) (fun h199 => ?_)
 have h199' := dT h199
 refine W.sr <| WL.m rfl rfl <| WL.c1 hb74 rfl rfl ((r18_fail r p l c t1 refs 0 25 _ ⟨hk165, hv168⟩ hne)) (fun w200 hw200 => ?_)
 have hk204 := hw200.1.1
 have hk205 := Blk.touch hk166 hw200.2 hk166.lt oO
 have hv207 := hw200.1.2
 have hB208 := Touch.trans hB169 (Touch.mono hw200.2 hB169.size)
 refine WL.stL rfl rfl hk205 isz31 rfl rfl (fun w209 hkw209 huw209 hsw209 => ?_)
 have hk213 := hk204.up huw209
 have hv215 := bup hv207 huw209 hvl5
 have hB216 := Touch.trans hB208 (Touch.of_new huw209 oO)
 refine WL.nil <| ?_
 refine W.ret (W.retc1 rfl rfl (ldRow hkw209 underlying31 rfl isz31)  ?_)
 exact ⟨_, rfl, pc0 0 0 [], pv0 0 0 [], t1, 25, rfl, PRep.zero _ _ _ _ _, ⟨hk213, hv215⟩, hB216, by
  rw [← hw, hst]; (try simp only []); rw [if_neg hn1, if_neg hn2, if_neg (by rw [h47]; simp), hnm]; (try simp only []); rw [if_neg hnk, if_pos oO]; rfl, hNle.2⟩
 have h199' := dF h199
 refine W.skip <| W.seq <| W.seq ?_
 obtain ⟨s2, hs2⟩ : ∃ s2, s2 = skipAt false l t1 := ⟨_, rfl⟩
 have hss2 : skipAt false l s2 = s2 := by rw [hs2]; exact skipAt_idem l t1
 have hSk2 : ∀ w1, RRd w1 r p l c t1 refs 0 → Calls Tryz.prog 112 #[.pointer (some ⟨r, 0, none⟩)] w1 fun e' w' => e' = .returned (.bool (decide (s2 < l.length))) ∧ RRd w' r p l c s2 refs (if s2 < l.length then 0 else 24) ∧ Touch w1.heap.size r w1 w' := fun w1 h1 => by rw [hs2]; exact r18_skip r p l c t1 refs w1 h1 hne hl hNle.2
 have hsle2 : s2 ≤ l.length := by rw [hs2]; exact skipAt_le _ _ _
 have hsge2 : t1 ≤ s2 := by rw [hs2]; exact skipAt_ge l t1 hNle.2
 refine W.reg <| WL.m rfl rfl <| WL.c1 hb112 rfl rfl ((hSk2 _ ⟨hk165, hv168⟩)) (fun w217 hw217 => ?_)
 have ho218 := OwnM.touch' ho162 hw217.2 oO
 have ho219 := OwnM.touch' ho163 hw217.2 oO
 have hF220 := LInv.same (w1 := w217) hF164 (fun k hk hl => hw217.2.block k hl (by first | omega | (have := hk.1; omega)))
 have hk221 := hw217.1.1
 have hk222 := Blk.touch hk166 hw217.2 hk166.lt oO
 have hk223 := Blk.touch hk167 hw217.2 hk167.lt oO
 have hv224 := hw217.1.2
 have hB225 := Touch.trans hB169 (Touch.mono hw217.2 hB169.size)
 refine WL.p (.not rfl) rfl <| WL.nil <| ?_
 refine W.cond rfl (fun h226 => ?_) (fun h226 => ?_)
 have h226' := (nT h226)
 refine W.exit <| W.sr <| WL.p (.buildL (ps := _) blt31 rfl rfl rfl pZ) rfl ?_
 refine WL.stL rfl rfl hk222 isz31 rfl rfl (fun w227 hkw227 huw227 hsw227 => ?_)
 have hk231 := hk221.up huw227
 have hv233 := bup hv224 huw227 hvl5
 have hB234 := Touch.trans hB225 (Touch.of_new huw227 oO)
 refine WL.nil <| ?_
 refine W.ret (W.retc1 rfl rfl (ldRow hkw227 underlying31 rfl isz31)  ?_)
 exact ⟨_, rfl, pc0 0 0 [], pv0 0 0 [], s2, _, rfl, PRep.zero _ _ _ _ _, ⟨hk231, hv233⟩, hB234, by
  have hns : ¬ s2 < l.length := dF (nT aS)
  rw [← hw, hst]; (try simp only []); rw [if_neg hn1, if_neg hn2, if_neg (by rw [h47]; simp), hnm]; (try simp only []); rw [if_neg hnk, if_neg oO, ← hs2, show l[s2]? = none from List.getElem?_eq_none oO, if_neg hns]; rfl, hsle2⟩
 have h226' := (nF h226)
 refine W.skip <| W.seq ?_
 have hsl2 : s2 < l.length := dT (nF aS)
 have hk0 := hk221
 rw [if_pos hsl2] at hk0
 have hgs2 : l[s2]? = some l[s2] := List.getElem?_eq_getElem hsl2
 refine W.reg <| WL.p (.fa underlying31 rfl sizeOf28 dD rfl) rfl <| WL.r (Rd.ld (isAgg28 _) rfl hk223 rfl) rfl <| WL.m rfl rfl <| WL.bsl (ps := _) underlying28 sizeOf9 zeroValue9 rfl rfl rfl rfl rfl pR rfl (fun b235 wb235 eb235 hkb235 hub235 hsb235 => ?_)
 have ho236 := OwnM.new ho218 eb235 hub235
 have ho237 := OwnM.new ho219 eb235 hub235
 have hF238 := LInv.same (w1 := wb235) hF220 (fun k hk hl => hub235.other k oO)
 have hl240 : r < b235 := by rw [eb235]; exact hk0.lt
 have hk239 := hk0.upd hub235 (Nat.ne_of_lt hl240)
 have hl242 : b1 < b235 := by rw [eb235]; exact hk222.lt
 have hk241 := hk222.upd hub235 (Nat.ne_of_lt hl242)
 have hl244 : b7 < b235 := by rw [eb235]; exact hk223.lt
 have hk243 := hk223.upd hub235 (Nat.ne_of_lt hl244)
 have hvl246 := fun h0 => eb235 ▸ hv224.lt h0
 have hv245 := bup hv224 hub235 hvl246
 have hgeb235 : w.heap.size ≤ b235 := by rw [eb235]; exact hB225.size
 have hB247 := Touch.trans hB225 (Touch.of_new hub235 hgeb235)
 have hzz := RowM.lit (V := strL) (l := [kX]) hkb235 (rfl)
 have hlo := (ho237).lt
 refine WL.appM underlying28 inf9 rfl rfl rfl ho236 rfl hzz (by simp only [List.length_cons, List.length_nil]; omega) ((hk243).lt) rfl (fun h => nomatch h) (fun v248 w249 how249 hbw249 hgw249 hfw249 => ?_)
 have hk250 := hk239.below hbw249 oO
 have hk251 := hk241.below hbw249 oO
 have hk252 := hk243.below hbw249 oO
 have hF253 := LInv.grow (T := fun k => b7 < k ∧ (v248).ownBlock ≠ some k ∧ (Value.slice pl cs.length cl).ownBlock ≠ some k) hF238 (fun k hk hl => hgw249.block k hl (fun e => hk.2.1 e.symm)) (fun k hk hl => ⟨hk.1, fun e => by rcases hfw249 k e with h | h; exact hk.2.1 h; omega, hk.2.2⟩)
 have ho254 := OwnM.same ho237 (fun g hg => hgw249.block g ((ho237).lt g hg).2 (fun hx => hsep g hx.symm hg))
 have hv255 := BytesAt.below hv245 hbw249 hpB
 have hB256 := Touch.trans hB247 (Touch.of_below (hbw249.mono oO))
 have hsep2 : ∀ g, (v248).ownBlock = some g → (Value.slice pl cs.length cl).ownBlock ≠ some g := fun g hg => by rcases hfw249 g hg with h | h; exact hsep g h; exact fun h2 => by have := hlo g h2; omega
 obtain ⟨kv2, rfl⟩ : ∃ kv2, kv2 = v248 := ⟨v248, rfl⟩
 refine WL.p (.fa underlying31 rfl sizeOf28 dD rfl) rfl <| WL.st sizeOf28 rfl rfl (how249).one hk252 oD (fun w257 hkw257 huw257 hsw257 => ?_)
 have hkw257 : Blk w257 b7 _ _ := hkw257
 have huw257 : Upd b7 _ _ := huw257
 have ho258 := OwnM.touch how249 huw257 oM
 have ho259 := OwnM.touch ho254 huw257 oM
 have hF260 := LInv.same (w1 := w257) hF253 (fun k hk hl => huw257.other k (by first | ((try simp only) <;> omega) | (have := hk.1; ((try simp only) <;> omega))))
 have hk261 := hk250.up huw257
 have hk262 := hk251.up huw257
 have hv263 := bup hv255 huw257 hvl13
 have hB264 := Touch.trans hB256 (Touch.of_new huw257 oO)
 refine WL.nil <| ?_
 refine W.regY 9 rfl mixed (fun w265 dw265 => ?_)
 have ho266 := OwnM.drew ho258 dw265
 have ho267 := OwnM.drew ho259 dw265
 have hF268 := LInv.same (w1 := w265) hF260 (fun k hk hl => (by obtain ⟨m, rfl⟩ := dw265; rfl))
 have hk269 := hk261.drew dw265
 have hk270 := hk262.drew dw265
 have hk271 := hkw257.drew dw265
 have hv272 := hv263.drew dw265
 have hB273 := Touch.trans hB264 (Touch.of_drew dw265)
 refine WY.tk 0 rfl (.fa underlying31 rfl sizeOf29 dD rfl) rfl ?_
 refine WY.tk 2 rfl (.mv rfl) rfl ?_
 refine WY.tk 3 rfl (.mv rfl) rfl ?_
 refine WY.br2 1 rfl 4 rfl ?_ ?_
 refine WL.r (Rd.ld (isAgg29 _) rfl hk271 rfl) rfl <| WL.nil <| ?_
 refine WY.br1 4 rfl ?_
 refine WL.call hb46 rfl rfl ((hO r s2 _ ⟨hk269, hv272⟩ hne hsl2 hss2)) (fun xv w274 hw274 => ?_)
 obtain ⟨x1, oX, tX, eX, rfl, hpx, hrd1, hT1, hres, htX⟩ := hw274
 have ho1 := OwnM.touch' ho267 hT1 oO
 have hq1 := OwnM.touch' ho266 hT1 oO
 have hsub1 := LInv.same (w1 := w274) hF268 (fun k hk hl => hT1.block k hl (by have := hk.1; omega))
 have hk11 := Blk.touch hk270 hT1 (hk270).lt oO
 have hk21 := Blk.touch hk271 hT1 (hk271).lt oO
 have hB1 := Touch.trans hB273 (Touch.mono hT1 hB273.size)
 have hpx1 := hpx.mono (T := fun k => b7 < k ∧ kv2.ownBlock ≠ some k ∧ (Value.slice pl cs.length cl).ownBlock ≠ some k) (fun k hk _ => ⟨by have := (hk271).lt; omega, fun e => by have := ((ho266).lt k e).2; omega, fun e => by have := ((ho267).lt k e).2; omega⟩)
 have hsub2 := hsub1.push hpx1
 have hr1 := hrd1.1
 have hv1 := hrd1.2
 refine WL.nil <| ?_
 refine WY.br1 5 rfl ?_
 refine WL.bslM (L := pcL) (ps := _) ([x1]) underlying29 sizeOf31 zeroValue31 rfl rfl rfl rfl rfl (by first | rfl | decide) rfl rfl (fun b275 wb275 eb275 hob275 hub275 hsb275 => ?_)
 have ho276 := OwnM.new hq1 eb275 hub275
 have ho277 := OwnM.new ho1 eb275 hub275
 have hF278 := LInv.same (w1 := wb275) hsub2 (fun k hk hl => hub275.other k oO)
 have hl280 : r < b275 := by rw [eb275]; exact hr1.lt
 have hk279 := hr1.upd hub275 (Nat.ne_of_lt hl280)
 have hl282 : b1 < b275 := by rw [eb275]; exact hk11.lt
 have hk281 := hk11.upd hub275 (Nat.ne_of_lt hl282)
 have hl284 : b7 < b275 := by rw [eb275]; exact hk21.lt
 have hk283 := hk21.upd hub275 (Nat.ne_of_lt hl284)
 have hvl286 := fun h0 => eb275 ▸ hv1.lt h0
 have hv285 := bup hv1 hub275 hvl286
 have hgeb275 : w.heap.size ≤ b275 := by rw [eb275]; exact hB1.size
 have hB287 := Touch.trans hB1 (Touch.of_new hub275 hgeb275)
 have hleb275 : b275 ≤ wb275.heap.size := by omega
 refine WL.nil <| ?_
 refine WY.br1 6 rfl ?_
 have hlk := (ho276).lt
 refine WL.appM underlying29 inf31 rfl rfl rfl ho277 rfl (hob275).rowp (by simp only [List.length_cons, List.length_nil]; omega) ((hk283).lt) rfl (fun h => nomatch h) (fun v288 w289 how289 hbw289 hgw289 hfw289 => ?_)
 have hk290 := hk279.below hbw289 oO
 have hk291 := hk281.below hbw289 oO
 have hk292 := hk283.below hbw289 oO
 have hF293 := LInv.grow (T := fun k => b7 < k ∧ kv2.ownBlock ≠ some k ∧ (v288).ownBlock ≠ some k) hF278 (fun k hk hl => hgw289.block k hl (fun e => hk.2.2 e.symm)) (fun k hk hl => ⟨hk.1, hk.2.1, fun e => by rcases hfw289 k e with h | h; exact hk.2.2 h; omega⟩)
 have ho294 := OwnM.same ho276 (fun g hg => hgw289.block g ((ho276).lt g hg).2 (fun hx => hsep2 g hg hx.symm))
 have hv295 := BytesAt.below hv285 hbw289 hpB
 have hB296 := Touch.trans hB287 (Touch.of_below (hbw289.mono oO))
 have hsep3 : ∀ g, kv2.ownBlock = some g → (v288).ownBlock ≠ some g := fun g hg h2 => by rcases hfw289 g h2 with h | h; exact hsep2 g hg h; have := hlk g hg; omega
 refine WL.nil <| ?_
 refine WY.tk 7 rfl (.fa underlying31 rfl sizeOf29 dD rfl) rfl ?_
 refine WY.br1 8 rfl ?_
 refine WL.st sizeOf29 rfl rfl (how289).one hk292 oD (fun w297 hkw297 huw297 hsw297 => ?_)
 have hkw297 : Blk w297 b7 _ _ := hkw297
 have huw297 : Upd b7 _ _ := huw297
 have ho298 := OwnM.touch ho294 huw297 oM
 have ho299 := OwnM.touch how289 huw297 oM
 have hF300 := LInv.same (w1 := w297) hF293 (fun k hk hl => huw297.other k (by first | ((try simp only) <;> omega) | (have := hk.1; ((try simp only) <;> omega))))
 have hk301 := hk290.up huw297
 have hk302 := hk291.up huw297
 have hv303 := bup hv295 huw297 hvl13
 have hB304 := Touch.trans hB296 (Touch.of_new huw297 oO)
 refine WL.nil <| ?_
 refine WY.done kR ?_
 exact ⟨(_, _, ks ++ [kX], cs ++ [x1], acc ++ [oX], tX, f - 1, eX), ⟨rfl, rfl, rfl, rfl, trivial⟩, ⟨⟨hk301, hv303⟩, hB304, hk302, hkw297, ho298, ho299, hsep3, hF300, fun h0 => by
  have hob : objP refs l D.toNat s2 = .ok (oX, tX) := by rw [hres]; exact if_pos h0
  have had := hadv s2 oX tX hsl2 hob
  exact ⟨by rw [← hw, hst]; (try simp only []); rw [if_neg hn1, if_neg hn2, if_neg (by rw [h47]; simp), hnm]; (try simp only []); rw [if_neg hnk, if_neg oO, ← hs2, hgs2]; (try simp only []); rw [hob], by ((try simp only) <;> omega), by simp only [List.length_append, List.length_cons, List.length_nil]; omega, by simp only [List.length_append, List.length_cons, List.length_nil]; omega⟩, fun h1 => by
  have hob : objP refs l D.toNat s2 = .error eX := by rw [hres]; exact if_neg h1
  rw [← hw, hst]; (try simp only []); rw [if_neg hn1, if_neg hn2, if_neg (by rw [h47]; simp), hnm]; (try simp only []); rw [if_neg hnk, if_neg oO, ← hs2, hgs2]; (try simp only []); rw [hob], htX⟩, by ((try simp only) <;> omega)⟩
 refine WL.call hb46 rfl rfl ((hO r s2 _ ⟨hk269, hv272⟩ hne hsl2 hss2)) (fun xv w305 hw305 => ?_)
 obtain ⟨x1, oX, tX, eX, rfl, hpx, hrd1, hT1, hres, htX⟩ := hw305
 have ho1 := OwnM.touch' ho267 hT1 oO
 have hq1 := OwnM.touch' ho266 hT1 oO
 have hsub1 := LInv.same (w1 := w305) hF268 (fun k hk hl => hT1.block k hl (by have := hk.1; omega))
 have hk11 := Blk.touch hk270 hT1 (hk270).lt oO
 have hk21 := Blk.touch hk271 hT1 (hk271).lt oO
 have hB1 := Touch.trans hB273 (Touch.mono hT1 hB273.size)
 have hpx1 := hpx.mono (T := fun k => b7 < k ∧ kv2.ownBlock ≠ some k ∧ (Value.slice pl cs.length cl).ownBlock ≠ some k) (fun k hk _ => ⟨by have := (hk271).lt; omega, fun e => by have := ((ho266).lt k e).2; omega, fun e => by have := ((ho267).lt k e).2; omega⟩)
 have hsub2 := hsub1.push hpx1
 have hr1 := hrd1.1
 have hv1 := hrd1.2
 refine WL.nil <| ?_
 refine WY.br2 1 rfl 5 rfl ?_ ?_
 refine WL.r (Rd.ld (isAgg29 _) rfl hk21 rfl) rfl <| WL.nil <| ?_
 refine WY.br1 5 rfl ?_
 refine WL.bslM (L := pcL) (ps := _) ([x1]) underlying29 sizeOf31 zeroValue31 rfl rfl rfl rfl rfl (by first | rfl | decide) rfl rfl (fun b306 wb306 eb306 hob306 hub306 hsb306 => ?_)
 have ho307 := OwnM.new hq1 eb306 hub306
 have ho308 := OwnM.new ho1 eb306 hub306
 have hF309 := LInv.same (w1 := wb306) hsub2 (fun k hk hl => hub306.other k oO)
 have hl311 : r < b306 := by rw [eb306]; exact hr1.lt
 have hk310 := hr1.upd hub306 (Nat.ne_of_lt hl311)
 have hl313 : b1 < b306 := by rw [eb306]; exact hk11.lt
 have hk312 := hk11.upd hub306 (Nat.ne_of_lt hl313)
 have hl315 : b7 < b306 := by rw [eb306]; exact hk21.lt
 have hk314 := hk21.upd hub306 (Nat.ne_of_lt hl315)
 have hvl317 := fun h0 => eb306 ▸ hv1.lt h0
 have hv316 := bup hv1 hub306 hvl317
 have hgeb306 : w.heap.size ≤ b306 := by rw [eb306]; exact hB1.size
 have hB318 := Touch.trans hB1 (Touch.of_new hub306 hgeb306)
 have hleb306 : b306 ≤ wb306.heap.size := by omega
 refine WL.nil <| ?_
 refine WY.br1 6 rfl ?_
 have hlk := (ho307).lt
 refine WL.appM underlying29 inf31 rfl rfl rfl ho308 rfl (hob306).rowp (by simp only [List.length_cons, List.length_nil]; omega) ((hk314).lt) rfl (fun h => nomatch h) (fun v319 w320 how320 hbw320 hgw320 hfw320 => ?_)
 have hk321 := hk310.below hbw320 oO
 have hk322 := hk312.below hbw320 oO
 have hk323 := hk314.below hbw320 oO
 have hF324 := LInv.grow (T := fun k => b7 < k ∧ kv2.ownBlock ≠ some k ∧ (v319).ownBlock ≠ some k) hF309 (fun k hk hl => hgw320.block k hl (fun e => hk.2.2 e.symm)) (fun k hk hl => ⟨hk.1, hk.2.1, fun e => by rcases hfw320 k e with h | h; exact hk.2.2 h; omega⟩)
 have ho325 := OwnM.same ho307 (fun g hg => hgw320.block g ((ho307).lt g hg).2 (fun hx => hsep2 g hg hx.symm))
 have hv326 := BytesAt.below hv316 hbw320 hpB
 have hB327 := Touch.trans hB318 (Touch.of_below (hbw320.mono oO))
 have hsep3 : ∀ g, kv2.ownBlock = some g → (v319).ownBlock ≠ some g := fun g hg h2 => by rcases hfw320 g h2 with h | h; exact hsep2 g hg h; have := hlk g hg; omega
 refine WL.nil <| ?_
 refine WY.tk 7 rfl (.fa underlying31 rfl sizeOf29 dD rfl) rfl ?_
 refine WY.br1 8 rfl ?_
 refine WL.st sizeOf29 rfl rfl (how320).one hk323 oD (fun w328 hkw328 huw328 hsw328 => ?_)
 have hkw328 : Blk w328 b7 _ _ := hkw328
 have huw328 : Upd b7 _ _ := huw328
 have ho329 := OwnM.touch ho325 huw328 oM
 have ho330 := OwnM.touch how320 huw328 oM
 have hF331 := LInv.same (w1 := w328) hF324 (fun k hk hl => huw328.other k (by first | ((try simp only) <;> omega) | (have := hk.1; ((try simp only) <;> omega))))
 have hk332 := hk321.up huw328
 have hk333 := hk322.up huw328
 have hv334 := bup hv326 huw328 hvl13
 have hB335 := Touch.trans hB327 (Touch.of_new huw328 oO)
 refine WL.nil <| ?_
 refine WY.done kR ?_
 exact ⟨(_, _, ks ++ [kX], cs ++ [x1], acc ++ [oX], tX, f - 1, eX), ⟨rfl, rfl, rfl, rfl, trivial⟩, ⟨⟨hk332, hv334⟩, hB335, hk333, hkw328, ho329, ho330, hsep3, hF331, fun h0 => by
  have hob : objP refs l D.toNat s2 = .ok (oX, tX) := by rw [hres]; exact if_pos h0
  have had := hadv s2 oX tX hsl2 hob
  exact ⟨by rw [← hw, hst]; (try simp only []); rw [if_neg hn1, if_neg hn2, if_neg (by rw [h47]; simp), hnm]; (try simp only []); rw [if_neg hnk, if_neg oO, ← hs2, hgs2]; (try simp only []); rw [hob], by ((try simp only) <;> omega), by simp only [List.length_append, List.length_cons, List.length_nil]; omega, by simp only [List.length_append, List.length_cons, List.length_nil]; omega⟩, fun h1 => by
  have hob : objP refs l D.toNat s2 = .error eX := by rw [hres]; exact if_neg h1
  rw [← hw, hst]; (try simp only []); rw [if_neg hn1, if_neg hn2, if_neg (by rw [h47]; simp), hnm]; (try simp only []); rw [if_neg hnk, if_neg oO, ← hs2, hgs2]; (try simp only []); rw [hob], htX⟩, by ((try simp only) <;> omega)⟩
 refine WL.bslM (L := pcL) (ps := _) ([x1]) underlying29 sizeOf31 zeroValue31 rfl rfl rfl rfl rfl (by first | rfl | decide) rfl rfl (fun b336 wb336 eb336 hob336 hub336 hsb336 => ?_)
 have ho337 := OwnM.new hq1 eb336 hub336
 have ho338 := OwnM.new ho1 eb336 hub336
 have hF339 := LInv.same (w1 := wb336) hsub2 (fun k hk hl => hub336.other k oO)
 have hl341 : r < b336 := by rw [eb336]; exact hr1.lt
 have hk340 := hr1.upd hub336 (Nat.ne_of_lt hl341)
 have hl343 : b1 < b336 := by rw [eb336]; exact hk11.lt
 have hk342 := hk11.upd hub336 (Nat.ne_of_lt hl343)
 have hl345 : b7 < b336 := by rw [eb336]; exact hk21.lt
 have hk344 := hk21.upd hub336 (Nat.ne_of_lt hl345)
 have hvl347 := fun h0 => eb336 ▸ hv1.lt h0
 have hv346 := bup hv1 hub336 hvl347
 have hgeb336 : w.heap.size ≤ b336 := by rw [eb336]; exact hB1.size
 have hB348 := Touch.trans hB1 (Touch.of_new hub336 hgeb336)
 have hleb336 : b336 ≤ wb336.heap.size := by omega
 refine WL.nil <| ?_
 refine WY.br1 1 rfl ?_
 refine WL.r (Rd.ld (isAgg29 _) rfl hk344 rfl) rfl <| WL.nil <| ?_
 refine WY.br1 6 rfl ?_
 have hlk := (ho337).lt
 refine WL.appM underlying29 inf31 rfl rfl rfl ho338 rfl (hob336).rowp (by simp only [List.length_cons, List.length_nil]; omega) ((hk344).lt) rfl (fun h => nomatch h) (fun v349 w350 how350 hbw350 hgw350 hfw350 => ?_)
 have hk351 := hk340.below hbw350 oO
 have hk352 := hk342.below hbw350 oO
 have hk353 := hk344.below hbw350 oO
 have hF354 := LInv.grow (T := fun k => b7 < k ∧ kv2.ownBlock ≠ some k ∧ (v349).ownBlock ≠ some k) hF339 (fun k hk hl => hgw350.block k hl (fun e => hk.2.2 e.symm)) (fun k hk hl => ⟨hk.1, hk.2.1, fun e => by rcases hfw350 k e with h | h; exact hk.2.2 h; omega⟩)
 have ho355 := OwnM.same ho337 (fun g hg => hgw350.block g ((ho337).lt g hg).2 (fun hx => hsep2 g hg hx.symm))
 have hv356 := BytesAt.below hv346 hbw350 hpB
 have hB357 := Touch.trans hB348 (Touch.of_below (hbw350.mono oO))
 have hsep3 : ∀ g, kv2.ownBlock = some g → (v349).ownBlock ≠ some g := fun g hg h2 => by rcases hfw350 g h2 with h | h; exact hsep2 g hg h; have := hlk g hg; omega
 refine WL.nil <| ?_
 refine WY.tk 7 rfl (.fa underlying31 rfl sizeOf29 dD rfl) rfl ?_
 refine WY.br1 8 rfl ?_
 refine WL.st sizeOf29 rfl rfl (how350).one hk353 oD (fun w358 hkw358 huw358 hsw358 => ?_)
 have hkw358 : Blk w358 b7 _ _ := hkw358
 have huw358 : Upd b7 _ _ := huw358
 have ho359 := OwnM.touch ho355 huw358 oM
 have ho360 := OwnM.touch how350 huw358 oM
 have hF361 := LInv.same (w1 := w358) hF354 (fun k hk hl => huw358.other k (by first | ((try simp only) <;> omega) | (have := hk.1; ((try simp only) <;> omega))))
 have hk362 := hk351.up huw358
 have hk363 := hk352.up huw358
 have hv364 := bup hv356 huw358 hvl13
 have hB365 := Touch.trans hB357 (Touch.of_new huw358 oO)
 refine WL.nil <| ?_
 refine WY.done kR ?_
 exact ⟨(_, _, ks ++ [kX], cs ++ [x1], acc ++ [oX], tX, f - 1, eX), ⟨rfl, rfl, rfl, rfl, trivial⟩, ⟨⟨hk362, hv364⟩, hB365, hk363, hkw358, ho359, ho360, hsep3, hF361, fun h0 => by
  have hob : objP refs l D.toNat s2 = .ok (oX, tX) := by rw [hres]; exact if_pos h0
  have had := hadv s2 oX tX hsl2 hob
  exact ⟨by rw [← hw, hst]; (try simp only []); rw [if_neg hn1, if_neg hn2, if_neg (by rw [h47]; simp), hnm]; (try simp only []); rw [if_neg hnk, if_neg oO, ← hs2, hgs2]; (try simp only []); rw [hob], by ((try simp only) <;> omega), by simp only [List.length_append, List.length_cons, List.length_nil]; omega, by simp only [List.length_append, List.length_cons, List.length_nil]; omega⟩, fun h1 => by
  have hob : objP refs l D.toNat s2 = .error eX := by rw [hres]; exact if_neg h1
  rw [← hw, hst]; (try simp only []); rw [if_neg hn1, if_neg hn2, if_neg (by rw [h47]; simp), hnm]; (try simp only []); rw [if_neg hnk, if_neg oO, ← hs2, hgs2]; (try simp only []); rw [hob], htX⟩, by ((try simp only) <;> omega)⟩
 have h20' := dF h20
 refine W.exit <| W.sr <| WL.p (.buildL (ps := _) blt31 rfl rfl rfl pZ) rfl ?_
 refine WL.stL rfl rfl hk1 isz31 rfl rfl (fun w366 hkw366 huw366 hsw366 => ?_)
 have hk370 := hrd.1.upd huw366 oM
 have hv372 := BytesAt.upd hrd.2 huw366 (fun h0 => Nat.ne_of_lt (hvl5 h0))
 have hB373 := Touch.trans hT (Touch.of_new huw366 oO)
 refine WL.nil <| ?_
 refine W.ret (W.retc1 rfl rfl (ldRow hkw366 underlying31 rfl isz31)  ?_)
 exact ⟨_, rfl, pc0 0 0 [], pv0 0 0 [], t, er, rfl, PRep.zero _ _ _ _ _, ⟨hk370, hv372⟩, hB373, by
  have h0 : er ≠ 0 := by assumption
  rw [hbad h0]; exact (if_neg h0).symm, htl⟩
end
section
theorem resOf_ok {o : PV} {t : Nat} {e : Int} (h : e = 0) : resOf o t e = .ok (o, t) := if_pos h
theorem resOf_bad {o : PV} {t : Nat} {e : Int} (h : e ≠ 0) : resOf o t e = .error e := if_neg h
theorem textD_P (l : List UInt8) (t : Nat) : textP l t = resOf (pv0 (textD l t).1 0 (textD l t).2.1) (textD l t).2.2.1 (textD l t).2.2.2 := by
 unfold textP textD
 cases h : textR l t with
 | ok a => exact (resOf_ok rfl).symm
 | error k => exact (resOf_bad (textR_err h).ne).symm
theorem textD_le {l : List UInt8} {t : Nat} (ht : t ≤ l.length) : (textD l t).2.2.1 ≤ l.length := by
 unfold textD
 cases h : textR l t with
 | ok a => obtain ⟨s, t'⟩ := a; exact (textR_adv ht h).2
 | error k => exact ht
theorem nameD_O (l : List UInt8) (t : Nat) (o : PV) (ho : (nameD l t).2.2 = 0 → o = pv0 4 0 (nameD l t).1) : nameO l t = resOf o (nameD l t).2.1 (nameD l t).2.2 := by
 unfold nameO
 rw [nameD_P]
 by_cases h : (nameD l t).2.2 = 0
 ·
  rw [if_pos h, resOf_ok h, ho h]
 ·
  rw [if_neg h, resOf_bad h]
theorem plexW_np {refs : Bool} {l : List UInt8} {t : Nat} (ht : t ≤ l.length) : (plexW refs l t).np ≤ l.length := by
 have h1 := wordAt_le l t ht
 have h2 := refT_adv (refs := refs) (s := wordL l t) h1.2
 unfold plexW
 repeat' split
 all_goals first | exact h1.2 | exact h2.2
theorem r18_object (p : Option Addr) (l : List UInt8) (c : Nat) (refs : Bool) (hc : l.length ≤ c) (hl : l.length ≤ 100000000) (D : Int) (hD : -9223372036854775808 < D ∧ D ≤ 1000000000) (hO : 1 ≤ D → RObjC p l c refs (D - 1)) : RObjC p l c refs D := by
 intro r t w h hne ht hst
 have hr := h.1
 have hb := h.2
 obtain ⟨X, hX⟩ : ∃ X, X = objP refs l D.toNat t := ⟨_, rfl⟩
 rw [← hX]
 have hg : l[t]? = some l[t] := List.getElem?_eq_getElem ht
 rw [objP_at refs l D t l[t] hg] at hX
 obtain ⟨sec, hsec⟩ : ∃ sec : UInt8, sec = l[t + 1]?.getD 0 := ⟨_, rfl⟩
 obtain ⟨t0, ht0⟩ : ∃ t0, t0 = t := ⟨t, rfl⟩
 subst ht0
 obtain ⟨Wd, hWd⟩ : ∃ Wd, Wd = plexW refs l t0 := ⟨_, rfl⟩
 have hWn : Wd.np ≤ l.length := by rw [hWd]; exact plexW_np oO
 have hPc : ∀ w1, RRd w1 r p l c t0 refs 0 → Calls Tryz.prog 49 #[.pointer (some ⟨r, 0, none⟩)] w1 fun e w' => e = .returned Wd.val ∧ RRd w' r p l c Wd.np refs 0 ∧ Touch w1.heap.size r w1 w' := fun w1 h1 => by rw [hWd]; exact r18_plain r p l c t0 refs w1 h1 hne hc hl oO hst
 rw [← hWd] at hX
 have hNle := nameD_le (l := l) (t := t0 + 1) oO
 have hNO := nameD_O l (t0 + 1)
 have hNc : ∀ w1, RRd w1 r p l c (t0 + 1) refs 0 → Calls Tryz.prog 72 #[.pointer (some ⟨r, 0, none⟩)] w1 fun e w' => e = .returned (.string (bs (nameD l (t0 + 1)).1)) ∧ RRd w' r p l c (nameD l (t0 + 1)).2.1 refs (nameD l (t0 + 1)).2.2 ∧ Touch w1.heap.size r w1 w' := fun w1 h1 => r18_name r p l c (t0 + 1) refs w1 h1 hne hc hl oO
 generalize nameD l (t0 + 1) = N at hNle hNO hNc
 obtain ⟨kX, t1, eN⟩ := N
 simp only at hNle hNO hNc
 have hTP := textD_P l t0
 have hTle := textD_le (l := l) (t := t0) oO
 have hTc : ∀ w1, RRd w1 r p l c t0 refs 0 → (l[t0] = 40 ∨ l[t0] = 60) → Calls Tryz.prog 73 #[.pointer (some ⟨r, 0, none⟩)] w1 fun e w' => e = .returned (.agg (pobj (textD l t0).1 0 (textD l t0).2.1).toArray) ∧ RRd w' r p l c (textD l t0).2.2.1 refs (textD l t0).2.2.2 ∧ Touch w1.heap.size r w1 w' := fun w1 h1 h2 => r18_text r p l c t0 refs w1 h1 hne hc hl ht h2
 generalize textD l t0 = T at hTP hTle hTc
 obtain ⟨kT, sT, tT, eT⟩ := T
 simp only at hTP hTle hTc
 refine W.enter func46 rfl ntmps46 (Nat.le_of_ble_eq_true rfl) ?_
 have hB0 := Touch.refl (w.heap.size) r w
 refine W.sr <| WL.alloc zeroValue31 rfl (fun b1 wb1 eb1 hkb1 hub1 hsb1 => ?_)
 have hl3 : r < b1 := by rw [eb1]; exact hr.lt
 have hk2 := hr.upd hub1 (Nat.ne_of_lt hl3)
 have hvl5 := fun h0 => eb1 ▸ hb.lt h0
 have hv4 := bup hb hub1 hvl5
 have hgeb1 : w.heap.size ≤ b1 := by rw [eb1]; exact hB0.size
 have hB6 := Touch.trans hB0 (Touch.of_new hub1 hgeb1)
 refine WL.nil <| ?_
 have hrB : r < b1 := by have := hr.lt; omega
 refine W.cut (α := Unit) (fun t => [(0, .pointer (some ⟨r, 0, none⟩)), (1, .int .i64 D), (4, .pointer (some ⟨b1, 0, none⟩)), (5, .int .u8 (l[t0].toNat : Int))]) (fun t w' => RRd w' r p l c t0 refs 0 ∧ Touch w.heap.size r w w' ∧ Blk w' b1 (pobj 0 0 []).toArray 31) ?_ (fun t w1 hR => ?_)
 refine W.regY 11 rfl mixed (fun w7 dw7 => ?_)
 have hk8 := hk2.drew dw7
 have hk9 := hkb1.drew dw7
 have hv10 := hv4.drew dw7
 have hB11 := Touch.trans hB6 (Touch.of_drew dw7)
 refine WY.tk 0 rfl (.mv rfl) rfl ?_
 refine WY.tk 1 rfl (.nck rfl) rfl ?_
 refine WY.tk 2 rfl (.fa underlying69 rfl sizeOf22 dD rfl) rfl ?_
 refine WY.tk 4 rfl (.mv rfl) rfl ?_
 refine WY.tk 5 rfl (.nck rfl) rfl ?_
 refine WY.tk 6 rfl (.fa underlying69 rfl sizeOf3 dD rfl) rfl ?_
 refine WY.br2 3 rfl 7 rfl ?_ ?_
 refine WL.r (Rd.ld (isAgg22 _) rfl hk8 rfl) rfl <| WL.nil <| ?_
 refine WY.br1 7 rfl ?_
 refine WL.r (Rd.ld (isAgg3 _) rfl hk8 rfl) rfl <| WL.nil <| ?_
 refine WY.tk 8 rfl (.ixb underlying22 sizeOf5 rfl rfl (hv10.isp oO) (t0) (rfl) (ht)) rfl ?_
 refine WY.br1 9 rfl ?_
 refine WL.r (Rd.ldc (isAgg5 _) rfl (hv10.cells (t0) oO)) rfl <| WL.nil <| ?_
 refine WY.tk 10 rfl (.as rfl) rfl ?_
 refine WY.done kR ?_
 exact ⟨(), ⟨rfl, rfl, rfl, rfl, trivial⟩, ⟨hk8, hv10⟩, hB11, hk9⟩
 refine WL.r (Rd.ld (isAgg3 _) rfl hk8 rfl) rfl <| WL.nil <| ?_
 refine WY.br1 3 rfl ?_
 refine WL.r (Rd.ld (isAgg22 _) rfl hk8 rfl) rfl <| WL.nil <| ?_
 refine WY.tk 8 rfl (.ixb underlying22 sizeOf5 rfl rfl (hv10.isp oO) (t0) (rfl) (ht)) rfl ?_
 refine WY.br1 9 rfl ?_
 refine WL.r (Rd.ldc (isAgg5 _) rfl (hv10.cells (t0) oO)) rfl <| WL.nil <| ?_
 refine WY.tk 10 rfl (.as rfl) rfl ?_
 refine WY.done kR ?_
 exact ⟨(), ⟨rfl, rfl, rfl, rfl, trivial⟩, ⟨hk8, hv10⟩, hB11, hk9⟩
 obtain ⟨hrd, hT, hk1⟩ := hR
 refine W.sr <| WL.z rfl rfl ?_
 refine W.cut (α := Unit) (fun t => [(0, .pointer (some ⟨r, 0, none⟩)), (1, .int .i64 D), (4, .pointer (some ⟨b1, 0, none⟩)), (5, .int .u8 (l[t0].toNat : Int)), (6, .int .u8 (sec.toNat : Int))]) (fun t w' => RRd w' r p l c t0 refs 0 ∧ Touch w.heap.size r w w' ∧ Blk w' b1 (pobj 0 0 []).toArray 31) ?_ (fun t w1 hR => ?_)
 refine W.seq <| W.regY 11 rfl mixed (fun w12 dw12 => ?_)
 have hk13 := hrd.1.drew dw12
 have hk14 := hk1.drew dw12
 have hv15 := hrd.2.drew dw12
 have hB16 := Touch.trans hT (Touch.of_drew dw12)
 refine WY.tk 0 rfl (.mv rfl) rfl ?_
 refine WY.tk 1 rfl (.nck rfl) rfl ?_
 refine WY.tk 2 rfl (.fa underlying69 rfl sizeOf3 dD rfl) rfl ?_
 refine WY.tk 5 rfl (.mv rfl) rfl ?_
 refine WY.tk 6 rfl (.nck rfl) rfl ?_
 refine WY.tk 7 rfl (.fa underlying69 rfl sizeOf22 dD rfl) rfl ?_
 refine WY.br2 3 rfl 8 rfl ?_ ?_
 refine WL.r (Rd.ld (isAgg3 _) rfl hk13 rfl) rfl <| WL.nil <| ?_
 refine WY.tk 4 rfl (.add rfl rfl (i64w oO)) rfl ?_
 refine WY.br1 8 rfl ?_
 refine WL.r (Rd.ld (isAgg22 _) rfl hk13 rfl) rfl <| WL.nil <| ?_
 refine WY.tk 9 rfl (.lenS underlying22 rfl) rfl ?_
 refine WY.tk 10 rfl (.lss rfl rfl) rfl ?_
 refine WY.done kR ?_
 refine W.cond rfl (fun h17 => ?_) (fun h17 => ?_)
 have h17' := dT h17
 refine W.regY 12 rfl mixed (fun w18 dw18 => ?_)
 have hk19 := hk13.drew dw18
 have hk20 := hk14.drew dw18
 have hv21 := hv15.drew dw18
 have hB22 := Touch.trans hB16 (Touch.of_drew dw18)
 refine WY.tk 0 rfl (.mv rfl) rfl ?_
 refine WY.tk 1 rfl (.nck rfl) rfl ?_
 refine WY.tk 2 rfl (.fa underlying69 rfl sizeOf22 dD rfl) rfl ?_
 refine WY.tk 4 rfl (.mv rfl) rfl ?_
 refine WY.tk 5 rfl (.nck rfl) rfl ?_
 refine WY.tk 6 rfl (.fa underlying69 rfl sizeOf3 dD rfl) rfl ?_
 refine WY.br2 3 rfl 7 rfl ?_ ?_
 refine WL.r (Rd.ld (isAgg22 _) rfl hk19 rfl) rfl <| WL.nil <| ?_
 refine WY.br1 7 rfl ?_
 refine WL.r (Rd.ld (isAgg3 _) rfl hk19 rfl) rfl <| WL.nil <| ?_
 refine WY.tk 8 rfl (.add rfl rfl (i64w oO)) rfl ?_
 refine WY.tk 9 rfl (.ixb underlying22 sizeOf5 rfl rfl (hv21.isp oO) (t0 + 1) oO oO) rfl ?_
 refine WY.br1 10 rfl ?_
 refine WL.r (Rd.ldc (isAgg5 _) rfl (hv21.cells (t0 + 1) oO)) rfl <| WL.nil <| ?_
 refine WY.tk 11 rfl (.as rfl) rfl ?_
 refine WY.done kR ?_
 exact ⟨(), ⟨rfl, rfl, rfl, rfl, lk_i rfl (by rw [hsec, List.getElem?_eq_getElem oO]; rfl), trivial⟩, ⟨hk19, hv21⟩, hB22, hk20⟩
 refine WL.r (Rd.ld (isAgg3 _) rfl hk19 rfl) rfl <| WL.nil <| ?_
 refine WY.tk 8 rfl (.add rfl rfl (i64w oO)) rfl ?_
 refine WY.br1 3 rfl ?_
 refine WL.r (Rd.ld (isAgg22 _) rfl hk19 rfl) rfl <| WL.nil <| ?_
 refine WY.tk 9 rfl (.ixb underlying22 sizeOf5 rfl rfl (hv21.isp oO) (t0 + 1) oO oO) rfl ?_
 refine WY.br1 10 rfl ?_
 refine WL.r (Rd.ldc (isAgg5 _) rfl (hv21.cells (t0 + 1) oO)) rfl <| WL.nil <| ?_
 refine WY.tk 11 rfl (.as rfl) rfl ?_
 refine WY.done kR ?_
 exact ⟨(), ⟨rfl, rfl, rfl, rfl, lk_i rfl (by rw [hsec, List.getElem?_eq_getElem oO]; rfl), trivial⟩, ⟨hk19, hv21⟩, hB22, hk20⟩
 have h17' := dF h17
 refine W.skip ?_
 exact ⟨(), ⟨rfl, rfl, rfl, rfl, lk_i rfl (by rw [hsec, List.getElem?_eq_none oO]; rfl), trivial⟩, ⟨hk13, hv15⟩, hB16, hk14⟩
 refine WL.r (Rd.ld (isAgg22 _) rfl hk13 rfl) rfl <| WL.nil <| ?_
 refine WY.tk 9 rfl (.lenS underlying22 rfl) rfl ?_
 refine WY.br1 3 rfl ?_
 refine WL.r (Rd.ld (isAgg3 _) rfl hk13 rfl) rfl <| WL.nil <| ?_
 refine WY.tk 4 rfl (.add rfl rfl (i64w oO)) rfl ?_
 refine WY.tk 10 rfl (.lss rfl rfl) rfl ?_
 refine WY.done kR ?_
 refine W.cond rfl (fun h23 => ?_) (fun h23 => ?_)
 have h23' := dT h23
 refine W.regY 12 rfl mixed (fun w24 dw24 => ?_)
 have hk25 := hk13.drew dw24
 have hk26 := hk14.drew dw24
 have hv27 := hv15.drew dw24
 have hB28 := Touch.trans hB16 (Touch.of_drew dw24)
 refine WY.tk 0 rfl (.mv rfl) rfl ?_
 refine WY.tk 1 rfl (.nck rfl) rfl ?_
 refine WY.tk 2 rfl (.fa underlying69 rfl sizeOf22 dD rfl) rfl ?_
 refine WY.tk 4 rfl (.mv rfl) rfl ?_
 refine WY.tk 5 rfl (.nck rfl) rfl ?_
 refine WY.tk 6 rfl (.fa underlying69 rfl sizeOf3 dD rfl) rfl ?_
 refine WY.br2 3 rfl 7 rfl ?_ ?_
 refine WL.r (Rd.ld (isAgg22 _) rfl hk25 rfl) rfl <| WL.nil <| ?_
 refine WY.br1 7 rfl ?_
 refine WL.r (Rd.ld (isAgg3 _) rfl hk25 rfl) rfl <| WL.nil <| ?_
 refine WY.tk 8 rfl (.add rfl rfl (i64w oO)) rfl ?_
 refine WY.tk 9 rfl (.ixb underlying22 sizeOf5 rfl rfl (hv27.isp oO) (t0 + 1) oO oO) rfl ?_
 refine WY.br1 10 rfl ?_
 refine WL.r (Rd.ldc (isAgg5 _) rfl (hv27.cells (t0 + 1) oO)) rfl <| WL.nil <| ?_
 refine WY.tk 11 rfl (.as rfl) rfl ?_
 refine WY.done kR ?_
 exact ⟨(), ⟨rfl, rfl, rfl, rfl, lk_i rfl (by rw [hsec, List.getElem?_eq_getElem oO]; rfl), trivial⟩, ⟨hk25, hv27⟩, hB28, hk26⟩
 refine WL.r (Rd.ld (isAgg3 _) rfl hk25 rfl) rfl <| WL.nil <| ?_
 refine WY.tk 8 rfl (.add rfl rfl (i64w oO)) rfl ?_
 refine WY.br1 3 rfl ?_
 refine WL.r (Rd.ld (isAgg22 _) rfl hk25 rfl) rfl <| WL.nil <| ?_
 refine WY.tk 9 rfl (.ixb underlying22 sizeOf5 rfl rfl (hv27.isp oO) (t0 + 1) oO oO) rfl ?_
 refine WY.br1 10 rfl ?_
 refine WL.r (Rd.ldc (isAgg5 _) rfl (hv27.cells (t0 + 1) oO)) rfl <| WL.nil <| ?_
 refine WY.tk 11 rfl (.as rfl) rfl ?_
 refine WY.done kR ?_
 exact ⟨(), ⟨rfl, rfl, rfl, rfl, lk_i rfl (by rw [hsec, List.getElem?_eq_getElem oO]; rfl), trivial⟩, ⟨hk25, hv27⟩, hB28, hk26⟩
 have h23' := dF h23
 refine W.skip ?_
 exact ⟨(), ⟨rfl, rfl, rfl, rfl, lk_i rfl (by rw [hsec, List.getElem?_eq_none oO]; rfl), trivial⟩, ⟨hk13, hv15⟩, hB16, hk14⟩
 obtain ⟨hrd, hT, hk1⟩ := hR
 refine W.seq <| W.sr <| WL.m rfl rfl <| WL.nil <| ?_
 refine W.block <| W.sr <| WL.p (.eql rfl rfl) rfl <| WL.z rfl rfl ?_
 refine W.cond rfl (fun h29 => ?_) (fun h29 => ?_)
 have h29' := dT h29
 have h47 : l[t0] = 47 := u8_eq aS
 rw [if_pos h47] at hX
 refine W.sr <| WL.m rfl rfl <| WL.p (.nck rfl) rfl <| WL.p (.fa underlying69 rfl sizeOf3 dD rfl) rfl <| WL.r (Rd.ld (isAgg3 _) rfl hrd.1 rfl) rfl <| WL.p (.iis (((t0 + 1 : Nat) : Int)) (.add rfl rfl (i64w oO)) oO) rfl <| WL.p (.nck rfl) rfl <| WL.p (.fa underlying69 rfl sizeOf3 dD rfl) rfl <| WL.st sizeOf3 rfl rfl rfl hrd.1 oD (fun w30 hkw30 huw30 hsw30 => ?_)
 have hkw30 : Blk w30 r _ _ := hkw30
 have huw30 : Upd r _ _ := huw30
 have hk31 := hk1.up huw30
 have hv32 := BytesAt.upd hrd.2 huw30 hne
 have hB33 := Touch.trans hT (Touch.of_upd huw30)
 refine WL.nil <| ?_
 refine W.sr <| WL.m rfl rfl <| WL.c1 hb72 rfl rfl ((hNc _ ⟨hkw30, hv32⟩)) (fun w34 hw34 => ?_)
 have hk35 := hw34.1.1
 have hk36 := Blk.touch hk31 hw34.2 hk31.lt oO
 have hv37 := hw34.1.2
 have hB38 := Touch.trans hB33 (Touch.mono hw34.2 hB33.size)
 refine WL.z rfl rfl ?_
 refine W.seq <| W.sr <| WL.m rfl rfl <| WL.p (.nck rfl) rfl <| WL.p (.fa underlying69 rfl sizeOf35 dD rfl) rfl <| WL.r (Rd.ld (isAgg35 _) rfl hk35 rfl) rfl <| WL.p (.neq rfl rfl) rfl <| WL.nil <| ?_
 refine W.cond rfl (fun h39 => ?_) (fun h39 => ?_)
 have h39' := ndT h39
 refine W.sr <| WL.p (.buildL (ps := _) blt31 rfl rfl rfl pZ) rfl ?_
 refine WL.stL rfl rfl hk36 isz31 rfl rfl (fun w40 hkw40 huw40 hsw40 => ?_)
 have hk41 := hk35.up huw40
 have hv42 := bup hv37 huw40 hvl5
 have hB43 := Touch.trans hB38 (Touch.of_new huw40 oO)
 refine WL.nil <| ?_
 refine W.ret (W.retc1 rfl rfl (ldRow hkw40 underlying31 rfl isz31)  ?_)
 exact ⟨_, rfl, pc0 0 0 [], pv0 0 0 [], t1, eN, rfl, PRep.zero _ _ _ _ _, ⟨hk41, hv42⟩, hB43, by
  rw [hX]; exact hNO _ (fun h => absurd h aS), hNle.2⟩
 have h39' := ndF h39
 refine W.skip <| W.sr <| WL.m rfl rfl <| ?_
 refine WL.p (.buildL (ps := _) blt31 rfl rfl rfl pS) rfl ?_
 refine WL.stL rfl rfl hk36 isz31 rfl rfl (fun w44 hkw44 huw44 hsw44 => ?_)
 have hk45 := hk35.up huw44
 have hv46 := bup hv37 huw44 hvl5
 have hB47 := Touch.trans hB38 (Touch.of_new huw44 oO)
 refine WL.nil <| ?_
 refine W.ret (W.retc1 rfl rfl (ldRow hkw44 underlying31 rfl isz31)  ?_)
 exact ⟨_, rfl, pc0 4 0 kX, pv0 4 0 kX, t1, eN, rfl, PRep.zero _ _ _ _ _, ⟨hk45, hv46⟩, hB47, by
  rw [hX]; exact hNO _ (fun _ => rfl), hNle.2⟩
 have h29' := dF h29
 have h47 : l[t0] ≠ 47 := u8_ne (d := 47) aS
 rw [if_neg h47] at hX
 refine W.sr <| WL.p (.eql rfl rfl) rfl <| WL.z rfl rfl ?_
 refine W.cond rfl (fun h48 => ?_) (fun h48 => ?_)
 have h48' := dT h48
 have h40 : l[t0] = 40 := u8_eq aS
 rw [if_neg (by rw [h40]; decide), if_pos h40] at hX
 refine W.sr <| WL.m rfl rfl <| WL.c1 hb73 rfl rfl ((hTc _ ⟨hrd.1, hrd.2⟩ (by first | exact .inl aS | exact .inr aS))) (fun w49 hw49 => ?_)
 have hk50 := hw49.1.1
 have hk51 := Blk.touch hk1 hw49.2 hk1.lt oO
 have hv52 := hw49.1.2
 have hB53 := Touch.trans hT (Touch.mono hw49.2 hT.size)
 refine WL.stL rfl rfl hk51 isz31 rfl rfl (fun w54 hkw54 huw54 hsw54 => ?_)
 have hk55 := hk50.up huw54
 have hv56 := bup hv52 huw54 hvl5
 have hB57 := Touch.trans hB53 (Touch.of_new huw54 oO)
 refine WL.nil <| ?_
 refine W.ret (W.retc1 rfl rfl (ldRow hkw54 underlying31 rfl isz31)  ?_)
 exact ⟨_, rfl, pc0 kT 0 sT, pv0 kT 0 sT, tT, eT, rfl, PRep.zero _ _ _ _ _, ⟨hk55, hv56⟩, hB57, by
  rw [hX]; exact hTP, hTle⟩
 have h48' := dF h48
 have h40 : l[t0] ≠ 40 := u8_ne (d := 40) aS
 refine W.sr <| WL.p (.eql rfl rfl) rfl <| WL.z rfl rfl ?_
 refine W.cond rfl (fun h58 => ?_) (fun h58 => ?_)
 have h58' := dT h58
 have h60 : l[t0] = 60 := u8_eq aS
 rw [if_neg (by rw [h60]; decide), if_neg (by rw [h60]; decide), if_pos h60] at hX
 refine W.seq <| W.seq <| W.regY 11 rfl mixed (fun w59 dw59 => ?_)
 have hk60 := hrd.1.drew dw59
 have hk61 := hk1.drew dw59
 have hv62 := hrd.2.drew dw59
 have hB63 := Touch.trans hT (Touch.of_drew dw59)
 refine WY.tk 0 rfl (.mv rfl) rfl ?_
 refine WY.tk 1 rfl (.nck rfl) rfl ?_
 refine WY.tk 2 rfl (.fa underlying69 rfl sizeOf3 dD rfl) rfl ?_
 refine WY.tk 5 rfl (.mv rfl) rfl ?_
 refine WY.tk 6 rfl (.nck rfl) rfl ?_
 refine WY.tk 7 rfl (.fa underlying69 rfl sizeOf22 dD rfl) rfl ?_
 refine WY.br2 3 rfl 8 rfl ?_ ?_
 refine WL.r (Rd.ld (isAgg3 _) rfl hk60 rfl) rfl <| WL.nil <| ?_
 refine WY.tk 4 rfl (.iis ((t0 : Int) + 1) (.add rfl rfl (i64w oO)) oO) rfl ?_
 refine WY.br1 8 rfl ?_
 refine WL.r (Rd.ld (isAgg22 _) rfl hk60 rfl) rfl <| WL.nil <| ?_
 refine WY.tk 9 rfl (.lenS underlying22 rfl) rfl ?_
 refine WY.tk 10 rfl (.geq rfl rfl) rfl ?_
 refine WY.done kR ?_
 refine W.cond rfl (fun h64 => ?_) (fun h64 => ?_)
 have h64' := dT h64
 refine W.sr <| WL.m rfl rfl <| WL.c1 hb74 rfl rfl ((r18_fail r p l c t0 refs 0 24 _ ⟨hk60, hv62⟩ hne)) (fun w65 hw65 => ?_)
 have hk66 := hw65.1.1
 have hk67 := Blk.touch hk61 hw65.2 hk61.lt oO
 have hv68 := hw65.1.2
 have hB69 := Touch.trans hB63 (Touch.mono hw65.2 hB63.size)
 refine WL.stL rfl rfl hk67 isz31 rfl rfl (fun w70 hkw70 huw70 hsw70 => ?_)
 have hk71 := hk66.up huw70
 have hv72 := bup hv68 huw70 hvl5
 have hB73 := Touch.trans hB69 (Touch.of_new huw70 oO)
 refine WL.nil <| ?_
 refine W.ret (W.retc1 rfl rfl (ldRow hkw70 underlying31 rfl isz31)  ?_)
 exact ⟨_, rfl, pc0 0 0 [], pv0 0 0 [], t0, 24, rfl, PRep.zero _ _ _ _ _, ⟨hk71, hv72⟩, hB73, by
  rw [hX, if_pos oO]; rfl, by omega⟩
 have h64' := dF h64
 have hlt1 : t0 + 1 < l.length := by omega
 have hg1 : l[t0 + 1]? = some l[t0 + 1] := List.getElem?_eq_getElem hlt1
 have hs1 : sec = l[t0 + 1] := by rw [hsec, hg1]; rfl
 refine W.skip <| W.seq <| W.sr <| WL.m rfl rfl <| WL.p (.neq rfl rfl) rfl <| WL.nil <| ?_
 refine W.cond rfl (fun h74 => ?_) (fun h74 => ?_)
 have h74' := ndT h74
 refine W.sr <| WL.m rfl rfl <| WL.c1 hb73 rfl rfl ((hTc _ ⟨hk60, hv62⟩ (by first | exact .inl aS | exact .inr aS))) (fun w75 hw75 => ?_)
 have hk76 := hw75.1.1
 have hk77 := Blk.touch hk61 hw75.2 hk61.lt oO
 have hv78 := hw75.1.2
 have hB79 := Touch.trans hB63 (Touch.mono hw75.2 hB63.size)
 refine WL.stL rfl rfl hk77 isz31 rfl rfl (fun w80 hkw80 huw80 hsw80 => ?_)
 have hk81 := hk76.up huw80
 have hv82 := bup hv78 huw80 hvl5
 have hB83 := Touch.trans hB79 (Touch.of_new huw80 oO)
 refine WL.nil <| ?_
 refine W.ret (W.retc1 rfl rfl (ldRow hkw80 underlying31 rfl isz31)  ?_)
 exact ⟨_, rfl, pc0 kT 0 sT, pv0 kT 0 sT, tT, eT, rfl, PRep.zero _ _ _ _ _, ⟨hk81, hv82⟩, hB83, by
  rw [hX, if_neg oO, if_pos (by rw [hg1, ← hs1]; exact fun e => u8_ne (d := 60) aS (Option.some.inj e))]; exact hTP, hTle⟩
 have h74' := ndF h74
 refine W.skip <| W.seq <| W.sr <| WL.m rfl rfl <| WL.p (.lss rfl rfl) rfl <| WL.nil <| ?_
 refine W.cond rfl (fun h84 => ?_) (fun h84 => ?_)
 have h84' := dT h84
 refine W.sr <| WL.m rfl rfl <| WL.c1 hb74 rfl rfl ((r18_fail r p l c t0 refs 0 25 _ ⟨hk60, hv62⟩ hne)) (fun w85 hw85 => ?_)
 have hk86 := hw85.1.1
 have hk87 := Blk.touch hk61 hw85.2 hk61.lt oO
 have hv88 := hw85.1.2
 have hB89 := Touch.trans hB63 (Touch.mono hw85.2 hB63.size)
 refine WL.stL rfl rfl hk87 isz31 rfl rfl (fun w90 hkw90 huw90 hsw90 => ?_)
 have hk91 := hk86.up huw90
 have hv92 := bup hv88 huw90 hvl5
 have hB93 := Touch.trans hB89 (Touch.of_new huw90 oO)
 refine WL.nil <| ?_
 refine W.ret (W.retc1 rfl rfl (ldRow hkw90 underlying31 rfl isz31)  ?_)
 exact ⟨_, rfl, pc0 0 0 [], pv0 0 0 [], t0, 25, rfl, PRep.zero _ _ _ _ _, ⟨hk91, hv92⟩, hB93, by
  rw [hX, if_neg oO, if_neg (fun e => e (by rw [hg1, ← hs1]; exact congrArg some (u8_eq (d := 60) aS))), if_pos oO]; rfl, by omega⟩
 have h84' := dF h84
 refine W.skip <| W.sr <| WL.m rfl rfl <| WL.m rfl rfl <| WL.p (.nck rfl) rfl <| WL.p (.fa underlying69 rfl sizeOf3 dD rfl) rfl <| WL.r (Rd.ld (isAgg3 _) rfl hk60 rfl) rfl <| WL.p (.iis (((t0 + 2 : Nat) : Int)) (.add rfl rfl (i64w oO)) oO) rfl <| WL.p (.nck rfl) rfl <| WL.p (.fa underlying69 rfl sizeOf3 dD rfl) rfl <| WL.st sizeOf3 rfl rfl rfl hk60 oD (fun w94 hkw94 huw94 hsw94 => ?_)
 have hkw94 : Blk w94 r _ _ := hkw94
 have huw94 : Upd r _ _ := huw94
 have hk95 := hk61.up huw94
 have hv96 := BytesAt.upd hv62 huw94 hne
 have hB97 := Touch.trans hB63 (Touch.of_upd huw94)
 refine WL.nil <| ?_
 refine W.sr <| WL.m rfl rfl <| WL.m rfl rfl <| WL.p (.sub rfl rfl (i64w oO)) rfl <| WL.call hb75 rfl rfl ((r18_pairs p l c refs (D - 1) (hO oO) (objP_adv refs l _) r (t0 + 2) _ ⟨hkw94, hv96⟩ hne hc hl oO)) (fun xv w98 hw98 => ?_)
 obtain ⟨x1, oX, tX, eX, rfl, hpx, hrd1, hT1, hres, htX⟩ := hw98
 have hpx1 := hpx.mono (T := fun k => b1 < k ∧ w.heap.size ≤ k) (fun k hk _ => by have h1 := (hk95).lt; have h2 := hB97.size; omega)
 have hk11 := Blk.touch hk95 hT1 (hk95).lt oO
 have hB1 := Touch.trans hB97 (Touch.mono hT1 hB97.size)
 have hr1 := hrd1.1
 have hv1 := hrd1.2
 refine WL.stL rfl rfl hk11 isz31 rfl rfl (fun w99 hkw99 huw99 hsw99 => ?_)
 have hF100 := PRep.same (w1 := w99) hpx1 (fun k hk hl => huw99.other k (by first | ((try simp only) <;> omega) | (have := hk.1; ((try simp only) <;> omega))))
 have hk101 := hr1.upd huw99 oM
 have hv102 := bup hv1 huw99 hvl5
 have hB103 := Touch.trans hB1 (Touch.of_new huw99 oO)
 refine WL.nil <| ?_
 refine W.ret (W.retc1 rfl rfl (ldRow hkw99 underlying31 rfl isz31)  ?_)
 exact ⟨_, rfl, x1, oX, tX, eX, rfl, (hF100).mono (fun k hk _ => hk.2), ⟨hk101, hv102⟩, hB103, by
  rw [hX, if_neg oO, if_neg (fun e => e (by rw [hg1, ← hs1]; exact congrArg some (u8_eq (d := 60) aS))), if_neg oO, hres], htX⟩
 refine WL.r (Rd.ld (isAgg22 _) rfl hk60 rfl) rfl <| WL.nil <| ?_
 refine WY.tk 9 rfl (.lenS underlying22 rfl) rfl ?_
 refine WY.br1 3 rfl ?_
 refine WL.r (Rd.ld (isAgg3 _) rfl hk60 rfl) rfl <| WL.nil <| ?_
 refine WY.tk 4 rfl (.iis ((t0 : Int) + 1) (.add rfl rfl (i64w oO)) oO) rfl ?_
 refine WY.tk 10 rfl (.geq rfl rfl) rfl ?_
 refine WY.done kR ?_
 refine W.cond rfl (fun h104 => ?_) (fun h104 => ?_)
 have h104' := dT h104
 refine W.sr <| WL.m rfl rfl <| WL.c1 hb74 rfl rfl ((r18_fail r p l c t0 refs 0 24 _ ⟨hk60, hv62⟩ hne)) (fun w105 hw105 => ?_)
 have hk106 := hw105.1.1
 have hk107 := Blk.touch hk61 hw105.2 hk61.lt oO
 have hv108 := hw105.1.2
 have hB109 := Touch.trans hB63 (Touch.mono hw105.2 hB63.size)
 refine WL.stL rfl rfl hk107 isz31 rfl rfl (fun w110 hkw110 huw110 hsw110 => ?_)
 have hk111 := hk106.up huw110
 have hv112 := bup hv108 huw110 hvl5
 have hB113 := Touch.trans hB109 (Touch.of_new huw110 oO)
 refine WL.nil <| ?_
 refine W.ret (W.retc1 rfl rfl (ldRow hkw110 underlying31 rfl isz31)  ?_)
 exact ⟨_, rfl, pc0 0 0 [], pv0 0 0 [], t0, 24, rfl, PRep.zero _ _ _ _ _, ⟨hk111, hv112⟩, hB113, by
  rw [hX, if_pos oO]; rfl, by omega⟩
 have h104' := dF h104
 have hlt1 : t0 + 1 < l.length := by omega
 have hg1 : l[t0 + 1]? = some l[t0 + 1] := List.getElem?_eq_getElem hlt1
 have hs1 : sec = l[t0 + 1] := by rw [hsec, hg1]; rfl
 refine W.skip <| W.seq <| W.sr <| WL.m rfl rfl <| WL.p (.neq rfl rfl) rfl <| WL.nil <| ?_
 refine W.cond rfl (fun h114 => ?_) (fun h114 => ?_)
 have h114' := ndT h114
 refine W.sr <| WL.m rfl rfl <| WL.c1 hb73 rfl rfl ((hTc _ ⟨hk60, hv62⟩ (by first | exact .inl aS | exact .inr aS))) (fun w115 hw115 => ?_)
 have hk116 := hw115.1.1
 have hk117 := Blk.touch hk61 hw115.2 hk61.lt oO
 have hv118 := hw115.1.2
 have hB119 := Touch.trans hB63 (Touch.mono hw115.2 hB63.size)
 refine WL.stL rfl rfl hk117 isz31 rfl rfl (fun w120 hkw120 huw120 hsw120 => ?_)
 have hk121 := hk116.up huw120
 have hv122 := bup hv118 huw120 hvl5
 have hB123 := Touch.trans hB119 (Touch.of_new huw120 oO)
 refine WL.nil <| ?_
 refine W.ret (W.retc1 rfl rfl (ldRow hkw120 underlying31 rfl isz31)  ?_)
 exact ⟨_, rfl, pc0 kT 0 sT, pv0 kT 0 sT, tT, eT, rfl, PRep.zero _ _ _ _ _, ⟨hk121, hv122⟩, hB123, by
  rw [hX, if_neg oO, if_pos (by rw [hg1, ← hs1]; exact fun e => u8_ne (d := 60) aS (Option.some.inj e))]; exact hTP, hTle⟩
 have h114' := ndF h114
 refine W.skip <| W.seq <| W.sr <| WL.m rfl rfl <| WL.p (.lss rfl rfl) rfl <| WL.nil <| ?_
 refine W.cond rfl (fun h124 => ?_) (fun h124 => ?_)
 have h124' := dT h124
 refine W.sr <| WL.m rfl rfl <| WL.c1 hb74 rfl rfl ((r18_fail r p l c t0 refs 0 25 _ ⟨hk60, hv62⟩ hne)) (fun w125 hw125 => ?_)
 have hk126 := hw125.1.1
 have hk127 := Blk.touch hk61 hw125.2 hk61.lt oO
 have hv128 := hw125.1.2
 have hB129 := Touch.trans hB63 (Touch.mono hw125.2 hB63.size)
 refine WL.stL rfl rfl hk127 isz31 rfl rfl (fun w130 hkw130 huw130 hsw130 => ?_)
 have hk131 := hk126.up huw130
 have hv132 := bup hv128 huw130 hvl5
 have hB133 := Touch.trans hB129 (Touch.of_new huw130 oO)
 refine WL.nil <| ?_
 refine W.ret (W.retc1 rfl rfl (ldRow hkw130 underlying31 rfl isz31)  ?_)
 exact ⟨_, rfl, pc0 0 0 [], pv0 0 0 [], t0, 25, rfl, PRep.zero _ _ _ _ _, ⟨hk131, hv132⟩, hB133, by
  rw [hX, if_neg oO, if_neg (fun e => e (by rw [hg1, ← hs1]; exact congrArg some (u8_eq (d := 60) aS))), if_pos oO]; rfl, by omega⟩
 have h124' := dF h124
 refine W.skip <| W.sr <| WL.m rfl rfl <| WL.m rfl rfl <| WL.p (.nck rfl) rfl <| WL.p (.fa underlying69 rfl sizeOf3 dD rfl) rfl <| WL.r (Rd.ld (isAgg3 _) rfl hk60 rfl) rfl <| WL.p (.iis (((t0 + 2 : Nat) : Int)) (.add rfl rfl (i64w oO)) oO) rfl <| WL.p (.nck rfl) rfl <| WL.p (.fa underlying69 rfl sizeOf3 dD rfl) rfl <| WL.st sizeOf3 rfl rfl rfl hk60 oD (fun w134 hkw134 huw134 hsw134 => ?_)
 have hkw134 : Blk w134 r _ _ := hkw134
 have huw134 : Upd r _ _ := huw134
 have hk135 := hk61.up huw134
 have hv136 := BytesAt.upd hv62 huw134 hne
 have hB137 := Touch.trans hB63 (Touch.of_upd huw134)
 refine WL.nil <| ?_
 refine W.sr <| WL.m rfl rfl <| WL.m rfl rfl <| WL.p (.sub rfl rfl (i64w oO)) rfl <| WL.call hb75 rfl rfl ((r18_pairs p l c refs (D - 1) (hO oO) (objP_adv refs l _) r (t0 + 2) _ ⟨hkw134, hv136⟩ hne hc hl oO)) (fun xv w138 hw138 => ?_)
 obtain ⟨x1, oX, tX, eX, rfl, hpx, hrd1, hT1, hres, htX⟩ := hw138
 have hpx1 := hpx.mono (T := fun k => b1 < k ∧ w.heap.size ≤ k) (fun k hk _ => by have h1 := (hk135).lt; have h2 := hB137.size; omega)
 have hk11 := Blk.touch hk135 hT1 (hk135).lt oO
 have hB1 := Touch.trans hB137 (Touch.mono hT1 hB137.size)
 have hr1 := hrd1.1
 have hv1 := hrd1.2
 refine WL.stL rfl rfl hk11 isz31 rfl rfl (fun w139 hkw139 huw139 hsw139 => ?_)
 have hF140 := PRep.same (w1 := w139) hpx1 (fun k hk hl => huw139.other k (by first | ((try simp only) <;> omega) | (have := hk.1; ((try simp only) <;> omega))))
 have hk141 := hr1.upd huw139 oM
 have hv142 := bup hv1 huw139 hvl5
 have hB143 := Touch.trans hB1 (Touch.of_new huw139 oO)
 refine WL.nil <| ?_
 refine W.ret (W.retc1 rfl rfl (ldRow hkw139 underlying31 rfl isz31)  ?_)
 exact ⟨_, rfl, x1, oX, tX, eX, rfl, (hF140).mono (fun k hk _ => hk.2), ⟨hk141, hv142⟩, hB143, by
  rw [hX, if_neg oO, if_neg (fun e => e (by rw [hg1, ← hs1]; exact congrArg some (u8_eq (d := 60) aS))), if_neg oO, hres], htX⟩
 have h58' := dF h58
 have h60 : l[t0] ≠ 60 := u8_ne (d := 60) aS
 refine W.sr <| WL.p (.eql rfl rfl) rfl <| WL.z rfl rfl ?_
 refine W.cond rfl (fun h144 => ?_) (fun h144 => ?_)
 have h144' := dT h144
 have h91 : l[t0] = 91 := u8_eq aS
 rw [if_pos h91] at hX
 refine W.seq <| W.sr <| WL.m rfl rfl <| WL.p (.lss rfl rfl) rfl <| WL.nil <| ?_
 refine W.cond rfl (fun h145 => ?_) (fun h145 => ?_)
 have h145' := dT h145
 refine W.sr <| WL.m rfl rfl <| WL.c1 hb74 rfl rfl ((r18_fail r p l c t0 refs 0 25 _ ⟨hrd.1, hrd.2⟩ hne)) (fun w146 hw146 => ?_)
 have hk147 := hw146.1.1
 have hk148 := Blk.touch hk1 hw146.2 hk1.lt oO
 have hv149 := hw146.1.2
 have hB150 := Touch.trans hT (Touch.mono hw146.2 hT.size)
 refine WL.stL rfl rfl hk148 isz31 rfl rfl (fun w151 hkw151 huw151 hsw151 => ?_)
 have hk152 := hk147.up huw151
 have hv153 := bup hv149 huw151 hvl5
 have hB154 := Touch.trans hB150 (Touch.of_new huw151 oO)
 refine WL.nil <| ?_
 refine W.ret (W.retc1 rfl rfl (ldRow hkw151 underlying31 rfl isz31)  ?_)
 exact ⟨_, rfl, pc0 0 0 [], pv0 0 0 [], t0, 25, rfl, PRep.zero _ _ _ _ _, ⟨hk152, hv153⟩, hB154, by
  rw [hX, if_pos oO]; rfl, by omega⟩
 have h145' := dF h145
 refine W.skip <| W.sr <| WL.m rfl rfl <| WL.p (.nck rfl) rfl <| WL.p (.fa underlying69 rfl sizeOf3 dD rfl) rfl <| WL.r (Rd.ld (isAgg3 _) rfl hrd.1 rfl) rfl <| WL.p (.iis (((t0 + 1 : Nat) : Int)) (.add rfl rfl (i64w oO)) oO) rfl <| WL.p (.nck rfl) rfl <| WL.p (.fa underlying69 rfl sizeOf3 dD rfl) rfl <| WL.st sizeOf3 rfl rfl rfl hrd.1 oD (fun w155 hkw155 huw155 hsw155 => ?_)
 have hkw155 : Blk w155 r _ _ := hkw155
 have huw155 : Upd r _ _ := huw155
 have hk156 := hk1.up huw155
 have hv157 := BytesAt.upd hrd.2 huw155 hne
 have hB158 := Touch.trans hT (Touch.of_upd huw155)
 refine WL.nil <| ?_
 refine W.sr <| WL.m rfl rfl <| WL.m rfl rfl <| WL.p (.sub rfl rfl (i64w oO)) rfl <| WL.call hb76 rfl rfl ((r18_list p l c refs (D - 1) (hO oO) (objP_adv refs l _) r (t0 + 1) _ ⟨hkw155, hv157⟩ hne hl oO)) (fun xv w159 hw159 => ?_)
 obtain ⟨x1, oX, tX, eX, rfl, hpx, hrd1, hT1, hres, htX⟩ := hw159
 have hpx1 := hpx.mono (T := fun k => b1 < k ∧ w.heap.size ≤ k) (fun k hk _ => by have h1 := (hk156).lt; have h2 := hB158.size; omega)
 have hk11 := Blk.touch hk156 hT1 (hk156).lt oO
 have hB1 := Touch.trans hB158 (Touch.mono hT1 hB158.size)
 have hr1 := hrd1.1
 have hv1 := hrd1.2
 refine WL.stL rfl rfl hk11 isz31 rfl rfl (fun w160 hkw160 huw160 hsw160 => ?_)
 have hF161 := PRep.same (w1 := w160) hpx1 (fun k hk hl => huw160.other k (by first | ((try simp only) <;> omega) | (have := hk.1; ((try simp only) <;> omega))))
 have hk162 := hr1.upd huw160 oM
 have hv163 := bup hv1 huw160 hvl5
 have hB164 := Touch.trans hB1 (Touch.of_new huw160 oO)
 refine WL.nil <| ?_
 refine W.ret (W.retc1 rfl rfl (ldRow hkw160 underlying31 rfl isz31)  ?_)
 exact ⟨_, rfl, x1, oX, tX, eX, rfl, (hF161).mono (fun k hk _ => hk.2), ⟨hk162, hv163⟩, hB164, by
  rw [hX, if_neg oO, hres], htX⟩
 have h144' := dF h144
 have h91 : l[t0] ≠ 91 := u8_ne (d := 91) aS
 rw [if_neg h91, if_neg h40, if_neg h60] at hX
 refine W.skip <| W.sr <| WL.m rfl rfl <| WL.c1 hb49 rfl rfl ((hPc _ ⟨hrd.1, hrd.2⟩)) (fun w165 hw165 => ?_)
 have hk166 := hw165.1.1
 have hk167 := Blk.touch hk1 hw165.2 hk1.lt oO
 have hv168 := hw165.1.2
 have hB169 := Touch.trans hT (Touch.mono hw165.2 hT.size)
 refine WL.m rfl rfl <| WL.p (.ext rfl rfl) rfl <| WL.p (.ext rfl rfl) rfl <| WL.p (.ext rfl rfl) rfl <| WL.alloc zeroValue31 rfl (fun b170 wb170 eb170 hkb170 hub170 hsb170 => ?_)
 have hl172 : r < b170 := by rw [eb170]; exact hk166.lt
 have hk171 := hk166.upd hub170 (Nat.ne_of_lt hl172)
 have hl174 : b1 < b170 := by rw [eb170]; exact hk167.lt
 have hk173 := hk167.upd hub170 (Nat.ne_of_lt hl174)
 have hvl176 := fun h0 => eb170 ▸ hv168.lt h0
 have hv175 := bup hv168 hub170 hvl176
 have hgeb170 : w.heap.size ≤ b170 := by rw [eb170]; exact hB169.size
 have hB177 := Touch.trans hB169 (Touch.of_new hub170 hgeb170)
 refine WL.stL rfl rfl hkb170 isz31 rfl rfl (fun w178 hkw178 huw178 hsw178 => ?_)
 have hk179 := hk171.up huw178
 have hk180 := hk173.up huw178
 have hv181 := bup hv175 huw178 hvl176
 have hB182 := Touch.trans hB177 (Touch.of_new huw178 oO)
 refine WL.a rfl rfl <| WL.z rfl rfl ?_
 refine W.seq <| W.sr <| WL.m rfl rfl <| WL.p (.not rfl) rfl <| WL.nil <| ?_
 refine W.cond rfl (fun h183 => ?_) (fun h183 => ?_)
 have h183' := (nT h183)
 refine W.sr <| WL.m rfl rfl <| WL.c1 hb74 rfl rfl ((r18_fail r p l c _ refs 0 23 _ ⟨hk179, hv181⟩ hne)) (fun w184 hw184 => ?_)
 have hk185 := hw184.1.1
 have hk186 := Blk.touch hk180 hw184.2 hk180.lt oO
 have hv188 := hw184.1.2
 have hB189 := Touch.trans hB182 (Touch.mono hw184.2 hB182.size)
 refine WL.stL rfl rfl hk186 isz31 rfl rfl (fun w190 hkw190 huw190 hsw190 => ?_)
 have hk191 := hk185.up huw190
 have hv193 := bup hv188 huw190 hvl5
 have hB194 := Touch.trans hB189 (Touch.of_new huw190 oO)
 refine WL.nil <| ?_
 refine W.ret (W.retc1 rfl rfl (ldRow hkw190 underlying31 rfl isz31)  ?_)
 exact ⟨_, rfl, pc0 0 0 [], pv0 0 0 [], Wd.np, 23, rfl, PRep.zero _ _ _ _ _, ⟨hk191, hv193⟩, hB194, by
  rw [hX]; unfold plainO; rw [if_neg (bF aS)]; rfl, hWn⟩
 have h183' := (nF h183)
 refine W.skip <| W.sr <| WL.r (Rd.ldA rfl hkw178 underlying31 rfl isz31) rfl <| WL.stL rfl rfl hk180 isz31 rfl rfl (fun w195 hkw195 huw195 hsw195 => ?_)
 have hk196 := hk179.up huw195
 have hv198 := bup hv181 huw195 hvl5
 have hB199 := Touch.trans hB182 (Touch.of_new huw195 oO)
 refine WL.nil <| ?_
 refine W.ret (W.retc1 rfl rfl (ldRow hkw195 underlying31 rfl isz31)  ?_)
 exact ⟨_, rfl, pc0 Wd.kind Wd.n [], pv0 Wd.kind Wd.n [], Wd.np, 0, rfl, PRep.zero _ _ _ _ _, ⟨hk196, hv198⟩, hB199, by
  rw [hX]; unfold plainO; rw [if_pos aS]; rfl, hWn⟩
end
section
theorem RObjC_all (p : Option Addr) (l : List UInt8) (c : Nat) (refs : Bool) (hc : l.length ≤ c) (hl : l.length ≤ 100000000) : ∀ (n : Nat) (D : Int), D.toNat ≤ n → -9223372036854775808 < D ∧ D ≤ 1000000000 → RObjC p l c refs D
 | 0, D, hn, hD => r18_object p l c refs hc hl D hD fun h => by omega
 | n + 1, D, hn, hD => r18_object p l c refs hc hl D hD fun h => RObjC_all p l c refs hc hl n (D - 1) oO oO
end
section
theorem PRep.inv {w : World} {S : Nat → Prop} {x : PC} {o : PV} (h : PRep w S x o) : ∃ (keys : List (List UInt8)) (list : List PV) (cs : List PC), o = .mk x.kind x.n x.text keys list ∧ StrsAt S w (.slice x.kp x.kl x.kc) keys ∧ RowIn S w (.slice x.lp x.ll x.lc) cs ∧ LInv w S cs list := by
 cases h with
 | mk x keys list cs hk hr hlen hsub => exact ⟨keys, list, cs, rfl, hk, hr, hlen, hsub⟩
end
section
theorem lenz {α : Type} {l : List α} (h : (l.length : Int) = 0) : l = [] := List.length_eq_zero_iff.1 oO
theorem len0 {α β : Type} {l : List α} {m : List β} (hl : l.length = m.length) (h : (l.length : Int) = 0) : m = [] := List.length_eq_zero_iff.1 oO
section
variable {D : Int} {st : Bool} {k n : Int} {t : List UInt8} {ks : List (List UInt8)} {l : List AV} {cs : List AC} {d : List UInt8}
theorem fin0 (hl : cs.length = l.length) (hk : k = 0) (hn : n = 0) (ht : t = []) (h1 : (ks.length : Int) = 0) (h2 : (cs.length : Int) = 0) (h3 : (d.length : Int) = 0) : Snd D st (.mk k n t ks l d) := by
 rw [hk, hn, ht, lenz h1, len0 hl h2, lenz h3]; exact .null D st
theorem fin1 (hl : cs.length = l.length) (hk : k = 1) (hn : n = 0 ∨ n = 1) (ht : t = []) (h1 : (ks.length : Int) = 0) (h2 : (cs.length : Int) = 0) (h3 : (d.length : Int) = 0) : Snd D st (.mk k n t ks l d) := by
 rw [hk, ht, lenz h1, len0 hl h2, lenz h3]; exact .bool D st n hn
theorem fin2 (hl : cs.length = l.length) (hk : k = 2 ∨ k = 3) (hn : fitsB n = true) (ht : t = []) (h1 : (ks.length : Int) = 0) (h2 : (cs.length : Int) = 0) (h3 : (d.length : Int) = 0) : Snd D st (.mk k n t ks l d) := by
 rw [ht, lenz h1, len0 hl h2, lenz h3]; exact .num D st k n hk hn
theorem fin4 (hl : cs.length = l.length) (hk : k = 4) (hn : n = 0) (ht : nmOk t) (h1 : (ks.length : Int) = 0) (h2 : (cs.length : Int) = 0) (h3 : (d.length : Int) = 0) : Snd D st (.mk k n t ks l d) := by
 rw [hk, hn, lenz h1, len0 hl h2, lenz h3]; exact .name D st t ht
theorem fin5 (hl : cs.length = l.length) (hk : k = 5) (hn : n = 0) (ht : (t.length : Int) ≤ 65535) (h1 : (ks.length : Int) = 0) (h2 : (cs.length : Int) = 0) (h3 : (d.length : Int) = 0) : Snd D st (.mk k n t ks l d) := by
 rw [hk, hn, lenz h1, len0 hl h2, lenz h3]; exact .text D st t oO
theorem fin8 (hl : cs.length = l.length) (hk : k = 8) (hn : 1 ≤ n) (hn2 : n ≤ 4096) (ht : t = []) (h1 : (ks.length : Int) = 0) (h2 : (cs.length : Int) = 0) (h3 : (d.length : Int) = 0) : Snd D st (.mk k n t ks l d) := by
 rw [hk, ht, lenz h1, len0 hl h2, lenz h3]; exact .ref D st n ⟨hn, hn2⟩
end
/-- what has been seen of a list or a dictionary ahead of its objects -/
def PreS (D : Int) (st : Bool) (k n : Int) (t : List UInt8) (ks : List (List UInt8)) (m : Nat) (d : List UInt8) : Prop :=
 (k = 6 ∧ 1 ≤ D ∧ n = 0 ∧ t = [] ∧ ks = [] ∧ d = []) ∨
 (((k = 7 ∧ d = []) ∨ (k = 9 ∧ st = true ∧ d.length ≤ 1048576 ∧ [76, 101, 110, 103, 116, 104] ∉ ks)) ∧ 1 ≤ D ∧ n = 0 ∧ t = [] ∧ ks.length = m ∧ (∀ x ∈ ks, nmOk x) ∧ ks.Nodup)
theorem PreS.snd {D : Int} {st : Bool} {k n : Int} {t : List UInt8} {ks : List (List UInt8)} {l : List AV} {d : List UInt8} (h : PreS D st k n t ks l.length d) (hl : l.length ≤ 65535) (hs : ∀ o ∈ l, Snd (D - 1) false o) : Snd D st (.mk k n t ks l d) := by
 rcases h with ⟨rfl, h1, rfl, rfl, rfl, rfl⟩ | ⟨h0, h1, rfl, rfl, h2, h3, h4⟩
 ·
  exact .arr D st l h1 hl hs
 ·
  exact .dict D st k ks l d h0 h1 hl h2 h3 h4 hs
theorem PreS.one {D : Int} {st : Bool} {k n : Int} {t : List UInt8} {ks : List (List UInt8)} {m : Nat} {d : List UInt8} (h : PreS D st k n t ks m d) : 1 ≤ D := by
 rcases h with h | h
 ·
  exact h.2.1
 ·
  exact h.2.1
theorem u8_mem {c : UInt8} {l : List UInt8} {i : Nat} (hi : i < l.length) (h : c ∉ l.take i) (hc : l[i] ≠ c) : c ∉ l.take (i + 1) := by
 rw [List.take_add_one, List.getElem?_eq_getElem hi, Option.toList_some, List.mem_append, List.mem_singleton]
 exact fun hx => hx.elim h (fun e => hc e.symm)
/-- may it be a name -/
def nmB (s : List UInt8) : Bool := !decide (0 ∈ s) && decide (1 ≤ (s.length : Int)) && decide ((s.length : Int) ≤ 127)
theorem nmB_ok {s : List UInt8} (h : nmB s = true) : nmOk s := by
 unfold nmB at h
 simp only [Bool.and_eq_true, Bool.not_eq_true', decide_eq_true_eq, decide_eq_false_iff_not] at h
 exact ⟨fun e => by subst e; simp at h, h.1.1, by omega⟩
theorem r18_nameB (s : List UInt8) (w : World) (hs : s.length ≤ 9223372036854775807) :
  Calls Tryz.prog 63 #[.string (bs s)] w fun e w' => e = .returned (.bool (nmB s)) ∧ w = w' := by
 refine W.enter func63 rfl ntmps63 (Nat.le_of_ble_eq_true rfl) ?_
 refine W.sr <| WL.z rfl rfl ?_
 refine W.seq <| W.sr <| WL.z rfl rfl ?_
 refine W.block ?_
 refine W.loop (α := Nat) (fun t => [(0, .string (bs s)), (3, .int .i64 (t : Int))]) (fun t w' => w = w' ∧ t ≤ s.length ∧ 0 ∉ s.take t) (fun t => s.length - t) (0) ⟨rfl, rfl, trivial⟩ (⟨rfl, Nat.zero_le _, by simp⟩) (fun t w1 hR => ?_)
 obtain ⟨i, rfl⟩ : ∃ i, i = t := ⟨t, rfl⟩
 obtain ⟨rfl, hi, hno⟩ := hR
 refine W.seq <| W.sr <| WL.m rfl rfl <| WL.m rfl rfl <| WL.p (.len underlying9 rfl) rfl <| WL.p (.lss rfl rfl) rfl <| WL.nil <| ?_
 refine W.cond rfl (fun h1 => ?_) (fun h1 => ?_)
 have h1' := dT h1
 refine W.skip <| W.seq <| W.block <| W.sr <| WL.m rfl rfl <| WL.m rfl rfl <| WL.p (.ix underlying9 rfl rfl (i) (rfl) oO) rfl <| WL.p (.eql rfl rfl) rfl <| WL.nil <| ?_
 refine W.cond rfl (fun h2 => ?_) (fun h2 => ?_)
 have h2' := dT h2
 refine W.sr <| WL.z rfl rfl ?_
 refine W.ret (W.ret1 rfl rfl ?_)
 exact ⟨ret_bool (by unfold nmB; rw [show decide (0 ∈ s) = true from decide_eq_true (by rw [← show s[i]'oO = 0 from u8_eq (d := 0) aS]; exact List.getElem_mem _)]; rfl), rfl⟩
 have h2' := dF h2
 refine W.skip <| W.reg <| WL.m rfl rfl <| WL.p (.iis (((i + 1 : Nat) : Int)) (.add rfl rfl (i64w oO)) oO) rfl <| WL.z rfl rfl ?_
 exact ⟨i + 1, ⟨rfl, rfl, trivial⟩, ⟨rfl, by ((try simp only) <;> omega), u8_mem oO hno (u8_ne (d := 0) aS)⟩, by ((try simp only) <;> omega)⟩
 have h1' := dF h1
 refine W.exit <| W.seq ?_
 have hz : 0 ∉ s := by rw [← List.take_of_length_le (show s.length ≤ i by omega)]; exact hno
 refine W.reg <| WL.m rfl rfl <| WL.p (.len underlying9 rfl) rfl <| WL.p (.geq rfl rfl) rfl <| WL.m rfl rfl <| WL.gd rfl rfl rfl (fun g3 => ?_) (fun g3 => ?_)
 have g3' := dT g3
 refine WL.m rfl rfl <| WL.gy rfl rfl rfl g3 <| WL.p (.len underlying9 rfl) rfl <| WL.gy rfl rfl rfl g3 <| WL.p (.leq rfl rfl) rfl <| WL.p (.pkT rfl g3 rfl) rfl <| WL.z rfl rfl ?_
 refine W.ret (W.ret1 rfl rfl ?_)
 exact ⟨ret_bool (by unfold nmB; rw [decide_eq_false hz, show decide (1 ≤ (s.length : Int)) = true from decide_eq_true oO]; rfl), rfl⟩
 have g3' := dF g3
 refine WL.gn rfl rfl rfl g3 <| WL.gn rfl rfl rfl g3 <| WL.p (.pkF rfl g3 rfl) rfl <| WL.z rfl rfl ?_
 refine W.ret (W.ret1 rfl rfl ?_)
 exact ⟨ret_bool (by unfold nmB; rw [decide_eq_false hz, show decide (1 ≤ (s.length : Int)) = false from decide_eq_false oO]; rfl), rfl⟩
/-- is an object not too large: it says yes or no -/
theorem law_light : ∀ (n : Nat) (o : AV), SizeOf.sizeOf o < n → ∀ (x : AC) (S : Nat → Prop) (D : Int) (w : World), ARep w S x o → -1 ≤ D → D ≤ 100 →
  Calls Tryz.prog 15 #[.agg (acV x).toArray, .int .i64 D] w fun e w' => ∃ b, e = .returned (.bool b) ∧ Below w.heap.size w w' := by
 intro n
 induction n with
 | zero => intro o h; omega
 | succ n ih =>
 intro o hn x S D w hx hD hD2
 obtain ⟨keys, list, data, cs, rfl, ok, hkl, hk, hks, hr, hrs, hd, hds, hcl, hsub⟩ := hx.inv
 obtain ⟨k, i, s, kp, kl, kc, lp, ll, lc, dp, dl, dc⟩ := x
 have e1 := ok.kl; have e2 := ok.ll; have e3 := ok.dl
 have m1 := ok.kc; have m2 := ok.lc; have m3 := ok.dc; have m4 := ok.km; have m5 := ok.lm; have m6 := ok.dm; have m7 := ok.text
 simp only at e1 e2 e3 m1 m2 m3 m4 m5 m6 m7 hk hr hd hrs
 subst e1; subst e2; subst e3
 simp only [AV.mk.sizeOf_spec] at hn
 have hsz : ∀ j (h : j < list.length), SizeOf.sizeOf list[j] < n := fun j h => by have := List.sizeOf_lt_of_mem (List.getElem_mem h); omega
 have hs0 : AInv w S cs list := ⟨hcl, hsub⟩
 simp only [acV]
 refine W.enter func15 rfl ntmps15 (Nat.le_of_ble_eq_true rfl) ?_
 have hB0 := Below.refl (w.heap.size) w
 refine W.sr <| WL.box rfl rfl (fun b1 wb1 eb1 hkb1 hub1 hsb1 => ?_)
 have hF2 := AInv.same (w1 := wb1) hs0 (fun k hk hl => hub1.other k oO)
 have hvl4 := fun h0 => eb1 ▸ hr.lt h0
 have hv3 := RowM.upd hr hub1 (fun h0 => Nat.ne_of_lt (hvl4 h0))
 have hB5 := Upd.below hB0 (by rw [eb1]; exact hB0.size) hub1
 have hgeb1 : w.heap.size ≤ b1 := by rw [eb1]; exact hB0.size
 refine WL.z rfl rfl ?_
 refine W.seq <| W.sr <| WL.m rfl rfl <| WL.p (.lss rfl rfl) rfl <| WL.m rfl rfl <| WL.gd rfl rfl rfl (fun g6 => ?_) (fun g6 => ?_)
 have g6' := dF g6
 refine WL.p (.fa underlying31 rfl sizeOf29 dD rfl) rfl <| WL.gy rfl rfl rfl g6 <| WL.r (Rd.ld (isAgg29 _) rfl hkb1 rfl) rfl <| WL.gy rfl rfl rfl g6 <| WL.p (.lenS underlying29 rfl) rfl <| WL.gy rfl rfl rfl g6 <| WL.p (.gtr rfl rfl) rfl <| WL.p (.pkF rfl g6 rfl) rfl <| WL.m rfl rfl <| WL.gd rfl rfl rfl (fun g7 => ?_) (fun g7 => ?_)
 have g7' := dF g7
 refine WL.p (.fa underlying31 rfl sizeOf28 dD rfl) rfl <| WL.gy rfl rfl rfl g7 <| WL.r (Rd.ld (isAgg28 _) rfl hkb1 rfl) rfl <| WL.gy rfl rfl rfl g7 <| WL.p (.lenS underlying28 rfl) rfl <| WL.gy rfl rfl rfl g7 <| WL.p (.gtr rfl rfl) rfl <| WL.p (.pkF rfl g7 rfl) rfl <| WL.m rfl rfl <| WL.gd rfl rfl rfl (fun g8 => ?_) (fun g8 => ?_)
 have g8' := dF g8
 refine WL.p (.fa underlying31 rfl sizeOf9 dD rfl) rfl <| WL.gy rfl rfl rfl g8 <| WL.r (Rd.ld (isAgg9 _) rfl hkb1 rfl) rfl <| WL.gy rfl rfl rfl g8 <| WL.p (.len underlying9 rfl) rfl <| WL.gy rfl rfl rfl g8 <| WL.p (.gtr rfl rfl) rfl <| WL.p (.pkF rfl g8 rfl) rfl <| WL.m rfl rfl <| WL.gd rfl rfl rfl (fun g9 => ?_) (fun g9 => ?_)
 have g9' := dF g9
 refine WL.p (.fa underlying31 rfl sizeOf22 dD rfl) rfl <| WL.gy rfl rfl rfl g9 <| WL.r (Rd.ld (isAgg22 _) rfl hkb1 rfl) rfl <| WL.gy rfl rfl rfl g9 <| WL.p (.lenS underlying22 rfl) rfl <| WL.gy rfl rfl rfl g9 <| WL.p (.gtr rfl rfl) rfl <| WL.p (.pkF rfl g9 rfl) rfl <| WL.nil <| ?_
 refine W.cond rfl (fun h10 => ?_) (fun h10 => ?_)
 have h10' := dT h10
 refine W.sr <| WL.z rfl rfl ?_
 refine W.ret (W.ret1 rfl rfl ?_)
 exact ⟨_, rfl, hB5⟩
 have h10' := dF h10
 refine W.skip <| W.seq <| W.sr <| WL.z rfl rfl ?_
 refine W.block ?_
 refine W.loop (α := Nat) (fun t => [(1, .int .i64 D), (2, .pointer (some ⟨b1, 0, none⟩)), (5, .int .i64 (t : Int))]) (fun t w' => Below w.heap.size w w' ∧ Blk w' b1 #[.int .i64 k, .int .i64 i, .string (bs s), .slice kp keys.length kc, .slice lp cs.length lc, .slice dp data.length dc] 31 ∧ RowM acL w' lp cs ∧ AInv w' S cs list ∧ t ≤ cs.length) (fun t => cs.length - t) (0) ⟨rfl, rfl, rfl, trivial⟩ (⟨hB5, hkb1, hv3, hF2, Nat.zero_le _⟩) (fun t w1 hR => ?_)
 obtain ⟨i0, rfl⟩ : ∃ i, i = t := ⟨t, rfl⟩
 obtain ⟨hT1, hk1, hlx1, hf1, ht⟩ := hR
 refine W.seq <| W.sr <| WL.m rfl rfl <| WL.p (.fa underlying31 rfl sizeOf29 dD rfl) rfl <| WL.r (Rd.ld (isAgg29 _) rfl hk1 rfl) rfl <| WL.p (.lenS underlying29 rfl) rfl <| WL.p (.lss rfl rfl) rfl <| WL.nil <| ?_
 refine W.cond rfl (fun h11 => ?_) (fun h11 => ?_)
 have h11' := dT h11
 refine W.skip <| W.seq <| W.block <| W.sr <| WL.p (.fa underlying31 rfl sizeOf29 dD rfl) rfl <| WL.r (Rd.ld (isAgg29 _) rfl hk1 rfl) rfl <| WL.m rfl rfl <| WL.p (.ixm underlying29 sizeOf31 rfl rfl (hlx1.isp oO) (i0) (rfl) oO) rfl <| WL.r (Rd.ldS underlying31 rfl isz31 hlx1 (i0) oO rfl) rfl <| WL.m rfl rfl <| WL.p (.sub rfl rfl (i64w oO)) rfl <| WL.call hb15 rfl rfl ((ih (list[i0]'oO) (hsz i0 oO) _ S (D - 1) _ ((hf1).sub i0 oO oO) oO oO)) (fun qb w12 hw12 => ?_)
 have hF13 := AInv.same (w1 := w12) hf1 (fun k hk hl => hw12.block k hl)
 have hk14 := hk1.below hw12 hk1.lt
 have hv15 := RowM.below hlx1 hw12 (fun h0 => hlx1.lt h0)
 have hB16 := btr hT1 hw12
 refine WL.p (.not rfl) rfl <| WL.nil <| ?_
 refine W.cond rfl (fun h17 => ?_) (fun h17 => ?_)
 have h17' := (nT h17)
 refine W.sr <| WL.z rfl rfl ?_
 refine W.ret (W.ret1 rfl rfl ?_)
 exact ⟨_, rfl, hB16⟩
 have h17' := (nF h17)
 refine W.skip <| W.reg <| WL.m rfl rfl <| WL.p (.iis (((i0 + 1 : Nat) : Int)) (.add rfl rfl (i64w oO)) oO) rfl <| WL.z rfl rfl ?_
 exact ⟨i0 + 1, ⟨rfl, rfl, rfl, trivial⟩, ⟨hB16, hk14, hv15, hF13, by ((try simp only) <;> omega)⟩, by ((try simp only) <;> omega)⟩
 have h11' := dF h11
 refine W.exit <| W.sr <| WL.z rfl rfl ?_
 refine W.ret (W.ret1 rfl rfl ?_)
 exact ⟨_, rfl, hT1⟩
 have g9' := dT g9
 refine WL.gn rfl rfl rfl g9 <| WL.gn rfl rfl rfl g9 <| WL.gn rfl rfl rfl g9 <| WL.p (.pkT rfl g9 rfl) rfl <| WL.nil <| ?_
 refine W.condT rfl rfl ?_
 refine W.sr <| WL.z rfl rfl ?_
 refine W.ret (W.ret1 rfl rfl ?_)
 exact ⟨_, rfl, hB5⟩
 have g8' := dT g8
 refine WL.gn rfl rfl rfl g8 <| WL.gn rfl rfl rfl g8 <| WL.gn rfl rfl rfl g8 <| WL.p (.pkT rfl g8 rfl) rfl <| WL.m rfl rfl <| WL.gn rfl rfl rfl rfl <| WL.gn rfl rfl rfl rfl <| WL.gn rfl rfl rfl rfl <| WL.gn rfl rfl rfl rfl <| WL.p (.pkT rfl rfl rfl) rfl <| WL.nil <| ?_
 refine W.condT rfl rfl ?_
 refine W.sr <| WL.z rfl rfl ?_
 refine W.ret (W.ret1 rfl rfl ?_)
 exact ⟨_, rfl, hB5⟩
 have g7' := dT g7
 refine WL.gn rfl rfl rfl g7 <| WL.gn rfl rfl rfl g7 <| WL.gn rfl rfl rfl g7 <| WL.p (.pkT rfl g7 rfl) rfl <| WL.m rfl rfl <| WL.gn rfl rfl rfl rfl <| WL.gn rfl rfl rfl rfl <| WL.gn rfl rfl rfl rfl <| WL.gn rfl rfl rfl rfl <| WL.p (.pkT rfl rfl rfl) rfl <| WL.m rfl rfl <| WL.gn rfl rfl rfl rfl <| WL.gn rfl rfl rfl rfl <| WL.gn rfl rfl rfl rfl <| WL.gn rfl rfl rfl rfl <| WL.p (.pkT rfl rfl rfl) rfl <| WL.nil <| ?_
 refine W.condT rfl rfl ?_
 refine W.sr <| WL.z rfl rfl ?_
 refine W.ret (W.ret1 rfl rfl ?_)
 exact ⟨_, rfl, hB5⟩
 have g6' := dT g6
 refine WL.gn rfl rfl rfl g6 <| WL.gn rfl rfl rfl g6 <| WL.gn rfl rfl rfl g6 <| WL.p (.pkT rfl g6 rfl) rfl <| WL.m rfl rfl <| WL.gn rfl rfl rfl rfl <| WL.gn rfl rfl rfl rfl <| WL.gn rfl rfl rfl rfl <| WL.gn rfl rfl rfl rfl <| WL.p (.pkT rfl rfl rfl) rfl <| WL.m rfl rfl <| WL.gn rfl rfl rfl rfl <| WL.gn rfl rfl rfl rfl <| WL.gn rfl rfl rfl rfl <| WL.gn rfl rfl rfl rfl <| WL.p (.pkT rfl rfl rfl) rfl <| WL.m rfl rfl <| WL.gn rfl rfl rfl rfl <| WL.gn rfl rfl rfl rfl <| WL.gn rfl rfl rfl rfl <| WL.gn rfl rfl rfl rfl <| WL.p (.pkT rfl rfl rfl) rfl <| WL.nil <| ?_
 refine W.condT rfl rfl ?_
 refine W.sr <| WL.z rfl rfl ?_
 refine W.ret (W.ret1 rfl rfl ?_)
 exact ⟨_, rfl, hB5⟩
end
section
theorem ref_fits (n : Int) (w : World) : Calls Tryz.prog 62 #[.int .i64 n] w fun e w' => e = .returned (.bool (fitsB n)) ∧ w = w' :=
 (ref_Fits n w).mono fun e w' h => ⟨h.1, h.2⟩
/-- keys, the first so many of which are names, not one of them twice -/
def KeysB (k : Int) (ks : List (List UInt8)) (i : Nat) : Prop := (∀ x ∈ ks.take i, nmOk x) ∧ (ks.take i).Nodup ∧ (k = 9 → [76, 101, 110, 103, 116, 104] ∉ ks.take i)
theorem KeysB.step {k : Int} {ks : List (List UInt8)} {i : Nat} (h : KeysB k ks i) (hi : i < ks.length) (h1 : nmOk ks[i]) (h2 : ks[i] ∉ ks.take i) (h3 : k = 9 → ks[i] ≠ [76, 101, 110, 103, 116, 104]) : KeysB k ks (i + 1) := by
 have e : ks.take (i + 1) = ks.take i ++ [ks[i]] := List.take_succ_eq_append_getElem hi
 refine ⟨fun x hx => ?_, ?_, fun hk hx => ?_⟩
 ·
  rw [e] at hx
  rcases List.mem_append.1 hx with hx | hx
  ·
   exact h.1 x hx
  ·
   rw [List.mem_singleton.1 hx]; exact h1
 ·
  rw [e, List.nodup_append]
  refine ⟨h.2.1, by simp, fun a ha b hb => ?_⟩
  rw [List.mem_singleton.1 hb]
  exact fun e => h2 (e ▸ ha)
 ·
  rw [e] at hx
  rcases List.mem_append.1 hx with hx | hx
  ·
   exact h.2.2 hk hx
  ·
   exact h3 hk (List.mem_singleton.1 hx).symm
theorem str_mem {c : List UInt8} {l : List (List UInt8)} {i : Nat} (hi : i < l.length) (h : c ∉ l.take i) (hc : ¬ l[i] = c) : c ∉ l.take (i + 1) := by
 rw [List.take_add_one, List.getElem?_eq_getElem hi, Option.toList_some, List.mem_append, List.mem_singleton]
 exact fun hx => hx.elim h (fun e => hc e.symm)
set_option maxHeartbeats 1000000 in
theorem r18_soundA : ∀ (n : Nat) (o : AV), SizeOf.sizeOf o < n → ∀ (x : AC) (S : Nat → Prop) (D : Int) (st : Bool) (w : World), ARep w S x o → -1 ≤ D → D ≤ 100 →
  Calls Tryz.prog 36 #[.agg (acV x).toArray, .int .i64 D, .bool st] w fun e w' => ∃ b : { b : Bool // b = true → Snd D st o }, e = .returned (.bool b.1) ∧ Below w.heap.size w w' := by
 intro n
 induction n with
 | zero => intro o h; omega
 | succ n ih =>
 intro o hn x S D st w hx hD hD2
 obtain ⟨keys, list, data, cs, rfl, ok, hkl, hk, hks, hr, hrs, hd, hds, hcl, hsub⟩ := hx.inv
 obtain ⟨k, i, s, kp, kl, kc, lp, ll, lc, dp, dl, dc⟩ := x
 have e1 := ok.kl; have e2 := ok.ll; have e3 := ok.dl
 have m1 := ok.kc; have m2 := ok.lc; have m3 := ok.dc; have m4 := ok.km; have m5 := ok.lm; have m6 := ok.dm; have m7 := ok.text
 simp only at e1 e2 e3 m1 m2 m3 m4 m5 m6 m7 hk hr hd hrs ⊢
 subst e1; subst e2; subst e3
 simp only [AV.mk.sizeOf_spec] at hn
 have hsz : ∀ j (h : j < list.length), SizeOf.sizeOf list[j] < n := fun j h => by have := List.sizeOf_lt_of_mem (List.getElem_mem h); omega
 have hs0 : AInv w S cs list := ⟨hcl, hsub⟩
 simp only [acV]
 have hklen : ∀ j (h : j < keys.length), keys[j].length ≤ 9223372036854775807 := fun j h => hkl _ (List.getElem_mem h)
 obtain ⟨bD, hbD⟩ : ∃ b, b = decide (D < 1) := ⟨_, rfl⟩
 obtain ⟨b7, hb7⟩ : ∃ b, b = decide (i = 0) := ⟨_, rfl⟩
 obtain ⟨b8, hb8⟩ : ∃ b, b = decide (s = []) := ⟨_, rfl⟩
 obtain ⟨b9, hb9⟩ : ∃ b, b = decide ((keys.length : Int) = 0) := ⟨_, rfl⟩
 obtain ⟨b10, hb10⟩ : ∃ b, b = decide ((cs.length : Int) = 0) := ⟨_, rfl⟩
 obtain ⟨b11, hb11⟩ : ∃ b, b = decide ((data.length : Int) = 0) := ⟨_, rfl⟩
 obtain ⟨bm, hbm⟩ : ∃ b, b = !decide ((keys.length : Int) = (cs.length : Int)) := ⟨_, rfl⟩
 obtain ⟨b71, hb71⟩ : ∃ b, b = decide (k = 7) := ⟨_, rfl⟩
 obtain ⟨b91, hb91⟩ : ∃ b, b = decide (k = 9) := ⟨_, rfl⟩
 obtain ⟨bg, hbg⟩ : ∃ b, b = decide ((data.length : Int) > 1048576) := ⟨_, rfl⟩
 refine W.enter func36 rfl ntmps36 (Nat.le_of_ble_eq_true rfl) ?_
 have hB0 := Below.refl (w.heap.size) w
 refine W.sr <| WL.box rfl rfl (fun b1 wb1 eb1 hkb1 hub1 hsb1 => ?_)
 have hF2 := AInv.same (w1 := wb1) hs0 (fun k hk hl => hub1.other k oO)
 have hvl4 := fun h0 => eb1 ▸ hk.lt h0
 have hv3 := RowAt.upd hk hub1 (fun h0 => Nat.ne_of_lt (hvl4 h0))
 have hvl6 := fun h0 => eb1 ▸ hr.lt h0
 have hv5 := RowM.upd hr hub1 (fun h0 => Nat.ne_of_lt (hvl6 h0))
 have hB7 := Upd.below hB0 (by rw [eb1]; exact hB0.size) hub1
 have hgeb1 : w.heap.size ≤ b1 := by rw [eb1]; exact hB0.size
 refine WL.z rfl rfl ?_
 refine W.sr <| WL.p (.fa underlying31 rfl sizeOf3 dD rfl) rfl <| WL.r (Rd.ld (isAgg3 _) rfl hkb1 rfl) rfl <| WL.p (.bis (b7) (.eql rfl rfl) (by exact hb7.symm)) rfl <| WL.z rfl rfl ?_
 refine W.sr <| WL.p (.fa underlying31 rfl sizeOf9 dD rfl) rfl <| WL.r (Rd.ld (isAgg9 _) rfl hkb1 rfl) rfl <| WL.p (.bis (b8) (.eqs rfl rfl) (by exact hb8.symm)) rfl <| WL.z rfl rfl ?_
 refine W.sr <| WL.p (.fa underlying31 rfl sizeOf28 dD rfl) rfl <| WL.r (Rd.ld (isAgg28 _) rfl hkb1 rfl) rfl <| WL.p (.lenS underlying28 rfl) rfl <| WL.p (.bis (b9) (.eql rfl rfl) (by exact hb9.symm)) rfl <| WL.z rfl rfl ?_
 refine W.sr <| WL.p (.fa underlying31 rfl sizeOf29 dD rfl) rfl <| WL.r (Rd.ld (isAgg29 _) rfl hkb1 rfl) rfl <| WL.p (.lenS underlying29 rfl) rfl <| WL.p (.bis (b10) (.eql rfl rfl) (by exact hb10.symm)) rfl <| WL.z rfl rfl ?_
 refine W.sr <| WL.p (.fa underlying31 rfl sizeOf22 dD rfl) rfl <| WL.r (Rd.ld (isAgg22 _) rfl hkb1 rfl) rfl <| WL.p (.lenS underlying22 rfl) rfl <| WL.p (.bis (b11) (.eql rfl rfl) (by exact hb11.symm)) rfl <| WL.z rfl rfl ?_
 refine W.cut (α := Unit) (fun t => [(1, .int .i64 D), (3, .pointer (some ⟨b1, 0, none⟩))]) (fun t w' => Below w.heap.size w w' ∧ Blk w' b1 #[.int .i64 k, .int .i64 i, .string (bs s), .slice kp keys.length kc, .slice lp cs.length lc, .slice dp data.length dc] 31 ∧ RowM acL w' lp cs ∧ AInv w' S cs list ∧ PreS D st k i s keys list.length data) ?_ (fun t w1 hR => ?_)
 refine W.sr <| WL.p (.fa underlying31 rfl sizeOf3 dD rfl) rfl <| WL.r (Rd.ld (isAgg3 _) rfl hkb1 rfl) rfl <| WL.nil <| ?_
 refine W.block <| W.sr <| WL.p (.eql rfl rfl) rfl <| WL.z rfl rfl ?_
 refine W.cond rfl (fun h8 => ?_) (fun h8 => ?_)
 have h8' := dT h8
 refine W.sr <| WL.m rfl rfl <| WL.m rfl rfl <| WL.gd rfl rfl rfl (fun g9 => ?_) (fun g9 => ?_)
 refine WL.m rfl rfl <| WL.p (.pkT rfl g9 rfl) rfl <| WL.m rfl rfl <| WL.gd rfl rfl rfl (fun g10 => ?_) (fun g10 => ?_)
 refine WL.m rfl rfl <| WL.p (.pkT rfl g10 rfl) rfl <| WL.m rfl rfl <| WL.gd rfl rfl rfl (fun g11 => ?_) (fun g11 => ?_)
 refine WL.m rfl rfl <| WL.p (.pkT rfl g11 rfl) rfl <| WL.m rfl rfl <| WL.gd rfl rfl rfl (fun g12 => ?_) (fun g12 => ?_)
 refine WL.m rfl rfl <| WL.p (.pkT rfl g12 rfl) rfl <| WL.z rfl rfl ?_
 refine W.ret (W.ret1 rfl rfl ?_)
 exact ⟨⟨_, fun hb => fin0 hcl aS (dT (hb7.symm.trans aS)) (dT (hb8.symm.trans aS)) (dT (hb9.symm.trans aS)) (dT (hb10.symm.trans aS)) (dT (hb11.symm.trans hb))⟩, rfl, hB7⟩
 refine WL.p (.pkF rfl g12 rfl) rfl <| WL.z rfl rfl ?_
 refine W.ret (W.ret1 rfl rfl ?_)
 exact ⟨⟨false, fun h => by cases h⟩, rfl, hB7⟩
 refine WL.p (.pkF rfl g11 rfl) rfl <| WL.m rfl rfl <| WL.gn rfl rfl rfl rfl <| WL.p (.pkF rfl rfl rfl) rfl <| WL.z rfl rfl ?_
 refine W.ret (W.ret1 rfl rfl ?_)
 exact ⟨⟨false, fun h => by cases h⟩, rfl, hB7⟩
 refine WL.p (.pkF rfl g10 rfl) rfl <| WL.m rfl rfl <| WL.gn rfl rfl rfl rfl <| WL.p (.pkF rfl rfl rfl) rfl <| WL.m rfl rfl <| WL.gn rfl rfl rfl rfl <| WL.p (.pkF rfl rfl rfl) rfl <| WL.z rfl rfl ?_
 refine W.ret (W.ret1 rfl rfl ?_)
 exact ⟨⟨false, fun h => by cases h⟩, rfl, hB7⟩
 refine WL.p (.pkF rfl g9 rfl) rfl <| WL.m rfl rfl <| WL.gn rfl rfl rfl rfl <| WL.p (.pkF rfl rfl rfl) rfl <| WL.m rfl rfl <| WL.gn rfl rfl rfl rfl <| WL.p (.pkF rfl rfl rfl) rfl <| WL.m rfl rfl <| WL.gn rfl rfl rfl rfl <| WL.p (.pkF rfl rfl rfl) rfl <| WL.z rfl rfl ?_
 refine W.ret (W.ret1 rfl rfl ?_)
 exact ⟨⟨false, fun h => by cases h⟩, rfl, hB7⟩
 have h8' := dF h8
 refine W.sr <| WL.p (.eql rfl rfl) rfl <| WL.z rfl rfl ?_
 refine W.cond rfl (fun h13 => ?_) (fun h13 => ?_)
 have h13' := dT h13
 refine W.sr <| WL.p (.fa underlying31 rfl sizeOf3 dD rfl) rfl <| WL.r (Rd.ld (isAgg3 _) rfl hkb1 rfl) rfl <| WL.p (.eql rfl rfl) rfl <| WL.m rfl rfl <| WL.gd rfl rfl rfl (fun g14 => ?_) (fun g14 => ?_)
 have g14' := dF g14
 refine WL.p (.fa underlying31 rfl sizeOf3 dD rfl) rfl <| WL.gy rfl rfl rfl g14 <| WL.r (Rd.ld (isAgg3 _) rfl hkb1 rfl) rfl <| WL.gy rfl rfl rfl g14 <| WL.p (.eql rfl rfl) rfl <| WL.p (.pkF rfl g14 rfl) rfl <| WL.m rfl rfl <| WL.gd rfl rfl rfl (fun g15 => ?_) (fun g15 => ?_)
 have g15' := dT g15
 refine WL.m rfl rfl <| WL.p (.pkT rfl g15 rfl) rfl <| WL.m rfl rfl <| WL.gd rfl rfl rfl (fun g16 => ?_) (fun g16 => ?_)
 refine WL.m rfl rfl <| WL.p (.pkT rfl g16 rfl) rfl <| WL.m rfl rfl <| WL.gd rfl rfl rfl (fun g17 => ?_) (fun g17 => ?_)
 refine WL.m rfl rfl <| WL.p (.pkT rfl g17 rfl) rfl <| WL.m rfl rfl <| WL.gd rfl rfl rfl (fun g18 => ?_) (fun g18 => ?_)
 refine WL.m rfl rfl <| WL.p (.pkT rfl g18 rfl) rfl <| WL.z rfl rfl ?_
 refine W.ret (W.ret1 rfl rfl ?_)
 exact ⟨⟨_, fun hb => fin1 hcl aS (by first | exact .inl aS | exact .inr aS) (dT (hb8.symm.trans aS)) (dT (hb9.symm.trans aS)) (dT (hb10.symm.trans aS)) (dT (hb11.symm.trans hb))⟩, rfl, hB7⟩
 refine WL.p (.pkF rfl g18 rfl) rfl <| WL.z rfl rfl ?_
 refine W.ret (W.ret1 rfl rfl ?_)
 exact ⟨⟨false, fun h => by cases h⟩, rfl, hB7⟩
 refine WL.p (.pkF rfl g17 rfl) rfl <| WL.m rfl rfl <| WL.gn rfl rfl rfl rfl <| WL.p (.pkF rfl rfl rfl) rfl <| WL.z rfl rfl ?_
 refine W.ret (W.ret1 rfl rfl ?_)
 exact ⟨⟨false, fun h => by cases h⟩, rfl, hB7⟩
 refine WL.p (.pkF rfl g16 rfl) rfl <| WL.m rfl rfl <| WL.gn rfl rfl rfl rfl <| WL.p (.pkF rfl rfl rfl) rfl <| WL.m rfl rfl <| WL.gn rfl rfl rfl rfl <| WL.p (.pkF rfl rfl rfl) rfl <| WL.z rfl rfl ?_
 refine W.ret (W.ret1 rfl rfl ?_)
 exact ⟨⟨false, fun h => by cases h⟩, rfl, hB7⟩
 have g15' := dF g15
 refine WL.p (.pkF rfl g15 rfl) rfl <| WL.m rfl rfl <| WL.gn rfl rfl rfl rfl <| WL.p (.pkF rfl rfl rfl) rfl <| WL.m rfl rfl <| WL.gn rfl rfl rfl rfl <| WL.p (.pkF rfl rfl rfl) rfl <| WL.m rfl rfl <| WL.gn rfl rfl rfl rfl <| WL.p (.pkF rfl rfl rfl) rfl <| WL.z rfl rfl ?_
 refine W.ret (W.ret1 rfl rfl ?_)
 exact ⟨⟨false, fun h => by cases h⟩, rfl, hB7⟩
 have g14' := dT g14
 refine WL.gn rfl rfl rfl g14 <| WL.gn rfl rfl rfl g14 <| WL.p (.pkT rfl g14 rfl) rfl <| WL.m rfl rfl <| WL.gy rfl rfl rfl rfl <| WL.m rfl rfl <| WL.p (.pkT rfl rfl rfl) rfl <| WL.m rfl rfl <| WL.gd rfl rfl rfl (fun g19 => ?_) (fun g19 => ?_)
 refine WL.m rfl rfl <| WL.p (.pkT rfl g19 rfl) rfl <| WL.m rfl rfl <| WL.gd rfl rfl rfl (fun g20 => ?_) (fun g20 => ?_)
 refine WL.m rfl rfl <| WL.p (.pkT rfl g20 rfl) rfl <| WL.m rfl rfl <| WL.gd rfl rfl rfl (fun g21 => ?_) (fun g21 => ?_)
 refine WL.m rfl rfl <| WL.p (.pkT rfl g21 rfl) rfl <| WL.z rfl rfl ?_
 refine W.ret (W.ret1 rfl rfl ?_)
 exact ⟨⟨_, fun hb => fin1 hcl aS (by first | exact .inl aS | exact .inr aS) (dT (hb8.symm.trans aS)) (dT (hb9.symm.trans aS)) (dT (hb10.symm.trans aS)) (dT (hb11.symm.trans hb))⟩, rfl, hB7⟩
 refine WL.p (.pkF rfl g21 rfl) rfl <| WL.z rfl rfl ?_
 refine W.ret (W.ret1 rfl rfl ?_)
 exact ⟨⟨false, fun h => by cases h⟩, rfl, hB7⟩
 refine WL.p (.pkF rfl g20 rfl) rfl <| WL.m rfl rfl <| WL.gn rfl rfl rfl rfl <| WL.p (.pkF rfl rfl rfl) rfl <| WL.z rfl rfl ?_
 refine W.ret (W.ret1 rfl rfl ?_)
 exact ⟨⟨false, fun h => by cases h⟩, rfl, hB7⟩
 refine WL.p (.pkF rfl g19 rfl) rfl <| WL.m rfl rfl <| WL.gn rfl rfl rfl rfl <| WL.p (.pkF rfl rfl rfl) rfl <| WL.m rfl rfl <| WL.gn rfl rfl rfl rfl <| WL.p (.pkF rfl rfl rfl) rfl <| WL.z rfl rfl ?_
 refine W.ret (W.ret1 rfl rfl ?_)
 exact ⟨⟨false, fun h => by cases h⟩, rfl, hB7⟩
 have h13' := dF h13
 refine W.seq <| W.sr <| WL.p (.eql rfl rfl) rfl <| WL.z rfl rfl ?_
 refine W.cond rfl (fun h22 => ?_) (fun h22 => ?_)
 have h22' := dT h22
 refine W.skip <| W.condT rfl h22 ?_
 refine W.sr <| WL.p (.fa underlying31 rfl sizeOf3 dD rfl) rfl <| WL.r (Rd.ld (isAgg3 _) rfl hkb1 rfl) rfl <| WL.c1 hb62 rfl rfl ((ref_fits _ _)) (fun w23 hw23 => ?_)
 obtain rfl := hw23
 refine WL.m rfl rfl <| WL.gd rfl rfl rfl (fun g24 => ?_) (fun g24 => ?_)
 refine WL.m rfl rfl <| WL.p (.pkT rfl g24 rfl) rfl <| WL.m rfl rfl <| WL.gd rfl rfl rfl (fun g25 => ?_) (fun g25 => ?_)
 refine WL.m rfl rfl <| WL.p (.pkT rfl g25 rfl) rfl <| WL.m rfl rfl <| WL.gd rfl rfl rfl (fun g26 => ?_) (fun g26 => ?_)
 refine WL.m rfl rfl <| WL.p (.pkT rfl g26 rfl) rfl <| WL.m rfl rfl <| WL.gd rfl rfl rfl (fun g27 => ?_) (fun g27 => ?_)
 refine WL.m rfl rfl <| WL.p (.pkT rfl g27 rfl) rfl <| WL.z rfl rfl ?_
 refine W.ret (W.ret1 rfl rfl ?_)
 exact ⟨⟨_, fun hb => fin2 hcl (by first | exact .inl aS | exact .inr aS) aS (dT (hb8.symm.trans aS)) (dT (hb9.symm.trans aS)) (dT (hb10.symm.trans aS)) (dT (hb11.symm.trans hb))⟩, rfl, hB7⟩
 refine WL.p (.pkF rfl g27 rfl) rfl <| WL.z rfl rfl ?_
 refine W.ret (W.ret1 rfl rfl ?_)
 exact ⟨⟨false, fun h => by cases h⟩, rfl, hB7⟩
 refine WL.p (.pkF rfl g26 rfl) rfl <| WL.m rfl rfl <| WL.gn rfl rfl rfl rfl <| WL.p (.pkF rfl rfl rfl) rfl <| WL.z rfl rfl ?_
 refine W.ret (W.ret1 rfl rfl ?_)
 exact ⟨⟨false, fun h => by cases h⟩, rfl, hB7⟩
 refine WL.p (.pkF rfl g25 rfl) rfl <| WL.m rfl rfl <| WL.gn rfl rfl rfl rfl <| WL.p (.pkF rfl rfl rfl) rfl <| WL.m rfl rfl <| WL.gn rfl rfl rfl rfl <| WL.p (.pkF rfl rfl rfl) rfl <| WL.z rfl rfl ?_
 refine W.ret (W.ret1 rfl rfl ?_)
 exact ⟨⟨false, fun h => by cases h⟩, rfl, hB7⟩
 refine WL.p (.pkF rfl g24 rfl) rfl <| WL.m rfl rfl <| WL.gn rfl rfl rfl rfl <| WL.p (.pkF rfl rfl rfl) rfl <| WL.m rfl rfl <| WL.gn rfl rfl rfl rfl <| WL.p (.pkF rfl rfl rfl) rfl <| WL.m rfl rfl <| WL.gn rfl rfl rfl rfl <| WL.p (.pkF rfl rfl rfl) rfl <| WL.z rfl rfl ?_
 refine W.ret (W.ret1 rfl rfl ?_)
 exact ⟨⟨false, fun h => by cases h⟩, rfl, hB7⟩
 have h22' := dF h22
 refine W.reg <| WL.p (.eql rfl rfl) rfl <| WL.z rfl rfl ?_
 refine W.cond rfl (fun h28 => ?_) (fun h28 => ?_)
 have h28' := dT h28
 refine W.sr <| WL.p (.fa underlying31 rfl sizeOf3 dD rfl) rfl <| WL.r (Rd.ld (isAgg3 _) rfl hkb1 rfl) rfl <| WL.c1 hb62 rfl rfl ((ref_fits _ _)) (fun w29 hw29 => ?_)
 obtain rfl := hw29
 refine WL.m rfl rfl <| WL.gd rfl rfl rfl (fun g30 => ?_) (fun g30 => ?_)
 refine WL.m rfl rfl <| WL.p (.pkT rfl g30 rfl) rfl <| WL.m rfl rfl <| WL.gd rfl rfl rfl (fun g31 => ?_) (fun g31 => ?_)
 refine WL.m rfl rfl <| WL.p (.pkT rfl g31 rfl) rfl <| WL.m rfl rfl <| WL.gd rfl rfl rfl (fun g32 => ?_) (fun g32 => ?_)
 refine WL.m rfl rfl <| WL.p (.pkT rfl g32 rfl) rfl <| WL.m rfl rfl <| WL.gd rfl rfl rfl (fun g33 => ?_) (fun g33 => ?_)
 refine WL.m rfl rfl <| WL.p (.pkT rfl g33 rfl) rfl <| WL.z rfl rfl ?_
 refine W.ret (W.ret1 rfl rfl ?_)
 exact ⟨⟨_, fun hb => fin2 hcl (by first | exact .inl aS | exact .inr aS) aS (dT (hb8.symm.trans aS)) (dT (hb9.symm.trans aS)) (dT (hb10.symm.trans aS)) (dT (hb11.symm.trans hb))⟩, rfl, hB7⟩
 refine WL.p (.pkF rfl g33 rfl) rfl <| WL.z rfl rfl ?_
 refine W.ret (W.ret1 rfl rfl ?_)
 exact ⟨⟨false, fun h => by cases h⟩, rfl, hB7⟩
 refine WL.p (.pkF rfl g32 rfl) rfl <| WL.m rfl rfl <| WL.gn rfl rfl rfl rfl <| WL.p (.pkF rfl rfl rfl) rfl <| WL.z rfl rfl ?_
 refine W.ret (W.ret1 rfl rfl ?_)
 exact ⟨⟨false, fun h => by cases h⟩, rfl, hB7⟩
 refine WL.p (.pkF rfl g31 rfl) rfl <| WL.m rfl rfl <| WL.gn rfl rfl rfl rfl <| WL.p (.pkF rfl rfl rfl) rfl <| WL.m rfl rfl <| WL.gn rfl rfl rfl rfl <| WL.p (.pkF rfl rfl rfl) rfl <| WL.z rfl rfl ?_
 refine W.ret (W.ret1 rfl rfl ?_)
 exact ⟨⟨false, fun h => by cases h⟩, rfl, hB7⟩
 refine WL.p (.pkF rfl g30 rfl) rfl <| WL.m rfl rfl <| WL.gn rfl rfl rfl rfl <| WL.p (.pkF rfl rfl rfl) rfl <| WL.m rfl rfl <| WL.gn rfl rfl rfl rfl <| WL.p (.pkF rfl rfl rfl) rfl <| WL.m rfl rfl <| WL.gn rfl rfl rfl rfl <| WL.p (.pkF rfl rfl rfl) rfl <| WL.z rfl rfl ?_
 refine W.ret (W.ret1 rfl rfl ?_)
 exact ⟨⟨false, fun h => by cases h⟩, rfl, hB7⟩
 have h28' := dF h28
 refine W.sr <| WL.p (.eql rfl rfl) rfl <| WL.z rfl rfl ?_
 refine W.cond rfl (fun h34 => ?_) (fun h34 => ?_)
 have h34' := dT h34
 refine W.sr <| WL.m rfl rfl <| WL.m rfl rfl <| WL.gd rfl rfl rfl (fun g35 => ?_) (fun g35 => ?_)
 refine WL.p (.fa underlying31 rfl sizeOf9 dD rfl) rfl <| WL.gy rfl rfl rfl g35 <| WL.r (Rd.ld (isAgg9 _) rfl hkb1 rfl) rfl <| WL.gy rfl rfl rfl g35 <| WL.c1 hb63 rfl rfl ((r18_nameB s _ oO)) (fun w36 hw36 => ?_)
 obtain rfl := hw36
 refine WL.p (.pkT rfl g35 rfl) rfl <| WL.m rfl rfl <| WL.gd rfl rfl rfl (fun g37 => ?_) (fun g37 => ?_)
 refine WL.m rfl rfl <| WL.p (.pkT rfl g37 rfl) rfl <| WL.m rfl rfl <| WL.gd rfl rfl rfl (fun g38 => ?_) (fun g38 => ?_)
 refine WL.m rfl rfl <| WL.p (.pkT rfl g38 rfl) rfl <| WL.m rfl rfl <| WL.gd rfl rfl rfl (fun g39 => ?_) (fun g39 => ?_)
 refine WL.m rfl rfl <| WL.p (.pkT rfl g39 rfl) rfl <| WL.z rfl rfl ?_
 refine W.ret (W.ret1 rfl rfl ?_)
 exact ⟨⟨_, fun hb => fin4 hcl aS (dT (hb7.symm.trans aS)) (nmB_ok aS) (dT (hb9.symm.trans aS)) (dT (hb10.symm.trans aS)) (dT (hb11.symm.trans hb))⟩, rfl, hB7⟩
 refine WL.p (.pkF rfl g39 rfl) rfl <| WL.z rfl rfl ?_
 refine W.ret (W.ret1 rfl rfl ?_)
 exact ⟨⟨false, fun h => by cases h⟩, rfl, hB7⟩
 refine WL.p (.pkF rfl g38 rfl) rfl <| WL.m rfl rfl <| WL.gn rfl rfl rfl rfl <| WL.p (.pkF rfl rfl rfl) rfl <| WL.z rfl rfl ?_
 refine W.ret (W.ret1 rfl rfl ?_)
 exact ⟨⟨false, fun h => by cases h⟩, rfl, hB7⟩
 refine WL.p (.pkF rfl g37 rfl) rfl <| WL.m rfl rfl <| WL.gn rfl rfl rfl rfl <| WL.p (.pkF rfl rfl rfl) rfl <| WL.m rfl rfl <| WL.gn rfl rfl rfl rfl <| WL.p (.pkF rfl rfl rfl) rfl <| WL.z rfl rfl ?_
 refine W.ret (W.ret1 rfl rfl ?_)
 exact ⟨⟨false, fun h => by cases h⟩, rfl, hB7⟩
 refine WL.gn rfl rfl rfl g35 <| WL.gn rfl rfl rfl g35 <| WL.p (.pkF rfl g35 rfl) rfl <| WL.m rfl rfl <| WL.gn rfl rfl rfl rfl <| WL.p (.pkF rfl rfl rfl) rfl <| WL.m rfl rfl <| WL.gn rfl rfl rfl rfl <| WL.p (.pkF rfl rfl rfl) rfl <| WL.m rfl rfl <| WL.gn rfl rfl rfl rfl <| WL.p (.pkF rfl rfl rfl) rfl <| WL.z rfl rfl ?_
 refine W.ret (W.ret1 rfl rfl ?_)
 exact ⟨⟨false, fun h => by cases h⟩, rfl, hB7⟩
 have h34' := dF h34
 refine W.sr <| WL.p (.eql rfl rfl) rfl <| WL.z rfl rfl ?_
 refine W.cond rfl (fun h40 => ?_) (fun h40 => ?_)
 have h40' := dT h40
 refine W.sr <| WL.m rfl rfl <| WL.m rfl rfl <| WL.gd rfl rfl rfl (fun g41 => ?_) (fun g41 => ?_)
 refine WL.p (.fa underlying31 rfl sizeOf9 dD rfl) rfl <| WL.gy rfl rfl rfl g41 <| WL.r (Rd.ld (isAgg9 _) rfl hkb1 rfl) rfl <| WL.gy rfl rfl rfl g41 <| WL.p (.len underlying9 rfl) rfl <| WL.gy rfl rfl rfl g41 <| WL.p (.leq rfl rfl) rfl <| WL.p (.pkT rfl g41 rfl) rfl <| WL.m rfl rfl <| WL.gd rfl rfl rfl (fun g42 => ?_) (fun g42 => ?_)
 have g42' := dT g42
 refine WL.m rfl rfl <| WL.p (.pkT rfl g42 rfl) rfl <| WL.m rfl rfl <| WL.gd rfl rfl rfl (fun g43 => ?_) (fun g43 => ?_)
 refine WL.m rfl rfl <| WL.p (.pkT rfl g43 rfl) rfl <| WL.m rfl rfl <| WL.gd rfl rfl rfl (fun g44 => ?_) (fun g44 => ?_)
 refine WL.m rfl rfl <| WL.p (.pkT rfl g44 rfl) rfl <| WL.z rfl rfl ?_
 refine W.ret (W.ret1 rfl rfl ?_)
 exact ⟨⟨_, fun hb => fin5 hcl aS (dT (hb7.symm.trans aS)) aS (dT (hb9.symm.trans aS)) (dT (hb10.symm.trans aS)) (dT (hb11.symm.trans hb))⟩, rfl, hB7⟩
 refine WL.p (.pkF rfl g44 rfl) rfl <| WL.z rfl rfl ?_
 refine W.ret (W.ret1 rfl rfl ?_)
 exact ⟨⟨false, fun h => by cases h⟩, rfl, hB7⟩
 refine WL.p (.pkF rfl g43 rfl) rfl <| WL.m rfl rfl <| WL.gn rfl rfl rfl rfl <| WL.p (.pkF rfl rfl rfl) rfl <| WL.z rfl rfl ?_
 refine W.ret (W.ret1 rfl rfl ?_)
 exact ⟨⟨false, fun h => by cases h⟩, rfl, hB7⟩
 have g42' := dF g42
 refine WL.p (.pkF rfl g42 rfl) rfl <| WL.m rfl rfl <| WL.gn rfl rfl rfl rfl <| WL.p (.pkF rfl rfl rfl) rfl <| WL.m rfl rfl <| WL.gn rfl rfl rfl rfl <| WL.p (.pkF rfl rfl rfl) rfl <| WL.z rfl rfl ?_
 refine W.ret (W.ret1 rfl rfl ?_)
 exact ⟨⟨false, fun h => by cases h⟩, rfl, hB7⟩
 refine WL.gn rfl rfl rfl g41 <| WL.gn rfl rfl rfl g41 <| WL.gn rfl rfl rfl g41 <| WL.p (.pkF rfl g41 rfl) rfl <| WL.m rfl rfl <| WL.gn rfl rfl rfl rfl <| WL.p (.pkF rfl rfl rfl) rfl <| WL.m rfl rfl <| WL.gn rfl rfl rfl rfl <| WL.p (.pkF rfl rfl rfl) rfl <| WL.m rfl rfl <| WL.gn rfl rfl rfl rfl <| WL.p (.pkF rfl rfl rfl) rfl <| WL.z rfl rfl ?_
 refine W.ret (W.ret1 rfl rfl ?_)
 exact ⟨⟨false, fun h => by cases h⟩, rfl, hB7⟩
 have h40' := dF h40
 refine W.sr <| WL.p (.eql rfl rfl) rfl <| WL.z rfl rfl ?_
 refine W.cond rfl (fun h45 => ?_) (fun h45 => ?_)
 have h45' := dT h45
 refine W.sr <| WL.p (.fa underlying31 rfl sizeOf3 dD rfl) rfl <| WL.r (Rd.ld (isAgg3 _) rfl hkb1 rfl) rfl <| WL.p (.geq rfl rfl) rfl <| WL.m rfl rfl <| WL.gd rfl rfl rfl (fun g46 => ?_) (fun g46 => ?_)
 have g46' := dT g46
 refine WL.p (.fa underlying31 rfl sizeOf3 dD rfl) rfl <| WL.gy rfl rfl rfl g46 <| WL.r (Rd.ld (isAgg3 _) rfl hkb1 rfl) rfl <| WL.gy rfl rfl rfl g46 <| WL.p (.leq rfl rfl) rfl <| WL.p (.pkT rfl g46 rfl) rfl <| WL.m rfl rfl <| WL.gd rfl rfl rfl (fun g47 => ?_) (fun g47 => ?_)
 have g47' := dT g47
 refine WL.m rfl rfl <| WL.p (.pkT rfl g47 rfl) rfl <| WL.m rfl rfl <| WL.gd rfl rfl rfl (fun g48 => ?_) (fun g48 => ?_)
 refine WL.m rfl rfl <| WL.p (.pkT rfl g48 rfl) rfl <| WL.m rfl rfl <| WL.gd rfl rfl rfl (fun g49 => ?_) (fun g49 => ?_)
 refine WL.m rfl rfl <| WL.p (.pkT rfl g49 rfl) rfl <| WL.m rfl rfl <| WL.gd rfl rfl rfl (fun g50 => ?_) (fun g50 => ?_)
 refine WL.m rfl rfl <| WL.p (.pkT rfl g50 rfl) rfl <| WL.z rfl rfl ?_
 refine W.ret (W.ret1 rfl rfl ?_)
 exact ⟨⟨_, fun hb => fin8 hcl aS aS aS (dT (hb8.symm.trans aS)) (dT (hb9.symm.trans aS)) (dT (hb10.symm.trans aS)) (dT (hb11.symm.trans hb))⟩, rfl, hB7⟩
 refine WL.p (.pkF rfl g50 rfl) rfl <| WL.z rfl rfl ?_
 refine W.ret (W.ret1 rfl rfl ?_)
 exact ⟨⟨false, fun h => by cases h⟩, rfl, hB7⟩
 refine WL.p (.pkF rfl g49 rfl) rfl <| WL.m rfl rfl <| WL.gn rfl rfl rfl rfl <| WL.p (.pkF rfl rfl rfl) rfl <| WL.z rfl rfl ?_
 refine W.ret (W.ret1 rfl rfl ?_)
 exact ⟨⟨false, fun h => by cases h⟩, rfl, hB7⟩
 refine WL.p (.pkF rfl g48 rfl) rfl <| WL.m rfl rfl <| WL.gn rfl rfl rfl rfl <| WL.p (.pkF rfl rfl rfl) rfl <| WL.m rfl rfl <| WL.gn rfl rfl rfl rfl <| WL.p (.pkF rfl rfl rfl) rfl <| WL.z rfl rfl ?_
 refine W.ret (W.ret1 rfl rfl ?_)
 exact ⟨⟨false, fun h => by cases h⟩, rfl, hB7⟩
 have g47' := dF g47
 refine WL.p (.pkF rfl g47 rfl) rfl <| WL.m rfl rfl <| WL.gn rfl rfl rfl rfl <| WL.p (.pkF rfl rfl rfl) rfl <| WL.m rfl rfl <| WL.gn rfl rfl rfl rfl <| WL.p (.pkF rfl rfl rfl) rfl <| WL.m rfl rfl <| WL.gn rfl rfl rfl rfl <| WL.p (.pkF rfl rfl rfl) rfl <| WL.z rfl rfl ?_
 refine W.ret (W.ret1 rfl rfl ?_)
 exact ⟨⟨false, fun h => by cases h⟩, rfl, hB7⟩
 have g46' := dF g46
 refine WL.gn rfl rfl rfl g46 <| WL.gn rfl rfl rfl g46 <| WL.p (.pkF rfl g46 rfl) rfl <| WL.m rfl rfl <| WL.gn rfl rfl rfl rfl <| WL.p (.pkF rfl rfl rfl) rfl <| WL.m rfl rfl <| WL.gn rfl rfl rfl rfl <| WL.p (.pkF rfl rfl rfl) rfl <| WL.m rfl rfl <| WL.gn rfl rfl rfl rfl <| WL.p (.pkF rfl rfl rfl) rfl <| WL.m rfl rfl <| WL.gn rfl rfl rfl rfl <| WL.p (.pkF rfl rfl rfl) rfl <| WL.z rfl rfl ?_
 refine W.ret (W.ret1 rfl rfl ?_)
 exact ⟨⟨false, fun h => by cases h⟩, rfl, hB7⟩
 have h45' := dF h45
 refine W.sr <| WL.p (.eql rfl rfl) rfl <| WL.z rfl rfl ?_
 refine W.cond rfl (fun h51 => ?_) (fun h51 => ?_)
 have h51' := dT h51
 refine W.cutB 166 ((bD || !b7 || !b8 || !b9 || !b11)) ?_ ?_
 refine W.reg <| WL.m rfl rfl <| WL.p (.bis (bD) (.lss rfl rfl) (by exact hbD.symm)) rfl <| WL.m rfl rfl <| WL.gd rfl rfl rfl (fun g52 => ?_) (fun g52 => ?_)
 refine WL.m rfl rfl <| WL.gy rfl rfl rfl g52 <| WL.p (.not rfl) rfl <| WL.p (.pkF rfl g52 rfl) rfl <| WL.m rfl rfl <| WL.gd rfl rfl rfl (fun g53 => ?_) (fun g53 => ?_)
 have g53' := (nF g53)
 refine WL.m rfl rfl <| WL.gy rfl rfl rfl (by rw [(nF g53)] <;> rfl) <| WL.p (.not rfl) rfl <| WL.p (.pkF rfl (by rw [(nF g53)] <;> rfl) rfl) rfl <| WL.m rfl rfl <| WL.gd rfl rfl rfl (fun g54 => ?_) (fun g54 => ?_)
 have g54' := (nF g54)
 refine WL.m rfl rfl <| WL.gy rfl rfl rfl (by rw [(nF g54)] <;> rfl) <| WL.p (.not rfl) rfl <| WL.p (.pkF rfl (by rw [(nF g54)] <;> rfl) rfl) rfl <| WL.m rfl rfl <| WL.gd rfl rfl rfl (fun g55 => ?_) (fun g55 => ?_)
 have g55' := (nF g55)
 refine WL.m rfl rfl <| WL.gy rfl rfl rfl (by rw [(nF g55)] <;> rfl) <| WL.p (.not rfl) rfl <| WL.p (.pkF rfl (by rw [(nF g55)] <;> rfl) rfl) rfl <| WL.nil <| ?_
 exact ⟨leE (lk_b rfl (by clear hbD hb7 hb8 hb9 hb10 hb11 hbm hb71 hb91 hbg; subst_vars; first | rfl | (cases st <;> first | rfl | contradiction))), rfl⟩
 have g55' := (nT g55)
 refine WL.gn rfl rfl rfl (by rw [(nT g55)] <;> rfl) <| WL.p (.pkT rfl (by rw [(nT g55)] <;> rfl) rfl) rfl <| WL.nil <| ?_
 exact ⟨leE (lk_b rfl (by clear hbD hb7 hb8 hb9 hb10 hb11 hbm hb71 hb91 hbg; subst_vars; first | rfl | (cases st <;> first | rfl | contradiction))), rfl⟩
 have g54' := (nT g54)
 refine WL.gn rfl rfl rfl (by rw [(nT g54)] <;> rfl) <| WL.p (.pkT rfl (by rw [(nT g54)] <;> rfl) rfl) rfl <| WL.m rfl rfl <| WL.gn rfl rfl rfl rfl <| WL.gn rfl rfl rfl rfl <| WL.p (.pkT rfl rfl rfl) rfl <| WL.nil <| ?_
 exact ⟨leE (lk_b rfl (by clear hbD hb7 hb8 hb9 hb10 hb11 hbm hb71 hb91 hbg; subst_vars; first | rfl | (cases st <;> first | rfl | contradiction))), rfl⟩
 have g53' := (nT g53)
 refine WL.gn rfl rfl rfl (by rw [(nT g53)] <;> rfl) <| WL.p (.pkT rfl (by rw [(nT g53)] <;> rfl) rfl) rfl <| WL.m rfl rfl <| WL.gn rfl rfl rfl rfl <| WL.gn rfl rfl rfl rfl <| WL.p (.pkT rfl rfl rfl) rfl <| WL.m rfl rfl <| WL.gn rfl rfl rfl rfl <| WL.gn rfl rfl rfl rfl <| WL.p (.pkT rfl rfl rfl) rfl <| WL.nil <| ?_
 exact ⟨leE (lk_b rfl (by clear hbD hb7 hb8 hb9 hb10 hb11 hbm hb71 hb91 hbg; subst_vars; first | rfl | (cases st <;> first | rfl | contradiction))), rfl⟩
 refine WL.gn rfl rfl rfl g52 <| WL.p (.pkT rfl g52 rfl) rfl <| WL.m rfl rfl <| WL.gn rfl rfl rfl rfl <| WL.gn rfl rfl rfl rfl <| WL.p (.pkT rfl rfl rfl) rfl <| WL.m rfl rfl <| WL.gn rfl rfl rfl rfl <| WL.gn rfl rfl rfl rfl <| WL.p (.pkT rfl rfl rfl) rfl <| WL.m rfl rfl <| WL.gn rfl rfl rfl rfl <| WL.gn rfl rfl rfl rfl <| WL.p (.pkT rfl rfl rfl) rfl <| WL.nil <| ?_
 exact ⟨leE (lk_b rfl (by clear hbD hb7 hb8 hb9 hb10 hb11 hbm hb71 hb91 hbg; subst_vars; first | rfl | (cases st <;> first | rfl | contradiction))), rfl⟩
 refine W.cond rfl (fun h56 => ?_) (fun h56 => ?_)
 refine W.sr <| WL.z rfl rfl ?_
 refine W.ret (W.ret1 rfl rfl ?_)
 exact ⟨⟨false, fun h => by cases h⟩, rfl, hB7⟩
 obtain ⟨q1, q2, q3, q4, q5⟩ : 1 ≤ D ∧ i = 0 ∧ s = [] ∧ keys = [] ∧ data = [] := by
  have h0 : (bD || !b7 || !b8 || !b9 || !b11) = false := by assumption
  rw [hbD, hb7, hb8, hb9, hb11] at h0
  simp only [Bool.or_eq_false_iff, Bool.not_eq_false', decide_eq_true_eq, decide_eq_false_iff_not] at h0
  exact ⟨by omega, h0.1.1.1.2, h0.1.1.2, lenz h0.1.2, lenz h0.2⟩
 refine W.skip ?_
 exact ⟨(), ⟨rfl, rfl, trivial⟩, hB7, hkb1, hv5, hF2, .inl ⟨by assumption, q1, q2, q3, q4, q5⟩⟩
 have h51' := dF h51
 refine W.cut (α := Unit) (fun t => [(1, .int .i64 D), (2, .bool st), (3, .pointer (some ⟨b1, 0, none⟩)), (7, .bool b7), (8, .bool b8), (11, .bool b11), (167, .bool (b71 || b91))]) (fun t w' => wb1 = w') ?_ (fun t w1 hR => ?_)
 refine W.sr <| WL.p (.bis (b71) (.eql rfl rfl) (by exact hb71.symm)) rfl <| WL.z rfl rfl ?_
 refine W.cond rfl (fun h57 => ?_) (fun h57 => ?_)
 refine W.skip ?_
 exact ⟨(), ⟨rfl, rfl, rfl, rfl, rfl, rfl, lk_b rfl (by rw [show b71 = true by assumption]; rfl), trivial⟩, rfl⟩
 refine W.reg <| WL.p (.bis (b91) (.eql rfl rfl) (by exact hb91.symm)) rfl <| WL.z rfl rfl ?_
 exact ⟨(), ⟨rfl, rfl, rfl, rfl, rfl, rfl, lk_b rfl (by rw [show b71 = false by assumption]; rfl), trivial⟩, rfl⟩
 obtain rfl := hR
 refine W.cond rfl (fun h58 => ?_) (fun h58 => ?_)
 refine W.seq ?_
 refine W.cutB 212 ((bD || !b7 || !b8 || bm || (b71 && !b11) || (b91 && (!st || bg)))) ?_ ?_
 refine W.reg <| WL.m rfl rfl <| WL.p (.bis (bD) (.lss rfl rfl) (by exact hbD.symm)) rfl <| WL.m rfl rfl <| WL.gd rfl rfl rfl (fun g59 => ?_) (fun g59 => ?_)
 refine WL.m rfl rfl <| WL.gy rfl rfl rfl g59 <| WL.p (.not rfl) rfl <| WL.p (.pkF rfl g59 rfl) rfl <| WL.m rfl rfl <| WL.gd rfl rfl rfl (fun g60 => ?_) (fun g60 => ?_)
 have g60' := (nF g60)
 refine WL.m rfl rfl <| WL.gy rfl rfl rfl (by rw [(nF g60)] <;> rfl) <| WL.p (.not rfl) rfl <| WL.p (.pkF rfl (by rw [(nF g60)] <;> rfl) rfl) rfl <| WL.m rfl rfl <| WL.gd rfl rfl rfl (fun g61 => ?_) (fun g61 => ?_)
 have g61' := (nF g61)
 refine WL.p (.fa underlying31 rfl sizeOf28 dD rfl) rfl <| WL.gy rfl rfl rfl (by rw [(nF g61)] <;> rfl) <| WL.r (Rd.ld (isAgg28 _) rfl hkb1 rfl) rfl <| WL.gy rfl rfl rfl (by rw [(nF g61)] <;> rfl) <| WL.p (.lenS underlying28 rfl) rfl <| WL.gy rfl rfl rfl (by rw [(nF g61)] <;> rfl) <| WL.p (.fa underlying31 rfl sizeOf29 dD rfl) rfl <| WL.gy rfl rfl rfl (by rw [(nF g61)] <;> rfl) <| WL.r (Rd.ld (isAgg29 _) rfl hkb1 rfl) rfl <| WL.gy rfl rfl rfl (by rw [(nF g61)] <;> rfl) <| WL.p (.lenS underlying29 rfl) rfl <| WL.gy rfl rfl rfl (by rw [(nF g61)] <;> rfl) <| WL.p (.bis (bm) (.neq rfl rfl) (by exact hbm.symm)) rfl <| WL.p (.pkF rfl (by rw [(nF g61)] <;> rfl) rfl) rfl <| WL.m rfl rfl <| WL.gd rfl rfl rfl (fun g62 => ?_) (fun g62 => ?_)
 refine WL.p (.fa underlying31 rfl sizeOf3 dD rfl) rfl <| WL.gy rfl rfl rfl g62 <| WL.r (Rd.ld (isAgg3 _) rfl hkb1 rfl) rfl <| WL.gy rfl rfl rfl g62 <| WL.p (.bis (b71) (.eql rfl rfl) (by exact hb71.symm)) rfl <| WL.gy rfl rfl rfl g62 <| WL.m rfl rfl <| WL.gd rfl rfl rfl (fun g63 => ?_) (fun g63 => ?_)
 refine WL.m rfl rfl <| WL.gy rfl rfl rfl g63 <| WL.p (.not rfl) rfl <| WL.gy rfl rfl rfl g62 <| WL.p (.pkT rfl g63 rfl) rfl <| WL.p (.pkF rfl g62 rfl) rfl <| WL.m rfl rfl <| WL.gd rfl rfl rfl (fun g64 => ?_) (fun g64 => ?_)
 have g64' := (nF g64)
 refine WL.p (.fa underlying31 rfl sizeOf3 dD rfl) rfl <| WL.gy rfl rfl rfl (by rw [(nF g64)] <;> rfl) <| WL.r (Rd.ld (isAgg3 _) rfl hkb1 rfl) rfl <| WL.gy rfl rfl rfl (by rw [(nF g64)] <;> rfl) <| WL.p (.bis (b91) (.eql rfl rfl) (by exact hb91.symm)) rfl <| WL.gy rfl rfl rfl (by rw [(nF g64)] <;> rfl) <| WL.m rfl rfl <| WL.gd rfl rfl rfl (fun g65 => ?_) (fun g65 => ?_)
 refine WL.m rfl rfl <| WL.gy rfl rfl rfl g65 <| WL.p (.not rfl) rfl <| WL.gy rfl rfl rfl g65 <| WL.m rfl rfl <| WL.gd rfl rfl rfl (fun g66 => ?_) (fun g66 => ?_)
 refine WL.p (.fa underlying31 rfl sizeOf22 dD rfl) rfl <| WL.gy rfl rfl rfl (by rw [(nF g66)] <;> rfl) <| WL.r (Rd.ld (isAgg22 _) rfl hkb1 rfl) rfl <| WL.gy rfl rfl rfl (by rw [(nF g66)] <;> rfl) <| WL.p (.lenS underlying22 rfl) rfl <| WL.gy rfl rfl rfl (by rw [(nF g66)] <;> rfl) <| WL.p (.bis (bg) (.gtr rfl rfl) (by exact hbg.symm)) rfl <| WL.gy rfl rfl rfl g65 <| WL.p (.pkF rfl (by rw [(nF g66)] <;> rfl) rfl) rfl <| WL.gy rfl rfl rfl (by rw [(nF g64)] <;> rfl) <| WL.p (.pkT rfl g65 rfl) rfl <| WL.p (.pkF rfl (by rw [(nF g64)] <;> rfl) rfl) rfl <| WL.nil <| ?_
 exact ⟨leE (lk_b rfl (by clear hbD hb7 hb8 hb9 hb10 hb11 hbm hb71 hb91 hbg; subst_vars; first | rfl | (cases st <;> first | rfl | contradiction))), rfl⟩
 refine WL.gn rfl rfl rfl (by rw [(nT g66)] <;> rfl) <| WL.gn rfl rfl rfl (by rw [(nT g66)] <;> rfl) <| WL.gn rfl rfl rfl (by rw [(nT g66)] <;> rfl) <| WL.gy rfl rfl rfl g65 <| WL.p (.pkT rfl (by rw [(nT g66)] <;> rfl) rfl) rfl <| WL.gy rfl rfl rfl (by rw [(nF g64)] <;> rfl) <| WL.p (.pkT rfl g65 rfl) rfl <| WL.p (.pkF rfl (by rw [(nF g64)] <;> rfl) rfl) rfl <| WL.nil <| ?_
 exact ⟨leE (lk_b rfl (by clear hbD hb7 hb8 hb9 hb10 hb11 hbm hb71 hb91 hbg; subst_vars; first | rfl | (cases st <;> first | rfl | contradiction))), rfl⟩
 refine WL.gn rfl rfl rfl g65 <| WL.gn rfl rfl rfl g65 <| WL.gu rfl rfl rfl <| WL.gu rfl rfl rfl <| WL.gu rfl rfl rfl <| WL.gu rfl rfl rfl <| WL.gn rfl rfl rfl g65 <| WL.gy rfl rfl rfl (by rw [(nF g64)] <;> rfl) <| WL.p (.pkF rfl g65 rfl) rfl <| WL.p (.pkF rfl (by rw [(nF g64)] <;> rfl) rfl) rfl <| WL.nil <| ?_
 exact ⟨leE (lk_b rfl (by clear hbD hb7 hb8 hb9 hb10 hb11 hbm hb71 hb91 hbg; subst_vars; first | rfl | (cases st <;> first | rfl | contradiction))), rfl⟩
 have g64' := (nT g64)
 refine WL.gn rfl rfl rfl (by rw [(nT g64)] <;> rfl) <| WL.gn rfl rfl rfl (by rw [(nT g64)] <;> rfl) <| WL.gn rfl rfl rfl (by rw [(nT g64)] <;> rfl) <| WL.gu rfl rfl rfl <| WL.gu rfl rfl rfl <| WL.gu rfl rfl rfl <| WL.gu rfl rfl rfl <| WL.gu rfl rfl rfl <| WL.gu rfl rfl rfl <| WL.gu rfl rfl rfl <| WL.gu rfl rfl rfl <| WL.gn rfl rfl rfl (by rw [(nT g64)] <;> rfl) <| WL.p (.pkT rfl (by rw [(nT g64)] <;> rfl) rfl) rfl <| WL.nil <| ?_
 exact ⟨leE (lk_b rfl (by clear hbD hb7 hb8 hb9 hb10 hb11 hbm hb71 hb91 hbg; subst_vars; first | rfl | (cases st <;> first | rfl | contradiction))), rfl⟩
 refine WL.gn rfl rfl rfl g63 <| WL.gy rfl rfl rfl g62 <| WL.p (.pkF rfl g63 rfl) rfl <| WL.p (.pkF rfl g62 rfl) rfl <| WL.m rfl rfl <| WL.gy rfl rfl rfl rfl <| WL.p (.fa underlying31 rfl sizeOf3 dD rfl) rfl <| WL.gy rfl rfl rfl rfl <| WL.r (Rd.ld (isAgg3 _) rfl hkb1 rfl) rfl <| WL.gy rfl rfl rfl rfl <| WL.p (.bis (b91) (.eql rfl rfl) (by exact hb91.symm)) rfl <| WL.gy rfl rfl rfl rfl <| WL.m rfl rfl <| WL.gd rfl rfl rfl (fun g67 => ?_) (fun g67 => ?_)
 refine WL.m rfl rfl <| WL.gy rfl rfl rfl g67 <| WL.p (.not rfl) rfl <| WL.gy rfl rfl rfl g67 <| WL.m rfl rfl <| WL.gd rfl rfl rfl (fun g68 => ?_) (fun g68 => ?_)
 refine WL.p (.fa underlying31 rfl sizeOf22 dD rfl) rfl <| WL.gy rfl rfl rfl (by rw [(nF g68)] <;> rfl) <| WL.r (Rd.ld (isAgg22 _) rfl hkb1 rfl) rfl <| WL.gy rfl rfl rfl (by rw [(nF g68)] <;> rfl) <| WL.p (.lenS underlying22 rfl) rfl <| WL.gy rfl rfl rfl (by rw [(nF g68)] <;> rfl) <| WL.p (.bis (bg) (.gtr rfl rfl) (by exact hbg.symm)) rfl <| WL.gy rfl rfl rfl g67 <| WL.p (.pkF rfl (by rw [(nF g68)] <;> rfl) rfl) rfl <| WL.gy rfl rfl rfl rfl <| WL.p (.pkT rfl g67 rfl) rfl <| WL.p (.pkF rfl rfl rfl) rfl <| WL.nil <| ?_
 exact ⟨leE (lk_b rfl (by clear hbD hb7 hb8 hb9 hb10 hb11 hbm hb71 hb91 hbg; subst_vars; first | rfl | (cases st <;> first | rfl | contradiction))), rfl⟩
 refine WL.gn rfl rfl rfl (by rw [(nT g68)] <;> rfl) <| WL.gn rfl rfl rfl (by rw [(nT g68)] <;> rfl) <| WL.gn rfl rfl rfl (by rw [(nT g68)] <;> rfl) <| WL.gy rfl rfl rfl g67 <| WL.p (.pkT rfl (by rw [(nT g68)] <;> rfl) rfl) rfl <| WL.gy rfl rfl rfl rfl <| WL.p (.pkT rfl g67 rfl) rfl <| WL.p (.pkF rfl rfl rfl) rfl <| WL.nil <| ?_
 exact ⟨leE (lk_b rfl (by clear hbD hb7 hb8 hb9 hb10 hb11 hbm hb71 hb91 hbg; subst_vars; first | rfl | (cases st <;> first | rfl | contradiction))), rfl⟩
 refine WL.gn rfl rfl rfl g67 <| WL.gn rfl rfl rfl g67 <| WL.gu rfl rfl rfl <| WL.gu rfl rfl rfl <| WL.gu rfl rfl rfl <| WL.gu rfl rfl rfl <| WL.gn rfl rfl rfl g67 <| WL.gy rfl rfl rfl rfl <| WL.p (.pkF rfl g67 rfl) rfl <| WL.p (.pkF rfl rfl rfl) rfl <| WL.nil <| ?_
 exact ⟨leE (lk_b rfl (by clear hbD hb7 hb8 hb9 hb10 hb11 hbm hb71 hb91 hbg; subst_vars; first | rfl | (cases st <;> first | rfl | contradiction))), rfl⟩
 refine WL.gn rfl rfl rfl g62 <| WL.gn rfl rfl rfl g62 <| WL.gn rfl rfl rfl g62 <| WL.gu rfl rfl rfl <| WL.gu rfl rfl rfl <| WL.gn rfl rfl rfl g62 <| WL.p (.pkT rfl g62 rfl) rfl <| WL.m rfl rfl <| WL.gn rfl rfl rfl rfl <| WL.gn rfl rfl rfl rfl <| WL.gn rfl rfl rfl rfl <| WL.gn rfl rfl rfl rfl <| WL.gu rfl rfl rfl <| WL.gu rfl rfl rfl <| WL.gu rfl rfl rfl <| WL.gu rfl rfl rfl <| WL.gu rfl rfl rfl <| WL.gu rfl rfl rfl <| WL.gu rfl rfl rfl <| WL.gu rfl rfl rfl <| WL.gn rfl rfl rfl rfl <| WL.p (.pkT rfl rfl rfl) rfl <| WL.nil <| ?_
 exact ⟨leE (lk_b rfl (by clear hbD hb7 hb8 hb9 hb10 hb11 hbm hb71 hb91 hbg; subst_vars; first | rfl | (cases st <;> first | rfl | contradiction))), rfl⟩
 have g61' := (nT g61)
 refine WL.gn rfl rfl rfl (by rw [(nT g61)] <;> rfl) <| WL.gn rfl rfl rfl (by rw [(nT g61)] <;> rfl) <| WL.gn rfl rfl rfl (by rw [(nT g61)] <;> rfl) <| WL.gn rfl rfl rfl (by rw [(nT g61)] <;> rfl) <| WL.gn rfl rfl rfl (by rw [(nT g61)] <;> rfl) <| WL.gn rfl rfl rfl (by rw [(nT g61)] <;> rfl) <| WL.p (.pkT rfl (by rw [(nT g61)] <;> rfl) rfl) rfl <| WL.m rfl rfl <| WL.gn rfl rfl rfl rfl <| WL.gn rfl rfl rfl rfl <| WL.gn rfl rfl rfl rfl <| WL.gn rfl rfl rfl rfl <| WL.gu rfl rfl rfl <| WL.gu rfl rfl rfl <| WL.gn rfl rfl rfl rfl <| WL.p (.pkT rfl rfl rfl) rfl <| WL.m rfl rfl <| WL.gn rfl rfl rfl rfl <| WL.gn rfl rfl rfl rfl <| WL.gn rfl rfl rfl rfl <| WL.gn rfl rfl rfl rfl <| WL.gu rfl rfl rfl <| WL.gu rfl rfl rfl <| WL.gu rfl rfl rfl <| WL.gu rfl rfl rfl <| WL.gu rfl rfl rfl <| WL.gu rfl rfl rfl <| WL.gu rfl rfl rfl <| WL.gu rfl rfl rfl <| WL.gn rfl rfl rfl rfl <| WL.p (.pkT rfl rfl rfl) rfl <| WL.nil <| ?_
 exact ⟨leE (lk_b rfl (by clear hbD hb7 hb8 hb9 hb10 hb11 hbm hb71 hb91 hbg; subst_vars; first | rfl | (cases st <;> first | rfl | contradiction))), rfl⟩
 have g60' := (nT g60)
 refine WL.gn rfl rfl rfl (by rw [(nT g60)] <;> rfl) <| WL.p (.pkT rfl (by rw [(nT g60)] <;> rfl) rfl) rfl <| WL.m rfl rfl <| WL.gn rfl rfl rfl rfl <| WL.gn rfl rfl rfl rfl <| WL.gn rfl rfl rfl rfl <| WL.gn rfl rfl rfl rfl <| WL.gn rfl rfl rfl rfl <| WL.gn rfl rfl rfl rfl <| WL.gn rfl rfl rfl rfl <| WL.p (.pkT rfl rfl rfl) rfl <| WL.m rfl rfl <| WL.gn rfl rfl rfl rfl <| WL.gn rfl rfl rfl rfl <| WL.gn rfl rfl rfl rfl <| WL.gn rfl rfl rfl rfl <| WL.gu rfl rfl rfl <| WL.gu rfl rfl rfl <| WL.gn rfl rfl rfl rfl <| WL.p (.pkT rfl rfl rfl) rfl <| WL.m rfl rfl <| WL.gn rfl rfl rfl rfl <| WL.gn rfl rfl rfl rfl <| WL.gn rfl rfl rfl rfl <| WL.gn rfl rfl rfl rfl <| WL.gu rfl rfl rfl <| WL.gu rfl rfl rfl <| WL.gu rfl rfl rfl <| WL.gu rfl rfl rfl <| WL.gu rfl rfl rfl <| WL.gu rfl rfl rfl <| WL.gu rfl rfl rfl <| WL.gu rfl rfl rfl <| WL.gn rfl rfl rfl rfl <| WL.p (.pkT rfl rfl rfl) rfl <| WL.nil <| ?_
 exact ⟨leE (lk_b rfl (by clear hbD hb7 hb8 hb9 hb10 hb11 hbm hb71 hb91 hbg; subst_vars; first | rfl | (cases st <;> first | rfl | contradiction))), rfl⟩
 refine WL.gn rfl rfl rfl g59 <| WL.p (.pkT rfl g59 rfl) rfl <| WL.m rfl rfl <| WL.gn rfl rfl rfl rfl <| WL.gn rfl rfl rfl rfl <| WL.p (.pkT rfl rfl rfl) rfl <| WL.m rfl rfl <| WL.gn rfl rfl rfl rfl <| WL.gn rfl rfl rfl rfl <| WL.gn rfl rfl rfl rfl <| WL.gn rfl rfl rfl rfl <| WL.gn rfl rfl rfl rfl <| WL.gn rfl rfl rfl rfl <| WL.gn rfl rfl rfl rfl <| WL.p (.pkT rfl rfl rfl) rfl <| WL.m rfl rfl <| WL.gn rfl rfl rfl rfl <| WL.gn rfl rfl rfl rfl <| WL.gn rfl rfl rfl rfl <| WL.gn rfl rfl rfl rfl <| WL.gu rfl rfl rfl <| WL.gu rfl rfl rfl <| WL.gn rfl rfl rfl rfl <| WL.p (.pkT rfl rfl rfl) rfl <| WL.m rfl rfl <| WL.gn rfl rfl rfl rfl <| WL.gn rfl rfl rfl rfl <| WL.gn rfl rfl rfl rfl <| WL.gn rfl rfl rfl rfl <| WL.gu rfl rfl rfl <| WL.gu rfl rfl rfl <| WL.gu rfl rfl rfl <| WL.gu rfl rfl rfl <| WL.gu rfl rfl rfl <| WL.gu rfl rfl rfl <| WL.gu rfl rfl rfl <| WL.gu rfl rfl rfl <| WL.gn rfl rfl rfl rfl <| WL.p (.pkT rfl rfl rfl) rfl <| WL.nil <| ?_
 exact ⟨leE (lk_b rfl (by clear hbD hb7 hb8 hb9 hb10 hb11 hbm hb71 hb91 hbg; subst_vars; first | rfl | (cases st <;> first | rfl | contradiction))), rfl⟩
 refine W.cond rfl (fun h69 => ?_) (fun h69 => ?_)
 refine W.sr <| WL.z rfl rfl ?_
 refine W.ret (W.ret1 rfl rfl ?_)
 exact ⟨⟨false, fun h => by cases h⟩, rfl, hB7⟩
 have hk79 : k = 7 ∨ k = 9 := by
  have h0 : (b71 || b91) = true := by assumption
  rw [hb71, hb91] at h0
  simpa using h0
 obtain ⟨q1, q2, q3, q4, q5, q6⟩ : 1 ≤ D ∧ i = 0 ∧ s = [] ∧ (keys.length : Int) = (cs.length : Int) ∧ (k = 7 → data = []) ∧ (k = 9 → st = true ∧ data.length ≤ 1048576) := by
  have h0 : (bD || !b7 || !b8 || bm || (b71 && !b11) || (b91 && (!st || bg))) = false := by assumption
  rw [hbD, hb7, hb8, hbm, hb71, hb11, hb91, hbg] at h0
  simp only [Bool.or_eq_false_iff, Bool.and_eq_false_iff, Bool.not_eq_false', decide_eq_true_eq, decide_eq_false_iff_not] at h0
  obtain ⟨⟨⟨⟨⟨h1, h2⟩, h3⟩, h4⟩, h5⟩, h6⟩ := h0
  exact ⟨by omega, h2, h3, h4, fun hk => lenz (h5.resolve_left (fun h => h hk)), fun hk => by have := h6.resolve_left (fun h => h hk); exact ⟨this.1, by omega⟩⟩
 have keysAll : ∀ j, keys.length ≤ j → KeysB k keys j → (∀ x ∈ keys, nmOk x) ∧ keys.Nodup := fun j hj hb => by rw [← List.take_of_length_le hj]; exact ⟨hb.1, hb.2.1⟩
 have hkk : ∀ j, keys.length ≤ j → KeysB k keys j → (k = 7 ∧ data = []) ∨ (k = 9 ∧ st = true ∧ data.length ≤ 1048576 ∧ [76, 101, 110, 103, 116, 104] ∉ keys) := fun j hj hb => by
  rcases hk79 with h7 | h9
  exact .inl ⟨h7, q5 h7⟩
  exact .inr ⟨h9, (q6 h9).1, (q6 h9).2, by rw [← List.take_of_length_le hj]; exact hb.2.2 h9⟩
 refine W.skip <| W.sr <| WL.z rfl rfl ?_
 refine W.block ?_
 refine W.loop (α := Nat) (fun t => [(1, .int .i64 D), (2, .bool st), (3, .pointer (some ⟨b1, 0, none⟩)), (12, .int .i64 (t : Int))]) (fun t w' => Below w.heap.size w w' ∧ Blk w' b1 #[.int .i64 k, .int .i64 i, .string (bs s), .slice kp keys.length kc, .slice lp cs.length lc, .slice dp data.length dc] 31 ∧ RowAt strV w' kp keys ∧ RowM acL w' lp cs ∧ AInv w' S cs list ∧ KeysB k keys t ∧ t ≤ keys.length) (fun t => keys.length - t) (0) ⟨rfl, rfl, rfl, rfl, trivial⟩ (⟨hB7, hkb1, hv3, hv5, hF2, ⟨by simp, by simp, by simp⟩, Nat.zero_le _⟩) (fun t w1 hR => ?_)
 obtain ⟨i1, rfl⟩ : ∃ i, i = t := ⟨t, rfl⟩
 obtain ⟨hT1, hk1, hkx1, hlx1, hf1, hkb, ht⟩ := hR
 refine W.seq <| W.sr <| WL.m rfl rfl <| WL.p (.fa underlying31 rfl sizeOf28 dD rfl) rfl <| WL.r (Rd.ld (isAgg28 _) rfl hk1 rfl) rfl <| WL.p (.lenS underlying28 rfl) rfl <| WL.p (.lss rfl rfl) rfl <| WL.nil <| ?_
 refine W.cond rfl (fun h70 => ?_) (fun h70 => ?_)
 have h70' := dT h70
 refine W.skip <| W.seq <| W.block <| W.seq ?_
 obtain ⟨bL, hbL⟩ : ∃ b, b = decide (keys[i1]'oO = [76, 101, 110, 103, 116, 104]) := ⟨_, rfl⟩
 refine W.cutB 239 ((!nmB (keys[i1]'oO) || (b91 && bL))) ?_ ?_
 refine W.reg <| WL.p (.fa underlying31 rfl sizeOf28 dD rfl) rfl <| WL.r (Rd.ld (isAgg28 _) rfl hk1 rfl) rfl <| WL.m rfl rfl <| WL.p (.ixb underlying28 sizeOf9 rfl rfl (hkx1.isp oO) (i1) (rfl) oO) rfl <| WL.r (Rd.ldc (isAgg9 _) rfl (hkx1.cells (i1) oO)) rfl <| WL.c1 hb63 rfl rfl ((r18_nameB _ _ (hklen _ _))) (fun w71 hw71 => ?_)
 obtain rfl := hw71
 refine WL.p (.not rfl) rfl <| WL.m rfl rfl <| WL.gd rfl rfl rfl (fun g72 => ?_) (fun g72 => ?_)
 have g72' := (nF g72)
 refine WL.p (.fa underlying31 rfl sizeOf3 dD rfl) rfl <| WL.gy rfl rfl rfl (by rw [(nF g72)] <;> rfl) <| WL.r (Rd.ld (isAgg3 _) rfl hk1 rfl) rfl <| WL.gy rfl rfl rfl (by rw [(nF g72)] <;> rfl) <| WL.p (.bis (b91) (.eql rfl rfl) (by exact hb91.symm)) rfl <| WL.gy rfl rfl rfl (by rw [(nF g72)] <;> rfl) <| WL.m rfl rfl <| WL.gd rfl rfl rfl (fun g73 => ?_) (fun g73 => ?_)
 refine WL.p (.fa underlying31 rfl sizeOf28 dD rfl) rfl <| WL.gy rfl rfl rfl g73 <| WL.r (Rd.ld (isAgg28 _) rfl hk1 rfl) rfl <| WL.gy rfl rfl rfl g73 <| WL.m rfl rfl <| WL.gy rfl rfl rfl g73 <| WL.p (.ixb underlying28 sizeOf9 rfl rfl (hkx1.isp oO) (i1) (rfl) oO) rfl <| WL.gy rfl rfl rfl g73 <| WL.r (Rd.ldc (isAgg9 _) rfl (hkx1.cells (i1) oO)) rfl <| WL.gy rfl rfl rfl g73 <| WL.p (.bis (bL) (.eqs rfl rfl) (by exact hbL.symm)) rfl <| WL.gy rfl rfl rfl (by rw [(nF g72)] <;> rfl) <| WL.p (.pkT rfl g73 rfl) rfl <| WL.p (.pkF rfl (by rw [(nF g72)] <;> rfl) rfl) rfl <| WL.nil <| ?_
 exact ⟨leE (lk_b rfl (by first | (rw [show nmB (keys[i1]'oO) = false by assumption]; rfl) | (rw [show nmB (keys[i1]'oO) = true by assumption]; clear hb91 hbL; subst_vars; rfl))), rfl⟩
 refine WL.gn rfl rfl rfl g73 <| WL.gn rfl rfl rfl g73 <| WL.gn rfl rfl rfl g73 <| WL.gn rfl rfl rfl g73 <| WL.gn rfl rfl rfl g73 <| WL.gy rfl rfl rfl (by rw [(nF g72)] <;> rfl) <| WL.p (.pkF rfl g73 rfl) rfl <| WL.p (.pkF rfl (by rw [(nF g72)] <;> rfl) rfl) rfl <| WL.nil <| ?_
 exact ⟨leE (lk_b rfl (by first | (rw [show nmB (keys[i1]'oO) = false by assumption]; rfl) | (rw [show nmB (keys[i1]'oO) = true by assumption]; clear hb91 hbL; subst_vars; rfl))), rfl⟩
 have g72' := (nT g72)
 refine WL.gn rfl rfl rfl (by rw [(nT g72)] <;> rfl) <| WL.gn rfl rfl rfl (by rw [(nT g72)] <;> rfl) <| WL.gn rfl rfl rfl (by rw [(nT g72)] <;> rfl) <| WL.gu rfl rfl rfl <| WL.gu rfl rfl rfl <| WL.gu rfl rfl rfl <| WL.gu rfl rfl rfl <| WL.gu rfl rfl rfl <| WL.gu rfl rfl rfl <| WL.gn rfl rfl rfl (by rw [(nT g72)] <;> rfl) <| WL.p (.pkT rfl (by rw [(nT g72)] <;> rfl) rfl) rfl <| WL.nil <| ?_
 exact ⟨leE (lk_b rfl (by first | (rw [show nmB (keys[i1]'oO) = false by assumption]; rfl) | (rw [show nmB (keys[i1]'oO) = true by assumption]; clear hb91 hbL; subst_vars; rfl))), rfl⟩
 refine W.cond rfl (fun h74 => ?_) (fun h74 => ?_)
 refine W.sr <| WL.z rfl rfl ?_
 refine W.ret (W.ret1 rfl rfl ?_)
 exact ⟨⟨false, fun h => by cases h⟩, rfl, hT1⟩
 have hq : (!nmB (keys[i1]'oO) || (b91 && bL)) = false := by assumption
 have hqn : nmB (keys[i1]'oO) = true := by cases hx : nmB (keys[i1]'oO) <;> rw [hx] at hq <;> first | rfl | cases hq
 have hqL : k = 9 → keys[i1]'oO ≠ [76, 101, 110, 103, 116, 104] := fun hk e => by
  rw [hqn, hb91, hbL, decide_eq_true hk, decide_eq_true e] at hq; cases hq
 refine W.skip <| W.sr <| WL.z rfl rfl ?_
 refine W.block ?_
 refine W.loop (α := Nat) (fun t => [(1, .int .i64 D), (2, .bool st), (3, .pointer (some ⟨b1, 0, none⟩)), (12, .int .i64 (i1 : Int)), (13, .int .i64 (t : Int))]) (fun t w' => Below w.heap.size w w' ∧ Blk w' b1 #[.int .i64 k, .int .i64 i, .string (bs s), .slice kp keys.length kc, .slice lp cs.length lc, .slice dp data.length dc] 31 ∧ RowAt strV w' kp keys ∧ RowM acL w' lp cs ∧ AInv w' S cs list ∧ keys[i1]'oO ∉ keys.take t ∧ t ≤ i1) (fun t => i1 - t) (0) ⟨rfl, rfl, rfl, rfl, rfl, trivial⟩ (⟨hT1, hk1, hkx1, hlx1, hf1, by simp, Nat.zero_le _⟩) (fun t w1 hR => ?_)
 obtain ⟨j1, rfl⟩ : ∃ i, i = t := ⟨t, rfl⟩
 obtain ⟨hT2, hk2, hkx2, hlx2, hf2, hno, ht2⟩ := hR
 refine W.seq <| W.sr <| WL.m rfl rfl <| WL.m rfl rfl <| WL.p (.lss rfl rfl) rfl <| WL.nil <| ?_
 refine W.cond rfl (fun h75 => ?_) (fun h75 => ?_)
 have h75' := dT h75
 refine W.skip <| W.seq <| W.block <| W.seq <| W.regQ mixed kR ?_
 refine WQ.p (.fa underlying31 rfl sizeOf28 dD rfl) rfl <| WQ.r (fun m => Rd.ld (isAgg28 _) rfl hk2 rfl) rfl <| WQ.p (.mv rfl) rfl <| WQ.p (.ixb underlying28 sizeOf9 rfl rfl (hkx2.isp oO) (j1) (rfl) oO) rfl <| WQ.r (fun m => Rd.ldc (isAgg9 _) rfl ((hkx2.drewN m).cells (j1) oO)) rfl <| WQ.p (.fa underlying31 rfl sizeOf28 dD rfl) rfl <| WQ.r (fun m => Rd.ld (isAgg28 _) rfl hk2 rfl) rfl <| WQ.p (.mv rfl) rfl <| WQ.p (.ixb underlying28 sizeOf9 rfl rfl (hkx2.isp oO) (i1) (rfl) oO) rfl <| WQ.r (fun m => Rd.ldc (isAgg9 _) rfl ((hkx2.drewN m).cells (i1) oO)) rfl <| WQ.p (.eqs rfl rfl) rfl <| WQ.nil (fun w76 dw76 => ?_)
 have hF77 := AInv.same (w1 := w76) hf2 (fun k hk hl => (by obtain ⟨m, rfl⟩ := dw76; rfl))
 have hk78 := hk2.drew dw76
 have hv79 := hkx2.drew dw76
 have hv80 := hlx2.drew dw76
 have hB81 := Drew.below hT2 dw76
 refine W.cond rfl (fun h82 => ?_) (fun h82 => ?_)
 have h82' := dT h82
 refine W.sr <| WL.z rfl rfl ?_
 refine W.ret (W.ret1 rfl rfl ?_)
 exact ⟨⟨false, fun h => by cases h⟩, rfl, hB81⟩
 have h82' := dF h82
 refine W.skip <| W.reg <| WL.m rfl rfl <| WL.p (.iis (((j1 + 1 : Nat) : Int)) (.add rfl rfl (i64w oO)) oO) rfl <| WL.z rfl rfl ?_
 exact ⟨j1 + 1, ⟨rfl, rfl, rfl, rfl, rfl, trivial⟩, ⟨hB81, hk78, hv79, hv80, hF77, str_mem oO hno aS, by ((try simp only) <;> omega)⟩, by ((try simp only) <;> omega)⟩
 have h75' := dF h75
 refine W.exit <| W.reg <| WL.m rfl rfl <| WL.p (.iis (((i1 + 1 : Nat) : Int)) (.add rfl rfl (i64w oO)) oO) rfl <| WL.z rfl rfl ?_
 exact ⟨i1 + 1, ⟨rfl, rfl, rfl, rfl, trivial⟩, ⟨hT2, hk2, hkx2, hlx2, hf2, hkb.step oO (nmB_ok hqn) (by (have e : j1 = i1 := by omega); (rw [e] at hno); exact hno) hqL, by ((try simp only) <;> omega)⟩, by ((try simp only) <;> omega)⟩
 have h70' := dF h70
 refine W.exit ?_
 exact ⟨(), ⟨rfl, rfl, trivial⟩, hT1, hk1, hlx1, hf1, .inr ⟨hkk i1 oO hkb, q1, q2, q3, by omega, (keysAll i1 oO hkb).1, (keysAll i1 oO hkb).2⟩⟩
 refine W.sr <| WL.z rfl rfl ?_
 refine W.ret (W.ret1 rfl rfl ?_)
 exact ⟨⟨false, fun h => by cases h⟩, rfl, hB7⟩
 obtain ⟨hj1, hj2, hj3, hj4, hpre⟩ := hR
 refine W.seq <| W.sr <| WL.p (.fa underlying31 rfl sizeOf29 dD rfl) rfl <| WL.r (Rd.ld (isAgg29 _) rfl hj2 rfl) rfl <| WL.p (.lenS underlying29 rfl) rfl <| WL.p (.gtr rfl rfl) rfl <| WL.nil <| ?_
 refine W.cond rfl (fun h83 => ?_) (fun h83 => ?_)
 have h83' := dT h83
 refine W.sr <| WL.z rfl rfl ?_
 refine W.ret (W.ret1 rfl rfl ?_)
 exact ⟨⟨false, fun h => by cases h⟩, rfl, hj1⟩
 have h83' := dF h83
 refine W.skip <| W.seq <| W.sr <| WL.z rfl rfl ?_
 refine W.block ?_
 refine W.loop (α := Nat) (fun t => [(1, .int .i64 D), (3, .pointer (some ⟨b1, 0, none⟩)), (14, .int .i64 (t : Int))]) (fun t w' => Below w.heap.size w w' ∧ Blk w' b1 #[.int .i64 k, .int .i64 i, .string (bs s), .slice kp keys.length kc, .slice lp cs.length lc, .slice dp data.length dc] 31 ∧ RowM acL w' lp cs ∧ AInv w' S cs list ∧ (∀ o ∈ list.take t, Snd (D - 1) false o) ∧ t ≤ cs.length) (fun t => cs.length - t) (0) ⟨rfl, rfl, rfl, trivial⟩ (⟨hj1, hj2, hj3, hj4, by simp, Nat.zero_le _⟩) (fun t w1 hR => ?_)
 obtain ⟨i3, rfl⟩ : ∃ i, i = t := ⟨t, rfl⟩
 obtain ⟨hT3, hk3, hlx3, hf3, hall, ht3⟩ := hR
 have hD1 := hpre.one
 refine W.seq <| W.sr <| WL.m rfl rfl <| WL.p (.fa underlying31 rfl sizeOf29 dD rfl) rfl <| WL.r (Rd.ld (isAgg29 _) rfl hk3 rfl) rfl <| WL.p (.lenS underlying29 rfl) rfl <| WL.p (.lss rfl rfl) rfl <| WL.nil <| ?_
 refine W.cond rfl (fun h84 => ?_) (fun h84 => ?_)
 have h84' := dT h84
 refine W.skip <| W.seq <| W.block <| W.sr <| WL.p (.fa underlying31 rfl sizeOf29 dD rfl) rfl <| WL.r (Rd.ld (isAgg29 _) rfl hk3 rfl) rfl <| WL.m rfl rfl <| WL.p (.ixm underlying29 sizeOf31 rfl rfl (hlx3.isp oO) (i3) (rfl) oO) rfl <| WL.r (Rd.ldS underlying31 rfl isz31 hlx3 (i3) oO rfl) rfl <| WL.m rfl rfl <| WL.p (.sub rfl rfl (i64w oO)) rfl <| WL.call hb36 rfl rfl ((ih (list[i3]'oO) (hsz i3 oO) _ S (D - 1) false _ ((hf3).sub i3 oO oO) oO oO)) (fun sb w85 hw85 => ?_)
 have hF86 := AInv.same (w1 := w85) hf3 (fun k hk hl => hw85.block k hl)
 have hk87 := hk3.below hw85 hk3.lt
 have hv88 := RowM.below hlx3 hw85 (fun h0 => hlx3.lt h0)
 have hB89 := btr hT3 hw85
 refine WL.p (.not rfl) rfl <| WL.nil <| ?_
 refine W.cond rfl (fun h90 => ?_) (fun h90 => ?_)
 have h90' := (nT h90)
 refine W.sr <| WL.z rfl rfl ?_
 refine W.ret (W.ret1 rfl rfl ?_)
 exact ⟨⟨false, fun h => by cases h⟩, rfl, hB89⟩
 have h90' := (nF h90)
 refine W.skip <| W.reg <| WL.m rfl rfl <| WL.p (.iis (((i3 + 1 : Nat) : Int)) (.add rfl rfl (i64w oO)) oO) rfl <| WL.z rfl rfl ?_
 exact ⟨i3 + 1, ⟨rfl, rfl, rfl, trivial⟩, ⟨hB89, hk87, hv88, hF86, fun o ho => by
  rw [List.take_add_one, List.getElem?_eq_getElem oO, Option.toList_some, List.mem_append, List.mem_singleton] at ho
  exact ho.elim (hall o) (fun e => by rw [e]; exact sb.2 (by cases hq : sb.1 <;> simp_all)), by ((try simp only) <;> omega)⟩, by ((try simp only) <;> omega)⟩
 have h84' := dF h84
 refine W.exit <| W.sr <| WL.z rfl rfl ?_
 refine W.ret (W.ret1 rfl rfl ?_)
 exact ⟨⟨true, fun _ => hpre.snd oO (fun o ho => hall o (by rw [List.take_of_length_le oO]; exact ho))⟩, rfl, hT3⟩
end
section
open Go.RowKit Go.WideShapes Go.ChangeShapes
/-- bytes as a conversion of a string lays them: the row's end is marked -/
structure Raw (w : World) (b c : Nat) (e : TypeId) (l : List UInt8) : Prop where
 cur : ∃ cur : Array Value, w.heap[b]? = some (.cells cur e (cur.size, cur.size + 1)) ∧ cur.size = c ∧ cur.toList.take l.length = byteVals l
 le : l.length ≤ c
theorem bytes_of_take {w : World} {g : Nat} {cur : Array Value} {e : TypeId} {fz : Nat × Nat} {l : List UInt8} (hg : w.heap[g]? = some (.cells cur e fz)) (ht : cur.toList.take l.length = byteVals l) : BytesAt w (some ⟨g, 0, none⟩) l := by
 refine ⟨fun _ => rfl, fun j hj => ?_⟩
 have e1 : (pA (some ⟨g, 0, none⟩)).add j = ⟨g, j, none⟩ := by
  show (⟨g, 0, none⟩ : Addr).add j = _
  unfold Addr.add; split
  ·
   next h => subst h; rfl
  ·
   simp
 rw [e1, Lib.cell_of_heap hg j, ← Array.getElem?_toList]
 have h2 : (cur.toList.take l.length)[j]? = (byteVals l)[j]? := by rw [ht]
 rw [List.getElem?_take, if_pos hj] at h2
 rw [h2]
 simp [byteVals, hj]
theorem Raw.bytes {w : World} {b c : Nat} {e : TypeId} {l : List UInt8} (h : Raw w b c e l) : BytesAt w (some ⟨b, 0, none⟩) l := by
 obtain ⟨cur, hg, -, ht⟩ := h.cur
 exact bytes_of_take hg ht
theorem Own.cat {e : TypeId} {B : Nat} {w : World} {v : Value} {l m : List UInt8} (h : Own e B w v (byteVals l ++ byteVals m)) : Own e B w v (byteVals (l ++ m)) := by
 rw [show byteVals (l ++ m) = byteVals l ++ byteVals m by simp [byteVals]]; exact h
end
section
open Go.RowKit Go.WideShapes Go.ChangeShapes
section
variable {P : Program} {n : Sh} {f : Fr}
/-- a part of a string -/
theorem Pure.slS {tx : TypeId} {x y z : Operand} {l : List UInt8} {kd ke : IntKind} {i j : Int} (hu : P.underlying tx = some .string) (hx : evo f x = some (.string (bs l))) (hi : evo f y = some (.int kd i)) (hj : evo f z = some (.int ke j)) (a b : Nat) (ei : i = a) (ej : j = b) (hab : a ≤ b) (hb : b ≤ l.length) :
  Pure P (.slice tx x (some y) (some z) none) f (.string (bs ((l.drop a).take (b - a)))) := fun ρ hρ d ty pos aft g w => by
 subst ei; subst ej
 have h3 : ¬ (b < a) := by omega
 simp [execOp, Instr.sliceAt, Instr.slice, Instr.sliceBounds, Instr.sliceBound, hρ _ _ hx, hρ _ _ hi, hρ _ _ hj, asIntOf, run_underlying hu, hab, hb, h3, fbs_extract, bs_size]
end
end
section
/-- regular bytes end here -/
def Bnd (r : List UInt8) : Prop := ∀ c r', r = c :: r' → regB c = false
theorem Bnd.nil : Bnd [] := fun c r' h => by cases h
theorem Bnd.cons {c : UInt8} {r : List UInt8} (h : regB c = false) : Bnd (c :: r) := fun c' r' e => by cases e; exact h
theorem tw_app {A r : List UInt8} (hA : ∀ x ∈ A, regB x = true) (hr : Bnd r) : (A ++ r).takeWhile regB = A := by
 induction A with
 | nil =>
  cases r with
  | nil => rfl
  | cons c r => rw [List.nil_append, List.takeWhile_cons, hr c r rfl]; rfl
 | cons a A ih => rw [List.cons_append, List.takeWhile_cons, hA a (by simp), if_pos rfl, ih fun x hx => hA x (by simp [hx])]
theorem dw_app {A r : List UInt8} (hA : ∀ x ∈ A, regB x = true) (hr : Bnd r) : (A ++ r).dropWhile regB = r := by
 induction A with
 | nil =>
  cases r with
  | nil => rfl
  | cons c r => rw [List.nil_append, List.dropWhile_cons, hr c r rfl]; rfl
 | cons a A ih => rw [List.cons_append, List.dropWhile_cons, hA a (by simp), if_pos rfl, ih fun x hx => hA x (by simp [hx])]
section
variable {l : List UInt8} {t : Nat}
theorem word_at {A r : List UInt8} (ht : t ≤ l.length) (h : l.drop t = A ++ r) (hA : ∀ x ∈ A, regB x = true) (hr : Bnd r) : wordL l t = A ∧ wordAt l t = l.length - r.length ∧ l.drop (wordAt l t) = r := by
 have h1 : wordL l t = A := by rw [wordL_eq, h, tw_app hA hr]
 have hl := congrArg List.length h
 rw [List.length_drop, List.length_append] at hl
 have h2 : wordAt l t = t + A.length := by unfold wordAt; rw [h, tw_app hA hr]
 refine ⟨h1, by omega, ?_⟩
 rw [h2, ← List.drop_drop, h, List.drop_left]
theorem skip_at {x : List UInt8} (h : skipS false (l.drop t) = x) : skipAt false l t = l.length - x.length ∧ l.drop (skipAt false l t) = x := ⟨by unfold skipAt; rw [h], by rw [skipAt_drop, h]⟩
end
theorem skipS_stop {c : UInt8} {r : List UInt8} (h : blankB c = false) (h37 : c ≠ 37) : skipS false (c :: r) = c :: r := by simp [skipS, h, h37]
theorem skipS_32 (r : List UInt8) : skipS false (32 :: r) = skipS false r := by simp [skipS, blankB]
theorem all256 {q : UInt8 → Prop} [DecidablePred q] (key : ∀ n : Fin 256, q (UInt8.ofNat n.1)) (c : UInt8) : q c := by
 have h := key ⟨c.toNat, UInt8.toNat_lt c⟩
 have e : UInt8.ofNat (⟨c.toNat, UInt8.toNat_lt c⟩ : Fin 256).1 = c := UInt8.ofNat_toNat
 rw [e] at h
 exact h
theorem nmE_reg (c : UInt8) : ∀ x ∈ nmE c, regB x = true := all256 (q := fun c => ∀ x ∈ nmE c, regB x = true) (by decide +kernel) c
theorem nmE_dec (c : UInt8) : (needHash c = true → nmE c = [35, hexDigits[c.toNat / 16]!, hexDigits[c.toNat % 16]!] ∧ hexN hexDigits[c.toNat / 16]! < 16 ∧ hexN hexDigits[c.toNat % 16]! < 16 ∧ ch ((16 * hexN hexDigits[c.toNat / 16]! + hexN hexDigits[c.toNat % 16]! : Nat) : Int) = c) ∧ (needHash c = false → nmE c = [c] ∧ c ≠ 35) :=
 all256 (q := fun c => (needHash c = true → nmE c = [35, hexDigits[c.toNat / 16]!, hexDigits[c.toNat % 16]!] ∧ hexN hexDigits[c.toNat / 16]! < 16 ∧ hexN hexDigits[c.toNat % 16]! < 16 ∧ ch ((16 * hexN hexDigits[c.toNat / 16]! + hexN hexDigits[c.toNat % 16]! : Nat) : Int) = c) ∧ (needHash c = false → nmE c = [c] ∧ c ≠ 35)) (by decide +kernel) c
theorem decN_name : ∀ s : List UInt8, decN (s.flatMap nmE) = some s
 | [] => rfl
 | c :: s => by
  have ih := decN_name s
  have hd := nmE_dec c
  rw [List.flatMap_cons]
  cases hn : needHash c with
  | true =>
   obtain ⟨h1, h2, h3, h4⟩ := hd.1 hn
   rw [h1]
   show decN (35 :: hexDigits[c.toNat / 16]! :: hexDigits[c.toNat % 16]! :: s.flatMap nmE) = _
   rw [decN_cons, if_pos rfl]
   simp only
   rw [if_pos ⟨h2, h3⟩, ih, h4]; rfl
  | false =>
   obtain ⟨h1, h2⟩ := hd.2 hn
   rw [h1]
   show decN (c :: s.flatMap nmE) = _
   rw [decN_cons, if_neg h2, ih]; rfl
theorem name_reg (s : List UInt8) : ∀ x ∈ s.flatMap nmE, regB x = true := fun x hx => by
 obtain ⟨c, -, hc⟩ := List.mem_flatMap.1 hx
 exact nmE_reg c x hc
theorem nameP_at {l : List UInt8} {t : Nat} {s r : List UInt8} (ht : t ≤ l.length) (h : l.drop t = s.flatMap nmE ++ r) (hs : nmOk s) (hr : Bnd r) : nameP l t = .ok (s, l.length - r.length) := by
 obtain ⟨h1, h2, -⟩ := word_at ht h (name_reg s) hr
 unfold nameP
 rw [h1, decN_name]
 simp only
 rw [if_neg (fun h => h.elim hs.1 hs.2.1), if_neg (by have := hs.2.2; omega), h2]
theorem roundS_textE (c : UInt8) (o r : List UInt8) : roundS 1 o (txE c ++ r) = roundS 1 (o ++ [c]) r := by
 unfold txE
 split
 ·
  next h =>
  show roundS 1 o (92 :: c :: r) = _
  rw [roundS_92]
  have he : escS c r = ([c], r) := by rcases h with rfl | rfl | rfl <;> rfl
  rw [he]
 ·
  next h =>
  split
  ·
   show roundS 1 o (92 :: ch (48 + (c.toNat : Int) / 64) :: ch (48 + (c.toNat : Int) / 8 % 8) :: ch (48 + (c.toNat : Int) % 8) :: r) = _
   rw [roundS_92, esc_octE]
  ·
   next h2 =>
   exact roundS_plain _ _ _ _ (fun e => h (.inl e)) (fun e => h (.inr (.inl e))) (fun e => h (.inr (.inr e))) (fun e => by subst e; exact h2 (.inl dD))
theorem roundS_text : ∀ (s o r : List UInt8), roundS 1 o (s.flatMap txE ++ r) = roundS 1 (o ++ s) r
 | [], o, r => by simp
 | c :: s, o, r => by rw [List.flatMap_cons, List.append_assoc, roundS_textE, roundS_text s]; simp
theorem textR_at {l : List UInt8} {t : Nat} {s r : List UInt8} (ht : t ≤ l.length) (h : l.drop t = txT s ++ r) (hs : s.length ≤ 65535) : textR l t = .ok (s, l.length - r.length) := by
 have hl := congrArg List.length h
 have hN : nextR l (t : Int) = ⟨6, 0, s, ((l.length - r.length : Nat) : Int), 0⟩ := by
  unfold nextR
  rw [if_neg oO]
  rw [show (t : Int).toNat = t from rfl, h, show txT s ++ r = 40 :: (s.flatMap txE ++ (41 :: r)) by simp [txT], tokS_40, roundS_text, roundS_41, if_pos rfl]
  simp only [textS, List.nil_append]
  rw [if_neg oO]
  rfl
 unfold textR
 rw [hN]
 simp
/-- words of digits -/
theorem dec_form (n : Int) (h : fitsB n = true) : ∃ m : Option Bool, ∃ W : List UInt8, decL n = sgn m ++ W ∧ neg m = decide (n < 0) ∧ (∀ c ∈ W, isDig c = true) ∧ W ≠ [] ∧ natOf W = n.natAbs ∧ W.length ≤ 10 := by
 have hf := fitsB_i h
 obtain ⟨a, b, c⟩ := digitsL_val n.natAbs
 have hl := digitsL_len 9 n.natAbs oO
 unfold decL
 by_cases hn : n < 0
 ·
  exact ⟨some true, digitsL n.natAbs, by rw [if_pos hn]; rfl, by rw [decide_eq_true hn]; rfl, a, c, b, by omega⟩
 ·
  exact ⟨none, digitsL n.natAbs, by rw [if_neg hn]; rfl, by rw [decide_eq_false hn]; rfl, a, c, b, by omega⟩
theorem dig_reg (c : UInt8) (h : isDig c = true) : regB c = true := all256 (q := fun c => isDig c = true → regB c = true) (by decide +kernel) c h
theorem sgn_reg (m : Option Bool) : ∀ x ∈ sgn m, regB x = true := by
 match m with
 | none => exact fun x hx => by cases hx
 | some true => exact fun x hx => by simp [sgn] at hx; subst hx; decide
 | some false => exact fun x hx => by simp [sgn] at hx; subst hx; decide
theorem sgn_not (m : Option Bool) {x : UInt8} (h1 : x ≠ 45) (h2 : x ≠ 43) : x ∉ sgn m := by
 match m with
 | none => exact fun h => by cases h
 | some true => simp [sgn]; exact h1
 | some false => simp [sgn]; exact h2
theorem dec_reg (n : Int) (h : fitsB n = true) : ∀ x ∈ decL n, regB x = true := by
 obtain ⟨m, W, e, -, hW, -⟩ := dec_form n h
 rw [e]
 exact fun x hx => (List.mem_append.1 hx).elim (sgn_reg m x) fun hx => dig_reg x (hW x hx)
theorem dec_tok (n : Int) (h : fitsB n = true) : tokenL (decL n) = tokInt n := by
 obtain ⟨m, W, e, hm, hW, h0, hv, hl⟩ := dec_form n h
 have hf := fitsB_i h
 have hs : (sgn m).length ≤ 1 := by match m with
  | none => simp [sgn]
  | some true => simp [sgn]
  | some false => simp [sgn]
 have hr : radixOk (decL n) = false := by
  unfold radixOk
  rw [cutC_no 35 _ (by rw [e]; exact fun hx => (List.mem_append.1 hx).elim (sgn_not m dD dD) fun hx => absurd (hW 35 hx) dD)]
  rfl
 rw [tokenL_plain _ (by rw [e, List.length_append]; omega) hr]
 have hw : wholeT (decL n) = (n, true) := by
  unfold wholeT
  rw [e, signedL_sgn m W fun c r hc => hW c (by rw [hc]; simp)]
  simp only
  have h1 : (W.isEmpty || !W.all isDig) = false := by
   rw [List.all_eq_true.2 hW]
   cases W with
   | nil => exact absurd rfl h0
   | cons a b => rfl
  rw [h1]
  simp only [Bool.false_eq_true, if_false]
  rw [satOf_eq, hv, hm]
  have h2 : (min n.natAbs 1099511627776) = n.natAbs := by omega
  rw [h2]
  have h3 : (if decide (n < 0) = true then -(n.natAbs : Int) else (n.natAbs : Int)) = n := by
   by_cases hn : n < 0
   ·
    rw [decide_eq_true hn, if_pos rfl]; omega
   ·
    rw [decide_eq_false hn, if_neg dD]; omega
  rw [h3]
  simp [hf]
 rw [hw]; rfl
theorem dec_no46 (n : Int) (h : fitsB n = true) : (decL n).contains 46 = false := by
 obtain ⟨m, W, e, -, hW, -⟩ := dec_form n h
 cases hc : (decL n).contains 46 with
 | false => rfl
 | true =>
  rw [List.contains_iff_mem, e] at hc
  exact absurd hc fun hx => (List.mem_append.1 hx).elim (sgn_not m dD dD) fun hx => absurd (hW 46 hx) dD
theorem dec_pm (n : Int) (h : fitsB n = true) : (decL n).all pmDig = true := by
 obtain ⟨m, W, e, -, hW, -⟩ := dec_form n h
 rw [List.all_eq_true, e]
 intro x hx
 rcases List.mem_append.1 hx with hx | hx
 ·
  match m with
  | none => cases hx
  | some true => simp [sgn] at hx; subst hx; decide
  | some false => simp [sgn] at hx; subst hx; decide
 ·
  unfold pmDig; rw [hW x hx]; rfl
theorem numR_dec (n : Int) (h : fitsB n = true) : numR (decL n) = (2, n, true) := by
 unfold numR
 rw [dec_no46 n h, dec_tok n h, dec_pm n h]
 rfl
theorem real_facts (n : Int) (h : fitsB n = true) : parseP (realL n) = (n, true) ∧ (realL n).contains 46 = true ∧ (∀ x ∈ realL n, regB x = true) := by
 have hf := fitsB_i h
 obtain ⟨w1, w2, w3, w4, w5⟩ := wholeL_facts n hf.1 hf.2
 obtain ⟨R, e, r0, rl, hR, hv⟩ := realL_form n
 have hm : neg (if n < 0 then some true else none) = decide (n < 0) := by split <;> simp_all [neg]
 refine ⟨?_, ?_, ?_⟩
 ·
  unfold parseP
  have hs : (sgn (if n < 0 then some true else none)).length ≤ 1 := by split <;> simp [sgn]
  rw [if_neg (by rw [e]; simp only [List.length_append, List.length_cons]; omega), e]
  have := parse_real (if n < 0 then some true else none) n 0 0 hf.1 hf.2 R hR hv hm
  simpa using this
 ·
  rw [List.contains_iff_mem, e]; simp
 ·
  rw [e]
  intro x hx
  rcases List.mem_append.1 hx with hx | hx
  ·
   exact sgn_reg _ x hx
  ·
   rcases List.mem_append.1 hx with hx | hx
   ·
    exact dig_reg x (w1 x hx)
   ·
    rcases List.mem_cons.1 hx with rfl | hx
    ·
     decide
    ·
     exact dig_reg x (hR x hx)
/-- the first byte of a number -/
theorem dec_head (n : Int) (h : fitsB n = true) : ∃ c r, decL n = c :: r ∧ (isDig c = true ∨ c = 45 ∨ c = 43) := by
 obtain ⟨m, W, e, -, hW, h0, -⟩ := dec_form n h
 cases W with
 | nil => exact absurd rfl h0
 | cons a W =>
  match m with
  | none => exact ⟨a, W, e, .inl (hW a (by simp))⟩
  | some true => exact ⟨45, a :: W, e, .inr (.inl rfl)⟩
  | some false => exact ⟨43, a :: W, e, .inr (.inr rfl)⟩
theorem real_head (n : Int) (h : fitsB n = true) : ∃ c r, realL n = c :: r ∧ (isDig c = true ∨ c = 45 ∨ c = 43) := by
 have hf := fitsB_i h
 obtain ⟨w1, w2, -⟩ := wholeL_facts n hf.1 hf.2
 obtain ⟨R, e, -⟩ := realL_form n
 by_cases hn : n < 0
 ·
  rw [if_pos hn] at e; exact ⟨45, _, e, .inr (.inl rfl)⟩
 ·
  rw [if_neg hn] at e
  cases hw : wholeL n with
  | nil => exact absurd hw w2
  | cons a W => rw [hw] at e; exact ⟨a, _, e, .inl (w1 a (by rw [hw]; simp))⟩
end
section
theorem r18_hexa (c : UInt8) (w : World) :
  Calls Tryz.prog 66 #[.int .u8 (c.toNat : Int)] w fun e w' => e = .returned (.string (bs [hexDigits[c.toNat / 16]!, hexDigits[c.toNat % 16]!])) ∧ Drew w w' := by
 have hc := UInt8.toNat_lt c
 have key : ∀ c : UInt8, ([48, 49, 50, 51, 52, 53, 54, 55, 56, 57, 97, 98, 99, 100, 101, 102].drop (c.toNat / 16)).take (c.toNat / 16 + 1 - c.toNat / 16) ++ ([48, 49, 50, 51, 52, 53, 54, 55, 56, 57, 97, 98, 99, 100, 101, 102].drop (c.toNat % 16)).take (c.toNat % 16 + 1 - c.toNat % 16) = [hexDigits[c.toNat / 16]!, hexDigits[c.toNat % 16]!] :=
  all256 (q := fun c => ([48, 49, 50, 51, 52, 53, 54, 55, 56, 57, 97, 98, 99, 100, 101, 102].drop (c.toNat / 16)).take (c.toNat / 16 + 1 - c.toNat / 16) ++ ([48, 49, 50, 51, 52, 53, 54, 55, 56, 57, 97, 98, 99, 100, 101, 102].drop (c.toNat % 16)).take (c.toNat % 16 + 1 - c.toNat % 16) = [hexDigits[c.toNat / 16]!, hexDigits[c.toNat % 16]!]) (by decide +kernel)
 refine W.enter func66 rfl ntmps66 (Nat.le_of_ble_eq_true rfl) ?_
 refine W.sr <| WL.z rfl rfl ?_
 refine W.sr <| WL.z rfl rfl ?_
 refine W.seq <| W.regQ mixed kR ?_
 refine WQ.p (.mv rfl) rfl <| WQ.p (.mv rfl) rfl <| WQ.p (.iis (((c.toNat / 16 : Nat) : Int)) (.quo rfl rfl oO (u8q oO oO oO)) oO) rfl <| WQ.p (.mv rfl) rfl <| WQ.p (.iis (((c.toNat / 16 : Nat) : Int)) (.quo rfl rfl oO (u8q oO oO oO)) oO) rfl <| WQ.p (.iis (((c.toNat / 16 + 1 : Nat) : Int)) (.add rfl rfl (u8w oO)) oO) rfl <| WQ.p (.slS underlying9 rfl rfl rfl (c.toNat / 16) (c.toNat / 16 + 1) (rfl) (rfl) oO (by simp; omega)) rfl <| WQ.p (.mv rfl) rfl <| WQ.p (.mv rfl) rfl <| WQ.p (.iis (((c.toNat % 16 : Nat) : Int)) (.rem rfl rfl oO (Int.tmod_eq_emod_of_nonneg oO)) oO) rfl <| WQ.p (.mv rfl) rfl <| WQ.p (.iis (((c.toNat % 16 : Nat) : Int)) (.rem rfl rfl oO (Int.tmod_eq_emod_of_nonneg oO)) oO) rfl <| WQ.p (.iis (((c.toNat % 16 + 1 : Nat) : Int)) (.add rfl rfl (u8w oO)) oO) rfl <| WQ.p (.slS underlying9 rfl rfl rfl (c.toNat % 16) (c.toNat % 16 + 1) (rfl) (rfl) oO (by simp; omega)) rfl <| WQ.p (.cat rfl rfl (by simp only [List.length_take, List.length_drop, List.length_cons, List.length_nil]; omega)) rfl <| WQ.p (.as rfl) rfl <| WQ.nil (fun w1 dw1 => ?_)
 refine W.ret (W.ret1 rfl rfl ?_)
 exact ⟨ret_val (by rw [key c]), dw1⟩
theorem flat_take {f : UInt8 → List UInt8} {s : List UInt8} {i : Nat} (h : i < s.length) : (s.take (i + 1)).flatMap f = (s.take i).flatMap f ++ f s[i] := by
 rw [List.take_succ_eq_append_getElem h, List.flatMap_append]; simp
theorem flat_take_len {f : UInt8 → List UInt8} {k : Nat} (hf : ∀ c, (f c).length ≤ k) (s : List UInt8) (i : Nat) : ((s.take i).flatMap f).length ≤ k * s.length := by
 have h1 := flat_len hf (s.take i)
 have h2 : (s.take i).length ≤ s.length := by rw [List.length_take]; omega
 exact Nat.le_trans h1 (Nat.mul_le_mul_left _ h2)
theorem take_one {s : List UInt8} {i : Nat} (h : i < s.length) : (s.drop i).take (i + 1 - i) = [s[i]] := by
 rw [show i + 1 - i = 1 by omega, List.drop_eq_getElem_cons h]; rfl
theorem needHash_int (c : UInt8) : needHash c = (decide ((c.toNat : Int) < 33) || decide ((c.toNat : Int) > 126) || decide ((c.toNat : Int) = 35) || delimB c) := by
 have h1 : (c == 35) = decide ((c.toNat : Int) = 35) := (u8_dec c 35).symm
 have h2 : decide (c.toNat < 33) = decide ((c.toNat : Int) < 33) := by rw [decide_eq_decide]; omega
 have h3 : decide (126 < c.toNat) = decide ((c.toNat : Int) > 126) := by rw [decide_eq_decide]; omega
 unfold needHash
 rw [h1, h2, h3]
theorem r18_NameA (s : List UInt8) (w : World) (hs : s.length ≤ 1000000) :
  Calls Tryz.prog 39 #[.string (bs s)] w fun e w' => e = .returned (.string (bs (nmT s))) ∧ Drew w w' := by
 refine W.enter func39 rfl ntmps39 (Nat.le_of_ble_eq_true rfl) ?_
 refine W.sr <| WL.z rfl rfl ?_
 refine W.sr <| WL.z rfl rfl ?_
 refine W.seq <| W.sr <| WL.z rfl rfl ?_
 refine W.block ?_
 refine W.loop (α := Nat) (fun t => [(0, .string (bs s)), (3, .string (bs (47 :: (s.take t).flatMap nmE))), (4, .int .i64 (t : Int))]) (fun t w' => Drew w w' ∧ t ≤ s.length) (fun t => s.length - t) (0) ⟨rfl, rfl, rfl, trivial⟩ (⟨Drew.refl _, Nat.zero_le _⟩) (fun t w1 hR => ?_)
 obtain ⟨i, rfl⟩ : ∃ i, i = t := ⟨t, rfl⟩
 obtain ⟨hD, hi⟩ := hR
 have hfl := flat_take_len nmE_len s i
 refine W.seq <| W.sr <| WL.m rfl rfl <| WL.m rfl rfl <| WL.p (.len underlying9 rfl) rfl <| WL.p (.lss rfl rfl) rfl <| WL.nil <| ?_
 refine W.cond rfl (fun h1 => ?_) (fun h1 => ?_)
 have h1' := dT h1
 refine W.skip <| W.seq <| W.block <| W.seq ?_
 have hft := flat_take (f := nmE) (show i < s.length by omega)
 obtain ⟨n1, hn1⟩ : ∃ b, b = decide (((s[i]'oO).toNat : Int) < 33) := ⟨_, rfl⟩
 obtain ⟨n2, hn2⟩ : ∃ b, b = decide (((s[i]'oO).toNat : Int) > 126) := ⟨_, rfl⟩
 obtain ⟨n3, hn3⟩ : ∃ b, b = decide (((s[i]'oO).toNat : Int) = 35) := ⟨_, rfl⟩
 have hnd : needHash (s[i]'oO) = (n1 || n2 || n3 || delimB (s[i]'oO)) := by rw [hn1, hn2, hn3]; exact needHash_int _
 refine W.reg <| WL.m rfl rfl <| WL.m rfl rfl <| WL.p (.ix underlying9 rfl rfl (i) (rfl) oO) rfl <| WL.z rfl rfl ?_
 refine W.cutB 28 ((n1 || n2 || n3 || delimB (s[i]'oO))) ?_ ?_
 refine W.reg <| WL.m rfl rfl <| WL.p (.bis (n1) (.lss rfl rfl) (by exact hn1.symm)) rfl <| WL.m rfl rfl <| WL.gd rfl rfl rfl (fun g2 => ?_) (fun g2 => ?_)
 refine WL.m rfl rfl <| WL.gy rfl rfl rfl g2 <| WL.p (.bis (n2) (.gtr rfl rfl) (by exact hn2.symm)) rfl <| WL.p (.pkF rfl g2 rfl) rfl <| WL.m rfl rfl <| WL.gd rfl rfl rfl (fun g3 => ?_) (fun g3 => ?_)
 refine WL.m rfl rfl <| WL.gy rfl rfl rfl g3 <| WL.p (.bis (n3) (.eql rfl rfl) (by exact hn3.symm)) rfl <| WL.p (.pkF rfl g3 rfl) rfl <| WL.m rfl rfl <| WL.gd rfl rfl rfl (fun g4 => ?_) (fun g4 => ?_)
 refine WL.m rfl rfl <| WL.gy rfl rfl rfl g4 <| WL.c1 hb61 rfl rfl ((ref_Delimiter _ _)) (fun w5 hw5 => ?_)
 obtain rfl := hw5
 refine WL.p (.pkF rfl g4 rfl) rfl <| WL.nil <| ?_
 exact ⟨leE (lk_b rfl (by cases n1 <;> cases n2 <;> cases n3 <;> first | rfl | contradiction)), rfl⟩
 refine WL.gn rfl rfl rfl g4 <| WL.p (.pkT rfl g4 rfl) rfl <| WL.nil <| ?_
 exact ⟨leE (lk_b rfl (by cases n1 <;> cases n2 <;> cases n3 <;> first | rfl | contradiction)), rfl⟩
 refine WL.gn rfl rfl rfl g3 <| WL.p (.pkT rfl g3 rfl) rfl <| WL.m rfl rfl <| WL.gn rfl rfl rfl rfl <| WL.gn rfl rfl rfl rfl <| WL.p (.pkT rfl rfl rfl) rfl <| WL.nil <| ?_
 exact ⟨leE (lk_b rfl (by cases n1 <;> cases n2 <;> cases n3 <;> first | rfl | contradiction)), rfl⟩
 refine WL.gn rfl rfl rfl g2 <| WL.p (.pkT rfl g2 rfl) rfl <| WL.m rfl rfl <| WL.gn rfl rfl rfl rfl <| WL.gn rfl rfl rfl rfl <| WL.p (.pkT rfl rfl rfl) rfl <| WL.m rfl rfl <| WL.gn rfl rfl rfl rfl <| WL.gn rfl rfl rfl rfl <| WL.p (.pkT rfl rfl rfl) rfl <| WL.nil <| ?_
 exact ⟨leE (lk_b rfl (by cases n1 <;> cases n2 <;> cases n3 <;> first | rfl | contradiction)), rfl⟩
 refine W.cond rfl (fun h6 => ?_) (fun h6 => ?_)
 refine W.reg <| WL.m rfl rfl <| WL.p (.cat rfl rfl (by simp only [List.length_append, List.length_cons, List.length_nil, List.length_take, List.length_drop]; omega)) rfl <| WL.m rfl rfl <| WL.c1 hb66 rfl rfl ((r18_hexa _ _)) (fun w7 hw7 => ?_)
 refine WL.p (.cat rfl rfl (by simp only [List.length_append, List.length_cons, List.length_nil, List.length_take, List.length_drop]; omega)) rfl <| WL.z rfl rfl ?_
 refine W.reg <| WL.m rfl rfl <| WL.p (.iis (((i + 1 : Nat) : Int)) (.add rfl rfl (i64w oO)) oO) rfl <| WL.z rfl rfl ?_
 exact ⟨i + 1, ⟨rfl, lk_s rfl (by rw [hft, show nmE (s[i]'oO) = [35, hexDigits[(s[i]'oO).toNat / 16]!, hexDigits[(s[i]'oO).toNat % 16]!] from if_pos (by rw [hnd]; assumption)]; simp), rfl, trivial⟩, ⟨hD.trans aS, by ((try simp only) <;> omega)⟩, by ((try simp only) <;> omega)⟩
 refine W.reg <| WL.m rfl rfl <| WL.m rfl rfl <| WL.m rfl rfl <| WL.m rfl rfl <| WL.p (.iis (((i + 1 : Nat) : Int)) (.add rfl rfl (i64w oO)) oO) rfl <| WL.p (.slS underlying9 rfl rfl rfl (i) (i + 1) (rfl) (rfl) oO oO) rfl <| WL.p (.cat rfl rfl (by simp only [List.length_append, List.length_cons, List.length_nil, List.length_take, List.length_drop]; omega)) rfl <| WL.z rfl rfl ?_
 refine W.reg <| WL.m rfl rfl <| WL.p (.iis (((i + 1 : Nat) : Int)) (.add rfl rfl (i64w oO)) oO) rfl <| WL.z rfl rfl ?_
 exact ⟨i + 1, ⟨rfl, lk_s rfl (by rw [hft, take_one oO, show nmE (s[i]'oO) = [s[i]'oO] from if_neg (bF (by rw [hnd]; assumption))]; simp), rfl, trivial⟩, ⟨hD, by ((try simp only) <;> omega)⟩, by ((try simp only) <;> omega)⟩
 have h1' := dF h1
 refine W.exit <| W.sr <| WL.m rfl rfl <| WL.z rfl rfl ?_
 refine W.ret (W.ret1 rfl rfl ?_)
 exact ⟨ret_val (by rw [List.take_of_length_le (show s.length ≤ i by omega)]; rfl), hD⟩
theorem txE_is (c : UInt8) : txE c = if (decide ((c.toNat : Int) = 40) || decide ((c.toNat : Int) = 41) || decide ((c.toNat : Int) = 92)) = true then [92, c] else if (decide ((c.toNat : Int) < 32) || decide ((c.toNat : Int) > 126)) = true then octE c else [c] := by
 have key : ∀ c : UInt8, txE c = if (decide ((c.toNat : Int) = 40) || decide ((c.toNat : Int) = 41) || decide ((c.toNat : Int) = 92)) = true then [92, c] else if (decide ((c.toNat : Int) < 32) || decide ((c.toNat : Int) > 126)) = true then octE c else [c] :=
  all256 (q := fun c => txE c = if (decide ((c.toNat : Int) = 40) || decide ((c.toNat : Int) = 41) || decide ((c.toNat : Int) = 92)) = true then [92, c] else if (decide ((c.toNat : Int) < 32) || decide ((c.toNat : Int) > 126)) = true then octE c else [c]) (by decide +kernel)
 exact key c
theorem octE_valsT (x : UInt8) : #[Value.int .u8 92, .int .u8 (48 + (x.toNat : Int) / 64), .int .u8 (48 + (x.toNat : Int) / 8 % 8), .int .u8 (48 + (x.toNat : Int) % 8)] = (byteVals (octE x)).toArray := by
 have hc := UInt8.toNat_lt x
 have v1 : ((ch (48 + (x.toNat : Int) / 64)).toNat : Int) = 48 + (x.toNat : Int) / 64 := ch_val _ oO oO
 have v2 : ((ch (48 + (x.toNat : Int) / 8 % 8)).toNat : Int) = 48 + (x.toNat : Int) / 8 % 8 := ch_val _ oO oO
 have v3 : ((ch (48 + (x.toNat : Int) % 8)).toNat : Int) = 48 + (x.toNat : Int) % 8 := ch_val _ oO oO
 simp [byteVals, octE, v1, v2, v3]
theorem r18_TextA (s : List UInt8) (w : World) (hs : s.length ≤ 1000000) :
  Calls Tryz.prog 40 #[.string (bs s)] w fun e w' => e = .returned (.string (bs (txT s))) ∧ Below w.heap.size w w' := by
 refine W.enter func40 rfl ntmps40 (Nat.le_of_ble_eq_true rfl) ?_
 have hB0 := Below.refl (w.heap.size) w
 refine W.sr <| WL.z rfl rfl ?_
 refine W.sr <| WL.bsl (ps := _) underlying22 sizeOf5 zeroValue5 rfl rfl rfl rfl rfl pR rfl (fun b1 wb1 eb1 hkb1 hub1 hsb1 => ?_)
 have hB2 := Upd.below hB0 (by rw [eb1]; exact hB0.size) hub1
 have hgeb1 : w.heap.size ≤ b1 := by rw [eb1]; exact hB0.size
 have ho3 := Own.lit (m := 1) hkb1 rfl (by unfold maxLen; omega)
 have hle4 : b1 ≤ wb1.heap.size := by omega
 have ho3x : Own _ _ _ _ (byteVals [40]) := ho3
 refine WL.z rfl rfl ?_
 refine W.seq <| W.sr <| WL.z rfl rfl ?_
 refine W.block ?_
 refine W.loop (α := Value × Nat) (fun t => [(0, .string (bs s)), (3, t.1), (4, .int .i64 (t.2 : Int))]) (fun t w' => Below w.heap.size w w' ∧ Own 5 b1 w' t.1 (byteVals (40 :: (s.take t.2).flatMap txE)) ∧ t.2 ≤ s.length ∧ b1 ≤ w'.heap.size) (fun t => s.length - t.2) ((_, 0)) ⟨rfl, rfl, rfl, trivial⟩ (⟨hB2, ho3x, Nat.zero_le _, hle4⟩) (fun t w1 hR => ?_)
 obtain ⟨v, i⟩ := t
 obtain ⟨hT, hown, hi, hle0⟩ := hR
 simp only at hown hi ⊢
 have hfl := flat_take_len txE_len s i
 refine W.seq <| W.sr <| WL.m rfl rfl <| WL.m rfl rfl <| WL.p (.len underlying9 rfl) rfl <| WL.p (.lss rfl rfl) rfl <| WL.nil <| ?_
 refine W.cond rfl (fun h5 => ?_) (fun h5 => ?_)
 have h5' := dT h5
 refine W.skip <| W.seq <| W.block <| W.seq ?_
 have hft := flat_take (f := txE) (show i < s.length by omega)
 have hte := txE_is (s[i]'oO)
 obtain ⟨n1, hn1⟩ : ∃ b, b = decide (((s[i]'oO).toNat : Int) = 40) := ⟨_, rfl⟩
 obtain ⟨n2, hn2⟩ : ∃ b, b = decide (((s[i]'oO).toNat : Int) = 41) := ⟨_, rfl⟩
 obtain ⟨n3, hn3⟩ : ∃ b, b = decide (((s[i]'oO).toNat : Int) = 92) := ⟨_, rfl⟩
 obtain ⟨n4, hn4⟩ : ∃ b, b = decide (((s[i]'oO).toNat : Int) < 32) := ⟨_, rfl⟩
 obtain ⟨n5, hn5⟩ : ∃ b, b = decide (((s[i]'oO).toNat : Int) > 126) := ⟨_, rfl⟩
 rw [← hn1, ← hn2, ← hn3, ← hn4, ← hn5] at hte
 have hcl := UInt8.toNat_lt (s[i]'oO)
 refine W.reg <| WL.m rfl rfl <| WL.m rfl rfl <| WL.p (.ix underlying9 rfl rfl (i) (rfl) oO) rfl <| WL.z rfl rfl ?_
 refine W.block ?_
 refine W.cutB 20 ((n1 || n2 || n3)) ?_ ?_
 refine W.reg <| WL.m rfl rfl <| WL.p (.bis (n1) (.eql rfl rfl) (by exact hn1.symm)) rfl <| WL.m rfl rfl <| WL.gd rfl rfl rfl (fun g6 => ?_) (fun g6 => ?_)
 refine WL.m rfl rfl <| WL.gy rfl rfl rfl g6 <| WL.p (.bis (n2) (.eql rfl rfl) (by exact hn2.symm)) rfl <| WL.p (.pkF rfl g6 rfl) rfl <| WL.m rfl rfl <| WL.gd rfl rfl rfl (fun g7 => ?_) (fun g7 => ?_)
 refine WL.m rfl rfl <| WL.gy rfl rfl rfl g7 <| WL.p (.bis (n3) (.eql rfl rfl) (by exact hn3.symm)) rfl <| WL.p (.pkF rfl g7 rfl) rfl <| WL.z rfl rfl ?_
 exact ⟨leE (lk_b rfl (by cases n1 <;> cases n2 <;> cases n3 <;> first | rfl | contradiction)), rfl⟩
 refine WL.gn rfl rfl rfl g7 <| WL.p (.pkT rfl g7 rfl) rfl <| WL.z rfl rfl ?_
 exact ⟨leE (lk_b rfl (by cases n1 <;> cases n2 <;> cases n3 <;> first | rfl | contradiction)), rfl⟩
 refine WL.gn rfl rfl rfl g6 <| WL.p (.pkT rfl g6 rfl) rfl <| WL.m rfl rfl <| WL.gn rfl rfl rfl rfl <| WL.gn rfl rfl rfl rfl <| WL.p (.pkT rfl rfl rfl) rfl <| WL.z rfl rfl ?_
 exact ⟨leE (lk_b rfl (by cases n1 <;> cases n2 <;> cases n3 <;> first | rfl | contradiction)), rfl⟩
 refine W.cond rfl (fun h8 => ?_) (fun h8 => ?_)
 refine W.reg <| WL.m rfl rfl <| WL.m rfl rfl <| WL.bsl (ps := _) underlying22 sizeOf5 zeroValue5 rfl rfl rfl rfl rfl pR rfl (fun b9 wb9 eb9 hkb9 hub9 hsb9 => ?_)
 have hle11 := Nat.le_trans hle0 hub9.size
 have ho10 := Own.new hown eb9 hub9
 have hB12 := Upd.below hT (by rw [eb9]; exact hT.size) hub9
 have hgeb9 : w.heap.size ≤ b9 := by rw [eb9]; exact hT.size
 have hzz := BytesAt.lit (l := [92, s[i]'oO]) hkb9 (rfl)
 refine WL.appB underlying22 inf5 rfl rfl rfl ho10 rfl hzz (by simp only [byteVals_len, List.length_cons, List.length_nil, octE]; omega) (hle11) rfl (fun h => nomatch h) (fun v13 w14 how14 hbw14 hgw14 => ?_)
 have hB15 := Below.trans hB12 (hbw14.mono (hgeb1))
 have ho16 := Own.cat how14
 have hle17 := Nat.le_trans hle11 hbw14.size
 refine WL.z rfl rfl ?_
 refine W.reg <| WL.m rfl rfl <| WL.p (.iis (((i + 1 : Nat) : Int)) (.add rfl rfl (i64w oO)) oO) rfl <| WL.z rfl rfl ?_
 exact ⟨(_, i + 1), ⟨rfl, rfl, rfl, trivial⟩, ⟨hB15, by rw [hft, hte, if_pos aS]; exact ho16, by ((try simp only) <;> omega), hle17⟩, by ((try simp only) <;> omega)⟩
 refine W.cutB 35 ((n4 || n5)) ?_ ?_
 refine W.reg <| WL.m rfl rfl <| WL.p (.bis (n4) (.lss rfl rfl) (by exact hn4.symm)) rfl <| WL.m rfl rfl <| WL.gd rfl rfl rfl (fun g18 => ?_) (fun g18 => ?_)
 refine WL.m rfl rfl <| WL.gy rfl rfl rfl g18 <| WL.p (.bis (n5) (.gtr rfl rfl) (by exact hn5.symm)) rfl <| WL.p (.pkF rfl g18 rfl) rfl <| WL.z rfl rfl ?_
 exact ⟨leE (lk_b rfl (by cases n4 <;> cases n5 <;> first | rfl | contradiction)), rfl⟩
 refine WL.gn rfl rfl rfl g18 <| WL.p (.pkT rfl g18 rfl) rfl <| WL.z rfl rfl ?_
 exact ⟨leE (lk_b rfl (by cases n4 <;> cases n5 <;> first | rfl | contradiction)), rfl⟩
 refine W.cond rfl (fun h19 => ?_) (fun h19 => ?_)
 refine W.reg <| WL.m rfl rfl <| WL.m rfl rfl <| WL.p (.quo rfl rfl oO (u8q oO oO oO)) rfl <| WL.p (.iis (48 + ((s[i]'oO).toNat : Int) / 64) (.add rfl rfl (u8w oO)) oO) rfl <| WL.m rfl rfl <| WL.p (.quo rfl rfl oO (u8q oO oO oO)) rfl <| WL.p (.rem rfl rfl oO (Int.tmod_eq_emod_of_nonneg oO)) rfl <| WL.p (.iis (48 + ((s[i]'oO).toNat : Int) / 8 % 8) (.add rfl rfl (u8w oO)) oO) rfl <| WL.m rfl rfl <| WL.p (.rem rfl rfl oO (Int.tmod_eq_emod_of_nonneg oO)) rfl <| WL.p (.iis (48 + ((s[i]'oO).toNat : Int) % 8) (.add rfl rfl (u8w oO)) oO) rfl <| WL.bsl (ps := _) underlying22 sizeOf5 zeroValue5 rfl rfl rfl rfl rfl pR rfl (fun b20 wb20 eb20 hkb20 hub20 hsb20 => ?_)
 have hle22 := Nat.le_trans hle0 hub20.size
 have ho21 := Own.new hown eb20 hub20
 have hB23 := Upd.below hT (by rw [eb20]; exact hT.size) hub20
 have hgeb20 : w.heap.size ≤ b20 := by rw [eb20]; exact hT.size
 have hyy := BytesAt.lit (l := octE (s[i]'oO)) hkb20 (octE_valsT _)
 refine WL.appB underlying22 inf5 rfl rfl rfl ho21 rfl hyy (by simp only [byteVals_len, List.length_cons, List.length_nil, octE]; omega) (hle22) rfl (fun h => by unfold octE at h; cases h) (fun v24 w25 how25 hbw25 hgw25 => ?_)
 have hB26 := Below.trans hB23 (hbw25.mono (hgeb1))
 have ho27 := Own.cat how25
 have hle28 := Nat.le_trans hle22 hbw25.size
 refine WL.z rfl rfl ?_
 refine W.reg <| WL.m rfl rfl <| WL.p (.iis (((i + 1 : Nat) : Int)) (.add rfl rfl (i64w oO)) oO) rfl <| WL.z rfl rfl ?_
 exact ⟨(_, i + 1), ⟨rfl, rfl, rfl, trivial⟩, ⟨hB26, by rw [hft, hte, if_neg (bF aS), if_pos aS]; exact ho27, by ((try simp only) <;> omega), hle28⟩, by ((try simp only) <;> omega)⟩
 refine W.reg <| WL.m rfl rfl <| WL.m rfl rfl <| WL.bsl (ps := _) underlying22 sizeOf5 zeroValue5 rfl rfl rfl rfl rfl pR rfl (fun b29 wb29 eb29 hkb29 hub29 hsb29 => ?_)
 have hle31 := Nat.le_trans hle0 hub29.size
 have ho30 := Own.new hown eb29 hub29
 have hB32 := Upd.below hT (by rw [eb29]; exact hT.size) hub29
 have hgeb29 : w.heap.size ≤ b29 := by rw [eb29]; exact hT.size
 refine WL.appm underlying22 inf5 rfl rfl rfl ho30 rfl hkb29 rfl (by simp only [byteVals_len, List.length_cons, List.length_nil, octE]; omega) (hle31) rfl (fun v33 w34 how34 hbw34 hgw34 => ?_)
 have hB35 := Below.trans hB32 (hbw34.mono (hgeb1))
 have ho36 := Own.snoc how34 (s[i]'oO) (rfl)
 have hle37 := Nat.le_trans hle31 hbw34.size
 refine WL.z rfl rfl ?_
 refine W.reg <| WL.m rfl rfl <| WL.p (.iis (((i + 1 : Nat) : Int)) (.add rfl rfl (i64w oO)) oO) rfl <| WL.z rfl rfl ?_
 exact ⟨(_, i + 1), ⟨rfl, rfl, rfl, trivial⟩, ⟨hB35, by rw [hft, hte, if_neg (bF aS), if_neg (bF aS)]; exact ho36, by ((try simp only) <;> omega), hle37⟩, by ((try simp only) <;> omega)⟩
 have h5' := dF h5
 refine W.exit <| W.seq ?_
 have hall : s.take i = s := List.take_of_length_le oO
 refine W.reg <| WL.m rfl rfl <| WL.bsl (ps := _) underlying22 sizeOf5 zeroValue5 rfl rfl rfl rfl rfl pR rfl (fun b38 wb38 eb38 hkb38 hub38 hsb38 => ?_)
 have hle40 := Nat.le_trans hle0 hub38.size
 have ho39 := Own.new hown eb38 hub38
 have hB41 := Upd.below hT (by rw [eb38]; exact hT.size) hub38
 have hgeb38 : w.heap.size ≤ b38 := by rw [eb38]; exact hT.size
 refine WL.appm underlying22 inf5 rfl rfl rfl ho39 rfl hkb38 rfl (by simp only [byteVals_len, List.length_cons, List.length_nil, octE]; omega) (hle40) rfl (fun v42 w43 how43 hbw43 hgw43 => ?_)
 have hB44 := Below.trans hB41 (hbw43.mono (hgeb1))
 have ho45 := Own.snoc how43 (41) (rfl)
 have hle46 := Nat.le_trans hle40 hbw43.size
 obtain ⟨pq, cq, eq, hq, hBq, hcq, hnq⟩ := Own.bytesC (l := (40 :: (s.take i).flatMap txE ++ [41])) ho45
 subst eq
 refine WL.r (Rd.b2s (l := (40 :: (s.take i).flatMap txE ++ [41])) underlying22 underlying5 underlying9 rfl (hq)) rfl <| WL.z rfl rfl ?_
 refine W.ret (W.ret1 rfl rfl ?_)
 exact ⟨ret_val (by rw [hall]; rfl), hB44⟩
end
section
/-- the first word, and what is behind it -/
def firstW (x : List UInt8) : List UInt8 := (skipS false x).takeWhile regB
def afterW (x : List UInt8) : List UInt8 := (skipS false x).dropWhile regB
/-- no reference goes on here -/
def NoR (k : Int) (r : List UInt8) : Prop := k = 2 → ¬ (firstW r = [48] ∧ firstW (afterW r) = [82])
theorem drop_tw : ∀ x : List UInt8, x.drop (x.takeWhile regB).length = x.dropWhile regB
 | [] => rfl
 | c :: r => by
  rw [List.takeWhile_cons, List.dropWhile_cons]
  cases h : regB c with
  | true => simp only [if_true, List.length_cons, List.drop_succ_cons]; exact drop_tw r
  | false => rfl
theorem drop_word (l : List UInt8) (a : Nat) : l.drop (wordAt l a) = (l.drop a).dropWhile regB := by
 unfold wordAt
 rw [← List.drop_drop]
 exact drop_tw (l.drop a)
theorem refR_words (refs : Bool) (l s : List UInt8) (t : Nat) (r : List UInt8) (h : l.drop t = r) (hn : ¬ (firstW r = [48] ∧ firstW (afterW r) = [82])) : refR refs l s t = none := by
 subst h
 unfold refR
 have e1 : wordL l (skipAt false l t) = firstW (l.drop t) := by rw [wordL_eq, skipAt_drop]; rfl
 have e2 : wordL l (skipAt false l (wordAt l (skipAt false l t))) = firstW (afterW (l.drop t)) := by rw [wordL_eq, skipAt_drop, drop_word, skipAt_drop]; rfl
 rw [e1, e2]
 split
 ·
  split
  ·
   rw [if_neg fun h => hn ⟨by assumption, h⟩]
  ·
   rfl
 ·
  rfl
section
variable {l : List UInt8} {t : Nat}
theorem head_at {c : UInt8} {r : List UInt8} (h : l.drop t = c :: r) : l[t]? = some c ∧ t < l.length ∧ l.drop (t + 1) = r := by
 have h0 : (l.drop t)[0]? = some c := by rw [h]; rfl
 rw [List.getElem?_drop] at h0
 refine ⟨h0, (List.getElem?_eq_some_iff.1 h0).1, ?_⟩
 rw [← List.drop_drop, h]; rfl
theorem plain_case (d : Nat) {c : UInt8} {r : List UInt8} (h : l.drop t = c :: r) (h1 : c ≠ 47) (h2 : c ≠ 91) (h3 : c ≠ 40) (h4 : c ≠ 60) : objP true l d t = plainO (plexW true l t) := by
 have := objP_at true l (d : Int) t c (head_at h).1
 rw [Int.toNat_natCast, if_neg h1, if_neg h2, if_neg h3, if_neg h4] at this
 exact this
end
/-- a byte with which an object begins -/
def headB (c : UInt8) : Bool := !blankB c && !(c == 37) && !(c == 93) && !(c == 62) && !(c == 82)
theorem num_head {c : UInt8} (h : isDig c = true ∨ c = 45 ∨ c = 43) : headB c = true ∧ c ≠ 47 ∧ c ≠ 91 ∧ c ≠ 40 ∧ c ≠ 60 ∧ c ≠ 110 ∧ c ≠ 116 ∧ c ≠ 102 := by
 have key : ∀ c : UInt8, (isDig c = true ∨ c = 45 ∨ c = 43) → headB c = true ∧ c ≠ 47 ∧ c ≠ 91 ∧ c ≠ 40 ∧ c ≠ 60 ∧ c ≠ 110 ∧ c ≠ 116 ∧ c ≠ 102 :=
  all256 (q := fun c => (isDig c = true ∨ c = 45 ∨ c = 43) → headB c = true ∧ c ≠ 47 ∧ c ≠ 91 ∧ c ≠ 40 ∧ c ≠ 60 ∧ c ≠ 110 ∧ c ≠ 116 ∧ c ≠ 102) (by decide +kernel)
 exact key c h
theorem pr_head {D : Int} {st : Bool} {o : AV} (h : Snd D st o) : ∃ c r, prO o = c :: r ∧ headB c = true := by
 cases h with
 | null => exact ⟨_, _, by simp [prO]; exact ⟨rfl, rfl⟩, by decide⟩
 | bool _ _ n h => rcases h with rfl | rfl <;> exact ⟨_, _, by simp [prO]; exact ⟨rfl, rfl⟩, by decide⟩
 | num _ _ k n hk h =>
  rcases hk with rfl | rfl
  ·
   obtain ⟨c, r, e, hc⟩ := dec_head n h
   exact ⟨c, r, by simp [prO]; exact e, (num_head hc).1⟩
  ·
   obtain ⟨c, r, e, hc⟩ := real_head n h
   exact ⟨c, r, by simp [prO, norm_fits h]; exact e, (num_head hc).1⟩
 | name _ _ t h => exact ⟨47, _, by simp [prO, nmT]; rfl, by decide⟩
 | text _ _ t h => exact ⟨40, _, by simp [prO, txT]; rfl, by decide⟩
 | ref _ _ n h =>
  obtain ⟨c, r, e, hc⟩ := dec_head n (by simp [fitsB]; omega)
  exact ⟨c, r ++ [32, 48, 32, 82], by simp [prO, e], (num_head hc).1⟩
 | arr _ _ l hD hl h => exact ⟨91, _, by simp [prO]; rfl, by decide⟩
 | dict _ _ k ks l d hk hD hl hkl hn hnd h => rcases hk with ⟨rfl, -⟩ | ⟨rfl, -⟩ <;> exact ⟨60, _, by simp [prO]; rfl, by decide⟩
theorem headB_f {c : UInt8} (h : headB c = true) : blankB c = false ∧ c ≠ 37 ∧ c ≠ 93 ∧ c ≠ 62 ∧ c ≠ 82 := by
 simp only [headB, Bool.and_eq_true, Bool.not_eq_true', beq_eq_false_iff_ne] at h
 exact ⟨h.1.1.1.1, h.1.1.1.2, h.1.1.2, h.1.2, h.2⟩
theorem pr_skip {D : Int} {st : Bool} {o : AV} (h : Snd D st o) (x : List UInt8) : skipS false (prO o ++ x) = prO o ++ x := by
 obtain ⟨c, r, e, hc⟩ := pr_head h
 have := headB_f hc
 rw [e, List.cons_append, skipS_stop this.1 this.2.1]
theorem first_R {D : Int} {st : Bool} {o : AV} (h : Snd D st o) (x : List UInt8) : firstW (prO o ++ x) ≠ [82] := by
 obtain ⟨c, r, e, hc⟩ := pr_head h
 have := headB_f hc
 unfold firstW
 rw [pr_skip h, e, List.cons_append, List.takeWhile_cons]
 split
 ·
  exact fun he => this.2.2.2.2 (List.cons.inj he).1
 ·
  exact fun he => by cases he
/-- if the first word is a nought, that is all -/
theorem first_0 {D : Int} {st : Bool} {o : AV} (h : Snd D st o) {x : List UInt8} (hx : Bnd x) (h0 : firstW (prO o ++ x) = [48]) : afterW (prO o ++ x) = x := by
 have hw : ∀ A : List UInt8, (∀ y ∈ A, regB y = true) → prO o = A → firstW (prO o ++ x) = A ∧ afterW (prO o ++ x) = x := fun A hA e => by
  unfold firstW afterW
  rw [pr_skip h, e, tw_app hA hx, dw_app hA hx]; exact ⟨rfl, rfl⟩
 have hd : ∀ (c : UInt8) (r : List UInt8), prO o = c :: r → regB c = false → firstW (prO o ++ x) = [] := fun c r e hc => by
  unfold firstW
  rw [pr_skip h, e, List.cons_append, List.takeWhile_cons, hc]; rfl
 cases h with
 | null => exact (hw [110, 117, 108, 108] dD (by simp [prO])).2
 | bool _ _ n h =>
  rcases h with rfl | rfl
  ·
   exact (hw [102, 97, 108, 115, 101] dD (by simp [prO])).2
  ·
   exact (hw [116, 114, 117, 101] dD (by simp [prO])).2
 | num _ _ k n hk h =>
  rcases hk with rfl | rfl
  ·
   exact (hw _ (dec_reg n h) (by simp [prO])).2
  ·
   exact (hw _ (real_facts n h).2.2 (by simp [prO, norm_fits h])).2
 | name _ _ t h => rw [hd 47 (t.flatMap nmE) (by simp [prO, nmT]) dD] at h0; cases h0
 | text _ _ t h => rw [hd 40 _ (by simp [prO, txT]; rfl) dD] at h0; cases h0
 | ref _ _ n h =>
  exfalso
  have hf : fitsB n = true := by simp [fitsB]; omega
  have hs := pr_skip (Snd.ref D st n h) x
  unfold firstW at h0
  have e : prO (.mk 8 n [] [] [] []) = decL n ++ [32, 48, 32, 82] := by simp [prO]
  rw [hs, e, List.append_assoc, show ([32, 48, 32, 82] : List UInt8) ++ x = 32 :: (48 :: 32 :: 82 :: x) from rfl, tw_app (dec_reg n hf) (Bnd.cons dD)] at h0
  obtain ⟨m, W, e2, -, -, -, hv, -⟩ := dec_form n hf
  have hn : natOf (digitsL n.natAbs) = n.natAbs := (digitsL_val n.natAbs).2.1
  have hd2 : decL n = digitsL n.natAbs := by unfold decL; rw [if_neg oO]
  rw [hd2] at h0
  rw [h0] at hn
  have : natOf [48] = 0 := by decide
  omega
 | arr _ _ l hD hl h => rw [hd 91 _ (by simp [prO]; rfl) dD] at h0; cases h0
 | dict _ _ k ks l d hk hD hl hkl hn hnd h =>
  have e : ∃ r, prO (.mk k 0 [] ks l d) = 60 :: r := by rcases hk with ⟨rfl, -⟩ | ⟨rfl, -⟩ <;> exact ⟨_, by simp [prO]; rfl⟩
  obtain ⟨r, e⟩ := e
  rw [hd 60 r e dD] at h0; cases h0
theorem bnd_list (r : List AV) (x : List UInt8) : Bnd (prB r ++ 93 :: x) := by
 cases r with
 | nil => exact Bnd.cons dD
 | cons o r => rw [prB]; exact Bnd.cons dD
theorem firstW_32 (x : List UInt8) : firstW (32 :: x) = firstW x ∧ afterW (32 :: x) = afterW x := by unfold firstW afterW; rw [skipS_32]; exact ⟨rfl, rfl⟩
theorem firstW_delim {c : UInt8} (x : List UInt8) (h : regB c = false) (h1 : blankB c = false) (h2 : c ≠ 37) : firstW (c :: x) = [] := by
 unfold firstW; rw [skipS_stop h1 h2, List.takeWhile_cons, h]; rfl
theorem nr_list {D : Int} (k : Int) (r : List AV) (hr : ∀ o ∈ r, Snd D false o) (x : List UInt8) : NoR k (prB r ++ 93 :: x) := by
 intro _ ⟨h0, h1⟩
 cases r with
 | nil =>
  rw [show prB [] ++ 93 :: x = 93 :: x by simp [prB], firstW_delim x dD dD dD] at h0; cases h0
 | cons o r =>
  have e : prB (o :: r) ++ 93 :: x = 32 :: (prO o ++ (prB r ++ 93 :: x)) := by simp [prB]
  rw [e, (firstW_32 _).1] at h0
  rw [e, (firstW_32 _).2, first_0 (hr o (by simp)) (bnd_list r x) h0] at h1
  cases r with
  | nil => rw [show prB [] ++ 93 :: x = 93 :: x by simp [prB], firstW_delim x dD dD dD] at h1; cases h1
  | cons o2 r =>
   have e : prB (o2 :: r) ++ 93 :: x = 32 :: (prO o2 ++ (prB r ++ 93 :: x)) := by simp [prB]
   rw [e, (firstW_32 _).1] at h1
   exact first_R (hr o2 (by simp)) _ h1
/-- what is behind a dictionary's names and objects -/
theorem pairs_head (ks : List (List UInt8)) (r : List AV) (x : List UInt8) : ∃ c y, prP ks r ++ 32 :: 62 :: x = 32 :: c :: y ∧ (c = 47 ∨ c = 62) := by
 match ks, r with
 | [], r => exact ⟨62, x, by simp [prP], .inr rfl⟩
 | k :: ks, [] => exact ⟨62, x, by simp [prP], .inr rfl⟩
 | k :: ks, o :: r => exact ⟨47, k.flatMap nmE ++ 32 :: (prO o ++ prP ks r) ++ 32 :: 62 :: x, by simp [prP, nmT], .inl rfl⟩
theorem nr_pairs (k : Int) (ks : List (List UInt8)) (r : List AV) (x : List UInt8) : NoR k (prP ks r ++ 32 :: 62 :: x) := by
 intro _ ⟨h0, _⟩
 obtain ⟨c, y, e, hc⟩ := pairs_head ks r x
 rw [e, (firstW_32 _).1, firstW_delim y (by rcases hc with rfl | rfl <;> decide) (by rcases hc with rfl | rfl <;> decide) (by rcases hc with rfl | rfl <;> decide)] at h0
 cases h0
theorem prB_ge : ∀ l : List AV, l.length ≤ (prB l).length
 | [] => Nat.le_refl _
 | o :: r => by
  have := prB_ge r
  rw [prB, List.length_cons, List.length_cons, List.length_append]; omega
theorem prP_ge : ∀ (ks : List (List UInt8)) (l : List AV), ks.length = l.length → l.length ≤ (prP ks l).length
 | [], [], _ => Nat.le_refl _
 | k :: ks, o :: r, h => by
  have := prP_ge ks r (by simpa using h)
  simp only [prP, List.length_cons, List.length_append]; omega
/-- an object is read as it was written -/
def Reads (o : AV) : Prop := ∀ (l : List UInt8) (t : Nat) (rest : List UInt8) (d : Nat), t ≤ l.length → l.drop t = prO o ++ rest → Bnd rest → NoR o.kind rest → objP true l d t = if dpO o ≤ d then .ok (pvO o, l.length - rest.length) else .error 25
theorem step_over {l A r : List UInt8} {t : Nat} (ht : t ≤ l.length) (h : l.drop t = A ++ r) : l.drop (l.length - r.length) = r ∧ l.length - r.length ≤ l.length ∧ r.length ≤ l.length := by
 have hl := congrArg List.length h
 rw [List.length_drop, List.length_append] at hl
 refine ⟨?_, by omega, by omega⟩
 rw [show l.length - r.length = t + A.length by omega, ← List.drop_drop, h, List.drop_left]
theorem listP_print (l : List UInt8) (d : Nat) (rest : List UInt8) {D : Int} : ∀ (r : List AV) (acc : List PV) (t f : Nat), (∀ o ∈ r, Snd D false o) → (∀ o ∈ r, Reads o) → t ≤ l.length → skipS false (l.drop t) = (prB r).drop 1 ++ 93 :: rest → r.length < f → acc.length + r.length ≤ 65535 →
  listP (objP true l d) l f acc t = if dpL r ≤ d then .ok (acc ++ pvL r, l.length - rest.length) else .error 25
 | [], acc, t, f, _, _, ht, h, hf, _ => by
  obtain ⟨-, h2⟩ := skip_at h
  rw [show (prB []).drop 1 ++ 93 :: rest = 93 :: rest by simp [prB]] at h2
  obtain ⟨h3, h4, -⟩ := head_at h2
  have hl := congrArg List.length h2
  rw [List.length_drop, List.length_cons] at hl
  rw [listP_step oO, h3]
  simp only [if_true]
  rw [if_pos (show dpL [] ≤ d by simp [dpL])]
  congr 2
  ·
   simp [pvL]
  ·
   omega
 | o :: r, acc, t, f, hS, hR, ht, h, hf, ha => by
  obtain ⟨-, h2⟩ := skip_at h
  have hso := hS o (by simp)
  rw [show (prB (o :: r)).drop 1 ++ 93 :: rest = prO o ++ (prB r ++ 93 :: rest) by simp [prB]] at h2
  obtain ⟨c, q, hq, hc⟩ := pr_head hso
  obtain ⟨h3, h4, -⟩ := head_at (show l.drop (skipAt false l t) = c :: (q ++ (prB r ++ 93 :: rest)) by rw [h2, hq]; rfl)
  rw [listP_step oO, h3]
  simp only
  simp only [List.length_cons] at hf ha
  rw [if_neg (headB_f hc).2.2.1, if_neg oO]
  rw [hR o (by simp) l _ _ d oO h2 (bnd_list r rest) (nr_list o.kind r (fun x hx => hS x (by simp [hx])) rest)]
  by_cases hd : dpO o ≤ d
  ·
   rw [if_pos hd]
   simp only
   obtain ⟨g1, g2, g3⟩ := step_over oO h2
   rw [listP_print l d rest r (acc ++ [pvO o]) _ (f - 1) (fun x hx => hS x (by simp [hx])) (fun x hx => hR x (by simp [hx])) g2 (by
    rw [g1]
    cases r with
    | nil => rw [show prB [] ++ 93 :: rest = 93 :: rest by simp [prB]]; exact skipS_stop dD dD
    | cons o2 r2 =>
     rw [show prB (o2 :: r2) ++ 93 :: rest = 32 :: (prO o2 ++ (prB r2 ++ 93 :: rest)) by simp [prB], skipS_32, pr_skip (hS o2 (by simp))]
     simp [prB]) oO (by rw [List.length_append, List.length_singleton]; omega)]
   have e : dpL (o :: r) = max (dpO o) (dpL r) := by rw [dpL]
   by_cases h5 : dpL r ≤ d
   ·
    rw [if_pos h5, if_pos oO]; simp [pvL]
   ·
    rw [if_neg h5, if_neg oO]
  ·
   rw [if_neg hd]
   simp only
   rw [if_neg (by rw [dpL]; omega)]
theorem pairsP_print (l : List UInt8) (d : Nat) (rest : List UInt8) {D : Int} : ∀ (ks : List (List UInt8)) (r : List AV) (ka : List (List UInt8)) (acc : List PV) (t f : Nat), ks.length = r.length → (∀ k ∈ ks, nmOk k) → (ka ++ ks).Nodup → (∀ o ∈ r, Snd D false o) → (∀ o ∈ r, Reads o) → t ≤ l.length →
  skipS false (l.drop t) = (prP ks r ++ 32 :: 62 :: 62 :: rest).drop 1 → r.length < f → acc.length + r.length ≤ 65535 →
  pairsP (objP true l d) l f ka acc t = if dpL r ≤ d then .ok (ka ++ ks, acc ++ pvL r, l.length - rest.length) else .error 25
 | [], [], ka, acc, t, f, _, _, _, _, _, ht, h, hf, _ => by
  obtain ⟨-, h2⟩ := skip_at h
  rw [show (prP [] [] ++ 32 :: 62 :: 62 :: rest).drop 1 = 62 :: 62 :: rest by simp [prP]] at h2
  obtain ⟨h3, h4, h5⟩ := head_at h2
  obtain ⟨h6, h7, -⟩ := head_at h5
  have hl := congrArg List.length h2
  rw [List.length_drop, List.length_cons, List.length_cons] at hl
  rw [pairsP_step oO, h3]
  simp only
  rw [if_neg (by rintro ⟨-, h⟩; omega), if_pos (by exact ⟨by trivial, h6⟩), if_pos (show dpL [] ≤ d by simp [dpL])]
  congr 3
  ·
   simp
  ·
   simp [pvL]
  ·
   omega
 | k :: ks, o :: r, ka, acc, t, f, hkl, hk, hnd, hS, hR, ht, h, hf, ha => by
  obtain ⟨-, h2⟩ := skip_at h
  have hso := hS o (by simp)
  have e0 : (prP (k :: ks) (o :: r) ++ 32 :: 62 :: 62 :: rest).drop 1 = 47 :: (k.flatMap nmE ++ 32 :: (prO o ++ (prP ks r ++ 32 :: 62 :: 62 :: rest))) := by simp [prP, nmT]
  rw [e0] at h2
  obtain ⟨h3, h4, h5⟩ := head_at h2
  simp only [List.length_cons] at hf ha
  have hnm := nameP_at oO h5 (hk k (by simp)) (Bnd.cons dD)
  obtain ⟨g1, g2, g3⟩ := step_over oO h5
  have g4 : skipS false (l.drop (l.length - (32 :: (prO o ++ (prP ks r ++ 32 :: 62 :: 62 :: rest))).length)) = prO o ++ (prP ks r ++ 32 :: 62 :: 62 :: rest) := by rw [g1, skipS_32, pr_skip hso]
  obtain ⟨-, g5⟩ := skip_at g4
  obtain ⟨c, q, hq, hc⟩ := pr_head hso
  obtain ⟨g6, g7, -⟩ := head_at (g5.trans (show _ = c :: (q ++ (prP ks r ++ 32 :: 62 :: 62 :: rest)) by rw [hq]; rfl))
  obtain ⟨c2, y2, e2, hc2⟩ := pairs_head ks r (62 :: rest)
  rw [pairsP_step oO, h3]
  simp only
  rw [if_neg (by rintro ⟨h, -⟩; cases h), if_neg (by rintro ⟨h, -⟩; cases h), if_neg (by simp), hnm]
  simp only
  have hka : k ∉ ka := fun hm => by
   have := (List.nodup_append.1 hnd).2.2 k hm k (by simp)
   exact this rfl
  rw [if_neg hka, if_neg oO, g6]
  simp only
  rw [hR o (by simp) l _ _ d oO g5 (by rw [e2]; exact Bnd.cons dD) (nr_pairs o.kind ks r (62 :: rest))]
  by_cases hd : dpO o ≤ d
  ·
   rw [if_pos hd]
   simp only
   obtain ⟨k1, k2, k3⟩ := step_over oO g5
   rw [pairsP_print l d rest ks r (ka ++ [k]) (acc ++ [pvO o]) _ (f - 1) (by simpa using hkl) (fun x hx => hk x (by simp [hx])) (by simpa using hnd) (fun x hx => hS x (by simp [hx])) (fun x hx => hR x (by simp [hx])) k2 (by
    rw [k1, e2, skipS_32, skipS_stop (by rcases hc2 with rfl | rfl <;> decide) (by rcases hc2 with rfl | rfl <;> decide)]; rfl) oO (by rw [List.length_append, List.length_singleton]; omega)]
   have e : dpL (o :: r) = max (dpO o) (dpL r) := by rw [dpL]
   by_cases h5 : dpL r ≤ d
   ·
    rw [if_pos h5, if_pos oO]; simp [pvL]
   ·
    rw [if_neg h5, if_neg oO]
  ·
   rw [if_neg hd]
   simp only
   rw [if_neg (by rw [dpL]; omega)]
theorem plexW_num (l : List UInt8) (t : Nat) (k n : Int) (s : List UInt8) (hs : wordL l t = s) (hh : ∃ c r, s = c :: r ∧ (isDig c = true ∨ c = 45 ∨ c = 43)) (hr : refR true l s (wordAt l t) = none) (hn : numR s = (k, n, true)) : plexW true l t = ⟨k, n, s, true, wordAt l t⟩ := by
 obtain ⟨c, r, e, hc⟩ := hh
 have hq := num_head hc
 unfold plexW
 rw [hs, if_neg (by rw [e]; intro h; exact hq.2.2.2.2.2.1 (List.cons.inj h).1), if_neg (by rw [e]; intro h; exact hq.2.2.2.2.2.2.1 (List.cons.inj h).1), if_neg (by rw [e]; intro h; exact hq.2.2.2.2.2.2.2 (List.cons.inj h).1), hr, hn]
 simp
theorem wholeV_dec (n : Int) (h : 1 ≤ n ∧ n ≤ 4096) : wholeV (decL n) 4096 = (n, true) := by
 obtain ⟨a, b, c⟩ := digitsL_val n.natAbs
 have hl := digitsL_len 3 n.natAbs oO
 have hd : decL n = digitsL n.natAbs := by unfold decL; rw [if_neg oO]
 unfold wholeV wholeOk
 rw [hd, List.all_eq_true.2 a, decide_eq_true (show (digitsL n.natAbs).length ≤ 10 by omega), decide_eq_false c]
 simp only [Bool.not_false, Bool.and_self, if_true]
 rw [b]
 simp; omega
/-- what is written is read -/
theorem reads {D : Int} {st : Bool} {o : AV} (h : Snd D st o) : o.kind ≠ 9 → Reads o := by
  induction h with
  | null D st =>
    intro _ l t rest d ht h hb _
    have e : prO (.mk 0 0 [] [] [] []) = [110, 117, 108, 108] := by simp [prO]
    rw [e] at h
    obtain ⟨w1, w2, -⟩ := word_at ht h dD hb
    rw [plain_case d h dD dD dD dD, if_pos (by simp [dpO])]
    unfold plexW
    rw [w1, if_pos rfl, w2]; simp [plainO, pvO, pvL, pv0]
  | bool D st n hn =>
    intro _ l t rest d ht h hb _
    rcases hn with rfl | rfl
    · have e : prO (.mk 1 0 [] [] [] []) = [102, 97, 108, 115, 101] := by simp [prO]
      rw [e] at h
      obtain ⟨w1, w2, -⟩ := word_at ht h dD hb
      rw [plain_case d h dD dD dD dD, if_pos (by simp [dpO])]
      unfold plexW
      rw [w1, if_neg dD, if_neg dD, if_pos rfl, w2]; simp [plainO, pvO, pvL, pv0]
    · have e : prO (.mk 1 1 [] [] [] []) = [116, 114, 117, 101] := by simp [prO]
      rw [e] at h
      obtain ⟨w1, w2, -⟩ := word_at ht h dD hb
      rw [plain_case d h dD dD dD dD, if_pos (by simp [dpO])]
      unfold plexW
      rw [w1, if_neg dD, if_pos rfl, w2]; simp [plainO, pvO, pvL, pv0]
  | num D st k n hk hf =>
    intro _ l t rest d ht h hb hnr
    rcases hk with rfl | rfl
    · have e : prO (.mk 2 n [] [] [] []) = decL n := by simp [prO]
      rw [e] at h
      obtain ⟨w1, w2, w3⟩ := word_at ht h (dec_reg n hf) hb
      obtain ⟨c, r, ec, hc⟩ := dec_head n hf
      have hq := num_head hc
      rw [plain_case d (show l.drop t = c :: (r ++ rest) by rw [h, ec]; rfl) hq.2.1 hq.2.2.1 hq.2.2.2.1 hq.2.2.2.2.1, if_pos (by simp [dpO])]
      rw [plexW_num l t 2 n _ w1 ⟨c, r, ec, hc⟩ (refR_words _ _ _ _ _ w3 (hnr rfl)) (numR_dec n hf), w2]
      simp [plainO, pvO, pvL, pv0]
    · have e : prO (.mk 3 n [] [] [] []) = realL n := by simp [prO, norm_fits hf]
      rw [e] at h
      obtain ⟨p1, p2, p3⟩ := real_facts n hf
      obtain ⟨w1, w2, w3⟩ := word_at ht h p3 hb
      obtain ⟨c, r, ec, hc⟩ := real_head n hf
      have hq := num_head hc
      rw [plain_case d (show l.drop t = c :: (r ++ rest) by rw [h, ec]; rfl) hq.2.1 hq.2.2.1 hq.2.2.2.1 hq.2.2.2.2.1, if_pos (by simp [dpO])]
      have hno : (wholeV (realL n) 4096).2 = false := by
        unfold wholeV wholeOk
        have : (realL n).all isDig = false := by
          cases hx : (realL n).all isDig with
          | false => rfl
          | true => exact absurd (List.all_eq_true.1 hx 46 (List.contains_iff_mem.1 p2)) dD
        rw [this]; simp
      rw [plexW_num l t 3 n _ w1 ⟨c, r, ec, hc⟩ (by unfold refR; rw [hno]; simp) (by unfold numR; rw [p2, p1]; rfl), w2]
      simp [plainO, pvO, pvL, pv0]
  | name D st s hs =>
    intro _ l t rest d ht h hb _
    have e : prO (.mk 4 0 s [] [] []) = 47 :: s.flatMap nmE := by simp [prO, nmT]
    rw [e] at h
    obtain ⟨h1, h2, h3⟩ := head_at h
    have := objP_at true l (d : Int) t 47 h1
    rw [Int.toNat_natCast, if_pos rfl] at this
    rw [this, if_pos (by simp [dpO])]
    unfold nameO
    rw [nameP_at oO h3 hs hb]
    simp [pvO, pvL, pv0]
  | text D st s hs =>
    intro _ l t rest d ht h hb _
    have e : prO (.mk 5 0 s [] [] []) = txT s := by simp [prO]
    rw [e] at h
    obtain ⟨h1, h2, h3⟩ := head_at (show l.drop t = 40 :: ((s.flatMap txE ++ [41]) ++ rest) by rw [h]; rfl)
    have := objP_at true l (d : Int) t 40 h1
    rw [Int.toNat_natCast, if_neg dD, if_neg dD, if_pos rfl] at this
    rw [this, if_pos (by simp [dpO])]
    unfold textP
    rw [textR_at ht h hs]
    simp [pvO, pvL, pv0]
  | ref D st n hn =>
    intro _ l t rest d ht h hb _
    have hf : fitsB n = true := by simp [fitsB]; omega
    have e : prO (.mk 8 n [] [] [] []) = decL n ++ [32, 48, 32, 82] := by simp [prO]
    rw [e, List.append_assoc] at h
    obtain ⟨w1, w2, w3⟩ := word_at ht h (dec_reg n hf) (Bnd.cons dD)
    obtain ⟨c, r, ec, hc⟩ := dec_head n hf
    have hq := num_head hc
    have hlen := congrArg List.length h
    simp only [List.length_drop, List.length_append, List.length_cons, List.length_nil] at hlen
    rw [plain_case d (show l.drop t = c :: (r ++ ([32, 48, 32, 82] ++ rest)) by rw [h, ec]; rfl) hq.2.1 hq.2.2.1 hq.2.2.2.1 hq.2.2.2.2.1, if_pos (by simp [dpO])]
    have s1 : skipS false (l.drop (wordAt l t)) = 48 :: 32 :: 82 :: rest := by rw [w3]; exact (skipS_32 _).trans (skipS_stop dD dD)
    obtain ⟨-, a1⟩ := skip_at s1
    obtain ⟨u1, u2, u3⟩ := word_at (skipAt_le _ _ _) (show l.drop (skipAt false l (wordAt l t)) = [48] ++ (32 :: 82 :: rest) by rw [a1]; rfl) dD (Bnd.cons dD)
    have s2 : skipS false (l.drop (wordAt l (skipAt false l (wordAt l t)))) = 82 :: rest := by rw [u3]; exact (skipS_32 _).trans (skipS_stop dD dD)
    obtain ⟨-, a2⟩ := skip_at s2
    obtain ⟨v1, v2, v3⟩ := word_at (skipAt_le _ _ _) (show l.drop (skipAt false l (wordAt l (skipAt false l (wordAt l t)))) = [82] ++ rest by rw [a2]; rfl) dD hb
    have hR : refR true l (decL n) (wordAt l t) = some (n, l.length - rest.length) := by
      unfold refR
      rw [wholeV_dec n hn, u1, v1, v2]
      simp; omega
    unfold plexW
    rw [w1, if_neg (by rw [ec]; intro h; exact hq.2.2.2.2.2.1 (List.cons.inj h).1), if_neg (by rw [ec]; intro h; exact hq.2.2.2.2.2.2.1 (List.cons.inj h).1), if_neg (by rw [ec]; intro h; exact hq.2.2.2.2.2.2.2 (List.cons.inj h).1), hR]
    simp [plainO, pvO, pvL, pv0, refK, refT]
  | arr D st L hD hl hS ih =>
    intro _ l t rest d ht h hb _
    have e : prO (.mk 6 0 [] [] L []) = 91 :: ((prB L).drop 1 ++ [93]) := by simp [prO]
    rw [e] at h
    obtain ⟨h1, h2, h3⟩ := head_at (show l.drop t = 91 :: ((prB L).drop 1 ++ [93] ++ rest) by rw [h]; rfl)
    have := objP_at true l (d : Int) t 91 h1
    rw [Int.toNat_natCast, if_neg dD, if_pos rfl] at this
    rw [this]
    have hdp : dpO (.mk 6 0 [] [] L []) = dpL L + 1 := by simp [dpO]
    rw [hdp]
    by_cases hd : (d : Int) < 1
    · rw [if_pos hd, if_neg oO]
    · rw [if_neg hd, show ((d : Int) - 1).toNat = d - 1 by omega]
      have hlen := congrArg List.length h3
      have hge := prB_ge L
      simp only [List.length_drop, List.length_append, List.length_cons, List.length_nil] at hlen
      rw [listP_print l (d - 1) rest L [] (t + 1) (l.length + 1) hS (fun o ho => ih o ho (snd_no9 (hS o ho))) oO (by
        rw [h3]
        cases L with
        | nil => simp only [prB, List.drop_nil, List.nil_append, List.cons_append]; exact skipS_stop dD dD
        | cons o r =>
          rw [show (prB (o :: r)).drop 1 ++ [93] ++ rest = prO o ++ (prB r ++ 93 :: rest) by simp [prB], pr_skip (hS o (by simp))]
          simp [prB]) oO (by simpa using hl)]
      by_cases h5 : dpL L ≤ d - 1
      · rw [if_pos h5, if_pos oO]; simp [listO, pvO]
      · rw [if_neg h5, if_neg oO]; rfl
  | dict D st k ks L dd hk hD hl hkl hn hnd hS ih =>
    intro h9 l t rest d ht h hb _
    rcases hk with ⟨rfl, rfl⟩ | ⟨rfl, -⟩
    · have e : prO (.mk 7 0 [] ks L []) = 60 :: 60 :: (prP ks L ++ [32, 62, 62]) := by simp [prO]
      rw [e] at h
      obtain ⟨h1, h2, h3⟩ := head_at (show l.drop t = 60 :: (60 :: (prP ks L ++ [32, 62, 62] ++ rest)) by rw [h]; rfl)
      obtain ⟨h4, h5, h6⟩ := head_at h3
      have := objP_at true l (d : Int) t 60 h1
      rw [Int.toNat_natCast, if_neg dD, if_neg dD, if_neg dD, if_pos rfl, if_neg oO, if_neg (fun h => h h4)] at this
      rw [this]
      have hdp : dpO (.mk 7 0 [] ks L []) = dpL L + 1 := by simp [dpO]
      rw [hdp]
      by_cases hd : (d : Int) < 1
      · rw [if_pos hd, if_neg oO]
      · rw [if_neg hd, show ((d : Int) - 1).toNat = d - 1 by omega]
        have hlen := congrArg List.length h6
        have hge := prP_ge ks L hkl
        simp only [List.length_drop, List.length_append, List.length_cons, List.length_nil] at hlen
        obtain ⟨c2, y2, e2, hc2⟩ := pairs_head ks L (62 :: rest)
        have e3 : l.drop (t + 1 + 1) = 32 :: c2 :: y2 := by rw [h6, ← e2]; simp
        rw [pairsP_print l (d - 1) rest ks L [] [] (t + 2) (l.length + 1) hkl hn (by simpa using hnd) hS (fun o ho => ih o ho (snd_no9 (hS o ho))) oO (by
          rw [show t + 2 = t + 1 + 1 from rfl, e3, e2, skipS_32, skipS_stop (by rcases hc2 with rfl | rfl <;> decide) (by rcases hc2 with rfl | rfl <;> decide)]; rfl) oO (by simpa using hl)]
        by_cases h5 : dpL L ≤ d - 1
        · rw [if_pos h5, if_pos oO]; simp [pairsO, pvO]
        · rw [if_neg h5, if_neg oO]; rfl
    · exact absurd rfl h9
end
section
theorem ref_Print_not (n : Int) (w : World) (h : fitsB n = false) :
  Calls Tryz.prog 65 #[.int .i64 n] w fun e w' => e = .returned (.string (bs [48])) ∧ Below w.heap.size w w' := by
 go_enter func65, ntmps65
 go_wp2_with (go_at_call 62; refine (ref_Fits _ _).mono ?_; rintro e w1 ⟨rfl, rfl⟩)
 go_ret
 exact ⟨rfl, Below.refl _ _⟩
theorem decL_pos (n : Int) (h : 0 ≤ n) : decL n = digitsL n.toNat := by
 unfold decL; rw [if_neg oO]; congr 1; omega
theorem printL_of (n m : Int) (hm : m = (n.natAbs : Int)) : printL n = signL n ++ decL (m / 65536) ++ (if 0 < m % 65536 then [46] else []) ++ fracL (m % 65536).toNat := by
  subst hm
  rw [decL_pos _ oO]
  have e1 : ((n.natAbs : Int) / 65536).toNat = n.natAbs / 65536 := by omega
  have e2 : ((n.natAbs : Int) % 65536).toNat = n.natAbs % 65536 := by omega
  rw [e1, e2]
  unfold printL wholeL restL
  by_cases h0 : n.natAbs % 65536 = 0
  · have hc : ¬ (0 : Int) < (n.natAbs : Int) % 65536 := by omega
    simp [hc, h0, fracL_zero]
  · have hc : (0 : Int) < (n.natAbs : Int) % 65536 := by omega
    simp [hc, fracL_ne _ (show 0 < n.natAbs % 65536 by omega) oO]
theorem bs_nil : (⟨#[]⟩ : ByteArray) = bs [] := rfl
theorem bs_one (c : UInt8) : (⟨#[c]⟩ : ByteArray) = bs [c] := rfl
set_option maxHeartbeats 400000 in
theorem ref_Print_pos (n : Int) (w : World) (h : 0 ≤ n) (h' : n ≤ 2147483647) :
    Calls Tryz.prog 65 #[.int .i64 n] w fun e w' => e = .returned (.string (bs (printL n))) ∧ Below w.heap.size w w' := by
  have hf := fitsB_yes (n := n) oO h'
  have hd := decL_size (n / 65536) oO oO
  have hP := printL_of n n oO
  rw [signL, if_neg oO] at hP
  by_cases hr : 0 < n % 65536
  all_goals
    first | rw [if_pos hr] at hP | rw [if_neg hr] at hP
    have HP := hid hP; clear hP
    go_enter func65, ntmps65
    go_wp2_with first | (go_at_call 62; refine (ref_Fits _ _).mono ?_; rintro e w1 ⟨rfl, rfl⟩) | (go_at_call 37; go_must (refine (ref_Dec _ _ oO oO).mono ?_); rintro e w1 ⟨rfl, hb1⟩)
    go_loopw [3, 4] (fun s r wr => ∃ (t : List UInt8) (m : Nat), s = .string (bs t) ∧ r = .int .i64 m ∧ m < 65536 ∧ Below w.heap.size w wr ∧ t.length + (fracL m).length ≤ 60 ∧ printL n = t ++ fracL m) (fun _ r _ => (fracL (intOf r).toNat).length)
    case atStart =>
      have hl := fracL_len (n % 65536).toNat
      rw [bs_size] at hd
      refine ⟨_, (n % 65536).toNat, ?_, by go_num, by omega, hb1, ?_, HP.out⟩
      · simp [bs_nil, bs_one, bs_append]
      · simp; omega
    case round =>
      obtain ⟨t, m, rfl, rfl, hm, hb, hlen, hp⟩ := hrel
      have Hp := hid hp; clear hp HP
      by_cases hm0 : 0 < m
      · have hst := fracL_step m hm0 hm
        have Hst := hid hst; clear hst
        have hl2 := congrArg List.length Hst.out
        simp only [List.length_cons] at hl2
        have hs1 : (bs t).size ≤ 60 := by rw [bs_size]; omega
        have hs2 := decL_size ((m : Int) * 10 / 65536) oO oO
        clear hd hb1
        have hsz := hb.size
        go_wp2_with (go_at_call 37; go_must (refine (ref_Dec _ _ oO oO).mono ?_); rintro e w1 ⟨rfl, hb1⟩)
        have e1 : decL ((m : Int) * 10 / 65536) = [ch (48 + ((m * 10 / 65536 : Nat) : Int))] := by
          rw [decL_pos _ oO, digitsL_lt _ oO, Int.toNat_of_nonneg oO, Int.natCast_ediv, Int.natCast_mul]; rfl
        refine ⟨⟨t ++ decL ((m : Int) * 10 / 65536), m * 10 % 65536, by rw [bs_append], by go_num, by omega, hb.trans (hb1.mono hsz), ?_, ?_⟩, ?_⟩
        · rw [e1]; simp; omega
        · rw [Hp.out, Hst.out, e1]; simp
        · have e2 : ((m : Int) * 10 % 65536).toNat = m * 10 % 65536 := by omega
          have e3 : ((m : Int)).toNat = m := by omega
          simp only [intOf, e2, e3]; omega
      · have hm00 : m = 0 := by omega
        have Hm := hid hm00; clear hm00
        go_wp2
        go_ret
        exact ⟨ret_str (by rw [Hp.out, Hm.out, fracL_zero, List.append_nil]), hb⟩
set_option maxHeartbeats 400000 in
theorem ref_Print_neg (k : Int) (w : World) (h : 0 < k) (h' : k ≤ 2147483648) :
    Calls Tryz.prog 65 #[.int .i64 (-k)] w fun e w' => e = .returned (.string (bs (printL (-k)))) ∧ Below w.heap.size w w' := by
  have hf := fitsB_yes (n := -k) oO oO
  have hd := decL_size (k / 65536) oO oO
  have hP := printL_of (-k) k oO
  rw [signL, if_pos oO] at hP
  by_cases hr : 0 < k % 65536
  all_goals
    first | rw [if_pos hr] at hP | rw [if_neg hr] at hP
    have HP := hid hP; clear hP
    go_enter func65, ntmps65
    go_wp2_with first | (go_at_call 62; refine (ref_Fits _ _).mono ?_; rintro e w1 ⟨rfl, rfl⟩) | (go_at_call 37; go_must (refine (ref_Dec _ _ oO oO).mono ?_); rintro e w1 ⟨rfl, hb1⟩)
    go_loopw [3, 4] (fun s r wr => ∃ (t : List UInt8) (m : Nat), s = .string (bs t) ∧ r = .int .i64 m ∧ m < 65536 ∧ Below w.heap.size w wr ∧ t.length + (fracL m).length ≤ 60 ∧ printL (-k) = t ++ fracL m) (fun _ r _ => (fracL (intOf r).toNat).length)
    case atStart =>
      have hl := fracL_len (k % 65536).toNat
      rw [bs_size] at hd
      refine ⟨_, (k % 65536).toNat, ?_, by go_num, by omega, hb1, ?_, HP.out⟩
      · simp [bs_one, bs_append]
      · simp; omega
    case round =>
      obtain ⟨t, m, rfl, rfl, hm, hb, hlen, hp⟩ := hrel
      have Hp := hid hp; clear hp HP
      by_cases hm0 : 0 < m
      · have hst := fracL_step m hm0 hm
        have Hst := hid hst; clear hst
        have hl2 := congrArg List.length Hst.out
        simp only [List.length_cons] at hl2
        have hs1 : (bs t).size ≤ 60 := by rw [bs_size]; omega
        have hs2 := decL_size ((m : Int) * 10 / 65536) oO oO
        clear hd hb1
        have hsz := hb.size
        go_wp2_with (go_at_call 37; go_must (refine (ref_Dec _ _ oO oO).mono ?_); rintro e w1 ⟨rfl, hb1⟩)
        have e1 : decL ((m : Int) * 10 / 65536) = [ch (48 + ((m * 10 / 65536 : Nat) : Int))] := by
          rw [decL_pos _ oO, digitsL_lt _ oO, Int.toNat_of_nonneg oO, Int.natCast_ediv, Int.natCast_mul]; rfl
        refine ⟨⟨t ++ decL ((m : Int) * 10 / 65536), m * 10 % 65536, by rw [bs_append], by go_num, by omega, hb.trans (hb1.mono hsz), ?_, ?_⟩, ?_⟩
        · rw [e1]; simp; omega
        · rw [Hp.out, Hst.out, e1]; simp
        · have e2 : ((m : Int) * 10 % 65536).toNat = m * 10 % 65536 := by omega
          have e3 : ((m : Int)).toNat = m := by omega
          simp only [intOf, e2, e3]; omega
      · have hm00 : m = 0 := by omega
        have Hm := hid hm00; clear hm00
        go_wp2
        go_ret
        exact ⟨ret_str (by rw [Hp.out, Hm.out, fracL_zero, List.append_nil]), hb⟩
theorem ref_Print (n : Int) (w : World) :
    Calls Tryz.prog 65 #[.int .i64 n] w fun e w' => e = .returned (.string (bs (printL (norm n)))) ∧ Below w.heap.size w w' := by
  have e0 : printL 0 = [48] := by
    have hz : restL 0 = [] := rfl
    have hd : digitsL 0 = [48] := by rw [digitsL_lt 0 oO]; rfl
    simp [printL, signL, wholeL, hz, hd]
  unfold norm
  by_cases h1 : n < -2147483648
  · rw [fitsB_lo h1]; simp only [Bool.false_eq_true, if_false, e0]; exact ref_Print_not n w (fitsB_lo h1)
  · by_cases h2 : 2147483647 < n
    · rw [fitsB_hi h2]; simp only [Bool.false_eq_true, if_false, e0]; exact ref_Print_not n w (fitsB_hi h2)
    · rw [fitsB_yes oO oO]
      by_cases h3 : n < 0
      · have h := ref_Print_neg (-n) w oO oO
        rw [Int.neg_neg] at h; exact h
      · exact ref_Print_pos n w oO oO
theorem tmod_zero (n : Int) : ((n.tmod 65536) == 0) = decide (n.natAbs % 65536 = 0) := by
 rw [Bool.eq_iff_iff]
 simp only [beq_iff_eq, decide_eq_true_eq]
 rcases Int.le_total 0 n with h | h
 ·
  rw [Int.tmod_eq_emod_of_nonneg h]; omega
 ·
  have e : n.tmod 65536 = -((-n) % 65536) := by
   rw [← Int.tmod_eq_emod_of_nonneg oO, Int.neg_tmod, Int.neg_neg]
  rw [e]; omega
theorem printL_size (n : Int) : (bs (printL (norm n))).size ≤ 60 := by
 have h1 := signL_size (norm n)
 have h2 := wholeL_size (norm n) (norm_lo n) (norm_hi n)
 have h3 := restL_size (norm n)
 rw [bs_size] at *
 unfold printL
 split <;> simp <;> omega
set_option maxHeartbeats 400000 in
theorem ref_PrintReal (n : Int) (w : World) :
    Calls Tryz.prog 38 #[.int .i64 n] w fun e w' => e = .returned (.string (bs (realL (norm n)))) ∧ Below w.heap.size w w' := by
  have hs := printL_size n
  by_cases hf : fitsB n = true
  · have hn : norm n = n := by rw [norm, hf]; rfl
    by_cases h0 : n.natAbs % 65536 = 0
    · have ht : (n.tmod 65536 == 0) = true := by rw [tmod_zero]; simpa using h0
      have hr := (restL_iff n).2 h0
      have Hr := hid hr; have Hn := hid hn; clear hr hn h0
      go_enter func38, ntmps38
      go_wp2_with first | (go_at_call 62; refine (ref_Fits _ _).mono ?_; rintro e w1 ⟨rfl, rfl⟩) | (go_at_call 65; go_must (refine (ref_Print _ _).mono ?_); rintro e w1 ⟨rfl, hb1⟩)
      go_ret
      refine ⟨ret_str ?_, hb1⟩
      rw [Hn.out, realL, printL, if_pos Hr.out, if_pos Hr.out]
      show bs _ ++ bs [46, 48] = _
      rw [bs_append]; simp
    · have ht : (n.tmod 65536 == 0) = false := by rw [tmod_zero]; simpa using h0
      have hr := fun x => h0 ((restL_iff n).1 x)
      have Hr := hid hr; have Hn := hid hn; clear hr hn h0
      go_enter func38, ntmps38
      go_wp2_with first | (go_at_call 62; refine (ref_Fits _ _).mono ?_; rintro e w1 ⟨rfl, rfl⟩) | (go_at_call 65; go_must (refine (ref_Print _ _).mono ?_); rintro e w1 ⟨rfl, hb1⟩)
      go_ret
      refine ⟨ret_str ?_, hb1⟩
      rw [Hn.out, realL, printL, if_neg Hr.out, if_neg Hr.out]
  · have hf' : fitsB n = false := by simpa using hf
    have hn : norm n = 0 := by rw [norm, hf']; rfl
    have Hn := hid hn; clear hf hn
    have hs0 := printL_size 0
    go_enter func38, ntmps38
    go_wp2_with first | (go_at_call 62; refine (ref_Fits _ _).mono ?_; rintro e w1 ⟨rfl, rfl⟩) | (go_at_call 65; go_must (refine (ref_Print _ _).mono ?_); rintro e w1 ⟨rfl, hb1⟩)
    go_ret
    refine ⟨ret_str ?_, hb1⟩
    have hz : restL 0 = [] := rfl
    have h0 : norm 0 = 0 := rfl
    rw [Hn.out, h0, realL, printL, if_pos hz, if_pos hz]
    show bs _ ++ bs [46, 48] = _
    rw [bs_append]; simp
end
section
theorem prO_le (l : List AV) (i : Nat) (hi : i < l.length) : (prO l[i]).length ≤ (prB l).length ∧ (prB (l.take (i + 1))).length ≤ (prB l).length := by
 have e : l = l.take i ++ l[i] :: l.drop (i + 1) := by rw [← List.drop_eq_getElem_cons hi, List.take_append_drop]
 have e2 : prB l = prB (l.take i) ++ (32 :: (prO l[i] ++ prB (l.drop (i + 1)))) := by conv => lhs; rw [e, prB_append, prB]
 have e3 : prB (l.take (i + 1)) = prB (l.take i) ++ 32 :: prO l[i] := by rw [List.take_succ_eq_append_getElem hi, prB_snoc]
 rw [e3, e2]
 simp only [List.length_append, List.length_cons]
 omega
theorem prB_take_le (l : List AV) (i : Nat) (hi : i < l.length) : (prB (l.take i)).length ≤ (prB l).length := by
 have e : l = l.take i ++ l.drop i := (List.take_append_drop i l).symm
 have e2 : prB l = prB (l.take i) ++ prB (l.drop i) := by conv => lhs; rw [e, prB_append]
 rw [e2, List.length_append]; omega
theorem prP_take : ∀ (ks : List (List UInt8)) (l : List AV) (i : Nat) (h1 : i < ks.length) (h2 : i < l.length), prP (ks.take (i + 1)) (l.take (i + 1)) = prP (ks.take i) (l.take i) ++ 32 :: (nmT ks[i] ++ 32 :: prO l[i])
 | k :: ks, o :: l, 0, _, _ => by simp [prP]
 | k :: ks, o :: l, i + 1, h1, h2 => by
  have := prP_take ks l i (by simpa using h1) (by simpa using h2)
  simp only [List.take_succ_cons, prP, List.getElem_cons_succ, this]
  simp
theorem prP_le (ks : List (List UInt8)) (l : List AV) (i : Nat) (h1 : i < ks.length) (h2 : i < l.length) : (prP (ks.take (i + 1)) (l.take (i + 1))).length ≤ (prP ks l).length := by
 have key : ∀ (ks : List (List UInt8)) (l : List AV) (j : Nat), (prP (ks.take j) (l.take j)).length ≤ (prP ks l).length := by
  intro ks
  induction ks with
  | nil => intro l j; simp [prP]
  | cons k ks ih =>
   intro l j
   cases l with
   | nil => simp [prP]
   | cons o l =>
    cases j with
    | zero => simp [prP]
    | succ j => have := ih l j; simp only [List.take_succ_cons, prP, List.length_cons, List.length_append]; omega
 exact key ks l (i + 1)
theorem drop1_snoc (l : List AV) (i : Nat) (hi : i < l.length) : (prB (l.take (i + 1))).drop 1 = (if i = 0 then [] else (prB (l.take i)).drop 1 ++ [32]) ++ prO l[i] := by
 rw [List.take_succ_eq_append_getElem hi, prB_snoc]
 cases i with
 | zero => simp [prB]
 | succ i =>
  rw [if_neg oO]
  have : 0 < (prB (l.take (i + 1))).length := by
   have := prB_ge (l.take (i + 1))
   rw [List.length_take] at this; omega
  rw [List.drop_append_of_le_length oO]
  simp
theorem ref_DecT (n : Int) (w : World) (h : -9223372036854775808 ≤ n) (h' : n ≤ 9223372036854775807) : Calls Tryz.prog 37 #[.int .i64 n] w fun e w' => e = .returned (.string (bs (decL n))) ∧ Below w.heap.size w w' := ref_Dec n w h h'
set_option maxHeartbeats 1000000 in
theorem r18_PrintA : ∀ (n : Nat) (o : AV), SizeOf.sizeOf o < n → ∀ (x : AC) (S : Nat → Prop) (D : Int) (st : Bool) (w : World), ARep w S x o → Snd D st o → (prO o).length ≤ 100000000 →
  Calls Tryz.prog 17 #[.agg (acV x).toArray] w fun e w' => e = .returned (.string (bs (prO o))) ∧ Below w.heap.size w w' := by
 intro n
 induction n with
 | zero => intro o h; omega
 | succ n ih =>
 intro o hn x S D st w hx hS hL
 obtain ⟨keys, list, data, cs, rfl, ok, hkl, hk, hks, hr, hrs, hd, hds, hcl, hsub⟩ := hx.inv
 obtain ⟨k, i, s, kp, kl, kc, lp, ll, lc, dp, dl, dc⟩ := x
 have e1 := ok.kl; have e2 := ok.ll; have e3 := ok.dl
 have m1 := ok.kc; have m2 := ok.lc; have m3 := ok.dc; have m4 := ok.km; have m5 := ok.lm; have m6 := ok.dm; have m7 := ok.text; have m8 := ok.n
 simp only at e1 e2 e3 m1 m2 m3 m4 m5 m6 m7 m8 hk hr hd hrs hS hL ⊢
 subst e1; subst e2; subst e3
 simp only [AV.mk.sizeOf_spec] at hn
 have hsz : ∀ j (h : j < list.length), SizeOf.sizeOf list[j] < n := fun j h => by have := List.sizeOf_lt_of_mem (List.getElem_mem h); omega
 have hs0 : AInv w S cs list := ⟨hcl, hsub⟩
 simp only [acV]
 obtain ⟨R, hX⟩ : ∃ R, R = prO (.mk k i s keys list data) := ⟨_, rfl⟩
 rw [← hX] at hL ⊢
 have hsub1 : k = 6 ∨ k = 7 ∨ k = 9 → ∀ o ∈ list, Snd (D - 1) false o := fun hk => by
  cases hS with
  | arr _ _ _ hD hl h => exact h
  | dict _ _ _ _ _ _ hk' hD hl hkl hn hnd h => exact h
  | num _ _ _ _ h' _ => rcases h' with rfl | rfl <;> omega
  | null => omega
  | bool => omega
  | name => omega
  | text => omega
  | ref => omega
 have hkeys : k = 7 ∨ k = 9 → keys.length = list.length ∧ (∀ x ∈ keys, nmOk x) := fun hk => by
  cases hS with
  | arr _ _ _ hD hl h => omega
  | dict _ _ _ _ _ _ hk' hD hl hkl hn hnd h => exact ⟨hkl, hn⟩
  | num _ _ _ _ h' _ => rcases h' with rfl | rfl <;> omega
  | null => omega
  | bool => omega
  | name => omega
  | text => omega
  | ref => omega
 have hkind : k = 0 ∨ k = 1 ∨ k = 2 ∨ k = 3 ∨ k = 4 ∨ k = 5 ∨ k = 8 ∨ k = 6 ∨ k = 7 ∨ k = 9 := by
  cases hS with
  | arr _ _ _ hD hl h => omega
  | dict _ _ _ _ _ _ hk' hD hl hkl hn hnd h => rcases hk' with ⟨h, -⟩ | ⟨h, -⟩ <;> omega
  | num _ _ _ _ h' _ => rcases h' with rfl | rfl <;> omega
  | null => omega
  | bool => omega
  | name => omega
  | text => omega
  | ref => omega
 have htext : s.length ≤ 65535 := by
  cases hS with
  | name _ _ _ h => have := h.2.2; omega
  | text _ _ _ h => exact h
  | _ => simp
 have hdata : data.length ≤ 1048576 := by
  cases hS with
  | dict _ _ _ _ _ _ hk' hD hl hkl hn hnd h => rcases hk' with ⟨-, rfl⟩ | h; simp; exact h.2.2.1
  | _ => simp
 rw [prO] at hX
 refine W.enter func17 rfl ntmps17 (Nat.le_of_ble_eq_true rfl) ?_
 have hB0 := Below.refl (w.heap.size) w
 refine W.sr <| WL.box rfl rfl (fun b1 wb1 eb1 hkb1 hub1 hsb1 => ?_)
 have hF2 := AInv.same (w1 := wb1) hs0 (fun k hk hl => hub1.other k oO)
 have hvl4 := fun h0 => eb1 ▸ hk.lt h0
 have hv3 := RowAt.upd hk hub1 (fun h0 => Nat.ne_of_lt (hvl4 h0))
 have hvl6 := fun h0 => eb1 ▸ hr.lt h0
 have hv5 := RowM.upd hr hub1 (fun h0 => Nat.ne_of_lt (hvl6 h0))
 have hvl8 := fun h0 => eb1 ▸ hd.lt h0
 have hv7 := bup hd hub1 hvl8
 have hB9 := Upd.below hB0 (by rw [eb1]; exact hB0.size) hub1
 have hgeb1 : w.heap.size ≤ b1 := by rw [eb1]; exact hB0.size
 refine WL.z rfl rfl ?_
 refine W.seq <| W.sr <| WL.p (.fa underlying31 rfl sizeOf3 dD rfl) rfl <| WL.r (Rd.ld (isAgg3 _) rfl hkb1 rfl) rfl <| WL.nil <| ?_
 refine W.block <| W.sr <| WL.p (.eql rfl rfl) rfl <| WL.z rfl rfl ?_
 refine W.cond rfl (fun h10 => ?_) (fun h10 => ?_)
 have h10' := dT h10
 refine W.sr <| WL.z rfl rfl ?_
 refine W.ret (W.ret1 rfl rfl ?_)
 (rw [if_pos aS] at hX; subst hX; exact ⟨rfl, hB9⟩)
 have h10' := dF h10
 refine W.sr <| WL.p (.eql rfl rfl) rfl <| WL.z rfl rfl ?_
 refine W.cond rfl (fun h11 => ?_) (fun h11 => ?_)
 have h11' := dT h11
 refine W.seq <| W.sr <| WL.p (.fa underlying31 rfl sizeOf3 dD rfl) rfl <| WL.r (Rd.ld (isAgg3 _) rfl hkb1 rfl) rfl <| WL.p (.eql rfl rfl) rfl <| WL.nil <| ?_
 refine W.cond rfl (fun h12 => ?_) (fun h12 => ?_)
 have h12' := dT h12
 refine W.sr <| WL.z rfl rfl ?_
 refine W.ret (W.ret1 rfl rfl ?_)
 (rw [if_neg oO, if_pos aS, if_pos aS] at hX; subst hX; exact ⟨rfl, hB9⟩)
 have h12' := dF h12
 refine W.skip <| W.sr <| WL.z rfl rfl ?_
 refine W.ret (W.ret1 rfl rfl ?_)
 (rw [if_neg oO, if_pos aS, if_neg aS] at hX; subst hX; exact ⟨rfl, hB9⟩)
 have h11' := dF h11
 refine W.sr <| WL.p (.eql rfl rfl) rfl <| WL.z rfl rfl ?_
 refine W.cond rfl (fun h13 => ?_) (fun h13 => ?_)
 have h13' := dT h13
 refine W.sr <| WL.p (.fa underlying31 rfl sizeOf3 dD rfl) rfl <| WL.r (Rd.ld (isAgg3 _) rfl hkb1 rfl) rfl <| WL.c1 hb37 rfl rfl ((ref_DecT i _ m8.1 m8.2)) (fun w14 hw14 => ?_)
 have hB20 := btr hB9 hw14
 refine WL.z rfl rfl ?_
 refine W.ret (W.ret1 rfl rfl ?_)
 (rw [if_neg oO, if_neg oO, if_pos aS] at hX; subst hX; exact ⟨rfl, hB20⟩)
 have h13' := dF h13
 refine W.sr <| WL.p (.eql rfl rfl) rfl <| WL.z rfl rfl ?_
 refine W.cond rfl (fun h21 => ?_) (fun h21 => ?_)
 have h21' := dT h21
 refine W.sr <| WL.p (.fa underlying31 rfl sizeOf3 dD rfl) rfl <| WL.r (Rd.ld (isAgg3 _) rfl hkb1 rfl) rfl <| WL.c1 hb38 rfl rfl ((ref_PrintReal i _)) (fun w22 hw22 => ?_)
 have hB28 := btr hB9 hw22
 refine WL.z rfl rfl ?_
 refine W.ret (W.ret1 rfl rfl ?_)
 (rw [if_neg oO, if_neg oO, if_neg oO, if_pos aS] at hX; subst hX; exact ⟨rfl, hB28⟩)
 have h21' := dF h21
 refine W.sr <| WL.p (.eql rfl rfl) rfl <| WL.z rfl rfl ?_
 refine W.cond rfl (fun h29 => ?_) (fun h29 => ?_)
 have h29' := dT h29
 refine W.sr <| WL.p (.fa underlying31 rfl sizeOf9 dD rfl) rfl <| WL.r (Rd.ld (isAgg9 _) rfl hkb1 rfl) rfl <| WL.c1 hb39 rfl rfl ((r18_NameA s _ oO)) (fun w30 hw30 => ?_)
 have hB36 := Drew.below hB9 hw30
 refine WL.z rfl rfl ?_
 refine W.ret (W.ret1 rfl rfl ?_)
 (rw [if_neg oO, if_neg oO, if_neg oO, if_neg oO, if_pos aS] at hX; subst hX; exact ⟨rfl, hB36⟩)
 have h29' := dF h29
 refine W.sr <| WL.p (.eql rfl rfl) rfl <| WL.z rfl rfl ?_
 refine W.cond rfl (fun h37 => ?_) (fun h37 => ?_)
 have h37' := dT h37
 refine W.sr <| WL.p (.fa underlying31 rfl sizeOf9 dD rfl) rfl <| WL.r (Rd.ld (isAgg9 _) rfl hkb1 rfl) rfl <| WL.c1 hb40 rfl rfl ((r18_TextA s _ oO)) (fun w38 hw38 => ?_)
 have hB44 := btr hB9 hw38
 refine WL.z rfl rfl ?_
 refine W.ret (W.ret1 rfl rfl ?_)
 (rw [if_neg oO, if_neg oO, if_neg oO, if_neg oO, if_neg oO, if_pos aS] at hX; subst hX; exact ⟨rfl, hB44⟩)
 have h37' := dF h37
 refine W.sr <| WL.p (.eql rfl rfl) rfl <| WL.z rfl rfl ?_
 refine W.cond rfl (fun h45 => ?_) (fun h45 => ?_)
 have h45' := dT h45
 refine W.sr <| WL.p (.fa underlying31 rfl sizeOf3 dD rfl) rfl <| WL.r (Rd.ld (isAgg3 _) rfl hkb1 rfl) rfl <| WL.c1 hb37 rfl rfl ((ref_DecT i _ m8.1 m8.2)) (fun w46 hw46 => ?_)
 have hB52 := btr hB9 hw46
 refine WL.p (.cat rfl rfl (by have := decL_len i m8.1 m8.2; simp only [List.length_cons, List.length_nil]; omega)) rfl <| WL.z rfl rfl ?_
 refine W.ret (W.ret1 rfl rfl ?_)
 (rw [if_neg oO, if_neg oO, if_neg oO, if_neg oO, if_neg oO, if_neg oO, if_pos aS] at hX; subst hX; exact ⟨rfl, hB52⟩)
 have h45' := dF h45
 refine W.sr <| WL.p (.eql rfl rfl) rfl <| WL.z rfl rfl ?_
 refine W.cond rfl (fun h53 => ?_) (fun h53 => ?_)
 have h53' := dT h53
 rw [if_neg oO, if_neg oO, if_neg oO, if_neg oO, if_neg oO, if_neg oO, if_neg oO, if_pos aS] at hX
 have hall := hsub1 oO
 have hRl : R.length = 1 + ((prB list).drop 1).length + 1 := by rw [hX]; simp; omega
 refine W.sr <| WL.z rfl rfl ?_
 refine W.seq <| W.sr <| WL.z rfl rfl ?_
 refine W.block ?_
 refine W.loop (α := Nat) (fun t => [(1, .pointer (some ⟨b1, 0, none⟩)), (3, .string (bs (91 :: (prB (list.take t)).drop 1))), (4, .int .i64 (t : Int))]) (fun t w' => Below w.heap.size w w' ∧ Blk w' b1 #[.int .i64 k, .int .i64 i, .string (bs s), .slice kp keys.length kc, .slice lp cs.length lc, .slice dp data.length dc] 31 ∧ RowM acL w' lp cs ∧ AInv w' S cs list ∧ t ≤ cs.length) (fun t => cs.length - t) (0) ⟨rfl, rfl, rfl, trivial⟩ (⟨hB9, hkb1, hv5, hF2, Nat.zero_le _⟩) (fun t w1 hR => ?_)
 obtain ⟨i0, rfl⟩ : ∃ i, i = t := ⟨t, rfl⟩
 obtain ⟨hT1, hk1, hlx1, hf1, ht⟩ := hR
 refine W.seq <| W.sr <| WL.m rfl rfl <| WL.p (.fa underlying31 rfl sizeOf29 dD rfl) rfl <| WL.r (Rd.ld (isAgg29 _) rfl hk1 rfl) rfl <| WL.p (.lenS underlying29 rfl) rfl <| WL.p (.lss rfl rfl) rfl <| WL.nil <| ?_
 refine W.cond rfl (fun h54 => ?_) (fun h54 => ?_)
 have h54' := dT h54
 refine W.skip <| W.seq <| W.block <| W.seq <| W.seq ?_
 have hle := prO_le list i0 oO
 have hle2 := prB_take_le list i0 oO
 have hd1 := drop1_snoc list i0 oO
 refine W.reg <| WL.m rfl rfl <| WL.p (.gtr rfl rfl) rfl <| WL.nil <| ?_
 refine W.cond rfl (fun h55 => ?_) (fun h55 => ?_)
 have h55' := dT h55
 refine W.reg <| WL.m rfl rfl <| WL.p (.cat rfl rfl oL) rfl <| WL.z rfl rfl ?_
 refine W.reg <| WL.m rfl rfl <| WL.p (.fa underlying31 rfl sizeOf29 dD rfl) rfl <| WL.r (Rd.ld (isAgg29 _) rfl hk1 rfl) rfl <| WL.m rfl rfl <| WL.p (.ixm underlying29 sizeOf31 rfl rfl (hlx1.isp oO) (i0) (rfl) oO) rfl <| WL.r (Rd.ldS underlying31 rfl isz31 hlx1 (i0) oO rfl) rfl <| WL.c1 hb17 rfl rfl ((ih (list[i0]'oO) (hsz i0 oO) _ S (D - 1) false _ ((hf1).sub i0 oO oO) (hall _ (List.getElem_mem _)) (by simp only [List.length_drop] at hRl; omega))) (fun w56 hw56 => ?_)
 have hF57 := AInv.same (w1 := w56) hf1 (fun k hk hl => hw56.block k hl)
 have hk58 := hk1.below hw56 hk1.lt
 have hv59 := RowM.below hlx1 hw56 (fun h0 => hlx1.lt h0)
 have hB60 := btr hT1 hw56
 refine WL.p (.cat rfl rfl oL) rfl <| WL.z rfl rfl ?_
 refine W.reg <| WL.m rfl rfl <| WL.p (.iis (((i0 + 1 : Nat) : Int)) (.add rfl rfl (i64w oO)) oO) rfl <| WL.z rfl rfl ?_
 exact ⟨i0 + 1, ⟨rfl, lk_s rfl (by rw [hd1, if_neg oO]; simp), rfl, trivial⟩, ⟨hB60, hk58, hv59, hF57, by ((try simp only) <;> omega)⟩, by ((try simp only) <;> omega)⟩
 have h55' := dF h55
 refine W.skip <| W.reg <| WL.m rfl rfl <| WL.p (.fa underlying31 rfl sizeOf29 dD rfl) rfl <| WL.r (Rd.ld (isAgg29 _) rfl hk1 rfl) rfl <| WL.m rfl rfl <| WL.p (.ixm underlying29 sizeOf31 rfl rfl (hlx1.isp oO) (i0) (rfl) oO) rfl <| WL.r (Rd.ldS underlying31 rfl isz31 hlx1 (i0) oO rfl) rfl <| WL.c1 hb17 rfl rfl ((ih (list[i0]'oO) (hsz i0 oO) _ S (D - 1) false _ ((hf1).sub i0 oO oO) (hall _ (List.getElem_mem _)) (by simp only [List.length_drop] at hRl; omega))) (fun w61 hw61 => ?_)
 have hF62 := AInv.same (w1 := w61) hf1 (fun k hk hl => hw61.block k hl)
 have hk63 := hk1.below hw61 hk1.lt
 have hv64 := RowM.below hlx1 hw61 (fun h0 => hlx1.lt h0)
 have hB65 := btr hT1 hw61
 refine WL.p (.cat rfl rfl oL) rfl <| WL.z rfl rfl ?_
 refine W.reg <| WL.m rfl rfl <| WL.p (.iis (((i0 + 1 : Nat) : Int)) (.add rfl rfl (i64w oO)) oO) rfl <| WL.z rfl rfl ?_
 exact ⟨i0 + 1, ⟨rfl, lk_s rfl (by (obtain rfl : i0 = 0 := oO); rw [hd1, if_pos rfl]; simp [prB]), rfl, trivial⟩, ⟨hB65, hk63, hv64, hF62, by ((try simp only) <;> omega)⟩, by ((try simp only) <;> omega)⟩
 have h54' := dF h54
 refine W.exit <| W.seq ?_
 have hti : list.take i0 = list := List.take_of_length_le oO
 rw [hti]
 refine W.reg <| WL.m rfl rfl <| WL.p (.cat rfl rfl oL) rfl <| WL.z rfl rfl ?_
 refine W.ret (W.ret1 rfl rfl ?_)
 exact ⟨ret_val (by rw [hX]; rfl), hT1⟩
 have h53' := dF h53
 rw [if_neg oO, if_neg oO, if_neg oO, if_neg oO, if_neg oO, if_neg oO, if_neg oO, if_neg aS] at hX
 have hk79 : k = 7 ∨ k = 9 := by omega
 have hall := hsub1 oO
 have hkk := hkeys hk79
 have hRl : 2 + (prP keys list).length ≤ R.length := by rw [hX]; simp; omega
 refine W.skip <| W.sr <| WL.z rfl rfl ?_
 refine W.seq <| W.sr <| WL.z rfl rfl ?_
 refine W.block ?_
 refine W.loop (α := Nat) (fun t => [(1, .pointer (some ⟨b1, 0, none⟩)), (5, .string (bs (60 :: 60 :: prP (keys.take t) (list.take t)))), (6, .int .i64 (t : Int))]) (fun t w' => Below w.heap.size w w' ∧ Blk w' b1 #[.int .i64 k, .int .i64 i, .string (bs s), .slice kp keys.length kc, .slice lp cs.length lc, .slice dp data.length dc] 31 ∧ RowAt strV w' kp keys ∧ RowM acL w' lp cs ∧ BytesAt w' dp data ∧ AInv w' S cs list ∧ t ≤ cs.length) (fun t => cs.length - t) (0) ⟨rfl, rfl, rfl, trivial⟩ (⟨hB9, hkb1, hv3, hv5, hv7, hF2, Nat.zero_le _⟩) (fun t w1 hR => ?_)
 obtain ⟨i0, rfl⟩ : ∃ i, i = t := ⟨t, rfl⟩
 obtain ⟨hT1, hk1, hkx1, hlx1, hdx1, hf1, ht⟩ := hR
 have hkc : keys.length = cs.length := by omega
 refine W.seq <| W.sr <| WL.m rfl rfl <| WL.p (.fa underlying31 rfl sizeOf28 dD rfl) rfl <| WL.r (Rd.ld (isAgg28 _) rfl hk1 rfl) rfl <| WL.p (.lenS underlying28 rfl) rfl <| WL.p (.lss rfl rfl) rfl <| WL.nil <| ?_
 refine W.cond rfl (fun h66 => ?_) (fun h66 => ?_)
 have h66' := dT h66
 refine W.skip <| W.seq <| W.block ?_
 have hpt := prP_take keys list i0 oO oO
 have hple := prP_le keys list i0 oO oO
 have hpl := congrArg List.length hpt
 simp only [List.length_append, List.length_cons] at hpl
 have hnm127 := (hkk.2 _ (List.getElem_mem (show i0 < keys.length by omega))).2.2
 refine W.regY 18 rfl mixed (fun w67 dw67 => ?_)
 have hF68 := AInv.same (w1 := w67) hf1 (fun k hk hl => (by obtain ⟨m, rfl⟩ := dw67; rfl))
 have hk69 := hk1.drew dw67
 have hv70 := hkx1.drew dw67
 have hv71 := hlx1.drew dw67
 have hv72 := hdx1.drew dw67
 have hB73 := Drew.below hT1 dw67
 refine WY.tk 0 rfl (.mv rfl) rfl ?_
 refine WY.tk 1 rfl (.cat rfl rfl oL) rfl ?_
 refine WY.tk 2 rfl (.fa underlying31 rfl sizeOf28 dD rfl) rfl ?_
 refine WY.tk 4 rfl (.mv rfl) rfl ?_
 refine WY.tk 10 rfl (.fa underlying31 rfl sizeOf29 dD rfl) rfl ?_
 refine WY.tk 12 rfl (.mv rfl) rfl ?_
 refine WY.br2 3 rfl 11 rfl ?_ ?_
 refine WL.r (Rd.ld (isAgg28 _) rfl hk69 rfl) rfl <| WL.nil <| ?_
 refine WY.tk 5 rfl (.ixb underlying28 sizeOf9 rfl rfl (hv70.isp oO) (i0) (rfl) oO) rfl ?_
 refine WY.br2 6 rfl 11 rfl ?_ ?_
 refine WL.r (Rd.ldc (isAgg9 _) rfl (hv70.cells (i0) oO)) rfl <| WL.nil <| ?_
 refine WY.br2 7 rfl 11 rfl ?_ ?_
 refine WL.c1 hb39 rfl rfl ((r18_NameA (keys[i0]'oO) _ oO)) (fun w74 hw74 => ?_)
 have hF75 := AInv.same (w1 := w74) hF68 (fun k hk hl => (by obtain ⟨m, rfl⟩ := hw74; rfl))
 have hk76 := hk69.drew hw74
 have hv77 := hv70.drew hw74
 have hv78 := hv71.drew hw74
 have hv79 := hv72.drew hw74
 have hB80 := Drew.below hB73 hw74
 refine WL.nil <| ?_
 refine WY.tk 8 rfl (.cat rfl rfl oL) rfl ?_
 refine WY.tk 9 rfl (.cat rfl rfl oL) rfl ?_
 refine WY.br1 11 rfl ?_
 refine WL.r (Rd.ld (isAgg29 _) rfl hk76 rfl) rfl <| WL.nil <| ?_
 refine WY.tk 13 rfl (.ixm underlying29 sizeOf31 rfl rfl (hv78.isp oO) (i0) (rfl) oO) rfl ?_
 refine WY.br1 14 rfl ?_
 refine WL.r (Rd.ldS underlying31 rfl isz31 hv78 (i0) oO rfl) rfl <| WL.nil <| ?_
 refine WY.br1 15 rfl ?_
 refine WL.c1 hb17 rfl rfl ((ih (list[i0]'oO) (hsz i0 oO) _ S (D - 1) false _ ((hF75).sub i0 oO oO) (hall _ (List.getElem_mem _)) oO)) (fun w81 hw81 => ?_)
 have hF82 := AInv.same (w1 := w81) hF75 (fun k hk hl => hw81.block k hl)
 have hk83 := hk76.below hw81 hk76.lt
 have hv84 := RowAt.below hv77 hw81 (fun h0 => hv77.lt h0)
 have hv85 := RowM.below hv78 hw81 (fun h0 => hv78.lt h0)
 have hv86 := BytesAt.below hv79 hw81 (fun h0 => hv79.lt h0)
 have hB87 := btr hB80 hw81
 refine WL.nil <| ?_
 refine WY.tk 16 rfl (.cat rfl rfl oL) rfl ?_
 refine WY.tk 17 rfl (.as rfl) rfl ?_
 refine WY.done kR ?_
 refine W.reg <| WL.m rfl rfl <| WL.p (.iis (((i0 + 1 : Nat) : Int)) (.add rfl rfl (i64w oO)) oO) rfl <| WL.z rfl rfl ?_
 exact ⟨i0 + 1, ⟨rfl, lk_s rfl (by rw [hpt]; simp), rfl, trivial⟩, ⟨hB87, hk83, hv84, hv85, hv86, hF82, by ((try simp only) <;> omega)⟩, by ((try simp only) <;> omega)⟩
 refine WL.r (Rd.ld (isAgg29 _) rfl hk69 rfl) rfl <| WL.nil <| ?_
 refine WY.tk 13 rfl (.ixm underlying29 sizeOf31 rfl rfl (hv71.isp oO) (i0) (rfl) oO) rfl ?_
 refine WY.br2 7 rfl 14 rfl ?_ ?_
 refine WL.c1 hb39 rfl rfl ((r18_NameA (keys[i0]'oO) _ oO)) (fun w88 hw88 => ?_)
 have hF89 := AInv.same (w1 := w88) hF68 (fun k hk hl => (by obtain ⟨m, rfl⟩ := hw88; rfl))
 have hk90 := hk69.drew hw88
 have hv91 := hv70.drew hw88
 have hv92 := hv71.drew hw88
 have hv93 := hv72.drew hw88
 have hB94 := Drew.below hB73 hw88
 refine WL.nil <| ?_
 refine WY.tk 8 rfl (.cat rfl rfl oL) rfl ?_
 refine WY.tk 9 rfl (.cat rfl rfl oL) rfl ?_
 refine WY.br1 14 rfl ?_
 refine WL.r (Rd.ldS underlying31 rfl isz31 hv92 (i0) oO rfl) rfl <| WL.nil <| ?_
 refine WY.br1 15 rfl ?_
 refine WL.c1 hb17 rfl rfl ((ih (list[i0]'oO) (hsz i0 oO) _ S (D - 1) false _ ((hF89).sub i0 oO oO) (hall _ (List.getElem_mem _)) oO)) (fun w95 hw95 => ?_)
 have hF96 := AInv.same (w1 := w95) hF89 (fun k hk hl => hw95.block k hl)
 have hk97 := hk90.below hw95 hk90.lt
 have hv98 := RowAt.below hv91 hw95 (fun h0 => hv91.lt h0)
 have hv99 := RowM.below hv92 hw95 (fun h0 => hv92.lt h0)
 have hv100 := BytesAt.below hv93 hw95 (fun h0 => hv93.lt h0)
 have hB101 := btr hB94 hw95
 refine WL.nil <| ?_
 refine WY.tk 16 rfl (.cat rfl rfl oL) rfl ?_
 refine WY.tk 17 rfl (.as rfl) rfl ?_
 refine WY.done kR ?_
 refine W.reg <| WL.m rfl rfl <| WL.p (.iis (((i0 + 1 : Nat) : Int)) (.add rfl rfl (i64w oO)) oO) rfl <| WL.z rfl rfl ?_
 exact ⟨i0 + 1, ⟨rfl, lk_s rfl (by rw [hpt]; simp), rfl, trivial⟩, ⟨hB101, hk97, hv98, hv99, hv100, hF96, by ((try simp only) <;> omega)⟩, by ((try simp only) <;> omega)⟩
 refine WL.r (Rd.ldS underlying31 rfl isz31 hv71 (i0) oO rfl) rfl <| WL.nil <| ?_
 refine WY.br1 7 rfl ?_
 refine WL.c1 hb39 rfl rfl ((r18_NameA (keys[i0]'oO) _ oO)) (fun w102 hw102 => ?_)
 have hF103 := AInv.same (w1 := w102) hF68 (fun k hk hl => (by obtain ⟨m, rfl⟩ := hw102; rfl))
 have hk104 := hk69.drew hw102
 have hv105 := hv70.drew hw102
 have hv106 := hv71.drew hw102
 have hv107 := hv72.drew hw102
 have hB108 := Drew.below hB73 hw102
 refine WL.nil <| ?_
 refine WY.tk 8 rfl (.cat rfl rfl oL) rfl ?_
 refine WY.tk 9 rfl (.cat rfl rfl oL) rfl ?_
 refine WY.br1 15 rfl ?_
 refine WL.c1 hb17 rfl rfl ((ih (list[i0]'oO) (hsz i0 oO) _ S (D - 1) false _ ((hF103).sub i0 oO oO) (hall _ (List.getElem_mem _)) oO)) (fun w109 hw109 => ?_)
 have hF110 := AInv.same (w1 := w109) hF103 (fun k hk hl => hw109.block k hl)
 have hk111 := hk104.below hw109 hk104.lt
 have hv112 := RowAt.below hv105 hw109 (fun h0 => hv105.lt h0)
 have hv113 := RowM.below hv106 hw109 (fun h0 => hv106.lt h0)
 have hv114 := BytesAt.below hv107 hw109 (fun h0 => hv107.lt h0)
 have hB115 := btr hB108 hw109
 refine WL.nil <| ?_
 refine WY.tk 16 rfl (.cat rfl rfl oL) rfl ?_
 refine WY.tk 17 rfl (.as rfl) rfl ?_
 refine WY.done kR ?_
 refine W.reg <| WL.m rfl rfl <| WL.p (.iis (((i0 + 1 : Nat) : Int)) (.add rfl rfl (i64w oO)) oO) rfl <| WL.z rfl rfl ?_
 exact ⟨i0 + 1, ⟨rfl, lk_s rfl (by rw [hpt]; simp), rfl, trivial⟩, ⟨hB115, hk111, hv112, hv113, hv114, hF110, by ((try simp only) <;> omega)⟩, by ((try simp only) <;> omega)⟩
 refine WL.r (Rd.ld (isAgg29 _) rfl hk69 rfl) rfl <| WL.nil <| ?_
 refine WY.tk 13 rfl (.ixm underlying29 sizeOf31 rfl rfl (hv71.isp oO) (i0) (rfl) oO) rfl ?_
 refine WY.br2 6 rfl 14 rfl ?_ ?_
 refine WL.r (Rd.ldc (isAgg9 _) rfl (hv70.cells (i0) oO)) rfl <| WL.nil <| ?_
 refine WY.br2 7 rfl 14 rfl ?_ ?_
 refine WL.c1 hb39 rfl rfl ((r18_NameA (keys[i0]'oO) _ oO)) (fun w116 hw116 => ?_)
 have hF117 := AInv.same (w1 := w116) hF68 (fun k hk hl => (by obtain ⟨m, rfl⟩ := hw116; rfl))
 have hk118 := hk69.drew hw116
 have hv119 := hv70.drew hw116
 have hv120 := hv71.drew hw116
 have hv121 := hv72.drew hw116
 have hB122 := Drew.below hB73 hw116
 refine WL.nil <| ?_
 refine WY.tk 8 rfl (.cat rfl rfl oL) rfl ?_
 refine WY.tk 9 rfl (.cat rfl rfl oL) rfl ?_
 refine WY.br1 14 rfl ?_
 refine WL.r (Rd.ldS underlying31 rfl isz31 hv120 (i0) oO rfl) rfl <| WL.nil <| ?_
 refine WY.br1 15 rfl ?_
 refine WL.c1 hb17 rfl rfl ((ih (list[i0]'oO) (hsz i0 oO) _ S (D - 1) false _ ((hF117).sub i0 oO oO) (hall _ (List.getElem_mem _)) oO)) (fun w123 hw123 => ?_)
 have hF124 := AInv.same (w1 := w123) hF117 (fun k hk hl => hw123.block k hl)
 have hk125 := hk118.below hw123 hk118.lt
 have hv126 := RowAt.below hv119 hw123 (fun h0 => hv119.lt h0)
 have hv127 := RowM.below hv120 hw123 (fun h0 => hv120.lt h0)
 have hv128 := BytesAt.below hv121 hw123 (fun h0 => hv121.lt h0)
 have hB129 := btr hB122 hw123
 refine WL.nil <| ?_
 refine WY.tk 16 rfl (.cat rfl rfl oL) rfl ?_
 refine WY.tk 17 rfl (.as rfl) rfl ?_
 refine WY.done kR ?_
 refine W.reg <| WL.m rfl rfl <| WL.p (.iis (((i0 + 1 : Nat) : Int)) (.add rfl rfl (i64w oO)) oO) rfl <| WL.z rfl rfl ?_
 exact ⟨i0 + 1, ⟨rfl, lk_s rfl (by rw [hpt]; simp), rfl, trivial⟩, ⟨hB129, hk125, hv126, hv127, hv128, hF124, by ((try simp only) <;> omega)⟩, by ((try simp only) <;> omega)⟩
 refine WL.r (Rd.ldS underlying31 rfl isz31 hv71 (i0) oO rfl) rfl <| WL.nil <| ?_
 refine WY.br1 7 rfl ?_
 refine WL.c1 hb39 rfl rfl ((r18_NameA (keys[i0]'oO) _ oO)) (fun w130 hw130 => ?_)
 have hF131 := AInv.same (w1 := w130) hF68 (fun k hk hl => (by obtain ⟨m, rfl⟩ := hw130; rfl))
 have hk132 := hk69.drew hw130
 have hv133 := hv70.drew hw130
 have hv134 := hv71.drew hw130
 have hv135 := hv72.drew hw130
 have hB136 := Drew.below hB73 hw130
 refine WL.nil <| ?_
 refine WY.tk 8 rfl (.cat rfl rfl oL) rfl ?_
 refine WY.tk 9 rfl (.cat rfl rfl oL) rfl ?_
 refine WY.br1 15 rfl ?_
 refine WL.c1 hb17 rfl rfl ((ih (list[i0]'oO) (hsz i0 oO) _ S (D - 1) false _ ((hF131).sub i0 oO oO) (hall _ (List.getElem_mem _)) oO)) (fun w137 hw137 => ?_)
 have hF138 := AInv.same (w1 := w137) hF131 (fun k hk hl => hw137.block k hl)
 have hk139 := hk132.below hw137 hk132.lt
 have hv140 := RowAt.below hv133 hw137 (fun h0 => hv133.lt h0)
 have hv141 := RowM.below hv134 hw137 (fun h0 => hv134.lt h0)
 have hv142 := BytesAt.below hv135 hw137 (fun h0 => hv135.lt h0)
 have hB143 := btr hB136 hw137
 refine WL.nil <| ?_
 refine WY.tk 16 rfl (.cat rfl rfl oL) rfl ?_
 refine WY.tk 17 rfl (.as rfl) rfl ?_
 refine WY.done kR ?_
 refine W.reg <| WL.m rfl rfl <| WL.p (.iis (((i0 + 1 : Nat) : Int)) (.add rfl rfl (i64w oO)) oO) rfl <| WL.z rfl rfl ?_
 exact ⟨i0 + 1, ⟨rfl, lk_s rfl (by rw [hpt]; simp), rfl, trivial⟩, ⟨hB143, hk139, hv140, hv141, hv142, hF138, by ((try simp only) <;> omega)⟩, by ((try simp only) <;> omega)⟩
 refine WL.r (Rd.ldS underlying31 rfl isz31 hv71 (i0) oO rfl) rfl <| WL.nil <| ?_
 refine WY.br1 6 rfl ?_
 refine WL.r (Rd.ldc (isAgg9 _) rfl (hv70.cells (i0) oO)) rfl <| WL.nil <| ?_
 refine WY.br1 7 rfl ?_
 refine WL.c1 hb39 rfl rfl ((r18_NameA (keys[i0]'oO) _ oO)) (fun w144 hw144 => ?_)
 have hF145 := AInv.same (w1 := w144) hF68 (fun k hk hl => (by obtain ⟨m, rfl⟩ := hw144; rfl))
 have hk146 := hk69.drew hw144
 have hv147 := hv70.drew hw144
 have hv148 := hv71.drew hw144
 have hv149 := hv72.drew hw144
 have hB150 := Drew.below hB73 hw144
 refine WL.nil <| ?_
 refine WY.tk 8 rfl (.cat rfl rfl oL) rfl ?_
 refine WY.tk 9 rfl (.cat rfl rfl oL) rfl ?_
 refine WY.br1 15 rfl ?_
 refine WL.c1 hb17 rfl rfl ((ih (list[i0]'oO) (hsz i0 oO) _ S (D - 1) false _ ((hF145).sub i0 oO oO) (hall _ (List.getElem_mem _)) oO)) (fun w151 hw151 => ?_)
 have hF152 := AInv.same (w1 := w151) hF145 (fun k hk hl => hw151.block k hl)
 have hk153 := hk146.below hw151 hk146.lt
 have hv154 := RowAt.below hv147 hw151 (fun h0 => hv147.lt h0)
 have hv155 := RowM.below hv148 hw151 (fun h0 => hv148.lt h0)
 have hv156 := BytesAt.below hv149 hw151 (fun h0 => hv149.lt h0)
 have hB157 := btr hB150 hw151
 refine WL.nil <| ?_
 refine WY.tk 16 rfl (.cat rfl rfl oL) rfl ?_
 refine WY.tk 17 rfl (.as rfl) rfl ?_
 refine WY.done kR ?_
 refine W.reg <| WL.m rfl rfl <| WL.p (.iis (((i0 + 1 : Nat) : Int)) (.add rfl rfl (i64w oO)) oO) rfl <| WL.z rfl rfl ?_
 exact ⟨i0 + 1, ⟨rfl, lk_s rfl (by rw [hpt]; simp), rfl, trivial⟩, ⟨hB157, hk153, hv154, hv155, hv156, hF152, by ((try simp only) <;> omega)⟩, by ((try simp only) <;> omega)⟩
 refine WL.r (Rd.ld (isAgg29 _) rfl hk69 rfl) rfl <| WL.nil <| ?_
 refine WY.tk 13 rfl (.ixm underlying29 sizeOf31 rfl rfl (hv71.isp oO) (i0) (rfl) oO) rfl ?_
 refine WY.br2 3 rfl 14 rfl ?_ ?_
 refine WL.r (Rd.ld (isAgg28 _) rfl hk69 rfl) rfl <| WL.nil <| ?_
 refine WY.tk 5 rfl (.ixb underlying28 sizeOf9 rfl rfl (hv70.isp oO) (i0) (rfl) oO) rfl ?_
 refine WY.br2 6 rfl 14 rfl ?_ ?_
 refine WL.r (Rd.ldc (isAgg9 _) rfl (hv70.cells (i0) oO)) rfl <| WL.nil <| ?_
 refine WY.br2 7 rfl 14 rfl ?_ ?_
 refine WL.c1 hb39 rfl rfl ((r18_NameA (keys[i0]'oO) _ oO)) (fun w158 hw158 => ?_)
 have hF159 := AInv.same (w1 := w158) hF68 (fun k hk hl => (by obtain ⟨m, rfl⟩ := hw158; rfl))
 have hk160 := hk69.drew hw158
 have hv161 := hv70.drew hw158
 have hv162 := hv71.drew hw158
 have hv163 := hv72.drew hw158
 have hB164 := Drew.below hB73 hw158
 refine WL.nil <| ?_
 refine WY.tk 8 rfl (.cat rfl rfl oL) rfl ?_
 refine WY.tk 9 rfl (.cat rfl rfl oL) rfl ?_
 refine WY.br1 14 rfl ?_
 refine WL.r (Rd.ldS underlying31 rfl isz31 hv162 (i0) oO rfl) rfl <| WL.nil <| ?_
 refine WY.br1 15 rfl ?_
 refine WL.c1 hb17 rfl rfl ((ih (list[i0]'oO) (hsz i0 oO) _ S (D - 1) false _ ((hF159).sub i0 oO oO) (hall _ (List.getElem_mem _)) oO)) (fun w165 hw165 => ?_)
 have hF166 := AInv.same (w1 := w165) hF159 (fun k hk hl => hw165.block k hl)
 have hk167 := hk160.below hw165 hk160.lt
 have hv168 := RowAt.below hv161 hw165 (fun h0 => hv161.lt h0)
 have hv169 := RowM.below hv162 hw165 (fun h0 => hv162.lt h0)
 have hv170 := BytesAt.below hv163 hw165 (fun h0 => hv163.lt h0)
 have hB171 := btr hB164 hw165
 refine WL.nil <| ?_
 refine WY.tk 16 rfl (.cat rfl rfl oL) rfl ?_
 refine WY.tk 17 rfl (.as rfl) rfl ?_
 refine WY.done kR ?_
 refine W.reg <| WL.m rfl rfl <| WL.p (.iis (((i0 + 1 : Nat) : Int)) (.add rfl rfl (i64w oO)) oO) rfl <| WL.z rfl rfl ?_
 exact ⟨i0 + 1, ⟨rfl, lk_s rfl (by rw [hpt]; simp), rfl, trivial⟩, ⟨hB171, hk167, hv168, hv169, hv170, hF166, by ((try simp only) <;> omega)⟩, by ((try simp only) <;> omega)⟩
 refine WL.r (Rd.ldS underlying31 rfl isz31 hv71 (i0) oO rfl) rfl <| WL.nil <| ?_
 refine WY.br1 7 rfl ?_
 refine WL.c1 hb39 rfl rfl ((r18_NameA (keys[i0]'oO) _ oO)) (fun w172 hw172 => ?_)
 have hF173 := AInv.same (w1 := w172) hF68 (fun k hk hl => (by obtain ⟨m, rfl⟩ := hw172; rfl))
 have hk174 := hk69.drew hw172
 have hv175 := hv70.drew hw172
 have hv176 := hv71.drew hw172
 have hv177 := hv72.drew hw172
 have hB178 := Drew.below hB73 hw172
 refine WL.nil <| ?_
 refine WY.tk 8 rfl (.cat rfl rfl oL) rfl ?_
 refine WY.tk 9 rfl (.cat rfl rfl oL) rfl ?_
 refine WY.br1 15 rfl ?_
 refine WL.c1 hb17 rfl rfl ((ih (list[i0]'oO) (hsz i0 oO) _ S (D - 1) false _ ((hF173).sub i0 oO oO) (hall _ (List.getElem_mem _)) oO)) (fun w179 hw179 => ?_)
 have hF180 := AInv.same (w1 := w179) hF173 (fun k hk hl => hw179.block k hl)
 have hk181 := hk174.below hw179 hk174.lt
 have hv182 := RowAt.below hv175 hw179 (fun h0 => hv175.lt h0)
 have hv183 := RowM.below hv176 hw179 (fun h0 => hv176.lt h0)
 have hv184 := BytesAt.below hv177 hw179 (fun h0 => hv177.lt h0)
 have hB185 := btr hB178 hw179
 refine WL.nil <| ?_
 refine WY.tk 16 rfl (.cat rfl rfl oL) rfl ?_
 refine WY.tk 17 rfl (.as rfl) rfl ?_
 refine WY.done kR ?_
 refine W.reg <| WL.m rfl rfl <| WL.p (.iis (((i0 + 1 : Nat) : Int)) (.add rfl rfl (i64w oO)) oO) rfl <| WL.z rfl rfl ?_
 exact ⟨i0 + 1, ⟨rfl, lk_s rfl (by rw [hpt]; simp), rfl, trivial⟩, ⟨hB185, hk181, hv182, hv183, hv184, hF180, by ((try simp only) <;> omega)⟩, by ((try simp only) <;> omega)⟩
 refine WL.r (Rd.ldS underlying31 rfl isz31 hv71 (i0) oO rfl) rfl <| WL.nil <| ?_
 refine WY.br1 6 rfl ?_
 refine WL.r (Rd.ldc (isAgg9 _) rfl (hv70.cells (i0) oO)) rfl <| WL.nil <| ?_
 refine WY.br1 7 rfl ?_
 refine WL.c1 hb39 rfl rfl ((r18_NameA (keys[i0]'oO) _ oO)) (fun w186 hw186 => ?_)
 have hF187 := AInv.same (w1 := w186) hF68 (fun k hk hl => (by obtain ⟨m, rfl⟩ := hw186; rfl))
 have hk188 := hk69.drew hw186
 have hv189 := hv70.drew hw186
 have hv190 := hv71.drew hw186
 have hv191 := hv72.drew hw186
 have hB192 := Drew.below hB73 hw186
 refine WL.nil <| ?_
 refine WY.tk 8 rfl (.cat rfl rfl oL) rfl ?_
 refine WY.tk 9 rfl (.cat rfl rfl oL) rfl ?_
 refine WY.br1 15 rfl ?_
 refine WL.c1 hb17 rfl rfl ((ih (list[i0]'oO) (hsz i0 oO) _ S (D - 1) false _ ((hF187).sub i0 oO oO) (hall _ (List.getElem_mem _)) oO)) (fun w193 hw193 => ?_)
 have hF194 := AInv.same (w1 := w193) hF187 (fun k hk hl => hw193.block k hl)
 have hk195 := hk188.below hw193 hk188.lt
 have hv196 := RowAt.below hv189 hw193 (fun h0 => hv189.lt h0)
 have hv197 := RowM.below hv190 hw193 (fun h0 => hv190.lt h0)
 have hv198 := BytesAt.below hv191 hw193 (fun h0 => hv191.lt h0)
 have hB199 := btr hB192 hw193
 refine WL.nil <| ?_
 refine WY.tk 16 rfl (.cat rfl rfl oL) rfl ?_
 refine WY.tk 17 rfl (.as rfl) rfl ?_
 refine WY.done kR ?_
 refine W.reg <| WL.m rfl rfl <| WL.p (.iis (((i0 + 1 : Nat) : Int)) (.add rfl rfl (i64w oO)) oO) rfl <| WL.z rfl rfl ?_
 exact ⟨i0 + 1, ⟨rfl, lk_s rfl (by rw [hpt]; simp), rfl, trivial⟩, ⟨hB199, hk195, hv196, hv197, hv198, hF194, by ((try simp only) <;> omega)⟩, by ((try simp only) <;> omega)⟩
 refine WL.r (Rd.ldS underlying31 rfl isz31 hv71 (i0) oO rfl) rfl <| WL.nil <| ?_
 refine WY.br1 3 rfl ?_
 refine WL.r (Rd.ld (isAgg28 _) rfl hk69 rfl) rfl <| WL.nil <| ?_
 refine WY.tk 5 rfl (.ixb underlying28 sizeOf9 rfl rfl (hv70.isp oO) (i0) (rfl) oO) rfl ?_
 refine WY.br1 6 rfl ?_
 refine WL.r (Rd.ldc (isAgg9 _) rfl (hv70.cells (i0) oO)) rfl <| WL.nil <| ?_
 refine WY.br1 7 rfl ?_
 refine WL.c1 hb39 rfl rfl ((r18_NameA (keys[i0]'oO) _ oO)) (fun w200 hw200 => ?_)
 have hF201 := AInv.same (w1 := w200) hF68 (fun k hk hl => (by obtain ⟨m, rfl⟩ := hw200; rfl))
 have hk202 := hk69.drew hw200
 have hv203 := hv70.drew hw200
 have hv204 := hv71.drew hw200
 have hv205 := hv72.drew hw200
 have hB206 := Drew.below hB73 hw200
 refine WL.nil <| ?_
 refine WY.tk 8 rfl (.cat rfl rfl oL) rfl ?_
 refine WY.tk 9 rfl (.cat rfl rfl oL) rfl ?_
 refine WY.br1 15 rfl ?_
 refine WL.c1 hb17 rfl rfl ((ih (list[i0]'oO) (hsz i0 oO) _ S (D - 1) false _ ((hF201).sub i0 oO oO) (hall _ (List.getElem_mem _)) oO)) (fun w207 hw207 => ?_)
 have hF208 := AInv.same (w1 := w207) hF201 (fun k hk hl => hw207.block k hl)
 have hk209 := hk202.below hw207 hk202.lt
 have hv210 := RowAt.below hv203 hw207 (fun h0 => hv203.lt h0)
 have hv211 := RowM.below hv204 hw207 (fun h0 => hv204.lt h0)
 have hv212 := BytesAt.below hv205 hw207 (fun h0 => hv205.lt h0)
 have hB213 := btr hB206 hw207
 refine WL.nil <| ?_
 refine WY.tk 16 rfl (.cat rfl rfl oL) rfl ?_
 refine WY.tk 17 rfl (.as rfl) rfl ?_
 refine WY.done kR ?_
 refine W.reg <| WL.m rfl rfl <| WL.p (.iis (((i0 + 1 : Nat) : Int)) (.add rfl rfl (i64w oO)) oO) rfl <| WL.z rfl rfl ?_
 exact ⟨i0 + 1, ⟨rfl, lk_s rfl (by rw [hpt]; simp), rfl, trivial⟩, ⟨hB213, hk209, hv210, hv211, hv212, hF208, by ((try simp only) <;> omega)⟩, by ((try simp only) <;> omega)⟩
 have h66' := dF h66
 refine W.exit <| W.seq <| W.seq ?_
 have hti : list.take i0 = list := List.take_of_length_le oO
 have hti2 : keys.take i0 = keys := List.take_of_length_le oO
 rw [hti, hti2]
 refine W.reg <| WL.p (.fa underlying31 rfl sizeOf3 dD rfl) rfl <| WL.r (Rd.ld (isAgg3 _) rfl hk1 rfl) rfl <| WL.p (.eql rfl rfl) rfl <| WL.nil <| ?_
 refine W.cond rfl (fun h214 => ?_) (fun h214 => ?_)
 have h214' := dT h214
 refine W.sr <| WL.m rfl rfl <| WL.p (.cat rfl rfl oL) rfl <| WL.z rfl rfl ?_
 refine W.ret (W.ret1 rfl rfl ?_)
 (rw [if_pos aS] at hX; subst hX; exact ⟨rfl, hT1⟩)
 have h214' := dF h214
 refine W.skip <| W.seq ?_
 have hdl := decL_len (data.length : Int) oO oO
 refine W.regY 14 rfl mixed (fun w215 dw215 => ?_)
 have hk217 := hk1.drew dw215
 have hv220 := hdx1.drew dw215
 have hB221 := Drew.below hT1 dw215
 refine WY.tk 0 rfl (.mv rfl) rfl ?_
 refine WY.tk 1 rfl (.cat rfl rfl oL) rfl ?_
 refine WY.tk 2 rfl (.fa underlying31 rfl sizeOf22 dD rfl) rfl ?_
 refine WY.tk 8 rfl (.fa underlying31 rfl sizeOf22 dD rfl) rfl ?_
 refine WY.br2 3 rfl 9 rfl ?_ ?_
 refine WL.r (Rd.ld (isAgg22 _) rfl hk217 rfl) rfl <| WL.nil <| ?_
 refine WY.tk 4 rfl (.lenS underlying22 rfl) rfl ?_
 refine WY.br2 5 rfl 9 rfl ?_ ?_
 refine WL.c1 hb37 rfl rfl ((ref_DecT _ _ oO oO)) (fun w222 hw222 => ?_)
 have hk224 := hk217.below hw222 hk217.lt
 have hv227 := BytesAt.below hv220 hw222 (fun h0 => hv220.lt h0)
 have hB228 := btr hB221 hw222
 refine WL.nil <| ?_
 refine WY.tk 6 rfl (.cat rfl rfl oL) rfl ?_
 refine WY.tk 7 rfl (.cat rfl rfl oL) rfl ?_
 refine WY.br1 9 rfl ?_
 refine WL.r (Rd.ld (isAgg22 _) rfl hk224 rfl) rfl <| WL.nil <| ?_
 refine WY.br1 10 rfl ?_
 refine WL.r (Rd.b2s (l := data) underlying22 underlying5 underlying9 rfl (hv227)) rfl <| WL.nil <| ?_
 refine WY.tk 11 rfl (.cat rfl rfl oL) rfl ?_
 refine WY.tk 12 rfl (.cat rfl rfl oL) rfl ?_
 refine WY.tk 13 rfl (.as rfl) rfl ?_
 refine WY.done kR ?_
 refine W.ret (W.ret1 rfl rfl ?_)
 exact ⟨ret_val (by rw [hX, if_neg aS]; simp [strmE]), hB228⟩
 refine WL.r (Rd.ld (isAgg22 _) rfl hk217 rfl) rfl <| WL.nil <| ?_
 refine WY.br2 5 rfl 10 rfl ?_ ?_
 refine WL.c1 hb37 rfl rfl ((ref_DecT _ _ oO oO)) (fun w229 hw229 => ?_)
 have hv234 := BytesAt.below hv220 hw229 (fun h0 => hv220.lt h0)
 have hB235 := btr hB221 hw229
 refine WL.nil <| ?_
 refine WY.tk 6 rfl (.cat rfl rfl oL) rfl ?_
 refine WY.tk 7 rfl (.cat rfl rfl oL) rfl ?_
 refine WY.br1 10 rfl ?_
 refine WL.r (Rd.b2s (l := data) underlying22 underlying5 underlying9 rfl (hv234)) rfl <| WL.nil <| ?_
 refine WY.tk 11 rfl (.cat rfl rfl oL) rfl ?_
 refine WY.tk 12 rfl (.cat rfl rfl oL) rfl ?_
 refine WY.tk 13 rfl (.as rfl) rfl ?_
 refine WY.done kR ?_
 refine W.ret (W.ret1 rfl rfl ?_)
 exact ⟨ret_val (by rw [hX, if_neg aS]; simp [strmE]), hB235⟩
 refine WL.r (Rd.b2s (l := data) underlying22 underlying5 underlying9 rfl (hv220)) rfl <| WL.nil <| ?_
 refine WY.br1 5 rfl ?_
 refine WL.c1 hb37 rfl rfl ((ref_DecT _ _ oO oO)) (fun w236 hw236 => ?_)
 have hB242 := btr hB221 hw236
 refine WL.nil <| ?_
 refine WY.tk 6 rfl (.cat rfl rfl oL) rfl ?_
 refine WY.tk 7 rfl (.cat rfl rfl oL) rfl ?_
 refine WY.tk 11 rfl (.cat rfl rfl oL) rfl ?_
 refine WY.tk 12 rfl (.cat rfl rfl oL) rfl ?_
 refine WY.tk 13 rfl (.as rfl) rfl ?_
 refine WY.done kR ?_
 refine W.ret (W.ret1 rfl rfl ?_)
 exact ⟨ret_val (by rw [hX, if_neg aS]; simp [strmE]), hB242⟩
 refine WL.r (Rd.ld (isAgg22 _) rfl hk217 rfl) rfl <| WL.nil <| ?_
 refine WY.br2 3 rfl 10 rfl ?_ ?_
 refine WL.r (Rd.ld (isAgg22 _) rfl hk217 rfl) rfl <| WL.nil <| ?_
 refine WY.tk 4 rfl (.lenS underlying22 rfl) rfl ?_
 refine WY.br2 5 rfl 10 rfl ?_ ?_
 refine WL.c1 hb37 rfl rfl ((ref_DecT _ _ oO oO)) (fun w243 hw243 => ?_)
 have hv248 := BytesAt.below hv220 hw243 (fun h0 => hv220.lt h0)
 have hB249 := btr hB221 hw243
 refine WL.nil <| ?_
 refine WY.tk 6 rfl (.cat rfl rfl oL) rfl ?_
 refine WY.tk 7 rfl (.cat rfl rfl oL) rfl ?_
 refine WY.br1 10 rfl ?_
 refine WL.r (Rd.b2s (l := data) underlying22 underlying5 underlying9 rfl (hv248)) rfl <| WL.nil <| ?_
 refine WY.tk 11 rfl (.cat rfl rfl oL) rfl ?_
 refine WY.tk 12 rfl (.cat rfl rfl oL) rfl ?_
 refine WY.tk 13 rfl (.as rfl) rfl ?_
 refine WY.done kR ?_
 refine W.ret (W.ret1 rfl rfl ?_)
 exact ⟨ret_val (by rw [hX, if_neg aS]; simp [strmE]), hB249⟩
 refine WL.r (Rd.b2s (l := data) underlying22 underlying5 underlying9 rfl (hv220)) rfl <| WL.nil <| ?_
 refine WY.br1 5 rfl ?_
 refine WL.c1 hb37 rfl rfl ((ref_DecT _ _ oO oO)) (fun w250 hw250 => ?_)
 have hB256 := btr hB221 hw250
 refine WL.nil <| ?_
 refine WY.tk 6 rfl (.cat rfl rfl oL) rfl ?_
 refine WY.tk 7 rfl (.cat rfl rfl oL) rfl ?_
 refine WY.tk 11 rfl (.cat rfl rfl oL) rfl ?_
 refine WY.tk 12 rfl (.cat rfl rfl oL) rfl ?_
 refine WY.tk 13 rfl (.as rfl) rfl ?_
 refine WY.done kR ?_
 refine W.ret (W.ret1 rfl rfl ?_)
 exact ⟨ret_val (by rw [hX, if_neg aS]; simp [strmE]), hB256⟩
 refine WL.r (Rd.b2s (l := data) underlying22 underlying5 underlying9 rfl (hv220)) rfl <| WL.nil <| ?_
 refine WY.br1 3 rfl ?_
 refine WL.r (Rd.ld (isAgg22 _) rfl hk217 rfl) rfl <| WL.nil <| ?_
 refine WY.tk 4 rfl (.lenS underlying22 rfl) rfl ?_
 refine WY.br1 5 rfl ?_
 refine WL.c1 hb37 rfl rfl ((ref_DecT _ _ oO oO)) (fun w257 hw257 => ?_)
 have hB263 := btr hB221 hw257
 refine WL.nil <| ?_
 refine WY.tk 6 rfl (.cat rfl rfl oL) rfl ?_
 refine WY.tk 7 rfl (.cat rfl rfl oL) rfl ?_
 refine WY.tk 11 rfl (.cat rfl rfl oL) rfl ?_
 refine WY.tk 12 rfl (.cat rfl rfl oL) rfl ?_
 refine WY.tk 13 rfl (.as rfl) rfl ?_
 refine WY.done kR ?_
 refine W.ret (W.ret1 rfl rfl ?_)
 exact ⟨ret_val (by rw [hX, if_neg aS]; simp [strmE]), hB263⟩
end
end Go.Proofs.YtjghbcjnplcleaaGreatDoor
