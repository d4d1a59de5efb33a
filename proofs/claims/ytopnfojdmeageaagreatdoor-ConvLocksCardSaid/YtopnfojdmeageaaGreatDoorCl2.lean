/-
  What the claim leans on, part 2: pruned and joined by my own tool out of the texts that stand in wip/ as templates.
-/
import Derived.Test.YtopnfojdmeageaaGreatDoorCl1
namespace Go.Proofs.YtopnfojdmeageaaGreatDoor
open Go.RowKit
open Go.Proofs.Tryz
section
theorem pPart2 {p : Option Addr} {c f a : Nat} (hp : p = some (pA p)) (h : f + a < c) : pPart (pPart p c f) (c - f) a = some ((pA p).add (f + a)) := by
 unfold pPart
 rw [if_neg oO, if_neg oO, hp]
 simp only [Option.map_some, add_add]
 rfl
def writeE (S : StoV) (o : ObjV) (i : Int) (l : List UInt8) : Int := if (decide (o.kind = 6) && validB S o) = true then (if i < 0 ∨ o.len < i ∨ o.len - i < l.length then 11 else 0) else 21
def writeS (S : StoV) (o : ObjV) (i : Int) (l : List UInt8) : StoV :=
 if writeE S o i l = 0 then { S with texts := S.texts.set o.ref.toNat ((S.texts.getD o.ref.toNat []).take (o.frm.toNat + i.toNat) ++ l ++ (S.texts.getD o.ref.toNat []).drop (o.frm.toNat + i.toNat + l.length)) } else S
theorem writeE_ok {S : StoV} {o : ObjV} {i : Int} {l : List UInt8} (h1 : (decide (o.kind = 6) && validB S o) = true) (h2 : ¬ (i < 0 ∨ o.len < i ∨ o.len - i < l.length)) : writeE S o i l = 0 := by
 unfold writeE; rw [if_pos h1, if_neg h2]
theorem writeE_range {S : StoV} {o : ObjV} {i : Int} {l : List UInt8} (h1 : (decide (o.kind = 6) && validB S o) = true) (h2 : i < 0 ∨ o.len < i ∨ o.len - i < l.length) : writeE S o i l = 11 := by
 unfold writeE; rw [if_pos h1, if_pos h2]
set_option maxHeartbeats 1600000 in
theorem sto_Write (b : Nat) (F : Nat → Prop) (S : StoV) (o : ObjV) (i : Int) (p : Option Addr) (l : List UInt8) (c : Nat) (w : World) (h : Sto w b F S) (hok : SOk S) (hb : BytesAt w p l) (hnF : 0 < l.length → ¬ F (pA p).block) (hi : -4611686018427387904 ≤ i ∧ i ≤ 4611686018427387904) :
    Calls Tryz.prog 45 #[.pointer (some ⟨b, 0, none⟩), .agg (objV o).toArray, .int .i64 i, .slice p l.length c] w fun e w' => e = .returned (.int .i64 (writeE S o i l)) ∧ ∃ F1, Sto w' b F1 (writeS S o i l) ∧ Chg F F1 w w' := by
  have hlt5 := getD_le hok.tx
  refine W.enter func45 rfl ntmps45 (Nat.le_of_ble_eq_true rfl) ?_
  have hB0 := Chg.refl F w
  refine W.sr <| WL.box rfl rfl (fun b1 wb1 eb1 hkb1 hub1 hsb1 => ?_)
  have hF2 := Sto.same (w1 := wb1) h (fun k hk hl => hub1.other k oO)
  have hvl4 := fun h0 => eb1 ▸ hb.lt h0
  have hv3 := bup hb hub1 hvl4
  have hgeb1 : w.heap.size ≤ b1 := by rw [eb1]; exact hB0.size
  have hB5 := Chg.upd hB0 hub1 hgeb1
  have hnf6 : ¬ F b1 := fun hq => by have hq1 := (h).lt hq; omega
  refine WL.z rfl rfl ?_
  refine W.seq <| W.block <| W.sr <| WL.m rfl rfl <| WL.r (Rd.ldA rfl hkb1 underlying27 rfl isz27) rfl <| WL.c1 hb25 rfl rfl ((sto_is b F S o 6 _ hF2 hok)) (fun w7 hw7 => ?_)
  have hF8 := Sto.same (w1 := w7) hF2 (fun k hk hl => hw7.block k hl)
  have hk9 := hkb1.below hw7 hkb1.lt
  have hv10 := BytesAt.below hv3 hw7 (fun h0 => hv3.lt h0)
  have hB11 := Chg.low hB5 hw7
  refine WL.p (.not rfl) rfl <| WL.z rfl rfl ?_
  refine W.cond rfl (fun h12 => ?_) (fun h12 => ?_)
  · have h12' := (nT h12)
    refine W.sr <| WL.z rfl rfl ?_
    refine W.ret (W.ret1 rfl rfl ?_)
    first
    | exact ⟨riE (by rw [hE]), _, hF8, hB11⟩
    | (have hE := writeE_range (i := i) (l := l) hv oO; exact ⟨riE hE.symm, _, (by unfold writeS; rw [if_neg (by rw [hE]; decide)]; exact hF8), hB11⟩)
    | (have hE : writeE S o i l = 21 := if_neg (by simp_all)
       exact ⟨riE hE.symm, _, (by unfold writeS; rw [if_neg (by rw [hE]; decide)]; exact hF8), hB11⟩)
  have h12' := (nF h12)
  have hv : (decide (o.kind = 6) && validB S o) = true := by simp_all
  obtain ⟨hk6, hva⟩ : o.kind = 6 ∧ validB S o = true := by simpa using hv
  obtain ⟨k, f, n, e1, e2, e3, hk, hbd⟩ := valid_text hk6 hva
  have hlk := hlt5 k
  refine W.sr <| WL.m rfl rfl <| WL.p (.lss rfl rfl) rfl <| WL.m rfl rfl <| WL.gd rfl rfl rfl (fun g13 => ?_) (fun g13 => ?_)
  · have g13' := dF g13
    refine WL.m rfl rfl <| WL.gy rfl rfl rfl g13 <| WL.p (.fa underlying27 rfl sizeOf3 dD rfl) rfl <| WL.gy rfl rfl rfl g13 <| WL.r (Rd.ld (isAgg3 _) rfl hk9 rfl) rfl <| WL.gy rfl rfl rfl g13 <| WL.p (.gtr rfl rfl) rfl <| WL.p (.pkF rfl g13 rfl) rfl <| WL.m rfl rfl <| WL.gd rfl rfl rfl (fun g14 => ?_) (fun g14 => ?_)
    · have g14' := dF g14
      refine WL.m rfl rfl <| WL.gy rfl rfl rfl g14 <| WL.p (.lenS underlying35 rfl) rfl <| WL.gy rfl rfl rfl g14 <| WL.p (.fa underlying27 rfl sizeOf3 dD rfl) rfl <| WL.gy rfl rfl rfl g14 <| WL.r (Rd.ld (isAgg3 _) rfl hk9 rfl) rfl <| WL.gy rfl rfl rfl g14 <| WL.m rfl rfl <| WL.gy rfl rfl rfl g14 <| WL.p (.sub rfl rfl (i64w oO)) rfl <| WL.gy rfl rfl rfl g14 <| WL.p (.gtr rfl rfl) rfl <| WL.p (.pkF rfl g14 rfl) rfl <| WL.z rfl rfl ?_
      refine W.cond rfl (fun h15 => ?_) (fun h15 => ?_)
      · have h15' := dT h15
        refine W.sr <| WL.z rfl rfl ?_
        refine W.ret (W.ret1 rfl rfl ?_)
        first
        | exact ⟨riE (by rw [hE]), _, hF8, hB11⟩
        | (have hE := writeE_range (i := i) (l := l) hv oO; exact ⟨riE hE.symm, _, (by unfold writeS; rw [if_neg (by rw [hE]; decide)]; exact hF8), hB11⟩)
        | (have hE : writeE S o i l = 21 := if_neg (by simp_all)
           exact ⟨riE hE.symm, _, (by unfold writeS; rw [if_neg (by rw [hE]; decide)]; exact hF8), hB11⟩)
      have h15' := dF h15
      refine W.skip <| W.seq ?_
      have hr2 : ¬ (i < 0 ∨ o.len < i ∨ o.len - i < l.length) := by omega
      have hE := writeE_ok hv hr2
      obtain ⟨a, rfl⟩ := Int.eq_ofNat_of_zero_le (show 0 ≤ i by omega)
      have hst := hF8
      obtain ⟨lab, H, hF, hlt, hS⟩ := hst
      have hk2 : k < H.ts.length := by rw [hS.tx.len]; exact hk
      have hnn := hS.tx.nn k hk2
      refine W.reg <| WL.m rfl rfl <| WL.r (Rd.ldA rfl hk9 underlying27 rfl isz27) rfl <| WL.c1 hb27 rfl rfl ((sto_text lab b H S o k f n hk2 _ hS e1 e2 e3 oO oO)) (fun w16 hw16 => ?_)
      have hk18 := hk9.below hw16 hk9.lt
      have hv19 := BytesAt.below hv10 hw16 (fun h0 => hv10.lt h0)
      have hB20 := Chg.low hB11 hw16
      have hS2 := hS.same (w1 := w16) (fun g hg => hw16.block g (hlt g hg))
      have hlt2 : ∀ g, lab g ≠ .no → g < w16.heap.size := fun g hg => Nat.lt_of_lt_of_le (hlt g hg) hw16.size
      obtain ⟨hx, hxl⟩ := hS2.tx.el _ _ _ (get_of hk2) (get_of hk)
      refine WL.m rfl rfl <| WL.p (.slbF underlying35 sizeOf5 rfl rfl  (a) (rfl) oO) rfl <| WL.m rfl rfl <| WL.cpG (L := byL) (l := S.texts[k]) (f + a) underlying35 sizeOf5 hx (by have := hx.slv.1; omega) rfl (fun h0 => by rw [show (f + a) * byL.m = f + a from Nat.mul_one _]; have h4 := hx.slv; exact pPart2 (h4.2.1.isp oO) oO) oO rfl (hv19).rowM rfl (fun w90 hO90 ho90 => ?_)
      have hC90 : Chg F F w16 w90 := Chg.only hO90 (fun g hg => (hF g).2 (by rw [hxl g hg]; nofun))
      have hS90 := hS2.setText (get_of hk2) (get_of hk) hO90 ho90
      have hst90 : Sto w90 b F (writeS S o a l) := by
        refine ⟨lab, H, hF, fun g hg => by rw [hO90.size]; exact hlt2 g hg, ?_⟩
        have e : writeS S o a l = { S with texts := S.texts.set k (S.texts[k].take (f + a) ++ l ++ S.texts[k].drop (f + a + l.length)) } := by
          unfold writeS
          rw [if_pos hE, e1, e2, Int.toNat_natCast, Int.toNat_natCast, Int.toNat_natCast, List.getD_eq_getElem?_getD, get_of hk]; rfl
        rw [e]; exact hS90
      have hnf21 := Chg.nf hC90 hnf6 hk18.lt
      have hnf24 := fun h0 => Chg.nf hC90 (hnF h0) (hv19.lt h0)
      have hB25 := Chg.trans hB20 hC90
      refine WL.nil <| ?_
      refine W.sr <| WL.z rfl rfl ?_
      refine W.ret (W.ret1 rfl rfl ?_)
      first
      | exact ⟨riE (by rw [hE]), _, hst90, hB25⟩
      | (have hE := writeE_range (i := i) (l := l) hv oO; exact ⟨riE hE.symm, _, (by unfold writeS; rw [if_neg (by rw [hE]; decide)]; exact hst90), hB25⟩)
      | (have hE : writeE S o i l = 21 := if_neg (by simp_all)
         exact ⟨riE hE.symm, _, (by unfold writeS; rw [if_neg (by rw [hE]; decide)]; exact hst90), hB25⟩)
    have g14' := dT g14
    refine WL.gn rfl rfl rfl g14 <| WL.gn rfl rfl rfl g14 <| WL.gn rfl rfl rfl g14 <| WL.gn rfl rfl rfl g14 <| WL.gn rfl rfl rfl g14 <| WL.gn rfl rfl rfl g14 <| WL.p (.pkT rfl g14 rfl) rfl <| WL.z rfl rfl ?_
    refine W.condT rfl rfl ?_
    refine W.sr <| WL.z rfl rfl ?_
    refine W.ret (W.ret1 rfl rfl ?_)
    first
    | exact ⟨riE (by rw [hE]), _, hF8, hB11⟩
    | (have hE := writeE_range (i := i) (l := l) hv oO; exact ⟨riE hE.symm, _, (by unfold writeS; rw [if_neg (by rw [hE]; decide)]; exact hF8), hB11⟩)
    | (have hE : writeE S o i l = 21 := if_neg (by simp_all)
       exact ⟨riE hE.symm, _, (by unfold writeS; rw [if_neg (by rw [hE]; decide)]; exact hF8), hB11⟩)
  have g13' := dT g13
  refine WL.gn rfl rfl rfl g13 <| WL.gn rfl rfl rfl g13 <| WL.gn rfl rfl rfl g13 <| WL.p (.pkT rfl g13 rfl) rfl <| WL.m rfl rfl <| WL.gn rfl rfl rfl rfl <| WL.gn rfl rfl rfl rfl <| WL.gn rfl rfl rfl rfl <| WL.gn rfl rfl rfl rfl <| WL.gn rfl rfl rfl rfl <| WL.gn rfl rfl rfl rfl <| WL.gn rfl rfl rfl rfl <| WL.p (.pkT rfl rfl rfl) rfl <| WL.z rfl rfl ?_
  refine W.condT rfl rfl ?_
  refine W.sr <| WL.z rfl rfl ?_
  refine W.ret (W.ret1 rfl rfl ?_)
  first
  | exact ⟨riE (by rw [hE]), _, hF8, hB11⟩
  | (have hE := writeE_range (i := i) (l := l) hv oO; exact ⟨riE hE.symm, _, (by unfold writeS; rw [if_neg (by rw [hE]; decide)]; exact hF8), hB11⟩)
  | (have hE : writeE S o i l = 21 := if_neg (by simp_all)
     exact ⟨riE hE.symm, _, (by unfold writeS; rw [if_neg (by rw [hE]; decide)]; exact hF8), hB11⟩)
def partE (S : StoV) (o : ObjV) (f n : Int) : Int := if (decide (o.kind = 6) || decide (o.kind = 7)) && validB S o then (if f < 0 ∨ n < 0 ∨ o.len < f ∨ o.len - f < n then 11 else 0) else 21
def partO (S : StoV) (o : ObjV) (f n : Int) : ObjV := if partE S o f n = 0 then { o with frm := o.frm + f, len := n } else ob0
theorem within_le {o : ObjV} {m : Nat} (hm : m ≤ 65535) (h : withinB o m = true) : 0 ≤ o.frm ∧ 0 ≤ o.len ∧ o.frm + o.len ≤ 65535 := by
 unfold withinB at h
 simp only [Bool.and_eq_true, decide_eq_true_eq] at h
 omega
theorem valid_le {S : StoV} {o : ObjV} (hok : SOk S) (hk : o.kind = 6 ∨ o.kind = 7) (h : validB S o = true) : 0 ≤ o.frm ∧ 0 ≤ o.len ∧ o.frm + o.len ≤ 65535 := by
  unfold validB at h
  rcases hk with hk | hk
  · rw [if_pos hk] at h
    simp only [Bool.and_eq_true] at h
    exact within_le (getD_le hok.tx _) h.2
  · rw [if_neg oO, if_pos hk] at h
    simp only [Bool.and_eq_true] at h
    exact within_le (getD_le hok.li _) h.2
theorem sto_Part (b : Nat) (F : Nat → Prop) (S : StoV) (o : ObjV) (f n : Int) (w : World) (h : Sto w b F S) (hok : SOk S) (hf : -4611686018427387904 ≤ f ∧ f ≤ 4611686018427387904) :
    Calls Tryz.prog 46 #[.pointer (some ⟨b, 0, none⟩), .agg (objV o).toArray, .int .i64 f, .int .i64 n] w fun e w' => e = .returned (.tuple #[.agg (objV (partO S o f n)).toArray, .int .i64 (partE S o f n)]) ∧ Below w.heap.size w w' := by
  refine W.enter func46 rfl ntmps46 (Nat.le_of_ble_eq_true rfl) ?_
  have hB0 := Below.refl (w.heap.size) w
  refine W.sr <| WL.box rfl rfl (fun b1 wb1 eb1 hkb1 hub1 hsb1 => ?_)
  have hB2 := Upd.below hB0 (by rw [eb1]; exact hB0.size) hub1
  have hgeb1 : w.heap.size ≤ b1 := by rw [eb1]; exact hB0.size
  refine WL.alloc zeroValue27 rfl (fun b3 wb3 eb3 hkb3 hub3 hsb3 => ?_)
  have hl5 : b1 < b3 := by rw [eb3]; exact hkb1.lt
  have hk4 := hkb1.upd hub3 (Nat.ne_of_lt hl5)
  have hB6 := Upd.below hB2 (by rw [eb3]; exact hB2.size) hub3
  have hgeb3 : w.heap.size ≤ b3 := by rw [eb3]; exact hB2.size
  refine WL.z rfl rfl ?_
  refine W.seq <| W.block <| W.sr <| WL.p (.fa underlying27 rfl sizeOf3 dD rfl) rfl <| WL.r (Rd.ld (isAgg3 _) rfl hk4 rfl) rfl <| WL.p (.neq rfl rfl) rfl <| WL.m rfl rfl <| WL.gd rfl rfl rfl (fun g7 => ?_) (fun g7 => ?_)
  · have g7' := ndT g7
    refine WL.p (.fa underlying27 rfl sizeOf3 dD rfl) rfl <| WL.gy rfl rfl rfl g7 <| WL.r (Rd.ld (isAgg3 _) rfl hk4 rfl) rfl <| WL.gy rfl rfl rfl g7 <| WL.p (.neq rfl rfl) rfl <| WL.p (.pkT rfl g7 rfl) rfl <| WL.m rfl rfl <| WL.gd rfl rfl rfl (fun g8 => ?_) (fun g8 => ?_)
    · have g8' := ndF g8
      refine WL.m rfl rfl <| WL.gy rfl rfl rfl g8 <| WL.r (Rd.ldA rfl hk4 underlying27 rfl isz27) rfl <| WL.gy rfl rfl rfl g8 <| WL.c1 hb19 rfl rfl ((sto_Valid b F S o _ (h.below hB6) hok)) (fun w9 hw9 => ?_)
      have hk10 := hk4.below hw9 hk4.lt
      have hk11 := hkb3.below hw9 hkb3.lt
      have hB12 := btr hB6 hw9
      refine WL.gy rfl rfl rfl g8 <| WL.p (.not rfl) rfl <| WL.p (.pkF rfl g8 rfl) rfl <| WL.z rfl rfl ?_
      refine W.cond rfl (fun h13 => ?_) (fun h13 => ?_)
      · have h13' := (nT h13)
        refine W.sr <| WL.p (.buildL (ps := _) blt27 rfl rfl rfl pZ) rfl ?_
        refine WL.stL rfl rfl hk11 isz27 rfl rfl (fun w14 hkw14 huw14 hsw14 => ?_)
        have hB16 := Upd.below hB12 oO huw14
        refine WL.z rfl rfl ?_
        refine W.ret (W.retc2 rfl rfl (ldRow hkw14 underlying27 rfl isz27) rfl ?_)
        first
        | (have hE : partE S o f n = 21 := if_neg (by simp_all)
           exact ⟨rvE (by unfold partO; rw [if_neg (by rw [hE]; decide), hE]; rfl), hB16⟩)
        | (have hE : partE S o f n = 11 := by unfold partE; rw [if_pos hv, if_pos oO]
           exact ⟨rvE (by unfold partO; rw [if_neg (by rw [hE]; decide), hE]; rfl), hB16⟩)
        | (have hE : partE S o f n = 0 := by unfold partE; rw [if_pos hv, if_neg oO]
           exact ⟨rvE (by unfold partO; rw [if_pos hE, hE]; rfl), hB16⟩)
      have h13' := (nF h13)
      have hv : ((decide (o.kind = 6) || decide (o.kind = 7)) && validB S o) = true := by simp_all
      have hva := valid_le (S := S) (o := o) hok (by simp_all) (by simp_all)
      refine W.sr <| WL.m rfl rfl <| WL.p (.lss rfl rfl) rfl <| WL.m rfl rfl <| WL.gd rfl rfl rfl (fun g17 => ?_) (fun g17 => ?_)
      · have g17' := dF g17
        refine WL.m rfl rfl <| WL.gy rfl rfl rfl g17 <| WL.p (.lss rfl rfl) rfl <| WL.p (.pkF rfl g17 rfl) rfl <| WL.m rfl rfl <| WL.gd rfl rfl rfl (fun g18 => ?_) (fun g18 => ?_)
        · have g18' := dF g18
          refine WL.m rfl rfl <| WL.gy rfl rfl rfl g18 <| WL.p (.fa underlying27 rfl sizeOf3 dD rfl) rfl <| WL.gy rfl rfl rfl g18 <| WL.r (Rd.ld (isAgg3 _) rfl hk10 rfl) rfl <| WL.gy rfl rfl rfl g18 <| WL.p (.gtr rfl rfl) rfl <| WL.p (.pkF rfl g18 rfl) rfl <| WL.m rfl rfl <| WL.gd rfl rfl rfl (fun g19 => ?_) (fun g19 => ?_)
          · have g19' := dF g19
            refine WL.m rfl rfl <| WL.gy rfl rfl rfl g19 <| WL.p (.fa underlying27 rfl sizeOf3 dD rfl) rfl <| WL.gy rfl rfl rfl g19 <| WL.r (Rd.ld (isAgg3 _) rfl hk10 rfl) rfl <| WL.gy rfl rfl rfl g19 <| WL.m rfl rfl <| WL.gy rfl rfl rfl g19 <| WL.p (.sub rfl rfl (i64w oO)) rfl <| WL.gy rfl rfl rfl g19 <| WL.p (.gtr rfl rfl) rfl <| WL.p (.pkF rfl g19 rfl) rfl <| WL.z rfl rfl ?_
            refine W.cond rfl (fun h20 => ?_) (fun h20 => ?_)
            · have h20' := dT h20
              refine W.sr <| WL.p (.buildL (ps := _) blt27 rfl rfl rfl pZ) rfl ?_
              refine WL.stL rfl rfl hk11 isz27 rfl rfl (fun w21 hkw21 huw21 hsw21 => ?_)
              have hB23 := Upd.below hB12 oO huw21
              refine WL.z rfl rfl ?_
              refine W.ret (W.retc2 rfl rfl (ldRow hkw21 underlying27 rfl isz27) rfl ?_)
              first
              | (have hE : partE S o f n = 21 := if_neg (by simp_all)
                 exact ⟨rvE (by unfold partO; rw [if_neg (by rw [hE]; decide), hE]; rfl), hB23⟩)
              | (have hE : partE S o f n = 11 := by unfold partE; rw [if_pos hv, if_pos oO]
                 exact ⟨rvE (by unfold partO; rw [if_neg (by rw [hE]; decide), hE]; rfl), hB23⟩)
              | (have hE : partE S o f n = 0 := by unfold partE; rw [if_pos hv, if_neg oO]
                 exact ⟨rvE (by unfold partO; rw [if_pos hE, hE]; rfl), hB23⟩)
            have h20' := dF h20
            refine W.skip <| W.sr <| WL.p (.fa underlying27 rfl sizeOf3 dD rfl) rfl <| WL.r (Rd.ld (isAgg3 _) rfl hk10 rfl) rfl <| WL.m rfl rfl <| WL.p (.add rfl rfl (i64w oO)) rfl <| WL.p (.fa underlying27 rfl sizeOf3 dD rfl) rfl <| WL.st sizeOf3 rfl rfl rfl hk10 oD (fun w24 hkw24 huw24 hsw24 => ?_)
            have hkw24 : Blk w24 b1 _ _ := hkw24
            have huw24 : Upd b1 _ _ := huw24
            have hk25 := hk11.up huw24
            have hB26 := Upd.below hB12 oO huw24
            refine WL.nil <| ?_
            refine W.sr <| WL.m rfl rfl <| WL.p (.fa underlying27 rfl sizeOf3 dD rfl) rfl <| WL.st sizeOf3 rfl rfl rfl hkw24 oD (fun w27 hkw27 huw27 hsw27 => ?_)
            have hkw27 : Blk w27 b1 _ _ := hkw27
            have huw27 : Upd b1 _ _ := huw27
            have hk28 := hk25.up huw27
            have hB29 := Upd.below hB26 oO huw27
            refine WL.nil <| ?_
            refine W.sr <| WL.r (Rd.ldA rfl hkw27 underlying27 rfl isz27) rfl <| WL.stL rfl rfl hk28 isz27 rfl rfl (fun w30 hkw30 huw30 hsw30 => ?_)
            have hB32 := Upd.below hB29 oO huw30
            refine WL.z rfl rfl ?_
            refine W.ret (W.retc2 rfl rfl (ldRow hkw30 underlying27 rfl isz27) rfl ?_)
            first
            | (have hE : partE S o f n = 21 := if_neg (by simp_all)
               exact ⟨rvE (by unfold partO; rw [if_neg (by rw [hE]; decide), hE]; rfl), hB32⟩)
            | (have hE : partE S o f n = 11 := by unfold partE; rw [if_pos hv, if_pos oO]
               exact ⟨rvE (by unfold partO; rw [if_neg (by rw [hE]; decide), hE]; rfl), hB32⟩)
            | (have hE : partE S o f n = 0 := by unfold partE; rw [if_pos hv, if_neg oO]
               exact ⟨rvE (by unfold partO; rw [if_pos hE, hE]; rfl), hB32⟩)
          have g19' := dT g19
          refine WL.gn rfl rfl rfl g19 <| WL.gn rfl rfl rfl g19 <| WL.gn rfl rfl rfl g19 <| WL.gn rfl rfl rfl g19 <| WL.gn rfl rfl rfl g19 <| WL.p (.pkT rfl g19 rfl) rfl <| WL.z rfl rfl ?_
          refine W.condT rfl rfl ?_
          refine W.sr <| WL.p (.buildL (ps := _) blt27 rfl rfl rfl pZ) rfl ?_
          refine WL.stL rfl rfl hk11 isz27 rfl rfl (fun w33 hkw33 huw33 hsw33 => ?_)
          have hB35 := Upd.below hB12 oO huw33
          refine WL.z rfl rfl ?_
          refine W.ret (W.retc2 rfl rfl (ldRow hkw33 underlying27 rfl isz27) rfl ?_)
          first
          | (have hE : partE S o f n = 21 := if_neg (by simp_all)
             exact ⟨rvE (by unfold partO; rw [if_neg (by rw [hE]; decide), hE]; rfl), hB35⟩)
          | (have hE : partE S o f n = 11 := by unfold partE; rw [if_pos hv, if_pos oO]
             exact ⟨rvE (by unfold partO; rw [if_neg (by rw [hE]; decide), hE]; rfl), hB35⟩)
          | (have hE : partE S o f n = 0 := by unfold partE; rw [if_pos hv, if_neg oO]
             exact ⟨rvE (by unfold partO; rw [if_pos hE, hE]; rfl), hB35⟩)
        have g18' := dT g18
        refine WL.gn rfl rfl rfl g18 <| WL.gn rfl rfl rfl g18 <| WL.gn rfl rfl rfl g18 <| WL.p (.pkT rfl g18 rfl) rfl <| WL.m rfl rfl <| WL.gn rfl rfl rfl rfl <| WL.gn rfl rfl rfl rfl <| WL.gn rfl rfl rfl rfl <| WL.gn rfl rfl rfl rfl <| WL.gn rfl rfl rfl rfl <| WL.gn rfl rfl rfl rfl <| WL.p (.pkT rfl rfl rfl) rfl <| WL.z rfl rfl ?_
        refine W.condT rfl rfl ?_
        refine W.sr <| WL.p (.buildL (ps := _) blt27 rfl rfl rfl pZ) rfl ?_
        refine WL.stL rfl rfl hk11 isz27 rfl rfl (fun w36 hkw36 huw36 hsw36 => ?_)
        have hB38 := Upd.below hB12 oO huw36
        refine WL.z rfl rfl ?_
        refine W.ret (W.retc2 rfl rfl (ldRow hkw36 underlying27 rfl isz27) rfl ?_)
        first
        | (have hE : partE S o f n = 21 := if_neg (by simp_all)
           exact ⟨rvE (by unfold partO; rw [if_neg (by rw [hE]; decide), hE]; rfl), hB38⟩)
        | (have hE : partE S o f n = 11 := by unfold partE; rw [if_pos hv, if_pos oO]
           exact ⟨rvE (by unfold partO; rw [if_neg (by rw [hE]; decide), hE]; rfl), hB38⟩)
        | (have hE : partE S o f n = 0 := by unfold partE; rw [if_pos hv, if_neg oO]
           exact ⟨rvE (by unfold partO; rw [if_pos hE, hE]; rfl), hB38⟩)
      have g17' := dT g17
      refine WL.gn rfl rfl rfl g17 <| WL.p (.pkT rfl g17 rfl) rfl <| WL.m rfl rfl <| WL.gn rfl rfl rfl rfl <| WL.gn rfl rfl rfl rfl <| WL.gn rfl rfl rfl rfl <| WL.gn rfl rfl rfl rfl <| WL.p (.pkT rfl rfl rfl) rfl <| WL.m rfl rfl <| WL.gn rfl rfl rfl rfl <| WL.gn rfl rfl rfl rfl <| WL.gn rfl rfl rfl rfl <| WL.gn rfl rfl rfl rfl <| WL.gn rfl rfl rfl rfl <| WL.gn rfl rfl rfl rfl <| WL.p (.pkT rfl rfl rfl) rfl <| WL.z rfl rfl ?_
      refine W.condT rfl rfl ?_
      refine W.sr <| WL.p (.buildL (ps := _) blt27 rfl rfl rfl pZ) rfl ?_
      refine WL.stL rfl rfl hk11 isz27 rfl rfl (fun w39 hkw39 huw39 hsw39 => ?_)
      have hB41 := Upd.below hB12 oO huw39
      refine WL.z rfl rfl ?_
      refine W.ret (W.retc2 rfl rfl (ldRow hkw39 underlying27 rfl isz27) rfl ?_)
      first
      | (have hE : partE S o f n = 21 := if_neg (by simp_all)
         exact ⟨rvE (by unfold partO; rw [if_neg (by rw [hE]; decide), hE]; rfl), hB41⟩)
      | (have hE : partE S o f n = 11 := by unfold partE; rw [if_pos hv, if_pos oO]
         exact ⟨rvE (by unfold partO; rw [if_neg (by rw [hE]; decide), hE]; rfl), hB41⟩)
      | (have hE : partE S o f n = 0 := by unfold partE; rw [if_pos hv, if_neg oO]
         exact ⟨rvE (by unfold partO; rw [if_pos hE, hE]; rfl), hB41⟩)
    have g8' := ndT g8
    refine WL.gn rfl rfl rfl g8 <| WL.gn rfl rfl rfl g8 <| WL.gn rfl rfl rfl g8 <| WL.p (.pkT rfl g8 rfl) rfl <| WL.z rfl rfl ?_
    refine W.condT rfl rfl ?_
    refine W.sr <| WL.p (.buildL (ps := _) blt27 rfl rfl rfl pZ) rfl ?_
    refine WL.stL rfl rfl hkb3 isz27 rfl rfl (fun w42 hkw42 huw42 hsw42 => ?_)
    have hB44 := Upd.below hB6 oO huw42
    refine WL.z rfl rfl ?_
    refine W.ret (W.retc2 rfl rfl (ldRow hkw42 underlying27 rfl isz27) rfl ?_)
    first
    | (have hE : partE S o f n = 21 := if_neg (by simp_all)
       exact ⟨rvE (by unfold partO; rw [if_neg (by rw [hE]; decide), hE]; rfl), hB44⟩)
    | (have hE : partE S o f n = 11 := by unfold partE; rw [if_pos hv, if_pos oO]
       exact ⟨rvE (by unfold partO; rw [if_neg (by rw [hE]; decide), hE]; rfl), hB44⟩)
    | (have hE : partE S o f n = 0 := by unfold partE; rw [if_pos hv, if_neg oO]
       exact ⟨rvE (by unfold partO; rw [if_pos hE, hE]; rfl), hB44⟩)
  have g7' := ndF g7
  refine WL.gn rfl rfl rfl g7 <| WL.gn rfl rfl rfl g7 <| WL.p (.pkF rfl g7 rfl) rfl <| WL.m rfl rfl <| WL.gy rfl rfl rfl rfl <| WL.m rfl rfl <| WL.gy rfl rfl rfl rfl <| WL.r (Rd.ldA rfl hk4 underlying27 rfl isz27) rfl <| WL.gy rfl rfl rfl rfl <| WL.c1 hb19 rfl rfl ((sto_Valid b F S o _ (h.below hB6) hok)) (fun w45 hw45 => ?_)
  have hk46 := hk4.below hw45 hk4.lt
  have hk47 := hkb3.below hw45 hkb3.lt
  have hB48 := btr hB6 hw45
  refine WL.gy rfl rfl rfl rfl <| WL.p (.not rfl) rfl <| WL.p (.pkF rfl rfl rfl) rfl <| WL.z rfl rfl ?_
  refine W.cond rfl (fun h49 => ?_) (fun h49 => ?_)
  · have h49' := (nT h49)
    refine W.sr <| WL.p (.buildL (ps := _) blt27 rfl rfl rfl pZ) rfl ?_
    refine WL.stL rfl rfl hk47 isz27 rfl rfl (fun w50 hkw50 huw50 hsw50 => ?_)
    have hB52 := Upd.below hB48 oO huw50
    refine WL.z rfl rfl ?_
    refine W.ret (W.retc2 rfl rfl (ldRow hkw50 underlying27 rfl isz27) rfl ?_)
    first
    | (have hE : partE S o f n = 21 := if_neg (by simp_all)
       exact ⟨rvE (by unfold partO; rw [if_neg (by rw [hE]; decide), hE]; rfl), hB52⟩)
    | (have hE : partE S o f n = 11 := by unfold partE; rw [if_pos hv, if_pos oO]
       exact ⟨rvE (by unfold partO; rw [if_neg (by rw [hE]; decide), hE]; rfl), hB52⟩)
    | (have hE : partE S o f n = 0 := by unfold partE; rw [if_pos hv, if_neg oO]
       exact ⟨rvE (by unfold partO; rw [if_pos hE, hE]; rfl), hB52⟩)
  have h49' := (nF h49)
  have hv : ((decide (o.kind = 6) || decide (o.kind = 7)) && validB S o) = true := by simp_all
  have hva := valid_le (S := S) (o := o) hok (by simp_all) (by simp_all)
  refine W.sr <| WL.m rfl rfl <| WL.p (.lss rfl rfl) rfl <| WL.m rfl rfl <| WL.gd rfl rfl rfl (fun g53 => ?_) (fun g53 => ?_)
  · have g53' := dF g53
    refine WL.m rfl rfl <| WL.gy rfl rfl rfl g53 <| WL.p (.lss rfl rfl) rfl <| WL.p (.pkF rfl g53 rfl) rfl <| WL.m rfl rfl <| WL.gd rfl rfl rfl (fun g54 => ?_) (fun g54 => ?_)
    · have g54' := dF g54
      refine WL.m rfl rfl <| WL.gy rfl rfl rfl g54 <| WL.p (.fa underlying27 rfl sizeOf3 dD rfl) rfl <| WL.gy rfl rfl rfl g54 <| WL.r (Rd.ld (isAgg3 _) rfl hk46 rfl) rfl <| WL.gy rfl rfl rfl g54 <| WL.p (.gtr rfl rfl) rfl <| WL.p (.pkF rfl g54 rfl) rfl <| WL.m rfl rfl <| WL.gd rfl rfl rfl (fun g55 => ?_) (fun g55 => ?_)
      · have g55' := dF g55
        refine WL.m rfl rfl <| WL.gy rfl rfl rfl g55 <| WL.p (.fa underlying27 rfl sizeOf3 dD rfl) rfl <| WL.gy rfl rfl rfl g55 <| WL.r (Rd.ld (isAgg3 _) rfl hk46 rfl) rfl <| WL.gy rfl rfl rfl g55 <| WL.m rfl rfl <| WL.gy rfl rfl rfl g55 <| WL.p (.sub rfl rfl (i64w oO)) rfl <| WL.gy rfl rfl rfl g55 <| WL.p (.gtr rfl rfl) rfl <| WL.p (.pkF rfl g55 rfl) rfl <| WL.z rfl rfl ?_
        refine W.cond rfl (fun h56 => ?_) (fun h56 => ?_)
        · have h56' := dT h56
          refine W.sr <| WL.p (.buildL (ps := _) blt27 rfl rfl rfl pZ) rfl ?_
          refine WL.stL rfl rfl hk47 isz27 rfl rfl (fun w57 hkw57 huw57 hsw57 => ?_)
          have hB59 := Upd.below hB48 oO huw57
          refine WL.z rfl rfl ?_
          refine W.ret (W.retc2 rfl rfl (ldRow hkw57 underlying27 rfl isz27) rfl ?_)
          first
          | (have hE : partE S o f n = 21 := if_neg (by simp_all)
             exact ⟨rvE (by unfold partO; rw [if_neg (by rw [hE]; decide), hE]; rfl), hB59⟩)
          | (have hE : partE S o f n = 11 := by unfold partE; rw [if_pos hv, if_pos oO]
             exact ⟨rvE (by unfold partO; rw [if_neg (by rw [hE]; decide), hE]; rfl), hB59⟩)
          | (have hE : partE S o f n = 0 := by unfold partE; rw [if_pos hv, if_neg oO]
             exact ⟨rvE (by unfold partO; rw [if_pos hE, hE]; rfl), hB59⟩)
        have h56' := dF h56
        refine W.skip <| W.sr <| WL.p (.fa underlying27 rfl sizeOf3 dD rfl) rfl <| WL.r (Rd.ld (isAgg3 _) rfl hk46 rfl) rfl <| WL.m rfl rfl <| WL.p (.add rfl rfl (i64w oO)) rfl <| WL.p (.fa underlying27 rfl sizeOf3 dD rfl) rfl <| WL.st sizeOf3 rfl rfl rfl hk46 oD (fun w60 hkw60 huw60 hsw60 => ?_)
        have hkw60 : Blk w60 b1 _ _ := hkw60
        have huw60 : Upd b1 _ _ := huw60
        have hk61 := hk47.up huw60
        have hB62 := Upd.below hB48 oO huw60
        refine WL.nil <| ?_
        refine W.sr <| WL.m rfl rfl <| WL.p (.fa underlying27 rfl sizeOf3 dD rfl) rfl <| WL.st sizeOf3 rfl rfl rfl hkw60 oD (fun w63 hkw63 huw63 hsw63 => ?_)
        have hkw63 : Blk w63 b1 _ _ := hkw63
        have huw63 : Upd b1 _ _ := huw63
        have hk64 := hk61.up huw63
        have hB65 := Upd.below hB62 oO huw63
        refine WL.nil <| ?_
        refine W.sr <| WL.r (Rd.ldA rfl hkw63 underlying27 rfl isz27) rfl <| WL.stL rfl rfl hk64 isz27 rfl rfl (fun w66 hkw66 huw66 hsw66 => ?_)
        have hB68 := Upd.below hB65 oO huw66
        refine WL.z rfl rfl ?_
        refine W.ret (W.retc2 rfl rfl (ldRow hkw66 underlying27 rfl isz27) rfl ?_)
        first
        | (have hE : partE S o f n = 21 := if_neg (by simp_all)
           exact ⟨rvE (by unfold partO; rw [if_neg (by rw [hE]; decide), hE]; rfl), hB68⟩)
        | (have hE : partE S o f n = 11 := by unfold partE; rw [if_pos hv, if_pos oO]
           exact ⟨rvE (by unfold partO; rw [if_neg (by rw [hE]; decide), hE]; rfl), hB68⟩)
        | (have hE : partE S o f n = 0 := by unfold partE; rw [if_pos hv, if_neg oO]
           exact ⟨rvE (by unfold partO; rw [if_pos hE, hE]; rfl), hB68⟩)
      have g55' := dT g55
      refine WL.gn rfl rfl rfl g55 <| WL.gn rfl rfl rfl g55 <| WL.gn rfl rfl rfl g55 <| WL.gn rfl rfl rfl g55 <| WL.gn rfl rfl rfl g55 <| WL.p (.pkT rfl g55 rfl) rfl <| WL.z rfl rfl ?_
      refine W.condT rfl rfl ?_
      refine W.sr <| WL.p (.buildL (ps := _) blt27 rfl rfl rfl pZ) rfl ?_
      refine WL.stL rfl rfl hk47 isz27 rfl rfl (fun w69 hkw69 huw69 hsw69 => ?_)
      have hB71 := Upd.below hB48 oO huw69
      refine WL.z rfl rfl ?_
      refine W.ret (W.retc2 rfl rfl (ldRow hkw69 underlying27 rfl isz27) rfl ?_)
      first
      | (have hE : partE S o f n = 21 := if_neg (by simp_all)
         exact ⟨rvE (by unfold partO; rw [if_neg (by rw [hE]; decide), hE]; rfl), hB71⟩)
      | (have hE : partE S o f n = 11 := by unfold partE; rw [if_pos hv, if_pos oO]
         exact ⟨rvE (by unfold partO; rw [if_neg (by rw [hE]; decide), hE]; rfl), hB71⟩)
      | (have hE : partE S o f n = 0 := by unfold partE; rw [if_pos hv, if_neg oO]
         exact ⟨rvE (by unfold partO; rw [if_pos hE, hE]; rfl), hB71⟩)
    have g54' := dT g54
    refine WL.gn rfl rfl rfl g54 <| WL.gn rfl rfl rfl g54 <| WL.gn rfl rfl rfl g54 <| WL.p (.pkT rfl g54 rfl) rfl <| WL.m rfl rfl <| WL.gn rfl rfl rfl rfl <| WL.gn rfl rfl rfl rfl <| WL.gn rfl rfl rfl rfl <| WL.gn rfl rfl rfl rfl <| WL.gn rfl rfl rfl rfl <| WL.gn rfl rfl rfl rfl <| WL.p (.pkT rfl rfl rfl) rfl <| WL.z rfl rfl ?_
    refine W.condT rfl rfl ?_
    refine W.sr <| WL.p (.buildL (ps := _) blt27 rfl rfl rfl pZ) rfl ?_
    refine WL.stL rfl rfl hk47 isz27 rfl rfl (fun w72 hkw72 huw72 hsw72 => ?_)
    have hB74 := Upd.below hB48 oO huw72
    refine WL.z rfl rfl ?_
    refine W.ret (W.retc2 rfl rfl (ldRow hkw72 underlying27 rfl isz27) rfl ?_)
    first
    | (have hE : partE S o f n = 21 := if_neg (by simp_all)
       exact ⟨rvE (by unfold partO; rw [if_neg (by rw [hE]; decide), hE]; rfl), hB74⟩)
    | (have hE : partE S o f n = 11 := by unfold partE; rw [if_pos hv, if_pos oO]
       exact ⟨rvE (by unfold partO; rw [if_neg (by rw [hE]; decide), hE]; rfl), hB74⟩)
    | (have hE : partE S o f n = 0 := by unfold partE; rw [if_pos hv, if_neg oO]
       exact ⟨rvE (by unfold partO; rw [if_pos hE, hE]; rfl), hB74⟩)
  have g53' := dT g53
  refine WL.gn rfl rfl rfl g53 <| WL.p (.pkT rfl g53 rfl) rfl <| WL.m rfl rfl <| WL.gn rfl rfl rfl rfl <| WL.gn rfl rfl rfl rfl <| WL.gn rfl rfl rfl rfl <| WL.gn rfl rfl rfl rfl <| WL.p (.pkT rfl rfl rfl) rfl <| WL.m rfl rfl <| WL.gn rfl rfl rfl rfl <| WL.gn rfl rfl rfl rfl <| WL.gn rfl rfl rfl rfl <| WL.gn rfl rfl rfl rfl <| WL.gn rfl rfl rfl rfl <| WL.gn rfl rfl rfl rfl <| WL.p (.pkT rfl rfl rfl) rfl <| WL.z rfl rfl ?_
  refine W.condT rfl rfl ?_
  refine W.sr <| WL.p (.buildL (ps := _) blt27 rfl rfl rfl pZ) rfl ?_
  refine WL.stL rfl rfl hk47 isz27 rfl rfl (fun w75 hkw75 huw75 hsw75 => ?_)
  have hB77 := Upd.below hB48 oO huw75
  refine WL.z rfl rfl ?_
  refine W.ret (W.retc2 rfl rfl (ldRow hkw75 underlying27 rfl isz27) rfl ?_)
  first
  | (have hE : partE S o f n = 21 := if_neg (by simp_all)
     exact ⟨rvE (by unfold partO; rw [if_neg (by rw [hE]; decide), hE]; rfl), hB77⟩)
  | (have hE : partE S o f n = 11 := by unfold partE; rw [if_pos hv, if_pos oO]
     exact ⟨rvE (by unfold partO; rw [if_neg (by rw [hE]; decide), hE]; rfl), hB77⟩)
  | (have hE : partE S o f n = 0 := by unfold partE; rw [if_pos hv, if_neg oO]
     exact ⟨rvE (by unfold partO; rw [if_pos hE, hE]; rfl), hB77⟩)
end
section
section
variable {w w1 w3 : World} {lab : Lab} {b : Nat} {H : StH} {S : StoV}
/-- a change more -/
theorem St.addChangeK (h : St lab w b H S) (hlt : ∀ g, lab g ≠ .no → g < w.heap.size) {v' : Value} {c : ChV} (hA : AddK lab w w3 5 (lab2 lab w.heap.size none v'.ownBlock .no (.row 5))) (hold : ∀ g, g < w.heap.size → lab2 lab w.heap.size none v'.ownBlock .no (.row 5) g = lab g)
  (hb : Blk w3 b #[.int .i64 S.free, H.vt, H.vl, H.vd, v', H.vm] 65) (hv : OwnM chL 114 0 w3 v' (S.changes ++ [c])) :
  St (lab2 lab w.heap.size none v'.ownBlock .no (.row 5)) w3 b { H with vc := v' } { S with changes := S.changes ++ [c] } := by
 refine ⟨(hold b (hlt b (by rw [h.lb]; nofun))).trans h.lb, hb, ?_, ?_, ?_, ?_, ?_, ?_, ?_⟩
 ·
  refine h.tx.move fun g hg hl => hA g hl ?_ ?_ <;> rcases hg with e | ⟨i, e⟩ <;> rw [e] <;> nofun
 ·
  refine h.li.move fun g hg hl => hA g hl ?_ ?_ <;> rcases hg with e | ⟨i, e⟩ <;> rw [e] <;> nofun
 ·
  refine h.di.move fun g hg hl => hA g hl ?_ ?_ <;> rcases hg with e | ⟨i, e⟩ | ⟨i, e⟩ <;> rw [e] <;> nofun
 ·
  exact hv
 ·
  exact fun g hg => by unfold lab2; rw [if_neg (by nofun), if_pos hg]
 ·
  exact h.ox.same fun g hg => (hA g (h.ox.lt g hg).2 (by rw [h.lm g hg]; nofun) (by rw [h.lm g hg]; nofun)).1
 ·
  exact fun g hg => (hold g (h.ox.lt g hg).2).trans (h.lm g hg)
/-- a dictionary's block is written: its access -/
theorem St.setAccess (h : St lab w b H S) {i : Nat} {g : Nat} {x : SlV} {d : DicV} {a : Int} (hg : H.ds[i]? = some g) (hx : H.dp[i]? = some x) (hd : S.dicts[i]? = some d) (hu : Upd g w w1)
  (hb : Blk w1 g #[.int .i64 d.most, .int .i64 a, x.v] 109) : St lab w1 b H { S with dicts := S.dicts.set i { d with access := a } } := by
 obtain ⟨h1, h2, h3, h4⟩ := h.di.el i g x d hg hx hd
 have hs : ∀ k, lab k ≠ .el 3 i → w1.heap[k]? = w.heap[k]? := fun k hk => hu.other k fun e => hk (by rw [e]; exact h2)
 have hlt : i < S.dicts.length := (List.getElem?_eq_some_iff.1 hd).1
 refine ⟨h.lb, (hs b (by rw [h.lb]; nofun)).trans h.blk, h.tx.same fun g hg => hs g ?_, h.li.same fun g hg => hs g ?_, ⟨h.di.own.same fun k hk => hs k (by rw [h.di.la k hk]; nofun), h.di.la, by simp [h.di.len], by simp [h.di.len2], fun j k y e hk hy he => ?_⟩,
  h.oc.same fun g hg => hs g (by rw [h.lc g hg]; nofun), h.lc, h.ox.same fun g hg => hs g (by rw [h.lm g hg]; nofun), h.lm⟩
 ·
  rcases hg with e | ⟨i, e⟩ <;> rw [e] <;> nofun
 ·
  rcases hg with e | ⟨i, e⟩ <;> rw [e] <;> nofun
 ·
  by_cases hij : i = j
  ·
   subst hij
   rw [List.getElem?_set_self hlt] at he
   rw [hg] at hk; rw [hx] at hy
   cases hk; cases hy; cases he
   exact ⟨hb, h2, h3.same fun k hk => hs k (by rw [h4 k hk]; nofun), h4⟩
  ·
   rw [List.getElem?_set_ne hij] at he
   obtain ⟨h5, h6, h7, h8⟩ := h.di.el j k y e hk hy he
   exact ⟨(hs k (by rw [h6]; intro e; cases e; exact hij rfl)).trans h5, h6, h7.same fun k hk => hs k (by rw [h8 k hk]; nofun), h8⟩
end
theorem inf114 : (Tryz.prog.info? 114).map (fun i => (i.zero, i.size, i.bytes)) = some (some (.agg #[.int .i64 0, .int .i64 0, .int .i64 0, .int .i64 0, .bool false, .int .i64 0, .int .i64 0, .string ⟨#[]⟩, .int .i64 0, .int .i64 0, .int .i64 0, .int .i64 0, .bool false, .int .i64 0, .int .i64 0, .string ⟨#[]⟩, .int .i64 0, .int .i64 0, .int .i64 0]), 19, 168) := by kernel_rfl
def dic0 : DicV := ⟨0, 0, []⟩
def isDict (S : StoV) (o : ObjV) : Bool := decide (o.kind = 8) && validB S o
def accD (S : StoV) (o : ObjV) : Int := if isDict S o = true then (S.dicts.getD o.ref.toNat dic0).access else 0
theorem isDict_at {S : StoV} {o : ObjV} (h : isDict S o = true) : ∃ i : Nat, o.ref = i ∧ i < S.dicts.length := by
 unfold isDict validB at h
 simp only [Bool.and_eq_true, decide_eq_true_eq] at h
 rw [if_neg oO, if_neg oO, if_pos h.1] at h
 simp only [Bool.and_eq_true, decide_eq_true_eq] at h
 exact ⟨o.ref.toNat, by omega, by omega⟩
theorem sto_Access (b : Nat) (F : Nat → Prop) (S : StoV) (o : ObjV) (w : World) (h : Sto w b F S) (hok : SOk S) :
  Calls Tryz.prog 35 #[.pointer (some ⟨b, 0, none⟩), .agg (objV o).toArray] w fun e w' => e = .returned (.int .i64 (accD S o)) ∧ Below w.heap.size w w' := by
 refine W.enter func35 rfl ntmps35 (Nat.le_of_ble_eq_true rfl) ?_
 have hB0 := Below.refl (w.heap.size) w
 refine W.sr <| WL.box rfl rfl (fun b1 wb1 eb1 hkb1 hub1 hsb1 => ?_)
 have hB2 := Upd.below hB0 (by rw [eb1]; exact hB0.size) hub1
 have hgeb1 : w.heap.size ≤ b1 := by rw [eb1]; exact hB0.size
 refine WL.z rfl rfl ?_
 refine W.seq <| W.sr <| WL.m rfl rfl <| WL.r (Rd.ldA rfl hkb1 underlying27 rfl isz27) rfl <| WL.c1 hb25 rfl rfl ((sto_is b F S o 8 _ (h.below hB2) hok)) (fun w3 hw3 => ?_)
 have hk4 := hkb1.below hw3 hkb1.lt
 have hB5 := btr hB2 hw3
 refine WL.p (.not rfl) rfl <| WL.nil <| ?_
 refine W.cond rfl (fun h6 => ?_) (fun h6 => ?_)
 have h6' := (nT h6)
 refine W.sr <| WL.z rfl rfl ?_
 refine W.ret (W.ret1 rfl rfl ?_)
 exact ⟨riE (by unfold accD isDict; rw [if_neg (by simp_all)]), hB5⟩
 have h6' := (nF h6)
 have hv : isDict S o = true := by unfold isDict; simp_all
 obtain ⟨i, e1, hi⟩ := isDict_at hv
 obtain ⟨lab, H, hF, hlt, hS⟩ := h.below hB5
 obtain ⟨pt, ct, pl, cl, pd, cd, pc, cc, pm, cm, hr, -, -, -, -, -, -, -, hrd⟩ := hS.opn
 have hrd1 := hrd.atP
 have hi1 : i < H.ds.length := by rw [hS.di.len]; exact hi
 have hi2 : i < H.dp.length := by rw [hS.di.len2]; exact hi
 obtain ⟨hkd, -, -, -⟩ := hS.di.el i _ _ _ (get_of hi1) (get_of hi2) (get_of hi)
 refine W.skip <| W.seq <| W.regQ mixed kR ?_
 refine WQ.p (.mv rfl) rfl <| WQ.p (.nck rfl) rfl <| WQ.p (.fa underlying65 rfl sizeOf61 dD rfl) rfl <| WQ.r (fun m => Rd.ld (isAgg61 _) rfl hr rfl) rfl <| WQ.p (.fa underlying27 rfl sizeOf3 dD rfl) rfl <| WQ.r (fun m => Rd.ld (isAgg3 _) rfl hk4 rfl) rfl <| WQ.p (.ixb underlying61 sizeOf106 rfl rfl (hrd1.isp oO) (i) oO (hi1)) rfl <| WQ.r (fun m => Rd.ldc (isAgg106 _) rfl ((hrd1.drewN m).cells (i) (hi1))) rfl <| WQ.p (.nck rfl) rfl <| WQ.p (.fa underlying109 rfl sizeOf3 dD rfl) rfl <| WQ.r (fun m => Rd.ld (isAgg3 _) rfl hkd rfl) rfl <| WQ.p (.as rfl) rfl <| WQ.nil (fun w7 dw7 => ?_)
 have hB12 := Drew.below hB5 dw7
 refine W.ret (W.ret1 rfl rfl ?_)
 exact ⟨riE (by unfold accD; rw [if_pos hv, e1, Int.toNat_natCast, List.getD_eq_getElem?_getD, get_of hi]; rfl), hB12⟩
def noteS (S : StoV) (c : ChV) : StoV := if 0 < S.marks.length then { S with changes := S.changes ++ [c] } else S
end
section
theorem Pure.mkF {P : Program} {f : Fr} {F : FuncId} {xs : List Operand} {vs : List Value} (hx : evs f xs = some vs) : Pure P (.makeFunc (.func F) #[] xs.toArray) f (.func (.func F) #[] vs.toArray) := fun ρ hρ d ty pos aft g w => by
 have e := evs_map hρ _ _ hx
 have hargs : xs.toArray.map ρ = vs.toArray := by simp [e]
 unfold execOp
 simp only [hargs, List.map_toArray, List.map_nil]
 rfl
theorem any_at {α : Type} {q : α → Bool} {l : List α} {i : Nat} (hi : i < l.length) (hq : q l[i] = true) : l.any q = true := List.any_eq_true.2 ⟨_, List.getElem_mem hi, hq⟩
theorem any_no {α : Type} {q : α → Bool} {l : List α} (hn : ∀ j (h : j < l.length), q l[j] = false) : l.any q = false := by
 cases h : l.any q with
 | false => rfl
 | true =>
  obtain ⟨x, hx, hq⟩ := List.any_eq_true.1 h
  obtain ⟨j, hj, rfl⟩ := List.mem_iff_getElem.1 hx
  rw [hn j hj] at hq; cases hq
theorem lib_IndexObj {F : FuncId} (hF : HasBody Tryz.prog F) (cap : Array Value) (p : Option Addr) (l : List ObjV) (c : Nat) (q : ObjV → Bool) (w : World) (hr : RowM objL w p l) (hl : l.length ≤ 4611686018427387904)
  (hq : ∀ j (h : j < l.length) w1, Below w.heap.size w w1 → Calls Tryz.prog F (#[] ++ [Value.agg (objV l[j]).toArray].toArray ++ cap) w1 fun e w' => e = .returned (.bool (q l[j])) ∧ Below w1.heap.size w1 w') :
  Calls Tryz.prog 36 #[.slice p l.length c, .func (.func F) #[] cap] w fun e w' => ∃ r, e = .returned (.int .i64 r) ∧ (decide (r ≥ 0) = l.any q) ∧ Below w.heap.size w w' := by
 have hrlt : 0 < l.length → (pA p).block < w.heap.size := fun h0 => hr.lt h0
 refine W.enter func36 rfl ntmps36 (Nat.le_of_ble_eq_true rfl) ?_
 have hB0 := Below.refl (w.heap.size) w
 refine W.sr <| WL.z rfl rfl ?_
 refine W.seq <| W.sr <| WL.m rfl rfl <| WL.p (.lenS underlying30 rfl) rfl <| WL.m rfl rfl <| WL.nil <| ?_
 refine W.block ?_
 refine W.loop (α := Nat) (fun t => [(0, .slice p l.length c), (1, .func (.func F) #[] cap), (7, .int .i64 (l.length : Int)), (8, .int .i64 (t : Int))]) (fun t w' => Below w.heap.size w w' ∧ RowM objL w' p l ∧ t ≤ l.length ∧ ∀ j (h : j < l.length), j < t → q l[j] = false) (fun t => l.length - t) (0) ⟨rfl, rfl, rfl, rfl, trivial⟩ (⟨hB0, hr, Nat.zero_le _, fun j _ h => absurd h oO⟩) (fun t w1 hR => ?_)
 obtain ⟨i, rfl⟩ : ∃ i, i = t := ⟨t, rfl⟩
 obtain ⟨hT, hb1, hi, hno⟩ := hR
 refine W.sr <| WL.p (.lss rfl rfl) rfl <| WL.nil <| ?_
 refine W.seq <| W.cond rfl (fun h1 => ?_) (fun h1 => ?_)
 have h1' := dT h1
 refine W.skip <| W.seq <| W.block <| W.sr <| WL.m rfl rfl <| WL.z rfl rfl ?_
 refine W.sr <| WL.m rfl rfl <| WL.m rfl rfl <| WL.m rfl rfl <| WL.p (.ixm underlying30 sizeOf27 rfl rfl (hb1.isp (by first | omega | (simp only [List.length_cons, List.length_nil]; omega))) (i) (rfl) oO) rfl <| WL.r (Rd.ldS underlying27 rfl isz27 hb1 (i) (by first | omega | (simp only [List.length_cons, List.length_nil]; omega)) rfl) rfl <| WL.cv1 hF rfl rfl rfl rfl (hq i oO _ hT) (fun w2 hw2 => ?_)
 have hv3 := RowM.below hb1 hw2 (fun h0 => hb1.lt h0)
 have hB4 := btr hT hw2
 refine WL.nil <| ?_
 refine W.cond rfl (fun h5 => ?_) (fun h5 => ?_)
 refine W.sr <| WL.m rfl rfl <| WL.z rfl rfl ?_
 refine W.ret (W.ret1 rfl rfl ?_)
 exact ⟨_, rfl, (decide_eq_true oO).trans (any_at (i := i) oO aS).symm, hB4⟩
 refine W.skip <| W.reg <| WL.p (.iis (((i + 1 : Nat) : Int)) (.add rfl rfl (i64w oO)) oO) rfl <| WL.m rfl rfl <| WL.nil <| ?_
 exact ⟨i + 1, ⟨rfl, rfl, rfl, rfl, trivial⟩, ⟨hB4, hv3, by ((try simp only) <;> omega), fun j h hj => by
  rcases Nat.lt_succ_iff_lt_or_eq.1 hj with h2 | rfl
  exact hno j h h2
  assumption⟩, by ((try simp only) <;> omega)⟩
 have h1' := dF h1
 refine W.exit <| W.sr <| WL.z rfl rfl ?_
 refine W.ret (W.ret1 rfl rfl ?_)
 exact ⟨_, rfl, (decide_eq_false oO).trans (any_no (fun j h => hno j h oO)).symm, hT⟩
theorem lib_ContainsObj {F : FuncId} (hF : HasBody Tryz.prog F) (cap : Array Value) (p : Option Addr) (l : List ObjV) (c : Nat) (q : ObjV → Bool) (w : World) (hr : RowM objL w p l) (hl : l.length ≤ 4611686018427387904)
  (hq : ∀ j (h : j < l.length) w1, Below w.heap.size w w1 → Calls Tryz.prog F (#[] ++ [Value.agg (objV l[j]).toArray].toArray ++ cap) w1 fun e w' => e = .returned (.bool (q l[j])) ∧ Below w1.heap.size w1 w') :
  Calls Tryz.prog 17 #[.slice p l.length c, .func (.func F) #[] cap] w fun e w' => e = .returned (.bool (l.any q)) ∧ Below w.heap.size w w' := by
 refine W.enter func17 rfl ntmps17 (Nat.le_of_ble_eq_true rfl) ?_
 have hB0 := Below.refl (w.heap.size) w
 refine W.sr <| WL.z rfl rfl ?_
 refine W.sr <| WL.m rfl rfl <| WL.m rfl rfl <| WL.call hb36 rfl rfl ((lib_IndexObj hF cap p l c q _ hr hl hq)) (fun r w1 hw1 => ?_)
 have hB2 := btr hB0 hw1.2
 have hrq := hw1.1
 refine WL.p (.geq rfl rfl) rfl <| WL.z rfl rfl ?_
 refine W.ret (W.ret1 rfl rfl ?_)
 exact ⟨rbE hrq, hB2⟩
theorem conv_Do1 (b bs : Nat) (F : Nat → Prop) (S : StoV) (o : ObjV) (w : World) (h : Sto w b F S) (hok : SOk S) (hbs : Blk w bs #[.pointer (some ⟨b, 0, none⟩)] 22) :
  Calls Tryz.prog 18 #[.agg (objV o).toArray, .pointer (some ⟨bs, 0, none⟩)] w fun e w' => e = .returned (.bool (!validB S o)) ∧ Below w.heap.size w w' := by
 refine W.enter func18 rfl ntmps18 (Nat.le_of_ble_eq_true rfl) ?_
 have hB0 := Below.refl (w.heap.size) w
 refine W.sr <| WL.box rfl rfl (fun b1 wb1 eb1 hkb1 hub1 hsb1 => ?_)
 have hl3 : bs < b1 := by rw [eb1]; exact hbs.lt
 have hk2 := hbs.upd hub1 (Nat.ne_of_lt hl3)
 have hB4 := Upd.below hB0 (by rw [eb1]; exact hB0.size) hub1
 have hgeb1 : w.heap.size ≤ b1 := by rw [eb1]; exact hB0.size
 refine WL.z rfl rfl ?_
 refine W.sr <| WL.r (Rd.ld (isAgg22 _) rfl hk2 rfl) rfl <| WL.r (Rd.ldA rfl hkb1 underlying27 rfl isz27) rfl <| WL.c1 hb19 rfl rfl ((sto_Valid b F S o _ (h.below hB4) hok)) (fun w5 hw5 => ?_)
 have hB8 := btr hB4 hw5
 refine WL.p (.not rfl) rfl <| WL.z rfl rfl ?_
 refine W.ret (W.ret1 rfl rfl ?_)
 exact ⟨rfl, hB8⟩
def known (s : List UInt8) : Int :=
 if s = [116, 121, 112, 101] ∨ s = [99, 118, 120] ∨ s = [99, 118, 108, 105, 116] ∨ s = [120, 99, 104, 101, 99, 107] ∨ s = [99, 118, 105] ∨ s = [99, 118, 114] ∨ s = [99, 118, 110] ∨ s = [114, 101, 97, 100, 111, 110, 108, 121] ∨
  s = [101, 120, 101, 99, 117, 116, 101, 111, 110, 108, 121] ∨ s = [110, 111, 97, 99, 99, 101, 115, 115] ∨ s = [114, 99, 104, 101, 99, 107] ∨ s = [119, 99, 104, 101, 99, 107] then 1
 else if s = [99, 118, 115] then 2 else if s = [99, 118, 114, 115] then 3 else 0
theorem conv_Known (s : List UInt8) (w : World) : Calls Tryz.prog 16 #[.string (bs s)] w fun e w' => e = .returned (.tuple #[.int .i64 (known s), .bool (decide (0 < known s))]) ∧ w = w' := by
 refine W.enter func16 rfl ntmps16 (Nat.le_of_ble_eq_true rfl) ?_
 refine W.sr <| WL.a rfl rfl <| WL.z rfl rfl ?_
 refine W.seq <| W.sr <| WL.m rfl rfl <| WL.nil <| ?_
 refine W.block <| W.seq <| W.sr <| WL.p (.eqs rfl rfl) rfl <| WL.z rfl rfl ?_
 refine W.cond rfl (fun h1 => ?_) (fun h1 => ?_)
 have h1' := dT h1
 refine W.skip <| W.condT rfl h1 ?_
 refine W.sr <| WL.a rfl rfl <| WL.z rfl rfl ?_
 refine W.ret (W.ret2 rfl rfl rfl ?_)
 exact ⟨rvE (by unfold known; simp_all), rfl⟩
 have h1' := dF h1
 refine W.sr <| WL.p (.eqs rfl rfl) rfl <| WL.z rfl rfl ?_
 refine W.cond rfl (fun h2 => ?_) (fun h2 => ?_)
 have h2' := dT h2
 refine W.skip <| W.condT rfl h2 ?_
 refine W.sr <| WL.a rfl rfl <| WL.z rfl rfl ?_
 refine W.ret (W.ret2 rfl rfl rfl ?_)
 exact ⟨rvE (by unfold known; simp_all), rfl⟩
 have h2' := dF h2
 refine W.sr <| WL.p (.eqs rfl rfl) rfl <| WL.z rfl rfl ?_
 refine W.cond rfl (fun h3 => ?_) (fun h3 => ?_)
 have h3' := dT h3
 refine W.skip <| W.condT rfl h3 ?_
 refine W.sr <| WL.a rfl rfl <| WL.z rfl rfl ?_
 refine W.ret (W.ret2 rfl rfl rfl ?_)
 exact ⟨rvE (by unfold known; simp_all), rfl⟩
 have h3' := dF h3
 refine W.sr <| WL.p (.eqs rfl rfl) rfl <| WL.z rfl rfl ?_
 refine W.cond rfl (fun h4 => ?_) (fun h4 => ?_)
 have h4' := dT h4
 refine W.skip <| W.condT rfl h4 ?_
 refine W.sr <| WL.a rfl rfl <| WL.z rfl rfl ?_
 refine W.ret (W.ret2 rfl rfl rfl ?_)
 exact ⟨rvE (by unfold known; simp_all), rfl⟩
 have h4' := dF h4
 refine W.sr <| WL.p (.eqs rfl rfl) rfl <| WL.z rfl rfl ?_
 refine W.cond rfl (fun h5 => ?_) (fun h5 => ?_)
 have h5' := dT h5
 refine W.skip <| W.condT rfl h5 ?_
 refine W.sr <| WL.a rfl rfl <| WL.z rfl rfl ?_
 refine W.ret (W.ret2 rfl rfl rfl ?_)
 exact ⟨rvE (by unfold known; simp_all), rfl⟩
 have h5' := dF h5
 refine W.sr <| WL.p (.eqs rfl rfl) rfl <| WL.z rfl rfl ?_
 refine W.cond rfl (fun h6 => ?_) (fun h6 => ?_)
 have h6' := dT h6
 refine W.skip <| W.condT rfl h6 ?_
 refine W.sr <| WL.a rfl rfl <| WL.z rfl rfl ?_
 refine W.ret (W.ret2 rfl rfl rfl ?_)
 exact ⟨rvE (by unfold known; simp_all), rfl⟩
 have h6' := dF h6
 refine W.sr <| WL.p (.eqs rfl rfl) rfl <| WL.z rfl rfl ?_
 refine W.cond rfl (fun h7 => ?_) (fun h7 => ?_)
 have h7' := dT h7
 refine W.skip <| W.condT rfl h7 ?_
 refine W.sr <| WL.a rfl rfl <| WL.z rfl rfl ?_
 refine W.ret (W.ret2 rfl rfl rfl ?_)
 exact ⟨rvE (by unfold known; simp_all), rfl⟩
 have h7' := dF h7
 refine W.sr <| WL.p (.eqs rfl rfl) rfl <| WL.z rfl rfl ?_
 refine W.cond rfl (fun h8 => ?_) (fun h8 => ?_)
 have h8' := dT h8
 refine W.skip <| W.condT rfl h8 ?_
 refine W.sr <| WL.a rfl rfl <| WL.z rfl rfl ?_
 refine W.ret (W.ret2 rfl rfl rfl ?_)
 exact ⟨rvE (by unfold known; simp_all), rfl⟩
 have h8' := dF h8
 refine W.sr <| WL.p (.eqs rfl rfl) rfl <| WL.z rfl rfl ?_
 refine W.cond rfl (fun h9 => ?_) (fun h9 => ?_)
 have h9' := dT h9
 refine W.skip <| W.condT rfl h9 ?_
 refine W.sr <| WL.a rfl rfl <| WL.z rfl rfl ?_
 refine W.ret (W.ret2 rfl rfl rfl ?_)
 exact ⟨rvE (by unfold known; simp_all), rfl⟩
 have h9' := dF h9
 refine W.sr <| WL.p (.eqs rfl rfl) rfl <| WL.z rfl rfl ?_
 refine W.cond rfl (fun h10 => ?_) (fun h10 => ?_)
 have h10' := dT h10
 refine W.skip <| W.condT rfl h10 ?_
 refine W.sr <| WL.a rfl rfl <| WL.z rfl rfl ?_
 refine W.ret (W.ret2 rfl rfl rfl ?_)
 exact ⟨rvE (by unfold known; simp_all), rfl⟩
 have h10' := dF h10
 refine W.sr <| WL.p (.eqs rfl rfl) rfl <| WL.z rfl rfl ?_
 refine W.cond rfl (fun h11 => ?_) (fun h11 => ?_)
 have h11' := dT h11
 refine W.skip <| W.condT rfl h11 ?_
 refine W.sr <| WL.a rfl rfl <| WL.z rfl rfl ?_
 refine W.ret (W.ret2 rfl rfl rfl ?_)
 exact ⟨rvE (by unfold known; simp_all), rfl⟩
 have h11' := dF h11
 refine W.reg <| WL.p (.eqs rfl rfl) rfl <| WL.z rfl rfl ?_
 refine W.cond rfl (fun h12 => ?_) (fun h12 => ?_)
 have h12' := dT h12
 refine W.sr <| WL.a rfl rfl <| WL.z rfl rfl ?_
 refine W.ret (W.ret2 rfl rfl rfl ?_)
 exact ⟨rvE (by unfold known; simp_all), rfl⟩
 have h12' := dF h12
 refine W.sr <| WL.p (.eqs rfl rfl) rfl <| WL.z rfl rfl ?_
 refine W.cond rfl (fun h13 => ?_) (fun h13 => ?_)
 have h13' := dT h13
 refine W.sr <| WL.a rfl rfl <| WL.z rfl rfl ?_
 refine W.ret (W.ret2 rfl rfl rfl ?_)
 exact ⟨rvE (by unfold known; simp_all), rfl⟩
 have h13' := dF h13
 refine W.sr <| WL.p (.eqs rfl rfl) rfl <| WL.z rfl rfl ?_
 refine W.cond rfl (fun h14 => ?_) (fun h14 => ?_)
 have h14' := dT h14
 refine W.sr <| WL.a rfl rfl <| WL.z rfl rfl ?_
 refine W.ret (W.ret2 rfl rfl rfl ?_)
 exact ⟨rvE (by unfold known; simp_all), rfl⟩
 have h14' := dF h14
 refine W.skip <| W.sr <| WL.a rfl rfl <| WL.z rfl rfl ?_
 refine W.ret (W.ret2 rfl rfl rfl ?_)
 exact ⟨rvE (by unfold known; simp_all), rfl⟩
theorem conv_small (n : Int) (w : World) : Calls Tryz.prog 70 #[.int .i64 n] w fun e w' => e = .returned (.bool (fitsB n)) ∧ w = w' := by
 refine W.enter func70 rfl ntmps70 (Nat.le_of_ble_eq_true rfl) ?_
 refine W.sr <| WL.z rfl rfl ?_
 refine W.sr <| WL.m rfl rfl <| WL.p (.geq rfl rfl) rfl <| WL.m rfl rfl <| WL.gd rfl rfl rfl (fun g1 => ?_) (fun g1 => ?_)
 have g1' := dT g1
 refine WL.m rfl rfl <| WL.gy rfl rfl rfl g1 <| WL.p (.leq rfl rfl) rfl <| WL.p (.pkT rfl g1 rfl) rfl <| WL.z rfl rfl ?_
 refine W.ret (W.ret1 rfl rfl ?_)
 exact ⟨rbE (by unfold fitsB; simp_all <;> omega), rfl⟩
 have g1' := dF g1
 refine WL.gn rfl rfl rfl g1 <| WL.p (.pkF rfl g1 rfl) rfl <| WL.z rfl rfl ?_
 refine W.ret (W.ret1 rfl rfl ?_)
 exact ⟨rbE (by unfold fitsB; simp_all <;> omega), rfl⟩
def workV (b : Nat) : Value := .agg #[.pointer (some ⟨b, 0, none⟩)]
def accO (S : StoV) (o : ObjV) : Int := if o.kind = 8 then accD S o else o.access
theorem conv_access (b : Nat) (F : Nat → Prop) (S : StoV) (o : ObjV) (w : World) (h : Sto w b F S) (hok : SOk S) :
  Calls Tryz.prog 59 #[workV b, .agg (objV o).toArray] w fun e w' => e = .returned (.int .i64 (accO S o)) ∧ Below w.heap.size w w' := by
 refine W.enter func59 rfl ntmps59 (Nat.le_of_ble_eq_true rfl) ?_
 have hB0 := Below.refl (w.heap.size) w
 refine W.sr <| WL.box rfl rfl (fun b1 wb1 eb1 hkb1 hub1 hsb1 => ?_)
 have hB2 := Upd.below hB0 (by rw [eb1]; exact hB0.size) hub1
 have hgeb1 : w.heap.size ≤ b1 := by rw [eb1]; exact hB0.size
 refine WL.box rfl rfl (fun b3 wb3 eb3 hkb3 hub3 hsb3 => ?_)
 have hl5 : b1 < b3 := by rw [eb3]; exact hkb1.lt
 have hk4 := hkb1.upd hub3 (Nat.ne_of_lt hl5)
 have hB6 := Upd.below hB2 (by rw [eb3]; exact hB2.size) hub3
 have hgeb3 : w.heap.size ≤ b3 := by rw [eb3]; exact hB2.size
 refine WL.z rfl rfl ?_
 refine W.seq <| W.sr <| WL.p (.fa underlying27 rfl sizeOf3 dD rfl) rfl <| WL.r (Rd.ld (isAgg3 _) rfl hkb3 rfl) rfl <| WL.p (.eql rfl rfl) rfl <| WL.nil <| ?_
 refine W.cond rfl (fun h7 => ?_) (fun h7 => ?_)
 have h7' := dT h7
 refine W.sr <| WL.p (.fa underlying72 rfl sizeOf22 dD rfl) rfl <| WL.r (Rd.ld (isAgg22 _) rfl hk4 rfl) rfl <| WL.r (Rd.ldA rfl hkb3 underlying27 rfl isz27) rfl <| WL.c1 hb35 rfl rfl ((sto_Access b F S o _ (h.below hB6) hok)) (fun w8 hw8 => ?_)
 have hB11 := btr hB6 hw8
 refine WL.z rfl rfl ?_
 refine W.ret (W.ret1 rfl rfl ?_)
 exact ⟨riE (by unfold accO; rw [if_pos aS]), hB11⟩
 have h7' := dF h7
 refine W.skip <| W.sr <| WL.p (.fa underlying27 rfl sizeOf3 dD rfl) rfl <| WL.r (Rd.ld (isAgg3 _) rfl hkb3 rfl) rfl <| WL.z rfl rfl ?_
 refine W.ret (W.ret1 rfl rfl ?_)
 exact ⟨riE (by unfold accO; rw [if_neg aS]), hB6⟩
def readB (S : StoV) (o : ObjV) : Bool := decide (accO S o ≤ 1) && decide (accO S o ≥ 0)
theorem conv_readable (b : Nat) (F : Nat → Prop) (S : StoV) (o : ObjV) (w : World) (h : Sto w b F S) (hok : SOk S) :
  Calls Tryz.prog 57 #[workV b, .agg (objV o).toArray] w fun e w' => e = .returned (.bool (readB S o)) ∧ Below w.heap.size w w' := by
 refine W.enter func57 rfl ntmps57 (Nat.le_of_ble_eq_true rfl) ?_
 have hB0 := Below.refl (w.heap.size) w
 refine W.sr <| WL.box rfl rfl (fun b1 wb1 eb1 hkb1 hub1 hsb1 => ?_)
 have hB2 := Upd.below hB0 (by rw [eb1]; exact hB0.size) hub1
 have hgeb1 : w.heap.size ≤ b1 := by rw [eb1]; exact hB0.size
 refine WL.box rfl rfl (fun b3 wb3 eb3 hkb3 hub3 hsb3 => ?_)
 have hl5 : b1 < b3 := by rw [eb3]; exact hkb1.lt
 have hk4 := hkb1.upd hub3 (Nat.ne_of_lt hl5)
 have hB6 := Upd.below hB2 (by rw [eb3]; exact hB2.size) hub3
 have hgeb3 : w.heap.size ≤ b3 := by rw [eb3]; exact hB2.size
 refine WL.z rfl rfl ?_
 refine W.sr <| WL.r (Rd.ldA rfl hk4 underlying72 rfl isz72) rfl <| WL.r (Rd.ldA rfl hkb3 underlying27 rfl isz27) rfl <| WL.c1 hb59 rfl rfl ((conv_access b F S o _ (h.below hB6) hok)) (fun w7 hw7 => ?_)
 have hk8 := hk4.below hw7 hk4.lt
 have hk9 := hkb3.below hw7 hkb3.lt
 have hB10 := btr hB6 hw7
 refine WL.p (.leq rfl rfl) rfl <| WL.m rfl rfl <| WL.gd rfl rfl rfl (fun g11 => ?_) (fun g11 => ?_)
 have g11' := dT g11
 refine WL.r (Rd.ldA rfl hk8 underlying72 rfl isz72) rfl <| WL.gy rfl rfl rfl g11 <| WL.r (Rd.ldA rfl hk9 underlying27 rfl isz27) rfl <| WL.gy rfl rfl rfl g11 <| WL.c1 hb59 rfl rfl ((conv_access b F S o _ (h.below hB10) hok)) (fun w12 hw12 => ?_)
 have hB15 := btr hB10 hw12
 refine WL.gy rfl rfl rfl g11 <| WL.p (.geq rfl rfl) rfl <| WL.p (.pkT rfl g11 rfl) rfl <| WL.z rfl rfl ?_
 refine W.ret (W.ret1 rfl rfl ?_)
 exact ⟨rbE (by unfold readB; simp_all <;> omega), hB15⟩
 have g11' := dF g11
 refine WL.gn rfl rfl rfl g11 <| WL.gn rfl rfl rfl g11 <| WL.gn rfl rfl rfl g11 <| WL.p (.pkF rfl g11 rfl) rfl <| WL.z rfl rfl ?_
 refine W.ret (W.ret1 rfl rfl ?_)
 exact ⟨rbE (by unfold readB; simp_all <;> omega), hB10⟩
theorem conv_writable (b : Nat) (F : Nat → Prop) (S : StoV) (o : ObjV) (w : World) (h : Sto w b F S) (hok : SOk S) :
  Calls Tryz.prog 44 #[workV b, .agg (objV o).toArray] w fun e w' => e = .returned (.bool (decide (accO S o = 0))) ∧ Below w.heap.size w w' := by
 refine W.enter func44 rfl ntmps44 (Nat.le_of_ble_eq_true rfl) ?_
 have hB0 := Below.refl (w.heap.size) w
 refine W.sr <| WL.box rfl rfl (fun b1 wb1 eb1 hkb1 hub1 hsb1 => ?_)
 have hB2 := Upd.below hB0 (by rw [eb1]; exact hB0.size) hub1
 have hgeb1 : w.heap.size ≤ b1 := by rw [eb1]; exact hB0.size
 refine WL.box rfl rfl (fun b3 wb3 eb3 hkb3 hub3 hsb3 => ?_)
 have hl5 : b1 < b3 := by rw [eb3]; exact hkb1.lt
 have hk4 := hkb1.upd hub3 (Nat.ne_of_lt hl5)
 have hB6 := Upd.below hB2 (by rw [eb3]; exact hB2.size) hub3
 have hgeb3 : w.heap.size ≤ b3 := by rw [eb3]; exact hB2.size
 refine WL.z rfl rfl ?_
 refine W.sr <| WL.r (Rd.ldA rfl hk4 underlying72 rfl isz72) rfl <| WL.r (Rd.ldA rfl hkb3 underlying27 rfl isz27) rfl <| WL.c1 hb59 rfl rfl ((conv_access b F S o _ (h.below hB6) hok)) (fun w7 hw7 => ?_)
 have hB10 := btr hB6 hw7
 refine WL.p (.eql rfl rfl) rfl <| WL.z rfl rfl ?_
 refine W.ret (W.ret1 rfl rfl ?_)
 exact ⟨rbE (by simp_all), hB10⟩
end
section
theorem nat_hi16 (x : Nat) (h : x < 18446744073709551616) : x &&& 18446744073709486080 = x / 65536 * 65536 := by
  have e1 : (18446744073709486080 : Nat) = (2 ^ 48 - 1) <<< 16 := by decide
  have e2 : x / 65536 * 65536 = (x >>> 16) <<< 16 := by rw [Nat.shiftRight_eq_div_pow, Nat.shiftLeft_eq]
  rw [e1, e2]
  refine Nat.eq_of_testBit_eq fun i => ?_
  rw [Nat.testBit_and, Nat.testBit_shiftLeft, Nat.testBit_shiftLeft, Nat.testBit_two_pow_sub_one, Nat.testBit_shiftRight]
  by_cases h1 : 16 ≤ i
  · rw [show 16 + (i - 16) = i by omega]
    by_cases h2 : i - 16 < 48
    · simp [h1, h2]
    · have : x.testBit i = false := Nat.testBit_lt_two_pow (Nat.lt_of_lt_of_le h (by
        have : 2 ^ 64 ≤ 2 ^ i := Nat.pow_le_pow_right oO oO
        omega))
      simp [this]
  · simp [h1]
theorem andNot_64k (a : Int) (h1 : -9223372036854775808 ≤ a) (h2 : a ≤ 9223372036854775807) : bits .andNot .i64 a 65535 = a / 65536 * 65536 := by
 show IntKind.i64.wrap ((BitVec.ofInt 64 a &&& ~~~BitVec.ofInt 64 65535).toNat : Int) = _
 rw [BitVec.toNat_and, BitVec.toNat_not, BitVec.toNat_ofInt, BitVec.toNat_ofInt]
 have e : 2 ^ 64 - 1 - ((65535 : Int) % ((2 ^ 64 : Nat) : Int)).toNat = 18446744073709486080 := by decide
 rw [e, nat_hi16 _ oO, IntKind.wrap_i64]
 omega
section
variable {P : Program} {f : Fr}
theorem Pure.andNot {x y : Operand} {k : IntKind} {tx ty : TypeId} {a b r : Int} (hx : evo f x = some (.int k a)) (hy : evo f y = some (.int k b)) (hr : bits .andNot k a b = r) : Pure P (.binOp .andNot tx x y ty) f (.int k r) := fun ρ hρ d ty' pos aft g w => by
 simp [execOp, hρ _ _ hx, hρ _ _ hy, eqGuard, binOp_andNot, intBits_andNot, hr]
end
end
section
/-- digits behind the point, at most so many -/
def fracK : Nat → Nat → List UInt8
 | 0, _ => []
 | k + 1, f => if f = 0 then [] else ch (48 + ((f * 10 / 65536 : Nat) : Int)) :: fracK k (f * 10 % 65536)
theorem fracK_stable (k : Nat) : ∀ f : Nat, k ≤ 16 → f < 65536 → 2 ^ (16 - k) ∣ f → fracK k f = fracK (k + 1) f := by
  induction k with
  | zero =>
    intro f _ hf hd
    obtain ⟨c, hc⟩ := hd
    have : f = 0 := by simp at hc; omega
    simp [fracK, this]
  | succ k ih =>
    intro f hk hf hd
    rw [fracK, fracK]
    split
    · rfl
    · rw [ih (f * 10 % 65536) oO oO]
      have e : 16 - k = (16 - (k + 1)) + 1 := by omega
      have h1 : 2 ^ (16 - k) ∣ f * 10 := by
        rw [e, Nat.pow_succ]
        exact Nat.mul_dvd_mul hd ⟨5, rfl⟩
      have h2 : 2 ^ (16 - k) ∣ 65536 := by
        rw [show (65536 : Nat) = 2 ^ 16 from rfl]
        exact Nat.pow_dvd_pow 2 oO
      exact (Nat.dvd_mod_iff h2).2 h1
def fracL (f : Nat) : List UInt8 := fracK 16 f
theorem fracL_zero : fracL 0 = [] := rfl
theorem fracL_step (f : Nat) (h0 : 0 < f) (h : f < 65536) : fracL f = ch (48 + ((f * 10 / 65536 : Nat) : Int)) :: fracL (f * 10 % 65536) := by
 unfold fracL
 rw [fracK, if_neg oO, fracK_stable 15 (f * 10 % 65536) oO oO (by
  have h1 : 2 ^ (16 - 15) ∣ f * 10 := ⟨f * 5, by omega⟩
  exact (Nat.dvd_mod_iff dD).2 h1)]
theorem fracK_len (k : Nat) : ∀ f, (fracK k f).length ≤ k := by
 induction k with
 | zero => intro f; simp [fracK]
 | succ k ih =>
  intro f; rw [fracK]; split
  ·
   simp
  ·
   have := ih (f * 10 % 65536); simp; omega
theorem fracL_len (f : Nat) : (fracL f).length ≤ 16 := fracK_len 16 f
theorem and_mask16 (x : Int) (h : 0 ≤ x) (h' : x < 4294967296) : bits .and .i64 x 65535 = x % 65536 :=
 bits_mask .i64 32 dD (fun n h1 h2 => by rw [IntKind.wrap_i64]; omega) 16 dD x h (by simpa using h')
end
end Go.Proofs.YtopnfojdmeageaaGreatDoor
namespace Go.Proofs
open Go.Proofs.Tryz
open Go.Shelf
def Tryz.lays169_ren : Go.Shelf.Ren := ⟨fun | 169 => 66 | n => n, fun | 70 => 120 | 9 => 9 | 0 => 0 | 72 => 122 | 37 => 35 | 127 => 139 | 3 => 3 | 5 => 5 | n => n, fun | n => n⟩
theorem Tryz.lays169 : Go.Proofs.Lays.n169 Tryz.prog Tryz.lays169_ren := {
  mixed := by kernel_rfl
  f169 := Tryz.func66.trans (congrArg some (by kernel_rfl))
  t0 := Tryz.underlying0
  a0 := Tryz.isAgg0
  z0 := Tryz.sizeOf0
  v0 := Tryz.zeroValue0
  t3 := Tryz.underlying3
  a3 := Tryz.isAgg3
  z3 := Tryz.sizeOf3
  v3 := Tryz.zeroValue3
  t9 := Tryz.underlying9
  a9 := Tryz.isAgg9
  z9 := Tryz.sizeOf9
  v9 := Tryz.zeroValue9
  t37 := Tryz.underlying35
  a37 := Tryz.isAgg35
  z37 := Tryz.sizeOf35
  v37 := Tryz.zeroValue35
  t70 := Tryz.underlying120
  a70 := Tryz.isAgg120
  z70 := Tryz.sizeOf120
  v70 := Tryz.zeroValue120
  t72 := Tryz.underlying122
  a72 := Tryz.isAgg122
  z72 := Tryz.sizeOf122
  v72 := Tryz.zeroValue122
  t127 := Tryz.underlying139
  a127 := Tryz.isAgg139
  z127 := Tryz.sizeOf139
  v127 := Tryz.zeroValue139 }
theorem Tryz.Builder_Extra_169 : Builder.Extra Tryz.prog Tryz.lays169_ren := {
  sizeBuilder := by kernel_rfl
  liesBuilder := by kernel_rfl
  t5 := Tryz.underlying5
  a5 := Tryz.isAgg5
  z5 := Tryz.sizeOf5
  v5 := Tryz.zeroValue5
  infoByte := by kernel_rfl
  cellsByte := by kernel_rfl
  sizeByte := by kernel_rfl
  neB5 := by decide }
open Go.RowKit in
theorem Tryz.Builder_String_any (B b : Nat) (l : List UInt8) (w : World) (h : Lib.IsBuilder 122 5 B b (Lib.byteCells l) w) (hBw : B ≤ w.heap.size) :
    Calls Tryz.prog 66 #[.pointer (some ⟨b, 0, none⟩)] w fun e w' => e = .returned (.string ⟨l.toArray⟩) ∧ Below B w w' := Any.Builder_String_any Tryz.lays169 Tryz.Builder_Extra_169 B b l w h hBw
def Tryz.lays165_ren : Go.Shelf.Ren := ⟨fun | 165 => 63 | 240 => 76 | 241 => 77 | 276 => 95 | 277 => 96 | n => n, fun | 70 => 120 | 3 => 3 | 0 => 0 | 4 => 4 | 9 => 9 | 20 => 20 | 72 => 122 | 37 => 35 | 164 => 159 | 5 => 5 | n => n, fun | n => n⟩
theorem Tryz.lays165 : Go.Proofs.Lays.n165 Tryz.prog Tryz.lays165_ren := {
  mixed := by kernel_rfl
  f165 := Tryz.func63.trans (congrArg some (by kernel_rfl))
  f240 := Tryz.func76.trans (congrArg some (by kernel_rfl))
  f241 := Tryz.func77.trans (congrArg some (by kernel_rfl))
  f276 := Tryz.func95.trans (congrArg some (by kernel_rfl))
  f277 := Tryz.func96.trans (congrArg some (by kernel_rfl))
  t0 := Tryz.underlying0
  a0 := Tryz.isAgg0
  z0 := Tryz.sizeOf0
  v0 := Tryz.zeroValue0
  t3 := Tryz.underlying3
  a3 := Tryz.isAgg3
  z3 := Tryz.sizeOf3
  v3 := Tryz.zeroValue3
  t4 := Tryz.underlying4
  a4 := Tryz.isAgg4
  z4 := Tryz.sizeOf4
  v4 := Tryz.zeroValue4
  t9 := Tryz.underlying9
  a9 := Tryz.isAgg9
  z9 := Tryz.sizeOf9
  v9 := Tryz.zeroValue9
  t20 := Tryz.underlying20
  a20 := Tryz.isAgg20
  z20 := Tryz.sizeOf20
  v20 := Tryz.zeroValue20
  t37 := Tryz.underlying35
  a37 := Tryz.isAgg35
  z37 := Tryz.sizeOf35
  v37 := Tryz.zeroValue35
  t70 := Tryz.underlying120
  a70 := Tryz.isAgg120
  z70 := Tryz.sizeOf120
  v70 := Tryz.zeroValue120
  t72 := Tryz.underlying122
  a72 := Tryz.isAgg122
  z72 := Tryz.sizeOf122
  v72 := Tryz.zeroValue122
  t164 := Tryz.underlying159
  a164 := Tryz.isAgg159
  z164 := Tryz.sizeOf159
  v164 := Tryz.zeroValue159 }
theorem Tryz.Builder_Extra_165 : Builder.Extra Tryz.prog Tryz.lays165_ren := {
  sizeBuilder := by kernel_rfl
  liesBuilder := by kernel_rfl
  t5 := Tryz.underlying5
  a5 := Tryz.isAgg5
  z5 := Tryz.sizeOf5
  v5 := Tryz.zeroValue5
  infoByte := by kernel_rfl
  cellsByte := by kernel_rfl
  sizeByte := by kernel_rfl
  neB5 := by decide }
open Go.RowKit in
theorem Tryz.Builder_Grow_fresh (B b n : Nat) (w : World) (hB : B ≤ b) (hbk : w.heap[b]? = some (.cells #[.pointer none, .slice none 0 0] 122 (0, 0))) (hBw : B ≤ w.heap.size) (hn : n ≤ 281474976710656) :
    Calls Tryz.prog 63 #[.pointer (some ⟨b, 0, none⟩), .int .i64 n] w fun e w' => e = .returned (.tuple #[]) ∧ (Lib.BuilderAt 122 5 B b (.pointer (some ⟨b, 0, none⟩)) [] w' ∧ Below B w w') := Any.Builder_Grow_fresh Tryz.lays165 Tryz.Builder_Extra_165 B b n w hB hbk hBw hn
def Tryz.lays161_ren : Go.Shelf.Ren := ⟨fun | 161 => 113 | 231 => 129 | 227 => 110 | 233 => 130 | 235 => 131 | 228 => 111 | 197 => 78 | 151 => 140 | 260 => 97 | 152 => 108 | 137 => 122 | 119 => 123 | 224 => 124 | 225 => 125 | 217 => 136 | 266 => 143 | n => n, fun | 9 => 9 | 4 => 4 | 3 => 3 | 5 => 5 | 117 => 177 | 116 => 176 | 0 => 0 | 124 => 193 | 105 => 140 | 21 => 21 | 119 => 183 | 46 => 138 | 139 => 186 | 138 => 185 | n => n, fun | 3 => 4 | 4 => 5 | n => n⟩
theorem Tryz.lays161 : Go.Proofs.Lays.n161 Tryz.prog Tryz.lays161_ren := {
  mixed := by kernel_rfl
  f119 := Tryz.func123.trans (congrArg some (by kernel_rfl))
  f137 := Tryz.func122.trans (congrArg some (by kernel_rfl))
  f151 := Tryz.func140.trans (congrArg some (by kernel_rfl))
  f152 := Tryz.func108.trans (congrArg some (by kernel_rfl))
  f161 := Tryz.func113.trans (congrArg some (by kernel_rfl))
  f197 := Tryz.func78.trans (congrArg some (by kernel_rfl))
  f217 := Tryz.func136.trans (congrArg some (by kernel_rfl))
  f224 := Tryz.func124.trans (congrArg some (by kernel_rfl))
  f225 := Tryz.func125.trans (congrArg some (by kernel_rfl))
  f227 := Tryz.func110.trans (congrArg some (by kernel_rfl))
  f228 := Tryz.func111.trans (congrArg some (by kernel_rfl))
  f231 := Tryz.func129.trans (congrArg some (by kernel_rfl))
  f233 := Tryz.func130.trans (congrArg some (by kernel_rfl))
  f235 := Tryz.func131.trans (congrArg some (by kernel_rfl))
  f260 := Tryz.func97.trans (congrArg some (by kernel_rfl))
  f266 := Tryz.func143.trans (congrArg some (by kernel_rfl))
  t0 := Tryz.underlying0
  a0 := Tryz.isAgg0
  z0 := Tryz.sizeOf0
  v0 := Tryz.zeroValue0
  t3 := Tryz.underlying3
  a3 := Tryz.isAgg3
  z3 := Tryz.sizeOf3
  v3 := Tryz.zeroValue3
  t4 := Tryz.underlying4
  a4 := Tryz.isAgg4
  z4 := Tryz.sizeOf4
  v4 := Tryz.zeroValue4
  t5 := Tryz.underlying5
  a5 := Tryz.isAgg5
  z5 := Tryz.sizeOf5
  v5 := Tryz.zeroValue5
  t9 := Tryz.underlying9
  a9 := Tryz.isAgg9
  z9 := Tryz.sizeOf9
  v9 := Tryz.zeroValue9
  t21 := Tryz.underlying21
  a21 := Tryz.isAgg21
  z21 := Tryz.sizeOf21
  v21 := Tryz.zeroValue21
  t46 := Tryz.underlying138
  a46 := Tryz.isAgg138
  z46 := Tryz.sizeOf138
  v46 := Tryz.zeroValue138
  t105 := Tryz.underlying140
  a105 := Tryz.isAgg140
  z105 := Tryz.sizeOf140
  v105 := Tryz.zeroValue140
  t116 := Tryz.underlying176
  a116 := Tryz.isAgg176
  z116 := Tryz.sizeOf176
  t117 := Tryz.underlying177
  a117 := Tryz.isAgg177
  z117 := Tryz.sizeOf177
  v117 := Tryz.zeroValue177
  t119 := Tryz.underlying183
  a119 := Tryz.isAgg183
  z119 := Tryz.sizeOf183
  t124 := Tryz.underlying193
  a124 := Tryz.isAgg193
  z124 := Tryz.sizeOf193
  v124 := Tryz.zeroValue193
  t138 := Tryz.underlying185
  a138 := Tryz.isAgg185
  z138 := Tryz.sizeOf185
  v138 := Tryz.zeroValue185
  t139 := Tryz.underlying186
  a139 := Tryz.isAgg186
  z139 := Tryz.sizeOf186
  v139 := Tryz.zeroValue186
  g3 := by kernel_rfl
  g4 := by kernel_rfl }
open Go.RowKit in
theorem Tryz.strings_TrimLeft_one (s : ByteArray) (c : UInt8) (hc : c.toNat < 128) (w : World) :
    Calls Tryz.prog 113 #[.string s, .string ⟨#[c]⟩] w fun e w' => e = .returned (.string ⟨(Lib.trimLeftB s.data.toList c).toArray⟩) ∧ w' = w := Any.strings_TrimLeft_one Tryz.lays161 s c hc w
def Tryz.lays160_ren : Go.Shelf.Ren := ⟨fun | 160 => 121 | 232 => 133 | 231 => 129 | 227 => 110 | 234 => 134 | 233 => 130 | 236 => 135 | 235 => 131 | 228 => 111 | 271 => 142 | 151 => 140 | 197 => 78 | 120 => 145 | 152 => 108 | 260 => 97 | 137 => 122 | 119 => 123 | 224 => 124 | 225 => 125 | 217 => 136 | 266 => 143 | n => n, fun | 9 => 9 | 4 => 4 | 3 => 3 | 5 => 5 | 117 => 177 | 116 => 176 | 0 => 0 | 124 => 193 | 21 => 21 | 105 => 140 | 46 => 138 | 119 => 183 | 139 => 186 | 138 => 185 | n => n, fun | 3 => 4 | 4 => 5 | n => n⟩
theorem Tryz.lays160 : Go.Proofs.Lays.n160 Tryz.prog Tryz.lays160_ren := {
  mixed := by kernel_rfl
  f119 := Tryz.func123.trans (congrArg some (by kernel_rfl))
  f120 := Tryz.func145.trans (congrArg some (by kernel_rfl))
  f137 := Tryz.func122.trans (congrArg some (by kernel_rfl))
  f151 := Tryz.func140.trans (congrArg some (by kernel_rfl))
  f152 := Tryz.func108.trans (congrArg some (by kernel_rfl))
  f160 := Tryz.func121.trans (congrArg some (by kernel_rfl))
  f197 := Tryz.func78.trans (congrArg some (by kernel_rfl))
  f217 := Tryz.func136.trans (congrArg some (by kernel_rfl))
  f224 := Tryz.func124.trans (congrArg some (by kernel_rfl))
  f225 := Tryz.func125.trans (congrArg some (by kernel_rfl))
  f227 := Tryz.func110.trans (congrArg some (by kernel_rfl))
  f228 := Tryz.func111.trans (congrArg some (by kernel_rfl))
  f231 := Tryz.func129.trans (congrArg some (by kernel_rfl))
  f232 := Tryz.func133.trans (congrArg some (by kernel_rfl))
  f233 := Tryz.func130.trans (congrArg some (by kernel_rfl))
  f234 := Tryz.func134.trans (congrArg some (by kernel_rfl))
  f235 := Tryz.func131.trans (congrArg some (by kernel_rfl))
  f236 := Tryz.func135.trans (congrArg some (by kernel_rfl))
  f260 := Tryz.func97.trans (congrArg some (by kernel_rfl))
  f266 := Tryz.func143.trans (congrArg some (by kernel_rfl))
  f271 := Tryz.func142.trans (congrArg some (by kernel_rfl))
  t0 := Tryz.underlying0
  a0 := Tryz.isAgg0
  z0 := Tryz.sizeOf0
  v0 := Tryz.zeroValue0
  t3 := Tryz.underlying3
  a3 := Tryz.isAgg3
  z3 := Tryz.sizeOf3
  v3 := Tryz.zeroValue3
  t4 := Tryz.underlying4
  a4 := Tryz.isAgg4
  z4 := Tryz.sizeOf4
  v4 := Tryz.zeroValue4
  t5 := Tryz.underlying5
  a5 := Tryz.isAgg5
  z5 := Tryz.sizeOf5
  v5 := Tryz.zeroValue5
  t9 := Tryz.underlying9
  a9 := Tryz.isAgg9
  z9 := Tryz.sizeOf9
  v9 := Tryz.zeroValue9
  t21 := Tryz.underlying21
  a21 := Tryz.isAgg21
  z21 := Tryz.sizeOf21
  v21 := Tryz.zeroValue21
  t46 := Tryz.underlying138
  a46 := Tryz.isAgg138
  z46 := Tryz.sizeOf138
  v46 := Tryz.zeroValue138
  t105 := Tryz.underlying140
  a105 := Tryz.isAgg140
  z105 := Tryz.sizeOf140
  v105 := Tryz.zeroValue140
  t116 := Tryz.underlying176
  a116 := Tryz.isAgg176
  z116 := Tryz.sizeOf176
  t117 := Tryz.underlying177
  a117 := Tryz.isAgg177
  z117 := Tryz.sizeOf177
  v117 := Tryz.zeroValue177
  t119 := Tryz.underlying183
  a119 := Tryz.isAgg183
  z119 := Tryz.sizeOf183
  t124 := Tryz.underlying193
  a124 := Tryz.isAgg193
  z124 := Tryz.sizeOf193
  v124 := Tryz.zeroValue193
  t138 := Tryz.underlying185
  a138 := Tryz.isAgg185
  z138 := Tryz.sizeOf185
  v138 := Tryz.zeroValue185
  t139 := Tryz.underlying186
  a139 := Tryz.isAgg186
  z139 := Tryz.sizeOf186
  v139 := Tryz.zeroValue186
  g3 := by kernel_rfl
  g4 := by kernel_rfl }
def Tryz.lays119_ren : Go.Shelf.Ren := ⟨fun | 119 => 123 | n => n, fun | 21 => 21 | 4 => 4 | n => n, fun | n => n⟩
theorem Tryz.lays119 : Go.Proofs.Lays.n119 Tryz.prog Tryz.lays119_ren := {
  mixed := by kernel_rfl
  f119 := Tryz.func123.trans (congrArg some (by kernel_rfl))
  t4 := Tryz.underlying4
  a4 := Tryz.isAgg4
  z4 := Tryz.sizeOf4
  v4 := Tryz.zeroValue4
  t21 := Tryz.underlying21
  a21 := Tryz.isAgg21
  z21 := Tryz.sizeOf21
  v21 := Tryz.zeroValue21 }
theorem Tryz.utf8_ValidRune (r : Int) (w : World) :
    Calls Tryz.prog 123 #[.int .i32 r] w fun e w' => e = .returned (.bool (Lib.validRune r)) ∧ w' = w := Any.utf8_ValidRune Tryz.lays119 r w
def Tryz.lays137_ren : Go.Shelf.Ren := ⟨fun | 137 => 122 | 217 => 136 | 266 => 143 | n => n, fun | 9 => 9 | 5 => 5 | 3 => 3 | n => n, fun | n => n⟩
theorem Tryz.lays137 : Go.Proofs.Lays.n137 Tryz.prog Tryz.lays137_ren := {
  mixed := by kernel_rfl
  f137 := Tryz.func122.trans (congrArg some (by kernel_rfl))
  f217 := Tryz.func136.trans (congrArg some (by kernel_rfl))
  f266 := Tryz.func143.trans (congrArg some (by kernel_rfl))
  t3 := Tryz.underlying3
  a3 := Tryz.isAgg3
  z3 := Tryz.sizeOf3
  v3 := Tryz.zeroValue3
  t5 := Tryz.underlying5
  a5 := Tryz.isAgg5
  z5 := Tryz.sizeOf5
  v5 := Tryz.zeroValue5
  t9 := Tryz.underlying9
  a9 := Tryz.isAgg9
  z9 := Tryz.sizeOf9
  v9 := Tryz.zeroValue9 }
open Go.RowKit in
theorem Tryz.strings_IndexByte (s : ByteArray) (c : Int) (w : World) :
    Calls Tryz.prog 122 #[.string s, .int .u8 c] w fun e w' => e = .returned (.int .i64 (Lib.indexByte s.data.toList c.toNat.toUInt8)) ∧ w' = w := Any.strings_IndexByte Tryz.lays137 s c w
def Tryz.laysM171_ren : Go.Shelf.Ren := ⟨fun | 171 => 47 | 243 => 60 | 246 => 74 | 283 => 83 | 284 => 84 | 285 => 85 | 286 => 86 | 129 => 101 | 317 => 100 | 318 => 102 | 319 => 103 | 320 => 104 | 337 => 118 | 338 => 119 | n => n, fun | 3 => 3 | 9 => 9 | 2 => 2 | 4 => 4 | 171 => 146 | 0 => 0 | 53 => 82 | 37 => 35 | 5 => 5 | 173 => 149 | 212 => 167 | 51 => 101 | 20 => 20 | 213 => 168 | 46 => 138 | 232 => 203 | 233 => 204 | n => n, fun | 17 => 2 | 18 => 6 | 19 => 7 | n => n⟩
theorem Tryz.laysM171 : Go.Proofs.LaysM.n171 Tryz.prog Tryz.laysM171_ren := {
  mixed := by kernel_rfl
  f129 := Tryz.func101.trans (congrArg some (by kernel_rfl))
  f171 := Tryz.func47.trans (congrArg some (by kernel_rfl))
  f243 := Tryz.func60.trans (congrArg some (by kernel_rfl))
  f246 := Tryz.func74.trans (congrArg some (by kernel_rfl))
  f283 := Tryz.func83.trans (congrArg some (by kernel_rfl))
  f284 := Tryz.func84.trans (congrArg some (by kernel_rfl))
  f285 := Tryz.func85.trans (congrArg some (by kernel_rfl))
  f286 := Tryz.func86.trans (congrArg some (by kernel_rfl))
  f317 := Tryz.func100.trans (congrArg some (by kernel_rfl))
  f318 := Tryz.func102.trans (congrArg some (by kernel_rfl))
  f319 := Tryz.func103.trans (congrArg some (by kernel_rfl))
  f320 := Tryz.func104.trans (congrArg some (by kernel_rfl))
  f337 := Tryz.func118.trans (congrArg some (by kernel_rfl))
  f338 := Tryz.func119.trans (congrArg some (by kernel_rfl))
  t0 := Tryz.underlying0
  a0 := Tryz.isAgg0
  z0 := Tryz.sizeOf0
  v0 := Tryz.zeroValue0
  t2 := Tryz.underlying2
  a2 := Tryz.isAgg2
  z2 := Tryz.sizeOf2
  v2 := Tryz.zeroValue2
  t3 := Tryz.underlying3
  a3 := Tryz.isAgg3
  z3 := Tryz.sizeOf3
  v3 := Tryz.zeroValue3
  t4 := Tryz.underlying4
  a4 := Tryz.isAgg4
  z4 := Tryz.sizeOf4
  v4 := Tryz.zeroValue4
  t5 := Tryz.underlying5
  a5 := Tryz.isAgg5
  z5 := Tryz.sizeOf5
  v5 := Tryz.zeroValue5
  t9 := Tryz.underlying9
  a9 := Tryz.isAgg9
  z9 := Tryz.sizeOf9
  v9 := Tryz.zeroValue9
  t20 := Tryz.underlying20
  a20 := Tryz.isAgg20
  z20 := Tryz.sizeOf20
  v20 := Tryz.zeroValue20
  t37 := Tryz.underlying35
  a37 := Tryz.isAgg35
  z37 := Tryz.sizeOf35
  v37 := Tryz.zeroValue35
  t46 := Tryz.underlying138
  a46 := Tryz.isAgg138
  z46 := Tryz.sizeOf138
  v46 := Tryz.zeroValue138
  t51 := Tryz.underlying101
  a51 := Tryz.isAgg101
  z51 := Tryz.sizeOf101
  v51 := Tryz.zeroValue101
  t53 := Tryz.underlying82
  a53 := Tryz.isAgg82
  z53 := Tryz.sizeOf82
  v53 := Tryz.zeroValue82
  t171 := Tryz.underlying146
  a171 := Tryz.isAgg146
  z171 := Tryz.sizeOf146
  v171 := Tryz.zeroValue146
  t173 := Tryz.underlying149
  a173 := Tryz.isAgg149
  z173 := Tryz.sizeOf149
  v173 := Tryz.zeroValue149
  t212 := Tryz.underlying167
  a212 := Tryz.isAgg167
  z212 := Tryz.sizeOf167
  v212 := Tryz.zeroValue167
  t213 := Tryz.underlying168
  a213 := Tryz.isAgg168
  z213 := Tryz.sizeOf168
  t232 := Tryz.underlying203
  a232 := Tryz.isAgg203
  z232 := Tryz.sizeOf203
  v232 := Tryz.zeroValue203
  t233 := Tryz.underlying204
  a233 := Tryz.isAgg204
  z233 := Tryz.sizeOf204
  v233 := Tryz.zeroValue204
  g17 := by kernel_rfl
  g18 := by kernel_rfl
  g19 := by kernel_rfl
  i0 := by kernel_rfl
  i2 := by kernel_rfl
  i3 := by kernel_rfl
  i4 := by kernel_rfl
  i5 := by kernel_rfl
  i9 := by kernel_rfl
  i20 := by kernel_rfl
  i37 := by kernel_rfl
  i46 := by kernel_rfl
  i51 := by kernel_rfl
  i53 := by kernel_rfl
  i171 := by kernel_rfl
  i173 := by kernel_rfl
  i212 := by kernel_rfl
  i232 := by kernel_rfl
  i233 := by kernel_rfl
  m17 := by kernel_rfl
  m18 := by kernel_rfl
  m19 := by kernel_rfl }
open Go.RowKit Go.Sort Go.Lib in
theorem Tryz.strconv_Itoa (n : Int) (h0 : -9223372036854775808 ≤ n) (h1 : n ≤ 9223372036854775807) (w : World) (htab : Lib.TabIs Tryz.prog w "internal/strconv.uint64pow10" .u64 Lib.pow10Tab) :
    Calls Tryz.prog 47 #[.int .i64 n] w fun e w' => e = .returned (.string ⟨(Lib.itoa n).toArray⟩) ∧ ∃ k os, w' = grow (w.drewN k) os := Any.strconv_Itoa Tryz.laysM171 n h0 h1 w htab
def Tryz.lays219_ren : Go.Shelf.Ren := ⟨fun | 219 => 132 | 217 => 136 | 225 => 125 | 224 => 124 | 267 => 141 | 266 => 143 | 314 => 144 | n => n, fun | 9 => 9 | 3 => 3 | 4 => 4 | 5 => 5 | 46 => 138 | 146 => 205 | 51 => 101 | n => n, fun | 1 => 3 | n => n⟩
theorem Tryz.lays219 : Go.Proofs.Lays.n219 Tryz.prog Tryz.lays219_ren := {
  mixed := by kernel_rfl
  f217 := Tryz.func136.trans (congrArg some (by kernel_rfl))
  f219 := Tryz.func132.trans (congrArg some (by kernel_rfl))
  f224 := Tryz.func124.trans (congrArg some (by kernel_rfl))
  f225 := Tryz.func125.trans (congrArg some (by kernel_rfl))
  f266 := Tryz.func143.trans (congrArg some (by kernel_rfl))
  f267 := Tryz.func141.trans (congrArg some (by kernel_rfl))
  f314 := Tryz.func144.trans (congrArg some (by kernel_rfl))
  t3 := Tryz.underlying3
  a3 := Tryz.isAgg3
  z3 := Tryz.sizeOf3
  v3 := Tryz.zeroValue3
  t4 := Tryz.underlying4
  a4 := Tryz.isAgg4
  z4 := Tryz.sizeOf4
  v4 := Tryz.zeroValue4
  t5 := Tryz.underlying5
  a5 := Tryz.isAgg5
  z5 := Tryz.sizeOf5
  v5 := Tryz.zeroValue5
  t9 := Tryz.underlying9
  a9 := Tryz.isAgg9
  z9 := Tryz.sizeOf9
  v9 := Tryz.zeroValue9
  t46 := Tryz.underlying138
  a46 := Tryz.isAgg138
  z46 := Tryz.sizeOf138
  v46 := Tryz.zeroValue138
  t51 := Tryz.underlying101
  a51 := Tryz.isAgg101
  z51 := Tryz.sizeOf101
  v51 := Tryz.zeroValue101
  t146 := Tryz.underlying205
  a146 := Tryz.isAgg205
  z146 := Tryz.sizeOf205
  v146 := Tryz.zeroValue205
  g1 := by kernel_rfl }
open Go.RowKit Go.Lib in
theorem Tryz.stringslite_Index_one (s : ByteArray) (c : UInt8) (w : World) :
    Calls Tryz.prog 132 #[.string s, .string ⟨#[c]⟩] w fun e w' => e = .returned (.int .i64 (Lib.indexByte s.data.toList c)) ∧ w' = w := Any.stringslite_Index_one Tryz.lays219 s c w
def Tryz.lays203_ren : Go.Shelf.Ren := ⟨fun | 203 => 68 | 262 => 82 | 313 => 99 | 274 => 116 | 275 => 117 | n => n, fun | 21 => 21 | 4 => 4 | 3 => 3 | 162 => 165 | 203 => 163 | 160 => 187 | 46 => 138 | 0 => 0 | 208 => 202 | 51 => 101 | 206 => 200 | n => n, fun | 13 => 1 | n => n⟩
theorem Tryz.lays203 : Go.Proofs.Lays.n203 Tryz.prog Tryz.lays203_ren := {
  mixed := by kernel_rfl
  f203 := Tryz.func68.trans (congrArg some (by kernel_rfl))
  f262 := Tryz.func82.trans (congrArg some (by kernel_rfl))
  f274 := Tryz.func116.trans (congrArg some (by kernel_rfl))
  f275 := Tryz.func117.trans (congrArg some (by kernel_rfl))
  f313 := Tryz.func99.trans (congrArg some (by kernel_rfl))
  t0 := Tryz.underlying0
  a0 := Tryz.isAgg0
  z0 := Tryz.sizeOf0
  v0 := Tryz.zeroValue0
  t3 := Tryz.underlying3
  a3 := Tryz.isAgg3
  z3 := Tryz.sizeOf3
  v3 := Tryz.zeroValue3
  t4 := Tryz.underlying4
  a4 := Tryz.isAgg4
  z4 := Tryz.sizeOf4
  v4 := Tryz.zeroValue4
  t21 := Tryz.underlying21
  a21 := Tryz.isAgg21
  z21 := Tryz.sizeOf21
  v21 := Tryz.zeroValue21
  t46 := Tryz.underlying138
  a46 := Tryz.isAgg138
  z46 := Tryz.sizeOf138
  v46 := Tryz.zeroValue138
  t51 := Tryz.underlying101
  a51 := Tryz.isAgg101
  z51 := Tryz.sizeOf101
  v51 := Tryz.zeroValue101
  t160 := Tryz.underlying187
  a160 := Tryz.isAgg187
  z160 := Tryz.sizeOf187
  v160 := Tryz.zeroValue187
  t162 := Tryz.underlying165
  a162 := Tryz.isAgg165
  z162 := Tryz.sizeOf165
  v162 := Tryz.zeroValue165
  t203 := Tryz.underlying163
  a203 := Tryz.isAgg163
  z203 := Tryz.sizeOf163
  v203 := Tryz.zeroValue163
  t206 := Tryz.underlying200
  a206 := Tryz.isAgg200
  z206 := Tryz.sizeOf200
  v206 := Tryz.zeroValue200
  t208 := Tryz.underlying202
  a208 := Tryz.isAgg202
  z208 := Tryz.sizeOf202
  v208 := Tryz.zeroValue202
  g13 := by kernel_rfl }
def Tryz.lays152_ren : Go.Shelf.Ren := ⟨fun | 152 => 108 | 137 => 122 | 119 => 123 | 224 => 124 | 225 => 125 | 217 => 136 | 266 => 143 | n => n, fun | 9 => 9 | 21 => 21 | 3 => 3 | 4 => 4 | 5 => 5 | 0 => 0 | 46 => 138 | n => n, fun | n => n⟩
theorem Tryz.lays152 : Go.Proofs.Lays.n152 Tryz.prog Tryz.lays152_ren := {
  mixed := by kernel_rfl
  f119 := Tryz.func123.trans (congrArg some (by kernel_rfl))
  f137 := Tryz.func122.trans (congrArg some (by kernel_rfl))
  f152 := Tryz.func108.trans (congrArg some (by kernel_rfl))
  f217 := Tryz.func136.trans (congrArg some (by kernel_rfl))
  f224 := Tryz.func124.trans (congrArg some (by kernel_rfl))
  f225 := Tryz.func125.trans (congrArg some (by kernel_rfl))
  f266 := Tryz.func143.trans (congrArg some (by kernel_rfl))
  t0 := Tryz.underlying0
  a0 := Tryz.isAgg0
  z0 := Tryz.sizeOf0
  v0 := Tryz.zeroValue0
  t3 := Tryz.underlying3
  a3 := Tryz.isAgg3
  z3 := Tryz.sizeOf3
  v3 := Tryz.zeroValue3
  t4 := Tryz.underlying4
  a4 := Tryz.isAgg4
  z4 := Tryz.sizeOf4
  v4 := Tryz.zeroValue4
  t5 := Tryz.underlying5
  a5 := Tryz.isAgg5
  z5 := Tryz.sizeOf5
  v5 := Tryz.zeroValue5
  t9 := Tryz.underlying9
  a9 := Tryz.isAgg9
  z9 := Tryz.sizeOf9
  v9 := Tryz.zeroValue9
  t21 := Tryz.underlying21
  a21 := Tryz.isAgg21
  z21 := Tryz.sizeOf21
  v21 := Tryz.zeroValue21
  t46 := Tryz.underlying138
  a46 := Tryz.isAgg138
  z46 := Tryz.sizeOf138
  v46 := Tryz.zeroValue138 }
open Go.RowKit Go.Lib in
theorem Tryz.strings_IndexRune_ascii (s : ByteArray) (r : Int) (w : World) (h0 : 0 ≤ r) (h1 : r < 128) :
    Calls Tryz.prog 108 #[.string s, .int .i32 r] w fun e w' => e = .returned (.int .i64 (Lib.indexByte s.data.toList r.toNat.toUInt8)) ∧ w' = w := Any.strings_IndexRune_ascii Tryz.lays152 s r w h0 h1
def Tryz.lays226_ren : Go.Shelf.Ren := ⟨fun | 226 => 109 | n => n, fun | 3 => 3 | 4 => 4 | n => n, fun | n => n⟩
theorem Tryz.lays226 : Go.Proofs.Lays.n226 Tryz.prog Tryz.lays226_ren := {
  mixed := by kernel_rfl
  f226 := Tryz.func109.trans (congrArg some (by kernel_rfl))
  t3 := Tryz.underlying3
  a3 := Tryz.isAgg3
  z3 := Tryz.sizeOf3
  v3 := Tryz.zeroValue3
  t4 := Tryz.underlying4
  a4 := Tryz.isAgg4
  z4 := Tryz.sizeOf4
  v4 := Tryz.zeroValue4 }
open Go.RowKit Go.Lib in
theorem Tryz.strings_shouldUseASCIISet (n : Int) (w : World) :
    Calls Tryz.prog 109 #[.int .i64 n] w fun e w' => e = .returned (.bool (decide (8 < n))) ∧ w' = w := Any.strings_shouldUseASCIISet Tryz.lays226 n w
def Tryz.lays153_ren : Go.Shelf.Ren := ⟨fun | 153 => 90 | 152 => 108 | 226 => 109 | 227 => 110 | 228 => 111 | 137 => 122 | 119 => 123 | 224 => 124 | 225 => 125 | 217 => 136 | 266 => 143 | n => n, fun | 9 => 9 | 3 => 3 | 4 => 4 | 5 => 5 | 21 => 21 | 117 => 177 | 116 => 176 | 0 => 0 | 46 => 138 | 124 => 193 | n => n, fun | n => n⟩
theorem Tryz.lays153 : Go.Proofs.Lays.n153 Tryz.prog Tryz.lays153_ren := {
  mixed := by kernel_rfl
  f119 := Tryz.func123.trans (congrArg some (by kernel_rfl))
  f137 := Tryz.func122.trans (congrArg some (by kernel_rfl))
  f152 := Tryz.func108.trans (congrArg some (by kernel_rfl))
  f153 := Tryz.func90.trans (congrArg some (by kernel_rfl))
  f217 := Tryz.func136.trans (congrArg some (by kernel_rfl))
  f224 := Tryz.func124.trans (congrArg some (by kernel_rfl))
  f225 := Tryz.func125.trans (congrArg some (by kernel_rfl))
  f226 := Tryz.func109.trans (congrArg some (by kernel_rfl))
  f227 := Tryz.func110.trans (congrArg some (by kernel_rfl))
  f228 := Tryz.func111.trans (congrArg some (by kernel_rfl))
  f266 := Tryz.func143.trans (congrArg some (by kernel_rfl))
  t0 := Tryz.underlying0
  a0 := Tryz.isAgg0
  z0 := Tryz.sizeOf0
  v0 := Tryz.zeroValue0
  t3 := Tryz.underlying3
  a3 := Tryz.isAgg3
  z3 := Tryz.sizeOf3
  v3 := Tryz.zeroValue3
  t4 := Tryz.underlying4
  a4 := Tryz.isAgg4
  z4 := Tryz.sizeOf4
  v4 := Tryz.zeroValue4
  t5 := Tryz.underlying5
  a5 := Tryz.isAgg5
  z5 := Tryz.sizeOf5
  v5 := Tryz.zeroValue5
  t9 := Tryz.underlying9
  a9 := Tryz.isAgg9
  z9 := Tryz.sizeOf9
  v9 := Tryz.zeroValue9
  t21 := Tryz.underlying21
  a21 := Tryz.isAgg21
  z21 := Tryz.sizeOf21
  v21 := Tryz.zeroValue21
  t46 := Tryz.underlying138
  a46 := Tryz.isAgg138
  z46 := Tryz.sizeOf138
  v46 := Tryz.zeroValue138
  t116 := Tryz.underlying176
  a116 := Tryz.isAgg176
  z116 := Tryz.sizeOf176
  t117 := Tryz.underlying177
  a117 := Tryz.isAgg177
  z117 := Tryz.sizeOf177
  v117 := Tryz.zeroValue177
  t124 := Tryz.underlying193
  a124 := Tryz.isAgg193
  z124 := Tryz.sizeOf193
  v124 := Tryz.zeroValue193 }
open Go.RowKit Go.Lib in
theorem Tryz.strings_IndexAny_long (hv116 : ∀ w, (zeroValue 176).run Tryz.prog w = .ok (.agg (Array.replicate 256 (.bool false))) w) (s chars : ByteArray) (w : World) (h2 : 2 ≤ chars.size) (h8 : 8 < s.size) (hs : s.size < 4294967281) (hcs : chars.size < 4294967281) (hascii : ∀ (j : Nat) b, chars.data.toList[j]? = some b → b.toNat < 128) :
    Calls Tryz.prog 90 #[.string s, .string chars] w fun e w' => e = .returned (.int .i64 (Lib.indexAny s.data.toList chars.data.toList)) ∧ w' = ((w.alloc (.cells (Lib.setCells chars.data.toList) 176)).alloc (.cells (Lib.setCells chars.data.toList) 176)) := Any.strings_IndexAny_long Tryz.lays153 hv116 (by kernel_rfl) s chars w h2 h8 hs hcs hascii
def Tryz.lays105_ren : Go.Shelf.Ren := ⟨fun | 105 => 112 | 212 => 126 | 99 => 127 | 165 => 63 | 166 => 64 | 170 => 128 | 169 => 66 | 263 => 137 | 264 => 138 | 206 => 139 | 240 => 76 | 241 => 77 | 276 => 95 | 277 => 96 | n => n, fun | 9 => 9 | 3 => 3 | 4 => 4 | 20 => 20 | 0 => 0 | 46 => 138 | 109 => 194 | 5 => 5 | 72 => 122 | 76 => 126 | 51 => 101 | 146 => 205 | 53 => 82 | 148 => 207 | 70 => 120 | 37 => 35 | 75 => 125 | 127 => 139 | 164 => 159 | 80 => 129 | n => n, fun | n => n⟩
theorem Tryz.lays105 : Go.Proofs.Lays.n105 Tryz.prog Tryz.lays105_ren := {
  mixed := by kernel_rfl
  f99 := Tryz.func127.trans (congrArg some (by kernel_rfl))
  f105 := Tryz.func112.trans (congrArg some (by kernel_rfl))
  f165 := Tryz.func63.trans (congrArg some (by kernel_rfl))
  f166 := Tryz.func64.trans (congrArg some (by kernel_rfl))
  f169 := Tryz.func66.trans (congrArg some (by kernel_rfl))
  f170 := Tryz.func128.trans (congrArg some (by kernel_rfl))
  f206 := Tryz.func139.trans (congrArg some (by kernel_rfl))
  f212 := Tryz.func126.trans (congrArg some (by kernel_rfl))
  f240 := Tryz.func76.trans (congrArg some (by kernel_rfl))
  f241 := Tryz.func77.trans (congrArg some (by kernel_rfl))
  f263 := Tryz.func137.trans (congrArg some (by kernel_rfl))
  f264 := Tryz.func138.trans (congrArg some (by kernel_rfl))
  f276 := Tryz.func95.trans (congrArg some (by kernel_rfl))
  f277 := Tryz.func96.trans (congrArg some (by kernel_rfl))
  t0 := Tryz.underlying0
  a0 := Tryz.isAgg0
  z0 := Tryz.sizeOf0
  v0 := Tryz.zeroValue0
  t3 := Tryz.underlying3
  a3 := Tryz.isAgg3
  z3 := Tryz.sizeOf3
  v3 := Tryz.zeroValue3
  t4 := Tryz.underlying4
  a4 := Tryz.isAgg4
  z4 := Tryz.sizeOf4
  v4 := Tryz.zeroValue4
  t5 := Tryz.underlying5
  a5 := Tryz.isAgg5
  z5 := Tryz.sizeOf5
  v5 := Tryz.zeroValue5
  t9 := Tryz.underlying9
  a9 := Tryz.isAgg9
  z9 := Tryz.sizeOf9
  v9 := Tryz.zeroValue9
  t20 := Tryz.underlying20
  a20 := Tryz.isAgg20
  z20 := Tryz.sizeOf20
  v20 := Tryz.zeroValue20
  t37 := Tryz.underlying35
  a37 := Tryz.isAgg35
  z37 := Tryz.sizeOf35
  v37 := Tryz.zeroValue35
  t46 := Tryz.underlying138
  a46 := Tryz.isAgg138
  z46 := Tryz.sizeOf138
  v46 := Tryz.zeroValue138
  t51 := Tryz.underlying101
  a51 := Tryz.isAgg101
  z51 := Tryz.sizeOf101
  v51 := Tryz.zeroValue101
  t53 := Tryz.underlying82
  a53 := Tryz.isAgg82
  z53 := Tryz.sizeOf82
  v53 := Tryz.zeroValue82
  t70 := Tryz.underlying120
  a70 := Tryz.isAgg120
  z70 := Tryz.sizeOf120
  v70 := Tryz.zeroValue120
  t72 := Tryz.underlying122
  a72 := Tryz.isAgg122
  z72 := Tryz.sizeOf122
  v72 := Tryz.zeroValue122
  t75 := Tryz.underlying125
  a75 := Tryz.isAgg125
  z75 := Tryz.sizeOf125
  v75 := Tryz.zeroValue125
  t76 := Tryz.underlying126
  a76 := Tryz.isAgg126
  z76 := Tryz.sizeOf126
  v76 := Tryz.zeroValue126
  t109 := Tryz.underlying194
  a109 := Tryz.isAgg194
  z109 := Tryz.sizeOf194
  v109 := Tryz.zeroValue194
  t127 := Tryz.underlying139
  a127 := Tryz.isAgg139
  z127 := Tryz.sizeOf139
  v127 := Tryz.zeroValue139
  t146 := Tryz.underlying205
  a146 := Tryz.isAgg205
  z146 := Tryz.sizeOf205
  v146 := Tryz.zeroValue205
  t148 := Tryz.underlying207
  a148 := Tryz.isAgg207
  z148 := Tryz.sizeOf207
  v148 := Tryz.zeroValue207
  t164 := Tryz.underlying159
  a164 := Tryz.isAgg159
  z164 := Tryz.sizeOf159
  v164 := Tryz.zeroValue159 }
theorem Tryz.Builder_Extra_105 : Builder.Extra Tryz.prog Tryz.lays105_ren := {
  sizeBuilder := by kernel_rfl
  liesBuilder := by kernel_rfl
  t5 := Tryz.underlying5
  a5 := Tryz.isAgg5
  z5 := Tryz.sizeOf5
  v5 := Tryz.zeroValue5
  infoByte := by kernel_rfl
  cellsByte := by kernel_rfl
  sizeByte := by kernel_rfl
  neB5 := by decide }
open Go.RowKit Go.Lib in
theorem Tryz.strings_Repeat (s : ByteArray) (c : Nat) (w : World) (hc : c ≤ 9223372036854775807) (hlen : s.size * c ≤ 140737488355328) :
    Calls Tryz.prog 112 #[.string s, .int .i64 c] w fun e w' => e = .returned (.string ⟨(Lib.repeatL s.data.toList c).toArray⟩) ∧ Below w.heap.size w w' := Any.strings_Repeat Tryz.lays105 Tryz.Builder_Extra_105 s c w hc hlen
end Go.Proofs
namespace Go.Proofs.YtopnfojdmeageaaGreatDoor
open Go.RowKit
open Go.Proofs.Tryz
section
theorem bs_toList (l : List UInt8) : (bs l).toList = l := by simp [bs]
theorem trimLeft0 (l : List UInt8) (w : World) :
  Calls Tryz.prog 113 #[.string (bs l), .string ⟨#[48]⟩] w fun e w' => e = .returned (.string (bs (l.dropWhile (· == 48)))) ∧ w = w' :=
 (Tryz.strings_TrimLeft_one (bs l) 48 dD w).mono fun _ _ ⟨h1, h2⟩ => ⟨h1, h2.symm⟩
theorem bs_extract (l : List UInt8) (a b : Nat) : (bs l).extract a b = bs ((l.drop a).take (b - a)) := by
 apply ByteArray.ext
 simp [bs, ByteArray.data_extract]
theorem indexByte_yes (c : UInt8) (B : List UInt8) : ∀ A : List UInt8, c ∉ A → Lib.indexByte (A ++ c :: B) c = (A.length : Int)
 | [], _ => by simp [Lib.indexByte]
 | b :: A, h => by
  simp only [List.mem_cons, not_or] at h
  have ih := indexByte_yes c B A h.2
  have e3 : (b == c) = false := by rw [beq_eq_false_iff_ne]; exact fun e => h.1 e.symm
  have e4 : ((A.length : Int) == -1) = false := by rw [beq_eq_false_iff_ne]; omega
  simp [Lib.indexByte, e3, ih]
theorem indexByte_no (c : UInt8) : ∀ l : List UInt8, c ∉ l → Lib.indexByte l c = -1
 | [], _ => rfl
 | b :: l, h => by
  simp only [List.mem_cons, not_or] at h
  have ih := indexByte_no c l h.2
  have e3 : (b == c) = false := by rw [beq_eq_false_iff_ne]; exact fun e => h.1 e.symm
  simp [Lib.indexByte, e3, ih]
/-- where a byte is, and what is ahead of it and behind it -/
theorem split_at (c : UInt8) : ∀ l : List UInt8, c ∈ l → ∃ A B, l = A ++ c :: B ∧ c ∉ A
 | [], h => by cases h
 | b :: l, h => by
  by_cases e : c = b
  ·
   exact ⟨[], l, by rw [e]; rfl, by simp⟩
  ·
   rcases List.mem_cons.1 h with h | h
   ·
    exact absurd h e
   ·
    obtain ⟨A, B, h1, h2⟩ := split_at c l h
    exact ⟨b :: A, B, by rw [h1]; rfl, by simp [e, h2]⟩
theorem index1_yes (A B : List UInt8) (c : UInt8) (w : World) (h : c ∉ A) :
  Calls Tryz.prog 132 #[.string (bs (A ++ c :: B)), .string ⟨#[c]⟩] w fun e w' => e = .returned (.int .i64 (A.length : Int)) ∧ w = w' := by
 rw [← indexByte_yes c B A h]
 exact (Tryz.stringslite_Index_one (bs _) c w).mono fun _ _ ⟨h1, h2⟩ => ⟨h1, h2.symm⟩
theorem index1_no (l : List UInt8) (c : UInt8) (w : World) (h : c ∉ l) :
  Calls Tryz.prog 132 #[.string (bs l), .string ⟨#[c]⟩] w fun e w' => e = .returned (.int .i64 (-1)) ∧ w = w' := by
 rw [← indexByte_no c l h]
 exact (Tryz.stringslite_Index_one (bs _) c w).mono fun _ _ ⟨h1, h2⟩ => ⟨h1, h2.symm⟩
theorem ret_bool {a b : Bool} (h : a = b) : Ending.returned (.bool a) = Ending.returned (.bool b) := by rw [h]
theorem ret_ssb {a b a' b' : ByteArray} {c : Bool} (h1 : a = a') (h2 : b = b') : Ending.returned (.tuple #[.string a, .string b, .bool c]) = Ending.returned (.tuple #[.string a', .string b', .bool c]) := by
 rw [h1, h2]
set_option maxHeartbeats 400000 in
theorem slCut1_yes (A B : List UInt8) (c : UInt8) (w : World) (hl : (A ++ c :: B).length ≤ 100000000) (hc : c ∉ A) :
  Calls Tryz.prog 120 #[.string (bs (A ++ c :: B)), .string ⟨#[c]⟩] w fun e w' => e = .returned (.tuple #[.string (bs A), .string (bs B), .bool true]) ∧ Below w.heap.size w w' := by
 have hk : A.length < (A ++ c :: B).length := by simp
 have hA : (bs (A ++ c :: B)).extract 0 A.length = bs A := by
  rw [bs_extract]; simp
 have hB : (bs (A ++ c :: B)).extract (A.length + 1) (A ++ c :: B).length = bs B := by
  rw [bs_extract]
  have e : (A ++ c :: B).drop (A.length + 1) = B := by
   rw [← List.drop_drop]; simp
  rw [e, List.take_of_length_le (by simp; omega)]
 have hI := fun w => index1_yes A B c w hc
 have hs : (bs (A ++ c :: B)).size = (A ++ c :: B).length := bs_size _
 generalize A ++ c :: B = l at *
 generalize hkk : A.length = k at *
 clear hkk
 have hA' := hid hA; have hB' := hid hB; clear hA hB hc
 go_enter func120, ntmps120
 go_wp2_with (go_at_call 132; go_must (refine (hI _).mono ?_); rintro e w' ⟨rfl, rfl⟩)
 go_quiet (fail)
 go_wp2
 go_ret3
 exact ⟨ret_ssb hA'.out hB'.out, bdrewN _ _⟩
theorem slCut1_no (l : List UInt8) (c : UInt8) (w : World) (hc : c ∉ l) :
  Calls Tryz.prog 120 #[.string (bs l), .string ⟨#[c]⟩] w fun e w' => e = .returned (.tuple #[.string (bs l), .string (bs []), .bool false]) ∧ Below w.heap.size w w' := by
 have hI := fun w => index1_no l c w hc
 clear hc
 go_enter func120, ntmps120
 go_wp2_with (go_at_call 132; go_must (refine (hI _).mono ?_); rintro e w' ⟨rfl, rfl⟩)
 go_ret3
 exact ⟨rfl, Below.refl _ _⟩
theorem cut1_yes (A B : List UInt8) (c : UInt8) (w : World) (hl : (A ++ c :: B).length ≤ 100000000) (hc : c ∉ A) :
  Calls Tryz.prog 105 #[.string (bs (A ++ c :: B)), .string ⟨#[c]⟩] w fun e w' => e = .returned (.tuple #[.string (bs A), .string (bs B), .bool true]) ∧ Below w.heap.size w w' := by
 have hI := fun w => slCut1_yes A B c w hl hc
 clear hc hl
 go_enter func105, ntmps105
 go_wp2_with (go_at_call 120; go_must (refine (hI _).mono ?_); rintro e w' ⟨rfl, hb⟩)
 go_ret3
 exact ⟨rfl, hb⟩
theorem cut1_no (l : List UInt8) (c : UInt8) (w : World) (hc : c ∉ l) :
  Calls Tryz.prog 105 #[.string (bs l), .string ⟨#[c]⟩] w fun e w' => e = .returned (.tuple #[.string (bs l), .string (bs []), .bool false]) ∧ Below w.heap.size w w' := by
 have hI := fun w => slCut1_no l c w hc
 clear hc
 go_enter func105, ntmps105
 go_wp2_with (go_at_call 120; go_must (refine (hI _).mono ?_); rintro e w' ⟨rfl, hb⟩)
 go_ret3
 exact ⟨rfl, hb⟩
def isDig (b : UInt8) : Bool := decide (48 ≤ b.toNat) && decide (b.toNat ≤ 57)
theorem digs_contains (b : UInt8) : ([48, 49, 50, 51, 52, 53, 54, 55, 56, 57] : List UInt8).contains b = isDig b := by
 unfold isDig
 rw [Bool.eq_iff_iff]
 simp [← UInt8.toNat_inj]
 omega
theorem dropWhile_nil_iff (p : UInt8 → Bool) : ∀ l : List UInt8, l.dropWhile p = [] ↔ l.all p = true
 | [] => by simp
 | b :: l => by
  cases h : p b with
  | true => simp [h, dropWhile_nil_iff p l]
  | false => simp [h]
theorem trimS_nil_iff (l cs : List UInt8) : Lib.trimS l cs = [] ↔ l.all (cs.contains ·) = true := by
 unfold Lib.trimS Lib.trimLeftS Lib.trimRightS
 rw [dropWhile_nil_iff]
 constructor
 ·
  intro h
  cases hd : l.reverse.dropWhile (cs.contains ·) with
  | nil =>
   rw [dropWhile_nil_iff] at hd
   simpa using hd
  | cons x r =>
   exfalso
   rw [hd] at h
   have hx : cs.contains x = true := by
    simp at h
    simpa using h.2
   have := List.head_dropWhile_not (p := (cs.contains ·)) (l := l.reverse) (by rw [hd]; simp)
   simp only [hd, List.head_cons] at this
   rw [hx] at this; cases this
 ·
  intro h
  have : l.reverse.dropWhile (cs.contains ·) = [] := by
   rw [dropWhile_nil_iff]; simpa using h
  rw [this]; rfl
set_option maxHeartbeats 400000 in
theorem dec_plain (l : List UInt8) (w : World) (hl : l.length ≤ 100000000) :
  Calls Tryz.prog 106 #[.string (bs l)] w fun e w' => e = .returned (.bool (l.all isDig)) ∧ Below w.heap.size w w' := by
 have hT := fun w => Any.strings_Trim_laid Tryz.lays160 kR (bs l) ⟨#[48, 49, 50, 51, 52, 53, 54, 55, 56, 57]⟩ w (by rw [bs_size]; omega) dD (ascii_of_all dD)
 have hN : Lib.trimS l [48, 49, 50, 51, 52, 53, 54, 55, 56, 57] = [] ↔ l.all isDig = true := by
  rw [trimS_nil_iff]
  have : (fun x => ([48, 49, 50, 51, 52, 53, 54, 55, 56, 57] : List UInt8).contains x) = isDig := funext digs_contains
  rw [this]
 have HN := hid hN; clear hN
 go_enter func106, ntmps106
 go_wp2_with (go_at_call 121; go_must (refine (hT _).mono ?_); rintro e w' ⟨rfl, hb⟩)
 go_ret
 exact ⟨ret_bool (by rw [Bool.eq_iff_iff, List.isEmpty_iff]; exact HN.out), hb⟩
theorem ret_bs {m : Bool} {a b : ByteArray} (h : a = b) : Ending.returned (.tuple #[.bool m, .string a]) = Ending.returned (.tuple #[.bool m, .string b]) := by rw [h]
theorem bs_get0 (c : UInt8) (r : List UInt8) (h : 0 < (bs (c :: r)).size) : (bs (c :: r))[0]'h = c := rfl
theorem bs_tail (c : UInt8) (r : List UInt8) : (bs (c :: r)).extract 1 (r.length + 1) = bs r := by
 rw [bs_extract]; simp
theorem bs_ne (c : UInt8) (r : List UInt8) : (bs (c :: r)).toList.isEmpty = false := by simp [bs]
/-- an optional sign -/
def signedL : List UInt8 → Bool × List UInt8
 | [] => (false, [])
 | c :: r => if c = 45 then (true, r) else if c = 43 then (false, r) else (false, c :: r)
set_option maxHeartbeats 400000 in
theorem dec_signed (l : List UInt8) (w : World) (hl : l.length ≤ 100000000) :
  Calls Tryz.prog 89 #[.string (bs l)] w fun e w' => e = .returned (.tuple #[.bool (signedL l).1, .string (bs (signedL l).2)]) ∧ Below w.heap.size w w' := by
 cases l with
 | nil =>
  have hT := bs_toList
  go_enter func89, ntmps89
  go_wp2
  go_ret2
  exact ⟨rfl, Below.refl _ _⟩
 | cons c r =>
  have h0 := bs_get0 c r
  have hs : (bs (c :: r)).size = r.length + 1 := by rw [bs_size]; rfl
  have he := bs_ne c r
  have hb := bs_tail c r
  have Hb := hid hb
  simp only [List.length_cons] at hl
  by_cases h1 : c = 45
  ·
   subst h1
   generalize bs (45 :: r) = s at *
   clear hb
   go_enter func89, ntmps89
   go_wp2
   go_quiet (fail)
   go_wp2
   go_ret2
   exact ⟨ret_bs Hb.out, bdrewN _ _⟩
  ·
   by_cases h2 : c = 43
   ·
    subst h2
    generalize bs (43 :: r) = s at *
    clear hb
    go_enter func89, ntmps89
    go_wp2
    go_quiet (fail)
    go_wp2
    go_ret2
    exact ⟨ret_bs Hb.out, bdrewN _ _⟩
   ·
    have e1 : ((c.toNat : Int) == 45) = false := by
     rw [beq_eq_false_iff_ne]; intro h; exact h1 (UInt8.toNat_inj.1 (by show c.toNat = 45; omega))
    have e2 : ((c.toNat : Int) == 43) = false := by
     rw [beq_eq_false_iff_ne]; intro h; exact h2 (UInt8.toNat_inj.1 (by show c.toNat = 43; omega))
    have e3 : signedL (c :: r) = (false, c :: r) := by simp [signedL, h1, h2]
    rw [e3]
    generalize bs (c :: r) = s at *
    clear hb e3 h1 h2
    go_enter func89, ntmps89
    go_wp2
    go_ret2
    exact ⟨rfl, Below.refl _ _⟩
theorem results4 {fn : Func} {t u v x : Tmp} (h : fn.results = #[.tmp t, .tmp u, .tmp v, .tmp x]) (tmps : Array Value) (P : Program) (w : World) :
  (results fn tmps).run P w = .ok (.tuple #[tmps.getD t undef, tmps.getD u undef, tmps.getD v undef, tmps.getD x undef]) w := by
 simp [results, h]
theorem ret_ssbb {a b a' b' : ByteArray} {c d d' : Bool} (h1 : a = a') (h2 : b = b') (h3 : d = d') : Ending.returned (.tuple #[.string a, .string b, .bool c, .bool d]) = Ending.returned (.tuple #[.string a', .string b', .bool c, .bool d']) := by
 rw [h1, h2, h3]
/-- the whole part, what is behind the point, is there a point -/
def cutDot : List UInt8 → List UInt8 × List UInt8 × Bool
 | [] => ([], [], false)
 | c :: r => if c = 46 then ([], r, true) else (c :: (cutDot r).1, (cutDot r).2)
theorem cutDot_yes (B : List UInt8) : ∀ A : List UInt8, 46 ∉ A → cutDot (A ++ 46 :: B) = (A, B, true)
 | [], _ => by simp [cutDot]
 | c :: A, h => by
  simp only [List.mem_cons, not_or] at h
  have ih := cutDot_yes B A h.2
  simp [cutDot, ih, Ne.symm h.1]
theorem cutDot_no : ∀ l : List UInt8, 46 ∉ l → cutDot l = (l, [], false)
 | [], _ => rfl
 | c :: l, h => by
  simp only [List.mem_cons, not_or] at h
  have ih := cutDot_no l h.2
  simp [cutDot, ih, Ne.symm h.1]
theorem cutDot_len (l : List UInt8) : (cutDot l).1.length + (cutDot l).2.1.length ≤ l.length := by
 induction l with
 | nil => simp [cutDot]
 | cons c r ih => unfold cutDot; split <;> simp; omega
theorem dec_cut (l : List UInt8) (w : World) (hl : l.length ≤ 100000000) :
  Calls Tryz.prog 105 #[.string (bs l), .string ⟨#[46]⟩] w fun e w' => e = .returned (.tuple #[.string (bs (cutDot l).1), .string (bs (cutDot l).2.1), .bool (cutDot l).2.2]) ∧ Below w.heap.size w w' := by
 by_cases h : 46 ∈ l
 ·
  obtain ⟨A, B, rfl, hA⟩ := split_at 46 l h
  rw [cutDot_yes B A hA]; exact cut1_yes A B 46 w hl hA
 ·
  rw [cutDot_no l h]; exact cut1_no l 46 w h
def mantOk (l : List UInt8) : Bool := (cutDot l).1.all isDig && (cutDot l).2.1.all isDig && decide (0 < (cutDot l).1.length + (cutDot l).2.1.length)
set_option maxHeartbeats 400000 in
theorem dec_mantissa (l : List UInt8) (w : World) (hl : l.length ≤ 100000000) :
    Calls Tryz.prog 92 #[.string (bs l)] w fun e w' => e = .returned (.tuple #[.string (bs (cutDot l).1), .string (bs (cutDot l).2.1), .bool (cutDot l).2.2, .bool (mantOk l)]) ∧ Below w.heap.size w w' := by
  have hlen := cutDot_len l
  have hm : mantOk l = ((cutDot l).1.all isDig && (cutDot l).2.1.all isDig && decide (0 < (cutDot l).1.length + (cutDot l).2.1.length)) := rfl
  have hcut := fun w => dec_cut l w hl
  generalize mantOk l = ok at *
  generalize cutDot l = p at *
  obtain ⟨A, B, f⟩ := p
  simp only at hlen hm hcut
  have Hm := hid hm; clear hm
  have s1 : (bs A).size = A.length := bs_size A
  have s2 : (bs B).size = B.length := bs_size B
  by_cases hA : A.all isDig = true
  · by_cases hB : B.all isDig = true
    · have hok : ok = decide (0 < A.length + B.length) := by rw [Hm.out, hA, hB]; rfl
      have HA := hid hA; have HB := hid hB; have Hok := hid hok; clear hok hA hB
      go_enter func92, ntmps92
      go_wp2_with first | (go_at_call 105; go_must (refine (hcut _).mono ?_); rintro e w1 ⟨rfl, hb1⟩) | (go_at_call_of 106 (Value.string (bs A)); go_must (refine (dec_plain A _ oO).mono ?_); rintro e w2 ⟨rfl, hb2⟩; rw [HA.out]) | (go_at_call_of 106 (Value.string (bs B)); go_must (refine (dec_plain B _ oO).mono ?_); rintro e w3 ⟨rfl, hb3⟩; rw [HB.out])
      refine bodyPost_ret (results4 rfl _ _ _) rfl ?_
      refine ⟨ret_ssbb rfl rfl ?_, btr (btr hb1 hb2) hb3⟩
      rw [Hok.out, Bool.eq_iff_iff]; simp; omega
    · have hB' : B.all isDig = false := by simpa using hB
      have hok : ok = false := by rw [Hm.out, hA, hB']; rfl
      have HA := hid hA; have HB := hid hB'; have Hok := hid hok; clear hok hA hB hB'
      go_enter func92, ntmps92
      go_wp2_with first | (go_at_call 105; go_must (refine (hcut _).mono ?_); rintro e w1 ⟨rfl, hb1⟩) | (go_at_call_of 106 (Value.string (bs A)); go_must (refine (dec_plain A _ oO).mono ?_); rintro e w2 ⟨rfl, hb2⟩; rw [HA.out]) | (go_at_call_of 106 (Value.string (bs B)); go_must (refine (dec_plain B _ oO).mono ?_); rintro e w3 ⟨rfl, hb3⟩; rw [HB.out])
      refine bodyPost_ret (results4 rfl _ _ _) rfl ?_
      exact ⟨ret_ssbb rfl rfl Hok.out.symm, btr (btr hb1 hb2) hb3⟩
  · have hA' : A.all isDig = false := by simpa using hA
    have hok : ok = false := by rw [Hm.out, hA']; rfl
    have HA := hid hA'; have Hok := hid hok; clear hok hA hA'
    go_enter func92, ntmps92
    go_wp2_with first | (go_at_call 105; go_must (refine (hcut _).mono ?_); rintro e w1 ⟨rfl, hb1⟩) | (go_at_call_of 106 (Value.string (bs A)); go_must (refine (dec_plain A _ oO).mono ?_); rintro e w2 ⟨rfl, hb2⟩; rw [HA.out])
    refine bodyPost_ret (results4 rfl _ _ _) rfl ?_
    exact ⟨ret_ssbb rfl rfl Hok.out.symm, btr hb1 hb2⟩
end
section
def dbl : List Nat → List Nat × Nat
 | [] => ([], 0)
 | x :: r => ((2 * x + (dbl r).2) % 10 :: (dbl r).1, (2 * x + (dbl r).2) / 10)
theorem dbl_len (l : List Nat) : (dbl l).1.length = l.length := by
 induction l with
 | nil => rfl
 | cons x r ih => simp [dbl, ih]
theorem dbl_carry (l : List Nat) (h : ∀ x ∈ l, x < 10) : (dbl l).2 ≤ 1 := by
 induction l with
 | nil => simp [dbl]
 | cons x r ih =>
  have h1 := h x (by simp)
  have h2 := ih (fun y hy => h y (by simp [hy]))
  simp [dbl]; omega
theorem dbl_digits (l : List Nat) : ∀ x ∈ (dbl l).1, x < 10 := by
 induction l with
 | nil => simp [dbl]
 | cons x r ih =>
  intro y hy
  simp [dbl] at hy
  rcases hy with rfl | hy
  ·
   omega
  ·
   exact ih y hy
def u8s (l : List Nat) : List Value := l.map fun (x : Nat) => Value.int .u8 (x : Int)
theorem u8s_len (l : List Nat) : (u8s l).length = l.length := by simp [u8s]
theorem dbl_step (ds : List Nat) (j : Nat) (hj : j < ds.length) :
  dbl (ds.drop j) = ((2 * ds[j] + (dbl (ds.drop (j + 1))).2) % 10 :: (dbl (ds.drop (j + 1))).1, (2 * ds[j] + (dbl (ds.drop (j + 1))).2) / 10) := by
 rw [List.drop_eq_getElem_cons hj]; rfl
set_option maxHeartbeats 400000 in
theorem dec_double (b : Nat) (cap : Nat) (ds : List Nat) (w : World) (hr : BRow w b (u8s ds)) (hd : ∀ x ∈ ds, x < 10) (hl : ds.length ≤ maxLen) (B : Nat) (hB : B ≤ b) :
  Calls Tryz.prog 114 #[.slice (some ⟨b, 0, none⟩) ds.length cap] w fun e w' => e = .returned (.int .i64 (dbl ds).2) ∧ BRow w' b (u8s (dbl ds).1) ∧ Below B w w' := by
 unfold maxLen at hl
 go_enter func114, ntmps114
 go_wp2_with fail
 go_loopw [3, 4] (fun c i wr => ∃ (k : Nat) (i0 : Int), k ≤ ds.length ∧ i0 = (k : Int) - 1 ∧ i = .int .i64 i0 ∧ c = .int .u8 ((dbl (ds.drop k)).2 : Int) ∧ BRow wr b (u8s (ds.take k ++ (dbl (ds.drop k)).1)) ∧ Below B w wr) (fun _ i _ => (intOf i + 1).toNat)
 case atStart => exact ⟨ds.length, _, Nat.le_refl _, rfl, rfl, by simp [dbl], by simpa [dbl] using hr, Below.refl _ _⟩
 case round =>
  obtain ⟨k, i0, hk, hi0, rfl, rfl, hrow, hbel⟩ := hrel
  cases k with
  | zero =>
   obtain rfl : i0 = -1 := by omega
   clear hi0
   have hc := dbl_carry ds hd
   have e0 : ds.drop 0 = ds := by simp
   rw [e0] at hrow ⊢
   have Hrow := hid hrow; clear hrow
   go_wp2
   go_ret
   exact ⟨rfl, by simpa using Hrow.out, hbel⟩
  | succ j =>
   obtain rfl : i0 = (j : Int) := by omega
   clear hi0
   have hj : j < ds.length := by omega
   have hc := dbl_carry (ds.drop (j + 1)) (fun x hx => hd x (List.mem_of_mem_drop hx))
   have hx := hd ds[j] (by simp)
   have hst := dbl_step ds j hj
   have hsz := hbel.size
   obtain ⟨hcell, hfz⟩ := hrow j (.int .u8 (ds[j] : Int)) (by
    have hl1 : j < (ds.take (j + 1)).length := by simp; omega
    rw [u8s, List.getElem?_map, List.getElem?_append_left hl1, List.getElem?_take, if_pos oO, List.getElem?_eq_getElem hj]; rfl)
   have hset := hrow.set j (.int .u8 ((2 * (ds[j] : Int) + ((dbl (ds.drop (j + 1))).2 : Int)) % 10)) (by simp [u8s]; omega)
   have Hset := hid hset; have Hst := hid hst; clear hset hst hrow hr
   generalize hgc : (dbl (ds.drop (j + 1))).2 = c at *
   generalize hgx : ds[j] = x at *
   have Hgc := hid hgc; have Hgx := hid hgx; clear hgc hgx
   go_wp2
   refine ⟨⟨j, _, by omega, rfl, rfl, ?_, ?_, hbel.setCell hB _⟩, by simp [intOf]⟩
   ·
    rw [Hst.out]; go_num
   ·
    have e : (u8s (List.take (j + 1) ds ++ (dbl (List.drop (j + 1) ds)).fst)).set j (Value.int IntKind.u8 ((2 * (x : Int) + (c : Int)) % 10)) = u8s (List.take j ds ++ (dbl (List.drop j ds)).fst) := by
     rw [Hst.out]
     rw [List.take_succ_eq_append_getElem hj]
     have hl1 : (List.map (fun (x : Nat) => Value.int .u8 (x : Int)) (List.take j ds)).length = j := by simp; omega
     simp only [u8s, List.map_append, List.append_assoc]
     rw [List.set_append_right _ _ oO, hl1, Nat.sub_self]
     simp
    rw [← e]; exact Hset.out
/-- k rounds: the whole part doubled, what goes over added -/
def rounds : Nat → Int → List Nat → Int × List Nat
 | 0, n, d => (n, d)
 | k + 1, n, d => rounds k (2 * n + (dbl d).2) (dbl d).1
def digitsOf (l : List UInt8) : List Nat := l.map fun c => c.toNat - 48
def natOf (l : List UInt8) : Nat := l.foldl (fun n c => 10 * n + (c.toNat - 48)) 0
/-- a number by its digits ahead of and behind the point, without its sign; none: too great -/
def rawL (whole rest : List UInt8) : Option Int :=
 if 5 < (whole.dropWhile (· == 48)).length then none
 else some ((rounds 16 (natOf (whole.dropWhile (· == 48))) (digitsOf rest)).1 + (dbl (rounds 16 (natOf (whole.dropWhile (· == 48))) (digitsOf rest)).2).2)
def valueL (minus : Bool) (whole rest : List UInt8) : Int × Bool :=
 match rawL whole rest with
 | none => (0, false)
 | some n => let m := if minus then -n else n; (m, fitsB m)
theorem natOf_snoc (l : List UInt8) (c : UInt8) : natOf (l ++ [c]) = 10 * natOf l + (c.toNat - 48) := by simp [natOf]
theorem natOf_from (l : List UInt8) (h : ∀ c ∈ l, isDig c = true) : ∀ n, l.foldl (fun n c => 10 * n + (c.toNat - 48)) n < (n + 1) * 10 ^ l.length := by
 induction l with
 | nil => intro n; simp
 | cons c r ih =>
  intro n
  have h1 := ih (fun x hx => h x (by simp [hx])) (10 * n + (c.toNat - 48))
  have h2 := h c (by simp)
  simp [isDig] at h2
  rw [List.foldl_cons, List.length_cons, Nat.pow_succ]
  have h3 : (10 * n + (c.toNat - 48) + 1) * 10 ^ r.length ≤ (n + 1) * (10 ^ r.length * 10) := by
   rw [Nat.mul_comm (10 ^ r.length) 10, ← Nat.mul_assoc]
   exact Nat.mul_le_mul_right _ oO
  omega
theorem natOf_lt (l : List UInt8) (h : ∀ c ∈ l, isDig c = true) : natOf l < 10 ^ l.length := by
 have := natOf_from l h 0
 rw [Nat.zero_add, Nat.one_mul] at this
 exact this
theorem digitsOf_lt (l : List UInt8) (h : ∀ c ∈ l, isDig c = true) : ∀ x ∈ digitsOf l, x < 10 := by
 intro x hx
 simp [digitsOf] at hx
 obtain ⟨c, hc, rfl⟩ := hx
 have h2 := h c hc
 simp [isDig] at h2
 omega
theorem dec_value_big (minus : Bool) (whole rest : List UInt8) (w : World) (hb : 5 < (whole.dropWhile (· == 48)).length) :
  Calls Tryz.prog 94 #[.bool minus, .string (bs whole), .string (bs rest)] w fun e w' => e = .returned (.tuple #[.int .i64 0, .bool false]) ∧ Below w.heap.size w w' := by
 have hs := bs_size (whole.dropWhile (· == 48))
 have hT := fun w => trimLeft0 whole w
 generalize whole.dropWhile (· == 48) = t at *
 go_enter func94, ntmps94
 go_wp2_with (go_at_call 113; go_must (refine (hT _).mono ?_); rintro e w1 ⟨rfl, rfl⟩)
 go_ret2
 exact ⟨rfl, Below.refl _ _⟩
theorem byteVals_at (l : List UInt8) (k : Nat) (h : k < l.length) : (byteVals l)[k]? = some (.int .u8 (l[k].toNat : Int)) := by
 unfold byteVals
 rw [List.getElem?_map, List.getElem?_eq_getElem h]; rfl
theorem natOf_take (l : List UInt8) (k : Nat) (h : k < l.length) : natOf (l.take (k + 1)) = 10 * natOf (l.take k) + (l[k].toNat - 48) := by
 rw [List.take_succ_eq_append_getElem h, natOf_snoc]
theorem natOf_take_lt (l : List UInt8) (k : Nat) (hl : l.length ≤ 5) (h : ∀ c ∈ l, isDig c = true) : natOf (l.take k) < 100000 := by
 have h1 := natOf_lt (l.take k) (fun c hc => h c (List.mem_of_mem_take hc))
 have h2 : 10 ^ (l.take k).length ≤ 10 ^ 5 := Nat.pow_le_pow_right dD (by simp; omega)
 omega
theorem isDig_bounds {c : UInt8} (h : isDig c = true) : 48 ≤ c.toNat ∧ c.toNat ≤ 57 := by
 simpa [isDig] using h
theorem dec_double' (b : Nat) (cap n : Nat) (ds : List Nat) (w : World) (hn : ds.length = n) (hr : BRow w b (u8s ds)) (hd : ∀ x ∈ ds, x < 10) (hl : n ≤ 3000) (B : Nat) (hB : B ≤ b) :
  Calls Tryz.prog 114 #[.slice (some ⟨b, 0, none⟩) n cap] w fun e w' => e = .returned (.int .i64 (dbl ds).2) ∧ BRow w' b (u8s (dbl ds).1) ∧ Below B w w' := by
 subst hn
 exact dec_double b cap ds w hr hd (by unfold maxLen; omega) B hB
theorem u8s_append (a b : List Nat) : u8s (a ++ b) = u8s a ++ u8s b := by simp [u8s]
theorem digitsOf_len (l : List UInt8) : (digitsOf l).length = l.length := by simp [digitsOf]
theorem mix_at (l : List UInt8) (k : Nat) (h : k < l.length) : (u8s ((digitsOf l).take k) ++ byteVals (l.drop k))[k]? = some (.int .u8 (l[k].toNat : Int)) := by
 have e : (u8s ((digitsOf l).take k)).length = k := by rw [u8s_len, List.length_take, digitsOf_len]; omega
 rw [List.getElem?_append_right oO, e, Nat.sub_self, List.drop_eq_getElem_cons h]; rfl
theorem mix_set (l : List UInt8) (k : Nat) (h : k < l.length) (h1 : 48 ≤ l[k].toNat) : (u8s ((digitsOf l).take k) ++ byteVals (l.drop k)).set k (.int .u8 ((l[k].toNat : Int) - 48)) = u8s ((digitsOf l).take (k + 1)) ++ byteVals (l.drop (k + 1)) := by
 have e : (u8s ((digitsOf l).take k)).length = k := by rw [u8s_len, List.length_take, digitsOf_len]; omega
 rw [List.set_append_right _ _ oO, e, Nat.sub_self, List.drop_eq_getElem_cons h, List.take_succ_eq_append_getElem (by rw [digitsOf_len]; exact h), u8s_append, List.append_assoc]
 congr 1
 have e2 : (digitsOf l)[k]'(by rw [digitsOf_len]; exact h) = l[k].toNat - 48 := by simp [digitsOf]
 have e3 : ((l[k].toNat - 48 : Nat) : Int) = (l[k].toNat : Int) - 48 := by omega
 rw [e2]
 simp only [u8s, List.map_cons, List.map_nil, e3]
 rfl
set_option maxRecDepth 100000 in
set_option maxHeartbeats 2000000 in
theorem dec_value_fit (minus : Bool) (whole rest : List UInt8) (w : World) (h1 : (whole.dropWhile (· == 48)).length ≤ 5) (h2 : rest.length ≤ 3000) (h3 : ∀ c ∈ whole, isDig c = true) (h4 : ∀ c ∈ rest, isDig c = true) :
    Calls Tryz.prog 94 #[.bool minus, .string (bs whole), .string (bs rest)] w fun e w' => e = .returned (.tuple #[.int .i64 (valueL minus whole rest).1, .bool (valueL minus whole rest).2]) ∧ Below w.heap.size w w' := by
  have hT := fun w => trimLeft0 whole w
  have hv : valueL minus whole rest = (let m := if minus then -((rounds 16 (natOf (whole.dropWhile (· == 48))) (digitsOf rest)).1 + (dbl (rounds 16 (natOf (whole.dropWhile (· == 48))) (digitsOf rest)).2).2) else ((rounds 16 (natOf (whole.dropWhile (· == 48))) (digitsOf rest)).1 + (dbl (rounds 16 (natOf (whole.dropWhile (· == 48))) (digitsOf rest)).2).2); (m, fitsB m)) := by
    unfold valueL rawL
    rw [if_neg oO]
  have ht : ∀ c ∈ whole.dropWhile (· == 48), isDig c = true := fun c hc => h3 c (List.dropWhile_sublist _ |>.subset hc)
  clear h3
  generalize whole.dropWhile (· == 48) = t at *
  have hs := bs_size t
  have hs2 := bs_size rest
  have Hv := hid hv; have Ht := hid ht; have H4 := hid h4; clear hv ht h4
  go_enter func94, ntmps94
  go_wp2_with first | (go_at_call 113; go_must (refine (hT _).mono ?_); rintro e w1 ⟨rfl, rfl⟩) | (refine wpList_conv_bytes rfl _ _ _ _ rfl underlying9 underlying35 underlying5 _ rfl ?_; intro cap w1 hcap hrow hg hsz)
  have hb1 := below_of_grown hg
  have Hrow := hid hrow; clear hrow hg hT
  go_loop [8, 10, 21] (fun n _ i => ∃ k : Nat, k ≤ t.length ∧ i = .int .i64 k ∧ n = .int .i64 (natOf (t.take k) : Int)) (fun _ _ i => t.length - (intOf i).toNat)
  case atStart => exact ⟨0, Nat.zero_le _, rfl, rfl⟩
  case round =>
    obtain ⟨k, hk, rfl, rfl⟩ := hrel
    have hlt := natOf_take_lt t k h1 Ht.out
    by_cases hkl : k < t.length
    · have hstep := natOf_take t k hkl
      have hd := isDig_bounds (Ht.out t[k] (by simp))
      have hc := (Hrow.out k _ (byteVals_at t k hkl)).1
      have Hstep := hid hstep; clear hstep
      generalize natOf (t.take k) = N at *
      generalize t[k].toNat = c at *
      go_wp2
      go_round
      case rel => exact ⟨k + 1, by omega, by go_num, by rw [Hstep.out]; go_num⟩
      case measure => simp [intOf]; omega
    · obtain rfl : k = t.length := by omega
      rw [List.take_length] at hlt
      rw [List.take_length]
      clear Hrow
      go_wp2_with (refine wpList_conv_bytes rfl _ _ _ _ rfl underlying9 underlying35 underlying5 _ rfl ?_; intro cap2 w2 hcap2 hrow hg hsz2)
      have hb2 := btr hb1 (below_of_grown hg)
      rw [hsz] at hrow
      have hB : w.heap.size ≤ w.heap.size + 1 := by omega
      clear hcap hg hb1
      go_loopw [12, 36] (fun _ i wr => ∃ k : Nat, k ≤ rest.length ∧ i = .int .i64 k ∧ BRow wr (w.heap.size + 1) (u8s ((digitsOf rest).take k) ++ byteVals (rest.drop k)) ∧ Below w.heap.size w wr) (fun _ i _ => rest.length - (intOf i).toNat)
      case atStart => exact ⟨0, Nat.zero_le _, rfl, by simpa [u8s] using (show BRow w2 (w.heap.size + 1) (byteVals rest) from hrow), hb2⟩
      case round =>
        obtain ⟨k, hk, rfl, hrow2, hbel⟩ := hrel
        clear hrow hb2 hsz hsz2 hcap2
        by_cases hkl : k < rest.length
        · have hd := isDig_bounds (H4.out rest[k] (by simp))
          obtain ⟨hc, hfz⟩ := hrow2 k _ (mix_at rest k hkl)
          have hset := hrow2.set k (.int .u8 ((rest[k].toNat : Int) - 48)) (by
            have := (List.getElem?_eq_some_iff.1 (mix_at rest k hkl)).1; exact this)
          rw [mix_set rest k hkl hd.1] at hset
          have Hset := hid hset; clear hset hrow2
          generalize rest[k].toNat = c at *
          go_wp2
          go_roundw
          case rel => exact ⟨k + 1, by omega, by go_num, Hset.out, hbel.setCell hB _⟩
          case measure => simp [intOf]; omega
        · obtain rfl : k = rest.length := by omega
          have hrow3 : BRow wr (w.heap.size + 1) (u8s (digitsOf rest)) := by
            have e1 : (digitsOf rest).take rest.length = digitsOf rest := List.take_of_length_le (by rw [digitsOf_len]; omega)
            have e2 : rest.drop rest.length = [] := by simp
            rw [e1, e2] at hrow2
            simpa [byteVals] using hrow2
          have Hrow3 := hid hrow3; clear hrow2 hrow3
          have hdl := digitsOf_len rest
          have hdd := digitsOf_lt rest H4.out
          have Hdl := hid hdl; have Hdd := hid hdd; clear hdl hdd
          generalize digitsOf rest = d0 at *
          generalize natOf t = n0 at *
          obtain ⟨wo, rfl⟩ : ∃ wo : World, wo = wr := ⟨_, rfl⟩
          go_wp2
          go_loopw [8, 46] (fun n i wr => ∃ (k : Nat) (N : Int) (d : List Nat), k ≤ 16 ∧ i = .int .i64 k ∧ n = .int .i64 N ∧ 0 ≤ N ∧ N + 1 ≤ 100000 * 2 ^ k ∧ d.length = rest.length ∧ (∀ x ∈ d, x < 10) ∧ BRow wr (w.heap.size + 1) (u8s d) ∧ Below w.heap.size w wr ∧ rounds (16 - k) N d = rounds 16 n0 d0) (fun _ i _ => 16 - (intOf i).toNat)
          case atStart => exact ⟨0, n0, d0, by omega, rfl, rfl, by omega, by simp; omega, Hdl.out, Hdd.out, Hrow3.out, hbel, rfl⟩
          case round =>
            obtain ⟨k, N, d, hk, rfl, rfl, hN0, hN1, hdl, hdd, hrow, hbel2, hrr⟩ := hrel
            have hpow : (2 : Int) ^ k ≤ 65536 := by
              have h := Nat.pow_le_pow_right (show 0 < 2 by decide) hk
              have h2 : ((2 ^ k : Nat) : Int) ≤ ((2 ^ 16 : Nat) : Int) := by exact_mod_cast h
              simpa using h2
            have hN2 : N < 6553600000 := by omega
            have hcy := dbl_carry d hdd
            have hsz3 := hbel2.size
            have Hrr := hid hrr; have Hdl2 := hid hdl; have Hdd2 := hid hdd; have HN1 := hid hN1
            have Hrow := hid hrow
            clear hrr hdl hdd hN1 hrow hbel hpow
            by_cases hk16 : k < 16
            · go_wp2_with (go_at_call 114; go_must (refine (dec_double' _ _ _ d _ Hdl2.out Hrow.out Hdd2.out h2 w.heap.size hB).mono ?_); rintro e w4 ⟨rfl, hrow4, hb4⟩)
              go_roundw
              case rel =>
                refine ⟨k + 1, 2 * N + (dbl d).2, (dbl d).1, by omega, by go_num, by go_num, by omega, ?_, by rw [dbl_len]; exact Hdl2.out, dbl_digits d, hrow4, hbel2.trans hb4, ?_⟩
                · have := HN1.out
                  rw [Int.pow_succ]; omega
                · rw [← Hrr.out, show 16 - k = (16 - (k + 1)) + 1 from by omega]; rfl
              case measure => simp [intOf]; omega
            · obtain rfl : k = 16 := by omega
              have hrd : (rounds 16 n0 d0) = (N, d) := by rw [← Hrr.out]; rfl
              have Hrd := hid hrd; clear hrd
              cases minus with
              | true =>
                go_wp2_with first | (go_at_call 114; go_must (refine (dec_double' _ _ _ d _ Hdl2.out Hrow.out Hdd2.out h2 w.heap.size hB).mono ?_); rintro e w4 ⟨rfl, hrow4, hb4⟩) | (go_at_call 71; go_must (refine (fix_Fits _ _).mono ?_); rintro e w5 ⟨rfl, rfl⟩)
                go_ret2
                refine ⟨?_, hbel2.trans hb4⟩
                rw [Hv.out, Hrd.out]; rfl
              | false =>
                go_wp2_with first | (go_at_call 114; go_must (refine (dec_double' _ _ _ d _ Hdl2.out Hrow.out Hdd2.out h2 w.heap.size hB).mono ?_); rintro e w4 ⟨rfl, hrow4, hb4⟩) | (go_at_call 71; go_must (refine (fix_Fits _ _).mono ?_); rintro e w5 ⟨rfl, rfl⟩)
                go_ret2
                refine ⟨?_, hbel2.trans hb4⟩
                rw [Hv.out, Hrd.out]; rfl
end
section
theorem ext_take (l : List UInt8) (n : Nat) : (bs l).extract 0 n = bs (l.take n) := by rw [bs_extract]; simp
theorem ext_drop (l : List UInt8) (n m : Nat) (h : m = l.length) : (bs l).extract n m = bs (l.drop n) := by
 subst h; rw [bs_extract, List.take_of_length_le (by simp)]
end
section
/-- digits ahead of the point, and those behind it -/
def wholeD (digits : List UInt8) (p : Int) : List UInt8 := digits.take p.toNat ++ List.replicate (p.toNat - digits.length) 48
def restD (digits : List UInt8) (p : Int) : List UInt8 := List.replicate (-p).toNat 48 ++ digits.drop p.toNat
theorem natOf_mono (a b : List UInt8) : natOf a ≤ natOf (a ++ b) := by
 unfold natOf
 rw [List.foldl_append]
 generalize a.foldl (fun n c => 10 * n + (c.toNat - 48)) 0 = n
 induction b generalizing n with
 | nil => simp
 | cons c r ih =>
  rw [List.foldl_cons]
  exact Nat.le_trans oO (ih _)
theorem natOf_take_le (l : List UInt8) (k : Nat) : natOf (l.take k) ≤ natOf l := by
 conv => rhs; rw [← List.take_append_drop k l]
 exact natOf_mono _ _
theorem natOf_ge (l : List UInt8) (n : Nat) : n * 10 ^ l.length ≤ l.foldl (fun n c => 10 * n + (c.toNat - 48)) n := by
 induction l generalizing n with
 | nil => simp
 | cons c r ih =>
  rw [List.foldl_cons, List.length_cons, Nat.pow_succ]
  refine Nat.le_trans ?_ (ih _)
  rw [Nat.mul_comm (10 ^ r.length) 10, ← Nat.mul_assoc]
  exact Nat.mul_le_mul_right _ oO
end
section
theorem dec_value (minus : Bool) (whole rest : List UInt8) (w : World) (h2 : rest.length ≤ 3000) (h3 : ∀ c ∈ whole, isDig c = true) (h4 : ∀ c ∈ rest, isDig c = true) :
    Calls Tryz.prog 94 #[.bool minus, .string (bs whole), .string (bs rest)] w fun e w' => e = .returned (.tuple #[.int .i64 (valueL minus whole rest).1, .bool (valueL minus whole rest).2]) ∧ Below w.heap.size w w' := by
  by_cases hb : 5 < (whole.dropWhile (· == 48)).length
  · have hv : valueL minus whole rest = (0, false) := by unfold valueL rawL; rw [if_pos hb]
    rw [hv]
    exact dec_value_big minus whole rest w hb
  · exact dec_value_fit minus whole rest w oO h2 h3 h4
theorem signedL_len (l : List UInt8) : (signedL l).2.length ≤ l.length := by
 cases l with
 | nil => simp [signedL]
 | cons c r =>
  simp only [signedL]
  split
  ·
   simp
  ·
   split <;> simp
theorem mantOk_digits (l : List UInt8) (h : mantOk l = true) : (∀ c ∈ (cutDot l).1, isDig c = true) ∧ (∀ c ∈ (cutDot l).2.1, isDig c = true) := by
 simp only [mantOk, Bool.and_eq_true, List.all_eq_true] at h
 exact ⟨h.1.1, h.1.2⟩
theorem wholeD_digits (digits : List UInt8) (p : Int) (h : ∀ c ∈ digits, isDig c = true) : ∀ c ∈ wholeD digits p, isDig c = true := by
 intro c hc
 rw [wholeD, List.mem_append] at hc
 rcases hc with hc | hc
 ·
  exact h c (List.mem_of_mem_take hc)
 ·
  rw [List.mem_replicate] at hc; rw [hc.2]; rfl
theorem restD_digits (digits : List UInt8) (p : Int) (h : ∀ c ∈ digits, isDig c = true) : ∀ c ∈ restD digits p, isDig c = true := by
 intro c hc
 rw [restD, List.mem_append] at hc
 rcases hc with hc | hc
 ·
  rw [List.mem_replicate] at hc; rw [hc.2]; rfl
 ·
  exact h c (List.mem_of_mem_drop hc)
end
section
/-- a digit of any base; 99: none -/
def hexN (c : UInt8) : Nat :=
 if 48 ≤ c.toNat ∧ c.toNat ≤ 57 then c.toNat - 48 else if 97 ≤ c.toNat ∧ c.toNat ≤ 122 then c.toNat - 87 else if 65 ≤ c.toNat ∧ c.toNat ≤ 90 then c.toNat - 55 else 99
theorem hexN_le (c : UInt8) : hexN c ≤ 99 := by unfold hexN; split <;> (try split) <;> (try split) <;> omega
theorem ret_int {k : IntKind} {a b : Int} (h : a = b) : Ending.returned (.int k a) = .returned (.int k b) := by rw [h]
set_option maxHeartbeats 1000000 in
theorem dec_digit (c : UInt8) (w : World) :
    Calls Tryz.prog 107 #[.int .u8 (c.toNat : Int)] w fun e w' => e = .returned (.int .i64 (hexN c)) ∧ w = w' := by
  have hc : c.toNat < 256 := UInt8.toNat_lt c
  have hh : hexN c = if 48 ≤ c.toNat ∧ c.toNat ≤ 57 then c.toNat - 48 else if 97 ≤ c.toNat ∧ c.toNat ≤ 122 then c.toNat - 87 else if 65 ≤ c.toNat ∧ c.toNat ≤ 90 then c.toNat - 55 else 99 := rfl
  have Hh := hid hh; clear hh
  generalize c.toNat = n at *
  by_cases h1 : 48 ≤ n ∧ n ≤ 57
  · obtain ⟨h1a, h1b⟩ := h1
    go_enter func107, ntmps107
    go_wp2
    go_ret
    exact ⟨ret_int (by rw [Hh.out, if_pos ⟨h1a, h1b⟩]; omega), rfl⟩
  · have h1' : n < 48 ∨ 57 < n := by omega
    by_cases h2 : 97 ≤ n ∧ n ≤ 122
    · obtain ⟨h2a, h2b⟩ := h2
      have H1 := hid h1; clear h1 h1'
      go_enter func107, ntmps107
      go_wp2
      go_ret
      exact ⟨ret_int (by rw [Hh.out, if_neg H1.out, if_pos ⟨h2a, h2b⟩]; omega), rfl⟩
    · have h2' : n < 97 ∨ 122 < n := by omega
      by_cases h3 : 65 ≤ n ∧ n ≤ 90
      · obtain ⟨h3a, h3b⟩ := h3
        have H1 := hid h1; have H2 := hid h2; clear h1 h1' h2 h2'
        go_enter func107, ntmps107
        go_wp2
        go_ret
        exact ⟨ret_int (by rw [Hh.out, if_neg H1.out, if_neg H2.out, if_pos ⟨h3a, h3b⟩]; omega), rfl⟩
      · have h3' : n < 65 ∨ 90 < n := by omega
        have H1 := hid h1; have H2 := hid h2; have H3 := hid h3; clear h1 h2 h3
        go_enter func107, ntmps107
        go_wp2
        all_goals
          go_ret
          exact ⟨ret_int (by rw [Hh.out, if_neg H1.out, if_neg H2.out, if_neg H3.out]; rfl), rfl⟩
/-- digits, held at a bound -/
def satOf (l : List UInt8) : Nat := l.foldl (fun n c => min (10 * n + (c.toNat - 48)) 1099511627776) 0
/-- a number of 32 bits, or false -/
def wholeT (l : List UInt8) : Int × Bool :=
 if (signedL l).2.isEmpty || !(signedL l).2.all isDig then (0, false)
 else let n : Int := if (signedL l).1 then -(satOf (signedL l).2 : Int) else satOf (signedL l).2
  (n, decide (-2147483648 ≤ n) && decide (n ≤ 2147483647))
/-- the number behind an e -/
def powerL (l : List UInt8) : Int × Bool :=
 if (signedL l).2.isEmpty || decide (3 < (signedL l).2.length) || !(signedL l).2.all isDig then (0, false)
 else (if (signedL l).1 then -(natOf (signedL l).2 : Int) else natOf (signedL l).2, true)
theorem satOf_snoc (l : List UInt8) (c : UInt8) : satOf (l ++ [c]) = min (10 * satOf l + (c.toNat - 48)) 1099511627776 := by simp [satOf]
theorem satOf_take (l : List UInt8) (k : Nat) (h : k < l.length) : satOf (l.take (k + 1)) = min (10 * satOf (l.take k) + (l[k].toNat - 48)) 1099511627776 := by
 rw [List.take_succ_eq_append_getElem h, satOf_snoc]
theorem satOf_from (l : List UInt8) : ∀ n, n ≤ 1099511627776 → l.foldl (fun n c => min (10 * n + (c.toNat - 48)) 1099511627776) n = min (l.foldl (fun n c => 10 * n + (c.toNat - 48)) n) 1099511627776 := by
 induction l with
 | nil => intro n h; simp; omega
 | cons c r ih =>
  intro n h
  rw [List.foldl_cons, List.foldl_cons, ih _ oO]
  by_cases hb : 10 * n + (c.toNat - 48) ≤ 1099511627776
  ·
   rw [Nat.min_eq_left hb]
  ·
   have h1 := natOf_ge r (min (10 * n + (c.toNat - 48)) 1099511627776)
   have h2 := natOf_ge r (10 * n + (c.toNat - 48))
   have h3 : 1 ≤ 10 ^ r.length := Nat.one_le_pow _ _ dD
   have e : min (10 * n + (c.toNat - 48)) 1099511627776 = 1099511627776 := by omega
   rw [e] at h1 ⊢
   have h4 : 1099511627776 * 1 ≤ 1099511627776 * 10 ^ r.length := Nat.mul_le_mul_left _ h3
   have h5 : 1099511627776 * 10 ^ r.length ≤ (10 * n + (c.toNat - 48)) * 10 ^ r.length := Nat.mul_le_mul_right _ oO
   omega
theorem satOf_eq (l : List UInt8) : satOf l = min (natOf l) 1099511627776 := satOf_from l 0 oO
theorem ret_ib2 {a b : Int} {c d : Bool} (h : a = b) (h' : c = d) : Ending.returned (.tuple #[.int .i64 a, .bool c]) = Ending.returned (.tuple #[.int .i64 b, .bool d]) := by rw [h, h']
set_option maxRecDepth 100000 in
set_option maxHeartbeats 2000000 in
theorem dec_whole (l : List UInt8) (w : World) (hl : l.length ≤ 1000) :
    Calls Tryz.prog 88 #[.string (bs l)] w fun e w' => e = .returned (.tuple #[.int .i64 (wholeT l).1, .bool (wholeT l).2]) ∧ Below w.heap.size w w' := by
  have hS := fun w => dec_signed l w oO
  have hlen := signedL_len l
  have hW : wholeT l = (if (signedL l).2.isEmpty || !(signedL l).2.all isDig then (0, false) else let n : Int := if (signedL l).1 then -(satOf (signedL l).2 : Int) else satOf (signedL l).2
    (n, decide (-2147483648 ≤ n) && decide (n ≤ 2147483647))) := rfl
  generalize signedL l = sr at *
  obtain ⟨m, r⟩ := sr
  simp only at hW hS hlen
  have hs := bs_size r
  have hT := bs_toList
  cases r with
  | nil =>
    have HW := hid hW; clear hW
    go_enter func88, ntmps88
    go_wp2_with (go_at_call 89; go_must (refine (hS _).mono ?_); rintro e w1 ⟨rfl, hb1⟩)
    go_ret2
    exact ⟨by rw [HW.out]; rfl, hb1⟩
  | cons c0 r0 =>
    have hne := bs_ne c0 r0
    have hI : (c0 :: r0).isEmpty = false := rfl
    rw [hI, Bool.false_or] at hW
    clear hI hT
    have hPl := fun w => dec_plain (c0 :: r0) w oO
    generalize c0 :: r0 = r at *
    cases hall : r.all isDig with
    | false =>
      rw [hall, if_pos dD] at hW
      rw [hall] at hPl
      have HW := hid hW; clear hW hall
      go_enter func88, ntmps88
      go_wp2_with first | (go_at_call 89; go_must (refine (hS _).mono ?_); rintro e w1 ⟨rfl, hb1⟩) | (go_at_call 106; go_must (refine (hPl _).mono ?_); rintro e w2 ⟨rfl, hb2⟩)
      go_ret2
      exact ⟨by rw [HW.out]; rfl, btr hb1 hb2⟩
    | true =>
      rw [hall, if_neg dD] at hW
      rw [hall] at hPl
      have hdig : ∀ c ∈ r, isDig c = true := List.all_eq_true.1 hall
      have HW := hid hW; have Hdig := hid hdig; clear hW hdig hall
      go_enter func88, ntmps88
      go_wp2_with first | (go_at_call 89; go_must (refine (hS _).mono ?_); rintro e w1 ⟨rfl, hb1⟩) | (go_at_call 106; go_must (refine (hPl _).mono ?_); rintro e w2 ⟨rfl, hb2⟩) | (refine wpList_conv_bytes rfl _ _ _ _ rfl underlying9 underlying35 underlying5 _ rfl ?_; intro cap w3 hcap hrow hg hsz)
      have hb3 := btr (btr hb1 hb2) (below_of_grown hg)
      have Hrow := hid hrow; clear hrow hg hb1 hb2 hS hPl
      go_loop [5, 23] (fun n i => ∃ k : Nat, k ≤ r.length ∧ i = .int .i64 k ∧ n = .int .i64 (satOf (r.take k) : Int)) (fun _ i => r.length - (intOf i).toNat)
      case atStart => exact ⟨0, Nat.zero_le _, rfl, rfl⟩
      case round =>
        obtain ⟨k, hk, rfl, rfl⟩ := hrel
        have hle : satOf (r.take k) ≤ 1099511627776 := by rw [satOf_eq]; omega
        by_cases hkl : k < r.length
        · have hstep := satOf_take r k hkl
          have hd := isDig_bounds (Hdig.out r[k] (by simp))
          have hc := (Hrow.out k _ (byteVals_at r k hkl)).1
          have Hstep := hid hstep; clear hstep
          generalize satOf (r.take k) = N at *
          generalize r[k].toNat = c at *
          go_wp2
          go_round
          case rel => exact ⟨k + 1, by omega, by go_num, by rw [Hstep.out]; go_num⟩
          case measure => simp [intOf]; omega
        · obtain rfl : k = r.length := by omega
          rw [List.take_length] at hle ⊢
          clear Hrow
          generalize satOf r = N at *
          cases m
          all_goals
            go_wp2
            all_goals
              go_ret2
              refine ⟨?_, hb3⟩
              rw [HW.out]
              refine ret_ib2 rfl ?_
              rw [Bool.eq_iff_iff]
              simp
              try omega
set_option maxRecDepth 100000 in
set_option maxHeartbeats 2000000 in
theorem dec_power (l : List UInt8) (w : World) (hl : l.length ≤ 1000) :
    Calls Tryz.prog 91 #[.string (bs l)] w fun e w' => e = .returned (.tuple #[.int .i64 (powerL l).1, .bool (powerL l).2]) ∧ Below w.heap.size w w' := by
  have hS := fun w => dec_signed l w oO
  have hlen := signedL_len l
  have hW : powerL l = (if (signedL l).2.isEmpty || decide (3 < (signedL l).2.length) || !(signedL l).2.all isDig then (0, false) else (if (signedL l).1 then -(natOf (signedL l).2 : Int) else natOf (signedL l).2, true)) := rfl
  generalize signedL l = sr at *
  obtain ⟨m, r⟩ := sr
  simp only at hW hS hlen
  have hs := bs_size r
  have hT := bs_toList
  cases r with
  | nil =>
    have HW := hid hW; clear hW
    go_enter func91, ntmps91
    go_wp2_with (go_at_call 89; go_must (refine (hS _).mono ?_); rintro e w1 ⟨rfl, hb1⟩)
    go_ret2
    exact ⟨by rw [HW.out]; rfl, hb1⟩
  | cons c0 r0 =>
    have hne := bs_ne c0 r0
    have hI : (c0 :: r0).isEmpty = false := rfl
    rw [hI, Bool.false_or] at hW
    clear hI hT
    have hPl := fun w => dec_plain (c0 :: r0) w oO
    generalize c0 :: r0 = r at *
    by_cases h3 : 3 < r.length
    · rw [decide_eq_true h3, Bool.true_or, if_pos rfl] at hW
      have HW := hid hW; clear hW
      go_enter func91, ntmps91
      go_wp2_with first | (go_at_call 89; go_must (refine (hS _).mono ?_); rintro e w1 ⟨rfl, hb1⟩) | (go_at_call 106; go_must (refine (hPl _).mono ?_); rintro e w2 ⟨rfl, hb2⟩)
      go_ret2
      exact ⟨by rw [HW.out]; rfl, hb1⟩
    · rw [decide_eq_false h3, Bool.false_or] at hW
      cases hall : r.all isDig with
      | false =>
        rw [hall, if_pos dD] at hW
        rw [hall] at hPl
        have HW := hid hW; clear hW hall
        go_enter func91, ntmps91
        go_wp2_with first | (go_at_call 89; go_must (refine (hS _).mono ?_); rintro e w1 ⟨rfl, hb1⟩) | (go_at_call 106; go_must (refine (hPl _).mono ?_); rintro e w2 ⟨rfl, hb2⟩)
        go_ret2
        exact ⟨by rw [HW.out]; rfl, btr hb1 hb2⟩
      | true =>
        rw [hall, if_neg dD] at hW
        rw [hall] at hPl
        have hdig : ∀ c ∈ r, isDig c = true := List.all_eq_true.1 hall
        have HW := hid hW; have Hdig := hid hdig; clear hW hdig hall
        go_enter func91, ntmps91
        go_wp2_with first | (go_at_call 89; go_must (refine (hS _).mono ?_); rintro e w1 ⟨rfl, hb1⟩) | (go_at_call 106; go_must (refine (hPl _).mono ?_); rintro e w2 ⟨rfl, hb2⟩) | (refine wpList_conv_bytes rfl _ _ _ _ rfl underlying9 underlying35 underlying5 _ rfl ?_; intro cap w3 hcap hrow hg hsz)
        have hb3 := btr (btr hb1 hb2) (below_of_grown hg)
        have Hrow := hid hrow; clear hrow hg hb1 hb2 hS hPl
        have hnat : ∀ k, natOf (r.take k) < 1000 := by
          intro k
          have h1 := natOf_take_le r k
          have h2 := natOf_lt r Hdig.out
          have h4 : 10 ^ r.length ≤ 10 ^ 3 := Nat.pow_le_pow_right dD oO
          omega
        have Hnat := hid hnat; clear hnat
        go_loop [5, 28] (fun n i => ∃ k : Nat, k ≤ r.length ∧ i = .int .i64 k ∧ n = .int .i64 (natOf (r.take k) : Int)) (fun _ i => r.length - (intOf i).toNat)
        case atStart => exact ⟨0, Nat.zero_le _, rfl, rfl⟩
        case round =>
          obtain ⟨k, hk, rfl, rfl⟩ := hrel
          have hle := Hnat.out k
          by_cases hkl : k < r.length
          · have hstep := natOf_take r k hkl
            have hd := isDig_bounds (Hdig.out r[k] (by simp))
            have hc := (Hrow.out k _ (byteVals_at r k hkl)).1
            have Hstep := hid hstep; clear hstep
            generalize natOf (r.take k) = N at *
            generalize r[k].toNat = c at *
            go_wp2
            go_round
            case rel => exact ⟨k + 1, by omega, by go_num, by rw [Hstep.out]; go_num⟩
            case measure => simp [intOf]; omega
          · obtain rfl : k = r.length := by omega
            rw [List.take_length] at hle ⊢
            clear Hrow Hnat
            generalize natOf r = N at *
            cases m
            all_goals
              go_wp2
              go_ret2
              exact ⟨by rw [HW.out]; rfl, hb3⟩
theorem repeat_one (c : UInt8) (k : Nat) : Lib.repeatL [c] k = List.replicate k c := by
 induction k with
 | zero => rfl
 | succ k ih => rw [Lib.repeatL, ih]; rfl
theorem zeros (k : Nat) (w : World) (hk : k ≤ 100000) :
  Calls Tryz.prog 112 #[.string ⟨#[48]⟩, .int .i64 k] w fun e w' => e = .returned (.string (bs (List.replicate k 48))) ∧ Below w.heap.size w w' := by
 rw [← repeat_one]
 exact Tryz.strings_Repeat ⟨#[48]⟩ k w oO (by show 1 * k ≤ _; omega)
theorem ret_ss {a b a' b' : ByteArray} (h1 : a = a') (h2 : b = b') : Ending.returned (.tuple #[.string a, .string b]) = Ending.returned (.tuple #[.string a', .string b']) := by
 rw [h1, h2]
set_option maxHeartbeats 1000000 in
theorem dec_shift (A B : List UInt8) (k : Int) (w : World) (hA : A.length + B.length ≤ 1000) (hk : -2000 ≤ k) (hk2 : k ≤ 2000) :
    Calls Tryz.prog 93 #[.string (bs A), .string (bs B), .int .i64 k] w fun e w' => e = .returned (.tuple #[.string (bs (wholeD (A ++ B) (A.length + k))), .string (bs (restD (A ++ B) (A.length + k)))]) ∧ Below w.heap.size w w' := by
  have sA := bs_size A
  have sB := bs_size B
  have hcat := bs_append A B
  have hcs : (bs (A ++ B)).size = A.length + B.length := by rw [bs_size]; simp
  have hcl : (A ++ B).length = A.length + B.length := by simp
  by_cases h1 : (A.length : Int) + k < 0
  · have hZ := fun w => zeros (-((A.length : Int) + k)).toNat w oO
    have e1 : (((-((A.length : Int) + k)).toNat : Nat) : Int) = -((A.length : Int) + k) := by omega
    rw [e1] at hZ
    have eW : wholeD (A ++ B) (A.length + k) = [] := by
      unfold wholeD
      have : ((A.length : Int) + k).toNat = 0 := by omega
      rw [this]; simp
    have eR : restD (A ++ B) (A.length + k) = List.replicate (-((A.length : Int) + k)).toNat 48 ++ (A ++ B) := by
      unfold restD
      have : ((A.length : Int) + k).toNat = 0 := by omega
      rw [this]; rfl
    have hzs := bs_size (List.replicate (-((A.length : Int) + k)).toNat (48 : UInt8))
    rw [List.length_replicate] at hzs
    have hzs2 : (bs (List.replicate (-((A.length : Int) + k)).toNat (48 : UInt8))).size ≤ 3000 := by rw [hzs]; omega
    have EW := hid eW; have ER := hid eR; clear eW eR e1 hzs
    generalize List.replicate (-((A.length : Int) + k)).toNat (48 : UInt8) = Z at *
    have hcat2 := bs_append Z (A ++ B)
    have Hcat2 := hid hcat2; clear hcat2 hcl
    generalize A ++ B = C at *
    go_enter func93, ntmps93
    go_wp2_with (go_at_call 112; go_must (refine (hZ _).mono ?_); rintro e w1 ⟨rfl, hb1⟩)
    go_ret2
    exact ⟨ret_ss (by rw [EW.out]; rfl) (by rw [ER.out]; exact Hcat2.out), hb1⟩
  · by_cases h2 : (A.length : Int) + (B.length : Int) < (A.length : Int) + k
    · have hZ := fun w => zeros (((A.length : Int) + k) - ((A.length : Int) + (B.length : Int))).toNat w oO
      have e1 : (((((A.length : Int) + k) - ((A.length : Int) + (B.length : Int))).toNat : Nat) : Int) = ((A.length : Int) + k) - ((A.length : Int) + (B.length : Int)) := by omega
      rw [e1] at hZ
      have hzl : (A ++ B ++ List.replicate (((A.length : Int) + k) - ((A.length : Int) + (B.length : Int))).toNat (48 : UInt8)).length = ((A.length : Int) + k).toNat := by
        simp; omega
      have eW : wholeD (A ++ B) (A.length + k) = A ++ B ++ List.replicate (((A.length : Int) + k) - ((A.length : Int) + (B.length : Int))).toNat 48 := by
        unfold wholeD
        rw [List.take_of_length_le (by rw [hcl]; omega)]
        congr 2; rw [hcl]; omega
      have eR : restD (A ++ B) (A.length + k) = [] := by
        unfold restD
        have : (-((A.length : Int) + k)).toNat = 0 := by omega
        rw [this, List.drop_eq_nil_of_le (by rw [hcl]; omega)]; rfl
      have hzs : (bs (List.replicate (((A.length : Int) + k) - ((A.length : Int) + (B.length : Int))).toNat (48 : UInt8))).size ≤ 3000 := by rw [bs_size]; simp; omega
      have EW := hid eW; have ER := hid eR; clear eW eR
      generalize List.replicate (((A.length : Int) + k) - ((A.length : Int) + (B.length : Int))).toNat (48 : UInt8) = Z at *
      have hcat2 := bs_append (A ++ B) Z
      have hc2s := bs_size (A ++ B ++ Z)
      have x1 := ext_take (A ++ B ++ Z) ((A.length : Int) + k).toNat
      have x2 := ext_drop (A ++ B ++ Z) ((A.length : Int) + k).toNat ((A.length : Int) + k).toNat hzl.symm
      rw [← hzl, List.take_length, hzl] at x1
      rw [← hzl, List.drop_length, hzl] at x2
      rw [hzl] at hc2s
      clear e1 hcl
      have hat : ((((A.length : Int) + k).toNat : Nat) : Int) = (A.length : Int) + k := by omega
      generalize A ++ B = C at *
      generalize C ++ Z = D at *
      clear hzl
      go_enter func93, ntmps93
      go_wp2_with (go_at_call 112; go_must (refine (hZ _).mono ?_); rintro e w1 ⟨rfl, hb1⟩)
      have X1 := hid x1; have X2 := hid x2; clear x1 x2
      go_quiet (fail)
      go_wp2
      go_ret2
      exact ⟨ret_ss (by rw [EW.out]; exact X1.out) (by rw [ER.out]; rfl), hb1.trans (bdrewN _ _ |>.mono hb1.size)⟩
    · have eW : wholeD (A ++ B) (A.length + k) = (A ++ B).take ((A.length : Int) + k).toNat := by
        unfold wholeD
        rw [show ((A.length : Int) + k).toNat - (A ++ B).length = 0 from by rw [hcl]; omega]; simp
      have eR : restD (A ++ B) (A.length + k) = (A ++ B).drop ((A.length : Int) + k).toNat := by
        unfold restD
        have : (-((A.length : Int) + k)).toNat = 0 := by omega
        rw [this]; rfl
      have x1 := ext_take (A ++ B) ((A.length : Int) + k).toNat
      have x2 := ext_drop (A ++ B) ((A.length : Int) + k).toNat (A.length + B.length) hcl.symm
      have EW := hid eW; have ER := hid eR; have X1 := hid x1; have X2 := hid x2; clear eW eR x1 x2 hcl
      generalize A ++ B = C at *
      go_enter func93, ntmps93
      go_wp2_with fail
      go_quiet (fail)
      go_wp2
      go_ret2
      exact ⟨ret_ss (by rw [EW.out]; exact X1.out) (by rw [ER.out]; exact X2.out), bdrewN _ _⟩
end
section
/-- what a call that only makes memory leaves alone, cell by cell -/
theorem bcell {W w1 : World} (hb : Below W.heap.size W w1) : (∀ b o, b < W.heap.size → w1.cell? ⟨b, o, none⟩ = W.cell? ⟨b, o, none⟩) ∧ (∀ b o, b < W.heap.size → w1.frozen? ⟨b, o, none⟩ = W.frozen? ⟨b, o, none⟩) :=
 ⟨fun b o h => hb.cell (p := ⟨b, o, none⟩) h, fun b o h => hb.frozen (p := ⟨b, o, none⟩) h⟩
theorem balloc {w w1 : World} {o : Obj} (hb : Below (w.alloc o).heap.size (w.alloc o) w1) : Below w.heap.size w w1 :=
 ((Below.refl _ _).alloc (Nat.le_refl _) o).trans (hb.mono (by simp))
theorem bset3 {w w1 : World} (hb : Below w.heap.size w w1) (a b c : Value) : Below w.heap.size w (((w1.setCell ⟨w.heap.size, 0, none⟩ a).setCell ⟨w.heap.size, 1, none⟩ b).setCell ⟨w.heap.size, 2, none⟩ c) :=
 ((hb.setCell (p := ⟨w.heap.size, 0, none⟩) (Nat.le_refl _) _).setCell (p := ⟨w.heap.size, 1, none⟩) (Nat.le_refl _) _).setCell (p := ⟨w.heap.size, 2, none⟩) (Nat.le_refl _) _
/-- what is ahead of a byte, what is behind it, is it there -/
def cutC (x : UInt8) : List UInt8 → List UInt8 × List UInt8 × Bool
 | [] => ([], [], false)
 | c :: r => if c = x then ([], r, true) else (c :: (cutC x r).1, (cutC x r).2)
theorem cutC_yes (x : UInt8) (B : List UInt8) : ∀ A : List UInt8, x ∉ A → cutC x (A ++ x :: B) = (A, B, true)
 | [], _ => by simp [cutC]
 | c :: A, h => by
  simp only [List.mem_cons, not_or] at h
  have ih := cutC_yes x B A h.2
  simp [cutC, ih, Ne.symm h.1]
theorem cutC_no (x : UInt8) : ∀ l : List UInt8, x ∉ l → cutC x l = (l, [], false)
 | [], _ => rfl
 | c :: l, h => by
  simp only [List.mem_cons, not_or] at h
  have ih := cutC_no x l h.2
  simp [cutC, ih, Ne.symm h.1]
theorem cutC_len (x : UInt8) (l : List UInt8) : (cutC x l).1.length + (cutC x l).2.1.length ≤ l.length := by
 induction l with
 | nil => simp [cutC]
 | cons c r ih => unfold cutC; split <;> simp; omega
theorem lib_cut (x : UInt8) (l : List UInt8) (w : World) (hl : l.length ≤ 100000000) :
  Calls Tryz.prog 105 #[.string (bs l), .string ⟨#[x]⟩] w fun e w' => e = .returned (.tuple #[.string (bs (cutC x l).1), .string (bs (cutC x l).2.1), .bool (cutC x l).2.2]) ∧ Below w.heap.size w w' := by
 by_cases h : x ∈ l
 ·
  obtain ⟨A, B, rfl, hA⟩ := split_at x l h
  rw [cutC_yes x B A hA]; exact cut1_yes A B x w hl hA
 ·
  rw [cutC_no x l h]; exact cut1_no l x w h
/-- a token that is a number: its kind, its number, is it one, the error -/
structure TokR where
 kind : Int
 n : Int
 ok : Bool
 e : Int
def TokR.val (t : TokR) : Value := .tuple #[.agg #[.int .i64 t.kind, .int .i64 t.n, .string ⟨#[]⟩], .bool t.ok, .int .i64 t.e]
def tokNone : TokR := ⟨0, 0, false, 0⟩
def tokGreat : TokR := ⟨0, 0, true, 9⟩
def tokInt (n : Int) : TokR := ⟨1, n, true, 0⟩
def tokReal (n : Int) : TokR := ⟨2, n, true, 0⟩
def radixLoop (base : Nat) : List UInt8 → Nat → Bool → Option (Nat × Bool)
 | [], n, over => some (n, over)
 | c :: r, n, over => if base ≤ hexN c then none else if 4294967296 ≤ n * base + hexN c then radixLoop base r 0 true else radixLoop base r (n * base + hexN c) over
def radixRes : Option (Nat × Bool) → TokR
 | none => tokNone
 | some (n, over) => if over then tokGreat else tokInt (if 2147483648 ≤ n then (n : Int) - 4294967296 else n)
def radixOk (l : List UInt8) : Bool := (cutC 35 l).2.2 && !(cutC 35 l).1.isEmpty && decide ((cutC 35 l).1.length ≤ 2) && (cutC 35 l).1.all isDig && !(cutC 35 l).2.1.isEmpty
set_option maxRecDepth 100000 in
set_option maxHeartbeats 2000000 in
theorem dec_radix_not (l : List UInt8) (w : World) (hl : l.length ≤ 1000) (hno : radixOk l = false) :
    Calls Tryz.prog 87 #[.string (bs l)] w fun e w' => e = .returned tokNone.val ∧ Below w.heap.size w w' := by
  have hC := fun w => lib_cut 35 l w oO
  have hcl := cutC_len 35 l
  unfold radixOk at hno
  generalize cutC 35 l = p at *
  obtain ⟨A, B, f⟩ := p
  simp only at hno hC hcl
  have sA := bs_size A
  cases f with
  | false =>
    clear hno
    go_enter func87, ntmps87
    go_wp2_with (go_at_call 105; go_must (refine (hC _).mono ?_); rintro e w1 ⟨rfl, hb1⟩; obtain ⟨hc1, hf1⟩ := bcell hb1; have hz1 := hb1.size; simp at hz1; replace hz1 := Nat.lt_of_succ_le hz1)
    exact bodyPost_ret (v := tokNone.val) (by simp [results, Tryz.results87, go_sem, hc1, TokR.val, tokNone]) rfl ⟨rfl, bset3 (balloc hb1) _ _ _⟩
  | true =>
    simp only [Bool.true_and] at hno
    have sB := bs_size B
    have hT := bs_toList
    by_cases hA0 : A.isEmpty = true
    · obtain rfl : A = [] := by simpa using hA0
      clear hno hA0
      go_enter func87, ntmps87
      go_wp2_with (go_at_call 105; go_must (refine (hC _).mono ?_); rintro e w1 ⟨rfl, hb1⟩; obtain ⟨hc1, hf1⟩ := bcell hb1; have hz1 := hb1.size; simp at hz1; replace hz1 := Nat.lt_of_succ_le hz1)
      exact bodyPost_ret (v := tokNone.val) (by simp [results, Tryz.results87, go_sem, hc1, TokR.val, tokNone]) rfl ⟨rfl, bset3 (balloc hb1) _ _ _⟩
    · have hA1 : A.isEmpty = false := by simpa using hA0
      have hAe : (bs A).toList.isEmpty = false := by rw [bs_toList]; exact hA1
      rw [hA1] at hno
      by_cases hA2 : 2 < A.length
      · clear hno hA0 hA1 hT
        go_enter func87, ntmps87
        go_wp2_with (go_at_call 105; go_must (refine (hC _).mono ?_); rintro e w1 ⟨rfl, hb1⟩; obtain ⟨hc1, hf1⟩ := bcell hb1; have hz1 := hb1.size; simp at hz1; replace hz1 := Nat.lt_of_succ_le hz1)
        exact bodyPost_ret (v := tokNone.val) (by simp [results, Tryz.results87, go_sem, hc1, TokR.val, tokNone]) rfl ⟨rfl, bset3 (balloc hb1) _ _ _⟩
      · have hPl := fun w => dec_plain A w oO
        cases hall : A.all isDig with
        | false =>
          rw [hall] at hPl
          clear hno hA0 hA1 hall hT
          go_enter func87, ntmps87
          go_wp2_with first | (go_at_call 105; go_must (refine (hC _).mono ?_); rintro e w1 ⟨rfl, hb1⟩; obtain ⟨hc1, hf1⟩ := bcell hb1; have hz1 := hb1.size; simp at hz1; replace hz1 := Nat.lt_of_succ_le hz1) | (go_at_call 106; go_must (refine (hPl _).mono ?_); rintro e w2 ⟨rfl, hb2⟩; obtain ⟨hc2, hf2⟩ := bcell hb2; have hz2 := hb2.size)
          exact bodyPost_ret (v := tokNone.val) (by simp [results, Tryz.results87, go_sem, hc1, hc2, hz1, TokR.val, tokNone]) rfl ⟨rfl, bset3 (btr (balloc hb1) hb2) _ _ _⟩
        | true =>
          rw [hall] at hPl hno
          have hle : decide (A.length ≤ 2) = true := by simp; omega
          rw [hle] at hno
          obtain rfl : B = [] := by simpa using hno
          have hBe : (bs []).toList.isEmpty = true := by rw [bs_toList]; rfl
          clear hno hA0 hA1 hall hle hT
          go_enter func87, ntmps87
          go_wp2_with first | (go_at_call 105; go_must (refine (hC _).mono ?_); rintro e w1 ⟨rfl, hb1⟩; obtain ⟨hc1, hf1⟩ := bcell hb1; have hz1 := hb1.size; simp at hz1; replace hz1 := Nat.lt_of_succ_le hz1) | (go_at_call 106; go_must (refine (hPl _).mono ?_); rintro e w2 ⟨rfl, hb2⟩; obtain ⟨hc2, hf2⟩ := bcell hb2; have hz2 := hb2.size)
          exact bodyPost_ret (v := tokNone.val) (by simp [results, Tryz.results87, go_sem, hc1, hc2, hz1, TokR.val, tokNone]) rfl ⟨rfl, bset3 (btr (balloc hb1) hb2) _ _ _⟩
theorem tokCells {w w' : World} {a b c : Value} {t : TypeId} (hb : Below (w.alloc (.cells #[a, b, c] t)).heap.size (w.alloc (.cells #[a, b, c] t)) w') :
  w'.cell? ⟨w.heap.size, 0, none⟩ = some a ∧ w'.cell? ⟨w.heap.size, 1, none⟩ = some b ∧ w'.cell? ⟨w.heap.size, 2, none⟩ = some c ∧
  w'.frozen? ⟨w.heap.size, 0, none⟩ = false ∧ w'.frozen? ⟨w.heap.size, 1, none⟩ = false ∧ w'.frozen? ⟨w.heap.size, 2, none⟩ = false := by
 have hlt : w.heap.size < (w.alloc (.cells #[a, b, c] t)).heap.size := by simp
 rw [hb.cell (p := ⟨w.heap.size, 0, none⟩) hlt, hb.cell (p := ⟨w.heap.size, 1, none⟩) hlt, hb.cell (p := ⟨w.heap.size, 2, none⟩) hlt, hb.frozen (p := ⟨w.heap.size, 0, none⟩) hlt, hb.frozen (p := ⟨w.heap.size, 1, none⟩) hlt, hb.frozen (p := ⟨w.heap.size, 2, none⟩) hlt]
 refine ⟨?_, ?_, ?_, ?_, ?_, ?_⟩ <;> go_simp
theorem radixLoop_drop (base : Nat) (B : List UInt8) (k n : Nat) (over : Bool) (h : k < B.length) :
  radixLoop base (B.drop k) n over = if base ≤ hexN B[k] then none else if 4294967296 ≤ n * base + hexN B[k] then radixLoop base (B.drop (k + 1)) 0 true else radixLoop base (B.drop (k + 1)) (n * base + hexN B[k]) over := by
 rw [List.drop_eq_getElem_cons h]; rfl
def radixV (A B : List UInt8) : TokR := if natOf A < 2 ∨ 36 < natOf A then tokNone else radixRes (radixLoop (natOf A) B 0 false)
set_option maxRecDepth 100000 in
set_option maxHeartbeats 4000000 in
theorem dec_radix_yes (l A B : List UInt8) (w : World) (hl : l.length ≤ 1000) (hcut : cutC 35 l = (A, B, true)) (hA0 : A ≠ []) (hA2 : A.length ≤ 2) (hall : A.all isDig = true) (hB0 : B ≠ []) :
    Calls Tryz.prog 87 #[.string (bs l)] w fun e w' => e = .returned (radixV A B).val ∧ Below w.heap.size w w' := by
  have hC := fun w => lib_cut 35 l w oO
  have hcl := cutC_len 35 l
  rw [hcut] at hC hcl
  simp only at hC hcl
  clear hcut
  have sA := bs_size A
  have sB := bs_size B
  have hAe : (bs A).toList.isEmpty = false := by rw [bs_toList]; cases A <;> simp at *
  have hBe : (bs B).toList.isEmpty = false := by rw [bs_toList]; cases B <;> simp at *
  have hPl := fun w => dec_plain A w oO
  rw [hall] at hPl
  have hdig : ∀ c ∈ A, isDig c = true := List.all_eq_true.1 hall
  have hnat : ∀ k, natOf (A.take k) < 100 := by
    intro k
    have h1 := natOf_take_le A k
    have h2 := natOf_lt A hdig
    have h4 : 10 ^ A.length ≤ 10 ^ 2 := Nat.pow_le_pow_right dD hA2
    omega
  have Hdig := hid hdig; have Hnat := hid hnat
  clear hA0 hB0 hall hdig hnat
  go_enter func87, ntmps87
  go_wp2_with first | (go_at_call 105; go_must (refine (hC _).mono ?_); rintro e w1 ⟨rfl, hb1⟩; obtain ⟨hc1, hf1⟩ := bcell hb1; have hz1 := hb1.size; simp at hz1; replace hz1 := Nat.lt_of_succ_le hz1) | (go_at_call 106; go_must (refine (hPl _).mono ?_); rintro e w2 ⟨rfl, hb2⟩; obtain ⟨hc2, hf2⟩ := bcell hb2; have hz2 := hb2.size) | (refine wpList_conv_bytes rfl _ _ _ _ rfl underlying9 underlying35 underlying5 _ rfl ?_; intro cap w3 hcap hrow hg hsz)
  have hbw : Below (w.alloc (Obj.cells #[Value.int .i64 0, Value.int .i64 0, Value.string ⟨#[]⟩] 134)).heap.size (w.alloc (Obj.cells #[Value.int .i64 0, Value.int .i64 0, Value.string ⟨#[]⟩] 134)) w3 := btr (btr hb1 hb2) (below_of_grown hg)
  have Hrow := hid hrow
  clear hc1 hf1 hc2 hf2 hb1 hb2 hz2 hrow hg hC hPl hAe hBe hcap hsz hz1
  go_loop [8, 46] (fun n i => ∃ k : Nat, k ≤ A.length ∧ i = .int .i64 k ∧ n = .int .i64 (natOf (A.take k) : Int)) (fun _ i => A.length - (intOf i).toNat)
  case atStart => exact ⟨0, Nat.zero_le _, rfl, rfl⟩
  case round =>
    obtain ⟨k, hk, rfl, rfl⟩ := hrel
    have hle := Hnat.out k
    by_cases hkl : k < A.length
    · have hstep := natOf_take A k hkl
      have hd := isDig_bounds (Hdig.out A[k] (by simp))
      have hc := (Hrow.out k _ (byteVals_at A k hkl)).1
      have Hstep := hid hstep; clear hstep
      generalize natOf (A.take k) = N at *
      generalize A[k].toNat = c at *
      go_wp2
      go_round
      case rel => exact ⟨k + 1, by omega, by go_num, by rw [Hstep.out]; go_num⟩
      case measure => simp [intOf]; omega
    · obtain rfl : k = A.length := by omega
      rw [List.take_length] at hle ⊢
      clear Hrow Hnat hkl
      generalize hgN : natOf A = N at *
      have HgN := hid hgN; clear hgN
      by_cases hbad : N < 2 ∨ 36 < N
      · have Hbad := hid hbad
        obtain ⟨c0, c1, c2, f0, f1, f2⟩ := tokCells hbw
        go_wp2
        all_goals exact bodyPost_ret (v := tokNone.val) (by simp [results, Tryz.results87, go_sem, c0, c1, c2, TokR.val, tokNone]) rfl ⟨by rw [radixV, HgN.out, if_pos Hbad.out], bset3 (balloc hbw) _ _ _⟩
      · have hb2 : 2 ≤ N := by omega
        have hb36 : N ≤ 36 := by omega
        have Hbad := hid hbad; clear hbad
        go_wp2_with (refine wpList_conv_bytes rfl _ _ _ _ rfl underlying9 underlying35 underlying5 _ rfl ?_; intro cap2 w4 hcap2 hrow hg hsz2)
        have hbw4 := hbw.trans ((below_of_grown hg).mono hbw.size)
        obtain ⟨c0, c1, c2, f0, f1, f2⟩ := tokCells hbw4
        have Hrow := hid hrow
        clear hrow hg hcap2 hsz2 hbw
        have hfin : (if N < 2 ∨ 36 < N then tokNone else radixRes (radixLoop N B 0 false)) = radixRes (radixLoop N B 0 false) := if_neg Hbad.out
        have Hfin := hid hfin; clear hfin
        go_loop [11, 12, 67] (fun n o i => ∃ (k : Nat) (n0 : Nat) (ov : Bool), k ≤ B.length ∧ i = .int .i64 k ∧ n = .int .i64 n0 ∧ o = .bool ov ∧ n0 < 4294967296 ∧ radixLoop N (B.drop k) n0 ov = radixLoop N B 0 false) (fun _ _ i => B.length - (intOf i).toNat)
        case atStart => exact ⟨0, 0, false, Nat.zero_le _, rfl, rfl, rfl, by omega, rfl⟩
        case round =>
          obtain ⟨k, n0, ov, hk, rfl, rfl, rfl, hn0, hrr⟩ := hrel
          have Hrr := hid hrr; clear hrr
          by_cases hkl : k < B.length
          · have hstep := radixLoop_drop N B k n0 ov hkl
            have hc := (Hrow.out k _ (byteVals_at B k hkl)).1
            have hx := hexN_le B[k]
            have hD := fun w => dec_digit B[k] w
            generalize hexN B[k] = d at *
            generalize B[k] = c at *
            obtain ⟨P, hP⟩ : ∃ P : Nat, P = n0 * N := ⟨_, rfl⟩
            have hPi : (n0 : Int) * (N : Int) = (P : Int) := by rw [hP, Int.natCast_mul]
            have hP2 : P ≤ 154618822656 := by
              have h := Nat.mul_le_mul (show n0 ≤ 4294967296 by omega) hb36
              rw [← hP] at h; omega
            rw [← hP] at hstep
            have Hstep := hid hstep; clear hstep hP
            by_cases hdN : N ≤ d
            · go_wp2_with (go_at_call 107; go_must (refine (hD _).mono ?_); rintro e w5 ⟨rfl, rfl⟩)
              refine bodyPost_ret (v := tokNone.val) (by simp [results, Tryz.results87, go_sem, c0, c1, c2, TokR.val, tokNone]) rfl ⟨?_, bset3 (balloc hbw4) _ _ _⟩
              rw [radixV, HgN.out, Hfin.out, ← Hrr.out, Hstep.out, if_pos hdN]; rfl
            · by_cases hov : 4294967296 ≤ P + d
              · have hov2 : (4294967296 : Int) ≤ (P : Int) + (d : Int) := by omega
                have Hov := hid hov; clear hov
                go_wp2_with (go_at_call 107; go_must (refine (hD _).mono ?_); rintro e w5 ⟨rfl, rfl⟩)
                go_round
                case rel => exact ⟨k + 1, 0, true, by omega, by go_num, rfl, rfl, by omega, by rw [← Hrr.out, Hstep.out, if_neg hdN, if_pos Hov.out]⟩
                case measure => simp [intOf]; omega
              · have hov2 : decide ((4294967296 : Int) ≤ (P : Int) + (d : Int)) = false := decide_eq_false oO
                have hPd : P + d < 4294967296 := by omega
                have Hov := hid hov; have HPd := hid hPd; clear hov hPd
                go_wp2_with (go_at_call 107; go_must (refine (hD _).mono ?_); rintro e w5 ⟨rfl, rfl⟩)
                go_round
                case rel => exact ⟨k + 1, P + d, ov, by omega, by go_num, by go_num, rfl, HPd.out, by rw [← Hrr.out, Hstep.out, if_neg hdN, if_neg Hov.out]⟩
                case measure => simp [intOf]; omega
          · obtain rfl : k = B.length := by omega
            have hend : radixLoop N B 0 false = some (n0, ov) := by
              rw [← Hrr.out, List.drop_length]; rfl
            have Hend := hid hend; clear hend Hrow hkl
            cases ov with
            | true =>
              go_wp2
              refine bodyPost_ret (v := tokGreat.val) (by simp [results, Tryz.results87, go_sem, c0, c1, c2, TokR.val, tokGreat]) rfl ⟨?_, bset3 (balloc hbw4) _ _ _⟩
              rw [radixV, HgN.out, Hfin.out, Hend.out]; rfl
            | false =>
              by_cases hbig : 2147483648 ≤ n0
              · have hbd : decide ((2147483648 : Int) ≤ (n0 : Int)) = true := decide_eq_true oO
                have Hbig := hid hbig; clear hbig
                go_wp2
                have hbig := Hbig.out
                refine bodyPost_ret (v := (tokInt ((n0 : Int) - 4294967296)).val) (by simp [results, Tryz.results87, go_sem, c0, c1, c2, TokR.val, tokInt]) rfl ⟨?_, bset3 (balloc hbw4) _ _ _⟩
                rw [radixV, HgN.out, Hfin.out, Hend.out]
                rw [radixRes]; simp only [Bool.false_eq_true, if_false, hbig]; rfl
              · have hbd : decide ((2147483648 : Int) ≤ (n0 : Int)) = false := decide_eq_false oO
                have Hbig := hid hbig; clear hbig
                go_wp2
                have hbig := Hbig.out
                refine bodyPost_ret (v := (tokInt (n0 : Int)).val) (by simp [results, Tryz.results87, go_sem, c0, c1, c2, TokR.val, tokInt]) rfl ⟨?_, bset3 (balloc hbw4) _ _ _⟩
                rw [radixV, HgN.out, Hfin.out, Hend.out]
                rw [radixRes]; simp only [Bool.false_eq_true, if_false, hbig]
def radixL (l : List UInt8) : TokR := if radixOk l then radixV (cutC 35 l).1 (cutC 35 l).2.1 else tokNone
theorem dec_radix (l : List UInt8) (w : World) (hl : l.length ≤ 1000) :
  Calls Tryz.prog 87 #[.string (bs l)] w fun e w' => e = .returned (radixL l).val ∧ Below w.heap.size w w' := by
 unfold radixL
 cases hok : radixOk l with
 | false => exact dec_radix_not l w hl hok
 | true =>
  unfold radixOk at hok
  simp only [Bool.and_eq_true, decide_eq_true_eq, Bool.not_eq_true', List.isEmpty_eq_false_iff] at hok
  obtain ⟨⟨⟨⟨h1, h2⟩, h3⟩, h4⟩, h5⟩ := hok
  have hc : cutC 35 l = ((cutC 35 l).1, (cutC 35 l).2.1, true) := by rw [← h1]
  exact dec_radix_yes l _ _ w hl hc h2 h3 h4 h5
end
section
def eE : ByteArray := ⟨#[101, 69]⟩
theorem eE_size : eE.size = 2 := rfl
theorem eE_1 (h : 1 < eE.size) : eE[1]'h = 69 := rfl
theorem eE_tail : eE.extract 2 2 = bs [] := rfl
theorem eE_asc : ∀ i (h : i < eE.size), (eE[i]'h).toNat < 128 := by
 intro i h
 have h2 : i < 2 := h
 obtain rfl | rfl : i = 0 ∨ i = 1 := by omega
 ·
  show (101 : UInt8).toNat < 128; decide
 ·
  show (69 : UInt8).toNat < 128; decide
def isE (c : UInt8) : Bool := c == 101 || c == 69
theorem encode_two (r : Nat) (h : 128 ≤ r) (h2 : r < 2048) : Utf8.encode (r : Int) = ⟨#[UInt8.ofNat (192 + r / 64), UInt8.ofNat (128 + r % 64)]⟩ := by
 have hv : Utf8.valid (r : Int) = true := by simp [Utf8.valid]; omega
 unfold Utf8.encode
 simp only [hv, if_true, Int.toNat_natCast]
 rw [if_neg oO, if_pos oO]
theorem encode_more (r : Nat) (h2 : 2048 ≤ r) (h3 : Utf8.valid (r : Int) = true) : 3 ≤ (Utf8.encode (r : Int)).size ∧ (Utf8.encode (r : Int)).size ≤ 4 := by
 unfold Utf8.encode
 simp only [h3, if_true, Int.toNat_natCast]
 rw [if_neg oO, if_neg oO]
 split <;> simp [ByteArray.size]
/-- a quiet callee behind a quiet region -/
theorem quiet_add_same {P : Program} {f : FuncId} {args : Array Value} {w : World} {a n : Nat} {v : Value}
  (h : Calls P f args (w.drewN (a + n)) fun e w' => e = .returned v ∧ w' = w.drewN (a + n)) :
  Calls P f args (w.drewN (a + n)) fun e w'' => e = .returned v ∧ ∃ m, w'' = w.drewN (a + m) :=
 h.mono fun _ _ ⟨he, hm⟩ => ⟨he, n, hm⟩
theorem indexByte_nil (c : Int) (w : World) :
  Calls Tryz.prog 122 #[.string ByteArray.empty, .int .u8 c] w fun e w' => e = .returned (.int .i64 (-1)) ∧ w' = w :=
 Tryz.strings_IndexByte ByteArray.empty c w
set_option maxRecDepth 100000 in
set_option maxHeartbeats 4000000 in
theorem indexRune_two (r : Nat) (w : World) (h : 128 ≤ r) (h2 : r < 2048) :
  Calls Tryz.prog 108 #[.string eE, .int .i32 (r : Int)] w fun e w' => e = .returned (.int .i64 (-1)) ∧ Below w.heap.size w w' := by
 have hV := fun w => (Tryz.utf8_ValidRune (r : Int) w)
 have hvr : Lib.validRune (r : Int) = true := by simp [Lib.validRune]; omega
 rw [hvr] at hV
 have henc := encode_two r h h2
 have hs : (Utf8.encode (r : Int)).size = 2 := by rw [henc]; rfl
 obtain ⟨c, hc⟩ : ∃ c : UInt8, c = UInt8.ofNat (128 + r % 64) := ⟨_, rfl⟩
 have hc1 : c.toNat = 128 + r % 64 := by rw [hc, UInt8.toNat_ofNat']; omega
 have hget : ∀ h, (Utf8.encode (r : Int))[1]'h = c := by rw [henc, hc]; intro _; rfl
 have hne : ((69 : Int) != (c.toNat : Int)) = true := by rw [bne_iff_ne]; omega
 have e1 := eE_size
 have e2 := eE_1
 have e3 := eE_tail
 have hne3 : ((r : Int) == 65533) = false := by rw [beq_eq_false_iff_ne]; omega
 have hlt : decide ((r : Int) < 128) = false := decide_eq_false oO
 have hlt2 : ¬ ((r : Int) < 128) := by omega
 have hget1 : (Utf8.encode (r : Int))[1]'(by rw [hs]; omega) = c := hget _
 have Hget := hid hget1
 clear hc hc1 henc hvr hget hget1
 generalize eE = s at *
 go_enter func108, ntmps108
 go_wp2_with (go_at_call 123; go_must (refine (hV _).mono ?_); rintro e w1 ⟨rfl, rfl⟩)
 go_step3
 go_wp2_with fail
 go_loopw [9] (fun v wr => v = .int .i64 1 ∧ wr = w1) (fun _ _ => 0)
 case atStart => exact ⟨rfl, rfl⟩
 case round =>
  obtain ⟨rfl, rfl⟩ := hrel
  go_wp2
  go_step3
  go_wp2_with fail
  have hget := Hget.out
  go_quiet (fail)
  go_wp2_with fail
  have hwr : IntKind.i64.wrap 2 = 2 := rfl
  go_quiet ((go_at_call 122; exact quiet_add_same (indexByte_nil _ _)))
  go_wp2_with fail
  rw [Exit.noGoto_ret]
  simp (config := {zetaDelta := true}) only [Exit.inBlock, Exit.then, Exit.noGoto]
  go_ret
  exact ⟨rfl, by simpa using bdrewN _ _⟩
set_option maxRecDepth 100000 in
set_option maxHeartbeats 4000000 in
theorem indexRune_more (r : Nat) (w : World) (h2 : 2048 ≤ r) (hv : Utf8.valid (r : Int) = true) (h3 : r ≠ 65533) :
  Calls Tryz.prog 108 #[.string eE, .int .i32 (r : Int)] w fun e w' => e = .returned (.int .i64 (-1)) ∧ Below w.heap.size w w' := by
 have hV := fun w => (Tryz.utf8_ValidRune (r : Int) w)
 have hvr : Lib.validRune (r : Int) = true := by rw [← hv, Bool.eq_iff_iff]; simp [Lib.validRune, Utf8.valid]; omega
 rw [hvr] at hV
 have hrl : r < 1114112 := by simp [Utf8.valid] at hv; omega
 obtain ⟨hm1, hm2⟩ := encode_more r h2 hv
 obtain ⟨z, hz⟩ : ∃ z : Nat, (Utf8.encode (r : Int)).size = z := ⟨_, rfl⟩
 have e1 := eE_size
 have hne3 : ((r : Int) == 65533) = false := by rw [beq_eq_false_iff_ne]; omega
 have hlt : decide ((r : Int) < 128) = false := decide_eq_false oO
 have hlt2 : ¬ ((r : Int) < 128) := by omega
 rw [hz] at hm1 hm2
 clear hvr hv
 generalize eE = s at *
 go_enter func108, ntmps108
 go_wp2_with (go_at_call 123; go_must (refine (hV _).mono ?_); rintro e w1 ⟨rfl, rfl⟩)
 go_step3
 go_wp2_with fail
 go_loopw [9] (fun v wr => v = .int .i64 ((z : Int) - 1) ∧ wr = w1) (fun _ _ => 0)
 case atStart => exact ⟨rfl, rfl⟩
 case round =>
  obtain ⟨rfl, rfl⟩ := hrel
  have hz2 : decide ((z : Int) - 1 < 2) = false := decide_eq_false oO
  have hz3 : ¬ ((z : Int) - 1 < 2) := by omega
  go_wp2
  go_ret
  exact ⟨rfl, Below.refl _ _⟩
set_option maxRecDepth 100000 in
set_option maxHeartbeats 4000000 in
theorem indexRune_err (w : World) :
  Calls Tryz.prog 108 #[.string eE, .int .i32 65533] w fun e w' => e = .returned (.int .i64 (-1)) ∧ Below w.heap.size w w' := by
 have e1 := eE_size
 have hasc := eE_asc
 have Hasc := hid hasc; clear hasc
 generalize eE = s at *
 go_enter func108, ntmps108
 go_wp2
 go_loopg [5, 6] 2 (fun g _ _ wx => ∃ i : Nat, i + g = 2 ∧ wx = w.iter s i)
 case atStart => exact ⟨0, by omega, rfl⟩
 case round =>
  obtain ⟨i, hig, rfl⟩ := hrel
  cases gk with
  | zero =>
   obtain rfl : i = 2 := by omega
   have hnx := run_next_end (P := Tryz.prog) w s 2
   go_wp2
   go_ret
   exact ⟨rfl, by simpa [World.iter] using (Below.refl w.heap.size w).alloc (Nat.le_refl _) _⟩
  | succ g =>
   have hi : i < s.size := by omega
   have hx128 := Hasc.out i hi
   have hnx := fun ty => run_next_ascii (P := Tryz.prog) w s i ty hi hx128
   generalize s[i].toNat = c at *
   have hne : ((c : Int) == 65533) = false := by rw [beq_eq_false_iff_ne]; omega
   go_wp2
   go_roundg g
   case measure => omega
   case rel => exact ⟨i + 1, by omega, rfl⟩
theorem decode_skip (s : ByteArray) (pos : Nat) (h : pos < s.size) (ha : 128 ≤ (s[pos]'h).toNat) :
  128 ≤ (Utf8.decode s pos).1 ∧ Utf8.valid ((Utf8.decode s pos).1 : Int) = true ∧ 1 ≤ (Utf8.decode s pos).2 ∧ pos + (Utf8.decode s pos).2 ≤ s.size ∧ ∀ j, pos < j → j < pos + (Utf8.decode s pos).2 → ∀ hj : j < s.size, 128 ≤ (s[j]'hj).toNat := by
 have hn : ¬ (s[pos]'h).toNat < 128 := by omega
 have hb := (s[pos]'h).toNat_lt
 have hg : ∀ k (hk : pos + k < s.size), s.get! (pos + k) = s[pos + k]'hk := fun k hk => get_at s (pos + k) hk
 have one : ∀ j, pos < j → j < pos + 1 → ∀ hj : j < s.size, 128 ≤ (s[j]'hj).toNat := fun j _ _ _ => by omega
 have herr : Utf8.valid ((Utf8.runeError : Nat) : Int) = true := by decide
 have herr2 : 128 ≤ Utf8.runeError := by decide
 simp only [Utf8.decode, get_at s pos h, hn, if_false]
 split
 ·
  rename_i h2
  simp only [Bool.and_eq_true, decide_eq_true_eq, beq_iff_eq] at h2
  obtain ⟨h2a, h2b, h2c⟩ := h2
  split
  ·
   rename_i h3
   refine ⟨h3, ?_, by omega, by omega, ?_⟩
   ·
    simp [Utf8.valid]; omega
   ·
    intro j hj1 hj2 hj
    obtain rfl : j = pos + 1 := by omega
    rw [hg 1 hj] at h2c; omega
  ·
   exact ⟨herr2, herr, by omega, by omega, one⟩
 ·
  split
  ·
   rename_i h2
   simp only [Bool.and_eq_true, decide_eq_true_eq, beq_iff_eq] at h2
   obtain ⟨⟨h2a, h2b, h2c⟩, h2d, h2e⟩ := h2
   split
   ·
    rename_i h3
    simp only [ge_iff_le, Bool.and_eq_true, decide_eq_true_eq] at h3
    refine ⟨by omega, h3.2, by omega, by omega, ?_⟩
    intro j hj1 hj2 hj
    obtain rfl | rfl : j = pos + 1 ∨ j = pos + 2 := by omega
    ·
     rw [hg 1 hj] at h2c; omega
    ·
     rw [hg 2 hj] at h2e; omega
   ·
    exact ⟨herr2, herr, by omega, by omega, one⟩
  ·
   split
   ·
    rename_i h2
    simp only [Bool.and_eq_true, decide_eq_true_eq, beq_iff_eq] at h2
    obtain ⟨⟨⟨h2a, h2b, h2c⟩, h2d, h2e⟩, h2f, h2g⟩ := h2
    split
    ·
     rename_i h3
     simp only [ge_iff_le, Bool.and_eq_true, decide_eq_true_eq] at h3
     refine ⟨by omega, h3.2, by omega, by omega, ?_⟩
     intro j hj1 hj2 hj
     obtain rfl | rfl | rfl : j = pos + 1 ∨ j = pos + 2 ∨ j = pos + 3 := by omega
     ·
      rw [hg 1 hj] at h2c; omega
     ·
      rw [hg 2 hj] at h2e; omega
     ·
      rw [hg 3 hj] at h2g; omega
    ·
     exact ⟨herr2, herr, by omega, by omega, one⟩
   ·
    exact ⟨herr2, herr, by omega, by omega, one⟩
theorem indexRune_high (r : Nat) (w : World) (h : 128 ≤ r) (hv : Utf8.valid (r : Int) = true) :
  Calls Tryz.prog 108 #[.string eE, .int .i32 (r : Int)] w fun e w' => e = .returned (.int .i64 (-1)) ∧ Below w.heap.size w w' := by
 by_cases h2 : r < 2048
 ·
  exact indexRune_two r w h h2
 ·
  by_cases h3 : r = 65533
  ·
   subst h3; exact indexRune_err w
  ·
   exact indexRune_more r w oO hv h3
/-- what is ahead of the first e, what is behind it, is there one -/
def cutE : List UInt8 → List UInt8 × List UInt8 × Bool
 | [] => ([], [], false)
 | c :: r => if isE c then ([], r, true) else (c :: (cutE r).1, (cutE r).2)
theorem cutE_len (l : List UInt8) : (cutE l).1.length + (cutE l).2.1.length ≤ l.length := by
 induction l with
 | nil => simp [cutE]
 | cons c r ih => unfold cutE; split <;> simp; omega
theorem cutE_yes_join (l : List UInt8) (h : (cutE l).2.2 = true) : ∃ c, isE c = true ∧ l = (cutE l).1 ++ c :: (cutE l).2.1 := by
 induction l with
 | nil => simp [cutE] at h
 | cons c r ih =>
  unfold cutE at h ⊢
  by_cases hc : isE c = true
  ·
   simp only [hc, if_true]; exact ⟨c, hc, rfl⟩
  ·
   simp only [hc] at h ⊢
   obtain ⟨d, hd, e⟩ := ih h
   refine ⟨d, hd, ?_⟩
   show c :: r = c :: ((cutE r).1 ++ d :: (cutE r).2.1)
   rw [← e]
def idxE (l : List UInt8) : Int := if (cutE l).2.2 then ((cutE l).1.length : Int) else -1
theorem idxE_any (l : List UInt8) : Lib.indexAny l eE.data.toList = idxE l := by
 induction l with
 | nil => rfl
 | cons c r ih =>
  have hin : eE.data.toList.contains c = isE c := by
   show List.contains [101, 69] c = (c == 101 || c == 69)
   by_cases h1 : c = 101
   ·
    subst h1; rfl
   ·
    by_cases h2 : c = 69
    ·
     subst h2; rfl
    ·
     rw [beq_false_of_ne h1, beq_false_of_ne h2, List.contains, List.elem, beq_false_of_ne h1]
     show List.elem c [69] = _
     rw [List.elem, beq_false_of_ne h2]; rfl
  rw [Lib.indexAny, hin, ih]
  unfold idxE
  rw [cutE]
  by_cases hc : isE c = true
  ·
   simp [hc]
  ·
   simp only [hc]
   by_cases h2 : (cutE r).2.2 = true
   ·
    simp [h2]
    try omega
   ·
    simp [h2]
theorem eE_contains : ∀ x : UInt8, 128 ≤ x.toNat → eE.data.toList.contains x = false := by
 intro x hx
 show List.contains [101, 69] x = false
 have h1 : x ≠ 101 := by rintro rfl; exact absurd hx dD
 have h2 : x ≠ 69 := by rintro rfl; exact absurd hx dD
 rw [List.contains, List.elem, beq_false_of_ne h1]
 show List.elem x [69] = _
 rw [List.elem, beq_false_of_ne h2]; rfl
set_option maxRecDepth 100000 in
set_option maxHeartbeats 4000000 in
theorem lib_IndexAny_short (s : ByteArray) (w : World) (h8 : s.size ≤ 8) :
    Calls Tryz.prog 90 #[.string s, .string eE] w fun e w' => e = .returned (.int .i64 (Lib.indexAny s.data.toList eE.data.toList)) ∧ Below w.heap.size w w' := by
  have hemp : eE.toList.isEmpty = false := by rw [show eE = bs [101, 69] from rfl, bs_toList]; rfl
  have e1 := eE_size
  have h8z : decide ((8 : Int) < (s.size : Int)) = false := decide_eq_false oO
  have hU := fun n w => Tryz.strings_shouldUseASCIISet n w
  have hR := fun c (hc : c < 128) w => Tryz.strings_IndexRune_ascii eE (c : Nat) w oO oO
  have hH := fun r w h hv => indexRune_high r w h hv
  have hci := fun x => Lib.contains_iff_indexByte eE.data.toList x
  have HC := hid eE_contains
  generalize eE = ch at *
  go_enter func90, ntmps90
  go_wp2_with (go_at_call 109; go_must (refine (hU _ _).mono ?_); rintro e w1 ⟨rfl, rfl⟩; rw [h8z])
  obtain ⟨B, hB⟩ : ∃ B, w1.heap.size = B := ⟨_, rfl⟩
  have hit : (w1.iter s 0).heap[B]? = some (.stringIter s 0) := by rw [← hB]; exact World.iter_heap _ _ _
  have hbi : Below B w1 (w1.iter s 0) := by rw [← hB]; exact (Below.refl w1.heap.size w1).alloc (Nat.le_refl _) _
  generalize w1.iter s 0 = wi at *
  rw [hB]
  have HB := hid (show w1.heap.size ≤ B by omega)
  clear hB
  go_loopg [9, 10] s.size (fun g _ _ wx => ∃ i : Nat, i + g = s.size ∧ wx.heap[B]? = some (.stringIter s i) ∧ Below B w1 wx ∧ Lib.NoAny s.data.toList ch.data.toList i)
  case atStart => exact ⟨0, by omega, hit, hbi, Lib.NoAny.zero _ _⟩
  case round =>
    obtain ⟨i, hig, hit, hbx, hno⟩ := hrel
    have HN := hid hno
    clear hno
    cases gk with
    | zero =>
      obtain rfl : i = s.size := by omega
      have hnx := fun ty => Lib.run_next_end_at (P := Tryz.prog) wr B s s.size ty hit oO
      go_wp2
      go_ret
      exact ⟨by rw [Lib.indexAny_none (by rw [← Lib.size_eq]; exact HN.out)]; rfl, hbx.mono HB.out⟩
    | succ g =>
      have hi : i < s.size := by omega
      obtain ⟨x, hx⟩ : ∃ x : UInt8, s[i]'hi = x := ⟨_, rfl⟩
      have hxl : s.data.toList[i]? = some x := by rw [← hx]; exact Lib.data_getElem? s i hi
      by_cases hx128 : x.toNat < 128
      · have hnx := fun ty => Lib.run_next_ascii_at (P := Tryz.prog) wr B s i ty hit hi (by rw [hx]; exact hx128)
        rw [hx] at hnx
        have Hx := hid hxl
        have Hit := hid (Lib.iterAt_heap wr B s i (i + 1) hit)
        have Hb2 := hid (Lib.below_iterAt hbx (Nat.le_refl B) s (i + 1))
        clear hxl hx hit
        have hcon := hci x
        have hback : ((x.toNat : Int)).toNat.toUInt8 = x := by simp
        have hR1 := fun w => hR x.toNat hx128 w
        rw [hback] at hR1
        clear hback hR hH hci hU
        cases hin : ch.data.toList.contains x
        · rw [hin] at hcon
          have hlt : ¬ ((0 : Int) ≤ Lib.indexByte ch.data.toList x) := dF hcon.symm
          clear hcon
          go_wp2_with (go_at_call 108; go_must (refine (hR1 _).mono ?_); rintro e w2 ⟨rfl, rfl⟩)
          go_roundg g
          case measure => omega
          case rel => exact ⟨i + 1, by omega, Hit.out, Hb2.out, HN.out.succ Hx.out hin⟩
        · rw [hin] at hcon
          have hge : (0 : Int) ≤ Lib.indexByte ch.data.toList x := dT hcon.symm
          clear hcon
          go_wp2_with (go_at_call 108; go_must (refine (hR1 _).mono ?_); rintro e w2 ⟨rfl, rfl⟩)
          go_ret
          exact ⟨by rw [Lib.indexAny_hit HN.out Hx.out hin]; rfl, Hb2.out.mono HB.out⟩
      · obtain ⟨hd1, hd2, hd3, hd4, hd5⟩ := decode_skip s i hi (by rw [hx]; omega)
        have hnx := fun ty => Lib.run_next_any_at (P := Tryz.prog) wr B s i ty hit hi
        have hno2 : Lib.NoAny s.data.toList ch.data.toList (i + (Utf8.decode s i).2) := by
          intro j b hj hb
          by_cases hji : j < i
          · exact HN.out j b hji hb
          · have hjs : j < s.size := by omega
            rw [Lib.data_getElem? s j hjs] at hb
            have hb2 : s[j] = b := Option.some.inj hb
            have h128 : 128 ≤ b.toNat := by
              by_cases hje : j = i
              · subst hje; rw [← hb2, hx]; omega
              · rw [← hb2]; exact hd5 j oO hj hjs
            exact HC.out b h128
        have Hno2 := hid hno2
        clear hno2 hd5 hxl hx hR hci hU
        have hR1 := fun w => hH _ w hd1 hd2
        generalize (Utf8.decode s i).1 = r at *
        generalize (Utf8.decode s i).2 = n at *
        have Hit := hid (Lib.iterAt_heap wr B s i (i + n) hit)
        have Hb2 := hid (Lib.below_iterAt hbx (Nat.le_refl B) s (i + n))
        clear hit hH hd2
        go_wp2_with (go_at_call 108; go_must (refine (hR1 _).mono ?_); rintro e w2 ⟨rfl, hb3⟩)
        go_roundg (s.size - (i + n))
        case measure => omega
        case rel => exact ⟨i + n, by omega, (hb3.block B (Array.getElem?_eq_some_iff.1 Hit.out).1).trans Hit.out, Hb2.out.trans (hb3.mono (Nat.le_of_lt (Array.getElem?_eq_some_iff.1 Hit.out).1)), Hno2.out⟩
theorem lib_IndexAny (l : List UInt8) (w : World) (hl : l.length ≤ 1000) :
    Calls Tryz.prog 90 #[.string (bs l), .string eE] w fun e w' => e = .returned (.int .i64 (idxE l)) ∧ Below w.heap.size w w' := by
  have hd : (bs l).data.toList = l := by rw [← Lib.toList_data, bs_toList]
  rw [← idxE_any]
  by_cases h8 : l.length ≤ 8
  · have h := lib_IndexAny_short (bs l) w (by rw [bs_size]; exact h8)
    rw [hd] at h; exact h
  · have hz := zero_of_info (P := Tryz.prog) (t := 176) (v := .agg (Array.replicate 256 (.bool false))) (n := 256) kR
    have h := Tryz.strings_IndexAny_long hz.1 (bs l) eE w (by rw [eE_size]; omega) (by rw [bs_size]; omega) (by rw [bs_size]; omega) (by rw [eE_size]; omega) (by
      intro j b hj
      have h0 : eE.data.toList = [101, 69] := rfl
      rw [h0] at hj
      have hm := List.mem_of_getElem? hj
      simp only [List.mem_cons, List.not_mem_nil, or_false] at hm
      rcases hm with rfl | rfl <;> decide)
    rw [hd] at h
    refine h.mono fun e w' ⟨h1, h2⟩ => ⟨h1, ?_⟩
    rw [h2]
    exact ((Below.refl w.heap.size w).alloc (Nat.le_refl _) _).alloc (by simp) _
end
section
/-- a real number's token: sign, mantissa, power -/
def finL (m : Bool) (p : List UInt8) (k : Int) : TokR :=
 if mantOk p then
  (if (valueL m (wholeD ((cutDot p).1 ++ (cutDot p).2.1) ((cutDot p).1.length + k)) (restD ((cutDot p).1 ++ (cutDot p).2.1) ((cutDot p).1.length + k))).2 then
   tokReal (valueL m (wholeD ((cutDot p).1 ++ (cutDot p).2.1) ((cutDot p).1.length + k)) (restD ((cutDot p).1 ++ (cutDot p).2.1) ((cutDot p).1.length + k))).1
  else tokGreat)
 else tokNone
def realL2 (l : List UInt8) : TokR :=
 if (cutE (signedL l).2).2.2 then
  (if (powerL (cutE (signedL l).2).2.1).2 then finL (signedL l).1 (cutE (signedL l).2).1 (powerL (cutE (signedL l).2).2.1).1 else tokNone)
 else finL (signedL l).1 (signedL l).2 0
/-- the token that a text is -/
def tokenL (l : List UInt8) : TokR :=
 if 64 < l.length then tokNone
 else if (radixL l).ok then radixL l
 else if (wholeT l).2 then tokInt (wholeT l).1
 else realL2 l
theorem blay {w0 w1 w2 : World} (hb1 : Below w0.heap.size w0 w1) {o : Obj}
  (hb2 : Below (w1.alloc o).heap.size (w1.alloc o) w2) : Below w0.heap.size w0 w2 := by
 have h : Below w0.heap.size w0 (w1.alloc o) := hb1.alloc hb1.size o
 exact h.trans (hb2.mono h.size)
theorem dec_Token_long (l : List UInt8) (w : World) (hl : 64 < l.length) :
  Calls Tryz.prog 72 #[.string (bs l)] w fun e w' => e = .returned tokNone.val ∧ Below w.heap.size w w' := by
 have hs := bs_size l
 go_enter func72, ntmps72
 go_wp2_with fail
 exact bodyPost_ret (v := tokNone.val) (by simp [results, Tryz.results72, go_sem, TokR.val, tokNone]) rfl ⟨rfl, balloc (Below.refl _ _)⟩
set_option maxRecDepth 100000 in
set_option maxHeartbeats 4000000 in
theorem dec_Token_radix (l : List UInt8) (w : World) (hl : l.length ≤ 64) (h : (radixL l).ok = true) :
  Calls Tryz.prog 72 #[.string (bs l)] w fun e w' => e = .returned (radixL l).val ∧ Below w.heap.size w w' := by
 have hs := bs_size l
 have hR := fun w => dec_radix l w oO
 generalize radixL l = R at *
 obtain ⟨k, n, ok, er⟩ := R
 simp only at h
 subst h
 simp only [TokR.val] at hR ⊢
 go_enter func72, ntmps72
 go_wp2_with (go_at_call 87; go_must (refine (hR _).mono ?_); rintro e w1 ⟨rfl, hb1⟩; obtain ⟨c0, c1, c2, f0, f1, f2⟩ := tokCells hb1; have hz1 := hb1.size; simp at hz1; replace hz1 := Nat.lt_of_succ_le hz1)
 refine bodyPost_ret (v := .tuple #[.agg #[.int .i64 k, .int .i64 n, .string ⟨#[]⟩], .bool true, .int .i64 er]) (by simp [results, Tryz.results72, go_sem, c0, c1, c2, hz1]) rfl ⟨rfl, (bset3 (balloc hb1) _ _ _).alloc (by simp; omega) _⟩
set_option maxRecDepth 100000 in
set_option maxHeartbeats 4000000 in
theorem dec_Token_whole (l : List UInt8) (w : World) (hl : l.length ≤ 64) (h : (radixL l).ok = false) (h2 : (wholeT l).2 = true) :
  Calls Tryz.prog 72 #[.string (bs l)] w fun e w' => e = .returned (tokInt (wholeT l).1).val ∧ Below w.heap.size w w' := by
 have hs := bs_size l
 have hR := fun w => dec_radix l w oO
 have hW := fun w => dec_whole l w oO
 generalize radixL l = R at *
 generalize wholeT l = V at *
 obtain ⟨k, n, ok, er⟩ := R
 obtain ⟨v, vok⟩ := V
 simp only at h h2
 subst h h2
 simp only [TokR.val, tokInt] at hR hW ⊢
 go_enter func72, ntmps72
 go_wp2_with first | (go_at_call 87; go_must (refine (hR _).mono ?_); rintro e w1 ⟨rfl, hb1⟩; obtain ⟨c0, c1, c2, f0, f1, f2⟩ := tokCells hb1; have hz1 := hb1.size; simp at hz1; replace hz1 := Nat.lt_of_succ_le hz1) | (go_at_call 88; go_must (refine (hW _).mono ?_); rintro e w2 ⟨rfl, hb2⟩; replace hb2 := blay hb1 hb2; clear c0 c1 c2 f0 f1 f2; obtain ⟨c0, c1, c2, f0, f1, f2⟩ := tokCells hb2)
 refine bodyPost_ret (v := .tuple #[.agg #[.int .i64 1, .int .i64 v, .string ⟨#[]⟩], .bool true, .int .i64 0]) (by simp [results, Tryz.results72, go_sem, c0, c1, c2]) rfl ⟨rfl, bset3 (balloc hb2) _ _ _⟩
theorem powerL_bound (l : List UInt8) : -1000 ≤ (powerL l).1 ∧ (powerL l).1 ≤ 1000 := by
 unfold powerL
 split
 ·
  simp
 ·
  next h =>
  simp only [Bool.or_eq_true, decide_eq_true_eq, Bool.not_eq_true', not_or, Bool.not_eq_false] at h
  obtain ⟨⟨h1, h2⟩, h3⟩ := h
  have h4 := natOf_lt (signedL l).2 (List.all_eq_true.1 h3)
  have h5 : 10 ^ (signedL l).2.length ≤ 10 ^ 3 := Nat.pow_le_pow_right dD oO
  generalize natOf (signedL l).2 = N at *
  split
  ·
   simp only; omega
  ·
   simp only; omega
set_option maxRecDepth 100000 in
set_option maxHeartbeats 8000000 in
theorem dec_Token_plain (l : List UInt8) (w : World) (hl : l.length ≤ 64) (h : (radixL l).ok = false) (h2 : (wholeT l).2 = false) (h3 : (cutE (signedL l).2).2.2 = false) :
  Calls Tryz.prog 72 #[.string (bs l)] w fun e w' => e = .returned (finL (signedL l).1 (signedL l).2 0).val ∧ Below w.heap.size w w' := by
 have hs := bs_size l
 have hR := fun w => dec_radix l w oO
 have hW := fun w => dec_whole l w oO
 have hS := fun w => dec_signed l w oO
 have hlen := signedL_len l
 generalize radixL l = R at *
 generalize wholeT l = V at *
 generalize signedL l = sr at *
 obtain ⟨k, n, ok, er⟩ := R
 obtain ⟨v, vok⟩ := V
 obtain ⟨m, r⟩ := sr
 simp only at h h2 h3 hlen hS ⊢
 subst h h2
 simp only [TokR.val] at hR hW
 have hI : ∀ w, Calls Tryz.prog 90 #[.string (bs r), .string ⟨#[101, 69]⟩] w fun e w' => e = .returned (.int .i64 (-1)) ∧ Below w.heap.size w w' := fun w => by
  have h := lib_IndexAny r w oO
  unfold idxE at h
  rw [h3] at h
  exact h
 have hM := fun w => dec_mantissa r w oO
 have hcl := cutDot_len r
 have hok := mantOk_digits r
 unfold finL
 generalize mantOk r = ok at *
 generalize cutDot r = pq at *
 obtain ⟨A, B, f⟩ := pq
 simp only at hM hok hcl
 clear h3
 cases ok with
 | false =>
  clear hok
  go_enter func72, ntmps72
  go_wp2_with first | (go_at_call 87; go_must (refine (hR _).mono ?_); rintro e w1 ⟨rfl, hb1⟩; obtain ⟨c0, c1, c2, f0, f1, f2⟩ := tokCells hb1; have hz1 := hb1.size; simp at hz1; replace hz1 := Nat.lt_of_succ_le hz1) | (go_at_call 88; go_must (refine (hW _).mono ?_); rintro e w2 ⟨rfl, hb2⟩; replace hb2 := blay hb1 hb2; clear c0 c1 c2 f0 f1 f2; obtain ⟨c0, c1, c2, f0, f1, f2⟩ := tokCells hb2) | (go_at_call 89; go_must (refine (hS _).mono ?_); rintro e w3 ⟨rfl, hb3⟩; replace hb3 := btr hb2 hb3; clear c0 c1 c2 f0 f1 f2; obtain ⟨c0, c1, c2, f0, f1, f2⟩ := tokCells hb3) | (go_at_call 90; go_must (refine (hI _).mono ?_); rintro e w4 ⟨rfl, hb4⟩; replace hb4 := btr hb3 hb4; clear c0 c1 c2 f0 f1 f2; obtain ⟨c0, c1, c2, f0, f1, f2⟩ := tokCells hb4) | (go_at_call 92; go_must (refine (hM _).mono ?_); rintro e w5 ⟨rfl, hb5⟩; replace hb5 := btr hb4 hb5; clear c0 c1 c2 f0 f1 f2; obtain ⟨c0, c1, c2, f0, f1, f2⟩ := tokCells hb5)
  exact bodyPost_ret (v := tokNone.val) (by simp [results, Tryz.results72, go_sem, c0, c1, c2, TokR.val, tokNone]) rfl ⟨rfl, bset3 (balloc hb5) _ _ _⟩
 | true =>
  obtain ⟨hA, hB⟩ := hok rfl
  rw [if_pos rfl]
  have hAB : ∀ c ∈ A ++ B, isDig c = true := by
   intro c hc
   rcases List.mem_append.1 hc with h | h
   ·
    exact hA c h
   ·
    exact hB c h
  have hSh := fun w => dec_shift A B 0 w oO oO oO
  have hV := fun w => dec_value m (wholeD (A ++ B) (A.length + 0)) (restD (A ++ B) (A.length + 0)) w (by simp [restD]; omega) (wholeD_digits _ _ hAB) (restD_digits _ _ hAB)
  clear hok hA hB hAB
  simp only
  generalize wholeD (A ++ B) (A.length + 0) = W at *
  generalize restD (A ++ B) (A.length + 0) = D at *
  generalize valueL m W D = vv at *
  obtain ⟨n2, fit⟩ := vv
  simp only at hV
  cases fit
  all_goals
   go_enter func72, ntmps72
   go_wp2_with first | (go_at_call 87; go_must (refine (hR _).mono ?_); rintro e w1 ⟨rfl, hb1⟩; obtain ⟨c0, c1, c2, f0, f1, f2⟩ := tokCells hb1; have hz1 := hb1.size; simp at hz1; replace hz1 := Nat.lt_of_succ_le hz1) | (go_at_call 88; go_must (refine (hW _).mono ?_); rintro e w2 ⟨rfl, hb2⟩; replace hb2 := blay hb1 hb2; clear c0 c1 c2 f0 f1 f2; obtain ⟨c0, c1, c2, f0, f1, f2⟩ := tokCells hb2) | (go_at_call 89; go_must (refine (hS _).mono ?_); rintro e w3 ⟨rfl, hb3⟩; replace hb3 := btr hb2 hb3; clear c0 c1 c2 f0 f1 f2; obtain ⟨c0, c1, c2, f0, f1, f2⟩ := tokCells hb3) | (go_at_call 90; go_must (refine (hI _).mono ?_); rintro e w4 ⟨rfl, hb4⟩; replace hb4 := btr hb3 hb4; clear c0 c1 c2 f0 f1 f2; obtain ⟨c0, c1, c2, f0, f1, f2⟩ := tokCells hb4) | (go_at_call 92; go_must (refine (hM _).mono ?_); rintro e w5 ⟨rfl, hb5⟩; replace hb5 := btr hb4 hb5; clear c0 c1 c2 f0 f1 f2; obtain ⟨c0, c1, c2, f0, f1, f2⟩ := tokCells hb5) | (go_at_call 93; go_must (refine (hSh _).mono ?_); rintro e w6 ⟨rfl, hb6⟩; replace hb6 := btr hb5 hb6; clear c0 c1 c2 f0 f1 f2; obtain ⟨c0, c1, c2, f0, f1, f2⟩ := tokCells hb6) | (go_at_call 94; go_must (refine (hV _).mono ?_); rintro e w7 ⟨rfl, hb7⟩; replace hb7 := btr hb6 hb7; clear c0 c1 c2 f0 f1 f2; obtain ⟨c0, c1, c2, f0, f1, f2⟩ := tokCells hb7)
  ·
   exact bodyPost_ret (v := tokGreat.val) (by simp [results, Tryz.results72, go_sem, c0, c1, c2, TokR.val, tokGreat]) rfl ⟨rfl, bset3 (balloc hb7) _ _ _⟩
  ·
   exact bodyPost_ret (v := (tokReal n2).val) (by simp [results, Tryz.results72, go_sem, c0, c1, c2, TokR.val, tokReal]) rfl ⟨rfl, bset3 (balloc hb7) _ _ _⟩
set_option maxRecDepth 100000 in
set_option maxHeartbeats 8000000 in
theorem dec_Token_power (l : List UInt8) (w : World) (hl : l.length ≤ 64) (h : (radixL l).ok = false) (h2 : (wholeT l).2 = false) (h3 : (cutE (signedL l).2).2.2 = true) :
  Calls Tryz.prog 72 #[.string (bs l)] w fun e w' => e = .returned (if (powerL (cutE (signedL l).2).2.1).2 then finL (signedL l).1 (cutE (signedL l).2).1 (powerL (cutE (signedL l).2).2.1).1 else tokNone).val ∧ Below w.heap.size w w' := by
 have hs := bs_size l
 have hR := fun w => dec_radix l w oO
 have hW := fun w => dec_whole l w oO
 have hS := fun w => dec_signed l w oO
 have hlen := signedL_len l
 generalize radixL l = R at *
 generalize wholeT l = V at *
 generalize signedL l = sr at *
 obtain ⟨k, n, ok, er⟩ := R
 obtain ⟨v, vok⟩ := V
 obtain ⟨m, r⟩ := sr
 simp only at h h2 h3 hlen hS ⊢
 subst h h2
 simp only [TokR.val] at hR hW
 have hI := fun w => lib_IndexAny r w oO
 obtain ⟨x, -, hrx⟩ := cutE_yes_join r h3
 have hel := cutE_len r
 unfold idxE at hI
 generalize cutE r = cc at *
 obtain ⟨p, q, fd⟩ := cc
 simp only at h3 hrx hI hel ⊢
 subst h3
 rw [if_pos rfl] at hI
 change ∀ w, Calls Tryz.prog 90 #[.string (bs r), .string ⟨#[101, 69]⟩] w _ at hI
 have hrs : (bs r).size = p.length + (q.length + 1) := by rw [bs_size, hrx]; simp
 have hx1 : (bs r).extract (p.length + 1) (p.length + (q.length + 1)) = bs q := by
  rw [← hrs, ext_drop _ _ _ (bs_size r), hrx, List.append_cons, List.drop_left' (by simp)]
 have hx2 : (bs r).extract 0 p.length = bs p := by
  rw [ext_take, hrx]; simp
 have hP := fun w => dec_power q w oO
 obtain ⟨hpb1, hpb2⟩ := powerL_bound q
 have hrl : p.length + (q.length + 1) ≤ 64 := by have h := bs_size r; omega
 have hM := fun w => dec_mantissa p w oO
 have hcl := cutDot_len p
 have hok := mantOk_digits p
 generalize powerL q = pw at *
 obtain ⟨by', pok⟩ := pw
 unfold finL
 simp only at hP hpb1 hpb2 ⊢
 clear hrx hlen hel
 cases pok with
 | false =>
  clear hok
  go_enter func72, ntmps72
  go_wp2_with first | (go_at_call 87; go_must (refine (hR _).mono ?_); rintro e w1 ⟨rfl, hb1⟩; obtain ⟨c0, c1, c2, f0, f1, f2⟩ := tokCells hb1; have hz1 := hb1.size; simp at hz1; replace hz1 := Nat.lt_of_succ_le hz1) | (go_at_call 88; go_must (refine (hW _).mono ?_); rintro e w2 ⟨rfl, hb2⟩; replace hb2 := blay hb1 hb2; clear c0 c1 c2 f0 f1 f2; obtain ⟨c0, c1, c2, f0, f1, f2⟩ := tokCells hb2) | (go_at_call 89; go_must (refine (hS _).mono ?_); rintro e w3 ⟨rfl, hb3⟩; replace hb3 := btr hb2 hb3; clear c0 c1 c2 f0 f1 f2; obtain ⟨c0, c1, c2, f0, f1, f2⟩ := tokCells hb3) | (go_at_call 90; go_must (refine (hI _).mono ?_); rintro e w4 ⟨rfl, hb4⟩; replace hb4 := btr hb3 hb4; clear c0 c1 c2 f0 f1 f2; obtain ⟨c0, c1, c2, f0, f1, f2⟩ := tokCells hb4) | (go_at_call 91; go_must (refine (hP _).mono ?_); rintro e w5 ⟨rfl, hb5⟩; replace hb5 := btr hb4 hb5; clear c0 c1 c2 f0 f1 f2; obtain ⟨c0, c1, c2, f0, f1, f2⟩ := tokCells hb5)
  exact bodyPost_ret (v := tokNone.val) (by simp [results, Tryz.results72, go_sem, c0, c1, c2, TokR.val, tokNone]) rfl ⟨rfl, bset3 (balloc hb5) _ _ _⟩
 | true =>
  rw [if_pos rfl]
  generalize mantOk p = ok at *
  generalize cutDot p = pq at *
  obtain ⟨A, B, f⟩ := pq
  simp only at hM hok hcl
  cases ok with
  | false =>
   clear hok
   go_enter func72, ntmps72
   go_wp2_with first | (go_at_call 87; go_must (refine (hR _).mono ?_); rintro e w1 ⟨rfl, hb1⟩; obtain ⟨c0, c1, c2, f0, f1, f2⟩ := tokCells hb1; have hz1 := hb1.size; simp at hz1; replace hz1 := Nat.lt_of_succ_le hz1) | (go_at_call 88; go_must (refine (hW _).mono ?_); rintro e w2 ⟨rfl, hb2⟩; replace hb2 := blay hb1 hb2; clear c0 c1 c2 f0 f1 f2; obtain ⟨c0, c1, c2, f0, f1, f2⟩ := tokCells hb2) | (go_at_call 89; go_must (refine (hS _).mono ?_); rintro e w3 ⟨rfl, hb3⟩; replace hb3 := btr hb2 hb3; clear c0 c1 c2 f0 f1 f2; obtain ⟨c0, c1, c2, f0, f1, f2⟩ := tokCells hb3) | (go_at_call 90; go_must (refine (hI _).mono ?_); rintro e w4 ⟨rfl, hb4⟩; replace hb4 := btr hb3 hb4; clear c0 c1 c2 f0 f1 f2; obtain ⟨c0, c1, c2, f0, f1, f2⟩ := tokCells hb4) | (go_at_call 91; go_must (refine (hP _).mono ?_); rintro e w5 ⟨rfl, hb5⟩; replace hb5 := btr hb4 hb5; clear c0 c1 c2 f0 f1 f2; obtain ⟨c0, c1, c2, f0, f1, f2⟩ := tokCells hb5) | (go_at_call 92; go_must (refine (hM _).mono ?_); rintro e w6 ⟨rfl, hb6⟩; replace hb6 := btr hb5 hb6; clear c0 c1 c2 f0 f1 f2; obtain ⟨c0, c1, c2, f0, f1, f2⟩ := tokCells hb6)
   exact bodyPost_ret (v := tokNone.val) (by simp [results, Tryz.results72, go_sem, c0, c1, c2, TokR.val, tokNone]) rfl ⟨rfl, bset3 (balloc hb6) _ _ _⟩
  | true =>
   obtain ⟨hA, hB⟩ := hok rfl
   rw [if_pos rfl]
   have hAB : ∀ c ∈ A ++ B, isDig c = true := by
    intro c hc
    rcases List.mem_append.1 hc with h | h
    ·
     exact hA c h
    ·
     exact hB c h
   have hSh := fun w => dec_shift A B by' w oO oO oO
   have hV := fun w => dec_value m (wholeD (A ++ B) (A.length + by')) (restD (A ++ B) (A.length + by')) w (by simp [restD]; omega) (wholeD_digits _ _ hAB) (restD_digits _ _ hAB)
   clear hok hA hB hAB
   simp only
   generalize wholeD (A ++ B) (A.length + by') = W at *
   generalize restD (A ++ B) (A.length + by') = D at *
   generalize valueL m W D = vv at *
   obtain ⟨n2, fit⟩ := vv
   simp only at hV
   cases fit
   all_goals
    go_enter func72, ntmps72
    go_wp2_with first | (go_at_call 87; go_must (refine (hR _).mono ?_); rintro e w1 ⟨rfl, hb1⟩; obtain ⟨c0, c1, c2, f0, f1, f2⟩ := tokCells hb1; have hz1 := hb1.size; simp at hz1; replace hz1 := Nat.lt_of_succ_le hz1) | (go_at_call 88; go_must (refine (hW _).mono ?_); rintro e w2 ⟨rfl, hb2⟩; replace hb2 := blay hb1 hb2; clear c0 c1 c2 f0 f1 f2; obtain ⟨c0, c1, c2, f0, f1, f2⟩ := tokCells hb2) | (go_at_call 89; go_must (refine (hS _).mono ?_); rintro e w3 ⟨rfl, hb3⟩; replace hb3 := btr hb2 hb3; clear c0 c1 c2 f0 f1 f2; obtain ⟨c0, c1, c2, f0, f1, f2⟩ := tokCells hb3) | (go_at_call 90; go_must (refine (hI _).mono ?_); rintro e w4 ⟨rfl, hb4⟩; replace hb4 := btr hb3 hb4; clear c0 c1 c2 f0 f1 f2; obtain ⟨c0, c1, c2, f0, f1, f2⟩ := tokCells hb4) | (go_at_call 91; go_must (refine (hP _).mono ?_); rintro e w5 ⟨rfl, hb5⟩; replace hb5 := btr hb4 hb5; clear c0 c1 c2 f0 f1 f2; obtain ⟨c0, c1, c2, f0, f1, f2⟩ := tokCells hb5) | (go_at_call 92; go_must (refine (hM _).mono ?_); rintro e w6 ⟨rfl, hb6⟩; replace hb6 := btr hb5 hb6; clear c0 c1 c2 f0 f1 f2; obtain ⟨c0, c1, c2, f0, f1, f2⟩ := tokCells hb6) | (go_at_call 93; go_must (refine (hSh _).mono ?_); rintro e w7 ⟨rfl, hb7⟩; replace hb7 := btr hb6 hb7; clear c0 c1 c2 f0 f1 f2; obtain ⟨c0, c1, c2, f0, f1, f2⟩ := tokCells hb7) | (go_at_call 94; go_must (refine (hV _).mono ?_); rintro e w8 ⟨rfl, hb8⟩; replace hb8 := btr hb7 hb8; clear c0 c1 c2 f0 f1 f2; obtain ⟨c0, c1, c2, f0, f1, f2⟩ := tokCells hb8)
   ·
    exact bodyPost_ret (v := tokGreat.val) (by simp [results, Tryz.results72, go_sem, c0, c1, c2, TokR.val, tokGreat]) rfl ⟨rfl, bset3 (balloc hb8) _ _ _⟩
   ·
    exact bodyPost_ret (v := (tokReal n2).val) (by simp [results, Tryz.results72, go_sem, c0, c1, c2, TokR.val, tokReal]) rfl ⟨rfl, bset3 (balloc hb8) _ _ _⟩
theorem dec_Token (l : List UInt8) (w : World) :
  Calls Tryz.prog 72 #[.string (bs l)] w fun e w' => e = .returned (tokenL l).val ∧ Below w.heap.size w w' := by
 unfold tokenL
 by_cases hl : 64 < l.length
 ·
  rw [if_pos hl]; exact dec_Token_long l w hl
 ·
  rw [if_neg hl]
  have hl' : l.length ≤ 64 := by omega
  cases h : (radixL l).ok with
  | true => rw [if_pos rfl]; exact dec_Token_radix l w hl' h
  | false =>
   rw [if_neg dD]
   cases h2 : (wholeT l).2 with
   | true => rw [if_pos rfl]; exact dec_Token_whole l w hl' h h2
   | false =>
    rw [if_neg dD]
    unfold realL2
    cases h3 : (cutE (signedL l).2).2.2 with
    | true => rw [if_pos rfl]; exact dec_Token_power l w hl' h h2 h3
    | false => rw [if_neg dD]; exact dec_Token_plain l w hl' h h2 h3
end
section
def bren : Go.Shelf.Ren := ⟨fun | 240 => 76 | 276 => 95 | 167 => 65 | n => n, fun | 0 => 0 | 3 => 3 | 4 => 4 | 5 => 5 | 9 => 9 | 75 => 125 | 80 => 129 | 20 => 20 | 37 => 35 | 70 => 120 | 72 => 122 | 164 => 159 | n => n, fun | n => n⟩
theorem lays167 : Lays.n167 Tryz.prog bren := {
 mixed := by kernel_rfl
 f167 := func65.trans (congrArg some kR)
 f240 := func76.trans (congrArg some kR)
 f276 := func95.trans (congrArg some kR)
 t0 := underlying0
 a0 := isAgg0
 z0 := sizeOf0
 v0 := zeroValue0
 t4 := underlying4
 a4 := isAgg4
 z4 := sizeOf4
 v4 := zeroValue4
 t5 := underlying5
 a5 := isAgg5
 z5 := sizeOf5
 v5 := zeroValue5
 t9 := underlying9
 a9 := isAgg9
 z9 := sizeOf9
 v9 := zeroValue9
 t20 := underlying20
 a20 := isAgg20
 z20 := sizeOf20
 v20 := zeroValue20
 t37 := underlying35
 a37 := isAgg35
 z37 := sizeOf35
 v37 := zeroValue35
 t70 := underlying120
 a70 := isAgg120
 z70 := sizeOf120
 v70 := zeroValue120
 t72 := underlying122
 a72 := isAgg122
 z72 := sizeOf122
 v72 := zeroValue122
 t164 := underlying159
 a164 := isAgg159
 z164 := sizeOf159
 v164 := zeroValue159
 t75 := underlying125
 a75 := isAgg125
 z75 := sizeOf125
 v75 := zeroValue125 }
theorem bextra : Builder.Extra Tryz.prog bren where
 sizeBuilder := by kernel_rfl
 liesBuilder := by kernel_rfl
 t5 := underlying5
 a5 := isAgg5
 z5 := sizeOf5
 v5 := zeroValue5
 infoByte := by kernel_rfl
 cellsByte := by kernel_rfl
 sizeByte := by kernel_rfl
 neB5 := by decide
theorem WriteByte (B b : Nat) (bs : List Value) (c : Int) (w : World) (h : Lib.IsBuilder 122 5 B b bs w) (hlen : bs.length + 1 ≤ 140737488355328) (hBw : B ≤ w.heap.size) :
  Calls Tryz.prog 65 #[.pointer (some ⟨b, 0, none⟩), .int .u8 c] w fun e w' => e = .returned .nilIface ∧ (Lib.BuilderAt 122 5 B b (.pointer (some ⟨b, 0, none⟩)) (bs ++ [.int .u8 c]) w' ∧ Below B w w') :=
 Any.Builder_WriteByte lays167 bextra B b bs c w h hlen hBw
end
section
def signL (n : Int) : List UInt8 := if n < 0 then [45] else []
def wholeL (n : Int) : List UInt8 := digitsL (n.natAbs / 65536)
def restL (n : Int) : List UInt8 := fracL (n.natAbs % 65536)
theorem byteCells_snoc (l : List UInt8) (x : Int) (h : 0 ≤ x) (h' : x < 256) : Lib.byteCells l ++ [.int .u8 x] = Lib.byteCells (l ++ [ch x]) := by
 have : ((ch x).toNat : Int) = x := by
  unfold ch; rw [UInt8.toNat_ofNat']; omega
 simp [Lib.byteCells, this]
theorem byteCells_len (l : List UInt8) : (Lib.byteCells l).length = l.length := by simp [Lib.byteCells]
theorem ret3 {a b c a' b' c' : ByteArray} (h1 : a = a') (h2 : b = b') (h3 : c = c') : Ending.returned (.tuple #[.string a, .string b, .string c]) = Ending.returned (.tuple #[.string a', .string b', .string c']) := by
 rw [h1, h2, h3]
set_option maxHeartbeats 400000 in
theorem dec_parts_neg (n : Int) (w : World) (h : -2147483648 ≤ n) (hn : n < 0) :
    Calls Tryz.prog 61 #[.int .i64 n] w fun e w' => e = .returned (.tuple #[.string (bs (signL n)), .string (bs (wholeL n)), .string (bs (restL n))]) ∧ Below w.heap.size w w' := by
  have hf := fitsB_yes h oO
  have hm := and_mask16 (-n) oO oO
  go_enter func61, ntmps61
  go_wp2_with (go_at_call 71; refine (fix_Fits _ _).mono ?_; rintro e w' ⟨rfl, rfl⟩)
  go_loopw [6] (fun f wr => ∃ (m : Nat) (l : List UInt8), f = .int .i64 m ∧ m < 65536 ∧ Lib.IsBuilder 122 5 w.heap.size w.heap.size (Lib.byteCells l) wr ∧ Below w.heap.size w wr ∧ l.length + (fracL m).length ≤ 16 ∧ restL n = l ++ fracL m) (fun f _ => (fracL (intOf f).toNat).length)
  case atStart => exact ⟨(n.natAbs % 65536), [], by go_num, by omega, Lib.fresh_isBuilder _ _ _, (Below.refl _ _).alloc (Nat.le_refl _) _, by simpa using fracL_len _, rfl⟩
  case round =>
    obtain ⟨m, l, rfl, hm1, hB, hbel, hlen, hrest⟩ := hrel
    have Hrest := hid hrest; clear hrest
    have hsz := hbel.size
    by_cases hm0 : 0 < m
    · have hst := fracL_step m hm0 hm1
      have Hst := hid hst; clear hst
      have hm2 := and_mask16 (m * 10) oO oO
      clear hm
      go_wp2_with (go_at_call 65; go_must (refine (WriteByte _ _ _ _ _ hB (by rw [byteCells_len]; omega) hsz).mono ?_); rintro e w1 ⟨rfl, hB1, hbel1⟩)
      have hc := byteCells_snoc l (48 + (m : Int) * 10 / 65536) oO oO
      rw [hc] at hB1
      have e1 : ((m * 10 / 65536 : Nat) : Int) = (m : Int) * 10 / 65536 := by omega
      have hl2 := congrArg List.length Hst.out
      simp only [List.length_cons] at hl2
      refine ⟨⟨m * 10 % 65536, l ++ [ch (48 + (m : Int) * 10 / 65536)], by go_num, by omega, .inr hB1, hbel.trans hbel1, ?_, ?_⟩, ?_⟩
      · simp; omega
      · rw [Hrest.out, Hst.out, e1]; simp
      · have e2 : ((m : Int) * 10 % 65536).toNat = m * 10 % 65536 := by omega
        have e3 : ((m : Int)).toNat = m := by omega
        simp only [intOf, e2, e3]; omega
    · have hm00 : m = 0 := by omega
      have Hm := hid hm00; clear hm00
      go_wp2_with first | (go_at_call 75; refine (dec_digits (-n / 65536).toNat _ _ oO oO oO).mono ?_; rintro e w' ⟨rfl, rfl⟩) | (go_at_call 66; refine (Tryz.Builder_String_any _ _ _ _ hB hsz).mono ?_; rintro e w1 ⟨rfl, hbel1⟩)
      go_ret3
      have e1 : (-n / 65536).toNat = n.natAbs / 65536 := by omega
      exact ⟨ret3 (by rw [signL, if_pos hn]; rfl) (by rw [e1]; rfl) (by rw [Hrest.out, Hm.out, fracL_zero, List.append_nil]; rfl), hbel.trans hbel1⟩
set_option maxHeartbeats 400000 in
theorem dec_parts_pos (n : Int) (w : World) (h : 0 ≤ n) (hn : n ≤ 2147483647) :
    Calls Tryz.prog 61 #[.int .i64 n] w fun e w' => e = .returned (.tuple #[.string (bs (signL n)), .string (bs (wholeL n)), .string (bs (restL n))]) ∧ Below w.heap.size w w' := by
  have hf := fitsB_yes oO hn
  have hm := and_mask16 n oO oO
  go_enter func61, ntmps61
  go_wp2_with (go_at_call 71; refine (fix_Fits _ _).mono ?_; rintro e w' ⟨rfl, rfl⟩)
  go_loopw [6] (fun f wr => ∃ (m : Nat) (l : List UInt8), f = .int .i64 m ∧ m < 65536 ∧ Lib.IsBuilder 122 5 w.heap.size w.heap.size (Lib.byteCells l) wr ∧ Below w.heap.size w wr ∧ l.length + (fracL m).length ≤ 16 ∧ restL n = l ++ fracL m) (fun f _ => (fracL (intOf f).toNat).length)
  case atStart => exact ⟨(n.natAbs % 65536), [], by go_num, by omega, Lib.fresh_isBuilder _ _ _, (Below.refl _ _).alloc (Nat.le_refl _) _, by simpa using fracL_len _, rfl⟩
  case round =>
    obtain ⟨m, l, rfl, hm1, hB, hbel, hlen, hrest⟩ := hrel
    have Hrest := hid hrest; clear hrest
    have hsz := hbel.size
    by_cases hm0 : 0 < m
    · have hst := fracL_step m hm0 hm1
      have Hst := hid hst; clear hst
      have hm2 := and_mask16 (m * 10) oO oO
      clear hm
      go_wp2_with (go_at_call 65; go_must (refine (WriteByte _ _ _ _ _ hB (by rw [byteCells_len]; omega) hsz).mono ?_); rintro e w1 ⟨rfl, hB1, hbel1⟩)
      have hc := byteCells_snoc l (48 + (m : Int) * 10 / 65536) oO oO
      rw [hc] at hB1
      have e1 : ((m * 10 / 65536 : Nat) : Int) = (m : Int) * 10 / 65536 := by omega
      have hl2 := congrArg List.length Hst.out
      simp only [List.length_cons] at hl2
      refine ⟨⟨m * 10 % 65536, l ++ [ch (48 + (m : Int) * 10 / 65536)], by go_num, by omega, .inr hB1, hbel.trans hbel1, ?_, ?_⟩, ?_⟩
      · simp; omega
      · rw [Hrest.out, Hst.out, e1]; simp
      · have e2 : ((m : Int) * 10 % 65536).toNat = m * 10 % 65536 := by omega
        have e3 : ((m : Int)).toNat = m := by omega
        simp only [intOf, e2, e3]; omega
    · have hm00 : m = 0 := by omega
      have Hm := hid hm00; clear hm00
      go_wp2_with first | (go_at_call 75; refine (dec_digits (n / 65536).toNat _ _ oO oO oO).mono ?_; rintro e w' ⟨rfl, rfl⟩) | (go_at_call 66; refine (Tryz.Builder_String_any _ _ _ _ hB hsz).mono ?_; rintro e w1 ⟨rfl, hbel1⟩)
      go_ret3
      have e1 : (n / 65536).toNat = n.natAbs / 65536 := by omega
      exact ⟨ret3 (by rw [signL, if_neg oO]; rfl) (by rw [e1]; rfl) (by rw [Hrest.out, Hm.out, fracL_zero, List.append_nil]; rfl), hbel.trans hbel1⟩
set_option maxHeartbeats 400000 in
theorem dec_parts_not (n : Int) (w : World) (h : fitsB n = false) :
    Calls Tryz.prog 61 #[.int .i64 n] w fun e w' => e = .returned (.tuple #[.string (bs (signL 0)), .string (bs (wholeL 0)), .string (bs (restL 0))]) ∧ Below w.heap.size w w' := by
  have hf := h
  have hm := and_mask16 0 oO oO
  go_enter func61, ntmps61
  go_wp2_with (go_at_call 71; refine (fix_Fits _ _).mono ?_; rintro e w' ⟨rfl, rfl⟩)
  go_loopw [6] (fun f wr => ∃ (m : Nat) (l : List UInt8), f = .int .i64 m ∧ m < 65536 ∧ Lib.IsBuilder 122 5 w.heap.size w.heap.size (Lib.byteCells l) wr ∧ Below w.heap.size w wr ∧ l.length + (fracL m).length ≤ 16 ∧ restL 0 = l ++ fracL m) (fun f _ => (fracL (intOf f).toNat).length)
  case atStart => exact ⟨0, [], by go_num, by omega, Lib.fresh_isBuilder _ _ _, (Below.refl _ _).alloc (Nat.le_refl _) _, by simpa using fracL_len _, rfl⟩
  case round =>
    obtain ⟨m, l, rfl, hm1, hB, hbel, hlen, hrest⟩ := hrel
    have Hrest := hid hrest; clear hrest
    have hsz := hbel.size
    by_cases hm0 : 0 < m
    · have hst := fracL_step m hm0 hm1
      have Hst := hid hst; clear hst
      have hm2 := and_mask16 (m * 10) oO oO
      clear hm
      go_wp2_with (go_at_call 65; go_must (refine (WriteByte _ _ _ _ _ hB (by rw [byteCells_len]; omega) hsz).mono ?_); rintro e w1 ⟨rfl, hB1, hbel1⟩)
      have hc := byteCells_snoc l (48 + (m : Int) * 10 / 65536) oO oO
      rw [hc] at hB1
      have e1 : ((m * 10 / 65536 : Nat) : Int) = (m : Int) * 10 / 65536 := by omega
      have hl2 := congrArg List.length Hst.out
      simp only [List.length_cons] at hl2
      refine ⟨⟨m * 10 % 65536, l ++ [ch (48 + (m : Int) * 10 / 65536)], by go_num, by omega, .inr hB1, hbel.trans hbel1, ?_, ?_⟩, ?_⟩
      · simp; omega
      · rw [Hrest.out, Hst.out, e1]; simp
      · have e2 : ((m : Int) * 10 % 65536).toNat = m * 10 % 65536 := by omega
        have e3 : ((m : Int)).toNat = m := by omega
        simp only [intOf, e2, e3]; omega
    · have hm00 : m = 0 := by omega
      have Hm := hid hm00; clear hm00
      go_wp2_with first | (go_at_call 75; refine (dec_digits 0 _ _ oO oO oO).mono ?_; rintro e w' ⟨rfl, rfl⟩) | (go_at_call 66; refine (Tryz.Builder_String_any _ _ _ _ hB hsz).mono ?_; rintro e w1 ⟨rfl, hbel1⟩)
      go_ret3
      exact ⟨ret3 rfl rfl (by rw [Hrest.out, Hm.out, fracL_zero, List.append_nil]; rfl), hbel.trans hbel1⟩
/-- what the texts are of: n, or 0 where n does not fit -/
def norm (n : Int) : Int := if fitsB n then n else 0
theorem dec_parts (n : Int) (w : World) :
    Calls Tryz.prog 61 #[.int .i64 n] w fun e w' => e = .returned (.tuple #[.string (bs (signL (norm n))), .string (bs (wholeL (norm n))), .string (bs (restL (norm n)))]) ∧ Below w.heap.size w w' := by
  unfold norm
  by_cases h1 : n < -2147483648
  · rw [fitsB_lo h1]; exact dec_parts_not n w (fitsB_lo h1)
  · by_cases h2 : 2147483647 < n
    · rw [fitsB_hi h2]; exact dec_parts_not n w (fitsB_hi h2)
    · rw [fitsB_yes oO oO]
      by_cases h3 : n < 0
      · exact dec_parts_neg n w oO h3
      · exact dec_parts_pos n w oO oO
end
section
theorem norm_lo (n : Int) : -2147483648 ≤ norm n := by unfold norm fitsB; split <;> simp at * <;> omega
theorem norm_hi (n : Int) : norm n ≤ 2147483647 := by unfold norm fitsB; split <;> simp at * <;> omega
theorem signL_size (n : Int) : (bs (signL n)).size ≤ 1 := by rw [bs_size]; unfold signL; split <;> simp
theorem wholeL_size (n : Int) (h : -2147483648 ≤ n) (h' : n ≤ 2147483647) : (bs (wholeL n)).size ≤ 20 := digitsL_size _ oO
theorem restL_size (n : Int) : (bs (restL n)).size ≤ 16 := by rw [bs_size]; exact fracL_len _
/-- .. with a point in any case -/
def realL (n : Int) : List UInt8 := signL n ++ wholeL n ++ 46 :: (if restL n = [] then [48] else restL n)
theorem ret_str {a b : ByteArray} (h : a = b) : Ending.returned (.string a) = Ending.returned (.string b) := by rw [h]
set_option maxHeartbeats 400000 in
theorem dec_PrintReal (n : Int) (w : World) :
  Calls Tryz.prog 48 #[.int .i64 n] w fun e w' => e = .returned (.string (bs (realL (norm n)))) ∧ Below w.heap.size w w' := by
 have h1 := signL_size (norm n)
 have h2 := wholeL_size (norm n) (norm_lo n) (norm_hi n)
 have h3 := restL_size (norm n)
 by_cases h0 : restL (norm n) = []
 ·
  have H0 := hid h0
  have he : (bs (restL (norm n))).toList.isEmpty = true := by rw [h0]; simp [bs]
  clear h0
  go_enter func48, ntmps48
  go_wp2_with (go_at_call 61; refine (dec_parts _ _).mono ?_; rintro e w1 ⟨rfl, hb⟩)
  go_ret
  refine ⟨ret_str ?_, hb⟩
  rw [realL, if_pos H0.out]
  show bs _ ++ bs _ ++ bs [46] ++ bs [48] = _
  rw [bs_append, bs_append, bs_append]; simp
 ·
  have H0 := hid h0
  have he : (bs (restL (norm n))).toList.isEmpty = false := by
   cases h : restL (norm n) with
   | nil => exact absurd h h0
   | cons a l => simp [bs]
  clear h0
  go_enter func48, ntmps48
  go_wp2_with (go_at_call 61; refine (dec_parts _ _).mono ?_; rintro e w1 ⟨rfl, hb⟩)
  go_ret
  refine ⟨ret_str ?_, hb⟩
  rw [realL, if_neg H0.out]
  show bs _ ++ bs _ ++ bs [46] ++ bs _ = _
  rw [bs_append, bs_append, bs_append]; simp
end
section
theorem fitsB_iff (n : Int) : fitsB n = true ↔ -2147483648 ≤ n ∧ n ≤ 2147483647 := by unfold fitsB; simp
def floorI (a : Int) : Int := if fitsB a = true then a / 65536 * 65536 else 0
theorem fix_Floor (a : Int) (w : World) : Calls Tryz.prog 73 #[.int .i64 a] w fun e w' => e = .returned (.int .i64 (floorI a)) ∧ w = w' := by
 refine W.enter func73 rfl ntmps73 (Nat.le_of_ble_eq_true rfl) ?_
 refine W.sr <| WL.z rfl rfl ?_
 refine W.seq <| W.sr <| WL.m rfl rfl <| WL.c1 hb71 rfl rfl ((fix_Fits _ _)) (fun w1 hw1 => ?_)
 obtain rfl := hw1
 refine WL.p (.not rfl) rfl <| WL.nil <| ?_
 refine W.cond rfl (fun h2 => ?_) (fun h2 => ?_)
 have h2' := (nT h2)
 refine W.sr <| WL.z rfl rfl ?_
 refine W.ret (W.ret1 rfl rfl ?_)
 exact ⟨riE (by unfold floorI; rw [if_neg (by simp_all)]), rfl⟩
 have h2' := (nF h2)
 have hf := (fitsB_iff a).1 (by simp_all)
 refine W.skip <| W.sr <| WL.m rfl rfl <| WL.p (.andNot rfl rfl (andNot_64k _ oO oO)) rfl <| WL.z rfl rfl ?_
 refine W.ret (W.ret1 rfl rfl ?_)
 exact ⟨riE (by unfold floorI; rw [if_pos (by simp_all)]), rfl⟩
def truncI (a : Int) : Int := if fitsB a = true then (if a < 0 then -(-a / 65536 * 65536) else a / 65536 * 65536) else 0
theorem fix_Truncate (a : Int) (w : World) : Calls Tryz.prog 55 #[.int .i64 a] w fun e w' => e = .returned (.int .i64 (truncI a)) ∧ w = w' := by
 refine W.enter func55 rfl ntmps55 (Nat.le_of_ble_eq_true rfl) ?_
 refine W.sr <| WL.z rfl rfl ?_
 refine W.seq <| W.sr <| WL.m rfl rfl <| WL.c1 hb71 rfl rfl ((fix_Fits _ _)) (fun w1 hw1 => ?_)
 obtain rfl := hw1
 refine WL.p (.not rfl) rfl <| WL.nil <| ?_
 refine W.cond rfl (fun h2 => ?_) (fun h2 => ?_)
 have h2' := (nT h2)
 refine W.sr <| WL.z rfl rfl ?_
 refine W.ret (W.ret1 rfl rfl ?_)
 exact ⟨riE (by unfold truncI; rw [if_neg (by simp_all)]), rfl⟩
 have h2' := (nF h2)
 have hf := (fitsB_iff a).1 (by simp_all)
 refine W.skip <| W.seq <| W.sr <| WL.m rfl rfl <| WL.p (.lss rfl rfl) rfl <| WL.nil <| ?_
 refine W.cond rfl (fun h3 => ?_) (fun h3 => ?_)
 have h3' := dT h3
 refine W.sr <| WL.m rfl rfl <| WL.p (.neg rfl (i64w oO)) rfl <| WL.p (.andNot rfl rfl (andNot_64k _ oO oO)) rfl <| WL.p (.neg rfl (i64w oO)) rfl <| WL.z rfl rfl ?_
 refine W.ret (W.ret1 rfl rfl ?_)
 exact ⟨riE (by unfold truncI; rw [if_pos (by simp_all), if_pos aS]), rfl⟩
 have h3' := dF h3
 refine W.skip <| W.sr <| WL.m rfl rfl <| WL.c1 hb73 rfl rfl ((fix_Floor _ _)) (fun w4 hw4 => ?_)
 obtain rfl := hw4
 refine WL.z rfl rfl ?_
 refine W.ret (W.ret1 rfl rfl ?_)
 exact ⟨riE (by unfold truncI floorI; rw [if_pos (by simp_all), if_pos (by simp_all), if_neg aS]), rfl⟩
def fromR (n : Int) : Int × Int := if n < -32768 ∨ 32767 < n then (0, 11) else (n * 65536, 0)
theorem fix_FromInt (n : Int) (w : World) : Calls Tryz.prog 56 #[.int .i64 n] w fun e w' => e = .returned (.tuple #[.int .i64 (fromR n).1, .int .i64 (fromR n).2]) ∧ w = w' := by
 refine W.enter func56 rfl ntmps56 (Nat.le_of_ble_eq_true rfl) ?_
 refine W.sr <| WL.a rfl rfl <| WL.z rfl rfl ?_
 refine W.seq <| W.sr <| WL.m rfl rfl <| WL.p (.lss rfl rfl) rfl <| WL.m rfl rfl <| WL.gd rfl rfl rfl (fun g1 => ?_) (fun g1 => ?_)
 have g1' := dF g1
 refine WL.m rfl rfl <| WL.gy rfl rfl rfl g1 <| WL.p (.gtr rfl rfl) rfl <| WL.p (.pkF rfl g1 rfl) rfl <| WL.nil <| ?_
 refine W.cond rfl (fun h2 => ?_) (fun h2 => ?_)
 have h2' := dT h2
 refine W.sr <| WL.a rfl rfl <| WL.z rfl rfl ?_
 refine W.ret (W.ret2 rfl rfl rfl ?_)
 first
 | exact ⟨rvE (by rw [show fromR n = (n * 65536, 0) from if_neg oO]), rfl⟩
 | exact ⟨rvE (by rw [show fromR n = (0, 11) from if_pos oO]), rfl⟩
 have h2' := dF h2
 refine W.skip <| W.sr <| WL.m rfl rfl <| WL.p (.mul rfl rfl (i64w oO)) rfl <| WL.a rfl rfl <| WL.z rfl rfl ?_
 refine W.ret (W.ret2 rfl rfl rfl ?_)
 first
 | exact ⟨rvE (by rw [show fromR n = (n * 65536, 0) from if_neg oO]), rfl⟩
 | exact ⟨rvE (by rw [show fromR n = (0, 11) from if_pos oO]), rfl⟩
 have g1' := dT g1
 refine WL.gn rfl rfl rfl g1 <| WL.p (.pkT rfl g1 rfl) rfl <| WL.nil <| ?_
 refine W.condT rfl rfl ?_
 refine W.sr <| WL.a rfl rfl <| WL.z rfl rfl ?_
 refine W.ret (W.ret2 rfl rfl rfl ?_)
 first
 | exact ⟨rvE (by rw [show fromR n = (n * 65536, 0) from if_neg oO]), rfl⟩
 | exact ⟨rvE (by rw [show fromR n = (0, 11) from if_pos oO]), rfl⟩
def bytesO (S : StoV) (o : ObjV) : List UInt8 := if (decide (o.kind = 6) && validB S o) = true then textO S o else []
def numO (S : StoV) (o : ObjV) : ObjV × Int :=
 if o.kind = 1 ∨ o.kind = 2 then (if fitsB o.n = true then (o, 0) else (ob0, 16))
 else if o.kind = 6 then
  (if readB S o = true then
   (if (tokenL (bytesO S o)).ok = true then (if (tokenL (bytesO S o)).e = 0 then ({ ob0 with kind := if (tokenL (bytesO S o)).kind = 1 then 1 else 2, n := (tokenL (bytesO S o)).n }, 0) else (ob0, (tokenL (bytesO S o)).e)) else (ob0, 16))
  else (ob0, 5))
 else (ob0, 16)
def pairV (x : ObjV × Int) : Value := .tuple #[.agg (objV x.1).toArray, .int .i64 x.2]
theorem pvE {a : Value} {x y : ObjV × Int} (h : x = y) (ha : a = pairV y) : Ending.returned a = .returned (pairV x) := by rw [h, ha]
set_option maxHeartbeats 1600000 in
theorem conv_number (b : Nat) (F : Nat → Prop) (S : StoV) (o : ObjV) (w : World) (h : Sto w b F S) (hok : SOk S) :
  Calls Tryz.prog 54 #[workV b, .agg (objV o).toArray] w fun e w' => e = .returned (pairV (numO S o)) ∧ Below w.heap.size w w' := by
 refine W.enter func54 rfl ntmps54 (Nat.le_of_ble_eq_true rfl) ?_
 have hB0 := Below.refl (w.heap.size) w
 refine W.sr <| WL.box rfl rfl (fun b1 wb1 eb1 hkb1 hub1 hsb1 => ?_)
 have hB2 := Upd.below hB0 (by rw [eb1]; exact hB0.size) hub1
 have hgeb1 : w.heap.size ≤ b1 := by rw [eb1]; exact hB0.size
 refine WL.box rfl rfl (fun b3 wb3 eb3 hkb3 hub3 hsb3 => ?_)
 have hl5 : b1 < b3 := by rw [eb3]; exact hkb1.lt
 have hk4 := hkb1.upd hub3 (Nat.ne_of_lt hl5)
 have hB6 := Upd.below hB2 (by rw [eb3]; exact hB2.size) hub3
 have hgeb3 : w.heap.size ≤ b3 := by rw [eb3]; exact hB2.size
 refine WL.alloc zeroValue27 rfl (fun b7 wb7 eb7 hkb7 hub7 hsb7 => ?_)
 have hl9 : b1 < b7 := by rw [eb7]; exact hk4.lt
 have hk8 := hk4.upd hub7 (Nat.ne_of_lt hl9)
 have hl11 : b3 < b7 := by rw [eb7]; exact hkb3.lt
 have hk10 := hkb3.upd hub7 (Nat.ne_of_lt hl11)
 have hB12 := Upd.below hB6 (by rw [eb7]; exact hB6.size) hub7
 have hgeb7 : w.heap.size ≤ b7 := by rw [eb7]; exact hB6.size
 refine WL.z rfl rfl ?_
 refine W.seq <| W.sr <| WL.p (.fa underlying27 rfl sizeOf3 dD rfl) rfl <| WL.r (Rd.ld (isAgg3 _) rfl hk10 rfl) rfl <| WL.nil <| ?_
 refine W.block <| W.sr <| WL.p (.eql rfl rfl) rfl <| WL.z rfl rfl ?_
 refine W.cond rfl (fun h13 => ?_) (fun h13 => ?_)
 have h13' := dT h13
 refine W.sr <| WL.p (.fa underlying27 rfl sizeOf3 dD rfl) rfl <| WL.r (Rd.ld (isAgg3 _) rfl hk10 rfl) rfl <| WL.c1 hb70 rfl rfl ((conv_small _ _)) (fun w14 hw14 => ?_)
 obtain rfl := hw14
 refine WL.nil <| ?_
 refine W.cond rfl (fun h15 => ?_) (fun h15 => ?_)
 refine W.sr <| WL.r (Rd.ldA rfl hk10 underlying27 rfl isz27) rfl <| WL.stL rfl rfl hkb7 isz27 rfl rfl (fun w16 hkw16 huw16 hsw16 => ?_)
 have hB19 := Upd.below hB12 oO huw16
 refine WL.z rfl rfl ?_
 refine W.ret (W.retc2 rfl rfl (ldRow hkw16 underlying27 rfl isz27) rfl ?_)
 exact ⟨pvE (by unfold numO; simp_all; rfl) rfl, hB19⟩
 refine W.skip <| W.sr <| WL.p (.buildL (ps := _) blt27 rfl rfl rfl pZ) rfl ?_
 refine WL.stL rfl rfl hkb7 isz27 rfl rfl (fun w20 hkw20 huw20 hsw20 => ?_)
 have hB23 := Upd.below hB12 oO huw20
 refine WL.z rfl rfl ?_
 refine W.ret (W.retc2 rfl rfl (ldRow hkw20 underlying27 rfl isz27) rfl ?_)
 exact ⟨pvE (by unfold numO; simp_all; rfl) rfl, hB23⟩
 have h13' := dF h13
 refine W.sr <| WL.p (.eql rfl rfl) rfl <| WL.z rfl rfl ?_
 refine W.cond rfl (fun h24 => ?_) (fun h24 => ?_)
 have h24' := dT h24
 refine W.sr <| WL.p (.fa underlying27 rfl sizeOf3 dD rfl) rfl <| WL.r (Rd.ld (isAgg3 _) rfl hk10 rfl) rfl <| WL.c1 hb71 rfl rfl ((fix_Fits _ _)) (fun w25 hw25 => ?_)
 obtain rfl := hw25
 refine WL.nil <| ?_
 refine W.cond rfl (fun h26 => ?_) (fun h26 => ?_)
 refine W.sr <| WL.r (Rd.ldA rfl hk10 underlying27 rfl isz27) rfl <| WL.stL rfl rfl hkb7 isz27 rfl rfl (fun w27 hkw27 huw27 hsw27 => ?_)
 have hB30 := Upd.below hB12 oO huw27
 refine WL.z rfl rfl ?_
 refine W.ret (W.retc2 rfl rfl (ldRow hkw27 underlying27 rfl isz27) rfl ?_)
 exact ⟨pvE (by unfold numO; simp_all; rfl) rfl, hB30⟩
 refine W.skip <| W.sr <| WL.p (.buildL (ps := _) blt27 rfl rfl rfl pZ) rfl ?_
 refine WL.stL rfl rfl hkb7 isz27 rfl rfl (fun w31 hkw31 huw31 hsw31 => ?_)
 have hB34 := Upd.below hB12 oO huw31
 refine WL.z rfl rfl ?_
 refine W.ret (W.retc2 rfl rfl (ldRow hkw31 underlying27 rfl isz27) rfl ?_)
 exact ⟨pvE (by unfold numO; simp_all; rfl) rfl, hB34⟩
 have h24' := dF h24
 refine W.sr <| WL.p (.eql rfl rfl) rfl <| WL.z rfl rfl ?_
 refine W.cond rfl (fun h35 => ?_) (fun h35 => ?_)
 have h35' := dT h35
 refine W.seq <| W.sr <| WL.r (Rd.ldA rfl hk8 underlying72 rfl isz72) rfl <| WL.r (Rd.ldA rfl hk10 underlying27 rfl isz27) rfl <| WL.c1 hb57 rfl rfl ((conv_readable b F S o _ (h.below hB12) hok)) (fun w36 hw36 => ?_)
 have hk37 := hk8.below hw36 hk8.lt
 have hk38 := hk10.below hw36 hk10.lt
 have hk39 := hkb7.below hw36 hkb7.lt
 have hB40 := btr hB12 hw36
 refine WL.p (.not rfl) rfl <| WL.nil <| ?_
 refine W.cond rfl (fun h41 => ?_) (fun h41 => ?_)
 have h41' := (nT h41)
 refine W.sr <| WL.p (.buildL (ps := _) blt27 rfl rfl rfl pZ) rfl ?_
 refine WL.stL rfl rfl hk39 isz27 rfl rfl (fun w42 hkw42 huw42 hsw42 => ?_)
 have hB45 := Upd.below hB40 oO huw42
 refine WL.z rfl rfl ?_
 refine W.ret (W.retc2 rfl rfl (ldRow hkw42 underlying27 rfl isz27) rfl ?_)
 exact ⟨pvE (by unfold numO; simp_all; rfl) rfl, hB45⟩
 have h41' := (nF h41)
 refine W.skip <| W.sr <| WL.p (.fa underlying72 rfl sizeOf22 dD rfl) rfl <| WL.r (Rd.ld (isAgg22 _) rfl hk37 rfl) rfl <| WL.r (Rd.ldA rfl hk38 underlying27 rfl isz27) rfl <| WL.call hb10 rfl rfl ((sto_Bytes b F S o _ (h.below hB40) hok)) (fun r w46 hw46 => ?_)
 have hk47 := hk37.below hw46.1 hk37.lt
 have hk48 := hk38.below hw46.1 hk38.lt
 have hk49 := hk39.below hw46.1 hk39.lt
 have hB50 := btr hB40 hw46.1
 obtain ⟨v1, rfl, ho1⟩ := hw46.2
 obtain ⟨p1, c1, rfl, hbt, -⟩ := ho1.bytesC
 refine WL.m rfl rfl <| WL.p (.ext rfl rfl) rfl <| WL.p (.ext rfl rfl) rfl <| WL.a rfl rfl <| WL.z rfl rfl ?_
 refine W.sr <| WL.m rfl rfl <| WL.r (Rd.b2s (l := (bytesO S o)) underlying35 underlying5 underlying9 rfl (hbt)) rfl <| WL.c1 hb72 rfl rfl ((dec_Token (bytesO S o) _)) (fun w51 hw51 => ?_)
 have hk52 := hk47.below hw51 hk47.lt
 have hk53 := hk48.below hw51 hk48.lt
 have hk54 := hk49.below hw51 hk49.lt
 have hB55 := btr hB50 hw51
 refine WL.m rfl rfl <| WL.p (.ext rfl rfl) rfl <| WL.p (.ext rfl rfl) rfl <| WL.p (.ext rfl rfl) rfl <| WL.alloc zeroValue134 rfl (fun b56 wb56 eb56 hkb56 hub56 hsb56 => ?_)
 have hl58 : b1 < b56 := by rw [eb56]; exact hk52.lt
 have hl60 : b3 < b56 := by rw [eb56]; exact hk53.lt
 have hl62 : b7 < b56 := by rw [eb56]; exact hk54.lt
 have hk61 := hk54.upd hub56 (Nat.ne_of_lt hl62)
 have hB63 := Upd.below hB55 (by rw [eb56]; exact hB55.size) hub56
 have hgeb56 : w.heap.size ≤ b56 := by rw [eb56]; exact hB55.size
 refine WL.stL rfl rfl hkb56 isz134 rfl rfl (fun w64 hkw64 huw64 hsw64 => ?_)
 have hk67 := hk61.up huw64
 have hB68 := Upd.below hB63 oO huw64
 refine WL.a rfl rfl <| WL.z rfl rfl ?_
 refine W.seq <| W.block <| W.sr <| WL.m rfl rfl <| WL.p (.not rfl) rfl <| WL.z rfl rfl ?_
 refine W.cond rfl (fun h69 => ?_) (fun h69 => ?_)
 have h69' := (nT h69)
 refine W.sr <| WL.p (.buildL (ps := _) blt27 rfl rfl rfl pZ) rfl ?_
 refine WL.stL rfl rfl hk67 isz27 rfl rfl (fun w70 hkw70 huw70 hsw70 => ?_)
 have hB74 := Upd.below hB68 oO huw70
 refine WL.z rfl rfl ?_
 refine W.ret (W.retc2 rfl rfl (ldRow hkw70 underlying27 rfl isz27) rfl ?_)
 exact ⟨pvE (by unfold numO; simp_all; rfl) rfl, hB74⟩
 have h69' := (nF h69)
 refine W.sr <| WL.m rfl rfl <| WL.p (.neq rfl rfl) rfl <| WL.z rfl rfl ?_
 refine W.cond rfl (fun h75 => ?_) (fun h75 => ?_)
 have h75' := ndT h75
 refine W.sr <| WL.p (.buildL (ps := _) blt27 rfl rfl rfl pZ) rfl ?_
 refine WL.m rfl rfl <| WL.stL rfl rfl hk67 isz27 rfl rfl (fun w76 hkw76 huw76 hsw76 => ?_)
 have hB80 := Upd.below hB68 oO huw76
 refine WL.z rfl rfl ?_
 refine W.ret (W.retc2 rfl rfl (ldRow hkw76 underlying27 rfl isz27) rfl ?_)
 exact ⟨pvE (by unfold numO; simp_all; rfl) rfl, hB80⟩
 have h75' := ndF h75
 refine W.sr <| WL.p (.fa underlying134 rfl sizeOf3 dD rfl) rfl <| WL.r (Rd.ld (isAgg3 _) rfl hkw64 rfl) rfl <| WL.p (.eql rfl rfl) rfl <| WL.z rfl rfl ?_
 refine W.cond rfl (fun h81 => ?_) (fun h81 => ?_)
 have h81' := dT h81
 refine W.sr <| WL.p (.fa underlying134 rfl sizeOf3 dD rfl) rfl <| WL.r (Rd.ld (isAgg3 _) rfl hkw64 rfl) rfl <| ?_
 refine WL.p (.buildL (ps := _) blt27 rfl rfl rfl pS) rfl ?_
 refine WL.stL rfl rfl hk67 isz27 rfl rfl (fun w82 hkw82 huw82 hsw82 => ?_)
 have hB86 := Upd.below hB68 oO huw82
 refine WL.z rfl rfl ?_
 refine W.ret (W.retc2 rfl rfl (ldRow hkw82 underlying27 rfl isz27) rfl ?_)
 exact ⟨pvE (by unfold numO; simp_all; rfl) rfl, hB86⟩
 have h81' := dF h81
 refine W.skip <| W.sr <| WL.p (.fa underlying134 rfl sizeOf3 dD rfl) rfl <| WL.r (Rd.ld (isAgg3 _) rfl hkw64 rfl) rfl <| ?_
 refine WL.p (.buildL (ps := _) blt27 rfl rfl rfl pS) rfl ?_
 refine WL.stL rfl rfl hk67 isz27 rfl rfl (fun w87 hkw87 huw87 hsw87 => ?_)
 have hB91 := Upd.below hB68 oO huw87
 refine WL.z rfl rfl ?_
 refine W.ret (W.retc2 rfl rfl (ldRow hkw87 underlying27 rfl isz27) rfl ?_)
 exact ⟨pvE (by unfold numO; simp_all; rfl) rfl, hB91⟩
 have h35' := dF h35
 refine W.skip <| W.sr <| WL.p (.buildL (ps := _) blt27 rfl rfl rfl pZ) rfl ?_
 refine WL.stL rfl rfl hkb7 isz27 rfl rfl (fun w92 hkw92 huw92 hsw92 => ?_)
 have hB95 := Upd.below hB12 oO huw92
 refine WL.z rfl rfl ?_
 refine W.ret (W.retc2 rfl rfl (ldRow hkw92 underlying27 rfl isz27) rfl ?_)
 exact ⟨pvE (by unfold numO; simp_all; rfl) rfl, hB95⟩
end
section
theorem i64t {a : Int} (h1 : -9223372036854775808 ≤ a) (h2 : a ≤ 9223372036854775807) : IntKind.i64.wrap (a.tdiv 65536) = a.tdiv 65536 := by
  rcases Int.le_total 0 a with h | h
  · rw [Int.tdiv_eq_ediv_of_nonneg h]; exact i64w oO
  · obtain ⟨k, rfl⟩ : ∃ k, a = -k := ⟨-a, by omega⟩
    rw [Int.neg_tdiv, Int.tdiv_eq_ediv_of_nonneg oO]; exact i64w oO
theorem truncI_le (a : Int) : -2147483648 ≤ truncI a ∧ truncI a ≤ 2147483647 := by
  unfold truncI
  split
  · have := (fitsB_iff a).1 aS
    split <;> omega
  · omega
def wholeO (S : StoV) (o : ObjV) : ObjV × Int :=
 if (numO S o).2 = 0 then ({ ob0 with kind := 1, n := if (numO S o).1.kind = 2 then (truncI (numO S o).1.n).tdiv 65536 else (numO S o).1.n }, 0) else (ob0, (numO S o).2)
theorem conv_whole (b : Nat) (F : Nat → Prop) (S : StoV) (o : ObjV) (w : World) (h : Sto w b F S) (hok : SOk S) :
  Calls Tryz.prog 39 #[workV b, .agg (objV o).toArray] w fun e w' => e = .returned (pairV (wholeO S o)) ∧ Below w.heap.size w w' := by
 refine W.enter func39 rfl ntmps39 (Nat.le_of_ble_eq_true rfl) ?_
 have hB0 := Below.refl (w.heap.size) w
 refine W.sr <| WL.box rfl rfl (fun b1 wb1 eb1 hkb1 hub1 hsb1 => ?_)
 have hB2 := Upd.below hB0 (by rw [eb1]; exact hB0.size) hub1
 have hgeb1 : w.heap.size ≤ b1 := by rw [eb1]; exact hB0.size
 refine WL.box rfl rfl (fun b3 wb3 eb3 hkb3 hub3 hsb3 => ?_)
 have hl5 : b1 < b3 := by rw [eb3]; exact hkb1.lt
 have hk4 := hkb1.upd hub3 (Nat.ne_of_lt hl5)
 have hB6 := Upd.below hB2 (by rw [eb3]; exact hB2.size) hub3
 have hgeb3 : w.heap.size ≤ b3 := by rw [eb3]; exact hB2.size
 refine WL.alloc zeroValue27 rfl (fun b7 wb7 eb7 hkb7 hub7 hsb7 => ?_)
 have hl9 : b1 < b7 := by rw [eb7]; exact hk4.lt
 have hk8 := hk4.upd hub7 (Nat.ne_of_lt hl9)
 have hl11 : b3 < b7 := by rw [eb7]; exact hkb3.lt
 have hk10 := hkb3.upd hub7 (Nat.ne_of_lt hl11)
 have hB12 := Upd.below hB6 (by rw [eb7]; exact hB6.size) hub7
 have hgeb7 : w.heap.size ≤ b7 := by rw [eb7]; exact hB6.size
 refine WL.z rfl rfl ?_
 refine W.sr <| WL.r (Rd.ldA rfl hk8 underlying72 rfl isz72) rfl <| WL.r (Rd.ldA rfl hk10 underlying27 rfl isz27) rfl <| WL.c1 hb54 rfl rfl ((conv_number b F S o _ (h.below hB12) hok)) (fun w13 hw13 => ?_)
 have hk14 := hk8.below hw13 hk8.lt
 have hk15 := hk10.below hw13 hk10.lt
 have hk16 := hkb7.below hw13 hkb7.lt
 have hB17 := btr hB12 hw13
 refine WL.m rfl rfl <| WL.p (.ext rfl rfl) rfl <| WL.p (.ext rfl rfl) rfl <| WL.alloc zeroValue27 rfl (fun b18 wb18 eb18 hkb18 hub18 hsb18 => ?_)
 have hl20 : b1 < b18 := by rw [eb18]; exact hk14.lt
 have hl22 : b3 < b18 := by rw [eb18]; exact hk15.lt
 have hl24 : b7 < b18 := by rw [eb18]; exact hk16.lt
 have hk23 := hk16.upd hub18 (Nat.ne_of_lt hl24)
 have hB25 := Upd.below hB17 (by rw [eb18]; exact hB17.size) hub18
 have hgeb18 : w.heap.size ≤ b18 := by rw [eb18]; exact hB17.size
 refine WL.stL rfl rfl hkb18 isz27 rfl rfl (fun w26 hkw26 huw26 hsw26 => ?_)
 have hk29 := hk23.up huw26
 have hB30 := Upd.below hB25 oO huw26
 refine WL.z rfl rfl ?_
 refine W.seq <| W.sr <| WL.m rfl rfl <| WL.p (.neq rfl rfl) rfl <| WL.nil <| ?_
 refine W.cond rfl (fun h31 => ?_) (fun h31 => ?_)
 have h31' := ndT h31
 refine W.sr <| WL.p (.buildL (ps := _) blt27 rfl rfl rfl pZ) rfl ?_
 refine WL.m rfl rfl <| WL.stL rfl rfl hk29 isz27 rfl rfl (fun w32 hkw32 huw32 hsw32 => ?_)
 have hB36 := Upd.below hB30 oO huw32
 refine WL.z rfl rfl ?_
 refine W.ret (W.retc2 rfl rfl (ldRow hkw32 underlying27 rfl isz27) rfl ?_)
 exact ⟨rvE (by unfold pairV wholeO; rw [if_neg aS]; rfl), hB36⟩
 have h31' := ndF h31
 refine W.skip <| W.seq <| W.sr <| WL.p (.fa underlying27 rfl sizeOf3 dD rfl) rfl <| WL.r (Rd.ld (isAgg3 _) rfl hkw26 rfl) rfl <| WL.p (.eql rfl rfl) rfl <| WL.nil <| ?_
 refine W.cond rfl (fun h37 => ?_) (fun h37 => ?_)
 have h37' := dT h37
 refine W.reg <| WL.p (.fa underlying27 rfl sizeOf3 dD rfl) rfl <| WL.r (Rd.ld (isAgg3 _) rfl hkw26 rfl) rfl <| WL.c1 hb55 rfl rfl ((fix_Truncate _ _)) (fun w38 hw38 => ?_)
 obtain rfl := hw38
 refine WL.p (.quo rfl rfl oO (i64t (by have := truncI_le (numO S o).1.n; omega) (by have := truncI_le (numO S o).1.n; omega))) rfl <| WL.p (.fa underlying27 rfl sizeOf3 dD rfl) rfl <| WL.st sizeOf3 rfl rfl rfl hkw26 oD (fun w39 hkw39 huw39 hsw39 => ?_)
 have hkw39 : Blk w39 b18 _ _ := hkw39
 have huw39 : Upd b18 _ _ := huw39
 have hk42 := hk29.up huw39
 have hB43 := Upd.below hB30 oO huw39
 refine WL.nil <| ?_
 refine W.sr <| WL.p (.fa underlying27 rfl sizeOf3 dD rfl) rfl <| WL.r (Rd.ld (isAgg3 _) rfl hkw39 rfl) rfl <| ?_
 refine WL.p (.buildL (ps := _) blt27 rfl rfl rfl pS) rfl ?_
 refine WL.stL rfl rfl hk42 isz27 rfl rfl (fun w44 hkw44 huw44 hsw44 => ?_)
 have hB48 := Upd.below hB43 oO huw44
 refine WL.z rfl rfl ?_
 refine W.ret (W.retc2 rfl rfl (ldRow hkw44 underlying27 rfl isz27) rfl ?_)
 exact ⟨rvE (by unfold pairV wholeO; rw [if_pos aS, if_pos aS]; rfl), hB48⟩
 have h37' := dF h37
 refine W.skip <| W.sr <| WL.p (.fa underlying27 rfl sizeOf3 dD rfl) rfl <| WL.r (Rd.ld (isAgg3 _) rfl hkw26 rfl) rfl <| ?_
 refine WL.p (.buildL (ps := _) blt27 rfl rfl rfl pS) rfl ?_
 refine WL.stL rfl rfl hk29 isz27 rfl rfl (fun w49 hkw49 huw49 hsw49 => ?_)
 have hB53 := Upd.below hB30 oO huw49
 refine WL.z rfl rfl ?_
 refine W.ret (W.retc2 rfl rfl (ldRow hkw49 underlying27 rfl isz27) rfl ?_)
 exact ⟨rvE (by unfold pairV wholeO; rw [if_pos aS, if_neg aS]; rfl), hB53⟩
def realO (S : StoV) (o : ObjV) : ObjV × Int :=
 if (numO S o).2 = 0 then
  (if (numO S o).1.kind = 1 then (if (fromR (numO S o).1.n).2 = 0 then ({ ob0 with kind := 2, n := (fromR (numO S o).1.n).1 }, 0) else (ob0, (fromR (numO S o).1.n).2)) else ({ ob0 with kind := 2, n := (numO S o).1.n }, 0))
 else (ob0, (numO S o).2)
theorem conv_real (b : Nat) (F : Nat → Prop) (S : StoV) (o : ObjV) (w : World) (h : Sto w b F S) (hok : SOk S) :
  Calls Tryz.prog 40 #[workV b, .agg (objV o).toArray] w fun e w' => e = .returned (pairV (realO S o)) ∧ Below w.heap.size w w' := by
 refine W.enter func40 rfl ntmps40 (Nat.le_of_ble_eq_true rfl) ?_
 have hB0 := Below.refl (w.heap.size) w
 refine W.sr <| WL.box rfl rfl (fun b1 wb1 eb1 hkb1 hub1 hsb1 => ?_)
 have hB2 := Upd.below hB0 (by rw [eb1]; exact hB0.size) hub1
 have hgeb1 : w.heap.size ≤ b1 := by rw [eb1]; exact hB0.size
 refine WL.box rfl rfl (fun b3 wb3 eb3 hkb3 hub3 hsb3 => ?_)
 have hl5 : b1 < b3 := by rw [eb3]; exact hkb1.lt
 have hk4 := hkb1.upd hub3 (Nat.ne_of_lt hl5)
 have hB6 := Upd.below hB2 (by rw [eb3]; exact hB2.size) hub3
 have hgeb3 : w.heap.size ≤ b3 := by rw [eb3]; exact hB2.size
 refine WL.alloc zeroValue27 rfl (fun b7 wb7 eb7 hkb7 hub7 hsb7 => ?_)
 have hl9 : b1 < b7 := by rw [eb7]; exact hk4.lt
 have hk8 := hk4.upd hub7 (Nat.ne_of_lt hl9)
 have hl11 : b3 < b7 := by rw [eb7]; exact hkb3.lt
 have hk10 := hkb3.upd hub7 (Nat.ne_of_lt hl11)
 have hB12 := Upd.below hB6 (by rw [eb7]; exact hB6.size) hub7
 have hgeb7 : w.heap.size ≤ b7 := by rw [eb7]; exact hB6.size
 refine WL.z rfl rfl ?_
 refine W.sr <| WL.r (Rd.ldA rfl hk8 underlying72 rfl isz72) rfl <| WL.r (Rd.ldA rfl hk10 underlying27 rfl isz27) rfl <| WL.c1 hb54 rfl rfl ((conv_number b F S o _ (h.below hB12) hok)) (fun w13 hw13 => ?_)
 have hk14 := hk8.below hw13 hk8.lt
 have hk15 := hk10.below hw13 hk10.lt
 have hk16 := hkb7.below hw13 hkb7.lt
 have hB17 := btr hB12 hw13
 refine WL.m rfl rfl <| WL.p (.ext rfl rfl) rfl <| WL.p (.ext rfl rfl) rfl <| WL.alloc zeroValue27 rfl (fun b18 wb18 eb18 hkb18 hub18 hsb18 => ?_)
 have hl20 : b1 < b18 := by rw [eb18]; exact hk14.lt
 have hl22 : b3 < b18 := by rw [eb18]; exact hk15.lt
 have hl24 : b7 < b18 := by rw [eb18]; exact hk16.lt
 have hk23 := hk16.upd hub18 (Nat.ne_of_lt hl24)
 have hB25 := Upd.below hB17 (by rw [eb18]; exact hB17.size) hub18
 have hgeb18 : w.heap.size ≤ b18 := by rw [eb18]; exact hB17.size
 refine WL.stL rfl rfl hkb18 isz27 rfl rfl (fun w26 hkw26 huw26 hsw26 => ?_)
 have hk29 := hk23.up huw26
 have hB30 := Upd.below hB25 oO huw26
 refine WL.z rfl rfl ?_
 refine W.seq <| W.sr <| WL.m rfl rfl <| WL.p (.neq rfl rfl) rfl <| WL.nil <| ?_
 refine W.cond rfl (fun h31 => ?_) (fun h31 => ?_)
 have h31' := ndT h31
 refine W.sr <| WL.p (.buildL (ps := _) blt27 rfl rfl rfl pZ) rfl ?_
 refine WL.m rfl rfl <| WL.stL rfl rfl hk29 isz27 rfl rfl (fun w32 hkw32 huw32 hsw32 => ?_)
 have hB36 := Upd.below hB30 oO huw32
 refine WL.z rfl rfl ?_
 refine W.ret (W.retc2 rfl rfl (ldRow hkw32 underlying27 rfl isz27) rfl ?_)
 exact ⟨rvE (by unfold pairV realO; rw [if_neg aS]; rfl), hB36⟩
 have h31' := ndF h31
 refine W.skip <| W.seq <| W.sr <| WL.p (.fa underlying27 rfl sizeOf3 dD rfl) rfl <| WL.r (Rd.ld (isAgg3 _) rfl hkw26 rfl) rfl <| WL.p (.eql rfl rfl) rfl <| WL.nil <| ?_
 refine W.cond rfl (fun h37 => ?_) (fun h37 => ?_)
 have h37' := dT h37
 refine W.sr <| WL.p (.fa underlying27 rfl sizeOf3 dD rfl) rfl <| WL.r (Rd.ld (isAgg3 _) rfl hkw26 rfl) rfl <| WL.c1 hb56 rfl rfl ((fix_FromInt _ _)) (fun w38 hw38 => ?_)
 obtain rfl := hw38
 refine WL.m rfl rfl <| WL.p (.ext rfl rfl) rfl <| WL.p (.ext rfl rfl) rfl <| WL.p (.fa underlying27 rfl sizeOf3 dD rfl) rfl <| WL.st sizeOf3 rfl rfl rfl hkw26 oD (fun w39 hkw39 huw39 hsw39 => ?_)
 have hkw39 : Blk w39 b18 _ _ := hkw39
 have huw39 : Upd b18 _ _ := huw39
 have hk42 := hk29.up huw39
 have hB43 := Upd.below hB30 oO huw39
 refine WL.z rfl rfl ?_
 refine W.sr <| WL.m rfl rfl <| WL.p (.neq rfl rfl) rfl <| WL.nil <| ?_
 refine W.cond rfl (fun h44 => ?_) (fun h44 => ?_)
 have h44' := ndT h44
 refine W.sr <| WL.p (.buildL (ps := _) blt27 rfl rfl rfl pZ) rfl ?_
 refine WL.m rfl rfl <| WL.stL rfl rfl hk42 isz27 rfl rfl (fun w45 hkw45 huw45 hsw45 => ?_)
 have hB49 := Upd.below hB43 oO huw45
 refine WL.z rfl rfl ?_
 refine W.ret (W.retc2 rfl rfl (ldRow hkw45 underlying27 rfl isz27) rfl ?_)
 exact ⟨rvE (by unfold pairV realO; rw [if_pos aS, if_pos aS, if_neg aS]; rfl), hB49⟩
 have h44' := ndF h44
 refine W.skip <| W.sr <| WL.p (.fa underlying27 rfl sizeOf3 dD rfl) rfl <| WL.r (Rd.ld (isAgg3 _) rfl hkw39 rfl) rfl <| ?_
 refine WL.p (.buildL (ps := _) blt27 rfl rfl rfl pS) rfl ?_
 refine WL.stL rfl rfl hk42 isz27 rfl rfl (fun w50 hkw50 huw50 hsw50 => ?_)
 have hB54 := Upd.below hB43 oO huw50
 refine WL.z rfl rfl ?_
 refine W.ret (W.retc2 rfl rfl (ldRow hkw50 underlying27 rfl isz27) rfl ?_)
 exact ⟨rvE (by unfold pairV realO; rw [if_pos aS, if_pos aS, if_pos aS]; rfl), hB54⟩
 have h37' := dF h37
 refine W.skip <| W.sr <| WL.p (.fa underlying27 rfl sizeOf3 dD rfl) rfl <| WL.r (Rd.ld (isAgg3 _) rfl hkw26 rfl) rfl <| ?_
 refine WL.p (.buildL (ps := _) blt27 rfl rfl rfl pS) rfl ?_
 refine WL.stL rfl rfl hk29 isz27 rfl rfl (fun w55 hkw55 huw55 hsw55 => ?_)
 have hB59 := Upd.below hB30 oO huw55
 refine WL.z rfl rfl ?_
 refine W.ret (W.retc2 rfl rfl (ldRow hkw55 underlying27 rfl isz27) rfl ?_)
 exact ⟨rvE (by unfold pairV realO; rw [if_pos aS, if_neg aS]; rfl), hB59⟩
/-- what the tables hold -/
structure EnvC (w : World) : Prop where
 pow : Lib.TabIs Tryz.prog w "internal/strconv.uint64pow10" .u64 Lib.pow10Tab
 deb : Lib.TabIs Tryz.prog w "math/bits.deBruijn64tab" .u8 [0, 1, 56, 2, 57, 49, 28, 3, 61, 58, 42, 50, 38, 29, 17, 4, 62, 47, 59, 36, 45, 43, 51, 22, 53, 39, 33, 30, 24, 18, 12, 5, 63, 55, 48, 27, 60, 41, 37, 16, 46, 35, 44, 21, 52, 32, 23, 11, 54, 26, 40, 15, 34, 20, 31, 10, 25, 14, 19, 9, 13, 8, 7, 6]
theorem var_same {w w1 : World} {n : String} {cs : Array Value} (h : w.var? Tryz.prog n = some cs) (hs : ∀ g, True → g < w.heap.size → w1.heap[g]? = w.heap[g]?) : w1.var? Tryz.prog n = some cs := by
 unfold World.var? at h ⊢
 cases hg : Tryz.prog.globalNamed n with
 | none => simp [hg] at h
 | some g =>
  simp only [hg, Option.bind_some] at h ⊢
  have hlt : g < w.heap.size := by
   rcases Nat.lt_or_ge g w.heap.size with h' | h'
   ·
    exact h'
   ·
    rw [Array.getElem?_eq_none h'] at h; cases h
  rw [hs g trivial hlt]; exact h
theorem EnvC.same {w w1 : World} (h : EnvC w) (hs : ∀ g, True → g < w.heap.size → w1.heap[g]? = w.heap[g]?) : EnvC w1 := ⟨var_same h.pow hs, var_same h.deb hs⟩
theorem EnvC.below {w w1 : World} (h : EnvC w) (hb : Below w.heap.size w w1) : EnvC w1 := h.same fun g _ hl => hb.block g hl
theorem cDigits_L : ∀ n : Nat, Lib.decDigits n = digitsL n := by
 intro n
 induction n using Nat.strongRecOn with
 | _ n ih =>
  rw [Lib.decDigits, digitsL]
  by_cases h : n < 10
  ·
   rw [dif_pos h, if_pos h]; rfl
  ·
   rw [dif_neg h, if_neg h, ih (n / 10) oO]; rfl
theorem cnv_Itoa (n : Int) (h0 : -9223372036854775808 ≤ n) (h1 : n ≤ 9223372036854775807) (w : World) (hE : EnvC w) :
  Calls Tryz.prog 47 #[.int .i64 n] w fun e w' => e = .returned (.string (bs (decL n))) ∧ Below w.heap.size w w' := by
 refine (Tryz.strconv_Itoa n h0 h1 w hE.pow).mono ?_
 rintro e w' ⟨rfl, k, os, rfl⟩
 refine ⟨?_, ?_⟩
 ·
  have e : Lib.itoa n = decL n := by
   unfold Lib.itoa decL
   simp only [cDigits_L]
   split
   ·
    rfl
   ·
    rw [show n.toNat = n.natAbs by omega]
  rw [e]; rfl
 ·
  exact Below.trans (Drew.below (Below.refl _ _) ⟨k, rfl⟩) ⟨rfl, rfl, rfl, by show _ ≤ ((w.drewN k).heap ++ os).size; rw [Array.size_append]; omega, fun i hi => by
  show (w.heap ++ os)[i]? = w.heap[i]?
  rw [Array.getElem?_append_left hi]⟩
def boolL (x : Bool) : List UInt8 := if x then [116, 114, 117, 101] else [102, 97, 108, 115, 101]
theorem hb62 : HasBody Tryz.prog 62 := hasBody func62 kR
theorem is_FormatBool (x : Bool) (w : World) : Calls Tryz.prog 62 #[.bool x] w fun e w' => e = .returned (.string (bs (boolL x))) ∧ w = w' := by
 refine W.enter func62 rfl ntmps62 (Nat.le_of_ble_eq_true rfl) ?_
 refine W.sr <| WL.z rfl rfl ?_
 refine W.seq <| W.sr <| WL.m rfl rfl <| WL.nil <| ?_
 refine W.cond rfl (fun h1 => ?_) (fun h1 => ?_)
 refine W.sr <| WL.z rfl rfl ?_
 refine W.ret (W.ret1 rfl rfl ?_)
 exact ⟨by rw [show x = true by assumption]; rfl, rfl⟩
 refine W.skip <| W.sr <| WL.z rfl rfl ?_
 refine W.ret (W.ret1 rfl rfl ?_)
 exact ⟨by rw [show x = false by assumption]; rfl, rfl⟩
theorem s_FormatBool (x : Bool) (w : World) : Calls Tryz.prog 49 #[.bool x] w fun e w' => e = .returned (.string (bs (boolL x))) ∧ w = w' := by
 refine W.enter func49 rfl ntmps49 (Nat.le_of_ble_eq_true rfl) ?_
 refine W.sr <| WL.z rfl rfl ?_
 refine W.sr <| WL.m rfl rfl <| WL.c1 hb62 rfl rfl ((is_FormatBool x _)) (fun w1 hw1 => ?_)
 obtain rfl := hw1
 refine WL.z rfl rfl ?_
 refine W.ret (W.ret1 rfl rfl ?_)
 exact ⟨rfl, rfl⟩
def nostr : List UInt8 := [45, 45, 110, 111, 115, 116, 114, 105, 110, 103, 118, 97, 108, 45, 45]
/-- a thing's text -/
def conT (S : StoV) (o : ObjV) : List UInt8 :=
 if validB S o = true then
  (if o.kind = 1 then decL o.n else if o.kind = 2 then realL (norm o.n) else if o.kind = 3 then boolL (decide (o.n ≠ 0)) else if o.kind = 5 ∨ o.kind = 9 then o.name else if o.kind = 6 then textO S o else nostr)
 else []
/-- bytes at some place -/
def SlB (B : Nat) (w : World) (v : Value) (l : List UInt8) : Prop := ∃ p c, v = .slice p l.length c ∧ BytesAt w p l ∧ (0 < l.length → B ≤ (pA p).block)
theorem SlB.of {e : TypeId} {B : Nat} {w : World} {v : Value} {l : List UInt8} (h : Own e B w v (byteVals l)) : SlB B w v l := by
 obtain ⟨p, c, hv, h1, h2, -⟩ := h.bytesC
 exact ⟨p, c, hv, h1, h2⟩
theorem conv_Text (b : Nat) (F : Nat → Prop) (S : StoV) (o : ObjV) (w : World) (h : Sto w b F S) (hok : SOk S) (hE : EnvC w) (hn : -9223372036854775808 ≤ o.n ∧ o.n ≤ 9223372036854775807) :
  Calls Tryz.prog 23 #[.pointer (some ⟨b, 0, none⟩), .agg (objV o).toArray] w fun e w' => ∃ r, e = .returned r ∧ Below w.heap.size w w' ∧ SlB w.heap.size w' r (conT S o) := by
 refine W.enter func23 rfl ntmps23 (Nat.le_of_ble_eq_true rfl) ?_
 have hB0 := Below.refl (w.heap.size) w
 refine W.sr <| WL.box rfl rfl (fun b1 wb1 eb1 hkb1 hub1 hsb1 => ?_)
 have hB2 := Upd.below hB0 (by rw [eb1]; exact hB0.size) hub1
 have hgeb1 : w.heap.size ≤ b1 := by rw [eb1]; exact hB0.size
 refine WL.z rfl rfl ?_
 refine W.seq <| W.sr <| WL.m rfl rfl <| WL.r (Rd.ldA rfl hkb1 underlying27 rfl isz27) rfl <| WL.c1 hb19 rfl rfl ((sto_Valid b F S o _ (h.below hB2) hok)) (fun w3 hw3 => ?_)
 have hk4 := hkb1.below hw3 hkb1.lt
 have hB5 := btr hB2 hw3
 refine WL.p (.not rfl) rfl <| WL.nil <| ?_
 refine W.cond rfl (fun h6 => ?_) (fun h6 => ?_)
 have h6' := (nT h6)
 have hT : conT S o = [] := if_neg (by simp_all)
 refine W.sr <| WL.z rfl rfl ?_
 refine W.ret (W.ret1 rfl rfl ?_)
 exact ⟨_, rfl, hB5, by rw [hT]; exact ⟨none, 0, rfl, BytesAt.nil _, fun h0 => absurd h0 (by simp)⟩⟩
 have h6' := (nF h6)
 have hV : validB S o = true := by simp_all
 refine W.skip <| W.seq <| W.sr <| WL.p (.fa underlying27 rfl sizeOf3 dD rfl) rfl <| WL.r (Rd.ld (isAgg3 _) rfl hk4 rfl) rfl <| WL.nil <| ?_
 refine W.block <| W.sr <| WL.p (.eql rfl rfl) rfl <| WL.z rfl rfl ?_
 refine W.cond rfl (fun h7 => ?_) (fun h7 => ?_)
 have h7' := dT h7
 have hT : conT S o = decL o.n := by unfold conT; rw [if_pos hV, if_pos aS]
 refine W.sr <| WL.p (.fa underlying27 rfl sizeOf3 dD rfl) rfl <| WL.r (Rd.ld (isAgg3 _) rfl hk4 rfl) rfl <| WL.c1 hb47 rfl rfl ((cnv_Itoa o.n hn.1 hn.2 _ (hE.below hB5))) (fun w8 hw8 => ?_)
 have hk9 := hk4.below hw8 hk4.lt
 have hB10 := btr hB5 hw8
 refine WL.s2b underlying9 underlying35 underlying5 rfl rfl (fun b11 wb11 cs18 eb11 hs18 hcs18 hub11 hsb11 => ?_)
 have hl13 : b1 < b11 := by rw [eb11]; exact hk9.lt
 have hB14 := Upd.below hB10 (by rw [eb11]; exact hB10.size) hub11
 have hgeb11 : w.heap.size ≤ b11 := by rw [eb11]; exact hB10.size
 refine WL.z rfl rfl ?_
 refine W.ret (W.ret1 rfl rfl ?_)
 exact ⟨_, rfl, hB14, by rw [hT]; exact ⟨_, _, rfl, hs18, fun _ => by show w.heap.size ≤ b11; omega⟩⟩
 have h7' := dF h7
 refine W.sr <| WL.p (.eql rfl rfl) rfl <| WL.z rfl rfl ?_
 refine W.cond rfl (fun h15 => ?_) (fun h15 => ?_)
 have h15' := dT h15
 have hT : conT S o = realL (norm o.n) := by unfold conT; rw [if_pos hV, if_neg aS, if_pos aS]
 refine W.sr <| WL.p (.fa underlying27 rfl sizeOf3 dD rfl) rfl <| WL.r (Rd.ld (isAgg3 _) rfl hk4 rfl) rfl <| WL.c1 hb48 rfl rfl ((dec_PrintReal o.n _)) (fun w16 hw16 => ?_)
 have hk17 := hk4.below hw16 hk4.lt
 have hB18 := btr hB5 hw16
 refine WL.s2b underlying9 underlying35 underlying5 rfl rfl (fun b19 wb19 cs24 eb19 hs24 hcs24 hub19 hsb19 => ?_)
 have hl21 : b1 < b19 := by rw [eb19]; exact hk17.lt
 have hB22 := Upd.below hB18 (by rw [eb19]; exact hB18.size) hub19
 have hgeb19 : w.heap.size ≤ b19 := by rw [eb19]; exact hB18.size
 refine WL.z rfl rfl ?_
 refine W.ret (W.ret1 rfl rfl ?_)
 exact ⟨_, rfl, hB22, by rw [hT]; exact ⟨_, _, rfl, hs24, fun _ => by show w.heap.size ≤ b19; omega⟩⟩
 have h15' := dF h15
 refine W.sr <| WL.p (.eql rfl rfl) rfl <| WL.z rfl rfl ?_
 refine W.cond rfl (fun h23 => ?_) (fun h23 => ?_)
 have h23' := dT h23
 have hT : conT S o = boolL (!decide (o.n = 0)) := by unfold conT; rw [if_pos hV, if_neg aS, if_neg aS, if_pos aS]; simp
 refine W.sr <| WL.p (.fa underlying27 rfl sizeOf3 dD rfl) rfl <| WL.r (Rd.ld (isAgg3 _) rfl hk4 rfl) rfl <| WL.p (.neq rfl rfl) rfl <| WL.c1 hb49 rfl rfl ((s_FormatBool _ _)) (fun w24 hw24 => ?_)
 obtain rfl := hw24
 refine WL.s2b underlying9 underlying35 underlying5 rfl rfl (fun b25 wb25 cs31 eb25 hs31 hcs31 hub25 hsb25 => ?_)
 have hl27 : b1 < b25 := by rw [eb25]; exact hk4.lt
 have hB28 := Upd.below hB5 (by rw [eb25]; exact hB5.size) hub25
 have hgeb25 : w.heap.size ≤ b25 := by rw [eb25]; exact hB5.size
 refine WL.z rfl rfl ?_
 refine W.ret (W.ret1 rfl rfl ?_)
 exact ⟨_, rfl, hB28, by rw [hT]; exact ⟨_, _, rfl, hs31, fun _ => by show w.heap.size ≤ b25; omega⟩⟩
 have h23' := dF h23
 refine W.seq <| W.sr <| WL.p (.eql rfl rfl) rfl <| WL.z rfl rfl ?_
 refine W.cond rfl (fun h29 => ?_) (fun h29 => ?_)
 have h29' := dT h29
 refine W.skip <| W.condT rfl h29 ?_
 refine W.sr <| WL.p (.fa underlying27 rfl sizeOf9 dD rfl) rfl <| WL.r (Rd.ld (isAgg9 _) rfl hk4 rfl) rfl <| WL.s2b underlying9 underlying35 underlying5 rfl rfl (fun b30 wb30 cs37 eb30 hs37 hcs37 hub30 hsb30 => ?_)
 have hl32 : b1 < b30 := by rw [eb30]; exact hk4.lt
 have hB33 := Upd.below hB5 (by rw [eb30]; exact hB5.size) hub30
 have hgeb30 : w.heap.size ≤ b30 := by rw [eb30]; exact hB5.size
 refine WL.z rfl rfl ?_
 refine W.ret (W.ret1 rfl rfl ?_)
 have hT : conT S o = o.name := by unfold conT; rw [if_pos hV, if_neg aS, if_neg aS, if_neg aS, if_pos oO]
 exact ⟨_, rfl, hB33, by rw [hT]; exact ⟨_, _, rfl, hs37, fun _ => by show w.heap.size ≤ b30; omega⟩⟩
 have h29' := dF h29
 refine W.reg <| WL.p (.eql rfl rfl) rfl <| WL.z rfl rfl ?_
 refine W.cond rfl (fun h34 => ?_) (fun h34 => ?_)
 have h34' := dT h34
 refine W.sr <| WL.p (.fa underlying27 rfl sizeOf9 dD rfl) rfl <| WL.r (Rd.ld (isAgg9 _) rfl hk4 rfl) rfl <| WL.s2b underlying9 underlying35 underlying5 rfl rfl (fun b35 wb35 cs37 eb35 hs37 hcs37 hub35 hsb35 => ?_)
 have hl37 : b1 < b35 := by rw [eb35]; exact hk4.lt
 have hB38 := Upd.below hB5 (by rw [eb35]; exact hB5.size) hub35
 have hgeb35 : w.heap.size ≤ b35 := by rw [eb35]; exact hB5.size
 refine WL.z rfl rfl ?_
 refine W.ret (W.ret1 rfl rfl ?_)
 have hT : conT S o = o.name := by unfold conT; rw [if_pos hV, if_neg aS, if_neg aS, if_neg aS, if_pos oO]
 exact ⟨_, rfl, hB38, by rw [hT]; exact ⟨_, _, rfl, hs37, fun _ => by show w.heap.size ≤ b35; omega⟩⟩
 have h34' := dF h34
 refine W.sr <| WL.p (.eql rfl rfl) rfl <| WL.z rfl rfl ?_
 refine W.cond rfl (fun h39 => ?_) (fun h39 => ?_)
 have h39' := dT h39
 have hT : conT S o = textO S o := by unfold conT; rw [if_pos hV, if_neg aS, if_neg aS, if_neg aS, if_neg oO, if_pos aS]
 refine W.sr <| WL.m rfl rfl <| WL.r (Rd.ldA rfl hk4 underlying27 rfl isz27) rfl <| WL.call hb10 rfl rfl ((sto_Bytes b F S o _ (h.below hB5) hok)) (fun r w40 hw40 => ?_)
 have hB42 := btr hB5 hw40.1
 obtain ⟨v1, rfl, ho0⟩ := hw40.2
 have ho1 := ho0.base hB5.size
 refine WL.m rfl rfl <| WL.p (.ext rfl rfl) rfl <| WL.p (.ext rfl rfl) rfl <| WL.a rfl rfl <| WL.z rfl rfl ?_
 refine W.sr <| WL.m rfl rfl <| WL.z rfl rfl ?_
 refine W.ret (W.ret1 rfl rfl ?_)
 exact ⟨_, rfl, hB42, by rw [hT]; rw [if_pos (by simp_all)] at ho1; exact SlB.of ho1⟩
 have h39' := dF h39
 have hT : conT S o = nostr := by unfold conT; rw [if_pos hV, if_neg aS, if_neg aS, if_neg aS, if_neg oO, if_neg aS]
 refine W.skip <| W.sr <| WL.bsl (ps := _) underlying35 sizeOf5 zeroValue5 rfl rfl rfl rfl rfl pR rfl (fun b43 wb43 eb43 hkb43 hub43 hsb43 => ?_)
 have hl45 : b1 < b43 := by rw [eb43]; exact hk4.lt
 have hB46 := Upd.below hB5 (by rw [eb43]; exact hB5.size) hub43
 have hgeb43 : w.heap.size ≤ b43 := by rw [eb43]; exact hB5.size
 refine WL.cvB (nostr) underlying35 underlying5 rfl hkb43 rfl rfl (fun w47 hnb huw47 hsw47 => ?_)
 have hB49 := Upd.below hB46 oO huw47
 refine WL.z rfl rfl ?_
 refine W.ret (W.ret1 rfl rfl ?_)
 exact ⟨_, rfl, hB49, by rw [hT]; exact ⟨_, _, rfl, hnb, fun _ => by show w.heap.size ≤ b43; omega⟩⟩
end
section
def neg (m : Option Bool) : Bool := match m with | some true => true | _ => false
end
section
/-- a digit of a base, in either case of letters -/
def dgc (small : Bool) (d : Nat) : UInt8 := if d ≤ 9 then ch (48 + (d : Int)) else if small then ch (87 + (d : Int)) else ch (55 + (d : Int))
end
section
open Go.RowKit Go.WideShapes Go.ChangeShapes
section
variable {P : Program} {n : Sh} {f : Fr}
/-- a part of a string -/
theorem Pure.slS {tx : TypeId} {x y z : Operand} {l : List UInt8} {kd ke : IntKind} {i j : Int} (hu : P.underlying tx = some .string) (hx : evo f x = some (.string (bs l))) (hi : evo f y = some (.int kd i)) (hj : evo f z = some (.int ke j)) (a b : Nat) (ei : i = a) (ej : j = b) (hab : a ≤ b) (hb : b ≤ l.length) :
  Pure P (.slice tx x (some y) (some z) none) f (.string (bs ((l.drop a).take (b - a)))) := fun ρ hρ d ty pos aft g w => by
 subst ei; subst ej
 have h3 : ¬ (b < a) := by omega
 simp [execOp, Instr.sliceAt, Instr.slice, Instr.sliceBounds, Instr.sliceBound, hρ _ _ hx, hρ _ _ hi, hρ _ _ hj, asIntOf, run_underlying hu, hab, hb, h3, fbs_extract, bs_size]
end
end
section
section
variable {P : Program} {f : Fr}
theorem Pure.shr {x y : Operand} {tx ty : TypeId} {a r : Int} (hx : evo f x = some (.int .u8 a)) (hy : evo f y = some (.int .u64 4)) (hr : a / 16 = r) : Pure P (.binOp .shr tx x y ty) f (.int .u8 r) := fun ρ hρ d ty pos aft g w => by
 have e := shift_shr .u8 .u64 a 4 dD dD
 rw [show (2 : Int) ^ (4 : Int).toNat = 16 from rfl, hr] at e
 simp [execOp, hρ _ _ hx, hρ _ _ hy, eqGuard, binOp_shr, e]
theorem Pure.and {x y : Operand} {k : IntKind} {tx ty : TypeId} {a b r : Int} (hx : evo f x = some (.int k a)) (hy : evo f y = some (.int k b)) (hr : bits .and k a b = r) : Pure P (.binOp .and tx x y ty) f (.int k r) := fun ρ hρ d ty pos aft g w => by
 simp [execOp, hρ _ _ hx, hρ _ _ hy, eqGuard, binOp_and, intBits_and, hr]
end
end
section
section
variable {P : Program} {f : Fr}
theorem Pure.shrG {x y : Operand} {k ky : IntKind} {tx ty : TypeId} {a b : Int} (hx : evo f x = some (.int k a)) (hy : evo f y = some (.int ky b)) (h0 : 0 ≤ b) (h1 : b ≤ k.bits) (r : Int) (hr : a / 2 ^ b.toNat = r) : Pure P (.binOp .shr tx x y ty) f (.int k r) := fun ρ hρ d ty' pos aft g w => by
 have e := shift_shr k ky a b h0 h1
 rw [hr] at e
 simp [execOp, hρ _ _ hx, hρ _ _ hy, eqGuard, binOp_shr, e]
end
theorem hb103 : HasBody Tryz.prog 103 := hasBody func103 kR
theorem hb104 : HasBody Tryz.prog 104 := hasBody func104 kR
theorem hb119 : HasBody Tryz.prog 119 := hasBody func119 kR
theorem hb86 : HasBody Tryz.prog 86 := hasBody func86 kR
theorem hb69 : HasBody Tryz.prog 69 := hasBody func69 kR
def isPow (b : Nat) : Bool := decide (b = 2) || decide (b = 4) || decide (b = 8) || decide (b = 16) || decide (b = 32)
theorem pow_and : ∀ b : Nat, b ≤ 36 → 2 ≤ b → decide (bits .and .i64 (b : Int) ((b : Int) - 1) = 0) = isPow b := by
 have : ∀ b : Fin 37, 2 ≤ b.val → decide (bits .and .i64 (b.val : Int) ((b.val : Int) - 1) = 0) = isPow b.val := by decide
 exact fun b h1 h2 => this ⟨b, by omega⟩ h2
theorem pow_of {b : Nat} (h : isPow b = true) : ∃ s, 1 ≤ s ∧ s ≤ 5 ∧ b = 2 ^ s := by
 unfold isPow at h
 simp only [Bool.or_eq_true, decide_eq_true_eq] at h
 rcases h with (((h | h) | h) | h) | h <;> subst h
 ·
  exact ⟨1, by decide⟩
 ·
  exact ⟨2, by decide⟩
 ·
  exact ⟨3, by decide⟩
 ·
  exact ⟨4, by decide⟩
 ·
  exact ⟨5, by decide⟩
theorem is_Pow (b : Nat) (h1 : 2 ≤ b) (h2 : b ≤ 36) (w : World) : Calls Tryz.prog 103 #[.int .i64 (b : Int)] w fun e w' => e = .returned (.bool (isPow b)) ∧ w = w' := by
 refine W.enter func103 rfl ntmps103 (Nat.le_of_ble_eq_true rfl) ?_
 refine W.sr <| WL.z rfl rfl ?_
 refine W.sr <| WL.m rfl rfl <| WL.m rfl rfl <| WL.p (.sub rfl rfl (i64w oO)) rfl <| WL.p (.and rfl rfl (rfl)) rfl <| WL.p (.eql rfl rfl) rfl <| WL.z rfl rfl ?_
 refine W.ret (W.ret1 rfl rfl ?_)
 exact ⟨rbE (pow_and b h2 h1), rfl⟩
def tzK (s : Nat) : Nat := 2 ^ s * 285870213051353865 / 288230376151711744
def tzT : List Int := [0, 1, 56, 2, 57, 49, 28, 3, 61, 58, 42, 50, 38, 29, 17, 4, 62, 47, 59, 36, 45, 43, 51, 22, 53, 39, 33, 30, 24, 18, 12, 5, 63, 55, 48, 27, 60, 41, 37, 16, 46, 35, 44, 21, 52, 32, 23, 11, 54, 26, 40, 15, 34, 20, 31, 10, 25, 14, 19, 9, 13, 8, 7, 6]
theorem tz_facts : ∀ s : Nat, 1 ≤ s → s ≤ 5 → ((2 ^ s : Nat) : Int) ≠ 0 ∧ IntKind.u64.wrap (-((2 ^ s : Nat) : Int)) = 18446744073709551616 - ((2 ^ s : Nat) : Int) ∧ bits .and .u64 ((2 ^ s : Nat) : Int) (18446744073709551616 - ((2 ^ s : Nat) : Int)) = ((2 ^ s : Nat) : Int) ∧
  IntKind.u64.wrap (((2 ^ s : Nat) : Int) * 285870213051353865) = ((2 ^ s * 285870213051353865 : Nat) : Int) ∧ ((2 ^ s * 285870213051353865 : Nat) : Int) / 2 ^ (58 : Int).toNat = (tzK s : Int) ∧ tzK s < 64 ∧ tzT[tzK s]? = some (s : Int) := by
 intro s h1 h2
 obtain rfl | rfl | rfl | rfl | rfl : s = 1 ∨ s = 2 ∨ s = 3 ∨ s = 4 ∨ s = 5 := by omega
 all_goals decide
theorem bits_TZ64 (s : Nat) (h1 : 1 ≤ s) (h2 : s ≤ 5) (w : World) (hE : EnvC w) : Calls Tryz.prog 119 #[.int .u64 ((2 ^ s : Nat) : Int)] w fun e w' => e = .returned (.int .i64 (s : Int)) ∧ w = w' := by
 obtain ⟨f0, f1, f2, f3, f4, f5, f6⟩ := tz_facts s h1 h2
 refine W.enter func119 rfl ntmps119 (Nat.le_of_ble_eq_true rfl) ?_
 refine W.sr <| WL.z rfl rfl ?_
 refine W.seq <| W.sr <| WL.m rfl rfl <| WL.p (.eql rfl rfl) rfl <| WL.nil <| ?_
 refine W.cond rfl (fun h1 => ?_) (fun h1 => ?_)
 have h1' := dT h1
 exact absurd aS f0
 have h1' := dF h1
 refine W.skip <| W.sr <| WL.m rfl rfl <| WL.m rfl rfl <| WL.p (.neg rfl f1) rfl <| WL.p (.and rfl rfl (f2)) rfl <| WL.p (.mul rfl rfl f3) rfl <| WL.p (.shrG rfl rfl dD dD _ f4) rfl <| WL.p (.ixr1 underlying204 sizeOf5 rfl rfl (tzK s) (rfl) (f5)) rfl <| WL.r (Rd.ldc (isAgg5 _) rfl (v := .int .u8 (s : Int)) (by rw [add_lit, Nat.zero_add]; have h7 := World.var?_cell (g := 7) kR hE.deb (tzK s); refine h7.trans ?_; rw [List.getElem?_toArray, List.getElem?_map]; show Option.map _ (tzT[tzK s]?) = _; rw [f6]; rfl)) rfl <| WL.p (.cvt underlying5 underlying3 rfl (i64w oO)) rfl <| WL.z rfl rfl ?_
 refine W.ret (W.ret1 rfl rfl ?_)
 exact ⟨rfl, rfl⟩
theorem bits_TZ (s : Nat) (h1 : 1 ≤ s) (h2 : s ≤ 5) (w : World) (hE : EnvC w) : Calls Tryz.prog 104 #[.int .u64 ((2 ^ s : Nat) : Int)] w fun e w' => e = .returned (.int .i64 (s : Int)) ∧ w = w' := by
 refine W.enter func104 rfl ntmps104 (Nat.le_of_ble_eq_true rfl) ?_
 refine W.sr <| WL.z rfl rfl ?_
 refine W.seq <| W.condF rfl rfl ?_
 refine W.skip <| W.sr <| WL.m rfl rfl <| WL.c1 hb119 rfl rfl ((bits_TZ64 s h1 h2 _ hE)) (fun w1 hw1 => ?_)
 obtain rfl := hw1
 refine WL.z rfl rfl ?_
 refine W.ret (W.ret1 rfl rfl ?_)
 exact ⟨rfl, rfl⟩
/-- digits of a base -/
def radL (b u : Nat) : List UInt8 := if h : 2 ≤ b ∧ b ≤ u then radL b (u / b) ++ [dgc true (u % b)] else [dgc true u]
termination_by u
decreasing_by exact Nat.div_lt_self oO oO
def dgs : List UInt8 := [48, 49, 50, 51, 52, 53, 54, 55, 56, 57, 97, 98, 99, 100, 101, 102, 103, 104, 105, 106, 107, 108, 109, 110, 111, 112, 113, 114, 115, 116, 117, 118, 119, 120, 121, 122]
theorem dgs_at : ∀ k : Nat, k < 36 → dgs[k]? = some (dgc true k) := by
 have : ∀ k : Fin 36, dgs[k.val]? = some (dgc true k.val) := by decide
 exact fun k h => this ⟨k, h⟩
theorem dgs_get (k : Nat) (h : k < dgs.length) : dgs[k] = dgc true k := by
 have := dgs_at k h
 rw [List.getElem?_eq_getElem h] at this
 exact Option.some.inj this
theorem radL_big {b u : Nat} (hb : 2 ≤ b) (h : b ≤ u) : radL b u = radL b (u / b) ++ [dgc true (u % b)] := by rw [radL, dif_pos ⟨hb, h⟩]
theorem radL_small {b u : Nat} (h : u < b) : radL b u = [dgc true u] := by rw [radL, dif_neg oO]
theorem set_at (p : List Value) (x v : Value) (r : List Value) : ((p ++ [x]) ++ r).toArray.setIfInBounds p.length v = (p ++ v :: r).toArray := by
 rw [List.setIfInBounds_toArray, List.append_assoc, List.set_append_right _ _ (Nat.le_refl _), Nat.sub_self]; rfl
theorem last_of {l : List Value} (h : 0 < l.length) : ∃ p x, l = p ++ [x] := by
 rcases List.eq_nil_or_concat l with rfl | ⟨p, x, rfl⟩
 ·
  simp at h
 ·
  exact ⟨p, x, List.concat_eq_append⟩
theorem pow_len {u n u0 : Nat} (hu : 1 ≤ u) (h : u * 2 ^ n ≤ u0) (h0 : u0 < 18446744073709551616) : n ≤ 63 := by
  have h1 : 1 * 2 ^ n ≤ u * 2 ^ n := Nat.mul_le_mul_right _ hu
  rcases Nat.lt_or_ge n 64 with h2 | h2
  · omega
  · have : 2 ^ 64 ≤ 2 ^ n := Nat.pow_le_pow_right oO h2
    omega
theorem step_le {b u n u0 : Nat} (hb : 2 ≤ b) (h : u * 2 ^ n ≤ u0) : u / b * 2 ^ (n + 1) ≤ u0 := by
 have h1 : u / b * 2 ≤ u := Nat.le_trans (Nat.mul_le_mul_left _ hb) (Nat.div_mul_le_self u b)
 have h2 : u / b * 2 ^ (n + 1) = u / b * 2 * 2 ^ n := by rw [Nat.pow_succ, Nat.mul_assoc, Nat.mul_comm 2]
 rw [h2]; exact Nat.le_trans (Nat.mul_le_mul_right _ h1) h
theorem and_mod (u s : Nat) (hu : u < 18446744073709551616) (hs : s ≤ 5) : bits .and .u64 (u : Int) (((2 ^ s : Nat) : Int) - 1) = ((u % 2 ^ s : Nat) : Int) := by
 have h1 : 2 ^ s ≤ 2 ^ 5 := Nat.pow_le_pow_right oO hs
 have h0 : 0 < 2 ^ s := Nat.pow_pos oO
 have e : (((2 ^ s : Nat) : Int) - 1) = ((2 ^ s - 1 : Nat) : Int) := by omega
 rw [e, u64_and _ _ oO oO oO oO, Int.toNat_natCast, Int.toNat_natCast, Nat.and_two_pow_sub_one_eq_mod]
theorem Rd.b2sN {P : Program} {f : Fr} {tx ty e : TypeId} {x : Operand} {p : Option Addr} {l : List UInt8} {n c : Nat} {w : World} (hu : P.underlying tx = some (.slice e)) (he : P.underlying e = some (.int .u8)) (ht : P.underlying ty = some .string)
  (hx : evo f x = some (.slice p n c)) (hn : n = l.length) (hb : BytesAt w p l) : Rd P (.convert tx ty x) f w (.string (bs l)) := Rd.b2s hu he ht (hn ▸ hx) hb
theorem bytes_tail {w : World} {c : Nat} {pr : List Value} {l : List UInt8} {t : TypeId} (h : Blk w c (pr ++ byteVals l).toArray t) (hl : pr.length + l.length = 65) (h0 : 0 < l.length) : BytesAt w (some (if 65 = pr.length then (⟨c, 0, none⟩ : Addr) else (⟨c, 0, none⟩ : Addr).add (pr.length * 1))) l := by
 rw [if_neg oO, Nat.mul_one, add_lit, Nat.zero_add]
 refine ⟨fun _ => rfl, fun j hj => ?_⟩
 show w.cell? ((⟨c, pr.length, none⟩ : Addr).add j) = _
 rw [add_lit, h.cell, List.getElem?_toArray, List.getElem?_append_right oO, Nat.add_sub_cancel_left, byteVals_at l j hj]
/-- a row of digits in the making -/
def Digs (w : World) (c b u0 : Nat) (t : Nat × List UInt8) : Prop :=
 ∃ pre : List Value, pre.length + t.2.length = 65 ∧ Blk w c (pre ++ byteVals t.2).toArray 168 ∧ radL b u0 = radL b t.1 ++ t.2 ∧ t.1 * 2 ^ t.2.length ≤ u0 ∧ t.2.length ≤ 63
set_option maxHeartbeats 1600000 in
theorem is_formatBits (u b : Nat) (h1 : 2 ≤ b) (h2 : b ≤ 36) (h3 : b ≠ 10) (hu : u < 18446744073709551616) (w : World) (hE : EnvC w) :
  Calls Tryz.prog 86 #[.slice none 0 0, .int .u64 (u : Int), .int .i64 (b : Int), .bool false, .bool false] w fun e w' => e = .returned (.tuple #[.slice none 0 0, .string (bs (radL b u))]) ∧ Below w.heap.size w w' := by
 refine W.enter func86 rfl ntmps86 (Nat.le_of_ble_eq_true rfl) ?_
 have hB0 := Below.refl (w.heap.size) w
 refine W.sr <| WL.a rfl rfl <| WL.z rfl rfl ?_
 refine W.seq <| W.sr <| WL.m rfl rfl <| WL.p (.lss rfl rfl) rfl <| WL.m rfl rfl <| WL.gd rfl rfl rfl (fun g1 => ?_) (fun g1 => ?_)
 have g1' := dF g1
 refine WL.m rfl rfl <| WL.gy rfl rfl rfl g1 <| WL.p (.eql rfl rfl) rfl <| WL.p (.pkF rfl g1 rfl) rfl <| WL.m rfl rfl <| WL.gd rfl rfl rfl (fun g2 => ?_) (fun g2 => ?_)
 have g2' := dF g2
 refine WL.m rfl rfl <| WL.gy rfl rfl rfl g2 <| WL.p (.gtr rfl rfl) rfl <| WL.p (.pkF rfl g2 rfl) rfl <| WL.nil <| ?_
 refine W.cond rfl (fun h3 => ?_) (fun h3 => ?_)
 have h3' := dT h3
 exfalso; omega
 have h3' := dF h3
 refine W.skip <| W.sr <| WL.alloc zeroValue168 rfl (fun b4 wb4 eb4 hkb4 hub4 hsb4 => ?_)
 have hB5 := Upd.below hB0 (by rw [eb4]; exact hB0.size) hub4
 have hgeb4 : w.heap.size ≤ b4 := by rw [eb4]; exact hB0.size
 refine WL.nil <| ?_
 refine W.sr <| WL.z rfl rfl ?_
 refine W.seq <| W.sr <| WL.m rfl rfl <| WL.nil <| ?_
 refine W.condF rfl rfl ?_
 refine W.skip <| W.seq <| W.sr <| WL.m rfl rfl <| WL.c1 hb103 rfl rfl ((is_Pow b h1 h2 _)) (fun w6 hw6 => ?_)
 obtain rfl := hw6
 refine WL.nil <| ?_
 refine W.cond rfl (fun h7 => ?_) (fun h7 => ?_)
 obtain ⟨s, hs1, hs5, rfl⟩ := pow_of aS
 refine W.sr <| WL.m rfl rfl <| WL.p (.cvt underlying3 underlying138 rfl (u64w oO)) rfl <| WL.c1 hb104 rfl rfl ((bits_TZ s hs1 hs5 _ (hE.below hB5))) (fun w8 hw8 => ?_)
 obtain rfl := hw8
 refine WL.p (.cvt underlying3 underlying138 rfl (u64w oO)) rfl <| WL.z rfl rfl ?_
 refine W.sr <| WL.m rfl rfl <| WL.p (.cvt underlying3 underlying82 rfl (u64w oO)) rfl <| WL.z rfl rfl ?_
 refine W.sr <| WL.m rfl rfl <| WL.p (.cvt underlying3 underlying138 rfl (u64w oO)) rfl <| WL.p (.sub rfl rfl (u64w oO)) rfl <| WL.z rfl rfl ?_
 refine W.seq <| W.block ?_
 have hD0 : Digs wb4 b4 (2 ^ s) u (u, []) := ⟨List.replicate 65 (.int .u8 0), rfl, hkb4, by simp, by simp, by simp⟩
 obtain ⟨c, hc⟩ : ∃ c, c = b4 := ⟨_, rfl⟩
 rw [← hc] at hD0
 have hcw : w.heap.size ≤ c := by omega
 refine W.loop (α := Nat × List UInt8) (fun t => [(1, .int .u64 (t.1 : Int)), (2, .int .i64 ((2 ^ s : Nat) : Int)), (3, .bool false), (4, .bool false), (10, .slice none 0 0), (12, .pointer (some ⟨c, 0, none⟩)), (13, .int .i64 (65 - (t.2.length : Int))), (14, .int .u64 (s : Int)), (15, .int .u64 ((2 ^ s : Nat) : Int)), (16, .int .u64 (((2 ^ s : Nat) : Int) - 1))]) (fun t w' => Below w.heap.size w w' ∧ Digs w' c (2 ^ s) u t) (fun t => t.1) ((u, [])) ⟨rfl, rfl, rfl, rfl, rfl, hc ▸ rfl, rfl, rfl, rfl, rfl, trivial⟩ (⟨hB5, hD0⟩) (fun t w1 hR => ?_)
 obtain ⟨v, ds⟩ := t
 obtain ⟨hT, pre, hpl, hbk, hrad, hmul, hlen⟩ := hR
 have hpl : pre.length + ds.length = 65 := hpl
 have hlen : ds.length ≤ 63 := hlen
 have hvu : v ≤ u := by
  have h8 : v * 1 ≤ v * 2 ^ ds.length := Nat.mul_le_mul_left _ (Nat.pow_pos oO)
  have h9 : v * 2 ^ ds.length ≤ u := hmul
  omega
 obtain ⟨pr, x, rfl⟩ := last_of (l := pre) oO
 have hpl : pr.length + 1 + ds.length = 65 := by simpa using hpl
 refine W.seq <| W.sr <| WL.m rfl rfl <| WL.m rfl rfl <| WL.p (.geq rfl rfl) rfl <| WL.nil <| ?_
 refine W.cond rfl (fun h9 => ?_) (fun h9 => ?_)
 have h9' := dT h9
 have hmod : v % 2 ^ s < 2 ^ s := Nat.mod_lt _ oO
 have hv1 : 2 ^ s ≤ v := by omega
 refine W.skip <| W.block <| W.sr <| WL.m rfl rfl <| WL.p (.iis ((65 - ((ds.length + 1 : Nat) : Int))) (.sub rfl rfl (i64w oO)) oO) rfl <| WL.z rfl rfl ?_
 refine W.sr <| WL.m rfl rfl <| WL.m rfl rfl <| WL.m rfl rfl <| WL.p (.and rfl rfl (and_mod v s oO hs5)) rfl <| WL.p (.iis (((dgc true (v % 2 ^ s)).toNat : Int)) (.ixk underlying9 rfl rfl (v % 2 ^ s) (rfl) (show _ < 36 by omega)) (by rw [← dgs_get (v % 2 ^ s) (show _ < 36 by omega)]; rfl)) rfl <| WL.p (.ixr1 underlying168 sizeOf5 rfl rfl (pr.length) oO oO) rfl <| WL.stC (o := pr.length) ((pr ++ byteVals (dgc true (v % 2 ^ s) :: ds)).toArray) sizeOf5 rfl (by rw [add_lit, Nat.zero_add]) rfl (rfl) hbk (by simp only [List.size_toArray, List.length_append, List.length_cons, List.length_nil]; omega) (set_at pr x _ (byteVals ds)) (fun w10 hkw10 huw10 hsw10 => ?_)
 have hkw10 : Blk w10 c _ _ := hkw10
 have huw10 : Upd c _ _ := huw10
 have hB11 := Upd.below hT oO huw10
 refine WL.nil <| ?_
 refine W.reg <| WL.m rfl rfl <| WL.m rfl rfl <| WL.p (.shrG rfl rfl oO (by show (s : Int) ≤ 64; omega) ((v / 2 ^ s : Nat) : Int) (by rw [Int.toNat_natCast]; simp)) rfl <| WL.z rfl rfl ?_
 exact ⟨(v / 2 ^ s, dgc true (v % 2 ^ s) :: ds), ⟨rfl, rfl, rfl, rfl, rfl, rfl, rfl, rfl, rfl, rfl, trivial⟩, ⟨hB11, pr, by simp only [List.length_cons]; omega, hkw10, by rw [hrad, radL_big h1 hv1, List.append_assoc]; rfl, step_le h1 hmul, pow_len (Nat.div_pos hv1 oO) (step_le h1 hmul) hu⟩, Nat.div_lt_self oO oO⟩
 have h9' := dF h9
 refine W.exit <| W.sr <| WL.m rfl rfl <| WL.p (.iis ((65 - ((ds.length + 1 : Nat) : Int))) (.sub rfl rfl (i64w oO)) oO) rfl <| WL.z rfl rfl ?_
 refine W.reg <| WL.m rfl rfl <| WL.m rfl rfl <| WL.p (.iis (((dgc true v).toNat : Int)) (.ixk underlying9 rfl rfl (v) (rfl) (show _ < 36 by omega)) (by rw [← dgs_get v (show _ < 36 by omega)]; rfl)) rfl <| WL.p (.ixr1 underlying168 sizeOf5 rfl rfl (pr.length) oO oO) rfl <| WL.stC (o := pr.length) ((pr ++ byteVals (dgc true v :: ds)).toArray) sizeOf5 rfl (by rw [add_lit, Nat.zero_add]) rfl (rfl) hbk (by simp only [List.size_toArray, List.length_append, List.length_cons, List.length_nil]; omega) (set_at pr x _ (byteVals ds)) (fun w12 hkw12 huw12 hsw12 => ?_)
 have hkw12 : Blk w12 c _ _ := hkw12
 have huw12 : Upd c _ _ := huw12
 have hB13 := Upd.below hT oO huw12
 refine WL.nil <| ?_
 refine W.seq <| W.sr <| WL.m rfl rfl <| WL.nil <| ?_
 refine W.condF rfl rfl ?_
 refine W.skip <| W.seq <| W.sr <| WL.m rfl rfl <| WL.nil <| ?_
 refine W.condF rfl rfl ?_
 refine W.skip <| W.sr <| WL.m rfl rfl <| WL.p (.slaF underlying168 sizeOf5 rfl rfl (pr.length) oO oO) rfl <| WL.r (Rd.b2sN (l := (dgc true v :: ds)) underlying35 underlying5 underlying9 rfl (by simp only [List.length_cons]; omega) (bytes_tail hkw12 (by simp only [List.length_cons]; omega) (by simp))) rfl <| WL.z rfl rfl ?_
 refine W.ret (W.ret2 rfl rfl rfl ?_)
 have hR : radL (2 ^ s) u = dgc true v :: ds := by rw [hrad, radL_small oO]; rfl
 exact ⟨by rw [hR], hB13⟩
 refine W.sr <| WL.m rfl rfl <| WL.p (.cvt underlying3 underlying82 rfl (u64w oO)) rfl <| WL.z rfl rfl ?_
 refine W.seq <| W.block ?_
 have hD0 : Digs wb4 b4 b u (u, []) := ⟨List.replicate 65 (.int .u8 0), rfl, hkb4, by simp, by simp, by simp⟩
 obtain ⟨c, hc⟩ : ∃ c, c = b4 := ⟨_, rfl⟩
 rw [← hc] at hD0
 have hcw : w.heap.size ≤ c := by omega
 refine W.loop (α := Nat × List UInt8) (fun t => [(1, .int .u64 (t.1 : Int)), (2, .int .i64 (b : Int)), (3, .bool false), (4, .bool false), (10, .slice none 0 0), (12, .pointer (some ⟨c, 0, none⟩)), (13, .int .i64 (65 - (t.2.length : Int))), (17, .int .u64 (b : Int))]) (fun t w' => Below w.heap.size w w' ∧ Digs w' c b u t) (fun t => t.1) ((u, [])) ⟨rfl, rfl, rfl, rfl, rfl, hc ▸ rfl, rfl, rfl, trivial⟩ (⟨hB5, hD0⟩) (fun t w1 hR => ?_)
 obtain ⟨v, ds⟩ := t
 obtain ⟨hT, pre, hpl, hbk, hrad, hmul, hlen⟩ := hR
 have hpl : pre.length + ds.length = 65 := hpl
 have hlen : ds.length ≤ 63 := hlen
 have hvu : v ≤ u := by
  have h8 : v * 1 ≤ v * 2 ^ ds.length := Nat.mul_le_mul_left _ (Nat.pow_pos oO)
  have h9 : v * 2 ^ ds.length ≤ u := hmul
  omega
 obtain ⟨pr, x, rfl⟩ := last_of (l := pre) oO
 have hpl : pr.length + 1 + ds.length = 65 := by simpa using hpl
 refine W.seq <| W.sr <| WL.m rfl rfl <| WL.m rfl rfl <| WL.p (.geq rfl rfl) rfl <| WL.nil <| ?_
 refine W.cond rfl (fun h14 => ?_) (fun h14 => ?_)
 have h14' := dT h14
 have hmod : v % b < b := Nat.mod_lt _ oO
 have hv1 : b ≤ v := by omega
 have hdm := Nat.div_add_mod' v b
 refine W.skip <| W.block <| W.sr <| WL.m rfl rfl <| WL.p (.iis ((65 - ((ds.length + 1 : Nat) : Int))) (.sub rfl rfl (i64w oO)) oO) rfl <| WL.z rfl rfl ?_
 refine W.sr <| WL.m rfl rfl <| WL.m rfl rfl <| WL.p (.iis (((v / b : Nat) : Int)) (.quo rfl rfl oO (u64q oO oO oO)) (by simp)) rfl <| WL.z rfl rfl ?_
 refine W.sr <| WL.m rfl rfl <| WL.m rfl rfl <| WL.m rfl rfl <| WL.m rfl rfl <| WL.p (.iis (((v / b * b : Nat) : Int)) (.mul rfl rfl (u64w (by rw [← Int.natCast_mul]; omega))) (by simp)) rfl <| WL.p (.iis (((v % b : Nat) : Int)) (.sub rfl rfl (u64w oO)) oO) rfl <| WL.p (.iis (((dgc true (v % b)).toNat : Int)) (.ixk underlying9 rfl rfl (v % b) (rfl) (show _ < 36 by omega)) (by rw [← dgs_get (v % b) (show _ < 36 by omega)]; rfl)) rfl <| WL.p (.ixr1 underlying168 sizeOf5 rfl rfl (pr.length) oO oO) rfl <| WL.stC (o := pr.length) ((pr ++ byteVals (dgc true (v % b) :: ds)).toArray) sizeOf5 rfl (by rw [add_lit, Nat.zero_add]) rfl (rfl) hbk (by simp only [List.size_toArray, List.length_append, List.length_cons, List.length_nil]; omega) (set_at pr x _ (byteVals ds)) (fun w15 hkw15 huw15 hsw15 => ?_)
 have hkw15 : Blk w15 c _ _ := hkw15
 have huw15 : Upd c _ _ := huw15
 have hB16 := Upd.below hT oO huw15
 refine WL.nil <| ?_
 refine W.reg <| WL.m rfl rfl <| WL.z rfl rfl ?_
 exact ⟨(v / b, dgc true (v % b) :: ds), ⟨rfl, rfl, rfl, rfl, rfl, rfl, rfl, rfl, trivial⟩, ⟨hB16, pr, by simp only [List.length_cons]; omega, hkw15, by rw [hrad, radL_big h1 hv1, List.append_assoc]; rfl, step_le h1 hmul, pow_len (Nat.div_pos hv1 oO) (step_le h1 hmul) hu⟩, Nat.div_lt_self oO oO⟩
 have h14' := dF h14
 refine W.exit <| W.sr <| WL.m rfl rfl <| WL.p (.iis ((65 - ((ds.length + 1 : Nat) : Int))) (.sub rfl rfl (i64w oO)) oO) rfl <| WL.z rfl rfl ?_
 refine W.reg <| WL.m rfl rfl <| WL.m rfl rfl <| WL.p (.iis (((dgc true v).toNat : Int)) (.ixk underlying9 rfl rfl (v) (rfl) (show _ < 36 by omega)) (by rw [← dgs_get v (show _ < 36 by omega)]; rfl)) rfl <| WL.p (.ixr1 underlying168 sizeOf5 rfl rfl (pr.length) oO oO) rfl <| WL.stC (o := pr.length) ((pr ++ byteVals (dgc true v :: ds)).toArray) sizeOf5 rfl (by rw [add_lit, Nat.zero_add]) rfl (rfl) hbk (by simp only [List.size_toArray, List.length_append, List.length_cons, List.length_nil]; omega) (set_at pr x _ (byteVals ds)) (fun w17 hkw17 huw17 hsw17 => ?_)
 have hkw17 : Blk w17 c _ _ := hkw17
 have huw17 : Upd c _ _ := huw17
 have hB18 := Upd.below hT oO huw17
 refine WL.nil <| ?_
 refine W.seq <| W.sr <| WL.m rfl rfl <| WL.nil <| ?_
 refine W.condF rfl rfl ?_
 refine W.skip <| W.seq <| W.sr <| WL.m rfl rfl <| WL.nil <| ?_
 refine W.condF rfl rfl ?_
 refine W.skip <| W.sr <| WL.m rfl rfl <| WL.p (.slaF underlying168 sizeOf5 rfl rfl (pr.length) oO oO) rfl <| WL.r (Rd.b2sN (l := (dgc true v :: ds)) underlying35 underlying5 underlying9 rfl (by simp only [List.length_cons]; omega) (bytes_tail hkw17 (by simp only [List.length_cons]; omega) (by simp))) rfl <| WL.z rfl rfl ?_
 refine W.ret (W.ret2 rfl rfl rfl ?_)
 have hR : radL b u = dgc true v :: ds := by rw [hrad, radL_small oO]; rfl
 exact ⟨by rw [hR], hB18⟩
 have g2' := dT g2
 exfalso; omega
 have g1' := dT g1
 exfalso; omega
theorem is_FormatUint (u b : Nat) (hq1 : 2 ≤ b) (hq2 : b ≤ 36) (hq3 : b ≠ 10) (hu : u < 18446744073709551616) (w : World) (hE : EnvC w) :
  Calls Tryz.prog 69 #[.int .u64 (u : Int), .int .i64 (b : Int)] w fun e w' => e = .returned (.string (bs (radL b u))) ∧ Below w.heap.size w w' := by
 refine W.enter func69 rfl ntmps69 (Nat.le_of_ble_eq_true rfl) ?_
 have hB0 := Below.refl (w.heap.size) w
 refine W.sr <| WL.z rfl rfl ?_
 refine W.seq <| W.sr <| WL.m rfl rfl <| WL.p (.eql rfl rfl) rfl <| WL.nil <| ?_
 refine W.cond rfl (fun h1 => ?_) (fun h1 => ?_)
 have h1' := dT h1
 exfalso; omega
 have h1' := dF h1
 refine W.skip <| W.sr <| WL.m rfl rfl <| WL.m rfl rfl <| WL.c1 hb86 rfl rfl ((is_formatBits u b hq1 hq2 hq3 hu _ (hE.below hB0))) (fun w2 hw2 => ?_)
 have hB3 := btr hB0 hw2
 refine WL.m rfl rfl <| WL.p (.ext rfl rfl) rfl <| WL.p (.ext rfl rfl) rfl <| WL.a rfl rfl <| WL.z rfl rfl ?_
 refine W.sr <| WL.m rfl rfl <| WL.z rfl rfl ?_
 refine W.ret (W.ret1 rfl rfl ?_)
 exact ⟨rfl, hB3⟩
theorem s_FormatUint (u b : Nat) (hq1 : 2 ≤ b) (hq2 : b ≤ 36) (hq3 : b ≠ 10) (hu : u < 18446744073709551616) (w : World) (hE : EnvC w) :
  Calls Tryz.prog 51 #[.int .u64 (u : Int), .int .i64 (b : Int)] w fun e w' => e = .returned (.string (bs (radL b u))) ∧ Below w.heap.size w w' := by
 refine W.enter func51 rfl ntmps51 (Nat.le_of_ble_eq_true rfl) ?_
 have hB0 := Below.refl (w.heap.size) w
 refine W.sr <| WL.z rfl rfl ?_
 refine W.sr <| WL.m rfl rfl <| WL.m rfl rfl <| WL.c1 hb69 rfl rfl ((is_FormatUint u b hq1 hq2 hq3 hu _ (hE.below hB0))) (fun w1 hw1 => ?_)
 have hB2 := btr hB0 hw1
 refine WL.z rfl rfl ?_
 refine W.ret (W.ret1 rfl rfl ?_)
 exact ⟨rfl, hB2⟩
end
section
def bren2 : Go.Shelf.Ren := ⟨fun | 240 => 76 | 276 => 95 | 166 => 64 | n => n, fun | 0 => 0 | 3 => 3 | 4 => 4 | 5 => 5 | 9 => 9 | 75 => 125 | 80 => 129 | 20 => 20 | 37 => 35 | 70 => 120 | 72 => 122 | 164 => 159 | n => n, fun | n => n⟩
theorem lays166 : Lays.n166 Tryz.prog bren2 := {
 mixed := by kernel_rfl
 f166 := func64.trans (congrArg some kR)
 f240 := func76.trans (congrArg some kR)
 f276 := func95.trans (congrArg some kR)
 t0 := underlying0
 a0 := isAgg0
 z0 := sizeOf0
 v0 := zeroValue0
 t3 := underlying3
 a3 := isAgg3
 z3 := sizeOf3
 v3 := zeroValue3
 t4 := underlying4
 a4 := isAgg4
 z4 := sizeOf4
 v4 := zeroValue4
 t9 := underlying9
 a9 := isAgg9
 z9 := sizeOf9
 v9 := zeroValue9
 t20 := underlying20
 a20 := isAgg20
 z20 := sizeOf20
 v20 := zeroValue20
 t37 := underlying35
 a37 := isAgg35
 z37 := sizeOf35
 v37 := zeroValue35
 t70 := underlying120
 a70 := isAgg120
 z70 := sizeOf120
 v70 := zeroValue120
 t72 := underlying122
 a72 := isAgg122
 z72 := sizeOf122
 v72 := zeroValue122
 t75 := underlying125
 a75 := isAgg125
 z75 := sizeOf125
 v75 := zeroValue125
 t164 := underlying159
 a164 := isAgg159
 z164 := sizeOf159
 v164 := zeroValue159 }
theorem bextra2 : Builder.Extra Tryz.prog bren2 where
 sizeBuilder := by kernel_rfl
 liesBuilder := by kernel_rfl
 t5 := underlying5
 a5 := isAgg5
 z5 := sizeOf5
 v5 := zeroValue5
 infoByte := by kernel_rfl
 cellsByte := by kernel_rfl
 sizeByte := by kernel_rfl
 neB5 := by decide
theorem bl_WriteString (B b : Nat) (l s : List UInt8) (w : World) (h : Lib.IsBuilder 122 5 B b (byteVals l) w) (hlen : l.length + s.length ≤ 1000000000) (hBw : B ≤ w.heap.size) :
    Calls Tryz.prog 64 #[.pointer (some ⟨b, 0, none⟩), .string (bs s)] w fun e w' => ∃ r, e = .returned r ∧ Lib.IsBuilder 122 5 B b (byteVals (l ++ s)) w' ∧ Below B w w' := by
  refine (Any.Builder_WriteString lays166 bextra2 B b (byteVals l) (bs s) w h ?_ hBw).mono ?_
  · have e : (bs s).size = s.length := by show s.toArray.size = _; simp
    rw [byteVals_len, e]; omega
  · rintro e w' ⟨rfl, h1, h2⟩
    refine ⟨_, rfl, .inr ?_, h2⟩
    have e : byteVals (l ++ s) = byteVals l ++ Lib.strCells (bs s) := by simp [byteVals, Lib.strCells, bs]
    rw [e]; exact h1
theorem bl_WriteByte (B b : Nat) (l : List UInt8) (c : UInt8) (w : World) (h : Lib.IsBuilder 122 5 B b (byteVals l) w) (hlen : l.length ≤ 1000000000) (hBw : B ≤ w.heap.size) :
  Calls Tryz.prog 65 #[.pointer (some ⟨b, 0, none⟩), .int .u8 (c.toNat : Int)] w fun e w' => ∃ r, e = .returned r ∧ Lib.IsBuilder 122 5 B b (byteVals (l ++ [c])) w' ∧ Below B w w' := by
 refine (WriteByte B b (byteVals l) (c.toNat : Int) w h (by rw [byteVals_len]; omega) hBw).mono ?_
 rintro e w' ⟨rfl, h1, h2⟩
 exact ⟨_, rfl, .inr (by simpa [byteVals] using h1), h2⟩
theorem bl_String (B b : Nat) (l : List UInt8) (w : World) (h : Lib.IsBuilder 122 5 B b (byteVals l) w) (hBw : B ≤ w.heap.size) :
  Calls Tryz.prog 66 #[.pointer (some ⟨b, 0, none⟩)] w fun e w' => e = .returned (.string (bs l)) ∧ Below B w w' := by
 refine (Tryz.Builder_String_any B b l w (by simpa [byteVals, Lib.byteCells] using h) hBw).mono ?_
 rintro e w' ⟨rfl, h2⟩
 exact ⟨rfl, h2⟩
theorem bl_Grow (B b n : Nat) (w : World) (hB : B ≤ b) (h : Blk w b #[.pointer none, .slice none 0 0] 122) (hBw : B ≤ w.heap.size) (hn : n ≤ 1000000000) :
  Calls Tryz.prog 63 #[.pointer (some ⟨b, 0, none⟩), .int .i64 (n : Int)] w fun e w' => e = .returned (.tuple #[]) ∧ Lib.IsBuilder 122 5 B b (byteVals []) w' ∧ Below B w w' := by
 refine (Tryz.Builder_Grow_fresh B b n w hB h hBw oO).mono ?_
 rintro e w' ⟨rfl, h1, h2⟩
 exact ⟨rfl, .inr h1, h2⟩
def lowC (c : UInt8) : Bool := decide (97 ≤ c.toNat) && decide (c.toNat ≤ 122)
def upC (c : UInt8) : UInt8 := if lowC c = true then UInt8.ofNat (c.toNat - 32) else c
theorem lowC_eq (c : UInt8) : lowC c = (decide ((97 : Int) ≤ (c.toNat : Int)) && decide ((c.toNat : Int) ≤ 122)) := by
 unfold lowC
 congr 1 <;> rw [decide_eq_decide] <;> omega
theorem upC_low {c : UInt8} (h : 97 ≤ c.toNat ∧ c.toNat ≤ 122) : ((upC c).toNat : Int) = (c.toNat : Int) - 32 := by
 unfold upC
 rw [if_pos (by unfold lowC; simp [h])]
 rw [UInt8.toNat_ofNat']; omega
theorem upC_not {c : UInt8} (h : lowC c = false) : upC c = c := by unfold upC; rw [if_neg (by rw [h]; simp)]
theorem up_none {l : List UInt8} (h : ∀ j (hj : j < l.length), lowC l[j] = false) : l.map upC = l := by
 refine List.ext_getElem (by simp) fun j h1 h2 => ?_
 rw [List.getElem_map]; exact upC_not (h j h2)
theorem up_seg {l : List UInt8} {p i : Nat} (hp : p ≤ i) (hi : i ≤ l.length) (h : ∀ j (hj : j < l.length), p ≤ j → j < i → lowC l[j] = false) : (l.take i).map upC = (l.take p).map upC ++ (l.drop p).take (i - p) := by
 have e : l.take i = l.take p ++ (l.drop p).take (i - p) := by
  conv => lhs; rw [show i = p + (i - p) by omega]
  exact List.take_add
 rw [e, List.map_append]
 congr 1
 refine up_none fun j hj => ?_
 rw [List.length_take, List.length_drop] at hj
 simp only [List.getElem_take, List.getElem_drop]
 exact h (p + j) oO oO oO
theorem up_snoc {l : List UInt8} {i : Nat} (hi : i < l.length) : (l.take (i + 1)).map upC = (l.take i).map upC ++ [upC l[i]] := by
 rw [List.take_add_one, List.getElem?_eq_getElem hi, List.map_append]; rfl
theorem hb63 : HasBody Tryz.prog 63 := hasBody func63 kR
theorem hb64 : HasBody Tryz.prog 64 := hasBody func64 kR
theorem hb65 : HasBody Tryz.prog 65 := hasBody func65 kR
theorem hb66 : HasBody Tryz.prog 66 := hasBody func66 kR
set_option maxHeartbeats 1600000 in
theorem s_ToUpper (l : List UInt8) (hl : l.length ≤ 1000000) (ha : ∀ c ∈ l, c.toNat < 128) (w : World) :
    Calls Tryz.prog 50 #[.string (bs l)] w fun e w' => e = .returned (.string (bs (l.map upC))) ∧ Below w.heap.size w w' := by
  refine W.enter func50 rfl ntmps50 (Nat.le_of_ble_eq_true rfl) ?_
  have hB0 := Below.refl (w.heap.size) w
  refine W.sr <| WL.z rfl rfl ?_
  refine W.sr <| WL.a rfl rfl <| WL.z rfl rfl ?_
  refine W.seq <| W.sr <| WL.z rfl rfl ?_
  refine W.block ?_
  refine W.loop (α := Nat) (fun t => [(0, .string (bs l)), (3, .bool true), (4, .bool ((l.take t).any lowC)), (5, .int .i64 (t : Int))]) (fun t w' => Below w.heap.size w w' ∧ t ≤ l.length) (fun t => l.length - t) (0) ⟨rfl, rfl, rfl, rfl, trivial⟩ (⟨hB0, by omega⟩) (fun t w1 hR => ?_)
  obtain ⟨i, rfl⟩ : ∃ i, i = t := ⟨t, rfl⟩
  obtain ⟨hT, hi⟩ := hR
  refine W.seq <| W.sr <| WL.m rfl rfl <| WL.m rfl rfl <| WL.p (.len underlying9 rfl) rfl <| WL.p (.lss rfl rfl) rfl <| WL.nil <| ?_
  refine W.cond rfl (fun h1 => ?_) (fun h1 => ?_)
  · have h1' := dT h1
    have hil : i < l.length := by omega
    have hci := ha l[i] (List.getElem_mem hil)
    have hst : (l.take (i + 1)).any lowC = ((l.take i).any lowC || lowC l[i]) := by rw [List.take_add_one, List.getElem?_eq_getElem hil, List.any_append]; simp
    refine W.skip <| W.seq <| W.block <| W.sr <| WL.m rfl rfl <| WL.m rfl rfl <| WL.p (.ix underlying9 rfl rfl (i) (rfl) (hil)) rfl <| WL.z rfl rfl ?_
    refine W.seq <| W.sr <| WL.m rfl rfl <| WL.p (.geq rfl rfl) rfl <| WL.nil <| ?_
    refine W.cond rfl (fun h2 => ?_) (fun h2 => ?_)
    · have h2' := dT h2
      exfalso; omega
    have h2' := dF h2
    refine W.skip <| W.reg <| WL.m rfl rfl <| WL.m rfl rfl <| WL.gd rfl rfl rfl (fun g3 => ?_) (fun g3 => ?_)
    refine WL.m rfl rfl <| WL.gy rfl rfl rfl g3 <| WL.p (.leq rfl rfl) rfl <| WL.gy rfl rfl rfl g3 <| WL.m rfl rfl <| WL.gd rfl rfl rfl (fun g4 => ?_) (fun g4 => ?_)
    · have g4' := dT g4
      refine WL.m rfl rfl <| WL.gy rfl rfl rfl g4 <| WL.p (.leq rfl rfl) rfl <| WL.gy rfl rfl rfl g3 <| WL.p (.pkT rfl g4 rfl) rfl <| WL.p (.bis ((l.take (i + 1)).any lowC) (.pkF rfl g3 rfl) (by rw [hst, lowC_eq]; simp_all <;> first | omega | (intros; omega))) rfl <| WL.z rfl rfl ?_
      refine W.reg <| WL.m rfl rfl <| WL.p (.iis (((i + 1 : Nat) : Int)) (.add rfl rfl (i64w oO)) oO) rfl <| WL.z rfl rfl ?_
      exact ⟨i + 1, ⟨rfl, rfl, rfl, rfl, trivial⟩, ⟨hT, by omega⟩, by omega⟩
    have g4' := dF g4
    refine WL.gn rfl rfl rfl g4 <| WL.gy rfl rfl rfl g3 <| WL.p (.pkF rfl g4 rfl) rfl <| WL.p (.bis ((l.take (i + 1)).any lowC) (.pkF rfl g3 rfl) (by rw [hst, lowC_eq]; simp_all <;> first | omega | (intros; omega))) rfl <| WL.z rfl rfl ?_
    refine W.reg <| WL.m rfl rfl <| WL.p (.iis (((i + 1 : Nat) : Int)) (.add rfl rfl (i64w oO)) oO) rfl <| WL.z rfl rfl ?_
    exact ⟨i + 1, ⟨rfl, rfl, rfl, rfl, trivial⟩, ⟨hT, by omega⟩, by omega⟩
    refine WL.gn rfl rfl rfl g3 <| WL.gn rfl rfl rfl g3 <| WL.gu rfl rfl rfl <| WL.gu rfl rfl rfl <| WL.gn rfl rfl rfl g3 <| WL.p (.bis ((l.take (i + 1)).any lowC) (.pkT rfl g3 rfl) (by rw [hst, lowC_eq]; simp_all <;> first | omega | (intros; omega))) rfl <| WL.z rfl rfl ?_
    refine W.reg <| WL.m rfl rfl <| WL.p (.iis (((i + 1 : Nat) : Int)) (.add rfl rfl (i64w oO)) oO) rfl <| WL.z rfl rfl ?_
    exact ⟨i + 1, ⟨rfl, rfl, rfl, rfl, trivial⟩, ⟨hT, by omega⟩, by omega⟩
  have h1' := dF h1
  obtain rfl : i = l.length := by omega
  refine W.exit <| W.seq <| W.sr <| WL.m rfl rfl <| WL.nil <| ?_
  refine W.condT rfl rfl ?_
  refine W.seq <| W.sr <| WL.m rfl rfl <| WL.p (.not rfl) rfl <| WL.nil <| ?_
  refine W.cond rfl (fun h5 => ?_) (fun h5 => ?_)
  refine W.sr <| WL.m rfl rfl <| WL.z rfl rfl ?_
  refine W.ret (W.ret1 rfl rfl ?_)
  have h0 : l.any lowC = false := by rw [List.take_length] at *; simp_all
  exact ⟨by rw [up_none (fun j hj => by have h1 := List.any_eq_false.1 h0 l[j] (List.getElem_mem hj); simpa using h1)], hT⟩
  refine W.skip <| W.sr <| WL.alloc zeroValue122 rfl (fun b6 wb6 eb6 hkb6 hub6 hsb6 => ?_)
  have hB7 := Upd.below hT (by rw [eb6]; exact hT.size) hub6
  have hgeb6 : w.heap.size ≤ b6 := by rw [eb6]; exact hT.size
  refine WL.nil <| ?_
  refine W.sr <| WL.z rfl rfl ?_
  refine W.sr <| WL.m rfl rfl <| WL.p (.len underlying9 rfl) rfl <| WL.c1 hb63 rfl rfl ((bl_Grow w.heap.size b6 l.length _ oO hkb6 hB7.size oO)) (fun w8 hw8 => ?_)
  have hBg := Below.trans hB7 hw8.2
  have hIb := hw8.1
  refine WL.nil <| ?_
  refine W.seq <| W.sr <| WL.z rfl rfl ?_
  refine W.block ?_
  obtain ⟨c, hc⟩ : ∃ c, c = b6 := ⟨_, rfl⟩
  rw [← hc] at hIb
  refine W.loop (α := Nat × Nat) (fun t => [(0, .string (bs l)), (7, .pointer (some ⟨c, 0, none⟩)), (8, .int .i64 (t.2 : Int)), (9, .int .i64 (t.1 : Int))]) (fun t w' => Below w.heap.size w w' ∧ Lib.IsBuilder 122 5 w.heap.size c (byteVals ((l.take t.2).map upC)) w' ∧ t.2 ≤ t.1 ∧ t.1 ≤ l.length ∧ ∀ j (hj : j < l.length), t.2 ≤ j → j < t.1 → lowC l[j] = false) (fun t => l.length - t.1) ((0, 0)) ⟨rfl, hc ▸ rfl, rfl, rfl, trivial⟩ (⟨hBg, hIb, Nat.le_refl _, Nat.zero_le _, fun j hj h8 h9 => absurd h9 oO⟩) (fun t w1 hR => ?_)
  obtain ⟨i, pos⟩ := t
  obtain ⟨hT, hI, hpi, hil, hno⟩ := hR
  have hpi : pos ≤ i := hpi
  have hil : i ≤ l.length := hil
  have hno : ∀ j (hj : j < l.length), pos ≤ j → j < i → lowC l[j] = false := hno
  refine W.seq <| W.sr <| WL.m rfl rfl <| WL.m rfl rfl <| WL.p (.len underlying9 rfl) rfl <| WL.p (.lss rfl rfl) rfl <| WL.nil <| ?_
  refine W.cond rfl (fun h9 => ?_) (fun h9 => ?_)
  · have h9' := dT h9
    refine W.skip <| W.seq <| W.block <| W.sr <| WL.m rfl rfl <| WL.m rfl rfl <| WL.p (.ix underlying9 rfl rfl (i) (rfl) oO) rfl <| WL.z rfl rfl ?_
    refine W.sr <| WL.m rfl rfl <| WL.p (.leq rfl rfl) rfl <| WL.m rfl rfl <| WL.gd rfl rfl rfl (fun g10 => ?_) (fun g10 => ?_)
    · have g10' := dT g10
      refine WL.m rfl rfl <| WL.gy rfl rfl rfl g10 <| WL.p (.leq rfl rfl) rfl <| WL.p (.pkT rfl g10 rfl) rfl <| WL.nil <| ?_
      refine W.cond rfl (fun h11 => ?_) (fun h11 => ?_)
      · have h11' := dT h11
        have hlow : lowC l[i] = true := by rw [lowC_eq]; simp_all <;> first | omega | (intros; omega)
        have hlow2 : 97 ≤ l[i].toNat ∧ l[i].toNat ≤ 122 := by unfold lowC at hlow; simpa using hlow
        refine W.sr <| WL.m rfl rfl <| WL.p (.iis (((upC l[i]).toNat : Int)) (.sub rfl rfl (u8w oO)) (by rw [upC_low hlow2])) rfl <| WL.z rfl rfl ?_
        refine W.seq <| W.sr <| WL.m rfl rfl <| WL.m rfl rfl <| WL.p (.lss rfl rfl) rfl <| WL.nil <| ?_
        refine W.cond rfl (fun h12 => ?_) (fun h12 => ?_)
        · have h12' := dT h12
          refine W.reg <| WL.m rfl rfl <| WL.m rfl rfl <| WL.m rfl rfl <| WL.p (.slS underlying9 rfl rfl rfl (pos) (i) (rfl) (rfl) (hpi) (hil)) rfl <| WL.call hb64 rfl rfl ((bl_WriteString w.heap.size c ((l.take pos).map upC) ((l.drop pos).take (i - pos)) _ hI (by simp only [List.length_map, List.length_take, List.length_drop]; omega) hT.size)) (fun r w13 hw13 => ?_)
          have hBs := Below.trans hT hw13.2
          have hI2 := hw13.1
          rw [← up_seg hpi hil hno] at hI2
          refine WL.nil <| ?_
          refine W.sr <| WL.m rfl rfl <| WL.call hb65 rfl rfl ((bl_WriteByte w.heap.size c ((l.take i).map upC) (upC l[i]) _ hI2 (by simp only [List.length_map, List.length_take]; omega) hBs.size)) (fun r2 w14 hw14 => ?_)
          have hBb := Below.trans hBs hw14.2
          have hI3 := hw14.1
          rw [← up_snoc] at hI3
          refine WL.nil <| ?_
          refine W.reg <| WL.m rfl rfl <| WL.p (.iis (((i + 1 : Nat) : Int)) (.add rfl rfl (i64w oO)) oO) rfl <| WL.z rfl rfl ?_
          refine W.reg <| WL.m rfl rfl <| WL.p (.iis (((i + 1 : Nat) : Int)) (.add rfl rfl (i64w oO)) oO) rfl <| WL.z rfl rfl ?_
          first
          | exact ⟨(i + 1, i + 1), ⟨rfl, rfl, rfl, rfl, trivial⟩, ⟨hBb, hI3, Nat.le_refl _, by omega, fun j hj h8 h9 => absurd h9 oO⟩, by omega⟩
          | (have hnl : lowC l[i] = false := by rw [lowC_eq]; simp_all <;> first | omega | (intros; omega)
             exact ⟨(i + 1, pos), ⟨rfl, rfl, rfl, rfl, trivial⟩, ⟨hBb, hI, by omega, by omega, fun j hj h8 h9 => by
               rcases Nat.lt_succ_iff_lt_or_eq.1 h9 with h7 | rfl
               · exact hno j hj h8 h7
               · exact hnl⟩, by omega⟩)
        have h12' := dF h12
        have hI2 : Lib.IsBuilder 122 5 w.heap.size c (byteVals ((l.take i).map upC)) w1 := by rw [show i = pos by omega]; exact hI
        refine W.skip <| W.sr <| WL.m rfl rfl <| WL.call hb65 rfl rfl ((bl_WriteByte w.heap.size c ((l.take i).map upC) (upC l[i]) _ hI2 (by simp only [List.length_map, List.length_take]; omega) hT.size)) (fun r2 w15 hw15 => ?_)
        have hBb := Below.trans hT hw15.2
        have hI3 := hw15.1
        rw [← up_snoc] at hI3
        refine WL.nil <| ?_
        refine W.reg <| WL.m rfl rfl <| WL.p (.iis (((i + 1 : Nat) : Int)) (.add rfl rfl (i64w oO)) oO) rfl <| WL.z rfl rfl ?_
        refine W.reg <| WL.m rfl rfl <| WL.p (.iis (((i + 1 : Nat) : Int)) (.add rfl rfl (i64w oO)) oO) rfl <| WL.z rfl rfl ?_
        first
        | exact ⟨(i + 1, i + 1), ⟨rfl, rfl, rfl, rfl, trivial⟩, ⟨hBb, hI3, Nat.le_refl _, by omega, fun j hj h8 h9 => absurd h9 oO⟩, by omega⟩
        | (have hnl : lowC l[i] = false := by rw [lowC_eq]; simp_all <;> first | omega | (intros; omega)
           exact ⟨(i + 1, pos), ⟨rfl, rfl, rfl, rfl, trivial⟩, ⟨hBb, hI, by omega, by omega, fun j hj h8 h9 => by
             rcases Nat.lt_succ_iff_lt_or_eq.1 h9 with h7 | rfl
             · exact hno j hj h8 h7
             · exact hnl⟩, by omega⟩)
      have h11' := dF h11
      refine W.skip <| W.reg <| WL.m rfl rfl <| WL.p (.iis (((i + 1 : Nat) : Int)) (.add rfl rfl (i64w oO)) oO) rfl <| WL.z rfl rfl ?_
      first
      | exact ⟨(i + 1, i + 1), ⟨rfl, rfl, rfl, rfl, trivial⟩, ⟨hT, hI3, Nat.le_refl _, by omega, fun j hj h8 h9 => absurd h9 oO⟩, by omega⟩
      | (have hnl : lowC l[i] = false := by rw [lowC_eq]; simp_all <;> first | omega | (intros; omega)
         exact ⟨(i + 1, pos), ⟨rfl, rfl, rfl, rfl, trivial⟩, ⟨hT, hI, by omega, by omega, fun j hj h8 h9 => by
           rcases Nat.lt_succ_iff_lt_or_eq.1 h9 with h7 | rfl
           · exact hno j hj h8 h7
           · exact hnl⟩, by omega⟩)
    have g10' := dF g10
    refine WL.gn rfl rfl rfl g10 <| WL.p (.pkF rfl g10 rfl) rfl <| WL.nil <| ?_
    refine W.condF rfl rfl ?_
    refine W.skip <| W.reg <| WL.m rfl rfl <| WL.p (.iis (((i + 1 : Nat) : Int)) (.add rfl rfl (i64w oO)) oO) rfl <| WL.z rfl rfl ?_
    first
    | exact ⟨(i + 1, i + 1), ⟨rfl, rfl, rfl, rfl, trivial⟩, ⟨hT, hI3, Nat.le_refl _, by omega, fun j hj h8 h9 => absurd h9 oO⟩, by omega⟩
    | (have hnl : lowC l[i] = false := by rw [lowC_eq]; simp_all <;> first | omega | (intros; omega)
       exact ⟨(i + 1, pos), ⟨rfl, rfl, rfl, rfl, trivial⟩, ⟨hT, hI, by omega, by omega, fun j hj h8 h9 => by
         rcases Nat.lt_succ_iff_lt_or_eq.1 h9 with h7 | rfl
         · exact hno j hj h8 h7
         · exact hnl⟩, by omega⟩)
  have h9' := dF h9
  obtain rfl : i = l.length := by omega
  refine W.exit <| W.seq <| W.sr <| WL.m rfl rfl <| WL.m rfl rfl <| WL.p (.len underlying9 rfl) rfl <| WL.p (.lss rfl rfl) rfl <| WL.nil <| ?_
  refine W.cond rfl (fun h16 => ?_) (fun h16 => ?_)
  · have h16' := dT h16
    refine W.reg <| WL.m rfl rfl <| WL.m rfl rfl <| WL.p (.slF underlying9 rfl rfl (pos) (rfl) oO) rfl <| WL.call hb64 rfl rfl ((bl_WriteString w.heap.size c ((l.take pos).map upC) (l.drop pos) _ hI (by simp only [List.length_map, List.length_take, List.length_drop]; omega) hT.size)) (fun r w17 hw17 => ?_)
    have hBs := Below.trans hT hw17.2
    have hI2 := hw17.1
    rw [show (l.take pos).map upC ++ l.drop pos = l.map upC by have h8 := up_seg hpi (Nat.le_refl _) hno; have e9 : (l.drop pos).take (l.length - pos) = l.drop pos := List.take_of_length_le (by rw [List.length_drop]; exact Nat.le_refl _); rw [List.take_length, e9] at h8; exact h8.symm] at hI2
    refine WL.nil <| ?_
    refine W.sr <| WL.c1 hb66 rfl rfl ((bl_String w.heap.size c (l.map upC) _ hI2 hBs.size)) (fun w18 hw18 => ?_)
    have hBz := Below.trans hBs hw18
    refine WL.z rfl rfl ?_
    refine W.ret (W.ret1 rfl rfl ?_)
    exact ⟨rfl, hBz⟩
  have h16' := dF h16
  have hI2 : Lib.IsBuilder 122 5 w.heap.size c (byteVals (l.map upC)) w1 := by rw [show pos = l.length by omega, List.take_length] at hI; exact hI
  refine W.skip <| W.sr <| WL.c1 hb66 rfl rfl ((bl_String w.heap.size c (l.map upC) _ hI2 hT.size)) (fun w19 hw19 => ?_)
  have hBz := Below.trans hT hw19
  refine WL.z rfl rfl ?_
  refine W.ret (W.ret1 rfl rfl ?_)
  exact ⟨rfl, hBz⟩
end
end Go.Proofs.YtopnfojdmeageaaGreatDoor
