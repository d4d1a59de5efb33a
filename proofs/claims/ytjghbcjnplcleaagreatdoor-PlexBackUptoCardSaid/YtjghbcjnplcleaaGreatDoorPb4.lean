/-
  What the claim leans on, part 4: pruned and joined by my own tool out of the texts that stand in wip/ as templates.
-/
import Derived.Test.YtjghbcjnplcleaaGreatDoorPb3
import Derived.WalkKit
import Derived.WalkSpells
import Derived.WalkLawsBesides
import Derived.Test.YtjghbcjnplcleaaGreatDoorRows
import Derived.Shelf.Strings.Builder1
import Derived.Shelf.Strings.Builder2
import Derived.Shelf.Strings.Trim
import Derived.Shelf.Small.Utf8
import Derived.Shelf.Small.Strs
import Derived.Shelf.Strings.BuilderF
import Derived.Shelf.Strings.BuilderK
import Derived.Shelf.Strings.Builder2Cap
import Derived.Shelf.Strconv.Itoa0
import Derived.Shelf.Strings.Search1
import Derived.Shelf.Strings.Search2
import Derived.Shelf.Strings.Search3
import Derived.Shelf.Strings.Cut
import Derived.Shelf.Strings.Count
import Derived.Shelf.LaysM
import Derived.Shelf.Strings.Shaped
import Derived.Shelf.Strings.Prefix
import Derived.Shelf.Unicode.Decode
import Derived.Shelf.Strings.Runes
import Derived.Shelf.Strings.IndexAny
import Derived.Shelf.Strings.AsciiSet
import Derived.Shelf.Strings.IndexAnyAll
import Derived.Shelf.Bits.Mul64
import Derived.Shelf.Strings.Repeat
import Derived.Shelf.Unicode.DecodeSlow
import Derived.Shelf.Unicode.DecodeAny
import Derived.Shelf.Unicode.DecodeLast
import Derived.Shelf.Strings.BuilderCap
import Derived.Test.YtjghbcjnplcleaaGreatDoorProg
import Derived.Shelf.Strings.SlTrimAscii
import Derived.Deep.QuietTactic
import Derived.BigQuiet
import Derived.Deep.DeepCutAuto
import Derived.StillTail
import Derived.Laws.BytesString
import Derived.Laws.Slices
import Derived.Carry
import Derived.ChangeSlices
import Derived.Lib.ConvBytes
import Derived.Laws.AppendOwn
import Derived.Laws.CopyRow
import Derived.Deep.MidRow
import Derived.Lib.SliceRun
import Derived.Recover
import Derived.Lib.AppendZerosOnto
import Derived.Laws.OwnMore
import Derived.Deep.Slices
import Derived.ProofKit
import Derived.OpenShut
import Derived.Lib.FrozenHead
import Derived.Lib.AppendStr
import Derived.Test.YtjghbcjnplcleaaGreatDoorCards
import Derived.Test.YtjghbcjnplcleaaGreatDoorTie
import Derived.Deep.DeepHandedRow
import Derived.Lib.LaidTab
namespace Go.Proofs.YtjghbcjnplcleaaGreatDoor
open Go.Proofs.Tryz
open Go.RowKit
theorem listP_adv {obj : Nat → ObjE} {l : List UInt8} (hobj : ∀ t o t', t < l.length → obj t = .ok (o, t') → t < t' ∧ t' ≤ l.length) : ∀ (f : Nat) (acc : List PV) (t : Nat) (os : List PV) (t' : Nat), t ≤ l.length → listP obj l f acc t = .ok (os, t') → t < t' ∧ t' ≤ l.length
 | 0, _, _, _, _, _, h => by cases h
 | f + 1, acc, t, os, t', ht, h => by
  have hs := skipAt_ge l t ht
  simp only [listP] at h
  cases hg : l[skipAt false l t]? with
  | none => rw [hg] at h; cases h
  | some c =>
   obtain ⟨hlt, -⟩ := List.getElem?_eq_some_iff.1 hg
   rw [hg] at h
   simp only at h
   split at h
   ·
    cases h; omega
   ·
    split at h
    ·
     cases h
    ·
     cases ho : obj (skipAt false l t) with
     | error k => rw [ho] at h; cases h
     | ok a =>
      obtain ⟨o, t1⟩ := a
      rw [ho] at h
      have h1 := hobj _ _ _ hlt ho
      have h2 := listP_adv hobj f _ _ _ _ h1.2 h
      omega
theorem pairsP_adv {obj : Nat → ObjE} {l : List UInt8} (hobj : ∀ t o t', t < l.length → obj t = .ok (o, t') → t < t' ∧ t' ≤ l.length) : ∀ (f : Nat) (ks : List (List UInt8)) (acc : List PV) (t : Nat) (ks' : List (List UInt8)) (os : List PV) (t' : Nat), t ≤ l.length → pairsP obj l f ks acc t = .ok (ks', os, t') → t < t' ∧ t' ≤ l.length
 | 0, _, _, _, _, _, _, _, h => by cases h
 | f + 1, ks, acc, t, ks', os, t', ht, h => by
  have hs := skipAt_ge l t ht
  simp only [pairsP] at h
  cases hg : l[skipAt false l t]? with
  | none => rw [hg] at h; cases h
  | some c =>
   obtain ⟨hlt, -⟩ := List.getElem?_eq_some_iff.1 hg
   rw [hg] at h
   simp only at h
   split at h
   ·
    cases h
   ·
    split at h
    ·
     next hq =>
     obtain ⟨h2, -⟩ := List.getElem?_eq_some_iff.1 hq.2
     cases h; omega
    ·
     split at h
     ·
      cases h
     ·
      cases hn : nameP l (skipAt false l t + 1) with
      | error k => rw [hn] at h; cases h
      | ok a =>
       obtain ⟨k, t1⟩ := a
       rw [hn] at h
       have hle := nameP_le (by omega) hn
       simp only at h
       split at h
       ·
        cases h
       ·
        split at h
        ·
         cases h
        ·
         have hs1 := skipAt_ge l t1 hle.2
         cases hg1 : l[skipAt false l t1]? with
         | none => rw [hg1] at h; cases h
         | some c1 =>
          obtain ⟨hlt1, -⟩ := List.getElem?_eq_some_iff.1 hg1
          rw [hg1] at h
          simp only at h
          cases ho : obj (skipAt false l t1) with
          | error k => rw [ho] at h; cases h
          | ok a =>
           obtain ⟨o, t2⟩ := a
           rw [ho] at h
           have h1 := hobj _ _ _ hlt1 ho
           have h2 := pairsP_adv hobj f _ _ _ _ _ _ h1.2 h
           omega
theorem textR_adv {l : List UInt8} {t : Nat} {s : List UInt8} {t' : Nat} (ht : t ≤ l.length) (h : textR l t = .ok (s, t')) : t < t' ∧ t' ≤ l.length := by
 have hst := nextR_step l t ht
 unfold textR at h
 split at h
 ·
  cases h
 ·
  split at h
  ·
   cases h
  ·
   split at h
   ·
    cases h
   ·
    cases h; omega
theorem word_pos {l : List UInt8} {t : Nat} (ht : t ≤ l.length) (h : wordL l t ≠ []) : t < wordAt l t ∧ wordAt l t ≤ l.length := by
 have h1 := wordAt_le l t ht
 refine ⟨?_, h1.2⟩
 rcases Nat.lt_or_ge t (wordAt l t) with h2 | h2
 ·
  exact h2
 ·
  exact absurd (by unfold wordL; rw [show wordAt l t - t = 0 by omega, List.take_zero]) h
theorem numR_nil : (numR []).2.2 = false := by kernel_rfl
theorem refR_nil (refs : Bool) (l : List UInt8) (t : Nat) : (refR refs l [] t).isSome = false := by
 unfold refR
 have : (wholeV [] 4096).2 = false := by rfl
 rw [this]; simp
theorem refT_adv {refs : Bool} {l s : List UInt8} {t : Nat} (ht : t ≤ l.length) : t ≤ refT (refR refs l s t) t ∧ refT (refR refs l s t) t ≤ l.length := by
 have h1 := skipAt_ge l t ht
 have h2 := skipAt_le false l t
 have h3 := wordAt_le l _ h2
 have h4 := skipAt_ge l _ h3.2
 have h5 := skipAt_le false l (wordAt l (skipAt false l t))
 have h6 := wordAt_le l _ h5
 unfold refR
 split
 ·
  split
  ·
   split
   ·
    show t ≤ wordAt l _ ∧ wordAt l _ ≤ l.length
    omega
   ·
    exact ⟨Nat.le_refl _, ht⟩
  ·
   exact ⟨Nat.le_refl _, ht⟩
 ·
  exact ⟨Nat.le_refl _, ht⟩
theorem plexW_adv {refs : Bool} {l : List UInt8} {t : Nat} (ht : t < l.length) (h : (plexW refs l t).ok = true) : t < (plexW refs l t).np ∧ (plexW refs l t).np ≤ l.length := by
  by_cases hw : wordL l t = []
  · exfalso
    unfold plexW at h
    rw [hw, refR_nil, numR_nil] at h
    simp at h
  · have h1 := word_pos (by omega) hw
    have h2 := refT_adv (refs := refs) (s := wordL l t) h1.2
    unfold plexW
    split
    · exact h1
    · split
      · exact h1
      · split
        · exact h1
        · split
          · exact ⟨by show t < refT _ _; omega, h2.2⟩
          · split
            · exact h1
            · exact h1
theorem objP_adv (refs : Bool) (l : List UInt8) : ∀ (d t : Nat) (o : PV) (t' : Nat), t < l.length → objP refs l d t = .ok (o, t') → t < t' ∧ t' ≤ l.length := by
 have hname : ∀ t (o : PV) t', t < l.length → nameO l (t + 1) = .ok (o, t') → t < t' ∧ t' ≤ l.length := fun t o t' ht h => by
  unfold nameO at h
  cases hn : nameP l (t + 1) with
  | error k => rw [hn] at h; cases h
  | ok a =>
   obtain ⟨k, t1⟩ := a
   rw [hn] at h
   have hle := nameP_le (by omega) hn
   cases h; omega
 have htext : ∀ t (o : PV) t', t < l.length → textP l t = .ok (o, t') → t < t' ∧ t' ≤ l.length := fun t o t' ht h => by
  unfold textP at h
  cases hn : textR l t with
  | error k => rw [hn] at h; cases h
  | ok a =>
   obtain ⟨k, t1⟩ := a
   rw [hn] at h
   have hle := textR_adv (by omega) hn
   cases h; exact hle
 have hplain : ∀ t (o : PV) t', t < l.length → plainO (plexW refs l t) = .ok (o, t') → t < t' ∧ t' ≤ l.length := fun t o t' ht h => by
  unfold plainO at h
  split at h
  ·
   next hok => have := plexW_adv ht hok; cases h; exact this
  ·
   cases h
 intro d
 induction d with
 | zero =>
  intro t o t' ht h
  simp only [objP] at h
  rw [List.getElem?_eq_getElem ht] at h
  simp only at h
  split at h
  ·
   exact hname t o t' ht h
  ·
   split at h
   ·
    cases h
   ·
    split at h
    ·
     exact htext t o t' ht h
    ·
     split at h
     ·
      split at h
      ·
       cases h
      ·
       split at h
       ·
        exact htext t o t' ht h
       ·
        cases h
     ·
      exact hplain t o t' ht h
 | succ d ih =>
  intro t o t' ht h
  simp only [objP] at h
  rw [List.getElem?_eq_getElem ht] at h
  simp only at h
  split at h
  ·
   exact hname t o t' ht h
  ·
   split at h
   ·
    unfold listO at h
    cases hn : listP (objP refs l d) l (l.length + 1) [] (t + 1) with
    | error k => rw [hn] at h; cases h
    | ok a =>
     obtain ⟨os, t1⟩ := a
     rw [hn] at h
     have := listP_adv ih _ _ _ _ _ (by omega) hn
     cases h; omega
   ·
    split at h
    ·
     exact htext t o t' ht h
    ·
     split at h
     ·
      split at h
      ·
       cases h
      ·
       split at h
       ·
        exact htext t o t' ht h
       ·
        unfold pairsO at h
        cases hn : pairsP (objP refs l d) l (l.length + 1) [] [] (t + 2) with
        | error k => rw [hn] at h; cases h
        | ok a =>
         obtain ⟨ks, os, t1⟩ := a
         rw [hn] at h
         have := pairsP_adv ih _ _ _ _ _ _ _ (by omega) hn
         cases h; omega
     ·
      exact hplain t o t' ht h
theorem objP_at (refs : Bool) (l : List UInt8) (d : Int) (t : Nat) (x : UInt8) (h : l[t]? = some x) : objP refs l d.toNat t =
    if x = 47 then nameO l (t + 1)
    else if x = 91 then (if d < 1 then .error 25 else listO (listP (objP refs l (d - 1).toNat) l (l.length + 1) [] (t + 1)))
    else if x = 40 then textP l t
    else if x = 60 then (if l.length ≤ t + 1 then .error 24 else if l[t + 1]? ≠ some 60 then textP l t else if d < 1 then .error 25 else pairsO (pairsP (objP refs l (d - 1).toNat) l (l.length + 1) [] [] (t + 2)))
    else plainO (plexW refs l t) := by
  by_cases hd : d < 1
  · rw [show d.toNat = 0 by omega, if_pos hd]
    simp only [objP, h]
    rw [if_pos hd]
  · rw [show d.toNat = (d - 1).toNat + 1 by omega, if_neg hd]
    simp only [objP, h]
    rw [if_neg hd]
/-- what is said of object at depth D holds -/
theorem plex_object (p : Option Addr) (l : List UInt8) (c : Nat) (refs : Bool) (hc : l.length ≤ c) (hl : l.length ≤ 100000000) (D : Int) (hD : -9223372036854775808 < D ∧ D ≤ 1000000000) (hO : 1 ≤ D → ObjC p l c refs (D - 1)) : ObjC p l c refs D := by
 intro r t w h hne ht
 have hr := h.1
 have hb := h.2
 obtain ⟨X, hX⟩ : ∃ X, X = objP refs l D.toNat t := ⟨_, rfl⟩
 rw [← hX]
 have hg : l[t]? = some l[t] := List.getElem?_eq_getElem ht
 rw [objP_at refs l D t l[t] hg] at hX
 obtain ⟨Wd, hWd⟩ : ∃ Wd, Wd = plexW refs l t := ⟨_, rfl⟩
 have hWc : ∀ w1, PRd w1 r p l c t refs → Calls Tryz.prog 48 #[.pointer (some ⟨r, 0, none⟩)] w1 fun e w' => e = .returned Wd.val ∧ PRd w' r p l c Wd.np refs ∧ Touch w1.heap.size r w1 w' := fun w1 h1 => by rw [hWd]; exact plex_word r p l c t refs w1 h1 hne hc hl (by omega)
 rw [← hWd] at hX
 refine W.enter func43 rfl ntmps43 (Nat.le_of_ble_eq_true rfl) ?_
 have hB0 := Touch.refl (w.heap.size) r w
 refine W.seq <| W.reg <| WL.alloc zeroValue31 rfl (fun b1 wb1 eb1 hkb1 hub1 hsb1 => ?_)
 have hl3 : r < b1 := by rw [eb1]; exact hr.lt
 have hk2 := hr.upd hub1 (Nat.ne_of_lt hl3)
 have hvl5 := fun h0 => eb1 ▸ hb.lt h0
 have hv4 := BytesAt.upd hb hub1 (fun h0 => Nat.ne_of_lt (hvl5 h0))
 have hgeb1 : w.heap.size ≤ b1 := by rw [eb1]; exact hB0.size
 have hB6 := Touch.trans hB0 (Touch.of_new hub1 hgeb1)
 refine WL.nil <| ?_
 refine W.seq <| W.seq ?_
 have hrB : r < b1 := by have := hr.lt; omega
 refine W.regQ mixed (by kernel_rfl) ?_
 refine WQ.p (.mv rfl) rfl <| WQ.p (.nck rfl) rfl <| WQ.p (.fa underlying63 rfl sizeOf22 (by decide) rfl) rfl <| WQ.r (fun m => Rd.ld (isAgg22 _) rfl hk2 rfl) rfl <| WQ.p (.mv rfl) rfl <| WQ.p (.nck rfl) rfl <| WQ.p (.fa underlying63 rfl sizeOf3 (by decide) rfl) rfl <| WQ.r (fun m => Rd.ld (isAgg3 _) rfl hk2 rfl) rfl <| WQ.p (.ixb underlying22 sizeOf5 rfl rfl (hv4.isp (by omega)) (t) (rfl) (ht)) rfl <| WQ.r (fun m => Rd.iis ((l[t].toNat : Int)) (Rd.ldc (isAgg5 _) rfl ((hv4.drewN m).cells (t) (by omega))) (by omega)) rfl <| WQ.p (.as rfl) rfl <| WQ.nil (fun w7 dw7 => ?_)
 have hk8 := hk2.drew dw7
 have hk9 := hkb1.drew dw7
 have hv10 := hv4.drew dw7
 have hB11 := Touch.trans hB6 (Touch.of_drew dw7)
 refine W.seq <| W.reg <| WL.p (.mv rfl) rfl <| WL.nil <| ?_
 refine W.block <| W.seq <| W.reg <| WL.p (.eql rfl rfl) rfl <| WL.p (.as rfl) rfl <| WL.nil <| ?_
 refine W.cond rfl (fun h12 => ?_) (fun h12 => ?_)
 ·
  have h12' := of_decide_eq_true h12
  have h47 : l[t] = 47 := u8_eq (by assumption)
  rw [if_pos h47] at hX
  refine W.seq <| W.reg <| WL.p (.mv rfl) rfl <| WL.p (.nck rfl) rfl <| WL.p (.fa underlying63 rfl sizeOf3 (by decide) rfl) rfl <| WL.r (Rd.ld (isAgg3 _) rfl hk8 rfl) rfl <| WL.p (.iis (((t + 1 : Nat) : Int)) (.add rfl rfl (i64w (by omega))) (by omega)) rfl <| WL.p (.nck rfl) rfl <| WL.p (.fa underlying63 rfl sizeOf3 (by decide) rfl) rfl <| WL.st sizeOf3 rfl rfl rfl hk8 (by first | decide | exact Nat.le_of_ble_eq_true rfl) (fun w13 hkw13 huw13 hsw13 => ?_)
  have hkw13 : Blk w13 r _ _ := hkw13
  have huw13 : Upd r _ _ := huw13
  have hk14 := hk9.upd huw13 (by ((try simp only) <;> omega))
  have hv15 := BytesAt.upd hv10 huw13 hne
  have hB16 := Touch.trans hB11 (Touch.of_upd huw13)
  refine WL.nil <| ?_
  refine W.seq <| W.reg <| WL.p (.mv rfl) rfl <| WL.ce hb67 rfl rfl ((plex_name r p l c (t + 1) refs _ ⟨hkw13, hv15⟩ hne hc hl (by omega))) (fun k19 w17 hrw17 hw17 => ?_) (fun a18 w17 hrw17 hw17 => ?_)
  ·
   skip
   have hBew17 := Touch.trans hB16 (Touch.mono hw17 hB16.size)
   exact pn_is (EndsV.err k19 (by rw [hX]; unfold nameO; rw [hrw17]) hBew17)
  have hk20 := hw17.1.1
  have hk21 := Blk.touch hk14 hw17.2 hk14.lt (by omega)
  have hv22 := hw17.1.2
  have hB23 := Touch.trans hB16 (Touch.mono hw17.2 hB16.size)
  have hra := hrw17
  obtain ⟨sN, tN⟩ := a18
  refine WL.p (.buildL (ps := _) blt31 rfl rfl rfl (by simp only [put1, List.map, List.zip, List.zipWith, List.set] <;> rfl)) rfl ?_
  refine WL.stL rfl rfl hk21 isz31 rfl rfl (fun w24 hkw24 huw24 hsw24 => ?_)
  have hk25 := hk20.upd huw24 (by ((try simp only) <;> omega))
  have hv26 := BytesAt.upd hv22 huw24 (fun h0 => Nat.ne_of_lt (hvl5 h0))
  have hB27 := Touch.trans hB23 (Touch.of_new huw24 (by omega))
  refine WL.nil <| ?_
  refine W.ret (W.retc1 rfl rfl (ldRow hkw24 underlying31 rfl isz31)  ?_)
  exact EndsV.ok (pv0 4 0 sN, tN) _ (by rw [hX]; unfold nameO; rw [hra]) rfl ⟨pc0 4 0 sN, rfl, PRep.zero _ _ _ _ _, ⟨hk25, hv26⟩, hB27⟩
 have h12' := of_decide_eq_false h12
 have h47 : l[t] ≠ 47 := u8_ne (d := 47) (by assumption)
 rw [if_neg h47] at hX
 refine W.seq <| W.reg <| WL.p (.eql rfl rfl) rfl <| WL.p (.as rfl) rfl <| WL.nil <| ?_
 refine W.cond rfl (fun h28 => ?_) (fun h28 => ?_)
 ·
  have h28' := of_decide_eq_true h28
  have h91 : l[t] = 91 := u8_eq (by assumption)
  rw [if_pos h91] at hX
  refine W.seq <| W.seq <| W.reg <| WL.p (.mv rfl) rfl <| WL.p (.lss rfl rfl) rfl <| WL.nil <| ?_
  refine W.cond rfl (fun h29 => ?_) (fun h29 => ?_)
  ·
   have h29' := of_decide_eq_true h29
   refine W.reg <| WL.cp hb68 rfl ((plex_fail 25 _)) (fun w30 hw30 => ?_)
   obtain rfl := hw30
   exact pn_is (EndsV.err 25 (by rw [hX, if_pos (by omega)]) hB11)
  have h29' := of_decide_eq_false h29
  refine W.skip <| W.seq <| W.reg <| WL.p (.mv rfl) rfl <| WL.p (.nck rfl) rfl <| WL.p (.fa underlying63 rfl sizeOf3 (by decide) rfl) rfl <| WL.r (Rd.ld (isAgg3 _) rfl hk8 rfl) rfl <| WL.p (.iis (((t + 1 : Nat) : Int)) (.add rfl rfl (i64w (by omega))) (by omega)) rfl <| WL.p (.nck rfl) rfl <| WL.p (.fa underlying63 rfl sizeOf3 (by decide) rfl) rfl <| WL.st sizeOf3 rfl rfl rfl hk8 (by first | decide | exact Nat.le_of_ble_eq_true rfl) (fun w31 hkw31 huw31 hsw31 => ?_)
  have hkw31 : Blk w31 r _ _ := hkw31
  have huw31 : Upd r _ _ := huw31
  have hk32 := hk9.upd huw31 (by ((try simp only) <;> omega))
  have hv33 := BytesAt.upd hv10 huw31 hne
  have hB34 := Touch.trans hB11 (Touch.of_upd huw31)
  refine WL.nil <| ?_
  refine W.seq <| W.reg <| WL.p (.mv rfl) rfl <| WL.p (.mv rfl) rfl <| WL.p (.sub rfl rfl (i64w (by omega))) rfl <| WL.cx hb69 rfl rfl ((plex_list p l c refs (D - 1) (hO (by omega)) (objP_adv refs l _) r (t + 1) _ ⟨hkw31, hv33⟩ hne hl (by omega))) (fun k37 w35 hrw35 hw35 => ?_) (fun a36 x38 w35 hrw35 hw35 => ?_)
  ·
   skip
   have hBew35 := Touch.trans hB34 (Touch.mono hw35 hB34.size)
   exact pn_is (EndsV.err k37 (by rw [hX, if_neg (by omega), hrw35]) hBew35)
  have hrr := hrw35
  obtain ⟨oX, tX⟩ := a36
  obtain ⟨x1, rfl, hpx, hrd1, hT1⟩ := hw35
  have hpx1 := hpx.mono (T := fun k => b1 < k ∧ w.heap.size ≤ k) (fun k hk _ => by have h1 := (hk32).lt; have h2 := hB34.size; omega)
  have hk11 := Blk.touch hk32 hT1 (hk32).lt (by omega)
  have hB1 := Touch.trans hB34 (Touch.mono hT1 hB34.size)
  have hr1 := hrd1.1
  have hv1 := hrd1.2
  refine WL.stL rfl rfl hk11 isz31 rfl rfl (fun w39 hkw39 huw39 hsw39 => ?_)
  have hF40 := PRep.same (w1 := w39) hpx1 (fun k hk hl => huw39.other k (by first | ((try simp only) <;> omega) | (have := hk.1; ((try simp only) <;> omega))))
  have hk41 := hr1.upd huw39 (by ((try simp only) <;> omega))
  have hv42 := BytesAt.upd hv1 huw39 (fun h0 => Nat.ne_of_lt (hvl5 h0))
  have hB43 := Touch.trans hB1 (Touch.of_new huw39 (by omega))
  refine WL.nil <| ?_
  refine W.ret (W.retc1 rfl rfl (ldRow hkw39 underlying31 rfl isz31)  ?_)
  exact EndsV.ok (oX, tX) _ (by rw [hX, if_neg (by omega), hrr]) rfl ⟨x1, rfl, (hF40).mono (fun k hk _ => hk.2), ⟨hk41, hv42⟩, hB43⟩
 have h28' := of_decide_eq_false h28
 have h91 : l[t] ≠ 91 := u8_ne (d := 91) (by assumption)
 rw [if_neg h91] at hX
 refine W.seq <| W.reg <| WL.p (.eql rfl rfl) rfl <| WL.p (.as rfl) rfl <| WL.nil <| ?_
 refine W.cond rfl (fun h44 => ?_) (fun h44 => ?_)
 ·
  have h44' := of_decide_eq_true h44
  have h40 : l[t] = 40 := u8_eq (by assumption)
  rw [if_pos h40] at hX
  refine W.seq <| W.reg <| WL.p (.mv rfl) rfl <| WL.ce hb70 rfl rfl ((plex_text r p l c t refs _ ⟨hk8, hv10⟩ hne hc hl ht)) (fun k47 w45 hrw45 hw45 => ?_) (fun a46 w45 hrw45 hw45 => ?_)
  ·
   skip
   have hBew45 := Touch.trans hB11 (Touch.mono hw45 hB11.size)
   exact pn_is (EndsV.err k47 (by rw [hX]; unfold textP; rw [hrw45]) hBew45)
  have hk48 := hw45.1.1
  have hk49 := Blk.touch hk9 hw45.2 hk9.lt (by omega)
  have hv50 := hw45.1.2
  have hB51 := Touch.trans hB11 (Touch.mono hw45.2 hB11.size)
  have hra := hrw45
  obtain ⟨sN, tN⟩ := a46
  refine WL.stL rfl rfl hk49 isz31 rfl rfl (fun w52 hkw52 huw52 hsw52 => ?_)
  have hk53 := hk48.upd huw52 (by ((try simp only) <;> omega))
  have hv54 := BytesAt.upd hv50 huw52 (fun h0 => Nat.ne_of_lt (hvl5 h0))
  have hB55 := Touch.trans hB51 (Touch.of_new huw52 (by omega))
  refine WL.nil <| ?_
  refine W.ret (W.retc1 rfl rfl (ldRow hkw52 underlying31 rfl isz31)  ?_)
  exact EndsV.ok (pv0 5 0 sN, tN) _ (by rw [hX]; unfold textP; rw [hra]) rfl ⟨pc0 5 0 sN, rfl, PRep.zero _ _ _ _ _, ⟨hk53, hv54⟩, hB55⟩
 have h44' := of_decide_eq_false h44
 have h40 : l[t] ≠ 40 := u8_ne (d := 40) (by assumption)
 rw [if_neg h40] at hX
 refine W.seq <| W.reg <| WL.p (.eql rfl rfl) rfl <| WL.p (.as rfl) rfl <| WL.nil <| ?_
 refine W.cond rfl (fun h56 => ?_) (fun h56 => ?_)
 ·
  have h56' := of_decide_eq_true h56
  have h60 : l[t] = 60 := u8_eq (by assumption)
  rw [if_pos h60] at hX
  refine W.seq <| W.seq <| W.regQ mixed (by kernel_rfl) ?_
  refine WQ.p (.mv rfl) rfl <| WQ.p (.nck rfl) rfl <| WQ.p (.fa underlying63 rfl sizeOf3 (by decide) rfl) rfl <| WQ.r (fun m => Rd.ld (isAgg3 _) rfl hk8 rfl) rfl <| WQ.p (.iis ((t : Int) + 1) (.add rfl rfl (i64w (by omega))) (by omega)) rfl <| WQ.p (.mv rfl) rfl <| WQ.p (.nck rfl) rfl <| WQ.p (.fa underlying63 rfl sizeOf22 (by decide) rfl) rfl <| WQ.r (fun m => Rd.ld (isAgg22 _) rfl hk8 rfl) rfl <| WQ.p (.lenS underlying22 rfl) rfl <| WQ.p (.geq rfl rfl) rfl <| WQ.nil (fun w57 dw57 => ?_)
  have hk58 := hk8.drew dw57
  have hk59 := hk9.drew dw57
  have hv60 := hv10.drew dw57
  have hB61 := Touch.trans hB11 (Touch.of_drew dw57)
  refine W.cond rfl (fun h62 => ?_) (fun h62 => ?_)
  ·
   have h62' := of_decide_eq_true h62
   refine W.reg <| WL.cp hb68 rfl ((plex_fail 24 _)) (fun w63 hw63 => ?_)
   obtain rfl := hw63
   exact pn_is (EndsV.err 24 (by rw [hX, if_pos (by omega)]) hB61)
  have h62' := of_decide_eq_false h62
  have hlt1 : t + 1 < l.length := by omega
  have hg1 : l[t + 1]? = some l[t + 1] := List.getElem?_eq_getElem hlt1
  refine W.skip <| W.seq <| W.seq <| W.regQ mixed (by kernel_rfl) ?_
  refine WQ.p (.mv rfl) rfl <| WQ.p (.nck rfl) rfl <| WQ.p (.fa underlying63 rfl sizeOf22 (by decide) rfl) rfl <| WQ.r (fun m => Rd.ld (isAgg22 _) rfl hk58 rfl) rfl <| WQ.p (.mv rfl) rfl <| WQ.p (.nck rfl) rfl <| WQ.p (.fa underlying63 rfl sizeOf3 (by decide) rfl) rfl <| WQ.r (fun m => Rd.ld (isAgg3 _) rfl hk58 rfl) rfl <| WQ.p (.iis (((t + 1 : Nat) : Int)) (.add rfl rfl (i64w (by omega))) (by omega)) rfl <| WQ.p (.ixb underlying22 sizeOf5 rfl rfl (hv60.isp (by omega)) (t + 1) (by omega) (by omega)) rfl <| WQ.r (fun m => Rd.ldc (isAgg5 _) rfl ((hv60.drewN m).cells (t + 1) (by omega))) rfl <| WQ.p (.neq rfl rfl) rfl <| WQ.nil (fun w64 dw64 => ?_)
  have hk65 := hk58.drew dw64
  have hk66 := hk59.drew dw64
  have hv67 := hv60.drew dw64
  have hB68 := Touch.trans hB61 (Touch.of_drew dw64)
  refine W.cond rfl (fun h69 => ?_) (fun h69 => ?_)
  ·
   have h69' := ndT h69
   refine W.seq <| W.reg <| WL.p (.mv rfl) rfl <| WL.ce hb70 rfl rfl ((plex_text r p l c t refs _ ⟨hk65, hv67⟩ hne hc hl ht)) (fun k72 w70 hrw70 hw70 => ?_) (fun a71 w70 hrw70 hw70 => ?_)
   ·
    skip
    have hBew70 := Touch.trans hB68 (Touch.mono hw70 hB68.size)
    exact pn_is (EndsV.err k72 (by rw [hX, if_neg (by omega), if_pos (by rw [hg1]; exact fun e => u8_ne (d := 60) (by assumption) (Option.some.inj e))]; unfold textP; rw [hrw70]) hBew70)
   have hk73 := hw70.1.1
   have hk74 := Blk.touch hk66 hw70.2 hk66.lt (by omega)
   have hv75 := hw70.1.2
   have hB76 := Touch.trans hB68 (Touch.mono hw70.2 hB68.size)
   have hra := hrw70
   obtain ⟨sN, tN⟩ := a71
   refine WL.stL rfl rfl hk74 isz31 rfl rfl (fun w77 hkw77 huw77 hsw77 => ?_)
   have hk78 := hk73.upd huw77 (by ((try simp only) <;> omega))
   have hv79 := BytesAt.upd hv75 huw77 (fun h0 => Nat.ne_of_lt (hvl5 h0))
   have hB80 := Touch.trans hB76 (Touch.of_new huw77 (by omega))
   refine WL.nil <| ?_
   refine W.ret (W.retc1 rfl rfl (ldRow hkw77 underlying31 rfl isz31)  ?_)
   exact EndsV.ok (pv0 5 0 sN, tN) _ (by rw [hX, if_neg (by omega), if_pos (by rw [hg1]; exact fun e => u8_ne (d := 60) (by assumption) (Option.some.inj e))]; unfold textP; rw [hra]) rfl ⟨pc0 5 0 sN, rfl, PRep.zero _ _ _ _ _, ⟨hk78, hv79⟩, hB80⟩
  have h69' := ndF h69
  refine W.skip <| W.seq <| W.seq <| W.reg <| WL.p (.mv rfl) rfl <| WL.p (.lss rfl rfl) rfl <| WL.nil <| ?_
  refine W.cond rfl (fun h81 => ?_) (fun h81 => ?_)
  ·
   have h81' := of_decide_eq_true h81
   refine W.reg <| WL.cp hb68 rfl ((plex_fail 25 _)) (fun w82 hw82 => ?_)
   obtain rfl := hw82
   exact pn_is (EndsV.err 25 (by rw [hX, if_neg (by omega), if_neg (fun e => e (by rw [hg1, show l[t + 1] = 60 from u8_eq (d := 60) (by assumption)])), if_pos (by omega)]) hB68)
  have h81' := of_decide_eq_false h81
  refine W.skip <| W.seq <| W.reg <| WL.p (.mv rfl) rfl <| WL.p (.nck rfl) rfl <| WL.p (.fa underlying63 rfl sizeOf3 (by decide) rfl) rfl <| WL.r (Rd.ld (isAgg3 _) rfl hk65 rfl) rfl <| WL.p (.iis (((t + 2 : Nat) : Int)) (.add rfl rfl (i64w (by omega))) (by omega)) rfl <| WL.p (.nck rfl) rfl <| WL.p (.fa underlying63 rfl sizeOf3 (by decide) rfl) rfl <| WL.st sizeOf3 rfl rfl rfl hk65 (by first | decide | exact Nat.le_of_ble_eq_true rfl) (fun w83 hkw83 huw83 hsw83 => ?_)
  have hkw83 : Blk w83 r _ _ := hkw83
  have huw83 : Upd r _ _ := huw83
  have hk84 := hk66.upd huw83 (by ((try simp only) <;> omega))
  have hv85 := BytesAt.upd hv67 huw83 hne
  have hB86 := Touch.trans hB68 (Touch.of_upd huw83)
  refine WL.nil <| ?_
  refine W.seq <| W.reg <| WL.p (.mv rfl) rfl <| WL.p (.mv rfl) rfl <| WL.p (.sub rfl rfl (i64w (by omega))) rfl <| WL.cx hb71 rfl rfl ((plex_pairs p l c refs (D - 1) (hO (by omega)) (objP_adv refs l _) r (t + 2) _ ⟨hkw83, hv85⟩ hne hc hl (by omega))) (fun k89 w87 hrw87 hw87 => ?_) (fun a88 x90 w87 hrw87 hw87 => ?_)
  ·
   skip
   have hBew87 := Touch.trans hB86 (Touch.mono hw87 hB86.size)
   exact pn_is (EndsV.err k89 (by rw [hX, if_neg (by omega), if_neg (fun e => e (by rw [hg1, show l[t + 1] = 60 from u8_eq (d := 60) (by assumption)])), if_neg (by omega), hrw87]) hBew87)
  have hrr := hrw87
  obtain ⟨oX, tX⟩ := a88
  obtain ⟨x1, rfl, hpx, hrd1, hT1⟩ := hw87
  have hpx1 := hpx.mono (T := fun k => b1 < k ∧ w.heap.size ≤ k) (fun k hk _ => by have h1 := (hk84).lt; have h2 := hB86.size; omega)
  have hk11 := Blk.touch hk84 hT1 (hk84).lt (by omega)
  have hB1 := Touch.trans hB86 (Touch.mono hT1 hB86.size)
  have hr1 := hrd1.1
  have hv1 := hrd1.2
  refine WL.stL rfl rfl hk11 isz31 rfl rfl (fun w91 hkw91 huw91 hsw91 => ?_)
  have hF92 := PRep.same (w1 := w91) hpx1 (fun k hk hl => huw91.other k (by first | ((try simp only) <;> omega) | (have := hk.1; ((try simp only) <;> omega))))
  have hk93 := hr1.upd huw91 (by ((try simp only) <;> omega))
  have hv94 := BytesAt.upd hv1 huw91 (fun h0 => Nat.ne_of_lt (hvl5 h0))
  have hB95 := Touch.trans hB1 (Touch.of_new huw91 (by omega))
  refine WL.nil <| ?_
  refine W.ret (W.retc1 rfl rfl (ldRow hkw91 underlying31 rfl isz31)  ?_)
  exact EndsV.ok (oX, tX) _ (by rw [hX, if_neg (by omega), if_neg (fun e => e (by rw [hg1, show l[t + 1] = 60 from u8_eq (d := 60) (by assumption)])), if_neg (by omega), hrr]) rfl ⟨x1, rfl, (hF92).mono (fun k hk _ => hk.2), ⟨hk93, hv94⟩, hB95⟩
 have h56' := of_decide_eq_false h56
 have h60 : l[t] ≠ 60 := u8_ne (d := 60) (by assumption)
 rw [if_neg h60] at hX
 refine W.skip <| W.seq <| W.reg <| WL.p (.mv rfl) rfl <| WL.c1 hb48 rfl rfl ((hWc _ ⟨hk8, hv10⟩)) (fun w96 hw96 => ?_)
 have hk97 := hw96.1.1
 have hk98 := Blk.touch hk9 hw96.2 hk9.lt (by omega)
 have hv99 := hw96.1.2
 have hB100 := Touch.trans hB11 (Touch.mono hw96.2 hB11.size)
 refine WL.p (.mv rfl) rfl <| WL.p (.ext rfl rfl) rfl <| WL.p (.ext rfl rfl) rfl <| WL.p (.ext rfl rfl) rfl <| WL.alloc zeroValue31 rfl (fun b101 wb101 eb101 hkb101 hub101 hsb101 => ?_)
 have hl103 : r < b101 := by rw [eb101]; exact hk97.lt
 have hk102 := hk97.upd hub101 (Nat.ne_of_lt hl103)
 have hl105 : b1 < b101 := by rw [eb101]; exact hk98.lt
 have hk104 := hk98.upd hub101 (Nat.ne_of_lt hl105)
 have hvl107 := fun h0 => eb101 ▸ hv99.lt h0
 have hv106 := BytesAt.upd hv99 hub101 (fun h0 => Nat.ne_of_lt (hvl107 h0))
 have hgeb101 : w.heap.size ≤ b101 := by rw [eb101]; exact hB100.size
 have hB108 := Touch.trans hB100 (Touch.of_new hub101 hgeb101)
 refine WL.stL rfl rfl hkb101 isz31 rfl rfl (fun w109 hkw109 huw109 hsw109 => ?_)
 have hk110 := hk102.upd huw109 (by ((try simp only) <;> omega))
 have hk111 := hk104.upd huw109 (by ((try simp only) <;> omega))
 have hv112 := BytesAt.upd hv106 huw109 (fun h0 => Nat.ne_of_lt (hvl107 h0))
 have hB113 := Touch.trans hB108 (Touch.of_new huw109 (by omega))
 refine WL.p (.as rfl) rfl <| WL.p (.as rfl) rfl <| WL.nil <| ?_
 refine W.seq <| W.seq <| W.reg <| WL.p (.mv rfl) rfl <| WL.p (.not rfl) rfl <| WL.nil <| ?_
 refine W.cond rfl (fun h114 => ?_) (fun h114 => ?_)
 ·
  have h114' := (nT h114)
  refine W.reg <| WL.cp hb68 rfl ((plex_fail 23 _)) (fun w115 hw115 => ?_)
  obtain rfl := hw115
  exact pn_is (EndsV.err 23 (by rw [hX]; unfold plainO; rw [if_neg (bF (by assumption))]) hB113)
 have h114' := (nF h114)
 refine W.skip <| W.seq <| W.reg <| WL.r (Rd.ldA rfl hkw109 underlying31 rfl isz31) rfl <| WL.stL rfl rfl hk111 isz31 rfl rfl (fun w116 hkw116 huw116 hsw116 => ?_)
 have hk117 := hk110.upd huw116 (by ((try simp only) <;> omega))
 have hv119 := BytesAt.upd hv112 huw116 (fun h0 => Nat.ne_of_lt (hvl5 h0))
 have hB120 := Touch.trans hB113 (Touch.of_new huw116 (by omega))
 refine WL.nil <| ?_
 refine W.ret (W.retc1 rfl rfl (ldRow hkw116 underlying31 rfl isz31)  ?_)
 exact EndsV.ok (pv0 Wd.kind Wd.n [], Wd.np) _ (by rw [hX]; unfold plainO; rw [if_pos (by assumption)]) rfl ⟨pc0 Wd.kind Wd.n [], rfl, PRep.zero _ _ _ _ _, ⟨hk117, hv119⟩, hB120⟩
end Go.Proofs.YtjghbcjnplcleaaGreatDoor

namespace Go.Proofs.YtjghbcjnplcleaaGreatDoor
open Go.Proofs.Tryz
/-- the number that digits write -/
def valD : List Nat → Nat
 | [] => 0
 | x :: r => x * 10 ^ r.length + valD r
theorem valD_lt (d : List Nat) (h : ∀ x ∈ d, x < 10) : valD d < 10 ^ d.length := by
 induction d with
 | nil => simp [valD]
 | cons x r ih =>
  have h1 := ih fun y hy => h y (by simp [hy])
  have h2 := h x (by simp)
  rw [valD, List.length_cons, Nat.pow_succ]
  have h3 : x * 10 ^ r.length ≤ 9 * 10 ^ r.length := Nat.mul_le_mul_right _ (by omega)
  omega
theorem valD_append (a b : List Nat) : valD (a ++ b) = valD a * 10 ^ b.length + valD b := by
 induction a with
 | nil => simp [valD]
 | cons x r ih =>
  rw [List.cons_append, valD, valD, ih, List.length_append, Nat.pow_add, Nat.add_mul, Nat.mul_assoc, Nat.add_assoc]
theorem valD_zeros (k : Nat) : valD (List.replicate k 0) = 0 := by
 induction k with
 | zero => rfl
 | succ k ih => rw [List.replicate_succ, valD, ih]; simp
theorem dbl_val (d : List Nat) : valD (dbl d).1 + (dbl d).2 * 10 ^ d.length = 2 * valD d := by
 induction d with
 | nil => rfl
 | cons x r ih =>
  have hl := dbl_len r
  simp only [dbl, valD, hl, List.length_cons, Nat.pow_succ]
  have h1 : (2 * x + (dbl r).2) % 10 + 10 * ((2 * x + (dbl r).2) / 10) = 2 * x + (dbl r).2 := Nat.mod_add_div _ _
  have h2 : ((2 * x + (dbl r).2) % 10) * 10 ^ r.length + (2 * x + (dbl r).2) / 10 * (10 ^ r.length * 10) = (2 * x + (dbl r).2) * 10 ^ r.length := by
   conv => rhs; rw [← h1, Nat.add_mul]
   rw [Nat.mul_comm (10 ^ r.length) 10, ← Nat.mul_assoc, Nat.mul_comm _ 10]
  have h3 : (2 * x + (dbl r).2) * 10 ^ r.length = 2 * (x * 10 ^ r.length) + (dbl r).2 * 10 ^ r.length := by rw [Nat.add_mul, Nat.mul_assoc]
  omega
theorem rounds_len (k : Nat) : ∀ (n : Int) (d : List Nat), (rounds k n d).2.length = d.length := by
 induction k with
 | zero => intro n d; rfl
 | succ k ih => intro n d; rw [rounds, ih, dbl_len]
theorem rounds_val (k : Nat) : ∀ (n : Nat) (d : List Nat), ∃ m : Nat, (rounds k (n : Int) d).1 = (m : Int) ∧ m * 10 ^ d.length + valD (rounds k (n : Int) d).2 = 2 ^ k * (n * 10 ^ d.length + valD d) := by
 induction k with
 | zero => intro n d; exact ⟨n, rfl, by simp [rounds]⟩
 | succ k ih =>
  intro n d
  obtain ⟨m, h1, h2⟩ := ih (2 * n + (dbl d).2) (dbl d).1
  rw [dbl_len] at h2
  have hv := dbl_val d
  have hc : ((2 * n + (dbl d).2 : Nat) : Int) = 2 * (n : Int) + ((dbl d).2 : Int) := by omega
  rw [rounds, ← hc]
  refine ⟨m, h1, h2.trans ?_⟩
  rw [Nat.pow_succ, Nat.mul_assoc]
  congr 1
  rw [Nat.add_mul, Nat.mul_assoc]
  omega
theorem natOf_valD (l : List UInt8) : natOf l = valD (digitsOf l) := by
 have key : ∀ (l : List UInt8) (n : Nat), l.foldl (fun n c => 10 * n + (c.toNat - 48)) n = n * 10 ^ l.length + valD (digitsOf l) := by
  intro l
  induction l with
  | nil => intro n; simp [digitsOf, valD]
  | cons c r ih =>
   intro n
   have hl : (digitsOf r).length = r.length := digitsOf_len r
   have hd : digitsOf (c :: r) = (c.toNat - 48) :: digitsOf r := rfl
   rw [List.foldl_cons, ih, hd, valD, hl, List.length_cons, Nat.pow_succ, Nat.add_mul, Nat.mul_comm 10 n, Nat.mul_assoc, Nat.mul_comm 10 (10 ^ r.length), Nat.add_assoc]
 have := key l 0
 rw [Nat.zero_mul, Nat.zero_add] at this
 exact this
/-- digits behind the point that are exactly so many of 65536 -/
theorem rawL_exact (W R : List UInt8) (N f : Nat) (hW : ∀ c ∈ W, isDig c = true) (hN : natOf W = N) (hN5 : N ≤ 99999) (hR : ∀ c ∈ R, isDig c = true) (hv : valD (digitsOf R) * 65536 = f * 10 ^ R.length) :
  rawL W R = some ((N * 65536 + f : Nat) : Int) := by
 have ht : ¬ 5 < (W.dropWhile (· == 48)).length := fun h => by have := (trim_long W hW).1 h; omega
 unfold rawL
 rw [if_neg ht, natOf_trim, hN]
 obtain ⟨m, h1, h2⟩ := rounds_val 16 N (digitsOf R)
 have hd := rounds_digits 16 (N : Int) (digitsOf R) (digitsOf_lt R hR)
 have hl := rounds_len 16 (N : Int) (digitsOf R)
 have hlt := valD_lt _ hd
 rw [digitsOf_len] at h2 hl
 rw [hl] at hlt
 have hv2 := dbl_val (rounds 16 (N : Int) (digitsOf R)).2
 rw [hl] at hv2
 generalize (rounds 16 (N : Int) (digitsOf R)).2 = D at *
 generalize hP : 10 ^ R.length = P at *
 have hP0 : 0 < P := by rw [← hP]; exact Nat.pow_pos (by decide)
 have e : m * P + valD D = (N * 65536 + f) * P := by
  rw [h2, Nat.add_mul, ← hv]
  have : (2 : Nat) ^ 16 = 65536 := by decide
  rw [this, Nat.mul_add, ← Nat.mul_assoc, Nat.mul_comm 65536 N, Nat.mul_comm 65536 (valD _)]
 have hm : m = N * 65536 + f := by
  have a : (m * P + valD D) / P = m := by rw [Nat.mul_comm, Nat.mul_add_div hP0, Nat.div_eq_of_lt hlt]; rfl
  have b : ((N * 65536 + f) * P) / P = N * 65536 + f := Nat.mul_div_cancel _ hP0
  rw [← a, e, b]
 have hD : valD D = 0 := by rw [hm] at e; omega
 have hc : (dbl D).2 = 0 := by
  rw [hD] at hv2
  rcases Nat.eq_zero_or_pos (dbl D).2 with h | h
  ·
   exact h
  ·
   have := Nat.mul_le_mul_right P h; omega
 rw [h1, hc, hm, Int.natCast_zero, Int.add_zero]
theorem isDig_ch (k : Nat) (h : k < 10) : isDig (ch (48 + (k : Int))) = true ∧ (ch (48 + (k : Int))).toNat = 48 + k := by
 have e : (ch (48 + (k : Int))).toNat = 48 + k := by
  unfold ch
  rw [show (48 + (k : Int)).toNat = 48 + k by omega, UInt8.toNat_ofNat']
  omega
 exact ⟨by unfold isDig; rw [e, decide_eq_true (show 48 ≤ 48 + k by omega), decide_eq_true (show 48 + k ≤ 57 by omega)]; rfl, e⟩
theorem fracK_val (k : Nat) : ∀ f : Nat, k ≤ 16 → f < 65536 → 2 ^ (16 - k) ∣ f → (∀ c ∈ fracK k f, isDig c = true) ∧ valD (digitsOf (fracK k f)) * 65536 = f * 10 ^ (fracK k f).length := by
 induction k with
 | zero =>
  intro f _ hf hd
  obtain ⟨c, hc⟩ := hd
  have : f = 0 := by simp at hc; omega
  subst this
  exact ⟨by simp [fracK], by simp [fracK, digitsOf, valD]⟩
 | succ k ih =>
  intro f hk hf hd
  rw [fracK]
  split
  ·
   next h => subst h; exact ⟨by simp, by simp [digitsOf, valD]⟩
  ·
   have h1 : 2 ^ (16 - k) ∣ f * 10 := by
    have e : 16 - k = (16 - (k + 1)) + 1 := by omega
    rw [e, Nat.pow_succ]
    exact Nat.mul_dvd_mul hd ⟨5, rfl⟩
   have h2 : 2 ^ (16 - k) ∣ 65536 := by
    rw [show (65536 : Nat) = 2 ^ 16 from rfl]
    exact Nat.pow_dvd_pow 2 (by omega)
   obtain ⟨i1, i2⟩ := ih (f * 10 % 65536) (by omega) (by omega) ((Nat.dvd_mod_iff h2).2 h1)
   obtain ⟨c1, c2⟩ := isDig_ch (f * 10 / 65536) (by omega)
   refine ⟨fun c hc => ?_, ?_⟩
   ·
    rcases List.mem_cons.1 hc with rfl | hc
    ·
     exact c1
    ·
     exact i1 c hc
   ·
    have hd2 : digitsOf (ch (48 + ((f * 10 / 65536 : Nat) : Int)) :: fracK k (f * 10 % 65536)) = (f * 10 / 65536) :: digitsOf (fracK k (f * 10 % 65536)) := by
     show (_ - 48) :: _ = _
     rw [c2]; congr 1; omega
    rw [hd2, valD, digitsOf_len, List.length_cons, Nat.pow_succ]
    generalize valD (digitsOf (fracK k (f * 10 % 65536))) = V at *
    generalize 10 ^ (fracK k (f * 10 % 65536)).length = P at *
    have hm := Nat.mod_add_div (f * 10) 65536
    generalize f * 10 % 65536 = r at *
    generalize f * 10 / 65536 = q at *
    rw [Nat.add_mul, i2, Nat.mul_comm P 10, ← Nat.mul_assoc, ← hm, Nat.add_mul, Nat.mul_right_comm, Nat.mul_comm q 65536]
    omega
theorem fracL_val (f : Nat) (h : f < 65536) : (∀ c ∈ fracL f, isDig c = true) ∧ valD (digitsOf (fracL f)) * 65536 = f * 10 ^ (fracL f).length :=
 fracK_val 16 f (by omega) h (by simp)
theorem digitsL_val (n : Nat) : (∀ c ∈ digitsL n, isDig c = true) ∧ natOf (digitsL n) = n ∧ digitsL n ≠ [] := by
  induction n using Nat.strongRecOn with
  | _ n ih =>
    by_cases h : n < 10
    · rw [digitsL_lt n h]
      obtain ⟨c1, c2⟩ := isDig_ch n h
      exact ⟨by simpa using c1, by simp [natOf, c2], by simp⟩
    · rw [digitsL_ge n (by omega)]
      obtain ⟨i1, i2, i3⟩ := ih (n / 10) (by omega)
      obtain ⟨c1, c2⟩ := isDig_ch (n % 10) (by omega)
      refine ⟨fun c hc => ?_, ?_, by simp⟩
      · rcases List.mem_append.1 hc with hc | hc
        · exact i1 c hc
        · rw [List.mem_singleton.1 hc]; exact c1
      · rw [natOf_snoc, i2, c2]; omega
/-- digits, then noughts -/
theorem digitsOf_append (a b : List UInt8) : digitsOf (a ++ b) = digitsOf a ++ digitsOf b := by simp [digitsOf]
theorem digitsOf_zeros (k : Nat) : digitsOf (List.replicate k 48) = List.replicate k 0 := by simp [digitsOf]
theorem val_zeros (R : List UInt8) (f k : Nat) (h : valD (digitsOf R) * 65536 = f * 10 ^ R.length) : valD (digitsOf (R ++ List.replicate k 48)) * 65536 = f * 10 ^ (R ++ List.replicate k 48).length := by
 rw [digitsOf_append, digitsOf_zeros, valD_append, valD_zeros, Nat.add_zero, List.length_append, List.length_replicate, List.length_replicate, Nat.pow_add, ← Nat.mul_assoc, ← h, Nat.mul_right_comm]
theorem natOf_zeros (k : Nat) (W : List UInt8) : natOf (List.replicate k 48 ++ W) = natOf W := by
 rw [natOf_valD, natOf_valD, digitsOf_append, digitsOf_zeros, valD_append, valD_zeros, Nat.zero_mul, Nat.zero_add]
theorem dig_zeros (k : Nat) (c : UInt8) (h : c ∈ List.replicate k (48 : UInt8)) : isDig c = true := by
 rw [List.mem_replicate] at h; rw [h.2]; rfl
/-- a sign, or none -/
def sgn (m : Option Bool) : List UInt8 := match m with | none => [] | some true => [45] | some false => [43]
def neg (m : Option Bool) : Bool := match m with | some true => true | _ => false
theorem signedL_sgn (m : Option Bool) (l : List UInt8) (h : ∀ c r, l = c :: r → isDig c = true) : signedL (sgn m ++ l) = (neg m, l) := by
 match m with
 | some true => rfl
 | some false => rfl
 | none =>
  cases l with
  | nil => rfl
  | cons c r => exact signedL_dig c r (h c r rfl)
theorem head_dig (W X : List UInt8) (hW : ∀ c ∈ W, isDig c = true) (h0 : W ≠ []) : ∀ c r, W ++ X = c :: r → isDig c = true := by
 intro c r e
 cases W with
 | nil => exact absurd rfl h0
 | cons d W =>
  simp only [List.cons_append, List.cons.injEq] at e
  rw [← e.1]; exact hW d (by simp)
theorem notdot (W : List UInt8) (hW : ∀ c ∈ W, isDig c = true) : 46 ∉ W := fun h => absurd (hW 46 h) (by decide)
theorem mant_dot (W R : List UInt8) (hW : ∀ c ∈ W, isDig c = true) (hR : ∀ c ∈ R, isDig c = true) (h0 : W ≠ []) : mantOk (W ++ 46 :: R) = true := by
 have hl : 0 < W.length := List.length_pos_iff.2 h0
 unfold mantOk
 rw [cutDot_yes R W (notdot W hW)]
 simp only [Bool.and_eq_true, List.all_eq_true, decide_eq_true_eq]
 exact ⟨⟨hW, hR⟩, by omega⟩
/-- the number of digits with a point -/
theorem parseL_dot (m : Option Bool) (W R : List UInt8) (N f : Nat) (hW : ∀ c ∈ W, isDig c = true) (h0 : W ≠ []) (hR : ∀ c ∈ R, isDig c = true) (hN : natOf W = N) (hN5 : N ≤ 99999)
  (hv : valD (digitsOf R) * 65536 = f * 10 ^ R.length) (hfit : fitsB (if neg m then -((N * 65536 + f : Nat) : Int) else ((N * 65536 + f : Nat) : Int)) = true) :
  parseL (sgn m ++ (W ++ 46 :: R)) = (if neg m then -((N * 65536 + f : Nat) : Int) else ((N * 65536 + f : Nat) : Int), true) := by
 rw [parseL_eq, signedL_sgn m _ (head_dig W _ hW h0)]
 simp only
 rw [mant_dot W R hW hR h0, if_pos rfl, cutDot_yes R W (notdot W hW)]
 simp only
 rw [rawL_exact W R N f hW hN hN5 hR hv]
 unfold signL2
 simp only [hfit, if_true]
/-- a number's sign and its two parts -/
theorem signL_sgn (n : Int) : signL n = sgn (if n < 0 then some true else none) := by unfold signL sgn; split <;> rfl
theorem neg_of (n : Int) : (if neg (if n < 0 then some true else none) then -((n.natAbs / 65536 * 65536 + n.natAbs % 65536 : Nat) : Int) else ((n.natAbs / 65536 * 65536 + n.natAbs % 65536 : Nat) : Int)) = n := by
 have h : n.natAbs / 65536 * 65536 + n.natAbs % 65536 = n.natAbs := by omega
 rw [h]
 by_cases hn : n < 0
 ·
  rw [if_pos hn]; simp only [neg, if_true]; omega
 ·
  rw [if_neg hn]; simp only [neg, Bool.false_eq_true, if_false]; omega
theorem realL_form (n : Int) : ∃ R, realL n = sgn (if n < 0 then some true else none) ++ (wholeL n ++ 46 :: R) ∧ R ≠ [] ∧ R.length ≤ 16 ∧ (∀ c ∈ R, isDig c = true) ∧ valD (digitsOf R) * 65536 = (n.natAbs % 65536) * 10 ^ R.length := by
  obtain ⟨h1, h2⟩ := fracL_val (n.natAbs % 65536) (by omega)
  unfold realL
  rw [signL_sgn]
  by_cases h0 : restL n = []
  · refine ⟨[48], by rw [if_pos h0]; simp, by simp, by simp, by simp; decide, ?_⟩
    rw [(restL_iff n).1 h0]; simp [digitsOf, valD]
  · refine ⟨restL n, by rw [if_neg h0]; simp, h0, fracL_len _, h1, h2⟩
theorem wholeL_facts (n : Int) (h1 : -2147483648 ≤ n) (h2 : n ≤ 2147483647) : (∀ c ∈ wholeL n, isDig c = true) ∧ wholeL n ≠ [] ∧ natOf (wholeL n) = n.natAbs / 65536 ∧ n.natAbs / 65536 ≤ 99999 ∧ (wholeL n).length ≤ 5 := by
 obtain ⟨a, b, c⟩ := digitsL_val (n.natAbs / 65536)
 exact ⟨a, c, b, by omega, digitsL_len 4 _ (by omega)⟩
/-- what dec.PrintReal writes, with noughts ahead and behind, and with a sign of whatever kind -/
theorem parse_real (m : Option Bool) (n : Int) (a k : Nat) (h1 : -2147483648 ≤ n) (h2 : n ≤ 2147483647) (R : List UInt8) (hR : ∀ c ∈ R, isDig c = true) (hv : valD (digitsOf R) * 65536 = (n.natAbs % 65536) * 10 ^ R.length) (hm : neg m = decide (n < 0)) :
  parseL (sgn m ++ ((List.replicate a 48 ++ wholeL n) ++ 46 :: (R ++ List.replicate k 48))) = (n, true) := by
 obtain ⟨w1, w2, w3, w4, w5⟩ := wholeL_facts n h1 h2
 have hn : (if neg m then -((n.natAbs / 65536 * 65536 + n.natAbs % 65536 : Nat) : Int) else ((n.natAbs / 65536 * 65536 + n.natAbs % 65536 : Nat) : Int)) = n := by
  have := neg_of n
  rw [hm]
  by_cases h : n < 0
  ·
   rw [if_pos h] at this; rw [decide_eq_true h]; exact this
  ·
   rw [if_neg h] at this; rw [decide_eq_false h]; exact this
 rw [parseL_dot m _ _ (n.natAbs / 65536) (n.natAbs % 65536) (fun c hc => (List.mem_append.1 hc).elim (dig_zeros a c) (w1 c)) (by simp [w2]) (fun c hc => (List.mem_append.1 hc).elim (hR c) (dig_zeros k c)) (by rw [natOf_zeros, w3]) w4 (val_zeros R _ k hv) (by rw [hn]; exact fitsB_yes h1 h2), hn]
end Go.Proofs.YtjghbcjnplcleaaGreatDoor

namespace Go.Proofs.YtjghbcjnplcleaaGreatDoor
open Go.Proofs.Tryz
/-- an object with its data -/
inductive AV where
 | mk (kind n : Int) (text : List UInt8) (keys : List (List UInt8)) (list : List AV) (data : List UInt8)
def AV.kind : AV → Int | .mk k _ _ _ _ _ => k
def AV.n : AV → Int | .mk _ n _ _ _ _ => n
def AV.text : AV → List UInt8 | .mk _ _ t _ _ _ => t
def AV.keys : AV → List (List UInt8) | .mk _ _ _ ks _ _ => ks
def AV.list : AV → List AV | .mk _ _ _ _ l _ => l
def AV.data : AV → List UInt8 | .mk _ _ _ _ _ d => d
mutual
/-- an object without its data -/
def pvO : AV → PV
 | .mk k n t ks l _ => .mk k n t ks (pvL l)
def pvL : List AV → List PV
 | [] => []
 | o :: r => pvO o :: pvL r
end
theorem pvL_map : ∀ l : List AV, pvL l = l.map pvO
 | [] => by simp [pvL]
 | o :: r => by rw [pvL, pvL_map r]; rfl
/-- a byte of a name, as it is written -/
def needHash (c : UInt8) : Bool := decide (c.toNat < 33) || decide (126 < c.toNat) || c == 35 || delimB c
def nmE (c : UInt8) : List UInt8 := if needHash c then [35, hexDigits[c.toNat / 16]!, hexDigits[c.toNat % 16]!] else [c]
def nmT (s : List UInt8) : List UInt8 := 47 :: s.flatMap nmE
/-- a byte of a string, as it is written -/
def txE (c : UInt8) : List UInt8 := if c = 40 ∨ c = 41 ∨ c = 92 then [92, c] else if c.toNat < 32 ∨ 126 < c.toNat then octE c else [c]
def txT (s : List UInt8) : List UInt8 := 40 :: (s.flatMap txE ++ [41])
/-- a stream's end -/
def strmE (d : List UInt8) : List UInt8 := [32, 47, 76, 101, 110, 103, 116, 104, 32] ++ decL (d.length : Int) ++ [32, 62, 62, 10, 115, 116, 114, 101, 97, 109, 10] ++ d ++ [10, 101, 110, 100, 115, 116, 114, 101, 97, 109]
mutual
/-- an object as it is written -/
def prO : AV → List UInt8
 | .mk k n t ks l d =>
  if k = 0 then [110, 117, 108, 108]
  else if k = 1 then (if n = 1 then [116, 114, 117, 101] else [102, 97, 108, 115, 101])
  else if k = 2 then decL n
  else if k = 3 then realL (norm n)
  else if k = 4 then nmT t
  else if k = 5 then txT t
  else if k = 8 then decL n ++ [32, 48, 32, 82]
  else if k = 6 then 91 :: ((prB l).drop 1 ++ [93])
  else 60 :: 60 :: (prP ks l ++ (if k = 7 then [32, 62, 62] else strmE d))
/-- objects, each with a blank ahead -/
def prB : List AV → List UInt8
 | [] => []
 | o :: r => 32 :: (prO o ++ prB r)
/-- names and objects, each with a blank ahead -/
def prP : List (List UInt8) → List AV → List UInt8
 | k :: ks, o :: r => 32 :: (nmT k ++ 32 :: (prO o ++ prP ks r))
 | _, _ => []
end
theorem prB_append : ∀ a b : List AV, prB (a ++ b) = prB a ++ prB b
 | [], b => by simp [prB]
 | o :: r, b => by rw [List.cons_append, prB, prB, prB_append r b]; simp
theorem prB_snoc (a : List AV) (o : AV) : prB (a ++ [o]) = prB a ++ 32 :: prO o := by rw [prB_append]; simp [prB]
/-- may it be a name -/
def nmOk (s : List UInt8) : Prop := s ≠ [] ∧ 0 ∉ s ∧ s.length ≤ 127
/-- is an object sound, so deep at most, with streams, if so -/
inductive Snd : Int → Bool → AV → Prop
 | null (D : Int) (st : Bool) : Snd D st (.mk 0 0 [] [] [] [])
 | bool (D : Int) (st : Bool) (n : Int) (h : n = 0 ∨ n = 1) : Snd D st (.mk 1 n [] [] [] [])
 | num (D : Int) (st : Bool) (k n : Int) (hk : k = 2 ∨ k = 3) (h : fitsB n = true) : Snd D st (.mk k n [] [] [] [])
 | name (D : Int) (st : Bool) (t : List UInt8) (h : nmOk t) : Snd D st (.mk 4 0 t [] [] [])
 | text (D : Int) (st : Bool) (t : List UInt8) (h : t.length ≤ 65535) : Snd D st (.mk 5 0 t [] [] [])
 | ref (D : Int) (st : Bool) (n : Int) (h : 1 ≤ n ∧ n ≤ 4096) : Snd D st (.mk 8 n [] [] [] [])
 | arr (D : Int) (st : Bool) (l : List AV) (hD : 1 ≤ D) (hl : l.length ≤ 65535) (h : ∀ o ∈ l, Snd (D - 1) false o) : Snd D st (.mk 6 0 [] [] l [])
 | dict (D : Int) (st : Bool) (k : Int) (ks : List (List UInt8)) (l : List AV) (d : List UInt8) (hk : (k = 7 ∧ d = []) ∨ (k = 9 ∧ st = true ∧ d.length ≤ 1048576 ∧ [76, 101, 110, 103, 116, 104] ∉ ks)) (hD : 1 ≤ D) (hl : l.length ≤ 65535) (hkl : ks.length = l.length)
   (hn : ∀ x ∈ ks, nmOk x) (hnd : ks.Nodup) (h : ∀ o ∈ l, Snd (D - 1) false o) : Snd D st (.mk k 0 [] ks l d)
theorem snd_no9 {D : Int} {o : AV} (h : Snd D false o) : o.kind ≠ 9 := by
 cases h with
 | null => simp [AV.kind]
 | bool _ _ n h => simp [AV.kind]
 | num _ _ k n hk h => rcases hk with rfl | rfl <;> simp [AV.kind]
 | name _ _ t h => simp [AV.kind]
 | text _ _ t h => simp [AV.kind]
 | ref _ _ n h => simp [AV.kind]
 | arr _ _ l hD hl h => simp [AV.kind]
 | dict _ _ k ks l d hk hD hl hkl hn hnd h => rcases hk with ⟨rfl, -⟩ | ⟨-, h, -⟩; simp [AV.kind]; cases h
mutual
/-- how many lists are within one another -/
def dpO : AV → Nat
 | .mk k _ _ _ l _ => if k = 6 ∨ k = 7 then dpL l + 1 else 0
def dpL : List AV → Nat
 | [] => 0
 | o :: r => max (dpO o) (dpL r)
end
mutual
/-- how many values and letters -/
def bkO : AV → Nat
 | .mk _ _ t ks l d => t.length + bkK ks + bkL l + d.length + 7
def bkL : List AV → Nat
 | [] => 0
 | o :: r => bkO o + bkL r
def bkK : List (List UInt8) → Nat
 | [] => 0
 | k :: r => k.length + 1 + bkK r
end
theorem nmE_len (c : UInt8) : (nmE c).length ≤ 3 := by unfold nmE; split <;> simp
theorem txE_len (c : UInt8) : (txE c).length ≤ 4 := by unfold txE octE; split <;> (try split) <;> simp
theorem flat_len {f : UInt8 → List UInt8} {k : Nat} (hf : ∀ c, (f c).length ≤ k) : ∀ s : List UInt8, (s.flatMap f).length ≤ k * s.length
 | [] => by simp
 | c :: s => by
  have h1 := hf c; have h2 := flat_len hf s
  rw [List.flatMap_cons, List.length_append, List.length_cons, Nat.mul_add, Nat.mul_one]; omega
theorem decL_len (n : Int) (h : -9223372036854775808 ≤ n) (h' : n ≤ 9223372036854775807) : (decL n).length ≤ 21 := by
 have := decL_size n h h'
 rwa [bs_size] at this
theorem realL_len (n : Int) : (realL (norm n)).length ≤ 40 := by
 have h1 : (signL (norm n)).length ≤ 1 := by unfold signL; split <;> simp
 have h2 : (wholeL (norm n)).length ≤ 20 := by have := wholeL_size (norm n) (norm_lo n) (norm_hi n); rwa [bs_size] at this
 have h3 : (restL (norm n)).length ≤ 16 := fracL_len _
 unfold realL
 simp only [List.length_append, List.length_cons]
 split <;> simp <;> omega
theorem fitsB_i {n : Int} (h : fitsB n = true) : -2147483648 ≤ n ∧ n ≤ 2147483647 := by simpa [fitsB] using h
theorem norm_fits {n : Int} (h : fitsB n = true) : norm n = n := by unfold norm; rw [if_pos h]
theorem prB_len : ∀ l : List AV, (∀ o ∈ l, (prO o).length + 100 ≤ 40 * bkO o) → (prB l).length ≤ 40 * bkL l
 | [], _ => by simp [prB]
 | o :: r, h => by
  have h1 := h o (by simp)
  have h2 := prB_len r fun x hx => h x (by simp [hx])
  rw [prB, bkL, List.length_cons, List.length_append]; omega
theorem prP_len : ∀ (ks : List (List UInt8)) (l : List AV), (∀ o ∈ l, (prO o).length + 100 ≤ 40 * bkO o) → (prP ks l).length ≤ 40 * bkL l + 40 * bkK ks
 | k :: ks, o :: r, h => by
  have h1 := h o (by simp)
  have h2 := prP_len ks r fun x hx => h x (by simp [hx])
  have h3 := flat_len nmE_len k
  simp only [prP, bkL, bkK, nmT, List.length_cons, List.length_append]; omega
 | [], _, _ => by simp [prP]
 | _ :: _, [], _ => by simp [prP]
/-- what is written is no longer than so many times what there is -/
theorem pr_len {D : Int} {st : Bool} {o : AV} (h : Snd D st o) : (prO o).length + 100 ≤ 40 * bkO o := by
 induction h with
 | null D st => simp [prO, bkO, bkK, bkL]
 | bool D st n h => rcases h with rfl | rfl <;> simp [prO, bkO, bkK, bkL]
 | num D st k n hk h =>
  have hf := fitsB_i h
  have h1 := decL_len n (by omega) (by omega)
  have h2 := realL_len n
  rcases hk with rfl | rfl <;> simp [prO, bkO, bkK, bkL] <;> omega
 | name D st t h =>
  have h1 := flat_len nmE_len t
  have e : prO (.mk 4 0 t [] [] []) = nmT t := by simp [prO]
  rw [e, bkO, bkK, bkL]
  simp only [nmT, List.length_cons, List.length_nil]; omega
 | text D st t h =>
  have h1 := flat_len txE_len t
  have e : prO (.mk 5 0 t [] [] []) = txT t := by simp [prO]
  rw [e, bkO, bkK, bkL]
  simp only [txT, List.length_cons, List.length_append, List.length_nil]; omega
 | ref D st n h =>
  have h1 := decL_len n (by omega) (by omega)
  simp [prO, bkO, bkK, bkL]; omega
 | arr D st l hD hl h ih =>
  have h1 := prB_len l ih
  simp [prO, bkO, bkK]; omega
 | dict D st k ks l d hk hD hl hkl hn hnd h ih =>
  have h1 := prP_len ks l ih
  have h2 : d.length ≤ 1048576 := by rcases hk with ⟨-, rfl⟩ | h; simp; exact h.2.2.1
  have h3 := decL_len (d.length : Int) (by omega) (by omega)
  rcases hk with ⟨rfl, rfl⟩ | ⟨rfl, -⟩
  ·
   simp [prO, bkO]; omega
  ·
   simp [prO, bkO, strmE]; omega
end Go.Proofs.YtjghbcjnplcleaaGreatDoor

namespace Go.Proofs.YtjghbcjnplcleaaGreatDoor
open Go.Proofs.Tryz
open Go.ChangeShapes Go.WideShapes Go.ChangeAt Go.RowKit
/-- what is known of a slice's length and room -/
structure SlOk {α : Type} (p : Option Addr) (l : List α) (c : Nat) : Prop where
 le : l.length ≤ c
 cap : c ≤ maxLen
 nil : l = [] → c = 0 ∨ p ≠ none
 none : p = none → l = [] ∧ c = 0
theorem SlOk.z {α : Type} : SlOk (α := α) Option.none [] 0 := ⟨Nat.le_refl _, by unfold maxLen; omega, fun _ => .inl rfl, fun _ => ⟨rfl, rfl⟩⟩
theorem list_choose {α : Type} (P : Nat → α → Prop) : ∀ n, (∀ i, i < n → ∃ o, P i o) → ∃ l : List α, l.length = n ∧ ∀ i (h : i < l.length), P i l[i]
  | 0, _ => ⟨[], rfl, fun i h => by simp at h⟩
  | n + 1, h => by
    obtain ⟨l, hl, hp⟩ := list_choose P n (fun i hi => h i (by omega))
    obtain ⟨o, ho⟩ := h n (by omega)
    refine ⟨l ++ [o], by simp [hl], fun i hi => ?_⟩
    rw [List.length_append, List.length_singleton] at hi
    rcases Nat.lt_or_ge i l.length with h1 | h1
    · rw [List.getElem_append_left h1]; exact hp i h1
    · obtain rfl : i = l.length := by omega
      rw [List.getElem_append_right (Nat.le_refl _)]
      simp only [Nat.sub_self, List.getElem_cons_zero]
      rw [hl]; exact ho
def DLen {H : Type} (d : DataW H) (n : Nat) : Prop := n = 0 ∨ ∃ elems spare, d = .slice elems spare ∧ n = elems.length
abbrev intV (k : Int) : Value := .int .i64 k
section
variable {H : Type} {enc : TypeId × Value → H} {P : Program} {w : World} {base : Nat} {sp : Nat → Bool} {held : Bool} {fuel : Nat} {t e : TypeId} {cs : List Value} {x : DataW H × List MemPlace} {α : Type}
theorem open_rowAt {V : α → Value} {Ok : α → Prop} (hu : P.underlying t = some (.slice e)) (hc : P.cellsOf e = 1) (hel : ∀ {n v x}, DataW.trod enc P w base sp held n e [v] = some x → ∃ o, v = V o ∧ Ok o)
    (h : DataW.trod enc P w base sp held fuel t cs = some x) : ∃ p l c, cs = [.slice p (l : List α).length c] ∧ RowAt V w p l ∧ SlOk p l c ∧ (∀ y ∈ l, Ok y) ∧ DLen x.1 l.length := by
  rcases Go.Deep.open_slice1 hu hc h with ⟨rfl, rfl⟩ | ⟨a, len, cap, k, n, F, D, Pl, rfl, -, hl, hm, hk, rfl, hx⟩
  · exact ⟨none, [], 0, rfl, RowAt.nil w, .z, fun y hy => by simp at hy, .inl rfl⟩
  · have hlk : len ≤ k := by rw [hk]; split <;> omega
    obtain ⟨l, hll, hp⟩ := list_choose (fun i o => w.cell? (a.add i) = some (V o) ∧ Ok o) len (fun i hi => by
      obtain ⟨h1, h2⟩ := hx i (by omega)
      obtain ⟨o, ho, hk⟩ := hel h2
      exact ⟨o, by rw [h1, ho], hk⟩)
    refine ⟨some a, l, cap, by rw [hll], ⟨fun _ => rfl, fun j hj => (hp j hj).1⟩, ⟨by omega, hm, fun _ => .inr (by simp), fun h => by cases h⟩, fun y hy => ?_, .inr ⟨_, _, rfl, by simp [hll]⟩⟩
    obtain ⟨i, hi, rfl⟩ := List.getElem_of_mem hy
    exact (hp i hi).2
theorem open_ints (hu : P.underlying t = some (.slice e)) (he : P.underlying e = some (.int .i64)) (hc : P.cellsOf e = 1)
  (h : DataW.trod enc P w base sp held fuel t cs = some x) : ∃ p l c, cs = [.slice p (l : List Int).length c] ∧ RowAt intV w p l ∧ SlOk p l c ∧ (∀ y ∈ l, (Lit.int .i64 y).wf = true) ∧ DLen x.1 l.length :=
 open_rowAt hu hc (fun {n v x} h => by
  obtain ⟨a, e, -, w⟩ := DataW.trod_int he h
  simp only [List.cons.injEq, and_true] at e
  exact ⟨a, e, w⟩) h
end
theorem wf64 {n : Int} (h : (Lit.int .i64 n).wf = true) : -9223372036854775808 ≤ n ∧ n ≤ 9223372036854775807 := by
 simp only [Lit.wf, Bool.and_eq_true, decide_eq_true_eq] at h; exact h
end Go.Proofs.YtjghbcjnplcleaaGreatDoor

namespace Go.Proofs.YtjghbcjnplcleaaGreatDoor
open Go.Proofs.Tryz
open Go.ChangeShapes Go.WideShapes Go.ChangeAt Go.RowKit
/-- an object's cells -/
structure AC where
 kind : Int
 n : Int
 text : List UInt8
 kp : Option Addr
 kl : Nat
 kc : Nat
 lp : Option Addr
 ll : Nat
 lc : Nat
 dp : Option Addr
 dl : Nat
 dc : Nat
def acV (x : AC) : List Value := [.int .i64 x.kind, .int .i64 x.n, .string (bs x.text), .slice x.kp x.kl x.kc, .slice x.lp x.ll x.lc, .slice x.dp x.dl x.dc]
def acL : Lay AC := ⟨6, acV, by decide, fun _ => rfl, fun x u hu => List.all_eq_true.1 (show (acV x).all Value.oneCell' = true from rfl) u hu⟩
/-- lengths and numbers are what Go's are -/
structure ACok (x : AC) (nk nl nd : Nat) : Prop where
 n : -9223372036854775808 ≤ x.n ∧ x.n ≤ 9223372036854775807
 text : x.text.length ≤ 9223372036854775807
 kl : x.kl = nk
 ll : x.ll = nl
 dl : x.dl = nd
 kc : nk ≤ x.kc
 lc : nl ≤ x.lc
 dc : nd ≤ x.dc
 km : x.kc ≤ 9223372036854775807
 lm : x.lc ≤ 9223372036854775807
 dm : x.dc ≤ 9223372036854775807
/-- cells that hold an object; the rows that it leads to lie in blocks of S -/
inductive ARep (w : World) (S : Nat → Prop) : AC → AV → Prop
 | mk (x : AC) (keys : List (List UInt8)) (list : List AV) (data : List UInt8) (cs : List AC) (ok : ACok x keys.length cs.length data.length) (hkl : ∀ k ∈ keys, k.length ≤ 9223372036854775807)
   (hk : RowAt strV w x.kp keys) (hks : 0 < keys.length → S (pA x.kp).block) (hr : RowM acL w x.lp cs) (hrs : 0 < cs.length → S (pA x.lp).block)
   (hd : BytesAt w x.dp data) (hds : 0 < data.length → S (pA x.dp).block) (hlen : cs.length = list.length)
   (hsub : ∀ i (h : i < cs.length) (h2 : i < list.length), ARep w S cs[i] list[i]) : ARep w S x (.mk x.kind x.n x.text keys list data)
theorem RowAt.same {α : Type} {V : α → Value} {w w1 : World} {p : Option Addr} {l : List α} (h : RowAt V w p l) (hb : 0 < l.length → w1.heap[(pA p).block]? = w.heap[(pA p).block]?) : RowAt V w1 p l :=
 ⟨h.isp, fun j hj => by rw [World.cell?_of_block (w := w) (by rw [add_block]; exact hb (by omega))]; exact h.cells j hj⟩
theorem BytesAt.same {w w1 : World} {p : Option Addr} {l : List UInt8} (h : BytesAt w p l) (hb : 0 < l.length → w1.heap[(pA p).block]? = w.heap[(pA p).block]?) : BytesAt w1 p l :=
 ⟨h.isp, fun j hj => by rw [World.cell?_of_block (w := w) (by rw [add_block]; exact hb (by omega))]; exact h.cells j hj⟩
theorem ARep.same {S : Nat → Prop} {w w1 : World} {x : AC} {o : AV} (h : ARep w S x o) (hb : ∀ k, S k → k < w.heap.size → w1.heap[k]? = w.heap[k]?) : ARep w1 S x o := by
 induction h with
 | mk x keys list data cs ok hkl hk hks hr hrs hd hds hlen _ ih =>
  exact .mk x keys list data cs ok hkl (hk.same fun h0 => hb _ (hks h0) (hk.lt h0)) hks (hr.same fun h0 => hb _ (hrs h0) (hr.lt h0)) hrs (hd.same fun h0 => hb _ (hds h0) (hd.lt h0)) hds hlen ih
theorem ARep.mono {S T : Nat → Prop} {w : World} {x : AC} {o : AV} (h : ARep w S x o) (hST : ∀ k, S k → k < w.heap.size → T k) : ARep w T x o := by
 induction h with
 | mk x keys list data cs ok hkl hk hks hr hrs hd hds hlen _ ih =>
  exact .mk x keys list data cs ok hkl hk (fun h0 => hST _ (hks h0) (hk.lt h0)) hr (fun h0 => hST _ (hrs h0) (hr.lt h0)) hd (fun h0 => hST _ (hds h0) (hd.lt h0)) hlen ih
theorem ARep.drew {S : Nat → Prop} {w w1 : World} {x : AC} {o : AV} (h : ARep w S x o) (d : Drew w w1) : ARep w1 S x o := by obtain ⟨m, rfl⟩ := d; exact h.same fun _ _ _ => rfl
theorem ARep.inv {w : World} {S : Nat → Prop} {x : AC} {o : AV} (h : ARep w S x o) : ∃ (keys : List (List UInt8)) (list : List AV) (data : List UInt8) (cs : List AC), o = .mk x.kind x.n x.text keys list data ∧ ACok x keys.length cs.length data.length ∧ (∀ k ∈ keys, k.length ≤ 9223372036854775807) ∧ RowAt strV w x.kp keys ∧ (0 < keys.length → S (pA x.kp).block) ∧
  RowM acL w x.lp cs ∧ (0 < cs.length → S (pA x.lp).block) ∧ BytesAt w x.dp data ∧ (0 < data.length → S (pA x.dp).block) ∧ cs.length = list.length ∧ ∀ i (h : i < cs.length) (h2 : i < list.length), ARep w S cs[i] list[i] := by
 cases h with
 | mk x keys list data cs ok hkl hk hks hr hrs hd hds hlen hsub => exact ⟨keys, list, data, cs, rfl, ok, hkl, hk, hks, hr, hrs, hd, hds, hlen, hsub⟩
/-- objects that lie in blocks of S -/
structure AInv (w : World) (S : Nat → Prop) (cs : List AC) (acc : List AV) : Prop where
 len : cs.length = acc.length
 sub : ∀ i (h : i < cs.length) (h2 : i < acc.length), ARep w S cs[i] acc[i]
theorem AInv.same {w w1 : World} {S : Nat → Prop} {cs : List AC} {acc : List AV} (h : AInv w S cs acc) (hb : ∀ k, S k → k < w.heap.size → w1.heap[k]? = w.heap[k]?) : AInv w1 S cs acc := ⟨h.len, fun i h1 h2 => (h.sub i h1 h2).same hb⟩
theorem AInv.mono {w : World} {S T : Nat → Prop} {cs : List AC} {acc : List AV} (h : AInv w S cs acc) (hST : ∀ k, S k → k < w.heap.size → T k) : AInv w T cs acc := ⟨h.len, fun i h1 h2 => (h.sub i h1 h2).mono hST⟩
def acOf (x : PC) : AC := ⟨x.kind, x.n, x.text, x.kp, x.kl, x.kc, x.lp, x.ll, x.lc, none, 0, 0⟩
mutual
def avO : PV → AV
 | .mk k n t ks l => .mk k n t ks (avL l) []
def avL : List PV → List AV
 | [] => []
 | o :: r => avO o :: avL r
end
theorem avL_map : ∀ l : List PV, avL l = l.map avO
 | [] => by simp [avL]
 | o :: r => by rw [avL, avL_map r]; rfl
theorem rowOf {w : World} {p : Option Addr} {cs : List PC} (h : RowM pcL w p cs) : RowM acL w p (cs.map acOf) :=
 ⟨fun h0 => h.isp (by simpa using h0), fun j hj i hi => by
  have := h.cells j (by simpa using hj) i hi
  rw [List.getElem_map]
  exact this⟩
/-- numbers that Go's are -/
inductive PWf : PV → Prop
 | mk (k n : Int) (t : List UInt8) (ks : List (List UInt8)) (l : List PV) (hn : -9223372036854775808 ≤ n ∧ n ≤ 9223372036854775807) (ht : t.length ≤ 9223372036854775807) (hk : ∀ k ∈ ks, k.length ≤ 9223372036854775807) (h : ∀ o ∈ l, PWf o) : PWf (.mk k n t ks l)
theorem OwnM.full {α : Type} {L : Lay α} {e : TypeId} {B n c : Nat} {w : World} {p : Option Addr} {l : List α} (h : OwnM L e B w (.slice p n c) l) : n = l.length ∧ l.length ≤ c ∧ c ≤ 9223372036854775807 ∧ RowM L w p l ∧ (0 < l.length → (Value.slice p n c).ownBlock = some (pA p).block) := by
 obtain ⟨p', c', hv, hr, -, hc, -, ho, hm, -⟩ := h.row
 cases hv
 unfold maxLen at hm
 refine ⟨rfl, hc, by omega, hr, fun h0 => ?_⟩
 rw [ho, hr.isp h0]; rfl
theorem PRep.rep {w : World} {S : Nat → Prop} {x : PC} {o : PV} (h : PRep w S x o) (hw : PWf o) : ARep w S (acOf x) (avO o) := by
  induction h with
  | mk x keys list cs hk hr hlen hsub ih =>
    cases hw with
    | mk _ _ _ _ _ hn ht hkl hl =>
    obtain ⟨k1, k2, k3, k4, k5⟩ := hk.1.full
    obtain ⟨r1, r2, r3, r4, r5⟩ := hr.1.full
    rw [avO, avL_map]
    refine ARep.mk (acOf x) keys (list.map avO) [] (cs.map acOf) ⟨hn, ht, k1, by rw [List.length_map]; exact r1, rfl, k2, by rw [List.length_map]; exact r2, Nat.zero_le _, k3, r3, Nat.zero_le _⟩ hkl k4.strs (fun h0 => hk.2 _ (k5 h0)) (rowOf r4) (fun h0 => hr.2 _ (r5 (by simpa using h0)))
      ⟨fun h => by simp at h, fun j h => by simp at h⟩ (fun h => by simp at h) (by simpa using hlen) fun i h h2 => ?_
    rw [List.getElem_map, List.getElem_map]
    exact ih i (by simpa using h) (by simpa using h2) (hl _ (List.getElem_mem _))
/-- a sound object without data is what it is read as -/
theorem av_pv {D : Int} {st : Bool} {o : AV} (h : Snd D st o) : o.kind ≠ 9 → avO (pvO o) = o := by
 induction h with
 | null D st => intro _; simp [pvO, avO, pvL, avL]
 | bool D st n hn => intro _; simp [pvO, avO, pvL, avL]
 | num D st k n hk hf => intro _; simp [pvO, avO, pvL, avL]
 | name D st s hs => intro _; simp [pvO, avO, pvL, avL]
 | text D st s hs => intro _; simp [pvO, avO, pvL, avL]
 | ref D st n hn => intro _; simp [pvO, avO, pvL, avL]
 | arr D st L hD hl hS ih =>
  intro _
  rw [pvO, avO, pvL_map, avL_map, List.map_map]
  congr 1
  refine Eq.trans (List.map_congr_left fun o ho => ih o ho (snd_no9 (hS o ho))) (List.map_id'' (fun _ => rfl) L)
 | dict D st k ks L dd hk hD hl hkl hn hnd hS ih =>
  intro h9
  have hd : dd = [] := by rcases hk with ⟨-, h⟩ | ⟨h, -⟩; exact h; exact absurd h h9
  subst hd
  rw [pvO, avO, pvL_map, avL_map, List.map_map]
  congr 1
  refine Eq.trans (List.map_congr_left fun o ho => ih o ho (snd_no9 (hS o ho))) (List.map_id'' (fun _ => rfl) L)
theorem pwf_snd {D : Int} {st : Bool} {o : AV} (h : Snd D st o) : PWf (pvO o) := by
 induction h with
 | null D st => rw [pvO, pvL]; exact .mk _ _ _ _ _ (by omega) (by simp) (fun o h => by cases h) (fun o h => by cases h)
 | bool D st n hn => rw [pvO, pvL]; exact .mk _ _ _ _ _ (by omega) (by simp) (fun o h => by cases h) (fun o h => by cases h)
 | num D st k n hk hf => have := fitsB_i hf; rw [pvO, pvL]; exact .mk _ _ _ _ _ (by omega) (by simp) (fun o h => by cases h) (fun o h => by cases h)
 | name D st s hs => have := hs.2.2; rw [pvO, pvL]; exact .mk _ _ _ _ _ (by omega) (by omega) (fun o h => by cases h) (fun o h => by cases h)
 | text D st s hs => rw [pvO, pvL]; exact .mk _ _ _ _ _ (by omega) (by omega) (fun o h => by cases h) (fun o h => by cases h)
 | ref D st n hn => rw [pvO, pvL]; exact .mk _ _ _ _ _ (by omega) (by simp) (fun o h => by cases h) (fun o h => by cases h)
 | arr D st L hD hl hS ih => rw [pvO, pvL_map]; exact .mk _ _ _ _ _ (by omega) (by simp) (fun o h => by cases h) (fun o h => by obtain ⟨a, ha, rfl⟩ := List.mem_map.1 h; exact ih a ha)
 | dict D st k ks L dd hk hD hl hkl hn hnd hS ih => rw [pvO, pvL_map]; exact .mk _ _ _ _ _ (by omega) (by simp) (fun k h => by have := (hn k h).2.2; omega) (fun o h => by obtain ⟨a, ha, rfl⟩ := List.mem_map.1 h; exact ih a ha)
end Go.Proofs.YtjghbcjnplcleaaGreatDoor

namespace Go.Proofs.YtjghbcjnplcleaaGreatDoor
open Go.Proofs.Tryz
open Go.RowKit
theorem ObjC_all (p : Option Addr) (l : List UInt8) (c : Nat) (refs : Bool) (hc : l.length ≤ c) (hl : l.length ≤ 100000000) : ∀ (n : Nat) (D : Int), D.toNat ≤ n → -9223372036854775808 < D ∧ D ≤ 1000000000 → ObjC p l c refs D
 | 0, D, hn, hD => plex_object p l c refs hc hl D hD fun h => by omega
 | n + 1, D, hn, hD => plex_object p l c refs hc hl D hD fun h => ObjC_all p l c refs hc hl n (D - 1) (by omega) (by omega)
/-- the errors of objects -/
def Err3 (k : Int) : Prop := k = 23 ∨ k = 24 ∨ k = 25
theorem Err3.ne {k : Int} (h : Err3 k) : k ≠ 0 := by unfold Err3 at h; omega
theorem nameP_err {l : List UInt8} {t : Nat} {k : Int} (h : nameP l t = .error k) : Err3 k := by
 unfold nameP at h
 split at h
 ·
  cases h; exact .inl rfl
 ·
  split at h
  ·
   cases h; exact .inl rfl
  ·
   split at h
   ·
    cases h; exact .inr (.inr rfl)
   ·
    cases h
theorem textR_err {l : List UInt8} {t : Nat} {k : Int} (h : textR l t = .error k) : Err3 k := by
 unfold textR at h
 split at h
 ·
  cases h; exact .inr (.inl rfl)
 ·
  split at h
  ·
   cases h; exact .inr (.inr rfl)
  ·
   split at h
   ·
    cases h; exact .inl rfl
   ·
    cases h
theorem listP_err {obj : Nat → ObjE} {l : List UInt8} (hobj : ∀ t k, obj t = .error k → Err3 k) : ∀ (f : Nat) (acc : List PV) (t : Nat) (k : Int), listP obj l f acc t = .error k → Err3 k
 | 0, _, _, _, h => by cases h; exact .inr (.inl rfl)
 | f + 1, acc, t, k, h => by
  simp only [listP] at h
  split at h
  ·
   cases h; exact .inr (.inl rfl)
  ·
   split at h
   ·
    cases h
   ·
    split at h
    ·
     cases h; exact .inr (.inr rfl)
    ·
     split at h
     ·
      next ho => cases h; exact hobj _ _ ho
     ·
      exact listP_err hobj f _ _ _ h
theorem pairsP_err {obj : Nat → ObjE} {l : List UInt8} (hobj : ∀ t k, obj t = .error k → Err3 k) : ∀ (f : Nat) (ks : List (List UInt8)) (acc : List PV) (t : Nat) (k : Int), pairsP obj l f ks acc t = .error k → Err3 k
 | 0, _, _, _, _, h => by cases h; exact .inr (.inl rfl)
 | f + 1, ks, acc, t, k, h => by
  simp only [pairsP] at h
  split at h
  ·
   cases h; exact .inr (.inl rfl)
  ·
   split at h
   ·
    cases h; exact .inr (.inl rfl)
   ·
    split at h
    ·
     cases h
    ·
     split at h
     ·
      cases h; exact .inl rfl
     ·
      split at h
      ·
       next hn => cases h; exact nameP_err hn
      ·
       split at h
       ·
        cases h; exact .inl rfl
       ·
        split at h
        ·
         cases h; exact .inr (.inr rfl)
        ·
         split at h
         ·
          cases h; exact .inr (.inl rfl)
         ·
          split at h
          ·
           next ho => cases h; exact hobj _ _ ho
          ·
           exact pairsP_err hobj f _ _ _ _ h
theorem objP_err (refs : Bool) (l : List UInt8) : ∀ (d t : Nat) (k : Int), objP refs l d t = .error k → Err3 k := by
 have hname : ∀ t (k : Int), nameO l t = .error k → Err3 k := fun t k h => by
  unfold nameO at h
  split at h
  ·
   next hn => cases h; exact nameP_err hn
  ·
   cases h
 have htext : ∀ t (k : Int), textP l t = .error k → Err3 k := fun t k h => by
  unfold textP at h
  split at h
  ·
   next hn => cases h; exact textR_err hn
  ·
   cases h
 have hplain : ∀ t (k : Int), plainO (plexW refs l t) = .error k → Err3 k := fun t k h => by
  unfold plainO at h
  split at h
  ·
   cases h
  ·
   cases h; exact .inl rfl
 intro d
 induction d with
 | zero =>
  intro t k h
  simp only [objP] at h
  repeat' split at h
  all_goals first | exact hname _ _ h | exact htext _ _ h | exact hplain _ _ h | (cases h; first | exact .inl rfl | exact .inr (.inl rfl) | exact .inr (.inr rfl))
 | succ d ih =>
  have hlist : ∀ t (k : Int), listO (listP (objP refs l d) l (l.length + 1) [] t) = .error k → Err3 k := fun t k h => by
   unfold listO at h
   split at h
   ·
    next hn => cases h; exact listP_err ih _ _ _ _ hn
   ·
    cases h
  have hpairs : ∀ t (k : Int), pairsO (pairsP (objP refs l d) l (l.length + 1) [] [] t) = .error k → Err3 k := fun t k h => by
   unfold pairsO at h
   split at h
   ·
    next hn => cases h; exact pairsP_err ih _ _ _ _ _ hn
   ·
    cases h
  intro t k h
  simp only [objP] at h
  repeat' split at h
  all_goals first | exact hname _ _ h | exact htext _ _ h | exact hplain _ _ h | exact hlist _ _ h | exact hpairs _ _ h | (cases h; first | exact .inl rfl | exact .inr (.inl rfl) | exact .inr (.inr rfl))
end Go.Proofs.YtjghbcjnplcleaaGreatDoor

namespace Go.Proofs.YtjghbcjnplcleaaGreatDoor
open Go.Proofs.Tryz
open Go.RowKit
theorem r01_Texts (p : Option Addr) (l : List (List UInt8)) (c : Nat) (q : Option Addr) (d : Nat) (w : World) (ha : RowAt strV w p l) (hb : RowAt strV w q l) (hl : l.length ≤ 9223372036854775807) :
  Calls Tryz.prog 44 #[.slice p l.length c, .slice q l.length d] w fun e w' => e = .returned (.bool true) ∧ Drew w w' := by
 refine W.enter func44 rfl ntmps44 (Nat.le_of_ble_eq_true rfl) ?_
 refine W.seq <| W.reg <| WL.p (.as rfl) rfl <| WL.nil <| ?_
 refine W.seq <| W.seq <| W.reg <| WL.p (.mv rfl) rfl <| WL.p (.lenS underlying28 rfl) rfl <| WL.p (.mv rfl) rfl <| WL.p (.lenS underlying28 rfl) rfl <| WL.p (.neq rfl rfl) rfl <| WL.nil <| ?_
 refine W.cond rfl (fun h1 => ?_) (fun h1 => ?_)
 ·
  have h1' := ndT h1
  omega
 have h1' := ndF h1
 refine W.skip <| W.seq <| W.seq <| W.reg <| WL.p (.as rfl) rfl <| WL.nil <| ?_
 refine W.block ?_
 refine W.loop (α := Nat) (fun t => [(0, .slice p l.length c), (1, .slice q l.length d), (5, .int .i64 (t : Int))]) (fun t w' => Drew w w' ∧ t ≤ l.length) (fun t => l.length - t) (0) ⟨rfl, rfl, rfl, trivial⟩ (⟨Drew.refl _, Nat.zero_le _⟩) (fun t w1 hR => ?_)
 obtain ⟨hD, ht⟩ := hR
 have ha1 := ha.drew hD
 have hb1 := hb.drew hD
 refine W.seq <| W.seq <| W.reg <| WL.p (.mv rfl) rfl <| WL.p (.mv rfl) rfl <| WL.p (.lenS underlying28 rfl) rfl <| WL.p (.lss rfl rfl) rfl <| WL.nil <| ?_
 refine W.cond rfl (fun h2 => ?_) (fun h2 => ?_)
 ·
  have h2' := of_decide_eq_true h2
  refine W.skip <| W.seq <| W.block <| W.seq <| W.regQ mixed (by kernel_rfl) ?_
  refine WQ.p (.mv rfl) rfl <| WQ.p (.mv rfl) rfl <| WQ.p (.ixb underlying28 sizeOf9 rfl rfl (ha1.isp (by omega)) (t) (by omega) (by omega)) rfl <| WQ.r (fun m => Rd.ldc (isAgg9 _) rfl ((ha1.drewN m).cells (t) (by omega))) rfl <| WQ.p (.mv rfl) rfl <| WQ.p (.mv rfl) rfl <| WQ.p (.ixb underlying28 sizeOf9 rfl rfl (hb1.isp (by omega)) (t) (by omega) (by omega)) rfl <| WQ.r (fun m => Rd.ldc (isAgg9 _) rfl ((hb1.drewN m).cells (t) (by omega))) rfl <| WQ.p (.nes rfl rfl) rfl <| WQ.nil (fun w3 dw3 => ?_)
  refine W.cond rfl (fun h6 => ?_) (fun h6 => ?_)
  ·
   have h6' := ndT h6
   contradiction
  have h6' := ndF h6
  refine W.skip <| W.reg <| WL.p (.mv rfl) rfl <| WL.p (.iis (((t + 1 : Nat) : Int)) (.add rfl rfl (i64w (by omega))) (by omega)) rfl <| WL.p (.as rfl) rfl <| WL.nil <| ?_
  exact ⟨t + 1, ⟨rfl, rfl, rfl, trivial⟩, ⟨hD.trans dw3, by omega⟩, by omega⟩
 have h2' := of_decide_eq_false h2
 refine W.exit <| W.seq <| W.reg <| WL.p (.as rfl) rfl <| WL.nil <| ?_
 refine W.ret (W.ret1 rfl rfl ?_)
 exact ⟨rfl, hD⟩
theorem PRep.inv {w : World} {S : Nat → Prop} {x : PC} {o : PV} (h : PRep w S x o) : ∃ (keys : List (List UInt8)) (list : List PV) (cs : List PC), o = .mk x.kind x.n x.text keys list ∧ StrsAt S w (.slice x.kp x.kl x.kc) keys ∧ RowIn S w (.slice x.lp x.ll x.lc) cs ∧ LInv w S cs list := by
 cases h with
 | mk x keys list cs hk hr hlen hsub => exact ⟨keys, list, cs, rfl, hk, hr, hlen, hsub⟩
end Go.Proofs.YtjghbcjnplcleaaGreatDoor

namespace Go.Proofs.YtjghbcjnplcleaaGreatDoor
open Go.Proofs.Tryz
open Go.RowKit
theorem lenz {α : Type} {l : List α} (h : (l.length : Int) = 0) : l = [] := List.length_eq_zero_iff.1 (by omega)
theorem len0 {α β : Type} {l : List α} {m : List β} (hl : l.length = m.length) (h : (l.length : Int) = 0) : m = [] := List.length_eq_zero_iff.1 (by omega)
section
variable {D : Int} {st : Bool} {k n : Int} {t : List UInt8} {ks : List (List UInt8)} {l : List AV} {cs : List AC} {d : List UInt8}
theorem fin0 (hl : cs.length = l.length) (hk : k = 0) (hn : n = 0) (ht : t = []) (h1 : (ks.length : Int) = 0) (h2 : (cs.length : Int) = 0) (h3 : (d.length : Int) = 0) : Snd D st (.mk k n t ks l d) := by
 rw [hk, hn, ht, lenz h1, len0 hl h2, lenz h3]; exact .null D st
theorem fin1 (hl : cs.length = l.length) (hk : k = 1) (hn : n = 0 ∨ n = 1) (ht : t = []) (h1 : (ks.length : Int) = 0) (h2 : (cs.length : Int) = 0) (h3 : (d.length : Int) = 0) : Snd D st (.mk k n t ks l d) := by
 rw [hk, ht, lenz h1, len0 hl h2, lenz h3]; exact .bool D st n hn
theorem fin2 (hl : cs.length = l.length) (hk : k = 2 ∨ k = 3) (hn : fitsB n = true) (ht : t = []) (h1 : (ks.length : Int) = 0) (h2 : (cs.length : Int) = 0) (h3 : (d.length : Int) = 0) : Snd D st (.mk k n t ks l d) := by
 rw [ht, lenz h1, len0 hl h2, lenz h3]; exact .num D st k n hk hn
theorem fin4 (hl : cs.length = l.length) (hk : k = 4) (hn : n = 0) (ht : nmOk t) (h1 : (ks.length : Int) = 0) (h2 : (cs.length : Int) = 0) (h3 : (d.length : Int) = 0) : Snd D st (.mk k n t ks l d) := by
 rw [hk, hn, lenz h1, len0 hl h2, lenz h3]; exact .name D st t ht
theorem fin5 (hl : cs.length = l.length) (hk : k = 5) (hn : n = 0) (ht : (t.length : Int) ≤ 65535) (h1 : (ks.length : Int) = 0) (h2 : (cs.length : Int) = 0) (h3 : (d.length : Int) = 0) : Snd D st (.mk k n t ks l d) := by
 rw [hk, hn, lenz h1, len0 hl h2, lenz h3]; exact .text D st t (by omega)
theorem fin8 (hl : cs.length = l.length) (hk : k = 8) (hn : 1 ≤ n) (hn2 : n ≤ 4096) (ht : t = []) (h1 : (ks.length : Int) = 0) (h2 : (cs.length : Int) = 0) (h3 : (d.length : Int) = 0) : Snd D st (.mk k n t ks l d) := by
 rw [hk, ht, lenz h1, len0 hl h2, lenz h3]; exact .ref D st n ⟨hn, hn2⟩
end
/-- what has been seen of a list or a dictionary ahead of its objects -/
def PreS (D : Int) (st : Bool) (k n : Int) (t : List UInt8) (ks : List (List UInt8)) (m : Nat) (d : List UInt8) : Prop :=
 (k = 6 ∧ 1 ≤ D ∧ n = 0 ∧ t = [] ∧ ks = [] ∧ d = []) ∨
 (((k = 7 ∧ d = []) ∨ (k = 9 ∧ st = true ∧ d.length ≤ 1048576 ∧ [76, 101, 110, 103, 116, 104] ∉ ks)) ∧ 1 ≤ D ∧ n = 0 ∧ t = [] ∧ ks.length = m ∧ (∀ x ∈ ks, nmOk x) ∧ ks.Nodup)
theorem PreS.snd {D : Int} {st : Bool} {k n : Int} {t : List UInt8} {ks : List (List UInt8)} {l : List AV} {d : List UInt8} (h : PreS D st k n t ks l.length d) (hl : l.length ≤ 65535) (hs : ∀ o ∈ l, Snd (D - 1) false o) : Snd D st (.mk k n t ks l d) := by
 rcases h with ⟨rfl, h1, rfl, rfl, rfl, rfl⟩ | ⟨h0, h1, rfl, rfl, h2, h3, h4⟩
 ·
  exact .arr D st l h1 hl hs
 ·
  exact .dict D st k ks l d h0 h1 hl h2 h3 h4 hs
theorem PreS.one {D : Int} {st : Bool} {k n : Int} {t : List UInt8} {ks : List (List UInt8)} {m : Nat} {d : List UInt8} (h : PreS D st k n t ks m d) : 1 ≤ D := by
 rcases h with h | h
 ·
  exact h.2.1
 ·
  exact h.2.1
theorem u8_mem {c : UInt8} {l : List UInt8} {i : Nat} (hi : i < l.length) (h : c ∉ l.take i) (hc : l[i] ≠ c) : c ∉ l.take (i + 1) := by
 rw [List.take_add_one, List.getElem?_eq_getElem hi, Option.toList_some, List.mem_append, List.mem_singleton]
 exact fun hx => hx.elim h (fun e => hc e.symm)
/-- may it be a name -/
def nmB (s : List UInt8) : Bool := !decide (0 ∈ s) && decide (1 ≤ (s.length : Int)) && decide ((s.length : Int) ≤ 127)
theorem nmB_ok {s : List UInt8} (h : nmB s = true) : nmOk s := by
 unfold nmB at h
 simp only [Bool.and_eq_true, Bool.not_eq_true', decide_eq_true_eq, decide_eq_false_iff_not] at h
 exact ⟨fun e => by subst e; simp at h, h.1.1, by omega⟩
theorem r18_nameB (s : List UInt8) (w : World) (hs : s.length ≤ 9223372036854775807) :
  Calls Tryz.prog 63 #[.string (bs s)] w fun e w' => e = .returned (.bool (nmB s)) ∧ w = w' := by
 refine W.enter func63 rfl ntmps63 (Nat.le_of_ble_eq_true rfl) ?_
 refine W.seq <| W.reg <| WL.p (.as rfl) rfl <| WL.nil <| ?_
 refine W.seq <| W.seq <| W.reg <| WL.p (.as rfl) rfl <| WL.nil <| ?_
 refine W.block ?_
 refine W.loop (α := Nat) (fun t => [(0, .string (bs s)), (3, .int .i64 (t : Int))]) (fun t w' => w = w' ∧ t ≤ s.length ∧ 0 ∉ s.take t) (fun t => s.length - t) (0) ⟨rfl, rfl, trivial⟩ (⟨rfl, Nat.zero_le _, by simp⟩) (fun t w1 hR => ?_)
 obtain ⟨i, rfl⟩ : ∃ i, i = t := ⟨t, rfl⟩
 obtain ⟨rfl, hi, hno⟩ := hR
 refine W.seq <| W.seq <| W.reg <| WL.p (.mv rfl) rfl <| WL.p (.mv rfl) rfl <| WL.p (.len underlying9 rfl) rfl <| WL.p (.lss rfl rfl) rfl <| WL.nil <| ?_
 refine W.cond rfl (fun h1 => ?_) (fun h1 => ?_)
 ·
  have h1' := of_decide_eq_true h1
  refine W.skip <| W.seq <| W.block <| W.seq <| W.reg <| WL.p (.mv rfl) rfl <| WL.p (.mv rfl) rfl <| WL.p (.ix underlying9 rfl rfl (i) (rfl) (by omega)) rfl <| WL.p (.eql rfl rfl) rfl <| WL.nil <| ?_
  refine W.cond rfl (fun h2 => ?_) (fun h2 => ?_)
  ·
   have h2' := of_decide_eq_true h2
   refine W.seq <| W.reg <| WL.p (.as rfl) rfl <| WL.nil <| ?_
   refine W.ret (W.ret1 rfl rfl ?_)
   first
   | exact ⟨ret_bool (by unfold nmB; rw [show decide (0 ∈ s) = true from decide_eq_true (by rw [← show s[i]'(by omega) = 0 from u8_eq (d := 0) (by assumption)]; exact List.getElem_mem _)]; rfl), rfl⟩
   | exact ⟨ret_bool (by unfold nmB; rw [decide_eq_false hz, show decide (1 ≤ (s.length : Int)) = true from decide_eq_true (by omega)]; rfl), rfl⟩
   | exact ⟨ret_bool (by unfold nmB; rw [decide_eq_false hz, show decide (1 ≤ (s.length : Int)) = false from decide_eq_false (by omega)]; rfl), rfl⟩
  have h2' := of_decide_eq_false h2
  refine W.skip <| W.reg <| WL.p (.mv rfl) rfl <| WL.p (.iis (((i + 1 : Nat) : Int)) (.add rfl rfl (i64w (by omega))) (by omega)) rfl <| WL.p (.as rfl) rfl <| WL.nil <| ?_
  exact ⟨i + 1, ⟨rfl, rfl, trivial⟩, ⟨rfl, by ((try simp only) <;> omega), u8_mem (by omega) hno (u8_ne (d := 0) (by assumption))⟩, by ((try simp only) <;> omega)⟩
 have h1' := of_decide_eq_false h1
 refine W.exit <| W.seq ?_
 have hz : 0 ∉ s := by rw [← List.take_of_length_le (show s.length ≤ i by omega)]; exact hno
 refine W.reg <| WL.p (.mv rfl) rfl <| WL.p (.len underlying9 rfl) rfl <| WL.p (.geq rfl rfl) rfl <| WL.p (.mv rfl) rfl <| WL.gd rfl rfl rfl (fun g3 => ?_) (fun g3 => ?_)
 ·
  have g3' := of_decide_eq_true g3
  refine WL.p (.mv rfl) rfl <| WL.gy rfl rfl rfl g3 <| WL.p (.len underlying9 rfl) rfl <| WL.gy rfl rfl rfl g3 <| WL.p (.leq rfl rfl) rfl <| WL.p (.pkT rfl g3 rfl) rfl <| WL.p (.as rfl) rfl <| WL.nil <| ?_
  refine W.ret (W.ret1 rfl rfl ?_)
  first
  | exact ⟨ret_bool (by unfold nmB; rw [show decide (0 ∈ s) = true from decide_eq_true (by rw [← show s[i]'(by omega) = 0 from u8_eq (d := 0) (by assumption)]; exact List.getElem_mem _)]; rfl), rfl⟩
  | exact ⟨ret_bool (by unfold nmB; rw [decide_eq_false hz, show decide (1 ≤ (s.length : Int)) = true from decide_eq_true (by omega)]; rfl), rfl⟩
  | exact ⟨ret_bool (by unfold nmB; rw [decide_eq_false hz, show decide (1 ≤ (s.length : Int)) = false from decide_eq_false (by omega)]; rfl), rfl⟩
 have g3' := of_decide_eq_false g3
 refine WL.gn rfl rfl rfl g3 <| WL.gn rfl rfl rfl g3 <| WL.p (.pkF rfl g3 rfl) rfl <| WL.p (.as rfl) rfl <| WL.nil <| ?_
 refine W.ret (W.ret1 rfl rfl ?_)
 first
 | exact ⟨ret_bool (by unfold nmB; rw [show decide (0 ∈ s) = true from decide_eq_true (by rw [← show s[i]'(by omega) = 0 from u8_eq (d := 0) (by assumption)]; exact List.getElem_mem _)]; rfl), rfl⟩
 | exact ⟨ret_bool (by unfold nmB; rw [decide_eq_false hz, show decide (1 ≤ (s.length : Int)) = true from decide_eq_true (by omega)]; rfl), rfl⟩
 | exact ⟨ret_bool (by unfold nmB; rw [decide_eq_false hz, show decide (1 ≤ (s.length : Int)) = false from decide_eq_false (by omega)]; rfl), rfl⟩
/-- is an object not too large: it says yes or no -/
theorem law_light : ∀ (n : Nat) (o : AV), SizeOf.sizeOf o < n → ∀ (x : AC) (S : Nat → Prop) (D : Int) (w : World), ARep w S x o → -1 ≤ D → D ≤ 100 →
  Calls Tryz.prog 15 #[.agg (acV x).toArray, .int .i64 D] w fun e w' => ∃ b, e = .returned (.bool b) ∧ Below w.heap.size w w' := by
 intro n
 induction n with
 | zero => intro o h; omega
 | succ n ih =>
 intro o hn x S D w hx hD hD2
 obtain ⟨keys, list, data, cs, rfl, ok, hkl, hk, hks, hr, hrs, hd, hds, hcl, hsub⟩ := hx.inv
 obtain ⟨k, i, s, kp, kl, kc, lp, ll, lc, dp, dl, dc⟩ := x
 have e1 := ok.kl; have e2 := ok.ll; have e3 := ok.dl
 have m1 := ok.kc; have m2 := ok.lc; have m3 := ok.dc; have m4 := ok.km; have m5 := ok.lm; have m6 := ok.dm; have m7 := ok.text
 simp only at e1 e2 e3 m1 m2 m3 m4 m5 m6 m7 hk hr hd hrs
 subst e1; subst e2; subst e3
 simp only [AV.mk.sizeOf_spec] at hn
 have hsz : ∀ j (h : j < list.length), SizeOf.sizeOf list[j] < n := fun j h => by have := List.sizeOf_lt_of_mem (List.getElem_mem h); omega
 have hs0 : AInv w S cs list := ⟨hcl, hsub⟩
 simp only [acV]
 refine W.enter func15 rfl ntmps15 (Nat.le_of_ble_eq_true rfl) ?_
 have hB0 := Below.refl (w.heap.size) w
 refine W.seq <| W.reg <| WL.box rfl rfl (fun b1 wb1 eb1 hkb1 hub1 hsb1 => ?_)
 have hF2 := AInv.same (w1 := wb1) hs0 (fun k hk hl => hub1.other k (by omega))
 have hvl4 := fun h0 => eb1 ▸ hr.lt h0
 have hv3 := RowM.upd hr hub1 (fun h0 => Nat.ne_of_lt (hvl4 h0))
 have hB5 := Upd.below hB0 (by rw [eb1]; exact hB0.size) hub1
 have hgeb1 : w.heap.size ≤ b1 := by rw [eb1]; exact hB0.size
 refine WL.p (.as rfl) rfl <| WL.nil <| ?_
 refine W.seq <| W.seq <| W.reg <| WL.p (.mv rfl) rfl <| WL.p (.lss rfl rfl) rfl <| WL.p (.mv rfl) rfl <| WL.gd rfl rfl rfl (fun g6 => ?_) (fun g6 => ?_)
 ·
  have g6' := of_decide_eq_false g6
  refine WL.p (.fa underlying31 rfl sizeOf29 (by decide) rfl) rfl <| WL.gy rfl rfl rfl g6 <| WL.r (Rd.ld (isAgg29 _) rfl hkb1 rfl) rfl <| WL.gy rfl rfl rfl g6 <| WL.p (.lenS underlying29 rfl) rfl <| WL.gy rfl rfl rfl g6 <| WL.p (.gtr rfl rfl) rfl <| WL.p (.pkF rfl g6 rfl) rfl <| WL.p (.mv rfl) rfl <| WL.gd rfl rfl rfl (fun g7 => ?_) (fun g7 => ?_)
  ·
   have g7' := of_decide_eq_false g7
   refine WL.p (.fa underlying31 rfl sizeOf28 (by decide) rfl) rfl <| WL.gy rfl rfl rfl g7 <| WL.r (Rd.ld (isAgg28 _) rfl hkb1 rfl) rfl <| WL.gy rfl rfl rfl g7 <| WL.p (.lenS underlying28 rfl) rfl <| WL.gy rfl rfl rfl g7 <| WL.p (.gtr rfl rfl) rfl <| WL.p (.pkF rfl g7 rfl) rfl <| WL.p (.mv rfl) rfl <| WL.gd rfl rfl rfl (fun g8 => ?_) (fun g8 => ?_)
   ·
    have g8' := of_decide_eq_false g8
    refine WL.p (.fa underlying31 rfl sizeOf9 (by decide) rfl) rfl <| WL.gy rfl rfl rfl g8 <| WL.r (Rd.ld (isAgg9 _) rfl hkb1 rfl) rfl <| WL.gy rfl rfl rfl g8 <| WL.p (.len underlying9 rfl) rfl <| WL.gy rfl rfl rfl g8 <| WL.p (.gtr rfl rfl) rfl <| WL.p (.pkF rfl g8 rfl) rfl <| WL.p (.mv rfl) rfl <| WL.gd rfl rfl rfl (fun g9 => ?_) (fun g9 => ?_)
    ·
     have g9' := of_decide_eq_false g9
     refine WL.p (.fa underlying31 rfl sizeOf22 (by decide) rfl) rfl <| WL.gy rfl rfl rfl g9 <| WL.r (Rd.ld (isAgg22 _) rfl hkb1 rfl) rfl <| WL.gy rfl rfl rfl g9 <| WL.p (.lenS underlying22 rfl) rfl <| WL.gy rfl rfl rfl g9 <| WL.p (.gtr rfl rfl) rfl <| WL.p (.pkF rfl g9 rfl) rfl <| WL.nil <| ?_
     refine W.cond rfl (fun h10 => ?_) (fun h10 => ?_)
     ·
      have h10' := of_decide_eq_true h10
      refine W.seq <| W.reg <| WL.p (.as rfl) rfl <| WL.nil <| ?_
      refine W.ret (W.ret1 rfl rfl ?_)
      exact ⟨_, rfl, hB5⟩
     have h10' := of_decide_eq_false h10
     refine W.skip <| W.seq <| W.seq <| W.reg <| WL.p (.as rfl) rfl <| WL.nil <| ?_
     refine W.block ?_
     refine W.loop (α := Nat) (fun t => [(1, .int .i64 D), (2, .pointer (some ⟨b1, 0, none⟩)), (5, .int .i64 (t : Int))]) (fun t w' => Below w.heap.size w w' ∧ Blk w' b1 #[.int .i64 k, .int .i64 i, .string (bs s), .slice kp keys.length kc, .slice lp cs.length lc, .slice dp data.length dc] 31 ∧ RowM acL w' lp cs ∧ AInv w' S cs list ∧ t ≤ cs.length) (fun t => cs.length - t) (0) ⟨rfl, rfl, rfl, trivial⟩ (⟨hB5, hkb1, hv3, hF2, Nat.zero_le _⟩) (fun t w1 hR => ?_)
     obtain ⟨i0, rfl⟩ : ∃ i, i = t := ⟨t, rfl⟩
     obtain ⟨hT1, hk1, hlx1, hf1, ht⟩ := hR
     refine W.seq <| W.seq <| W.reg <| WL.p (.mv rfl) rfl <| WL.p (.fa underlying31 rfl sizeOf29 (by decide) rfl) rfl <| WL.r (Rd.ld (isAgg29 _) rfl hk1 rfl) rfl <| WL.p (.lenS underlying29 rfl) rfl <| WL.p (.lss rfl rfl) rfl <| WL.nil <| ?_
     refine W.cond rfl (fun h11 => ?_) (fun h11 => ?_)
     ·
      have h11' := of_decide_eq_true h11
      refine W.skip <| W.seq <| W.block <| W.seq <| W.reg <| WL.p (.fa underlying31 rfl sizeOf29 (by decide) rfl) rfl <| WL.r (Rd.ld (isAgg29 _) rfl hk1 rfl) rfl <| WL.p (.mv rfl) rfl <| WL.p (.ixm underlying29 sizeOf31 rfl rfl (hlx1.isp (by omega)) (i0) (rfl) (by omega)) rfl <| WL.r (Rd.ldS underlying31 rfl isz31 hlx1 (i0) (by omega) rfl) rfl <| WL.p (.mv rfl) rfl <| WL.p (.sub rfl rfl (i64w (by omega))) rfl <| WL.call hb15 rfl rfl ((ih (list[i0]'(by omega)) (hsz i0 (by omega)) _ S (D - 1) _ ((hf1).sub i0 (by omega) (by omega)) (by omega) (by omega))) (fun qb w12 hw12 => ?_)
      have hF13 := AInv.same (w1 := w12) hf1 (fun k hk hl => hw12.block k hl)
      have hk14 := hk1.below hw12 hk1.lt
      have hv15 := RowM.below hlx1 hw12 (fun h0 => hlx1.lt h0)
      have hB16 := btr hT1 hw12
      refine WL.p (.not rfl) rfl <| WL.nil <| ?_
      refine W.cond rfl (fun h17 => ?_) (fun h17 => ?_)
      ·
       have h17' := (nT h17)
       refine W.seq <| W.reg <| WL.p (.as rfl) rfl <| WL.nil <| ?_
       refine W.ret (W.ret1 rfl rfl ?_)
       exact ⟨_, rfl, hB16⟩
      have h17' := (nF h17)
      refine W.skip <| W.reg <| WL.p (.mv rfl) rfl <| WL.p (.iis (((i0 + 1 : Nat) : Int)) (.add rfl rfl (i64w (by omega))) (by omega)) rfl <| WL.p (.as rfl) rfl <| WL.nil <| ?_
      exact ⟨i0 + 1, ⟨rfl, rfl, rfl, trivial⟩, ⟨hB16, hk14, hv15, hF13, by ((try simp only) <;> omega)⟩, by ((try simp only) <;> omega)⟩
     have h11' := of_decide_eq_false h11
     refine W.exit <| W.seq <| W.reg <| WL.p (.as rfl) rfl <| WL.nil <| ?_
     refine W.ret (W.ret1 rfl rfl ?_)
     exact ⟨_, rfl, hT1⟩
    have g9' := of_decide_eq_true g9
    refine WL.gn rfl rfl rfl g9 <| WL.gn rfl rfl rfl g9 <| WL.gn rfl rfl rfl g9 <| WL.p (.pkT rfl g9 rfl) rfl <| WL.nil <| ?_
    refine W.condT rfl rfl ?_
    refine W.seq <| W.reg <| WL.p (.as rfl) rfl <| WL.nil <| ?_
    refine W.ret (W.ret1 rfl rfl ?_)
    exact ⟨_, rfl, hB5⟩
   have g8' := of_decide_eq_true g8
   refine WL.gn rfl rfl rfl g8 <| WL.gn rfl rfl rfl g8 <| WL.gn rfl rfl rfl g8 <| WL.p (.pkT rfl g8 rfl) rfl <| WL.p (.mv rfl) rfl <| WL.gn rfl rfl rfl rfl <| WL.gn rfl rfl rfl rfl <| WL.gn rfl rfl rfl rfl <| WL.gn rfl rfl rfl rfl <| WL.p (.pkT rfl rfl rfl) rfl <| WL.nil <| ?_
   refine W.condT rfl rfl ?_
   refine W.seq <| W.reg <| WL.p (.as rfl) rfl <| WL.nil <| ?_
   refine W.ret (W.ret1 rfl rfl ?_)
   exact ⟨_, rfl, hB5⟩
  have g7' := of_decide_eq_true g7
  refine WL.gn rfl rfl rfl g7 <| WL.gn rfl rfl rfl g7 <| WL.gn rfl rfl rfl g7 <| WL.p (.pkT rfl g7 rfl) rfl <| WL.p (.mv rfl) rfl <| WL.gn rfl rfl rfl rfl <| WL.gn rfl rfl rfl rfl <| WL.gn rfl rfl rfl rfl <| WL.gn rfl rfl rfl rfl <| WL.p (.pkT rfl rfl rfl) rfl <| WL.p (.mv rfl) rfl <| WL.gn rfl rfl rfl rfl <| WL.gn rfl rfl rfl rfl <| WL.gn rfl rfl rfl rfl <| WL.gn rfl rfl rfl rfl <| WL.p (.pkT rfl rfl rfl) rfl <| WL.nil <| ?_
  refine W.condT rfl rfl ?_
  refine W.seq <| W.reg <| WL.p (.as rfl) rfl <| WL.nil <| ?_
  refine W.ret (W.ret1 rfl rfl ?_)
  exact ⟨_, rfl, hB5⟩
 have g6' := of_decide_eq_true g6
 refine WL.gn rfl rfl rfl g6 <| WL.gn rfl rfl rfl g6 <| WL.gn rfl rfl rfl g6 <| WL.p (.pkT rfl g6 rfl) rfl <| WL.p (.mv rfl) rfl <| WL.gn rfl rfl rfl rfl <| WL.gn rfl rfl rfl rfl <| WL.gn rfl rfl rfl rfl <| WL.gn rfl rfl rfl rfl <| WL.p (.pkT rfl rfl rfl) rfl <| WL.p (.mv rfl) rfl <| WL.gn rfl rfl rfl rfl <| WL.gn rfl rfl rfl rfl <| WL.gn rfl rfl rfl rfl <| WL.gn rfl rfl rfl rfl <| WL.p (.pkT rfl rfl rfl) rfl <| WL.p (.mv rfl) rfl <| WL.gn rfl rfl rfl rfl <| WL.gn rfl rfl rfl rfl <| WL.gn rfl rfl rfl rfl <| WL.gn rfl rfl rfl rfl <| WL.p (.pkT rfl rfl rfl) rfl <| WL.nil <| ?_
 refine W.condT rfl rfl ?_
 refine W.seq <| W.reg <| WL.p (.as rfl) rfl <| WL.nil <| ?_
 refine W.ret (W.ret1 rfl rfl ?_)
 exact ⟨_, rfl, hB5⟩
end Go.Proofs.YtjghbcjnplcleaaGreatDoor
