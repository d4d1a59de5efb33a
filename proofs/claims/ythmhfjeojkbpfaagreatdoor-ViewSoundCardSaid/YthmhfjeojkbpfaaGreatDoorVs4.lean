/-
  What the claim leans on, part 4: pruned and joined by my own tool out of the texts that stand in wip/ as templates.
-/
import Derived.Test.YthmhfjeojkbpfaaGreatDoorVs3
namespace Go.Proofs.YthmhfjeojkbpfaaGreatDoor
open Go.RowKit
open Go.Proofs.Tryz
section
theorem listP_adv {obj : Nat → ObjE} {l : List UInt8} (hobj : ∀ t o t', t < l.length → obj t = .ok (o, t') → t < t' ∧ t' ≤ l.length) : ∀ (f : Nat) (acc : List PV) (t : Nat) (os : List PV) (t' : Nat), t ≤ l.length → listP obj l f acc t = .ok (os, t') → t < t' ∧ t' ≤ l.length
 | 0, _, _, _, _, _, h => by cases h
 | f + 1, acc, t, os, t', ht, h => by
  have hs := skipAt_ge l t ht
  simp only [listP] at h
  cases hg : l[skipAt false l t]? with
  | none => rw [hg] at h; cases h
  | some c =>
   obtain ⟨hlt, -⟩ := List.getElem?_eq_some_iff.1 hg
   rw [hg] at h
   simp only at h
   split at h
   ·
    cases h; omega
   ·
    split at h
    ·
     cases h
    ·
     cases ho : obj (skipAt false l t) with
     | error k => rw [ho] at h; cases h
     | ok a =>
      obtain ⟨o, t1⟩ := a
      rw [ho] at h
      have h1 := hobj _ _ _ hlt ho
      have h2 := listP_adv hobj f _ _ _ _ h1.2 h
      omega
theorem pairsP_adv {obj : Nat → ObjE} {l : List UInt8} (hobj : ∀ t o t', t < l.length → obj t = .ok (o, t') → t < t' ∧ t' ≤ l.length) : ∀ (f : Nat) (ks : List (List UInt8)) (acc : List PV) (t : Nat) (ks' : List (List UInt8)) (os : List PV) (t' : Nat), t ≤ l.length → pairsP obj l f ks acc t = .ok (ks', os, t') → t < t' ∧ t' ≤ l.length
 | 0, _, _, _, _, _, _, _, h => by cases h
 | f + 1, ks, acc, t, ks', os, t', ht, h => by
  have hs := skipAt_ge l t ht
  simp only [pairsP] at h
  cases hg : l[skipAt false l t]? with
  | none => rw [hg] at h; cases h
  | some c =>
   obtain ⟨hlt, -⟩ := List.getElem?_eq_some_iff.1 hg
   rw [hg] at h
   simp only at h
   split at h
   ·
    cases h
   ·
    split at h
    ·
     next hq =>
     obtain ⟨h2, -⟩ := List.getElem?_eq_some_iff.1 hq.2
     cases h; omega
    ·
     split at h
     ·
      cases h
     ·
      cases hn : nameP l (skipAt false l t + 1) with
      | error k => rw [hn] at h; cases h
      | ok a =>
       obtain ⟨k, t1⟩ := a
       rw [hn] at h
       have hle := nameP_le oO hn
       simp only at h
       split at h
       ·
        cases h
       ·
        split at h
        ·
         cases h
        ·
         have hs1 := skipAt_ge l t1 hle.2
         cases hg1 : l[skipAt false l t1]? with
         | none => rw [hg1] at h; cases h
         | some c1 =>
          obtain ⟨hlt1, -⟩ := List.getElem?_eq_some_iff.1 hg1
          rw [hg1] at h
          simp only at h
          cases ho : obj (skipAt false l t1) with
          | error k => rw [ho] at h; cases h
          | ok a =>
           obtain ⟨o, t2⟩ := a
           rw [ho] at h
           have h1 := hobj _ _ _ hlt1 ho
           have h2 := pairsP_adv hobj f _ _ _ _ _ _ h1.2 h
           omega
theorem textR_adv {l : List UInt8} {t : Nat} {s : List UInt8} {t' : Nat} (ht : t ≤ l.length) (h : textR l t = .ok (s, t')) : t < t' ∧ t' ≤ l.length := by
 have a := nextR_step l t ht
 unfold textR at h
 split at h
 ·
  cases h
 ·
  split at h
  ·
   cases h
  ·
   split at h
   ·
    cases h
   ·
    cases h; omega
theorem word_pos {l : List UInt8} {t : Nat} (ht : t ≤ l.length) (h : wordL l t ≠ []) : t < wordAt l t ∧ wordAt l t ≤ l.length := by
 have b := wordAt_le l t ht
 refine ⟨?_, b.2⟩
 rcases Nat.lt_or_ge t (wordAt l t) with a | a
 ·
  exact a
 ·
  exact ab_ (by unfold wordL; rw [show wordAt l t - t = 0 by omega, List.take_zero]) h
theorem numR_nil : (numR []).2.2 = false := by kernel_rfl
theorem refR_nil (refs : Bool) (l : List UInt8) (t : Nat) : (refR refs l [] t).isSome = false := by
 unfold refR
 have : (wholeV [] 4096).2 = false := by rfl
 rw [this]; simp
theorem refT_adv {refs : Bool} {l s : List UInt8} {t : Nat} (ht : t ≤ l.length) : t ≤ refT (refR refs l s t) t ∧ refT (refR refs l s t) t ≤ l.length := by
 have d := skipAt_ge l t ht
 have a := skipAt_le false l t
 have b := wordAt_le l _ a
 have e := skipAt_ge l _ b.2
 have c := skipAt_le false l (wordAt l (skipAt false l t))
 have f := wordAt_le l _ c
 unfold refR
 split
 ·
  split
  ·
   split
   ·
    show t ≤ wordAt l _ ∧ wordAt l _ ≤ l.length
    omega
   ·
    exact ⟨nr_ _, ht⟩
  ·
   exact ⟨nr_ _, ht⟩
 ·
  exact ⟨nr_ _, ht⟩
theorem plexW_adv {refs : Bool} {l : List UInt8} {t : Nat} (ht : t < l.length) (h : (plexW refs l t).ok = true) : t < (plexW refs l t).np ∧ (plexW refs l t).np ≤ l.length := by
  by_cases hw : wordL l t = []
  · exfalso
    unfold plexW at h
    rw [hw, refR_nil, numR_nil] at h
    simp at h
  · have a := word_pos oO hw
    have b := refT_adv (refs := refs) (s := wordL l t) a.2
    unfold plexW
    split
    · exact a
    · split
      · exact a
      · split
        · exact a
        · split
          · exact ⟨by show t < refT _ _; omega, b.2⟩
          · split
            · exact a
            · exact a
theorem objP_adv (refs : Bool) (l : List UInt8) : ∀ (d t : Nat) (o : PV) (t' : Nat), t < l.length → objP refs l d t = .ok (o, t') → t < t' ∧ t' ≤ l.length := by
 have e : ∀ t (o : PV) t', t < l.length → nameO l (t + 1) = .ok (o, t') → t < t' ∧ t' ≤ l.length := fun t o t' ht h => by
  unfold nameO at h
  cases hn : nameP l (t + 1) with
  | error k => rw [hn] at h; cases h
  | ok a =>
   obtain ⟨k, g⟩ := a
   rw [hn] at h
   have f := nameP_le oO hn
   cases h; omega
 have b : ∀ t (o : PV) t', t < l.length → textP l t = .ok (o, t') → t < t' ∧ t' ≤ l.length := fun t o t' ht h => by
  unfold textP at h
  cases hn : textR l t with
  | error k => rw [hn] at h; cases h
  | ok a =>
   obtain ⟨k, g⟩ := a
   rw [hn] at h
   have f := textR_adv oO hn
   cases h; exact f
 have c : ∀ t (o : PV) t', t < l.length → plainO (plexW refs l t) = .ok (o, t') → t < t' ∧ t' ≤ l.length := fun t o t' ht h => by
  unfold plainO at h
  split at h
  ·
   next hok => have := plexW_adv ht hok; cases h; exact this
  ·
   cases h
 intro d
 induction d with
 | zero =>
  intro t o t' ht h
  simp only [objP] at h
  rw [List.getElem?_eq_getElem ht] at h
  simp only at h
  split at h
  ·
   exact e t o t' ht h
  ·
   split at h
   ·
    cases h
   ·
    split at h
    ·
     exact b t o t' ht h
    ·
     split at h
     ·
      split at h
      ·
       cases h
      ·
       split at h
       ·
        exact b t o t' ht h
       ·
        cases h
     ·
      exact c t o t' ht h
 | succ d ih =>
  intro t o t' ht h
  simp only [objP] at h
  rw [List.getElem?_eq_getElem ht] at h
  simp only at h
  split at h
  ·
   exact e t o t' ht h
  ·
   split at h
   ·
    unfold listO at h
    cases hn : listP (objP refs l d) l (l.length + 1) [] (t + 1) with
    | error k => rw [hn] at h; cases h
    | ok a =>
     obtain ⟨os, g⟩ := a
     rw [hn] at h
     have := listP_adv ih _ _ _ _ _ oO hn
     cases h; omega
   ·
    split at h
    ·
     exact b t o t' ht h
    ·
     split at h
     ·
      split at h
      ·
       cases h
      ·
       split at h
       ·
        exact b t o t' ht h
       ·
        unfold pairsO at h
        cases hn : pairsP (objP refs l d) l (l.length + 1) [] [] (t + 2) with
        | error k => rw [hn] at h; cases h
        | ok a =>
         obtain ⟨ks, os, g⟩ := a
         rw [hn] at h
         have := pairsP_adv ih _ _ _ _ _ _ _ oO hn
         cases h; omega
     ·
      exact c t o t' ht h
theorem objP_at (refs : Bool) (l : List UInt8) (d : Int) (t : Nat) (x : UInt8) (h : l[t]? = some x) : objP refs l d.toNat t =
    if x = 47 then nameO l (t + 1)
    else if x = 91 then (if d < 1 then .error 25 else listO (listP (objP refs l (d - 1).toNat) l (l.length + 1) [] (t + 1)))
    else if x = 40 then textP l t
    else if x = 60 then (if l.length ≤ t + 1 then .error 24 else if l[t + 1]? ≠ some 60 then textP l t else if d < 1 then .error 25 else pairsO (pairsP (objP refs l (d - 1).toNat) l (l.length + 1) [] [] (t + 2)))
    else plainO (plexW refs l t) := by
  by_cases hd : d < 1
  · rw [show d.toNat = 0 by omega, if_pos hd]
    simp only [objP, h]
    rw [if_pos hd]
  · rw [show d.toNat = (d - 1).toNat + 1 by omega, if_neg hd]
    simp only [objP, h]
    rw [if_neg hd]
theorem plex_object (p : Option Addr) (l : List UInt8) (c : Nat) (refs : Bool) (hc : l.length ≤ c) (hl : l.length ≤ 100000000) (D : Int) (hD : -9223372036854775808 < D ∧ D ≤ 1000000000) (hO : 1 ≤ D → ObjC p l c refs (D - 1)) : ObjC p l c refs D := by
 intro r t w h g ht
 have hr := h.1
 have hb := h.2
 obtain ⟨X, hX⟩ : ∃ X, X = objP refs l D.toNat t := ⟨_, rfl⟩
 rw [← hX]
 have hg : l[t]? = some l[t] := List.getElem?_eq_getElem ht
 rw [objP_at refs l D t l[t] hg] at hX
 obtain ⟨Wd, bq⟩ : ∃ Wd, Wd = plexW refs l t := ⟨_, rfl⟩
 have cj : ∀ w1, PRd w1 r p l c t refs → Calls Tryz.prog 47 #[.pointer (some ⟨r, 0, none⟩)] w1 fun e w' => e = .returned Wd.val ∧ PRd w' r p l c Wd.np refs ∧ Touch w1.heap.size r w1 w' := fun w1 h1 => by rw [bq]; exact plex_word r p l c t refs w1 h1 g hc hl oO
 rw [← bq] at hX
 refine W.e func46 rfl ntmps46 bL ?_
 have bt := Touch.refl (w.heap.size) r w
 refine W.sr <| WL.al z99_ rfl (fun b1 c' ax bu ae cV => ?_)
 have ck := bgl ax hr.lt
 have ay := hr.un ae ck
 have f := fun h0 => ax ▸ hb.lt h0
 have az := bup hb ae f
 have b6 := bge ax bt.size
 have cl := tt_ bt (tn_ ae b6)
 refine WL.e <| W.seq <| W.seq ?_
 have d0 : r < b1 := by have := hr.lt; omega
 refine W.regQ mixed kR <| WQ.p (.mv rfl) rfl <| WQ.p (.nck rfl) rfl <| WQ.p (.fa u112_ rfl s22_ dD rfl) rfl <| WQ.r (fun m => Rd.ld (g22_ _) rfl ay rfl) rfl <| WQ.p (.mv rfl) rfl <| WQ.p (.nck rfl) rfl <| WQ.p (.fa u112_ rfl s3_ dD rfl) rfl <| WQ.r (fun m => Rd.ld (g3_ _) rfl ay rfl) rfl <| WQ.p (.ixb u22_ s5_ rfl rfl (az.isp (by first | omega | exact nz_ _)) (t) (rfl) (ht)) rfl <| WQ.r (fun m => Rd.iis ((l[t].toNat : Int)) (Rd.ldc (g5_ _) rfl ((az.drewN m).cells (t) (ht))) oO) rfl <| WQ.p (.as rfl) rfl <| WQ.nil (fun w7 ar => ?_)
 have i := ay.drew ar
 have G := bu.drew ar
 have H := az.drew ar
 have a := tt_ cl (td_ ar)
 refine W.sr <| WL.M rfl <| WL.e <| W.b <| W.sr <| WL.O (.eql rfl rfl) <| WL.Z rfl <| W.cond rfl (fun aA => ?_) (fun aA => ?_)
 have bv := dT aA
 have aB : l[t] = 47 := u8_eq aS
 rw [if_pos aB] at hX
 refine W.sr <| WL.M rfl <| WL.O (.nck rfl) <| WL.O (.fa u112_ rfl s3_ dD rfl) <| WL.R (Rd.ld (g3_ _) rfl i rfl) <| WL.O (.iis (((t + 1 : Nat) : Int)) (.add rfl rfl (i64w oO)) oO) <| WL.O (.nck rfl) <| WL.O (.fa u112_ rfl s3_ dD rfl) <| WL.st s3_ rfl rfl rfl i oD (fun cm P j cM => ?_)
 have P : Blk cm r _ _ := P
 have j : Upd r _ _ := j
 have aC := G.up j
 have bw := BytesAt.upd H j g
 have Q := tt_ a (Touch.of_upd j)
 refine WL.e <| W.sr <| WL.M rfl <| WL.ce hB_ rfl rfl ((plex_name r p l c (t + 1) refs _ ⟨P, bw⟩ g hc hl oO)) (fun cn co U v => ?_) (fun cq co U v => ?_)
 have aD := tt_ Q (tm_ v Q.size)
 exact pn_is (ee_ cn (by rw [hX]; unfold nameO; rw [U]) aD)
 have bx := v.1.1
 have bz := bo_ aC v.2 aC.lt oO
 have bA := v.1.2
 have bB := tt_ Q (tm_ v.2 Q.size)
 have aa := U
 obtain ⟨sN, tN⟩ := cq
 refine WL.O (.buildL (ps := _) blt99 rfl rfl rfl pS) ?_
 refine WL.stL rfl rfl bz isz99 rfl rfl (fun d1 b7 V cN => ?_)
 have bC := bx.up V
 have bD := bup bA V f
 have bE := tt_ bB (tn_ V oO)
 refine WL.e <| W.ret (W.retc1 rfl rfl (ldRow b7 u99_ rfl isz99)  ?_)
 exact eo_ (pv0 4 0 sN, tN) _ (by rw [hX]; unfold nameO; rw [aa]) rfl ⟨pc0 4 0 sN, rfl, PRep.zero _ _ _ _ _, ⟨bC, bD⟩, bE⟩
 have bv := dF aA
 have aB : l[t] ≠ 47 := u8_ne (d := 47) aS
 rw [if_neg aB] at hX
 refine W.sr <| WL.O (.eql rfl rfl) <| WL.Z rfl <| W.cond rfl (fun aE => ?_) (fun aE => ?_)
 have bG := dT aE
 have aF : l[t] = 91 := u8_eq aS
 rw [if_pos aF] at hX
 refine W.seq <| W.sr <| WL.M rfl <| WL.O (.lss rfl rfl) <| WL.e <| W.cond rfl (fun aG => ?_) (fun aG => ?_)
 have bH := dT aG
 refine W.reg <| WL.cp hB_ rfl ((plex_fail 25 _)) (fun d2 bI => ?_)
 obtain rfl := bI
 exact pn_is (ee_ 25 (by rw [hX, if_pos oO]) a)
 have bH := dF aG
 refine W.k <| W.sr <| WL.M rfl <| WL.O (.nck rfl) <| WL.O (.fa u112_ rfl s3_ dD rfl) <| WL.R (Rd.ld (g3_ _) rfl i rfl) <| WL.O (.iis (((t + 1 : Nat) : Int)) (.add rfl rfl (i64w oO)) oO) <| WL.O (.nck rfl) <| WL.O (.fa u112_ rfl s3_ dD rfl) <| WL.st s3_ rfl rfl rfl i oD (fun cr Y o cO => ?_)
 have Y : Blk cr r _ _ := Y
 have o : Upd r _ _ := o
 have af := G.up o
 have bJ := BytesAt.upd H o g
 have J := tt_ a (Touch.of_upd o)
 refine WL.e <| W.sr <| WL.M rfl <| WL.M rfl <| WL.O (.sub rfl rfl (i64w oO)) <| WL.cx hB_ rfl rfl ((plex_list p l c refs (D - 1) (hO oO) (objP_adv refs l _) r (t + 1) _ ⟨Y, bJ⟩ g hl oO)) (fun ct cu a0 ag => ?_) (fun cv d3 cu a0 ag => ?_)
 have aH := tt_ J (tm_ ag J.size)
 exact pn_is (ee_ ct (by rw [hX, if_neg oO, a0]) aH)
 have aI := a0
 obtain ⟨oX, tX⟩ := cv
 obtain ⟨x1, rfl, aJ, K, ab⟩ := ag
 have ah := aJ.mono (T := fun k => b1 < k ∧ w.heap.size ≤ k) (fun k hk _ => by have h1 := (af).lt; have h2 := J.size; omega)
 have ai := bo_ af ab (af).lt oO
 have aK := tt_ J (tm_ ab J.size)
 have aL := K.1
 have aM := K.2
 refine WL.stL rfl rfl ai isz99 rfl rfl (fun cw b8 C cP => ?_)
 have bK := PRep.same (w1 := cw) ah (fun k hk hl => C.other k (by first | ((try simp only) <;> omega) | (have := hk.1; ((try simp only) <;> omega))))
 have bM := aL.upd C oM
 have bN := bup aM C f
 have bO := tt_ aK (tn_ C oO)
 refine WL.e <| W.ret (W.retc1 rfl rfl (ldRow b8 u99_ rfl isz99)  ?_)
 exact eo_ (oX, tX) _ (by rw [hX, if_neg oO, aI]) rfl ⟨x1, rfl, (bK).mono (fun k hk _ => hk.2), ⟨bM, bN⟩, bO⟩
 have bG := dF aE
 have aF : l[t] ≠ 91 := u8_ne (d := 91) aS
 rw [if_neg aF] at hX
 refine W.sr <| WL.O (.eql rfl rfl) <| WL.Z rfl <| W.cond rfl (fun aN => ?_) (fun aN => ?_)
 have bP := dT aN
 have aO : l[t] = 40 := u8_eq aS
 rw [if_pos aO] at hX
 refine W.sr <| WL.M rfl <| WL.ce hB_ rfl rfl ((plex_text r p l c t refs _ ⟨i, H⟩ g hc hl ht)) (fun cy cz a1 x => ?_) (fun cA cz a1 x => ?_)
 have aP := tt_ a (tm_ x a.size)
 exact pn_is (ee_ cy (by rw [hX]; unfold textP; rw [a1]) aP)
 have bQ := x.1.1
 have bR := bo_ G x.2 G.lt oO
 have bS := x.1.2
 have bT := tt_ a (tm_ x.2 a.size)
 have aa := a1
 obtain ⟨sN, tN⟩ := cA
 refine WL.stL rfl rfl bR isz99 rfl rfl (fun d4 b9 a2 cQ => ?_)
 have bU := bQ.up a2
 have bV := bup bS a2 f
 have bW := tt_ bT (tn_ a2 oO)
 refine WL.e <| W.ret (W.retc1 rfl rfl (ldRow b9 u99_ rfl isz99)  ?_)
 exact eo_ (pv0 5 0 sN, tN) _ (by rw [hX]; unfold textP; rw [aa]) rfl ⟨pc0 5 0 sN, rfl, PRep.zero _ _ _ _ _, ⟨bU, bV⟩, bW⟩
 have bP := dF aN
 have aO : l[t] ≠ 40 := u8_ne (d := 40) aS
 rw [if_neg aO] at hX
 refine W.sr <| WL.O (.eql rfl rfl) <| WL.Z rfl <| W.cond rfl (fun aQ => ?_) (fun aQ => ?_)
 have bX := dT aQ
 have aR : l[t] = 60 := u8_eq aS
 rw [if_pos aR] at hX
 refine W.seq <| W.seq <| W.regQ mixed kR <| WQ.p (.mv rfl) rfl <| WQ.p (.nck rfl) rfl <| WQ.p (.fa u112_ rfl s3_ dD rfl) rfl <| WQ.r (fun m => Rd.ld (g3_ _) rfl i rfl) rfl <| WQ.p (.iis ((t : Int) + 1) (.add rfl rfl (i64w oO)) oO) rfl <| WQ.p (.mv rfl) rfl <| WQ.p (.nck rfl) rfl <| WQ.p (.fa u112_ rfl s22_ dD rfl) rfl <| WQ.r (fun m => Rd.ld (g22_ _) rfl i rfl) rfl <| WQ.p (.lenS u22_ rfl) rfl <| WQ.p (.geq rfl rfl) rfl <| WQ.nil (fun d5 a3 => ?_)
 have aj := i.drew a3
 have bY := G.drew a3
 have ak := H.drew a3
 have aT := tt_ a (td_ a3)
 refine W.cond rfl (fun aU => ?_) (fun aU => ?_)
 have bZ := dT aU
 refine W.reg <| WL.cp hB_ rfl ((plex_fail 24 _)) (fun d6 b' => ?_)
 obtain rfl := b'
 exact pn_is (ee_ 24 (by rw [hX, if_pos oO]) aT)
 have bZ := dF aU
 have c0 : t + 1 < l.length := by omega
 have ac : l[t + 1]? = some l[t + 1] := List.getElem?_eq_getElem c0
 refine W.k <| W.seq <| W.seq <| W.regQ mixed kR <| WQ.p (.mv rfl) rfl <| WQ.p (.nck rfl) rfl <| WQ.p (.fa u112_ rfl s22_ dD rfl) rfl <| WQ.r (fun m => Rd.ld (g22_ _) rfl aj rfl) rfl <| WQ.p (.mv rfl) rfl <| WQ.p (.nck rfl) rfl <| WQ.p (.fa u112_ rfl s3_ dD rfl) rfl <| WQ.r (fun m => Rd.ld (g3_ _) rfl aj rfl) rfl <| WQ.p (.iis (((t + 1 : Nat) : Int)) (.add rfl rfl (i64w oO)) oO) rfl <| WQ.p (.ixb u22_ s5_ rfl rfl (ak.isp (by first | omega | exact nz_ _)) (t + 1) oO oO) rfl <| WQ.r (fun m => Rd.ldc (g5_ _) rfl ((ak.drewN m).cells (t + 1) oO)) rfl <| WQ.p (.neq rfl rfl) rfl <| WQ.nil (fun d7 a4 => ?_)
 have am := aj.drew a4
 have an := bY.drew a4
 have aV := ak.drew a4
 have y := tt_ aT (td_ a4)
 refine W.cond rfl (fun aW => ?_) (fun aW => ?_)
 have c2 := ndT aW
 refine W.sr <| WL.M rfl <| WL.ce hB_ rfl rfl ((plex_text r p l c t refs _ ⟨am, aV⟩ g hc hl ht)) (fun cB cC a5 B => ?_) (fun cD cC a5 B => ?_)
 have aX := tt_ y (tm_ B y.size)
 exact pn_is (ee_ cB (by rw [hX, if_neg oO, if_pos (by rw [ac]; exact fun e => u8_ne (d := 60) aS (Option.some.inj e))]; unfold textP; rw [a5]) aX)
 have c3 := B.1.1
 have c4 := bo_ an B.2 an.lt oO
 have c5 := B.1.2
 have c6 := tt_ y (tm_ B.2 y.size)
 have aa := a5
 obtain ⟨sN, tN⟩ := cD
 refine WL.stL rfl rfl c4 isz99 rfl rfl (fun d8 ba a6 cR => ?_)
 have c7 := c3.up a6
 have c8 := bup c5 a6 f
 have c9 := tt_ c6 (tn_ a6 oO)
 refine WL.e <| W.ret (W.retc1 rfl rfl (ldRow ba u99_ rfl isz99)  ?_)
 exact eo_ (pv0 5 0 sN, tN) _ (by rw [hX, if_neg oO, if_pos (by rw [ac]; exact fun e => u8_ne (d := 60) aS (Option.some.inj e))]; unfold textP; rw [aa]) rfl ⟨pc0 5 0 sN, rfl, PRep.zero _ _ _ _ _, ⟨c7, c8⟩, c9⟩
 have c2 := ndF aW
 refine W.k <| W.seq <| W.sr <| WL.M rfl <| WL.O (.lss rfl rfl) <| WL.e <| W.cond rfl (fun aY => ?_) (fun aY => ?_)
 have ca := dT aY
 refine W.reg <| WL.cp hB_ rfl ((plex_fail 25 _)) (fun d9 cb => ?_)
 obtain rfl := cb
 exact pn_is (ee_ 25 (by rw [hX, if_neg oO, if_neg (fun e => e (by rw [ac, show l[t + 1] = 60 from u8_eq (d := 60) aS])), if_pos oO]) y)
 have ca := dF aY
 refine W.k <| W.sr <| WL.M rfl <| WL.O (.nck rfl) <| WL.O (.fa u112_ rfl s3_ dD rfl) <| WL.R (Rd.ld (g3_ _) rfl am rfl) <| WL.O (.iis (((t + 2 : Nat) : Int)) (.add rfl rfl (i64w oO)) oO) <| WL.O (.nck rfl) <| WL.O (.fa u112_ rfl s3_ dD rfl) <| WL.st s3_ rfl rfl rfl am oD (fun cE a7 q cS => ?_)
 have a7 : Blk cE r _ _ := a7
 have q : Upd r _ _ := q
 have ao := an.up q
 have cc := BytesAt.upd aV q g
 have L := tt_ y (Touch.of_upd q)
 refine WL.e <| W.sr <| WL.M rfl <| WL.M rfl <| WL.O (.sub rfl rfl (i64w oO)) <| WL.cx hB_ rfl rfl ((plex_pairs p l c refs (D - 1) (hO oO) (objP_adv refs l _) r (t + 2) _ ⟨a7, cc⟩ g hc hl oO)) (fun cF cG a8 ap => ?_) (fun cH da cG a8 ap => ?_)
 have aZ := tt_ L (tm_ ap L.size)
 exact pn_is (ee_ cF (by rw [hX, if_neg oO, if_neg (fun e => e (by rw [ac, show l[t + 1] = 60 from u8_eq (d := 60) aS])), if_neg oO, a8]) aZ)
 have aI := a8
 obtain ⟨oX, tX⟩ := cH
 obtain ⟨x1, rfl, aJ, K, ab⟩ := ap
 have ah := aJ.mono (T := fun k => b1 < k ∧ w.heap.size ≤ k) (fun k hk _ => by have h1 := (ao).lt; have h2 := L.size; omega)
 have ai := bo_ ao ab (ao).lt oO
 have aK := tt_ L (tm_ ab L.size)
 have aL := K.1
 have aM := K.2
 refine WL.stL rfl rfl ai isz99 rfl rfl (fun cI bb E cT => ?_)
 have cd := PRep.same (w1 := cI) ah (fun k hk hl => E.other k (by first | ((try simp only) <;> omega) | (have := hk.1; ((try simp only) <;> omega))))
 have cf := aL.upd E oM
 have cg := bup aM E f
 have ci := tt_ aK (tn_ E oO)
 refine WL.e <| W.ret (W.retc1 rfl rfl (ldRow bb u99_ rfl isz99)  ?_)
 exact eo_ (oX, tX) _ (by rw [hX, if_neg oO, if_neg (fun e => e (by rw [ac, show l[t + 1] = 60 from u8_eq (d := 60) aS])), if_neg oO, aI]) rfl ⟨x1, rfl, (cd).mono (fun k hk _ => hk.2), ⟨cf, cg⟩, ci⟩
 have bX := dF aQ
 have aR : l[t] ≠ 60 := u8_ne (d := 60) aS
 rw [if_neg aR] at hX
 refine W.k <| W.sr <| WL.M rfl <| WL.c1 hB_ rfl rfl ((cj _ ⟨i, H⟩)) (fun db a9 => ?_)
 have a' := a9.1.1
 have b0 := bo_ G a9.2 G.lt oO
 have b2 := a9.1.2
 have au := tt_ a (tm_ a9.2 a.size)
 refine WL.M rfl <| WL.O (.ext rfl rfl) <| WL.O (.ext rfl rfl) <| WL.O (.ext rfl rfl) <| WL.al z99_ rfl (fun cW cU F b3 s cJ => ?_)
 have bc := bgl F a'.lt
 have bd := a'.un s bc
 have be := bgl F b0.lt
 have bf := b0.un s be
 have ad := fun h0 => F ▸ b2.lt h0
 have bg := bup b2 s ad
 have aw := bge F au.size
 have bh := tt_ au (tn_ s aw)
 refine WL.stL rfl rfl b3 isz99 rfl rfl (fun cX b4 u cK => ?_)
 have bi := bd.up u
 have bj := bf.up u
 have bk := bup bg u ad
 have av := tt_ bh (tn_ u oO)
 refine WL.A rfl <| WL.Z rfl <| W.seq <| W.sr <| WL.M rfl <| WL.O (.not rfl) <| WL.e <| W.cond rfl (fun aq => ?_) (fun aq => ?_)
 have bl := (nT aq)
 refine W.reg <| WL.cp hB_ rfl ((plex_fail 23 _)) (fun cY bm => ?_)
 obtain rfl := bm
 exact pn_is (ee_ 23 (by rw [hX]; unfold plainO; rw [if_neg (bF aS)]) av)
 have bl := (nF aq)
 refine W.k <| W.sr <| WL.R (Rd.ldA rfl b4 u99_ rfl isz99) <| WL.stL rfl rfl bj isz99 rfl rfl (fun cZ b5 N cL => ?_)
 have bn := bi.up N
 have bo := bup bk N f
 have bp := tt_ av (tn_ N oO)
 refine WL.e <| W.ret (W.retc1 rfl rfl (ldRow b5 u99_ rfl isz99)  ?_)
 exact eo_ (pv0 Wd.kind Wd.n [], Wd.np) _ (by rw [hX]; unfold plainO; rw [if_pos aS]) rfl ⟨pc0 Wd.kind Wd.n [], rfl, PRep.zero _ _ _ _ _, ⟨bn, bo⟩, bp⟩
end
section
theorem ObjC_all (p : Option Addr) (l : List UInt8) (c : Nat) (refs : Bool) (hc : l.length ≤ c) (hl : l.length ≤ 100000000) : ∀ (n : Nat) (D : Int), D.toNat ≤ n → -9223372036854775808 < D ∧ D ≤ 1000000000 → ObjC p l c refs D
 | 0, D, hn, hD => plex_object p l c refs hc hl D hD fun h => by omega
 | n + 1, D, hn, hD => plex_object p l c refs hc hl D hD fun h => ObjC_all p l c refs hc hl n (D - 1) oO oO
def Err3 (k : Int) : Prop := k = 23 ∨ k = 24 ∨ k = 25
theorem Err3.ne {k : Int} (h : Err3 k) : k ≠ 0 := by unfold Err3 at h; omega
theorem nameP_err {l : List UInt8} {t : Nat} {k : Int} (h : nameP l t = .error k) : Err3 k := by
 unfold nameP at h
 split at h
 ·
  cases h; exact .inl rfl
 ·
  split at h
  ·
   cases h; exact .inl rfl
  ·
   split at h
   ·
    cases h; exact .inr (.inr rfl)
   ·
    cases h
theorem textR_err {l : List UInt8} {t : Nat} {k : Int} (h : textR l t = .error k) : Err3 k := by
 unfold textR at h
 split at h
 ·
  cases h; exact .inr (.inl rfl)
 ·
  split at h
  ·
   cases h; exact .inr (.inr rfl)
  ·
   split at h
   ·
    cases h; exact .inl rfl
   ·
    cases h
theorem listP_err {obj : Nat → ObjE} {l : List UInt8} (hobj : ∀ t k, obj t = .error k → Err3 k) : ∀ (f : Nat) (acc : List PV) (t : Nat) (k : Int), listP obj l f acc t = .error k → Err3 k
 | 0, _, _, _, h => by cases h; exact .inr (.inl rfl)
 | f + 1, acc, t, k, h => by
  simp only [listP] at h
  split at h
  ·
   cases h; exact .inr (.inl rfl)
  ·
   split at h
   ·
    cases h
   ·
    split at h
    ·
     cases h; exact .inr (.inr rfl)
    ·
     split at h
     ·
      next ho => cases h; exact hobj _ _ ho
     ·
      exact listP_err hobj f _ _ _ h
theorem pairsP_err {obj : Nat → ObjE} {l : List UInt8} (hobj : ∀ t k, obj t = .error k → Err3 k) : ∀ (f : Nat) (ks : List (List UInt8)) (acc : List PV) (t : Nat) (k : Int), pairsP obj l f ks acc t = .error k → Err3 k
 | 0, _, _, _, _, h => by cases h; exact .inr (.inl rfl)
 | f + 1, ks, acc, t, k, h => by
  simp only [pairsP] at h
  split at h
  ·
   cases h; exact .inr (.inl rfl)
  ·
   split at h
   ·
    cases h; exact .inr (.inl rfl)
   ·
    split at h
    ·
     cases h
    ·
     split at h
     ·
      cases h; exact .inl rfl
     ·
      split at h
      ·
       next hn => cases h; exact nameP_err hn
      ·
       split at h
       ·
        cases h; exact .inl rfl
       ·
        split at h
        ·
         cases h; exact .inr (.inr rfl)
        ·
         split at h
         ·
          cases h; exact .inr (.inl rfl)
         ·
          split at h
          ·
           next ho => cases h; exact hobj _ _ ho
          ·
           exact pairsP_err hobj f _ _ _ _ h
theorem objP_err (refs : Bool) (l : List UInt8) : ∀ (d t : Nat) (k : Int), objP refs l d t = .error k → Err3 k := by
 have b : ∀ t (k : Int), nameO l t = .error k → Err3 k := fun t k h => by
  unfold nameO at h
  split at h
  ·
   next hn => cases h; exact nameP_err hn
  ·
   cases h
 have c : ∀ t (k : Int), textP l t = .error k → Err3 k := fun t k h => by
  unfold textP at h
  split at h
  ·
   next hn => cases h; exact textR_err hn
  ·
   cases h
 have a : ∀ t (k : Int), plainO (plexW refs l t) = .error k → Err3 k := fun t k h => by
  unfold plainO at h
  split at h
  ·
   cases h
  ·
   cases h; exact .inl rfl
 intro d
 induction d with
 | zero =>
  intro t k h
  simp only [objP] at h
  repeat' split at h
  all_goals first | exact b _ _ h | exact c _ _ h | exact a _ _ h | (cases h; first | exact .inl rfl | exact .inr (.inl rfl) | exact .inr (.inr rfl))
 | succ d ih =>
  have f : ∀ t (k : Int), listO (listP (objP refs l d) l (l.length + 1) [] t) = .error k → Err3 k := fun t k h => by
   unfold listO at h
   split at h
   ·
    next hn => cases h; exact listP_err ih _ _ _ _ hn
   ·
    cases h
  have e : ∀ t (k : Int), pairsO (pairsP (objP refs l d) l (l.length + 1) [] [] t) = .error k → Err3 k := fun t k h => by
   unfold pairsO at h
   split at h
   ·
    next hn => cases h; exact pairsP_err ih _ _ _ _ _ hn
   ·
    cases h
  intro t k h
  simp only [objP] at h
  repeat' split at h
  all_goals first | exact b _ _ h | exact c _ _ h | exact a _ _ h | exact f _ _ h | exact e _ _ h | (cases h; first | exact .inl rfl | exact .inr (.inl rfl) | exact .inr (.inr rfl))
def tokP (l : List UInt8) (a : Int) : PV × List UInt8 × Int × Int :=
 if a < 0 ∨ (l.length : Int) < a then (pv0 0 0 [], [], 0, 21)
 else if h : skipAt false l a.toNat < l.length then
  (if regB l[skipAt false l a.toNat] then
   (pv0 (plexW false l (skipAt false l a.toNat)).kind (plexW false l (skipAt false l a.toNat)).n [], if (plexW false l (skipAt false l a.toNat)).ok then [] else (plexW false l (skipAt false l a.toNat)).word, (plexW false l (skipAt false l a.toNat)).np, 0)
  else match objP false l 32 (skipAt false l a.toNat) with
   | .ok (o, t') => (o, [], t', 0)
   | .error k => (pv0 0 0 [], [], 0, k))
 else (pv0 0 0 [], [], 0, 26)
def TokS (B : Nat) (R : PV × List UInt8 × Int × Int) (e : Ending) (w' : World) : Prop :=
 ∃ x : PC, e = .returned (.tuple #[.agg (pcV x).toArray, .string (bs R.2.1), .int .i64 R.2.2.1, .int .i64 R.2.2.2]) ∧ PRep w' (fun k => B ≤ k) x R.1
section
variable {P : Program} {fn : Func} {f : Fr} {w : World}
theorem ResOk.cells4 {a b c d : Tmp} {ta tb tc td : TypeId} {pa pb pc pd : Addr} {x y z u : Value} (hr : fn.results = #[.cell a ta, .cell b tb, .cell c tc, .cell d td]) (ha : look f a = some (.pointer (some pa))) (hb : look f b = some (.pointer (some pb))) (hc : look f c = some (.pointer (some pc))) (hd : look f d = some (.pointer (some pd)))
  (hx : (loadVar ta pa).run P w = .ok x w) (hy : (loadVar tb pb).run P w = .ok y w) (hz : (loadVar tc pc).run P w = .ok z w) (hu : (loadVar td pd).run P w = .ok u w) : ResOk P fn f w (.tuple #[x, y, z, u]) := fun tmps hh => by
 have e1 := hh _ _ ha; have e2 := hh _ _ hb; have e3 := hh _ _ hc; have e4 := hh _ _ hd
 simp only [Array.getD_eq_getD_getElem?] at e1 e2 e3 e4
 simp [results, hr, e1, e2, e3, e4, asAddr, hx, hy, hz, hu]
end
theorem tok_quiet (b1 b2 b3 b5 : Nat) (w : World) (h : Blk w b5 #[.int .i64 0] 30) :
  CallsD Tryz.prog 43 #[.pointer (some ⟨b5, 0, none⟩), .pointer (some ⟨b1, 0, none⟩), .pointer (some ⟨b2, 0, none⟩), .pointer (some ⟨b3, 0, none⟩)] .returning w fun e u' w' => u' = .returning ∧ (∃ v, e = .returned v) ∧ w' = w := by
 refine CallsD.rec func43 rfl ntmps43 bL rfl <| WL.c1 hB_ rfl rfl ((guard_nil _ _)) (fun b a => ?_)
 obtain rfl := a
 refine WL.e <| W.sr <| WL.R (Rd.ld (g30_ _) rfl h rfl) <| WL.O (.neq rfl rfl) <| WL.e <| W.condF rfl rfl <| W.k <| W.norm (W.ret0 rfl ?_)
 exact ⟨⟨_, rfl⟩, rfl⟩
theorem tok_caught (b1 b2 b3 b5 B : Nat) (c0 c1 c2 c3 c4 c5 : Value) (s : List UInt8) (i j k : Int) (w : World) (h1 : Blk w b1 [c0, c1, c2, c3, c4, c5].toArray 99) (h2 : Blk w b2 #[.string (bs s)] 9) (h3 : Blk w b3 #[.int .i64 i] 3) (h5 : Blk w b5 #[.int .i64 j] 30) (hB1 : B ≤ b1) (h12 : b1 < b2) (h23 : b2 < b3) (h35 : b3 < b5) (hk : k ≠ 0) :
  CallsD Tryz.prog 43 #[.pointer (some ⟨b5, 0, none⟩), .pointer (some ⟨b1, 0, none⟩), .pointer (some ⟨b2, 0, none⟩), .pointer (some ⟨b3, 0, none⟩)] (.panicking [{ v := .iface 30 (.int .i64 k), recovered := false }]) w
   fun e u' w' => u' = .panicking [{ v := .iface 30 (.int .i64 k), recovered := true }] ∧ (∃ v, e = .returned v) ∧
    Blk w' b1 (pobj 0 0 []).toArray 99 ∧ Blk w' b2 #[.string (bs [])] 9 ∧ Blk w' b3 #[.int .i64 0] 3 ∧ Blk w' b5 #[.int .i64 k] 30 ∧ Below B w w' := by
 refine CallsD.rec func43 rfl ntmps43 bL rfl ?_
 have y := br_ (B) w
 refine WL.c1 hB_ rfl rfl ((guard_err b5 B _ k _ h5 oO)) (fun Q A => ?_)
 obtain ⟨l, g⟩ := A
 have hb1 := (h1).upd g oO
 have hb2 := (h2).upd g oO
 have hb3 := (h3).upd g oO
 have C := ub_ y oO g
 refine WL.e <| W.sr <| WL.R (Rd.ld (g30_ _) rfl l rfl) <| WL.O (.bis (true) (.neq rfl rfl) (by simp [hk])) <| WL.e <| W.condT rfl rfl ?_
 refine W.reg <| WL.O (.buildL (ps := _) blt99 rfl rfl rfl pZ) ?_
 refine WL.stL rfl rfl hb1 isz99 rfl rfl (fun T m c M => ?_)
 have D := l.upd c oM
 have E := hb2.upd c oM
 have F := hb3.upd c oM
 have G := ub_ C oO c
 refine WL.st s9_ rfl rfl rfl E oD (fun N f b P => ?_)
 have f : Blk N b2 _ _ := f
 have b : Upd b2 _ _ := b
 have H := D.up b
 have J := m.up b
 have n := F.up b
 have o := ub_ G oO b
 refine WL.st s3_ rfl rfl rfl n oD (fun K d a L => ?_)
 have d : Blk K b3 _ _ := d
 have a : Upd b3 _ _ := a
 have q := H.up a
 have t := J.up a
 have u := f.up a
 have x := ub_ o oO a
 refine WL.e <| W.norm (W.ret0 rfl ?_)
 exact ⟨⟨_, rfl⟩, t, u, d, q, x⟩
end
section
theorem plex_Token (p : Option Addr) (l : List UInt8) (c : Nat) (a : Int) (w : World) (hb : BytesAt w p l) (hc : l.length ≤ c) (hl : l.length ≤ 100000000) :
    Calls Tryz.prog 34 #[.slice p l.length c, .int .i64 a] w fun e w' => TokS w.heap.size (tokP l a) e w' ∧ Below w.heap.size w w' := by
  obtain ⟨R, hR⟩ : ∃ R, R = tokP l a := ⟨_, rfl⟩; rw [← hR]; unfold tokP at hR; obtain ⟨t, ht⟩ : ∃ t, t = skipAt false l (insA l a) := ⟨_, rfl⟩; have fu : ∀ w1, BytesAt w1 p l → Calls Tryz.prog 42 #[.slice p l.length c, .int .i64 a] w1 fun e w' => e = .returned (.int .i64 (t : Int)) ∧ w1 = w' := fun w1 h1 => by rw [ht]; exact plex_Skip p l c a w1 h1 hl
  have hO : t ≤ l.length := by rw [ht]; exact skipAt_le _ _ _
  have fv : ¬ (a < 0 ∨ (l.length : Int) < a) → skipAt false l a.toNat = t := fun h => by rw [ht]; unfold insA; rw [if_neg h]
  obtain ⟨X, hX⟩ : ∃ X, X = plexW false l t := ⟨_, rfl⟩; have fw : ∀ r w1, PRd w1 r p l c t false → (0 < l.length → (pA p).block ≠ r) → Calls Tryz.prog 47 #[.pointer (some ⟨r, 0, none⟩)] w1 fun e w' => e = .returned X.val ∧ PRd w' r p l c X.np false ∧ Touch w1.heap.size r w1 w' := fun r w1 h1 h2 => by rw [hX]; exact plex_word r p l c t false w1 h1 h2 hc hl oO
  refine W.enterD func34 rfl ntmps34 bL ?_; have eh := br_ (w.heap.size) w; refine WD.seq <| W.reg <| WL.al z99_ rfl (fun Q hP dx dy dz hu => ?_); have dA := fun h0 => dx ▸ hb.lt h0
  have ei := bup hb dz dA; have ej := uB eh dx dz; have hd := bge dx eh.size; refine WL.al zeroValue9 rfl (fun f hQ d6 dB d1 hv => ?_); have fx := bgl d6 dy.lt; have ek := dy.un d1 fx; have d2 := fun h0 => d6 ▸ ei.lt h0
  have el := bup ei d1 d2; have dC := uB ej d6 d1; have he := bge d6 ej.size; refine WL.al z3_ rfl (fun b hx bQ d7 bM hf => ?_); have em := bgl bQ ek.lt; have dE := ek.un bM em; have en := bgl bQ dB.lt; have dG := dB.un bM en; have e7 := fun h0 => bQ ▸ el.lt h0
  have dH := bup el bM e7; have dI := uB dC bQ bM; have fy := bge bQ dC.size; refine WL.al zeroValue30 rfl (fun d hy bG bN b6 hg => ?_); have eo := bgl bG dE.lt; have cA := dE.un b6 eo; have ep := bgl bG dG.lt; have cB := dG.un b6 ep; have eq := bgl bG d7.lt; have cC := d7.un b6 eq; have e8 := fun h0 => bG ▸ dH.lt h0
  have d3 := bup dH b6 e8; have cD := uB dI bG b6; have fz := bge bG dI.size; refine WL.e <| WD.seq <| W.cutB 17 (decide (a < 0 ∨ (l.length : Int) < a)) ?_ ?_; refine W.reg <| WL.M rfl <| WL.O (.lss rfl rfl) <| WL.M rfl <| WL.gd rfl rfl rfl (fun aM => ?_) (fun aM => ?_)
  · have er := dF aM
    refine WL.M rfl <| WL.Y aM <| WL.M rfl <| WL.Y aM <| WL.O (.lenS u22_ rfl) <| WL.Y aM <| WL.O (.gtr rfl rfl) <| WL.O (.pkF rfl aM rfl) <| WL.e <| ?_; exact ⟨leF rfl, rfl⟩
  have er := dT aM; refine WL.N aM <| WL.N aM <| WL.N aM <| WL.O (.pkT rfl aM rfl) <| WL.e <| ?_; exact ⟨leF rfl, rfl⟩; refine W.cnd rfl (fun es => ?_) (fun es => ?_)
  · skip
    rw [if_pos aS] at hR; subst hR; refine W.sr <| WL.O (.buildL (ps := _) blt99 rfl rfl rfl pZ) ?_; refine WL.stL rfl rfl cA isz99 rfl rfl (fun hT e9 bO hh => ?_); refine WL.st s9_ rfl rfl rfl (cB.up bO) oD (fun fA cE aT hi => ?_); have cE : Blk fA f _ _ := cE; have aT : Upd f _ _ := aT; refine WL.st s3_ rfl rfl rfl ((cC.up bO).up aT) oD (fun fB cF aU hj => ?_); have cF : Blk fB b _ _ := cF; have aU : Upd b _ _ := aU; refine WL.st s30_ rfl rfl rfl (((bN.up bO).up aT).up aU) oD (fun fC cG aV hm => ?_); have cG : Blk fC d _ _ := cG; have aV : Upd d _ _ := aV; have d4 := (cE.up aU).up aV; refine WL.e <| W.ret ?_; exact PostD.ret0 (ResOk.cells4 rfl rfl rfl rfl rfl (ldRow (((e9.up aT).up aU).up aV) u99_ rfl isz99) (ldCell d4 (g9_ _) rfl) (ldCell (cF.up aV) (g3_ _) rfl) (ldCell cG (g30_ _) rfl)) ⟨⟨pc0 0 0 [], ret_val rfl, PRep.zero _ _ _ _ _⟩, (ub_ (ub_ (ub_ (ub_ cD oO bO) oO aT) oO aU) oO aV)⟩
  rw [if_neg aS, fv aS] at hR; refine W.k <| WD.seq <| W.reg <| WL.M rfl <| WL.M rfl <| WL.c1 hB_ rfl rfl ((fu _ d3)) (fun hU et => ?_); obtain rfl := et; refine WL.Z rfl <| WD.seq <| W.sr <| WL.M rfl <| WL.M rfl <| WL.O (.lenS u22_ rfl) <| WL.O (.eql rfl rfl) <| WL.e <| W.cnd rfl (fun eu => ?_) (fun eu => ?_)
  · skip
    rw [dif_neg oO] at hR; subst hR; refine W.sr <| WL.O (.buildL (ps := _) blt99 rfl rfl rfl pZ) ?_; refine WL.stL rfl rfl cA isz99 rfl rfl (fun hV ea bP hn => ?_); refine WL.st s9_ rfl rfl rfl (cB.up bP) oD (fun fD cH aW ho => ?_); have cH : Blk fD f _ _ := cH; have aW : Upd f _ _ := aW; refine WL.st s3_ rfl rfl rfl ((cC.up bP).up aW) oD (fun fE cI aX hp => ?_); have cI : Blk fE b _ _ := cI; have aX : Upd b _ _ := aX; have d5 := cH.up aX; refine WL.st s30_ rfl rfl rfl (((bN.up bP).up aW).up aX) oD (fun fF cJ aY hq => ?_); have cJ : Blk fF d _ _ := cJ; have aY : Upd d _ _ := aY; refine WL.e <| W.ret ?_; exact PostD.ret0 (ResOk.cells4 rfl rfl rfl rfl rfl (ldRow (((ea.up aW).up aX).up aY) u99_ rfl isz99) (ldCell (d5.up aY) (g9_ _) rfl) (ldCell (cI.up aY) (g3_ _) rfl) (ldCell cJ (g30_ _) rfl)) ⟨⟨pc0 0 0 [], ret_val rfl, PRep.zero _ _ _ _ _⟩, (ub_ (ub_ (ub_ (ub_ cD oO bP) oO aW) oO aX) oO aY)⟩
  have cK : t < l.length := by omega
  rw [dif_pos cK] at hR; refine W.k <| WD.defer rfl rfl <| WD.of <| W.sr <| WL.M rfl <| WL.M rfl <| ?_; refine WL.O (.buildL (ps := _) blt112 rfl rfl rfl pS) ?_; refine WL.box rfl rfl (fun cX hz b2 cL aZ hr => ?_); have ev := bgl b2 cA.lt; have bH := cA.un aZ ev; have ew := bgl b2 cB.lt; have bI := cB.un aZ ew; have ex := bgl b2 cC.lt; have bJ := cC.un aZ ex; have ey := bgl b2 bN.lt; have bK := bN.un aZ ey; have eb := fun h0 => b2 ▸ d3.lt h0
  have cM := bup d3 aZ eb; have b3 := uB cD b2 aZ; have fG := bge b2 cD.size; refine WL.Z rfl <| W.seq <| W.sr <| WL.M rfl <| WL.M rfl <| WL.O (.ixb u22_ s5_ rfl rfl (cM.isp (by first | omega | exact nz_ _)) (t) (rfl) (cK)) <| WL.R (Rd.ldc (g5_ _) rfl (cM.cells (t) (cK))) <| WL.c1 hB_ rfl rfl ((plex_regular _ _)) (fun hW ez => ?_); obtain rfl := ez; refine WL.O (.not rfl) <| WL.e <| W.cond rfl (fun dJ => ?_) (fun dJ => ?_)
  · have eA := (nT dJ)
    refine W.sr <| WL.M rfl <| WL.cx hB_ rfl rfl ((ObjC_all p l c false hc hl 32 32 dD dD cX t _ ⟨cL, cM⟩ (fun h0 => by have := hb.lt h0; omega) cK)) (fun fH fI b7 b4 => ?_) (fun fJ hY fI b7 b4 => ?_); exact PostD.caught hb43 (fun w' => _) (tok_caught Q f b d w.heap.size _ _ _ _ _ _ [] _ _ fH _ (bo_ bH b4 (bH).lt oO) (bo_ bI b4 (bI).lt oO) (bo_ bJ b4 (bJ).lt oO) (bo_ bK b4 (bK).lt oO) oO oO oO oO (objP_err false l _ _ _ b7).ne)
      (fun w' hS => ⟨_, ResOk.cells4 rfl rfl rfl rfl rfl (ldRow hS.1 u99_ rfl isz99) (ldCell hS.2.1 (g9_ _) rfl) (ldCell hS.2.2.1 (g3_ _) rfl) (ldCell hS.2.2.2.1 (g30_ _) rfl), ⟨pc0 0 0 [], ret_val (by rw [hR, if_neg (bF (nT aS)), show objP false l 32 t = _ from b7]; rfl), by rw [hR, if_neg (bF (nT aS)), show objP false l 32 t = _ from b7]; exact PRep.zero _ _ _ _ _⟩, (bt_ b3 (Touch.below b4 b3.size oO)).trans hS.2.2.2.2⟩)
    have fK := b7; obtain ⟨oX, tX⟩ := fJ; obtain ⟨x1, rfl, fL, eB, cY⟩ := b4; have eC := fL.mono (T := fun k => cX < k ∧ w.heap.size ≤ k) (fun k hk _ => by have h1 := (cL).lt; have h2 := b3.size; omega); have d4 := bo_ bI cY (bI).lt oO; have d5 := bo_ bK cY (bK).lt oO; have fM := eB.1; rw [if_neg (bF (nT aS)), show objP false l 32 t = _ from fK] at hR; subst hR; refine WL.stL rfl rfl (bo_ bH cY (bH).lt oO) isz99 rfl rfl (fun fN ec a' hs => ?_); refine WL.e <| W.seq <| W.noPn <| W.regY 9 rfl mixed (fun eD aK => ?_); have cN := PRep.same (w1 := eD) (PRep.same (w1 := fN) eC (fun k hk hl => a'.other k (by first | ((try simp only) <;> omega) | (have := hk.1; ((try simp only) <;> omega))))) (fun k hk hl => (by obtain ⟨m, rfl⟩ := aK; rfl)); have b8 := ec.drew aK; have cO := (d4.up a').drew aK; have cP := ((bo_ bJ cY (bJ).lt oO).up a').drew aK; have cQ := (d5.up a').drew aK; have cR := (fM.upd a' oM).drew aK; have cS := Drew.below (ub_ (bt_ b3 (Touch.below cY b3.size oO)) oO a') aK; refine WY.tk 1 rfl (.mv rfl) rfl <| WY.tk 2 rfl (.nck rfl) rfl <| WY.tk 3 rfl (.fa u112_ rfl s3_ dD rfl) rfl <| WY.br2 0 rfl 4 rfl ?_ ?_; refine WL.R (Rd.ldA rfl b8 u99_ rfl isz99) <| WL.e <| WY.br2 4 rfl 5 rfl ?_ ?_; refine WL.R (Rd.ld (g3_ _) rfl cR rfl) <| WL.e <| WY.br1 5 rfl <| WL.stL rfl rfl b8 isz99 rfl rfl (fun eF dK aN fO => ?_); refine WL.e <| WY.br1 6 rfl <| WL.st s9_ rfl rfl rfl (cO.up aN) oD (fun dL bR x fP => ?_); have bR : Blk dL f _ _ := bR; have x : Upd f _ _ := x; refine WL.e <| WY.br1 7 rfl <| WL.st s3_ rfl rfl rfl ((cP.up aN).up x) oD (fun dM bS y fQ => ?_); have bS : Blk dM b _ _ := bS; have y : Upd b _ _ := y; refine WL.e <| WY.br1 8 rfl <| WL.st s30_ rfl rfl rfl (((cQ.up aN).up x).up y) oD (fun dN b9 A fR => ?_); have b9 : Blk dN d _ _ := b9; have A : Upd d _ _ := A; have ed := PRep.same (w1 := dN) (PRep.same (w1 := dM) (PRep.same (w1 := dL) (PRep.same (w1 := eF) cN (fun k hk hl => aN.other k (by first | ((try simp only) <;> omega) | (have := hk.1; ((try simp only) <;> omega))))) (fun k hk hl => x.other k (by first | ((try simp only) <;> omega) | (have := hk.1; ((try simp only) <;> omega))))) (fun k hk hl => y.other k (by first | ((try simp only) <;> omega) | (have := hk.1; ((try simp only) <;> omega))))) (fun k hk hl => A.other k (by first | ((try simp only) <;> omega) | (have := hk.1; ((try simp only) <;> omega))))
    refine WL.e <| WY.done kR <| W.ret ?_; exact PostD.ret hb43 (fun w' => _) (tok_quiet Q f b d _ b9) (fun w' hS => by subst hS; exact ⟨_, ResOk.cells4 rfl rfl rfl rfl rfl (ldRow (((dK.up x).up y).up A) u99_ rfl isz99) (ldCell ((bR.up y).up A) (g9_ _) rfl) (ldCell (bS.up A) (g3_ _) rfl) (ldCell b9 (g30_ _) rfl), ⟨x1, ret_val rfl, (ed).mono (fun k hk _ => hk.2)⟩, (ub_ (ub_ (ub_ (ub_ cS oO aN) oO x) oO y) oO A)⟩); refine WL.stL rfl rfl b8 isz99 rfl rfl (fun eG cZ V fS => ?_); have d8 := PRep.same (w1 := eG) cN (fun k hk hl => V.other k (by first | ((try simp only) <;> omega) | (have := hk.1; ((try simp only) <;> omega)))); have d9 := cO.up V; have da := cP.up V; have db := cQ.up V; have dc := cR.up V; have dd := ub_ cS oO V; refine WL.e <| WY.br2 4 rfl 6 rfl ?_ ?_; refine WL.R (Rd.ld (g3_ _) rfl dc rfl) <| WL.e <| WY.br1 6 rfl <| WL.st s9_ rfl rfl rfl d9 oD (fun dO bT B fT => ?_); have bT : Blk dO f _ _ := bT; have B : Upd f _ _ := B; refine WL.e <| WY.br1 7 rfl <| WL.st s3_ rfl rfl rfl (da.up B) oD (fun dP bU C fU => ?_); have bU : Blk dP b _ _ := bU; have C : Upd b _ _ := C; refine WL.e <| WY.br1 8 rfl <| WL.st s30_ rfl rfl rfl ((db.up B).up C) oD (fun dQ ba D fV => ?_); have ba : Blk dQ d _ _ := ba; have D : Upd d _ _ := D; have ee := PRep.same (w1 := dQ) (PRep.same (w1 := dP) (PRep.same (w1 := dO) d8 (fun k hk hl => B.other k (by first | ((try simp only) <;> omega) | (have := hk.1; ((try simp only) <;> omega))))) (fun k hk hl => C.other k (by first | ((try simp only) <;> omega) | (have := hk.1; ((try simp only) <;> omega))))) (fun k hk hl => D.other k (by first | ((try simp only) <;> omega) | (have := hk.1; ((try simp only) <;> omega)))); refine WL.e <| WY.done kR <| W.ret ?_; exact PostD.ret hb43 (fun w' => _) (tok_quiet Q f b d _ ba) (fun w' hS => by subst hS; exact ⟨_, ResOk.cells4 rfl rfl rfl rfl rfl (ldRow (((cZ.up B).up C).up D) u99_ rfl isz99) (ldCell ((bT.up C).up D) (g9_ _) rfl) (ldCell (bU.up D) (g3_ _) rfl) (ldCell ba (g30_ _) rfl), ⟨x1, ret_val rfl, (ee).mono (fun k hk _ => hk.2)⟩, (ub_ (ub_ (ub_ dd oO B) oO C) oO D)⟩)
    refine WL.st s9_ rfl rfl rfl d9 oD (fun dR bV s fW => ?_); have bV : Blk dR f _ _ := bV; have s : Upd f _ _ := s; refine WL.e <| WY.br1 4 rfl <| WL.R (Rd.ld (g3_ _) rfl (dc.up s) rfl) <| WL.e <| WY.br1 7 rfl <| WL.st s3_ rfl rfl rfl (da.up s) oD (fun dS bW E fX => ?_); have bW : Blk dS b _ _ := bW; have E : Upd b _ _ := E; refine WL.e <| WY.br1 8 rfl <| WL.st s30_ rfl rfl rfl ((db.up s).up E) oD (fun dU bb F fY => ?_); have bb : Blk dU d _ _ := bb; have F : Upd d _ _ := F; have ef := PRep.same (w1 := dU) (PRep.same (w1 := dS) (PRep.same (w1 := dR) d8 (fun k hk hl => s.other k (by first | ((try simp only) <;> omega) | (have := hk.1; ((try simp only) <;> omega))))) (fun k hk hl => E.other k (by first | ((try simp only) <;> omega) | (have := hk.1; ((try simp only) <;> omega))))) (fun k hk hl => F.other k (by first | ((try simp only) <;> omega) | (have := hk.1; ((try simp only) <;> omega)))); refine WL.e <| WY.done kR <| W.ret ?_; exact PostD.ret hb43 (fun w' => _) (tok_quiet Q f b d _ bb) (fun w' hS => by subst hS; exact ⟨_, ResOk.cells4 rfl rfl rfl rfl rfl (ldRow (((cZ.up s).up E).up F) u99_ rfl isz99) (ldCell ((bV.up E).up F) (g9_ _) rfl) (ldCell (bW.up F) (g3_ _) rfl) (ldCell bb (g30_ _) rfl), ⟨x1, ret_val rfl, (ef).mono (fun k hk _ => hk.2)⟩, (ub_ (ub_ (ub_ dd oO s) oO E) oO F)⟩); refine WL.R (Rd.ld (g3_ _) rfl cR rfl) <| WL.e <| WY.br1 0 rfl <| WL.R (Rd.ldA rfl b8 u99_ rfl isz99) <| WL.e <| WY.br1 5 rfl <| WL.stL rfl rfl b8 isz99 rfl rfl (fun eH dV aO fZ => ?_); refine WL.e <| WY.br1 6 rfl <| WL.st s9_ rfl rfl rfl (cO.up aO) oD (fun dW bX G f' => ?_); have bX : Blk dW f _ _ := bX; have G : Upd f _ _ := G; refine WL.e <| WY.br1 7 rfl <| WL.st s3_ rfl rfl rfl ((cP.up aO).up G) oD (fun dX bY H g0 => ?_); have bY : Blk dX b _ _ := bY; have H : Upd b _ _ := H; refine WL.e <| WY.br1 8 rfl <| WL.st s30_ rfl rfl rfl (((cQ.up aO).up G).up H) oD (fun dY bc J g1 => ?_); have bc : Blk dY d _ _ := bc; have J : Upd d _ _ := J; have eg := PRep.same (w1 := dY) (PRep.same (w1 := dX) (PRep.same (w1 := dW) (PRep.same (w1 := eH) cN (fun k hk hl => aO.other k (by first | ((try simp only) <;> omega) | (have := hk.1; ((try simp only) <;> omega))))) (fun k hk hl => G.other k (by first | ((try simp only) <;> omega) | (have := hk.1; ((try simp only) <;> omega))))) (fun k hk hl => H.other k (by first | ((try simp only) <;> omega) | (have := hk.1; ((try simp only) <;> omega))))) (fun k hk hl => J.other k (by first | ((try simp only) <;> omega) | (have := hk.1; ((try simp only) <;> omega))))
    refine WL.e <| WY.done kR <| W.ret ?_; exact PostD.ret hb43 (fun w' => _) (tok_quiet Q f b d _ bc) (fun w' hS => by subst hS; exact ⟨_, ResOk.cells4 rfl rfl rfl rfl rfl (ldRow (((dV.up G).up H).up J) u99_ rfl isz99) (ldCell ((bX.up H).up J) (g9_ _) rfl) (ldCell (bY.up J) (g3_ _) rfl) (ldCell bc (g30_ _) rfl), ⟨x1, ret_val rfl, (eg).mono (fun k hk _ => hk.2)⟩, (ub_ (ub_ (ub_ (ub_ cS oO aO) oO G) oO H) oO J)⟩)
  have eA := (nF dJ); refine W.k <| W.sr <| WL.M rfl <| WL.c1 hB_ rfl rfl ((fw cX _ ⟨cL, cM⟩ (fun h0 => by have := hb.lt h0; omega))) (fun hA aL => ?_); rw [if_pos (nF aS), ← hX] at hR; subst hR; refine WL.M rfl <| WL.O (.ext rfl rfl) <| WL.O (.ext rfl rfl) <| WL.O (.ext rfl rfl) <| WL.stL rfl rfl (bo_ bH aL.2 bH.lt oO) isz99 rfl rfl (fun hB dZ a0 g2 => ?_); refine WL.st s9_ rfl rfl rfl ((bo_ bI aL.2 bI.lt oO).up a0) oD (fun eI bd u g3 => ?_); have bd : Blk eI f _ _ := bd; have u : Upd f _ _ := u; have de := dZ.up u; have df := ((bo_ bJ aL.2 bJ.lt oO).up a0).up u; have dg := ((bo_ bK aL.2 bK.lt oO).up a0).up u; have dh := (aL.1.1.up a0).up u; have di := bup (bup aL.1.2 a0 dA) u d2; have dj := ub_ (ub_ (bt_ b3 (Touch.below aL.2 b3.size oO)) oO a0) oO u; refine WL.Z rfl <| W.cut (α := Unit) (fun t => [(4, .pointer (some ⟨Q, 0, none⟩)), (5, .pointer (some ⟨f, 0, none⟩)), (6, .pointer (some ⟨b, 0, none⟩)), (7, .pointer (some ⟨d, 0, none⟩)), (8, .pointer (some ⟨cX, 0, none⟩))]) (fun t w' => Blk w' Q (pcV (pc0 X.kind X.n [])).toArray 99 ∧ Blk w' f #[.string (bs (if X.ok then [] else X.word))] 9 ∧ Blk w' b #[.int .i64 0] 3 ∧ Blk w' d #[.int .i64 0] 30 ∧ PRd w' cX p l c X.np false ∧ Below w.heap.size w w') ?_ (fun t w1 hR => ?_); refine W.sr <| WL.M rfl <| WL.e <| W.cond rfl (fun eJ => ?_) (fun eJ => ?_); refine W.reg <| WL.st s9_ rfl rfl rfl bd oD (fun eK bZ v g4 => ?_); have bZ : Blk eK f _ _ := bZ; have v : Upd f _ _ := v; refine WL.e <| ?_; exact ⟨(), ⟨rfl, rfl, rfl, rfl, rfl, tT⟩, (de.up v), by rw [show X.ok = _ by assumption]; exact bZ, (df.up v), (dg.up v), ⟨(dh.up v), (bup di v d2)⟩, (ub_ dj oO v)⟩; refine W.k ?_; exact ⟨(), ⟨rfl, rfl, rfl, rfl, rfl, tT⟩, de, by rw [show X.ok = _ by assumption]; exact bd, df, dg, ⟨dh, di⟩, dj⟩; obtain ⟨g5, g6, g7, g8, g9, ga⟩ := hR
  generalize (if X.ok then [] else X.word) = sX at *; refine W.seq <| W.noPn <| W.regY 10 rfl mixed (fun hC b0 => ?_); have g := g5.drew b0; have i := g6.drew b0; have j := g7.drew b0; have o := g8.drew b0; have U := g9.1.drew b0; have q := Drew.below ga b0; refine WY.tk 2 rfl (.mv rfl) rfl <| WY.tk 3 rfl (.nck rfl) rfl <| WY.tk 4 rfl (.fa u112_ rfl s3_ dD rfl) rfl <| WY.br [0, 1, 5] kR rfl ⟨⟨_, rfl, ?_⟩, ⟨_, rfl, ?_⟩, ⟨_, rfl, ?_⟩, tT⟩; refine WL.R (Rd.ldA rfl g u99_ rfl isz99) <| WL.e <| WY.br [1, 5, 6] kR rfl ⟨⟨_, rfl, ?_⟩, ⟨_, rfl, ?_⟩, ⟨_, rfl, ?_⟩, tT⟩; refine WL.R (Rd.ld (g9_ _) rfl i rfl) <| WL.e <| WY.br2 5 rfl 6 rfl ?_ ?_; refine WL.R (Rd.ld (g3_ _) rfl U rfl) <| WL.e <| WY.br1 6 rfl <| WL.stL rfl rfl g isz99 rfl rfl (fun hD d' be gb => ?_); refine WL.e <| WY.br1 7 rfl <| WL.st s9_ rfl rfl rfl (i.up be) oD (fun eL b' a1 gc => ?_); have b' : Blk eL f _ _ := b'; have a1 : Upd f _ _ := a1; refine WL.e <| WY.br1 8 rfl <| WL.st s3_ rfl rfl rfl ((j.up be).up a1) oD (fun eM c0 a2 ge => ?_); have c0 : Blk eM b _ _ := c0; have a2 : Upd b _ _ := a2; refine WL.e <| WY.br1 9 rfl <| WL.st s30_ rfl rfl rfl (((o.up be).up a1).up a2) oD (fun eN bf a3 gf => ?_); have bf : Blk eN d _ _ := bf; have a3 : Upd d _ _ := a3; refine WL.e <| WY.done kR <| W.ret ?_; exact PostD.ret hb43 (fun w' => _) (tok_quiet Q f b d _ bf) (fun w' hS => by subst hS; exact ⟨_, ResOk.cells4 rfl rfl rfl rfl rfl (ldRow (((d'.up a1).up a2).up a3) u99_ rfl isz99) (ldCell ((b'.up a2).up a3) (g9_ _) rfl) (ldCell (c0.up a3) (g3_ _) rfl) (ldCell bf (g30_ _) rfl), ⟨pc0 X.kind X.n [], ret_val rfl, PRep.zero _ _ _ _ _⟩, (ub_ (ub_ (ub_ (ub_ q oO be) oO a1) oO a2) oO a3)⟩); refine WL.stL rfl rfl g isz99 rfl rfl (fun hE c' aP gg => ?_); have dk := i.up aP; have dl := j.up aP; have dm := o.up aP; have dn := U.up aP; have dp := ub_ q oO aP; refine WL.e <| WY.br2 5 rfl 7 rfl ?_ ?_; refine WL.R (Rd.ld (g3_ _) rfl dn rfl) <| WL.e <| WY.br1 7 rfl <| WL.st s9_ rfl rfl rfl dk oD (fun eO c2 a4 gh => ?_); have c2 : Blk eO f _ _ := c2; have a4 : Upd f _ _ := a4
  refine WL.e <| WY.br1 8 rfl <| WL.st s3_ rfl rfl rfl (dl.up a4) oD (fun eP c3 a5 gi => ?_); have c3 : Blk eP b _ _ := c3; have a5 : Upd b _ _ := a5; refine WL.e <| WY.br1 9 rfl <| WL.st s30_ rfl rfl rfl ((dm.up a4).up a5) oD (fun eQ bg a6 gj => ?_); have bg : Blk eQ d _ _ := bg; have a6 : Upd d _ _ := a6; refine WL.e <| WY.done kR <| W.ret ?_; exact PostD.ret hb43 (fun w' => _) (tok_quiet Q f b d _ bg) (fun w' hS => by subst hS; exact ⟨_, ResOk.cells4 rfl rfl rfl rfl rfl (ldRow (((c'.up a4).up a5).up a6) u99_ rfl isz99) (ldCell ((c2.up a5).up a6) (g9_ _) rfl) (ldCell (c3.up a6) (g3_ _) rfl) (ldCell bg (g30_ _) rfl), ⟨pc0 X.kind X.n [], ret_val rfl, PRep.zero _ _ _ _ _⟩, (ub_ (ub_ (ub_ dp oO a4) oO a5) oO a6)⟩); refine WL.st s9_ rfl rfl rfl dk oD (fun eR c4 K gk => ?_); have c4 : Blk eR f _ _ := c4; have K : Upd f _ _ := K; refine WL.e <| WY.br1 5 rfl <| WL.R (Rd.ld (g3_ _) rfl (dn.up K) rfl) <| WL.e <| WY.br1 8 rfl <| WL.st s3_ rfl rfl rfl (dl.up K) oD (fun eS c5 a7 gl => ?_); have c5 : Blk eS b _ _ := c5; have a7 : Upd b _ _ := a7; refine WL.e <| WY.br1 9 rfl <| WL.st s30_ rfl rfl rfl ((dm.up K).up a7) oD (fun eT bh a8 gm => ?_); have bh : Blk eT d _ _ := bh; have a8 : Upd d _ _ := a8; refine WL.e <| WY.done kR <| W.ret ?_; exact PostD.ret hb43 (fun w' => _) (tok_quiet Q f b d _ bh) (fun w' hS => by subst hS; exact ⟨_, ResOk.cells4 rfl rfl rfl rfl rfl (ldRow (((c'.up K).up a7).up a8) u99_ rfl isz99) (ldCell ((c4.up a7).up a8) (g9_ _) rfl) (ldCell (c5.up a8) (g3_ _) rfl) (ldCell bh (g30_ _) rfl), ⟨pc0 X.kind X.n [], ret_val rfl, PRep.zero _ _ _ _ _⟩, (ub_ (ub_ (ub_ dp oO K) oO a7) oO a8)⟩); refine WL.R (Rd.ld (g3_ _) rfl U rfl) <| WL.e <| WY.br2 1 rfl 6 rfl ?_ ?_; refine WL.R (Rd.ld (g9_ _) rfl i rfl) <| WL.e <| WY.br1 6 rfl <| WL.stL rfl rfl g isz99 rfl rfl (fun hF e0 bi go => ?_); refine WL.e <| WY.br1 7 rfl <| WL.st s9_ rfl rfl rfl (i.up bi) oD (fun eU c6 a9 gp => ?_); have c6 : Blk eU f _ _ := c6; have a9 : Upd f _ _ := a9; refine WL.e <| WY.br1 8 rfl <| WL.st s3_ rfl rfl rfl ((j.up bi).up a9) oD (fun eV c7 aa gq => ?_)
  have c7 : Blk eV b _ _ := c7; have aa : Upd b _ _ := aa; refine WL.e <| WY.br1 9 rfl <| WL.st s30_ rfl rfl rfl (((o.up bi).up a9).up aa) oD (fun eW bj ab gr => ?_); have bj : Blk eW d _ _ := bj; have ab : Upd d _ _ := ab; refine WL.e <| WY.done kR <| W.ret ?_; exact PostD.ret hb43 (fun w' => _) (tok_quiet Q f b d _ bj) (fun w' hS => by subst hS; exact ⟨_, ResOk.cells4 rfl rfl rfl rfl rfl (ldRow (((e0.up a9).up aa).up ab) u99_ rfl isz99) (ldCell ((c6.up aa).up ab) (g9_ _) rfl) (ldCell (c7.up ab) (g3_ _) rfl) (ldCell bj (g30_ _) rfl), ⟨pc0 X.kind X.n [], ret_val rfl, PRep.zero _ _ _ _ _⟩, (ub_ (ub_ (ub_ (ub_ q oO bi) oO a9) oO aa) oO ab)⟩); refine WL.stL rfl rfl g isz99 rfl rfl (fun hG e1 bk gs => ?_); have dq := i.up bk; refine WL.e <| WY.br1 1 rfl <| WL.R (Rd.ld (g9_ _) rfl dq rfl) <| WL.e <| WY.br1 7 rfl <| WL.st s9_ rfl rfl rfl dq oD (fun eX c8 ac gt => ?_); have c8 : Blk eX f _ _ := c8; have ac : Upd f _ _ := ac; refine WL.e <| WY.br1 8 rfl <| WL.st s3_ rfl rfl rfl ((j.up bk).up ac) oD (fun eY c9 ad gv => ?_); have c9 : Blk eY b _ _ := c9; have ad : Upd b _ _ := ad; refine WL.e <| WY.br1 9 rfl <| WL.st s30_ rfl rfl rfl (((o.up bk).up ac).up ad) oD (fun eZ bl ae gw => ?_); have bl : Blk eZ d _ _ := bl; have ae : Upd d _ _ := ae; refine WL.e <| WY.done kR <| W.ret ?_; exact PostD.ret hb43 (fun w' => _) (tok_quiet Q f b d _ bl) (fun w' hS => by subst hS; exact ⟨_, ResOk.cells4 rfl rfl rfl rfl rfl (ldRow (((e1.up ac).up ad).up ae) u99_ rfl isz99) (ldCell ((c8.up ad).up ae) (g9_ _) rfl) (ldCell (c9.up ae) (g3_ _) rfl) (ldCell bl (g30_ _) rfl), ⟨pc0 X.kind X.n [], ret_val rfl, PRep.zero _ _ _ _ _⟩, (ub_ (ub_ (ub_ (ub_ q oO bk) oO ac) oO ad) oO ae)⟩); refine WL.stL rfl rfl g isz99 rfl rfl (fun hH ca aQ gx => ?_); have bm := i.up aQ; have cT := j.up aQ; have cU := o.up aQ; have cV := U.up aQ; have cW := ub_ q oO aQ; refine WL.e <| WY.br2 1 rfl 5 rfl ?_ ?_; refine WL.R (Rd.ld (g9_ _) rfl bm rfl) <| WL.e <| WY.br2 5 rfl 7 rfl ?_ ?_; refine WL.R (Rd.ld (g3_ _) rfl cV rfl) <| WL.e <| WY.br1 7 rfl <| WL.st s9_ rfl rfl rfl bm oD (fun e' cb af gz => ?_)
  have cb : Blk e' f _ _ := cb; have af : Upd f _ _ := af; refine WL.e <| WY.br1 8 rfl <| WL.st s3_ rfl rfl rfl (cT.up af) oD (fun f0 cc ag gA => ?_); have cc : Blk f0 b _ _ := cc; have ag : Upd b _ _ := ag; refine WL.e <| WY.br1 9 rfl <| WL.st s30_ rfl rfl rfl ((cU.up af).up ag) oD (fun f1 bn ah gB => ?_); have bn : Blk f1 d _ _ := bn; have ah : Upd d _ _ := ah; refine WL.e <| WY.done kR <| W.ret ?_; exact PostD.ret hb43 (fun w' => _) (tok_quiet Q f b d _ bn) (fun w' hS => by subst hS; exact ⟨_, ResOk.cells4 rfl rfl rfl rfl rfl (ldRow (((ca.up af).up ag).up ah) u99_ rfl isz99) (ldCell ((cb.up ag).up ah) (g9_ _) rfl) (ldCell (cc.up ah) (g3_ _) rfl) (ldCell bn (g30_ _) rfl), ⟨pc0 X.kind X.n [], ret_val rfl, PRep.zero _ _ _ _ _⟩, (ub_ (ub_ (ub_ cW oO af) oO ag) oO ah)⟩); refine WL.st s9_ rfl rfl rfl bm oD (fun f2 cd L gC => ?_); have cd : Blk f2 f _ _ := cd; have L : Upd f _ _ := L; refine WL.e <| WY.br1 5 rfl <| WL.R (Rd.ld (g3_ _) rfl (cV.up L) rfl) <| WL.e <| WY.br1 8 rfl <| WL.st s3_ rfl rfl rfl (cT.up L) oD (fun f3 cf ai gD => ?_); have cf : Blk f3 b _ _ := cf; have ai : Upd b _ _ := ai; refine WL.e <| WY.br1 9 rfl <| WL.st s30_ rfl rfl rfl ((cU.up L).up ai) oD (fun f4 bo aj gE => ?_); have bo : Blk f4 d _ _ := bo; have aj : Upd d _ _ := aj; refine WL.e <| WY.done kR <| W.ret ?_; exact PostD.ret hb43 (fun w' => _) (tok_quiet Q f b d _ bo) (fun w' hS => by subst hS; exact ⟨_, ResOk.cells4 rfl rfl rfl rfl rfl (ldRow (((ca.up L).up ai).up aj) u99_ rfl isz99) (ldCell ((cd.up ai).up aj) (g9_ _) rfl) (ldCell (cf.up aj) (g3_ _) rfl) (ldCell bo (g30_ _) rfl), ⟨pc0 X.kind X.n [], ret_val rfl, PRep.zero _ _ _ _ _⟩, (ub_ (ub_ (ub_ cW oO L) oO ai) oO aj)⟩); refine WL.R (Rd.ld (g3_ _) rfl cV rfl) <| WL.e <| WY.br1 1 rfl <| WL.R (Rd.ld (g9_ _) rfl bm rfl) <| WL.e <| WY.br1 7 rfl <| WL.st s9_ rfl rfl rfl bm oD (fun f5 cg ak gF => ?_); have cg : Blk f5 f _ _ := cg; have ak : Upd f _ _ := ak; refine WL.e <| WY.br1 8 rfl <| WL.st s3_ rfl rfl rfl (cT.up ak) oD (fun f6 ci am gG => ?_)
  have ci : Blk f6 b _ _ := ci; have am : Upd b _ _ := am; refine WL.e <| WY.br1 9 rfl <| WL.st s30_ rfl rfl rfl ((cU.up ak).up am) oD (fun f7 bp an gH => ?_); have bp : Blk f7 d _ _ := bp; have an : Upd d _ _ := an; refine WL.e <| WY.done kR <| W.ret ?_; exact PostD.ret hb43 (fun w' => _) (tok_quiet Q f b d _ bp) (fun w' hS => by subst hS; exact ⟨_, ResOk.cells4 rfl rfl rfl rfl rfl (ldRow (((ca.up ak).up am).up an) u99_ rfl isz99) (ldCell ((cg.up am).up an) (g9_ _) rfl) (ldCell (ci.up an) (g3_ _) rfl) (ldCell bp (g30_ _) rfl), ⟨pc0 X.kind X.n [], ret_val rfl, PRep.zero _ _ _ _ _⟩, (ub_ (ub_ (ub_ cW oO ak) oO am) oO an)⟩); refine WL.R (Rd.ld (g9_ _) rfl i rfl) <| WL.e <| WY.br2 0 rfl 5 rfl ?_ ?_; refine WL.R (Rd.ldA rfl g u99_ rfl isz99) <| WL.e <| WY.br2 5 rfl 6 rfl ?_ ?_; refine WL.R (Rd.ld (g3_ _) rfl U rfl) <| WL.e <| WY.br1 6 rfl <| WL.stL rfl rfl g isz99 rfl rfl (fun hI e2 bq gI => ?_); refine WL.e <| WY.br1 7 rfl <| WL.st s9_ rfl rfl rfl (i.up bq) oD (fun f8 cj ao gJ => ?_); have cj : Blk f8 f _ _ := cj; have ao : Upd f _ _ := ao; refine WL.e <| WY.br1 8 rfl <| WL.st s3_ rfl rfl rfl ((j.up bq).up ao) oD (fun f9 ck ap gK => ?_); have ck : Blk f9 b _ _ := ck; have ap : Upd b _ _ := ap; refine WL.e <| WY.br1 9 rfl <| WL.st s30_ rfl rfl rfl (((o.up bq).up ao).up ap) oD (fun fb bt aq gL => ?_); have bt : Blk fb d _ _ := bt; have aq : Upd d _ _ := aq; refine WL.e <| WY.done kR <| W.ret ?_; exact PostD.ret hb43 (fun w' => _) (tok_quiet Q f b d _ bt) (fun w' hS => by subst hS; exact ⟨_, ResOk.cells4 rfl rfl rfl rfl rfl (ldRow (((e2.up ao).up ap).up aq) u99_ rfl isz99) (ldCell ((cj.up ap).up aq) (g9_ _) rfl) (ldCell (ck.up aq) (g3_ _) rfl) (ldCell bt (g30_ _) rfl), ⟨pc0 X.kind X.n [], ret_val rfl, PRep.zero _ _ _ _ _⟩, (ub_ (ub_ (ub_ (ub_ q oO bq) oO ao) oO ap) oO aq)⟩); refine WL.stL rfl rfl g isz99 rfl rfl (fun hJ d0 aR gM => ?_); have dr := i.up aR; have ds := j.up aR; have dt := o.up aR; have du := U.up aR; have dv := ub_ q oO aR; refine WL.e <| WY.br2 5 rfl 7 rfl ?_ ?_
  refine WL.R (Rd.ld (g3_ _) rfl du rfl) <| WL.e <| WY.br1 7 rfl <| WL.st s9_ rfl rfl rfl dr oD (fun fc cl ar gN => ?_); have cl : Blk fc f _ _ := cl; have ar : Upd f _ _ := ar; refine WL.e <| WY.br1 8 rfl <| WL.st s3_ rfl rfl rfl (ds.up ar) oD (fun fd cm au gO => ?_); have cm : Blk fd b _ _ := cm; have au : Upd b _ _ := au; refine WL.e <| WY.br1 9 rfl <| WL.st s30_ rfl rfl rfl ((dt.up ar).up au) oD (fun fe bu av gP => ?_); have bu : Blk fe d _ _ := bu; have av : Upd d _ _ := av; refine WL.e <| WY.done kR <| W.ret ?_; exact PostD.ret hb43 (fun w' => _) (tok_quiet Q f b d _ bu) (fun w' hS => by subst hS; exact ⟨_, ResOk.cells4 rfl rfl rfl rfl rfl (ldRow (((d0.up ar).up au).up av) u99_ rfl isz99) (ldCell ((cl.up au).up av) (g9_ _) rfl) (ldCell (cm.up av) (g3_ _) rfl) (ldCell bu (g30_ _) rfl), ⟨pc0 X.kind X.n [], ret_val rfl, PRep.zero _ _ _ _ _⟩, (ub_ (ub_ (ub_ dv oO ar) oO au) oO av)⟩); refine WL.st s9_ rfl rfl rfl dr oD (fun ff cn P gQ => ?_); have cn : Blk ff f _ _ := cn; have P : Upd f _ _ := P; refine WL.e <| WY.br1 5 rfl <| WL.R (Rd.ld (g3_ _) rfl (du.up P) rfl) <| WL.e <| WY.br1 8 rfl <| WL.st s3_ rfl rfl rfl (ds.up P) oD (fun fg co aw gR => ?_); have co : Blk fg b _ _ := co; have aw : Upd b _ _ := aw; refine WL.e <| WY.br1 9 rfl <| WL.st s30_ rfl rfl rfl ((dt.up P).up aw) oD (fun fh bv ax gS => ?_); have bv : Blk fh d _ _ := bv; have ax : Upd d _ _ := ax; refine WL.e <| WY.done kR <| W.ret ?_; exact PostD.ret hb43 (fun w' => _) (tok_quiet Q f b d _ bv) (fun w' hS => by subst hS; exact ⟨_, ResOk.cells4 rfl rfl rfl rfl rfl (ldRow (((d0.up P).up aw).up ax) u99_ rfl isz99) (ldCell ((cn.up aw).up ax) (g9_ _) rfl) (ldCell (co.up ax) (g3_ _) rfl) (ldCell bv (g30_ _) rfl), ⟨pc0 X.kind X.n [], ret_val rfl, PRep.zero _ _ _ _ _⟩, (ub_ (ub_ (ub_ dv oO P) oO aw) oO ax)⟩); refine WL.R (Rd.ld (g3_ _) rfl U rfl) <| WL.e <| WY.br1 0 rfl <| WL.R (Rd.ldA rfl g u99_ rfl isz99) <| WL.e <| WY.br1 6 rfl <| WL.stL rfl rfl g isz99 rfl rfl (fun hK e3 bw gT => ?_); refine WL.e <| WY.br1 7 rfl <| WL.st s9_ rfl rfl rfl (i.up bw) oD (fun fi cq ay gU => ?_)
  have cq : Blk fi f _ _ := cq; have ay : Upd f _ _ := ay; refine WL.e <| WY.br1 8 rfl <| WL.st s3_ rfl rfl rfl ((j.up bw).up ay) oD (fun fj cr az gV => ?_); have cr : Blk fj b _ _ := cr; have az : Upd b _ _ := az; refine WL.e <| WY.br1 9 rfl <| WL.st s30_ rfl rfl rfl (((o.up bw).up ay).up az) oD (fun fk bx aA gW => ?_); have bx : Blk fk d _ _ := bx; have aA : Upd d _ _ := aA; refine WL.e <| WY.done kR <| W.ret ?_; exact PostD.ret hb43 (fun w' => _) (tok_quiet Q f b d _ bx) (fun w' hS => by subst hS; exact ⟨_, ResOk.cells4 rfl rfl rfl rfl rfl (ldRow (((e3.up ay).up az).up aA) u99_ rfl isz99) (ldCell ((cq.up az).up aA) (g9_ _) rfl) (ldCell (cr.up aA) (g3_ _) rfl) (ldCell bx (g30_ _) rfl), ⟨pc0 X.kind X.n [], ret_val rfl, PRep.zero _ _ _ _ _⟩, (ub_ (ub_ (ub_ (ub_ q oO bw) oO ay) oO az) oO aA)⟩); refine WL.R (Rd.ld (g3_ _) rfl U rfl) <| WL.e <| WY.br2 0 rfl 1 rfl ?_ ?_; refine WL.R (Rd.ldA rfl g u99_ rfl isz99) <| WL.e <| WY.br2 1 rfl 6 rfl ?_ ?_; refine WL.R (Rd.ld (g9_ _) rfl i rfl) <| WL.e <| WY.br1 6 rfl <| WL.stL rfl rfl g isz99 rfl rfl (fun hL e4 bz gX => ?_); refine WL.e <| WY.br1 7 rfl <| WL.st s9_ rfl rfl rfl (i.up bz) oD (fun fl ct aB gY => ?_); have ct : Blk fl f _ _ := ct; have aB : Upd f _ _ := aB; refine WL.e <| WY.br1 8 rfl <| WL.st s3_ rfl rfl rfl ((j.up bz).up aB) oD (fun fm cu aC gZ => ?_); have cu : Blk fm b _ _ := cu; have aC : Upd b _ _ := aC; refine WL.e <| WY.br1 9 rfl <| WL.st s30_ rfl rfl rfl (((o.up bz).up aB).up aC) oD (fun fn bA aD g' => ?_); have bA : Blk fn d _ _ := bA; have aD : Upd d _ _ := aD; refine WL.e <| WY.done kR <| W.ret ?_; exact PostD.ret hb43 (fun w' => _) (tok_quiet Q f b d _ bA) (fun w' hS => by subst hS; exact ⟨_, ResOk.cells4 rfl rfl rfl rfl rfl (ldRow (((e4.up aB).up aC).up aD) u99_ rfl isz99) (ldCell ((ct.up aC).up aD) (g9_ _) rfl) (ldCell (cu.up aD) (g3_ _) rfl) (ldCell bA (g30_ _) rfl), ⟨pc0 X.kind X.n [], ret_val rfl, PRep.zero _ _ _ _ _⟩, (ub_ (ub_ (ub_ (ub_ q oO bz) oO aB) oO aC) oO aD)⟩); refine WL.stL rfl rfl g isz99 rfl rfl (fun hM e5 bB h3 => ?_)
  have dw := i.up bB; refine WL.e <| WY.br1 1 rfl <| WL.R (Rd.ld (g9_ _) rfl dw rfl) <| WL.e <| WY.br1 7 rfl <| WL.st s9_ rfl rfl rfl dw oD (fun fo cv aE h4 => ?_); have cv : Blk fo f _ _ := cv; have aE : Upd f _ _ := aE; refine WL.e <| WY.br1 8 rfl <| WL.st s3_ rfl rfl rfl ((j.up bB).up aE) oD (fun fp cw aF h5 => ?_); have cw : Blk fp b _ _ := cw; have aF : Upd b _ _ := aF; refine WL.e <| WY.br1 9 rfl <| WL.st s30_ rfl rfl rfl (((o.up bB).up aE).up aF) oD (fun fq bC aG h6 => ?_); have bC : Blk fq d _ _ := bC; have aG : Upd d _ _ := aG; refine WL.e <| WY.done kR <| W.ret ?_; exact PostD.ret hb43 (fun w' => _) (tok_quiet Q f b d _ bC) (fun w' hS => by subst hS; exact ⟨_, ResOk.cells4 rfl rfl rfl rfl rfl (ldRow (((e5.up aE).up aF).up aG) u99_ rfl isz99) (ldCell ((cv.up aF).up aG) (g9_ _) rfl) (ldCell (cw.up aG) (g3_ _) rfl) (ldCell bC (g30_ _) rfl), ⟨pc0 X.kind X.n [], ret_val rfl, PRep.zero _ _ _ _ _⟩, (ub_ (ub_ (ub_ (ub_ q oO bB) oO aE) oO aF) oO aG)⟩); refine WL.R (Rd.ld (g9_ _) rfl i rfl) <| WL.e <| WY.br1 0 rfl <| WL.R (Rd.ldA rfl g u99_ rfl isz99) <| WL.e <| WY.br1 6 rfl <| WL.stL rfl rfl g isz99 rfl rfl (fun hN e6 bD h7 => ?_); refine WL.e <| WY.br1 7 rfl <| WL.st s9_ rfl rfl rfl (i.up bD) oD (fun fr cy aH h8 => ?_); have cy : Blk fr f _ _ := cy; have aH : Upd f _ _ := aH; refine WL.e <| WY.br1 8 rfl <| WL.st s3_ rfl rfl rfl ((j.up bD).up aH) oD (fun fs cz aI h9 => ?_); have cz : Blk fs b _ _ := cz; have aI : Upd b _ _ := aI; refine WL.e <| WY.br1 9 rfl <| WL.st s30_ rfl rfl rfl (((o.up bD).up aH).up aI) oD (fun ft bE aJ ha => ?_); have bE : Blk ft d _ _ := bE; have aJ : Upd d _ _ := aJ; refine WL.e <| WY.done kR <| W.ret ?_; exact PostD.ret hb43 (fun w' => _) (tok_quiet Q f b d _ bE) (fun w' hS => by subst hS; exact ⟨_, ResOk.cells4 rfl rfl rfl rfl rfl (ldRow (((e6.up aH).up aI).up aJ) u99_ rfl isz99) (ldCell ((cy.up aI).up aJ) (g9_ _) rfl) (ldCell (cz.up aJ) (g3_ _) rfl) (ldCell bE (g30_ _) rfl), ⟨pc0 X.kind X.n [], ret_val rfl, PRep.zero _ _ _ _ _⟩, (ub_ (ub_ (ub_ (ub_ q oO bD) oO aH) oO aI) oO aJ)⟩)
end
section
abbrev EndB {α : Type} (w : World) (res : Except Int α) (V : α → Value) : Ending → World → Prop := Ends 30 res V (fun _ w' => Below w.heap.size w w') (fun w' => Below w.heap.size w w')
theorem vw_must (e : Int) (w : World) : Calls Tryz.prog 81 #[.int .i64 e] w (EndB w (mustV e) fun _ => .tuple #[]) := by
 refine W.e func81 rfl ntmps81 bL ?_
 have a := br_ (w.heap.size) w
 refine W.sr <| WL.M rfl <| WL.O (.neq rfl rfl) <| WL.e <| W.cond rfl (fun b => ?_) (fun b => ?_)
 have c := ndT b
 refine W.reg <| WL.O (.mkI u30_ rfl) <| WL.panic rfl (pn_is ?_)
 exact Ends.err 22 (by unfold mustV; rw [if_neg aS]) a
 have c := ndF b
 refine W.k <| W.norm (W.ret0 rfl ?_)
 exact Ends.ok () (by unfold mustV; rw [if_pos aS]) rfl a
theorem vw_want (b : Bool) (w : World) : Calls Tryz.prog 37 #[.bool b] w (EndB w (wantV b) fun _ => .tuple #[]) := by
 refine W.e func37 rfl ntmps37 bL ?_
 have a := br_ (w.heap.size) w
 refine W.sr <| WL.M rfl <| WL.O (.not rfl) <| WL.e <| W.cond rfl (fun c => ?_) (fun c => ?_)
 refine W.reg <| WL.O (.mkI u30_ rfl) <| WL.panic rfl (pn_is ?_)
 exact Ends.err 22 (by unfold wantV; rw [if_neg (by simp_all)]) a
 refine W.k <| W.norm (W.ret0 rfl ?_)
 exact Ends.ok () (by unfold wantV; rw [if_pos (by simp_all)]) rfl a
theorem vw_room (b : Bool) (w : World) : Calls Tryz.prog 35 #[.bool b] w (EndB w (roomV b) fun _ => .tuple #[]) := by
 refine W.e func35 rfl ntmps35 bL ?_
 have a := br_ (w.heap.size) w
 refine W.sr <| WL.M rfl <| WL.O (.not rfl) <| WL.e <| W.cond rfl (fun c => ?_) (fun c => ?_)
 refine W.reg <| WL.O (.mkI u30_ rfl) <| WL.panic rfl (pn_is ?_)
 exact Ends.err 25 (by unfold roomV; rw [if_neg (by simp_all)]) a
 refine W.k <| W.norm (W.ret0 rfl ?_)
 exact Ends.ok () (by unfold roomV; rw [if_pos (by simp_all)]) rfl a
theorem bind_err {α β : Type} {x : Except Int α} {f : α → Except Int β} {k : Int} (h : x = .error k) : (x >>= f) = .error k := by rw [h]; rfl
theorem bind_ok {α β : Type} {x : Except Int α} {f : α → Except Int β} {a : α} (h : x = .ok a) : (x >>= f) = f a := by rw [h]; rfl
def stepE (e : Int) : Except Int Unit := do roomV (!decide (e = 9)); mustV e
theorem stepE_V (p : PathP × Int) : stepV p = (stepE p.2).map fun _ => p.1 := by
  unfold stepV stepE roomV mustV
  by_cases h0 : p.2 = 0
  · rw [h0]; rfl
  · by_cases h9 : p.2 = 9
    · rw [h9]; rfl
    · rw [if_neg h0, if_neg h9, if_pos (by simp [h9])]
      show _ = Except.map _ (if p.2 = 0 then _ else _)
      rw [if_neg h0]; rfl
theorem vw_step (e : Int) (w : World) : Calls Tryz.prog 75 #[.int .i64 e] w (EndB w (stepE e) fun _ => .tuple #[]) := by
 refine W.e func75 rfl ntmps75 bL ?_
 have a := br_ (w.heap.size) w
 refine W.sr <| WL.M rfl <| WL.O (.neq rfl rfl) <| WL.ce hB_ rfl rfl ((vw_room _ _)) (fun l m b c => ?_) (fun q m b c => ?_)
 have i := bt_ a (Below.mono c a.size)
 exact pn_is (Ends.err l (bind_err b) i)
 have d := btr a c
 refine WL.e <| W.reg <| WL.M rfl <| WL.ce hB_ rfl rfl ((vw_must _ _)) (fun n o f g => ?_) (fun s o f g => ?_)
 have j := bt_ d (Below.mono g d.size)
 exact pn_is (Ends.err n (by unfold stepE; rw [bind_ok aS]; exact f) j)
 have k := btr d g
 refine WL.e <| W.norm (W.ret0 rfl ?_)
 exact Ends.ok () (by unfold stepE; rw [bind_ok aS]; assumption) rfl k
theorem must_ok {e : Int} {u : Unit} (h : mustV e = .ok u) : e = 0 := by
 unfold mustV at h; split at h
 ·
  assumption
 ·
  cases h
theorem must_err {α : Type} {e k : Int} {x : Except Int α} (h : mustV e = .error k) : (if e = 0 then x else .error 22) = .error k := by
 unfold mustV at h; split at h
 ·
  cases h
 ·
  rename_i h0; rw [if_neg h0]; cases h; rfl
theorem vw_plus (a b : Int) (w : World) : Calls Tryz.prog 110 #[.int .i64 a, .int .i64 b] w (EndB w (plusV a b) fun n => .int .i64 n) := by
 refine W.e func110 rfl ntmps110 bL ?_
 have i := br_ (w.heap.size) w
 refine W.sr <| WL.Z rfl <| W.sr <| WL.M rfl <| WL.M rfl <| WL.c1 hB_ rfl rfl ((fix_Add a b _)) (fun o j => ?_)
 have c := btr i j
 simp only [pairI]
 refine WL.M rfl <| WL.O (.ext rfl rfl) <| WL.O (.ext rfl rfl) <| WL.A rfl <| WL.Z rfl <| W.sr <| WL.M rfl <| WL.ce hB_ rfl rfl ((vw_must _ _)) (fun l m d f => ?_) (fun q m d f => ?_)
 have g := bt_ c (Below.mono f c.size)
 exact pn_is (Ends.err l (by unfold plusV; exact must_err d) g)
 have k := btr c f
 refine WL.e <| W.sr <| WL.M rfl <| WL.Z rfl <| W.ret (W.r1 rfl rfl ?_)
 exact Ends.ok _ (by unfold plusV; rw [if_pos (must_ok aS)]) rfl k
end
section
section
variable {F : Fence} {P : Program} {n : Nat}
def roundPP (P : Program) (l : Nat) (R : Ending → World → Prop) : Exit → Act → World → Prop
 | .normal, _, w => ∃ v w', (Instr.endRound l none).run P w = .ok v w' ∧ R (.returned v) w'
 | .panic c, a, w => a.defers = [] ∧ R (.panicked c) w
 | _, _, _ => False
theorem roundIn_of_wpInP {l : Nat} {f : FuncId} {tmps : Array Value} {assign body : Code} {w : World} {R : Ending → World → Prop} (hF : F.fn f) (hf : ∃ fn, P.funcs[f]? = some fn)
  (h : assign.wpIn (F.inRound l) n P (Exit.then (fun a₁ w₁ => ∃ w₂, (Instr.beginRound l).run P w₁ = .ok () w₂ ∧ body.wpIn (F.inRound l) n P (roundPP P l R) a₁ w₂) (fun _ _ _ => False))
   { tmps := tmps, defers := [] } w) :
  RoundIn F n P l f tmps assign body w R := by
 refine ⟨hF, fun c cs hr => ?_⟩
 let b : Frame := { (default : Frame) with fn := f, kind := .normal, roundOf := some l }
 have hb0 : Frame.round l f tmps assign body .normal = b.atR { tmps := tmps, defers := [] } [.code assign, .beginRound, .code body] := by
  simp [Frame.round, Frame.atR, b]
 have hr' : (F.inRound l).room ((c :: cs).length + 1 + n) := hr
 have hF' : (F.inRound l).fn b.fn := hF
 obtain ⟨e, a₁, w₁, hq, a⟩ := h b [.beginRound, .code body] (c :: cs) rfl hF' hr'
 rw [← hb0] at a
 cases e with
 | normal =>
  obtain ⟨w₂, i, d⟩ := hq
  have j : StepsIn (Machine.fenced P (F.inRound l)) P (lone (b.atR a₁ [.beginRound, .code body]) (c :: cs) w₁) (lone (b.atR a₁ [.code body]) (c :: cs) w₂) :=
   .one (fenced_calm (fr := b.atR a₁ [.beginRound, .code body]) hF' hr' rfl) (stepR_beginRound rfl i)
  obtain ⟨e₂, a₂, w₃, hq₂, harr₂⟩ := d b [] (c :: cs) rfl hF' hr'
  cases e₂ with
  | normal =>
   obtain ⟨v, w₄, g, hR⟩ := hq₂
   exact ⟨.returned v, w₄, hR, (StepsIn.trans a j).trans (StepsIn.trans harr₂ (.one (fenced_calm (fr := b.atR a₂ []) hF' hr' rfl) (stepR_round_end rfl rfl g)))⟩
  | panic chain =>
   obtain ⟨hd, hR⟩ := hq₂
   obtain ⟨todo, hs⟩ := harr₂
   have hl : ({ b.atR a₂ todo with mode := .panicking chain } : Frame).leaving P w₃ (.panicked chain) := ⟨rfl, hd, hf⟩
   exact ⟨.panicked chain, w₃, hR, (StepsIn.trans a j).trans (StepsIn.trans hs (.one (fenced_leaving hF' hr' hl) (step_leave_panicked hl)))⟩
  | ret => exact hq₂.elim
  | exit id => exact hq₂.elim
  | goto t => exact hq₂.elim
  | outgrown => exact hq₂.elim
 | exit id => exact hq.elim
 | goto t => exact hq.elim
 | ret => exact hq.elim
 | panic chain => exact hq.elim
 | outgrown => exact hq.elim
end
section
variable {P : Program} {n : Nat} {ops : Array Oper} {Q : Exit → Act → World → Prop}
theorem callsIn_round {m l : Nat} {f : FuncId} {args : Array Value} {w : World} {R : Ending → World → Prop} (h : Calls P f args w R) : CallsIn (Fence.wide.inRound l) m P f args w R :=
 callsIn_wide.2 h
theorem Oper.wpIn_round {l : Nat} {o : Oper} {a : Act} {w : World} {next next' : Act → World → Prop} (hd : ∀ c, o.op ≠ .defer c) (hno : ¬ LetsOut Q) (hn : ∀ a w, next a w → next' a w)
  (h : o.wp P a w next Q ∨ (o.asks P a w ∧ LetsOut Q)) : o.wpIn (Fence.wide.inRound l) n P a w next' Q := by
 rcases h with h | ⟨-, h⟩
 ·
  refine ⟨fun _ _ => trivial, ?_⟩
  rw [show (Fence.wide.inRound l).round = some l from rfl, Oper.semAt_eq _ _ _ hd]
  unfold Oper.wp at h
  cases hq : (execOp a.eval o).run P w with
  | ok r w' =>
   rw [hq] at h
   cases r with
   | value v => exact hn _ _ h
   | skip => exact hn _ _ h
   | defer d => exact hn _ _ h
   | enter f args =>
    refine ⟨fun hq => (nomatch (show false = true from hq)), callsIn_round (Calls.mono (P := P) h fun e w'' he => ?_)⟩
    cases e with
    | returned v => exact hn _ _ he
    | panicked c => exact he
    | outgrown => exact he
   | row r args => exact ⟨fun hq => (nomatch (show false = true from hq)), fun c cs _ => by
     obtain ⟨v, w'', hr, hs⟩ := h c cs
     exact ⟨v, w'', hn _ _ hr, stepsIn_wide.2 hs⟩⟩
   | _ => exact h.elim
  | halt s w' =>
   rw [hq] at h
   cases s <;> first | exact h | exact h.elim
 ·
  exact ab_ h hno
theorem wpOps_round {l : Nat} (hd : ∀ o ∈ ops.toList, ∀ c, o.op ≠ .defer c) (hno : ¬ LetsOut Q) : ∀ (is : List Nat) (a : Act) (w : World), wpOps P ops Q is a w → wpOpsIn (Fence.wide.inRound l) n P ops Q is a w
 | [], a, w, h => h
 | i :: rest, a, w, h => by
  have ih := wpOps_round (l := l) hd hno rest
  simp only [wpOps] at h
  simp only [wpOpsIn]
  cases ho : ops[i]? with
  | none => rw [ho] at h; exact ih a w h
  | some o =>
   rw [ho] at h
   simp only at h ⊢
   have hm : o ∈ ops.toList := by
    obtain ⟨hi, rfl⟩ := Array.getElem?_eq_some_iff.1 ho
    exact Array.getElem_mem_toList hi
   split at h
   ·
    rename_i hw
    rw [if_pos hw]
    exact Oper.wpIn_round (hd o hm) hno ih h
   ·
    rename_i hw
    rw [if_neg hw]
    exact ⟨fun _ _ => trivial, ih _ _ h⟩
theorem wpIn_region_round {l id : Nat} {a : Act} {w : World} (hm : P.follows .mixedOrders = true) (hd : ∀ o ∈ ops.toList, ∀ c, o.op ≠ .defer c) (hno : ¬ LetsOut Q)
  (h : wpAny P .any ops Q ops.size (Array.replicate ops.size false) a { w with drawn := w.drawn + 1 }) : (Code.region id ops true).wpIn (Fence.wide.inRound l) n P Q a w :=
 wpIn_region_draw fun t => by
  simp only [Region.schedule, hm, Bool.true_or, if_true]
  exact wpOps_round hd hno _ _ _ (wpAny_sound ops.size t _ a _ h)
theorem wpIn_region_roundF {l id : Nat} {a : Act} {w : World} (hd : ∀ o ∈ ops.toList, ∀ c, o.op ≠ .defer c) (hno : ¬ LetsOut Q)
  (h : wpOps P ops Q (List.range ops.size) a w) : (Code.region id ops false).wpIn (Fence.wide.inRound l) n P Q a w :=
 wpIn_region (wpOps_round hd hno _ _ _ h)
end
end
section
section
variable {P : Program} {n : Sh} {f : Fr} {w : World} {POST : Exit → Act → World → Prop}
def rfRec (fn : FuncId) (a : Act) (ps : Array Tmp) (assign body : Code) (D : Nat) (st : LoopState) (pe : Option Code) : Loop := { state := st, pending := pe, fn, tmps := a.tmps, params := ps, assign, body, defers := D }
def rfW (fn : FuncId) (a : Act) (ps : Array Tmp) (assign body : Code) (w : World) : World := (w.alloc (.deferred (some []))).alloc (.loop (rfRec fn a ps assign body w.heap.size .ready none))
theorem wpListIn_app {ops : Array Oper} {Q1 Q : Exit → Act → World → Prop} {rest : List Oper} {m : Nat} (hno : ∀ a w, ¬ Q1 .outgrown a w) (h1 : ∀ a w, Q1 .normal a w → wpListIn Fence.wide m P ops Q rest a w) (h2 : ∀ c a w, Q1 (.panic c) a w → Q (.panic c) a w) :
  ∀ (pre : List Oper) (a : Act) (w : World), (∀ o ∈ pre, ∀ c, o.op ≠ .defer c) → wpList P ops Q1 pre a w → wpListIn Fence.wide m P ops Q (pre ++ rest) a w
 | [], a, w, _, h => h1 a w h
 | o :: pre, a, w, hd, h => by
  have ih := wpListIn_app hno h1 h2 pre
  simp only [wpList] at h
  rw [List.cons_append]
  simp only [wpListIn]
  have hd' : ∀ o ∈ pre, ∀ c, o.op ≠ .defer c := fun x hx => hd x (List.mem_cons_of_mem _ hx)
  split at h
  ·
   rename_i hw
   rw [if_pos hw]
   rcases h with h | ⟨-, h⟩
   ·
    refine ⟨fun _ _ => trivial, ?_⟩
    rw [show Fence.wide.round = none from rfl, Oper.semAt_none]
    unfold Oper.wp at h
    cases hq : (execOp a.eval o).run P w with
    | ok r w' =>
     rw [hq] at h
     cases r with
     | value v => exact ih _ _ hd' h
     | skip => exact ih _ _ hd' h
     | defer d => exact ih _ _ hd' h
     | enter f args =>
      refine ⟨fun hq => (nomatch (show false = true from hq)), callsIn_wide.2 (Calls.mono (P := P) h fun e w'' he => ?_)⟩
      cases e with
      | returned v => exact ih _ _ hd' he
      | panicked c => exact h2 _ _ _ he
      | outgrown => obtain ⟨a, w, hx⟩ := he; exact ab_ hx (hno a w)
     | row r args => exact ⟨fun hq => (nomatch (show false = true from hq)), fun c cs _ => by
       obtain ⟨v, w'', hr, hs⟩ := h c cs
       exact ⟨v, w'', ih _ _ hd' hr, stepsIn_wide.2 hs⟩⟩
     | _ => exact h.elim
    | halt s w' =>
     rw [hq] at h
     cases s <;> first | exact h2 _ _ _ h | exact h.elim
   ·
    obtain ⟨a, w, hx⟩ := h; exact ab_ hx (hno a w)
  ·
   rename_i hw
   rw [if_neg hw]
   exact ⟨fun _ _ => trivial, ih _ _ hd' h⟩
def YS (P : Program) (n : Sh) (ops : Array Oper) (Q : Exit → Fr → World → Prop) (d : Nat) (x y : Operand) (post : List Oper) (f : Fr) (w : World) : Prop :=
 ∃ l v, evo f x = some (.func (.yield l) #[] #[]) ∧ evo f y = some v ∧ YieldAt Fence.wide 0 P l #[v] w fun e w' => match e with
  | .returned r => WL P n ops Q post ((d, r) :: f) w'
  | .panicked c => Q (.panic c) f w'
  | .outgrown => False
def QY (K : Fr → World → Prop) (Q : Exit → Fr → World → Prop) : Exit → Fr → World → Prop
 | .normal, f, w => K f w
 | .panic c, f, w => Q (.panic c) f w
 | _, _, _ => False
theorem W.regYield {id d ty : Nat} {pos : String} {aft : Array Edge} {x y : Operand} {ats : Array TypeId} {pre post : List Oper} {Q : Exit → Fr → World → Prop} {ops : Array Oper}
  (hops : ops.toList = pre ++ ⟨some d, .call ⟨.value x, #[y], ats⟩, ty, pos, aft, none⟩ :: post) (hd : Nat.blt d n.n = true) (hno : ∀ f w, ¬ Q .outgrown f w) (hdp : ∀ o ∈ pre, ∀ c, o.op ≠ .defer c) (hdq : ∀ o ∈ post, ∀ c, o.op ≠ .defer c)
  (h : WL P n ops (QY (YS P n ops Q d x y post) Q) pre f w) : W P n (.region id ops false) Q f w := by
 unfold W
 intro a ha
 refine (wpIn_wide (n := 1)).1 (wpIn_region_list ?_)
 rw [hops]
 refine wpListIn_app (Q1 := lift n (QY (YS P n ops Q d x y post) Q)) (fun a w ⟨f, _, hq⟩ => hq) ?_ ?_ pre a w hdp ((by unfold WL at h; exact h : ∀ a, Rep n f a → wpList P ops (lift n (QY (YS P n ops Q d x y post) Q)) pre a w) a ha)
 ·
  rintro a w ⟨f, hf, l, v, hx, hy, fn, tm, as_, bd, b, hr⟩
  simp only [wpListIn]
  rw [if_pos (by simp [Region.wanted])]
  refine ⟨fun _ _ => trivial, ?_⟩
  have ex : (Oper.semAt Fence.wide.round a.eval ⟨some d, .call ⟨.value x, #[y], ats⟩, ty, pos, aft, none⟩).run P w = .ok (.round l fn tm as_ bd) w := by
   rw [show Fence.wide.round = none from rfl, Oper.semAt_none]
   simp [execOp, resolve, invoke, hf.agr _ _ hx, hf.agr _ _ hy, b, Deferred.ofValue]
  rw [ex]
  refine ⟨fun hq => (nomatch (show false = true from hq)), hr.mono fun e w' he => ?_⟩
  cases e with
  | returned r =>
   have := wpListIn_app (P := P) (ops := ops) (m := 1) (Q1 := lift n Q) (Q := lift n Q) (rest := []) (fun a w ⟨f, _, hq⟩ => hno f w hq) (fun _ _ h => h) (fun _ _ _ h => h) post _ _ hdq ((by (have he : WL P n ops Q post ((d, r) :: f) w' := he); (unfold WL at he); exact he : ∀ a, Rep n ((d, r) :: f) a → wpList P ops (lift n Q) post a w') _ (hf.put hd r))
   rwa [List.append_nil] at this
  | panicked c => exact ⟨f, hf, he⟩
  | outgrown => exact he.elim
 ·
  rintro c a w ⟨f, hf, hq⟩
  exact ⟨f, hf, hq⟩
def nodef (o : Oper) : Bool := match o.op with | .defer _ => false | _ => true
theorem nd_of {l : List Oper} (h : l.all nodef = true) : ∀ o ∈ l, ∀ c, o.op ≠ .defer c := fun o ho c hc => by
 have := List.all_eq_true.1 h o ho
 unfold nodef at this
 rw [hc] at this
 cases this
theorem W.regYieldJ (j : Nat) {id d ty : Nat} {pos : String} {aft : Array Edge} {x y : Operand} {ats : Array TypeId} {Q : Exit → Fr → World → Prop} {l : List Oper}
  (hop : l[j]? = some ⟨some d, .call ⟨.value x, #[y], ats⟩, ty, pos, aft, none⟩) (hd : Nat.blt d n.n = true) (hno : ∀ f w, ¬ Q .outgrown f w) (hdp : (l.take j).all nodef = true) (hdq : (l.drop (j + 1)).all nodef = true)
  (h : WL P n l.toArray (QY (YS P n l.toArray Q d x y (l.drop (j + 1))) Q) (l.take j) f w) : W P n (.region id l.toArray false) Q f w := by
 obtain ⟨hj, ho⟩ := List.getElem?_eq_some_iff.1 hop
 refine W.regYield (ty := ty) (pos := pos) (aft := aft) (ats := ats) (pre := l.take j) (post := l.drop (j + 1)) ?_ hd hno (nd_of hdp) (nd_of hdq) h
 show l = _
 rw [← ho, List.getElem_cons_drop, List.take_append_drop]
theorem Pure.slb3 {tx e : TypeId} {x y z u : Operand} {p : Option Addr} {m c : Nat} {i j k : Int} (hu : P.underlying tx = some (.slice e)) (hs : ∀ w, (sizeOf e).run P w = .ok 1 w) (hx : evo f x = some (.slice p m c))
  (hi : evo f y = some (.int .i64 i)) (hj : evo f z = some (.int .i64 j)) (hk : evo f u = some (.int .i64 k)) (a b : Nat) (ei : i = a) (ej : j = b) (ek : k = b) (hab : a < b) (hbc : b ≤ c) :
  Pure P (.slice tx x (some y) (some z) (some u)) f (.slice (p.map (·.add a)) (b - a) (b - a)) := fun ρ hρ d ty pos aft g w => by
 subst ei; subst ej; subst ek
 have h1 : a ≤ b := by omega
 have l : ¬ b = a := by omega
 simp [execOp, Instr.sliceAt, Instr.slice, Instr.sliceBounds, run_sliceBound, hρ _ _ hx, hρ _ _ hi, hρ _ _ hj, hρ _ _ hk, run_underlying hu, hs, hbc, h1, l]
end
end
section
theorem no_out {m : Nat} {J : Nat → World → Prop} {Jp : List PanicEntry → World → Prop} {w : World} (h : (∃ v, Ending.outgrown = .returned v ∧ J m w) ∨ ∃ ch, Ending.outgrown = .panicked ch ∧ Jp ch w) : False := by
 rcases h with ⟨_, h, _⟩ | ⟨_, h, _⟩ <;> cases h
theorem chunk_iter (l bs_ bn : Nat) (p : Option Addr) (len c m : Nat) (J : Nat → World → Prop) (Jp : List PanicEntry → World → Prop) (w : World) (hlen : len = 2 * m) (hc : len ≤ c) (hm : m ≤ 1000000) (h0 : J 0 w)
  (hJd : ∀ k w1 w2, J k w1 → Drew w1 w2 → J k w2) (hJ : ∀ k w1, J k w1 → Blk w1 bs_ #[.slice p len c] 39 ∧ Blk w1 bn #[.int .i64 2] 3)
  (hp : 0 < m → p ≠ none)
  (hY : ∀ k w1, k < m → J k w1 → YieldAt Fence.wide 0 Tryz.prog l #[.slice (p.map (·.add (2 * k))) (2 * (k + 1) - 2 * k) (2 * (k + 1) - 2 * k)] w1 fun e w2 => (e = .returned (.bool true) ∧ J (k + 1) w2) ∨ ∃ ch, e = .panicked ch ∧ Jp ch w2) :
  Calls Tryz.prog 145 #[.func (.yield l) #[] #[], .pointer (some ⟨bs_, 0, none⟩), .pointer (some ⟨bn, 0, none⟩)] w fun e w' => (∃ v, e = .returned v ∧ J m w') ∨ ∃ ch, e = .panicked ch ∧ Jp ch w' := by
 have hb0 := hJ 0 w h0
 refine W.e func145 rfl ntmps145 bL ?_
 refine W.sr <| WL.Z rfl <| W.b <| W.loop (α := Nat) (fun t => [(0, .func (.yield l) #[] #[]), (1, .pointer (some ⟨bs_, 0, none⟩)), (2, .pointer (some ⟨bn, 0, none⟩)), (4, .int .i64 ((2 * t : Nat) : Int))]) (fun t w' => J t w' ∧ t ≤ m) (fun t => m - t) (0) ⟨rfl, rfl, rfl, rfl, tT⟩ (⟨h0, nl_ _⟩) (fun t w1 hR => ?_)
 obtain ⟨i, rfl⟩ : ∃ i, i = t := ⟨t, rfl⟩
 obtain ⟨hj, hi⟩ := hR
 have d := hJ i w1 hj
 have a := d.1
 have o := d.2
 refine W.seq <| W.sr <| WL.M rfl <| WL.R (Rd.ld (g39_ _) rfl a rfl) <| WL.O (.lenS u39_ rfl) <| WL.O (.lss rfl rfl) <| WL.e <| W.cond rfl (fun j => ?_) (fun j => ?_)
 ·
  have q := dT j; refine W.k <| W.seq <| W.b <| W.seq <| W.regQ mixed kR <| WQ.r (fun m => Rd.ld (g3_ _) rfl o rfl) rfl <| WQ.r (fun m => Rd.ld (g39_ _) rfl a rfl) rfl <| WQ.p (.mv rfl) rfl <| WQ.p (.slbF u39_ s3_ rfl rfl  _ rfl oO) rfl <| WQ.p (.lenS u39_ rfl) rfl <| WQ.p (.min2 rfl rfl) rfl <| WQ.p (.as rfl) rfl <| WQ.nil (fun w2 f => ?_); have s := a.drew f; refine W.seq <| W.regYieldJ 10 rfl rfl (fun _ _ h => by (simp only [nx, inb, Post] at h); exact no_out h) rfl rfl <| WL.M rfl <| WL.R (Rd.ld (g39_ _) rfl s rfl) <| WL.M rfl <| WL.M rfl <| WL.M rfl <| WL.O (.add rfl rfl (i64w oO)) <| WL.M rfl <| WL.M rfl <| WL.O (.add rfl rfl (i64w oO)) <| WL.O (.slb3 u39_ s3_ rfl rfl rfl rfl (2 * i) (2 * (i + 1)) oO oO oO oO oO) <| WL.e <| ?_; have hy := hY i _ oO (hJd _ _ _ hj f); refine ⟨l, _, rfl, rfl, ?_⟩; obtain ⟨y, A, B, C, D, E⟩ := hy; refine ⟨y, A, B, C, D, E.mono ?_⟩; refine fun e wy hh => ?_
  rcases hh with ⟨rfl, g⟩ | ⟨ch, rfl, u⟩
  rotate_left
  ·
   simp only [nx, inb, Post]; exact (Or.inr ⟨ch, rfl, u⟩ : (∃ v, Ending.panicked ch = .returned v ∧ J m wy) ∨ ∃ c2, Ending.panicked ch = .panicked c2 ∧ Jp c2 wy)
  have hb2 := hJ _ _ g; refine WL.O (.not rfl) <| WL.e <| W.cond rfl (fun n => ?_) (fun n => ?_)
  ·
   have x := (nT n)
   contradiction
  have x := (nF n); refine W.k <| W.reg <| WL.M rfl <| WL.R (Rd.ld (g3_ _) rfl hb2.2 rfl) <| WL.O (.iis (((2 * (i + 1) : Nat) : Int)) (.add rfl rfl (i64w oO)) oO) <| WL.Z rfl ?_; exact ⟨i + 1, ⟨rfl, rfl, rfl, rfl, tT⟩, ⟨g, by omega⟩, by omega⟩
 have q := dF j
 refine W.exit <| W.norm (W.ret0 rfl ?_)
 exact .inl ⟨_, rfl, (show i = m by omega) ▸ hj⟩
end
section
def m6Y : Lay M6 := ⟨6, m6V, by decide, fun _ => rfl, fun x u hu => List.all_eq_true.1 (show (m6V x).all Value.oneCell' = true from rfl) u hu⟩
structure StH where
 ctm : M6
 fill : ColorV
 stroke : ColorV
 pen : PenV
 clips : Value
 font : Int
 size : Int
def stV (s : StH) : List Value := m6V s.ctm ++ (colorV s.fill ++ (colorV s.stroke ++ (penV s.pen ++ [s.clips, .int .i64 s.font, .int .i64 s.size])))
structure VwH where
 s : StH
 fonts : Value
 saved : Value
 path : Nat
 clip : Int
 inText : Bool
 lost : Bool
 text : M6
 line : M6
 args : Value
 items : Value
def vwC (h : VwH) : List Value := stV h.s ++ ([h.fonts, h.saved, .pointer (some ⟨h.path, 0, none⟩), .int .i64 h.clip, .bool h.inText, .bool h.lost] ++ (m6V h.text ++ (m6V h.line ++ [h.args, h.items])))
theorem vw_concat (a b : M6) (w : World) : Calls Tryz.prog 72 #[.agg (m6V a).toArray, .agg (m6V b).toArray] w (EndB w (catV a b) fun m => .agg (m6V m).toArray) := by
 obtain ⟨r, hr⟩ : ∃ r, r = concatR a b := ⟨_, rfl⟩
 unfold catV
 rw [← hr]
 refine W.e func72 rfl ntmps72 bL ?_
 have E := br_ (w.heap.size) w
 refine W.sr <| WL.box rfl rfl (fun b1 an F o L ag => ?_)
 have G := uB E F L
 have aa := bge F E.size
 refine WL.box rfl rfl (fun b3 ao q s t ah => ?_)
 have a5 := bgl q o.lt
 have H := o.un t a5
 have J := uB G q t
 have ab := bge q G.size
 refine WL.al z42_ rfl (fun b7 ap j N g ai => ?_)
 have a6 := bgl j H.lt
 have K := H.un g a6
 have P := bgl j s.lt
 have u := s.un g P
 have Q := uB J j g
 have ac := bge j J.size
 refine WL.e <| W.sr <| WL.R (Rd.ldA rfl K u42_ rfl isz42) <| WL.R (Rd.ldA rfl u u42_ rfl isz42) <| WL.c1 hB_ rfl rfl ((mat_Concat a b _)) (fun aq f => ?_)
 have T := K.bl f
 have U := u.bl f
 have v := N.bl f
 have x := btr Q f
 rw [← hr]
 simp only [m6R]
 refine WL.M rfl <| WL.O (.ext rfl rfl) <| WL.O (.ext rfl rfl) <| WL.al z42_ rfl (fun ar aj c A k ad => ?_)
 have ak := bgl c T.lt
 have am := bgl c U.lt
 have V := bgl c v.lt
 have X := v.un k V
 have Y := uB x c k
 have a7 := bge c x.size
 refine WL.stL rfl rfl A isz42 rfl rfl (fun au B l ae => ?_)
 have a0 := X.up l
 have i := ub_ Y oO l
 refine WL.Z rfl <| W.sr <| WL.M rfl <| WL.ce hB_ rfl rfl ((vw_must _ _)) (fun a8 a9 n d => ?_) (fun av a9 n d => ?_)
 have y := bt_ i (Below.mono d i.size)
 exact pn_is (Ends.err a8 (must_err n) y)
 have a1 := a0.bl d
 have a2 := B.bl d
 have a3 := btr i d
 refine WL.e <| W.sr <| WL.R (Rd.ldA rfl a2 u42_ rfl isz42) <| WL.stL rfl rfl a1 isz42 rfl rfl (fun aw C D af => ?_)
 have a4 := ub_ a3 oO D
 refine WL.e <| W.ret (W.retc1 rfl rfl (ldRow C u42_ rfl isz42)  ?_)
 exact Ends.ok _ (by rw [if_pos (must_ok aS)]) rfl a4
theorem vw_led (bv : Nat) (H : VwH) (x y : Int) (w : World) (h : Blk w bv (vwC H).toArray 74) :
  Calls Tryz.prog 108 #[.pointer (some ⟨bv, 0, none⟩), .int .i64 x, .int .i64 y] w (EndB w (ledV H.s.ctm x y) fun p => .agg (pointV p).toArray) := by
 obtain ⟨r, hr⟩ : ∃ r, r = applyR H.s.ctm x y := ⟨_, rfl⟩
 unfold ledV
 rw [← hr]
 refine W.e func108 rfl ntmps108 bL ?_
 have q := br_ (w.heap.size) w
 refine W.sr <| WL.al z57_ rfl (fun b1 a5 g A i a2 => ?_)
 have P := bgl g h.lt
 have t := h.un i P
 have Q := uB q g i
 have X := bge g q.size
 refine WL.e <| W.sr <| WL.M rfl <| WL.O (.nck rfl) <| WL.O (.fa u74_ rfl s68_ dD rfl) <| WL.O (.fa u68_ rfl s42_ dD rfl) <| WL.R (Rd.ldF (L := m6Y) u42_ rfl isz42 t (H.s.ctm) (rfl) rfl) <| WL.M rfl <| WL.M rfl <| ?_
 refine WL.O (.buildL (ps := _) blt57 rfl rfl rfl pS) ?_
 refine WL.c1 hB_ rfl rfl ((mat_Apply H.s.ctm x y _)) (fun w5 j => ?_)
 have T := t.bl j
 have u := A.bl j
 have v := btr Q j
 rw [← hr]
 simp only [ptR]
 refine WL.M rfl <| WL.O (.ext rfl rfl) <| WL.O (.ext rfl rfl) <| WL.al z57_ rfl (fun b9 a6 c B k a3 => ?_)
 have a4 := bgl c T.lt
 have C := bgl c u.lt
 have D := u.un k C
 have E := uB v c k
 have Y := bge c v.size
 refine WL.stL rfl rfl B isz57 rfl rfl (fun a7 m d a0 => ?_)
 have F := D.up d
 have b := ub_ E oO d
 refine WL.Z rfl <| W.sr <| WL.M rfl <| WL.ce hB_ rfl rfl ((vw_must _ _)) (fun U V f a => ?_) (fun a8 V f a => ?_)
 have l := bt_ b (Below.mono a b.size)
 exact pn_is (Ends.err U (must_err f) l)
 have G := F.bl a
 have J := m.bl a
 have K := btr b a
 refine WL.e <| W.sr <| WL.R (Rd.ldA rfl J u57_ rfl isz57) <| WL.stL rfl rfl G isz57 rfl rfl (fun a9 n o a1 => ?_)
 have N := ub_ K oO o
 refine WL.e <| W.ret (W.retc1 rfl rfl (ldRow n u57_ rfl isz57)  ?_)
 exact Ends.ok _ (by rw [if_pos (must_ok aS)]) rfl N
end
section
section
variable {P : Program} {n : Sh} {f : Fr}
theorem WL.mk0 {ops : Array Oper} {Q : Exit → Fr → World → Prop} {w : World} {rest : List Oper} {d ty : Nat} {pos : String} {aft : Array Edge} {t e : TypeId} {x y : Operand} {z : Value} {by' : Nat} {kl kc : IntKind} (j : Nat)
  (ht : P.underlying t = some (.slice e)) (hi : (P.info? e).map (fun i => (i.zero, i.size, i.bytes)) = some (some z, 1, by')) (hby2 : Nat.ble by' 1000 = true)
  (hx : evo f x = some (.int kl 0)) (hy : evo f y = some (.int kc j)) (hj : j ≤ 100000) (hd : Nat.blt d n.n = true)
  (k : ∀ w1, Own e w.heap.size w1 (.slice (some ⟨w.heap.size, 0, none⟩) 0 j) ([] : List Value) → Below w.heap.size w w1 → WL P n ops Q rest ((d, .slice (some ⟨w.heap.size, 0, none⟩) 0 j) :: f) w1) :
  WL P n ops Q (⟨some d, .makeSlice t x y, ty, pos, aft, none⟩ :: rest) f w := by
 cases hh : P.info? e with
 | none => rw [hh] at hi; cases hi
 | some i =>
  rw [hh] at hi; simp only [Option.map_some, Option.some.injEq, Prod.mk.injEq] at hi; obtain ⟨c, a, g⟩ := hi; have b : i.bytes ≤ 1000 := by rw [g]; simpa using hby2
  have hb1 : i.bytes * j ≤ 1000 * j := Nat.mul_le_mul_right _ b; obtain ⟨w', l, m, o⟩ := run_make_own (P := P) (w := w) w.heap.size t e i z 1 ht hh c a kl kc j oO (by unfold maxLen; omega) (nr_ _); refine WL.run hd (fun ρ hρ => ?_) (k w' m ((br_ _ _).grown o (nr_ _) fun k hk => by cases hk)); unfold execOp; simp [hρ _ _ hx, hρ _ _ hy, l]
end
theorem fix_FromV (n : Int) (w : World) : Calls Tryz.prog 112 #[.int .i64 n] w fun e w' => e = .returned (.tuple #[.int .i64 (fromV n).1, .int .i64 (fromV n).2]) ∧ w = w' := by
 refine W.e func112 rfl ntmps112 bL ?_
 refine W.sr <| WL.A rfl <| WL.Z rfl <| W.seq <| W.sr <| WL.M rfl <| WL.O (.lss rfl rfl) <| WL.M rfl <| WL.gd rfl rfl rfl (fun a => ?_) (fun a => ?_)
 have c := dF a
 refine WL.M rfl <| WL.Y a <| WL.O (.gtr rfl rfl) <| WL.O (.pkF rfl a rfl) <| WL.e <| W.cond rfl (fun b => ?_) (fun b => ?_)
 have d := dT b
 refine W.sr <| WL.A rfl <| WL.Z rfl <| W.ret (W.ret2 rfl rfl rfl ?_)
 first
 | exact ⟨rvE (by rw [show fromV n = (n * 65536, 0) from if_neg oO]), rfl⟩
 | exact ⟨rvE (by rw [show fromV n = (0, 11) from if_pos oO]), rfl⟩
 have d := dF b
 refine W.k <| W.sr <| WL.M rfl <| WL.O (.mul rfl rfl (i64w oO)) <| WL.A rfl <| WL.Z rfl <| W.ret (W.ret2 rfl rfl rfl ?_)
 first
 | exact ⟨rvE (by rw [show fromV n = (n * 65536, 0) from if_neg oO]), rfl⟩
 | exact ⟨rvE (by rw [show fromV n = (0, 11) from if_pos oO]), rfl⟩
 have c := dT a
 refine WL.N a <| WL.O (.pkT rfl a rfl) <| WL.e <| W.condT rfl rfl <| W.sr <| WL.A rfl <| WL.Z rfl <| W.ret (W.ret2 rfl rfl rfl ?_)
 first
 | exact ⟨rvE (by rw [show fromV n = (n * 65536, 0) from if_neg oO]), rfl⟩
 | exact ⟨rvE (by rw [show fromV n = (0, 11) from if_pos oO]), rfl⟩
def numX (k n : Int) : Int × Bool := if k = 3 then (n, fitsB n) else if k = 2 then ((fromV n).1, decide ((fromV n).2 = 0)) else (0, false)
theorem numX_P (o : PV) : numX (pvK o) (pvN o) = numP o := rfl
theorem plex_Number (x : PC) (w : World) : Calls Tryz.prog 84 #[.agg (pcV x).toArray] w fun e w' => e = .returned (.tuple #[.int .i64 (numX x.kind x.n).1, .bool (numX x.kind x.n).2]) ∧ Below w.heap.size w w' := by
 obtain ⟨k, n, t, kp, kl, kc, lp, ll, lc⟩ := x
 simp only [pcV]
 refine W.e func84 rfl ntmps84 bL ?_
 have f := br_ (w.heap.size) w
 refine W.sr <| WL.box rfl rfl (fun o q g a j E => ?_)
 have d := uB f g j
 have D := bge g f.size
 refine WL.A rfl <| WL.Z rfl <| W.seq <| W.sr <| WL.O (.fa u99_ rfl s3_ dD rfl) <| WL.R (Rd.ld (g3_ _) rfl a rfl) <| WL.e <| W.b <| W.sr <| WL.O (.eql rfl rfl) <| WL.Z rfl <| W.cond rfl (fun l => ?_) (fun l => ?_)
 have s := dT l
 refine W.seq <| W.regH 7 rfl mixed (fun w' => w'.heap[o]? = q.heap[o]? ∧ True) (fun F i => ?_)
 have u := a.drew i
 have v := Drew.below d i
 have c := And.intro (u.trans a.symm) True.intro
 refine WH.tp 0 rfl (.fa u99_ rfl s3_ dD rfl) c rfl ?_
 refine WH.tk 1 rfl (fun w' hw' => Rd.ld (g3_ _) rfl ((hw'.1).trans a) rfl) c rfl ?_
 refine WH.tp 2 rfl (.fa u99_ rfl s3_ dD rfl) c rfl ?_
 refine WH.tk 3 rfl (fun w' hw' => Rd.ld (g3_ _) rfl ((hw'.1).trans a) rfl) c rfl ?_
 refine WH.br1 4 rfl <| WL.c1 hB_ rfl rfl ((fix_Fits _ _)) (fun G y => ?_)
 obtain rfl := y
 refine WL.e <| ⟨c, ?_⟩
 refine WH.tp 5 rfl (.as rfl) c rfl ?_
 refine WH.tp 6 rfl (.as rfl) c rfl ?_
 refine WH.done kR <| W.ret (W.ret2 rfl rfl rfl ?_)
 exact ⟨fx_val (by unfold numX; rw [if_pos aS]; (first | done | rfl)), v⟩
 have s := dF l
 refine W.sr <| WL.O (.eql rfl rfl) <| WL.Z rfl <| W.cond rfl (fun m => ?_) (fun m => ?_)
 have B := dT m
 refine W.sr <| WL.O (.fa u99_ rfl s3_ dD rfl) <| WL.R (Rd.ld (g3_ _) rfl a rfl) <| WL.c1 hB_ rfl rfl ((fix_FromV _ _)) (fun H C => ?_)
 obtain rfl := C
 refine WL.M rfl <| WL.O (.ext rfl rfl) <| WL.O (.ext rfl rfl) <| WL.A rfl <| WL.Z rfl <| W.sr <| WL.M rfl <| WL.M rfl <| WL.O (.eql rfl rfl) <| WL.A rfl <| WL.Z rfl <| W.ret (W.ret2 rfl rfl rfl ?_)
 exact ⟨fx_val (by unfold numX; rw [if_neg aS, if_pos aS]; (first | done | rfl)), d⟩
 have B := dF m
 refine W.k <| W.sr <| WL.A rfl <| WL.Z rfl <| W.ret (W.ret2 rfl rfl rfl ?_)
 exact ⟨fx_val (by unfold numX; rw [if_neg aS, if_neg aS]; (first | done | rfl)), d⟩
theorem want_ok {b : Bool} {u : Unit} (h : wantV b = .ok u) : b = true := by
 unfold wantV at h; split at h
 ·
  assumption
 ·
  cases h
theorem want_err {b : Bool} {k : Int} (h : wantV b = .error k) : b = false ∧ k = 22 := by
 unfold wantV at h; split at h
 ·
  cases h
 ·
  rename_i hb; cases h; exact ⟨by simpa using hb, rfl⟩
theorem Own.baseV {e : TypeId} {B C : Nat} {w : World} {v : Value} {l : List Value} (h : Own e B w v l) (hC : C ≤ B) : Own e C w v l := by
 rcases h with ⟨hl, h⟩
 refine ⟨hl, ?_⟩
 rcases h with h | ⟨g, cap, cur, a, b, c⟩
 ·
  exact .inl h
 ·
  exact .inr ⟨g, cap, cur, a, nt_ hC b, c⟩
theorem Own.ltV {e : TypeId} {B : Nat} {w : World} {v : Value} {xs : List Value} (h : Own e B w v xs) : ∀ g, v.ownBlock = some g → B ≤ g ∧ g < w.heap.size := fun g hg => by
 rcases h with ⟨hl, h⟩
 rcases h with ⟨rfl, -⟩ | ⟨g1, cap, cur, rfl, h2, h3, -⟩
 ·
  cases hg
 ·
  cases hg
  exact ⟨h2, (Array.getElem?_eq_some_iff.1 h3).1⟩
theorem Own.upd {e : TypeId} {B r : Nat} {w w1 : World} {v : Value} {xs : List Value} (h : Own e B w v xs) (hu : Upd r w w1) (hr : ∀ g, v.ownBlock = some g → g ≠ r) : Own e B w1 v xs := by
 rcases h with ⟨hl, h⟩
 refine ⟨hl, ?_⟩
 rcases h with h | ⟨a, cap, cur, rfl, b, c, d⟩
 ·
  exact .inl h
 ·
  exact .inr ⟨a, cap, cur, rfl, b, (hu.other a (hr a rfl)).trans c, d⟩
def numsC (cs : List PC) (n : Nat) : Except Int (List Int) := if cs.length = n ∧ cs.all (fun x => (numX x.kind x.n).2) = true then .ok (cs.map fun x => (numX x.kind x.n).1) else .error 22
theorem vw_numbers (bv n : Nat) (H : VwH) (p : Option Addr) (cs : List PC) (c : Nat) (w : World) (h : Blk w bv (vwC H).toArray 74) (ha : H.args = .slice p cs.length c) (hr : RowM pcL w p cs) (hn : n ≤ 100) (hl : cs.length ≤ 100) :
  Calls Tryz.prog 54 #[.pointer (some ⟨bv, 0, none⟩), .int .i64 (n : Int)] w (EndsV 30 (numsC cs n) (fun l v w' => Below w.heap.size w w' ∧ OwnM ivL 3 w.heap.size w' v l) (fun w' => Below w.heap.size w w')) := by
 obtain ⟨s, fo, sa, pa, cl, it, lo, te, li, ar, its⟩ := H
 simp only at ha
 subst ha
 have ae := hr.lt
 refine W.e func54 rfl ntmps54 bL ?_
 have N := br_ (w.heap.size) w
 refine W.sr <| WL.Z rfl <| W.sr <| WL.M rfl <| WL.O (.nck rfl) <| WL.O (.fa u74_ rfl s72_ dD rfl) <| WL.R (Rd.ld (g72_ _) rfl h rfl) <| WL.O (.lenS u72_ rfl) <| WL.M rfl <| WL.O (.eql rfl rfl) <| WL.ce hB_ rfl rfl ((vw_want _ _)) (fun k3 w1 F f => ?_) (fun a2 w1 F f => ?_)
 have a0 := bt_ N (Below.mono f N.size)
 obtain ⟨f, rfl⟩ := want_err F
 exact pn_is (ee_ 22 (by unfold numsC; rw [if_neg (fun hc => by simp only [decide_eq_false_iff_not] at f; exact f oO)]) a0)
 have ab := h.bl f
 have ac := rb_ hr f (fun a => hr.lt a)
 have ad := btr N f
 have aD : cs.length = n := by (have := want_ok F); simp only [decide_eq_true_eq] at this; omega
 refine WL.e <| W.sr <| WL.M rfl <| ?_
 have a1 := ad.size
 refine WL.mk0 (n) u39_ inf3 rfl rfl rfl oO rfl (fun w7 af B => ?_)
 have aE := ab.below B ab.lt
 have aF := rb_ ac B (fun a => ac.lt a)
 have ag := btr ad B
 have aN := B.size
 refine WL.Z rfl <| W.seq <| W.sr <| WL.M rfl <| WL.O (.nck rfl) <| WL.O (.fa u74_ rfl s72_ dD rfl) <| WL.R (Rd.ld (g72_ _) rfl aE rfl) <| WL.O (.lenS u72_ rfl) <| WL.M rfl <| WL.e <| W.b <| W.loop (α := Value × Nat) (fun t => [(0, .pointer (some ⟨bv, 0, none⟩)), (5, t.1), (23, .slice p cs.length c), (24, .int .i64 (cs.length : Int)), (25, .int .i64 (t.2 : Int))]) (fun t w' => Below w.heap.size w w' ∧ RowM pcL w' p cs ∧ Own 3 w.heap.size w' t.1 (((cs.take t.2).map fun x => (numX x.kind x.n).1).map intV) ∧ t.2 ≤ cs.length ∧ ∀ j (h : j < cs.length), j < t.2 → (numX cs[j].kind cs[j].n).2 = true) (fun t => cs.length - t.2) ((_, 0)) ⟨rfl, rfl, rfl, rfl, rfl, tT⟩ (⟨ag, aF, Own.baseV af a1, nl_ _, fun j _ h => ab_ h oO⟩) (fun t w1 hR => ?_)
 obtain ⟨⟨sv, i⟩, aG⟩ : ∃ i, i = t := ⟨t, rfl⟩
 subst aG
 obtain ⟨q1, q2, q3, q4, q5⟩ := hR
 simp only at q3 q4 q5
 have ah : w.heap.size ≤ w1.heap.size := q1.size
 have ai := Own.ltV q3
 refine W.sr <| WL.O (.lss rfl rfl) <| WL.e <| W.seq <| W.cond rfl (fun P => ?_) (fun P => ?_)
 have aj := dT P
 refine W.k <| W.seq <| W.b <| W.sr <| WL.O (.ixm u72_ s99_ rfl rfl (q2.isp (by first | omega | (simp only [List.length_cons, List.length_nil]; omega))) (i) (rfl) oO) <| WL.R (Rd.ldS u99_ rfl isz99 q2 (i) (by first | omega | (simp only [List.length_cons, List.length_nil]; omega)) rfl) <| WL.al z99_ rfl (fun aW aT C a3 m aO => ?_)
 have a4 := nt_ ah m.size
 have ak := Own.new q3 C m
 have J := fun a => C ▸ q2.lt a
 have am := RowM.upd q2 m (fun a => nn_ (J a))
 have an := uB q1 C m
 have aH := bge C q1.size
 refine WL.stL rfl rfl a3 isz99 rfl rfl (fun aX K o aP => ?_)
 have a5 := nt_ a4 o.size
 have ao := Own.upd ak o ((fun g hg e => by have := (ai g hg).2; omega))
 have Q := RowM.upd am o (fun a => nn_ (J a))
 have ap := ub_ an oO o
 refine WL.e <| W.sr <| WL.R (Rd.ldA rfl K u99_ rfl isz99) <| WL.c1 hB_ rfl rfl ((plex_Number cs[i] _)) (fun aY u => ?_)
 have a6 := nt_ a5 u.size
 have aq := Own.below ao u
 have au := K.bl u
 have T := rb_ Q u (fun a => Q.lt a)
 have G := btr ap u
 refine WL.M rfl <| WL.O (.ext rfl rfl) <| WL.O (.ext rfl rfl) <| WL.A rfl <| WL.Z rfl <| W.sr <| WL.M rfl <| WL.ce hB_ rfl rfl ((vw_want _ _)) (fun aZ aI D d => ?_) (fun a' aI D d => ?_)
 have U := bt_ G (Below.mono d G.size)
 obtain ⟨aJ, rfl⟩ := want_err D
 exact pn_is (ee_ 22 (by unfold numsC; rw [if_neg (fun hc => by have := List.all_eq_true.1 hc.2 _ (List.getElem_mem (by omega : i < cs.length)); rw [aJ] at this; cases this)]) U)
 have a7 := nt_ a6 d.size
 have av := Own.below aq d
 have aw := au.bl d
 have V := rb_ T d (fun a => T.lt a)
 have X := btr G d
 have aK := want_ok D
 refine WL.e <| W.reg <| WL.M rfl <| WL.M rfl <| WL.bsl (ps := _) u39_ s3_ z3_ rfl rfl rfl rfl rfl pR rfl (fun b0 aU y a8 q aQ => ?_)
 have L := nt_ a7 q.size
 have ax := Own.new av y q
 have aV := bgl y aw.lt
 have a9 := fun a => y ▸ V.lt a
 have ay := RowM.upd V q (fun a => nn_ (a9 a))
 have az := uB X y q
 have aL := bge y X.size
 refine WL.appm u39_ inf3 rfl rfl rfl ax rfl a8 rfl (by rw [List.length_map, List.length_map, List.length_take]; omega) (L) rfl (fun b1 b2 aa E aR => ?_)
 have aA := rb_ ay E ae
 have aB := bt_ az (E.mono (nr_ _))
 have aS := nt_ L E.size
 refine WL.Z rfl <| W.reg <| WL.O (.iis (((i + 1 : Nat) : Int)) (.add rfl rfl (i64w oO)) oO) <| WL.M rfl <| WL.e <| ?_
 exact ⟨(_, i + 1), ⟨rfl, rfl, rfl, rfl, rfl, tT⟩, ⟨aB, aA, by rw [List.take_succ_eq_append_getElem oO, List.map_append, List.map_append]; exact aa, by ((try simp only) <;> omega), fun j h hj => by
  rcases Nat.lt_succ_iff_lt_or_eq.1 hj with h2 | rfl; exact q5 j h h2; exact aK⟩, by ((try simp only) <;> omega)⟩
 have aj := dF P
 refine W.exit <| W.sr <| WL.M rfl <| WL.Z rfl <| W.ret (W.r1 rfl rfl ?_)
 have aC : i = cs.length := by omega
 subst aC
 have aM : numsC cs n = .ok (cs.map fun x => (numX x.kind x.n).1) := by
  unfold numsC; rw [if_pos ⟨aD, List.all_eq_true.2 fun x hx => by
   obtain ⟨j, hj, rfl⟩ := List.mem_iff_getElem.1 hx; exact q5 j hj hj⟩]
 have Y := q3
 rw [List.take_of_length_le (nr_ _)] at Y
 exact eo_ _ _ aM rfl ⟨q1, OwnM.ofI Y⟩
end
section
structure Chg (F F1 : Nat → Prop) (w w1 : World) : Prop where
 os : w1.os = w.os
 tape : w1.tape = w.tape
 output : w1.output = w.output
 size : w.heap.size ≤ w1.heap.size
 block : ∀ k, k < w.heap.size → ¬ F k → w1.heap[k]? = w.heap[k]?
 new : ∀ g, F1 g → F g ∨ w.heap.size ≤ g
theorem Chg.refl (F : Nat → Prop) (w : World) : Chg F F w w := ⟨rfl, rfl, rfl, nr_ _, fun _ _ _ => rfl, fun _ h => .inl h⟩
theorem Chg.of_below {F : Nat → Prop} {w w1 : World} (h : Below w.heap.size w w1) : Chg F F w w1 := ⟨h.os, h.tape, h.output, h.size, fun k hk _ => h.block k hk, fun _ h => .inl h⟩
theorem Chg.trans {F F1 F2 : Nat → Prop} {a b c : World} (h : Chg F F1 a b) (k : Chg F1 F2 b c) : Chg F F2 a c :=
 ⟨k.os.trans h.os, k.tape.trans h.tape, k.output.trans h.output, nt_ h.size k.size,
  fun i hi hn => (k.block i (Nat.lt_of_lt_of_le hi h.size) fun hf => by rcases h.new i hf with h1 | h1 <;> first | exact hn h1 | omega).trans (h.block i hi hn),
  fun g hg => by
   rcases k.new g hg with h1 | h1
   ·
    exact h.new g h1
   ·
    exact .inr (nt_ h.size h1)⟩
abbrev ct_ := @Chg.trans
theorem Chg.below {F F1 : Nat → Prop} {w w1 : World} {B : Nat} (h : Chg F F1 w w1) (hB : B ≤ w.heap.size) (hF : ∀ g, F g → B ≤ g) : Below B w w1 :=
 ⟨h.os, h.tape, h.output, h.size, fun k hk => h.block k (Nat.lt_of_lt_of_le hk hB) fun hf => by have := hF k hf; omega⟩
theorem Chg.of_keep {F F1 : Nat → Prop} {S : List Nat} {w w1 : World} (h : KeepB w.heap.size S w w1) (hS : ∀ g ∈ S, F g ∨ w.heap.size ≤ g) (hn : ∀ g, F1 g → F g ∨ w.heap.size ≤ g) : Chg F F1 w w1 :=
 ⟨h.os, h.tape, h.output, h.size, fun k hk hf => h.block k hk fun hm => by rcases hS k hm with h1 | h1 <;> first | exact hf h1 | omega, hn⟩
theorem Chg.drew {F F1 : Nat → Prop} {w w1 w2 : World} (h : Chg F F1 w w1) (d : Drew w1 w2) : Chg F F1 w w2 := by obtain ⟨m, rfl⟩ := d; exact ⟨h.os, h.tape, h.output, h.size, h.block, h.new⟩
theorem Chg.low {F F1 : Nat → Prop} {w w1 w2 : World} (h : Chg F F1 w w1) (hb : Below w1.heap.size w1 w2) : Chg F F1 w w2 := h.trans (.of_below hb)
theorem Chg.upd {F F1 : Nat → Prop} {w w1 w2 : World} {c : Nat} (h : Chg F F1 w w1) (hu : Upd c w1 w2) (hc : w.heap.size ≤ c) : Chg F F1 w w2 :=
 ⟨hu.os.trans h.os, hu.tape.trans h.tape, hu.output.trans h.output, nt_ h.size hu.size, fun k hk hn => (hu.other k oO).trans (h.block k hk hn), h.new⟩
theorem Chg.nf {F F1 : Nat → Prop} {w w1 : World} (h : Chg F F1 w w1) {c : Nat} (hn : ¬ F c) (hl : c < w.heap.size) : ¬ F1 c := fun hc => (h.new c hc).elim hn (fun hg => by omega)
theorem Blk.chg {F F1 : Nat → Prop} {w w1 : World} {c : Nat} {cs : Array Value} {t : TypeId} (h : Blk w c cs t) (hC : Chg F F1 w w1) (hn : ¬ F c) : Blk w1 c cs t := (hC.block c h.lt hn).trans h
theorem BytesAt.chg {F F1 : Nat → Prop} {w w1 : World} {p : Option Addr} {l : List UInt8} (h : BytesAt w p l) (hC : Chg F F1 w w1) (hn : 0 < l.length → ¬ F (pA p).block) : BytesAt w1 p l :=
 ⟨h.isp, fun j hj => by rw [World.cell?_of_block (w := w) (by rw [add_block]; exact hC.block _ (h.lt oO) (hn oO))]; exact h.cells j hj⟩
end
section
theorem own_sepV {α β : Type} {L : Lay α} {L' : Lay β} {e e' : TypeId} {B B' : Nat} {w : World} {v v' : Value} {l : List α} {l' : List β} (h : OwnM L e B w v l) (h' : OwnM L' e' B' w v' l') (he : e ≠ e') : ∀ g, v.ownBlock = some g → v'.ownBlock ≠ some g := fun g hg hg' => by
 rcases h with ⟨rfl, -⟩ | ⟨g1, cap, cur, rfl, -, h1, -⟩
 ·
  cases hg
 ·
  rcases h' with ⟨rfl, -⟩ | ⟨g2, cap', cur', rfl, -, h2, -⟩
  ·
   cases hg'
  ·
   cases hg; cases hg'
   rw [h1] at h2
   simp only [Option.some.injEq, Obj.cells.injEq] at h2
   exact he h2.2.1
def Mv (Z Z1 : Nat → Prop) (w w1 : World) : Prop := w.heap.size ≤ w1.heap.size ∧ ∀ g, Z g → w1.heap[g]? = w.heap[g]? ∧ Z1 g
def Frz (c : Nat) (F : Nat → Prop) (w : World) (g : Nat) : Prop := g < w.heap.size ∧ ¬ F g ∧ g ≠ c
structure Fcx where
 fs : List FtV
 c : Nat
section
variable {Z Z1 : Nat → Prop} {w w1 : World}
theorem Frz.mv {c : Nat} {F F1 : Nat → Prop} (h : Chg F F1 w w1) : Mv (Frz c F w) (Frz c F1 w1) w w1 := ⟨h.size, fun g hg => ⟨h.block g hg.1 hg.2.1, Nat.lt_of_lt_of_le hg.1 h.size, h.nf hg.2.1 hg.1, hg.2.2⟩⟩
structure Row3 {α : Type} (L : Lay α) (Z : Nat → Prop) (w : World) (p : Option Addr) (l : List α) (c : Nat) : Prop where
 row : RowM L w p l
 sl : SlOk p l c
 inn : 0 < l.length → Z (pA p).block
theorem Row3.mv {α : Type} {L : Lay α} {p : Option Addr} {l : List α} {c : Nat} (h : Row3 L Z w p l c) (m : Mv Z Z1 w w1) : Row3 L Z1 w1 p l c := ⟨h.row.same fun h0 => (m.2 _ (h.inn h0)).1, h.sl, fun h0 => (m.2 _ (h.inn h0)).2⟩
theorem Row3.nil {α : Type} (L : Lay α) (Z : Nat → Prop) (w : World) : Row3 L Z w none [] 0 := ⟨RowM.nil w, SlOk.z, fun h => ab_ h (by simp)⟩
theorem Row3.own {α : Type} {L : Lay α} {e : TypeId} {B : Nat} {v : Value} {l : List α} (h : OwnM L e B w v l) (hz : ∀ g, v.ownBlock = some g → Z g) : ∃ p c, v = .slice p l.length c ∧ Row3 L Z w p l c := by
 obtain ⟨p, c, rfl, hr, hb, hc, hn, ho, hm, hx⟩ := h.row
 refine ⟨p, c, rfl, hr, ⟨hc, hm, hn, fun hp => ?_⟩, fun a => hz _ (by rw [ho, hr.isp a]; rfl)⟩
 subst hp
 have hl : l = [] := by
  cases l with
  | nil => rfl
  | cons x r => have := hr.isp (by simp); cases this
 exact ⟨hl, (hn hl).resolve_right (by simp)⟩
structure Byt3 (Z : Nat → Prop) (w : World) (p : Option Addr) (l : List UInt8) (c : Nat) : Prop where
 row : BytesAt w p l
 sl : SlOk p l c
 inn : 0 < l.length → Z (pA p).block
theorem Byt3.mv {p : Option Addr} {l : List UInt8} {c : Nat} (h : Byt3 Z w p l c) (m : Mv Z Z1 w w1) : Byt3 Z1 w1 p l c :=
 ⟨⟨h.row.isp, fun j hj => by rw [World.cell?_of_block (w := w) (by rw [add_block]; exact (m.2 _ (h.inn oO)).1)]; exact h.row.cells j hj⟩, h.sl, fun h0 => (m.2 _ (h.inn h0)).2⟩
theorem Byt3.nil (Z : Nat → Prop) (w : World) : Byt3 Z w none [] 0 := ⟨⟨fun h => ab_ h (by simp), fun j h => ab_ h (by simp)⟩, SlOk.z, fun h => ab_ h (by simp)⟩
abbrev ClipR (Z : Nat → Prop) (w : World) (x : ClipV) : Prop := Row3 segL Z w x.pfPath x.fPath x.cfPath
abbrev PenR (Z : Nat → Prop) (w : World) (x : PenV) : Prop := Row3 ivL Z w x.pfDash x.fDash x.cfDash
structure ItemR (Z : Nat → Prop) (w : World) (x : ItemV) : Prop where
 path : Row3 segL Z w x.pfPath x.fPath x.cfPath
 clips : Row3 clipL Z w x.pfClips x.fClips x.cfClips
 all : ∀ y ∈ x.fClips, ClipR Z w y
 pen : PenR Z w x.fPen
 bytes : Byt3 Z w x.pfBytes x.fBytes x.cfBytes
theorem ItemR.mv {x : ItemV} (h : ItemR Z w x) (m : Mv Z Z1 w w1) : ItemR Z1 w1 x := ⟨h.path.mv m, h.clips.mv m, fun y hy => (h.all y hy).mv m, h.pen.mv m, h.bytes.mv m⟩
structure StR (Z : Nat → Prop) (w : World) (h : StH) (s : VwS) : Prop where
 ctm : h.ctm = s.ctm
 fill : h.fill = s.fill
 stroke : h.stroke = s.stroke
 pen : penE h.pen = s.pen
 penr : PenR Z w h.pen
 clips : ∃ p c l, h.clips = .slice p l.length c ∧ Row3 clipL Z w p l c ∧ (∀ y ∈ l, ClipR Z w y) ∧ l.map clipE = s.clips
 font : h.font = s.font
 size : h.size = s.size
theorem StR.mv {h : StH} {s : VwS} (q : StR Z w h s) (m : Mv Z Z1 w w1) : StR Z1 w1 h s := by
 obtain ⟨p, c, l, a, b, d, e⟩ := q.clips
 exact ⟨q.ctm, q.fill, q.stroke, q.pen, q.penr.mv m, ⟨p, c, l, a, b.mv m, fun y hy => (d y hy).mv m, e⟩, q.font, q.size⟩
def SvR (Z : Nat → Prop) (w : World) (hs : List StH) (ss : List VwS) : Prop := hs.length = ss.length ∧ ∀ i (h1 : i < hs.length) (h2 : i < ss.length), StR Z w hs[i] ss[i]
theorem SvR.mv {hs : List StH} {ss : List VwS} (q : SvR Z w hs ss) (m : Mv Z Z1 w w1) : SvR Z1 w1 hs ss := ⟨q.1, fun i h1 h2 => (q.2 i h1 h2).mv m⟩
def ArR (Z : Nat → Prop) (w : World) (cs : List PC) (args : List PV) : Prop := cs.length = args.length ∧ ∀ i (h1 : i < cs.length) (h2 : i < args.length), PRep w Z cs[i] args[i]
theorem PRep.mv {x : PC} {o : PV} (h : PRep w Z x o) (m : Mv Z Z1 w w1) : PRep w1 Z1 x o :=
 (h.same fun k hk _ => (m.2 k hk).1).mono fun k hk _ => (m.2 k hk).2
theorem ArR.mv {cs : List PC} {args : List PV} (q : ArR Z w cs args) (m : Mv Z Z1 w w1) : ArR Z1 w1 cs args := ⟨q.1, fun i h1 h2 => (q.2 i h1 h2).mv m⟩
theorem ArR.nil (Z : Nat → Prop) (w : World) : ArR Z w [] [] := ⟨rfl, fun i h => ab_ h (by simp)⟩
end
def ftV (x : FtV) : List Value := [.string (bs x.name), .int .i64 x.font]
def ftL : Lay FtV := ⟨2, ftV, by decide, fun _ => rfl, fun x u hu => List.all_eq_true.1 (show (ftV x).all Value.oneCell' = true from rfl) u hu⟩
structure StC where
 ctm : M6
 fill : ColorV
 stroke : ColorV
 pen : PenV
 pc : Option Addr
 nc : Nat
 cc : Nat
 font : Int
 size : Int
def StC.h (s : StC) : StH := ⟨s.ctm, s.fill, s.stroke, s.pen, .slice s.pc s.nc s.cc, s.font, s.size⟩
def stY : Lay StC := ⟨25, fun s => stV s.h, by decide, fun _ => rfl, fun x u hu => List.all_eq_true.1 (show (stV x.h).all Value.oneCell' = true from rfl) u hu⟩
theorem StR.cells {Z : Nat → Prop} {w : World} {h : StH} {s : VwS} (q : StR Z w h s) : ∃ c : StC, h = c.h := by
 obtain ⟨p, c, l, a, -⟩ := q.clips
 exact ⟨⟨h.ctm, h.fill, h.stroke, h.pen, p, l.length, c, h.font, h.size⟩, by cases h; simp only at a; subst a; rfl⟩
structure VwO (B : Nat) (w : World) (bv : Nat) (H : VwH) (vp : Value) (V : Vw) (its : List ItemV) (hs : List StC) (cs : List PC) : Prop where
 blk : Blk w bv (vwC H).toArray 74
 pth : PthAt B w H.path 4096 V.path vp
 oi : OwnM itemL 44 B w H.items its
 os : OwnM stY 68 B w H.saved hs.reverse
 oa : OwnM pcL 99 B w H.args cs
 lbv : B ≤ bv
 lbp : B ≤ H.path
structure VwR (Z : Nat → Prop) (w : World) (H : VwH) (fs : Fcx) (V : Vw) (args : List PV) (its : List ItemV) (hs : List StC) (cs : List PC) : Prop where
 st : StR Z w H.s V.s
 sv : SvR Z w (hs.map StC.h) V.saved
 it : its.map itemE = V.items
 itr : ∀ x ∈ its, ItemR Z w x
 ar : ArR Z w cs args
 clip : H.clip = V.clip
 inText : H.inText = V.inText
 lost : H.lost = V.lost
 text : H.text = V.text
 line : H.line = V.line
 fonts : ∃ p c, H.fonts = .slice p fs.fs.length c ∧ Row3 ftL Z w p fs.fs c
 cx : fs.c < w.heap.size
theorem VwR.mv {Z Z1 : Nat → Prop} {w w1 : World} {H : VwH} {fs : Fcx} {V : Vw} {args : List PV} {its : List ItemV} {hs : List StC} {cs : List PC} (q : VwR Z w H fs V args its hs cs) (m : Mv Z Z1 w w1) : VwR Z1 w1 H fs V args its hs cs := by
 obtain ⟨p, c, a, b⟩ := q.fonts
 exact ⟨q.st.mv m, q.sv.mv m, q.it, fun x hx => (q.itr x hx).mv m, q.ar.mv m, q.clip, q.inText, q.lost, q.text, q.line, ⟨p, c, a, b.mv m⟩, Nat.lt_of_lt_of_le q.cx m.1⟩
def VwF (bv : Nat) (H : VwH) (vp : Value) (g : Nat) : Prop := g = bv ∨ g = H.path ∨ vp.ownBlock = some g ∨ H.items.ownBlock = some g ∨ H.saved.ownBlock = some g ∨ H.args.ownBlock = some g
structure Vwr (B : Nat) (fs : Fcx) (w : World) (bv : Nat) (F : Nat → Prop) (V : Vw) (args : List PV) : Prop where
 mem : ∃ H vp its hs cs, F = VwF bv H vp ∧ VwO B w bv H vp V its hs cs ∧ VwR (Frz fs.c F w) w H fs V args its hs cs
theorem VwO.inn {B : Nat} {w : World} {bv : Nat} {H : VwH} {vp : Value} {V : Vw} {its : List ItemV} {hs : List StC} {cs : List PC} (h : VwO B w bv H vp V its hs cs) : ∀ g, VwF bv H vp g → B ≤ g ∧ g < w.heap.size := by
 rintro g (rfl | rfl | hg | hg | hg | hg)
 ·
  exact ⟨h.lbv, h.blk.lt⟩
 ·
  exact ⟨h.lbp, h.pth.blk.lt⟩
 ·
  exact h.pth.own.lt g hg
 ·
  exact h.oi.lt g hg
 ·
  exact h.os.lt g hg
 ·
  exact h.oa.lt g hg
theorem VwO.same {B : Nat} {w w1 : World} {bv : Nat} {H : VwH} {vp : Value} {V : Vw} {its : List ItemV} {hs : List StC} {cs : List PC} (h : VwO B w bv H vp V its hs cs) (hs' : w.heap.size ≤ w1.heap.size) (hb : ∀ g, VwF bv H vp g → w1.heap[g]? = w.heap[g]?) : VwO B w1 bv H vp V its hs cs :=
 ⟨(hb _ (.inl rfl)).trans h.blk, ⟨(hb _ (.inr (.inl rfl))).trans h.pth.blk, h.pth.own.same fun g hg => hb g (.inr (.inr (.inl hg))), h.pth.len, nt_ h.pth.base hs'⟩,
  h.oi.same fun g hg => hb g (.inr (.inr (.inr (.inl hg)))), h.os.same fun g hg => hb g (.inr (.inr (.inr (.inr (.inl hg))))), h.oa.same fun g hg => hb g (.inr (.inr (.inr (.inr (.inr hg))))), h.lbv, h.lbp⟩
section
variable {B : Nat} {fs : Fcx} {w w1 : World} {bv : Nat} {F F1 : Nat → Prop} {V : Vw} {args : List PV}
theorem Vwr.lt (h : Vwr B fs w bv F V args) : ∀ g, F g → B ≤ g ∧ g < w.heap.size := by
 obtain ⟨H, vp, its, hs, cs, rfl, hO, -⟩ := h.mem
 exact hO.inn
theorem Vwr.same (h : Vwr B fs w bv F V args) (hb : Below w.heap.size w w1) : Vwr B fs w1 bv F V args := by
 obtain ⟨H, vp, its, hs, cs, e, hO, hR⟩ := h.mem
 subst e
 exact ⟨H, vp, its, hs, cs, rfl, hO.same hb.size fun g hg => hb.block g (hO.inn g hg).2, hR.mv ⟨hb.size, fun g hg => ⟨hb.block g hg.1, Nat.lt_of_lt_of_le hg.1 hb.size, hg.2⟩⟩⟩
def VwrN (N : Nat) (B : Nat) (fs : Fcx) (w : World) (bv : Nat) (F : Nat → Prop) (V : Vw) (args : List PV) : Prop :=
 ∃ w0 : World, w0.heap.size = N ∧ Vwr B fs w0 bv F V args ∧ ∀ k, k < N → w.heap[k]? = w0.heap[k]?
theorem VwrN.same {N : Nat} (h : VwrN N B fs w bv F V args) (hb : ∀ k, k < N → k < w.heap.size → w1.heap[k]? = w.heap[k]?) : VwrN N B fs w1 bv F V args := by
 obtain ⟨e, b, f, c⟩ := h
 refine ⟨e, b, f, fun k hk => (hb k hk ?_).trans (c k hk)⟩
 rcases Nat.lt_or_ge k w.heap.size with a | a
 ·
  exact a
 ·
  have d := c k hk
  rw [Array.getElem?_eq_none a, Array.getElem?_eq_getElem (b ▸ hk)] at d
  cases d
abbrev vs_ := @VwrN.same
theorem VwrN.of (h : Vwr B fs w bv F V args) : VwrN w.heap.size B fs w bv F V args := ⟨w, rfl, h, fun _ _ => rfl⟩
theorem VwrN.get {N : Nat} (h : VwrN N B fs w bv F V args) : Vwr B fs w bv F V args := by
 obtain ⟨a, rfl, j, d⟩ := h
 obtain ⟨H, vp, its, hs, cs, e, hO, hR⟩ := j.mem
 subst e
 have b : ∀ k, k < a.heap.size → k < w.heap.size := fun k hk => by
  rcases Nat.lt_or_ge k w.heap.size with f | f
  ·
   exact f
  ·
   have i := d k hk
   rw [Array.getElem?_eq_none f, Array.getElem?_eq_getElem hk] at i
   cases i
 have c : a.heap.size ≤ w.heap.size := by
  rcases Nat.eq_zero_or_pos a.heap.size with l | l
  ·
   omega
  ·
   have := b (a.heap.size - 1) oO; omega
 exact ⟨H, vp, its, hs, cs, rfl, hO.same c fun g hg => d g (hO.inn g hg).2, hR.mv ⟨c, fun g hg => ⟨d g hg.1, b g hg.1, hg.2⟩⟩⟩
end
end
section
theorem Pure.mkFv {P : Program} {f : Fr} {F : FuncId} {xs : List Operand} {vs : List Value} (hx : evs f xs = some vs) : Pure P (.makeFunc (.func F) #[] xs.toArray) f (.func (.func F) #[] vs.toArray) := fun ρ hρ d ty pos aft g w => by
 have e := evs_map hρ _ _ hx
 have hargs : xs.toArray.map ρ = vs.toArray := by simp [e]
 unfold execOp
 simp only [hargs, List.map_toArray, List.map_nil]
 rfl
theorem lib_Chunk (p : Option Addr) (n c : Nat) (w : World) :
  Calls Tryz.prog 107 #[.slice p n c, .int .i64 2] w fun e w' => ∃ x : Nat × Nat, e = .returned (.func (.func 145) #[] #[.pointer (some ⟨x.1, 0, none⟩), .pointer (some ⟨x.2, 0, none⟩)]) ∧ Below w.heap.size w w' ∧ Blk w' x.1 #[.slice p n c] 39 ∧ Blk w' x.2 #[.int .i64 2] 3 ∧ w.heap.size ≤ x.1 ∧ w.heap.size ≤ x.2 := by
 refine W.e func107 rfl ntmps107 bL ?_
 have g := br_ (w.heap.size) w
 refine W.sr <| WL.box rfl rfl (fun m B i a l y => ?_)
 have j := uB g i l
 have u := bge i g.size
 refine WL.box rfl rfl (fun o C b d f A => ?_)
 have q := bgl b a.lt
 have s := a.un f q
 have t := uB j b f
 have v := bge b j.size
 refine WL.Z rfl <| W.seq <| W.sr <| WL.R (Rd.ld (g3_ _) rfl d rfl) <| WL.O (.bis (false) (.lss rfl rfl) dD) <| WL.e <| W.condF rfl rfl <| W.k <| W.sr <| WL.O (.mkFv rfl) <| WL.Z rfl <| W.ret (W.r1 rfl rfl ?_)
 exact ⟨(m, o), rfl, t, s, d, by show w.heap.size ≤ m; omega, by show w.heap.size ≤ o; omega⟩
end
section
theorem ledsV_app (m : M6) : ∀ (k : Nat) (a b : List Int), a.length = 2 * k → ledsV m (a ++ b) = (ledsV m a >>= fun q => ledsV m b >>= fun r => .ok (q ++ r))
 | 0, a, b, h => by
  obtain rfl := List.eq_nil_of_length_eq_zero (by omega : a.length = 0)
  show ledsV m b = (ledsV m b >>= fun r => .ok ([] ++ r))
  cases ledsV m b <;> rfl
 | k + 1, [], b, h => by simp at h
 | k + 1, [x], b, h => by simp at h; omega
 | k + 1, x :: y :: a, b, h => by
  have ih := ledsV_app m k a b (by simp at h; omega)
  show (ledV m x y >>= fun p => ledsV m (a ++ b) >>= fun q => pure (p :: q)) = ((ledV m x y >>= fun p => ledsV m a >>= fun q => pure (p :: q)) >>= fun q => ledsV m b >>= fun r => .ok (q ++ r))
  rw [ih]
  cases ledV m x y with
  | error e => rfl
  | ok p =>
   cases ledsV m a with
   | error e => rfl
   | ok q =>
    show ((ledsV m b >>= fun r => .ok (q ++ r)) >>= fun q => pure (p :: q)) = (ledsV m b >>= fun r => .ok (p :: q ++ r))
    cases ledsV m b <;> rfl
theorem ledsV_two (m : M6) (x y : Int) : ledsV m [x, y] = (ledV m x y).map fun p => [p] := by
 show (ledV m x y >>= fun p => ledsV m [] >>= fun q => pure (p :: q)) = _
 cases ledV m x y <;> rfl
theorem take_two {l : List Int} {k : Nat} (h : 2 * k + 1 < l.length) : l.take (2 * (k + 1)) = l.take (2 * k) ++ [l[2 * k], l[2 * k + 1]] := by
 rw [show 2 * (k + 1) = 2 * k + 1 + 1 by omega, List.take_succ_eq_append_getElem oO, List.take_succ_eq_append_getElem oO, List.append_assoc]; rfl
theorem ledsV_step {m : M6} {l : List Int} {k : Nat} {q : List PointV} (h : 2 * k + 1 < l.length) (hq : ledsV m (l.take (2 * k)) = .ok q) : ledsV m (l.take (2 * (k + 1))) = (ledV m l[2 * k] l[2 * k + 1]).map fun p => q ++ [p] := by
 rw [take_two h, ledsV_app m k _ _ (by rw [List.length_take]; omega), hq, ledsV_two]
 cases ledV m l[2 * k] l[2 * k + 1] <;> rfl
theorem ledsV_err {m : M6} {l : List Int} {k : Nat} {q : List PointV} {e : Int} (h : 2 * k + 1 < l.length) (hq : ledsV m (l.take (2 * k)) = .ok q) (he : ledV m l[2 * k] l[2 * k + 1] = .error e) : ledsV m l = .error e := by
 have a : l = l.take (2 * (k + 1)) ++ l.drop (2 * (k + 1)) := (List.take_append_drop _ _).symm
 rw [a, ledsV_app m (k + 1) _ _ (by rw [List.length_take]; omega), ledsV_step h hq, he]; rfl
end
section
def wpF (P : Program) (fid : FuncId) (c : Code) (Q : Exit → Act → World → Prop) (a : Act) (w : World) : Prop :=
 ∀ (b : Frame) (k : List Item) (cs : List Frame), b.roundOf = none → b.fn = fid →
  ∃ e a' w', Q e a' w' ∧ ArrivesIn (Machine.fenced P Fence.wide) P (lone (b.atR a (.code c :: k)) cs w) b k cs e a' w'
section
variable {P : Program} {fid : FuncId} {Q : Exit → Act → World → Prop} {a : Act} {w : World}
theorem wpF_of {c : Code} (h : c.wp P Q a w) : wpF P fid c Q a w := fun b k cs hro _ => (wpIn_wide (n := 1)).2 h b k cs hro trivial (room_wide _)
def thenF (P : Program) (fid : FuncId) (y : Code) (Q : Exit → Act → World → Prop) : Exit → Act → World → Prop
 | .normal, a, w => wpF P fid y Q a w
 | .ret, _, _ => False
 | .exit _, _, _ => False
 | .goto _, _, _ => False
 | e, a, w => Q e a w
theorem wpF_seq {x y : Code} (h : wpF P fid x (thenF P fid y Q) a w) : wpF P fid (.seq x y) Q a w := by
 intro b k cs d hb
 obtain ⟨e, a₁, w₁, hq, c⟩ := h b (.code y :: k) cs d hb
 have f : StepsIn (Machine.fenced P Fence.wide) P (lone (b.atR a (.code (.seq x y) :: k)) cs w) (lone (b.atR a (.code x :: .code y :: k)) cs w) :=
  .one (fenced_wide _ _) (by rw [Frame.atR_of_none d, Frame.atR_of_none d]; exact step_seq)
 cases e with
 | normal =>
  obtain ⟨e₂, a₂, w₂, hq₂, harr₂⟩ := hq b k cs d hb
  exact ⟨e₂, a₂, w₂, hq₂, .of_steps (StepsIn.trans f c) harr₂⟩
 | panic ch =>
  obtain ⟨todo, hs⟩ := c
  exact ⟨.panic ch, a₁, w₁, hq, todo, StepsIn.trans f hs⟩
 | outgrown => exact ⟨.outgrown, a₁, w₁, hq, ArrivesIn.of_steps (e := .outgrown) f c⟩
 | exit id => exact hq.elim
 | goto l => exact hq.elim
 | ret => exact hq.elim
theorem wpF_range {g : Operand} {ps : Array Tmp} {assign body : Code} {gf : Nat} {lb : Array Value} (hg : a.eval g = .func (.func gf) #[] lb) (eg : ∀ args w, (callFunc gf args).run P w = .ok (.enter gf args) w)
  (h : Calls P gf (#[.func (.yield (w.heap.size + 1)) #[] #[]] ++ lb) (rfW fid a ps assign body w) (fun
   | .returned _, w3 => ∃ w4, (Instr.endLoop (w.heap.size + 1)).run P w3 = .ok none w4 ∧ Q .normal { a with defers := { target := .collected w.heap.size, args := #[] } :: a.defers } w4
   | .panicked c, w3 => Q (.panic c) { a with defers := { target := .collected w.heap.size, args := #[] } :: a.defers } w3
   | .outgrown, _ => False)) :
  wpF P fid (.rangeFunc g ps assign body) Q a w := by
 intro b k cs n hb
 have he : (Instr.enterLoop b.fn a.tmps ps assign body b.roundOf).run P w = .ok (w.heap.size + 1, [{ target := .collected w.heap.size, args := #[] }]) (rfW fid a ps assign body w) := by
  rw [n, hb]; exact run_enterLoop_outer _ _ _ _ _
 have j : (resolve a.eval (rangeCall g (w.heap.size + 1)) 0).run P (rfW fid a ps assign body w) = .ok { target := .fn (.func gf) lb, args := #[.func (.yield (w.heap.size + 1)) #[] #[]] } (rfW fid a ps assign body w) := by
  simp only [resolve, hg]
  simp [go_sem]
 have l : (invoke (.fn (.func gf) lb) #[.func (.yield (w.heap.size + 1)) #[] #[]]).run P (rfW fid a ps assign body w) = .ok (.enter gf (#[.func (.yield (w.heap.size + 1)) #[] #[]] ++ lb)) (rfW fid a ps assign body w) := by
  simp [invoke, go_sem, eg]
 have d := stepR_rangeFunc (P := P) (b := b) (a := a) (k := k) (cs := cs) (w := w) he j l
 obtain ⟨e, w₃, fr, hR, f, o, i⟩ := h (b.atR { a with defers := [{ target := .collected w.heap.size, args := #[] }] ++ a.defers } (.inRangeFunc (w.heap.size + 1) :: k) :: cs)
 cases e with
 | outgrown => exact hR.elim
 | returned v =>
  obtain ⟨w₄, m, hq⟩ := hR
  refine ⟨.normal, _, w₄, hq, ?_⟩
  refine .head (fenced_wide _ _) d (StepsIn.trans (stepsIn_wide.2 f) (.head (fenced_wide _ _) ?_ (.one (fenced_wide _ _) (stepR_endRangeFunc m))))
  rw [← finish_atR_inRangeFunc _ v]; exact step_leave_returned i
 | panicked chain =>
  refine ⟨.panic chain, _, w₃, hR, .inRangeFunc (w.heap.size + 1) :: k, .head (fenced_wide _ _) d (StepsIn.trans (stepsIn_wide.2 f) (.one (fenced_wide _ _) ?_))⟩
  rw [← Frame.raise_atR]; exact step_leave_panicked i
def onlyNP (Q : Exit → Act → World → Prop) : Exit → Act → World → Prop
 | .normal, a, w => Q .normal a w
 | .panic c, a, w => Q (.panic c) a w
 | _, _, _ => False
theorem wpF_block {id : Nat} {c : Code} (h : wpF P fid c (onlyNP Q) a w) : wpF P fid (.block id c) Q a w := by
 intro b k cs d hb
 obtain ⟨e, a₁, w₁, hq, f⟩ := h b (.inBlock id :: k) cs d hb
 have g : StepsIn (Machine.fenced P Fence.wide) P (lone (b.atR a (.code (.block id c) :: k)) cs w) (lone (b.atR a (.code c :: .inBlock id :: k)) cs w) :=
  .one (fenced_wide _ _) (by rw [Frame.atR_of_none d, Frame.atR_of_none d]; exact step_block)
 cases e with
 | normal => exact ⟨.normal, a₁, w₁, hq, StepsIn.trans g (StepsIn.trans f (.one (fenced_wide _ _) (by rw [Frame.atR_of_none d, Frame.atR_of_none d]; exact step_inBlock)))⟩
 | panic ch =>
  obtain ⟨todo, hs⟩ := f
  exact ⟨.panic ch, a₁, w₁, hq, todo, StepsIn.trans g hs⟩
 | outgrown => exact hq.elim
 | exit id => exact hq.elim
 | goto l => exact hq.elim
 | ret => exact hq.elim
def QF (n : Sh) (K : Fr → World → Prop) (POST : Exit → Act → World → Prop) : Exit → Fr → World → Prop
 | .normal, f, w => K f w
 | .panic c, f, w => ∀ a, Rep n f a → POST (.panic c) a w
 | _, _, _ => False
theorem wpF_first {n : Sh} {f : Fr} {c1 c2 : Code} (h : W P n c1 (QF n (fun f w => ∀ a, Rep n f a → wpF P fid c2 Q a w) Q) f w) : ∀ a, Rep n f a → wpF P fid (.seq c1 c2) Q a w := by
 intro a ha
 unfold W at h
 refine wpF_seq (wpF_of (wp_mono (h a ha) ?_))
 rintro e a w ⟨g, hg, hq⟩
 cases e with
 | normal => exact hq a hg
 | panic c => exact hq a hg
 | _ => exact hq.elim
theorem calls_marksF {fn : Func} {c : Code} {args : Array Value} {R : Ending → World → Prop} (hf : P.funcs[fid]? = some fn) (hb : fn.body = some c) {k : Nat} (hn : fn.ntmps = k) (hl : args.size ≤ k)
  (h : ∀ a, Rep ⟨k, []⟩ (number 0 args.toList) a → wpF P fid c (bodyPostM Fence.wide 1 P fn R) a w) : Calls P fid args w R := by
 refine (callsIn_wide (n := 1)).1 ⟨trivial, fun cs hr => ?_⟩
 let b : Frame := { (default : Frame) with fn := fid, kind := .normal, roundOf := none }
 have m : Rep ⟨k, []⟩ (number 0 args.toList) { tmps := args ++ Array.replicate (fn.ntmps - args.size) undef, defers := [] } := by
  refine ⟨rfl, by simp [hn]; omega, ?_⟩
  intro i v hv
  obtain ⟨j, e, hj⟩ := number_look _ _ _ _ hv
  obtain rfl : i = j := by omega
  have o : i < args.size := by
   rcases Nat.lt_or_ge i args.size with h | h
   ·
    exact h
   ·
    rw [List.getElem?_eq_none (by simpa using h)] at hj; cases hj
  rw [Array.getElem?_toList] at hj
  rw [Array.getD_eq_getD_getElem?, Array.getElem?_append_left o, hj]; rfl
 have g : Frame.enter P fid args .normal = b.atR { tmps := args ++ Array.replicate (fn.ntmps - args.size) undef, defers := [] } [.code c] := by
  simp [Frame.enter, Frame.atR, hf, hb, b]
 obtain ⟨e, a', w', hq, d⟩ := h _ m b [] cs rfl rfl
 rw [← g] at d
 cases e with
 | normal =>
  obtain ⟨e', w'', fr', hR, hs, f, hl⟩ := leaves_stepsInM (n := 1) a'.defers .returning w' { b.atR a' [] with mode := .returning } cs rfl rfl rfl hf rfl trivial hr hq
  exact ⟨e', w'', fr', hR, ComesIn.of_steps (StepsIn.trans d (.one (fenced_wide _ _) (stepR_end rfl))) hs, f, hl⟩
 | ret =>
  obtain ⟨todo, hs₀⟩ := d.1 rfl
  obtain ⟨e', w'', fr', hR, hs, f, hl⟩ := leaves_stepsInM (n := 1) a'.defers .returning w' { b.atR a' todo with mode := .returning } cs rfl rfl rfl hf rfl trivial hr hq
  exact ⟨e', w'', fr', hR, ComesIn.of_steps hs₀ hs, f, hl⟩
 | panic chain =>
  obtain ⟨todo, hs₀⟩ := d
  obtain ⟨e', w'', fr', hR, hs, f, hl⟩ := leaves_stepsInM (n := 1) a'.defers (.panicking chain) w' { b.atR a' todo with mode := .panicking chain } cs rfl rfl rfl hf rfl trivial hr hq
  exact ⟨e', w'', fr', hR, ComesIn.of_steps hs₀ hs, f, hl⟩
 | exit id => exact hq.elim
 | goto l => exact hq.elim
 | outgrown => exact ⟨.outgrown, w', b, hq, d.resolve_left (by simp [b]), rfl, tT⟩
end
end
section
section
variable {P : Program} {n : Sh} {f : Fr} {w : World} {Q : Exit → Fr → World → Prop} {m lo : Nat}
theorem nd_arr {l : List Oper} (h : l.all nodef = true) : ∀ o ∈ l.toArray.toList, ∀ c, o.op ≠ .defer c := by
 rw [List.toList_toArray]; exact nd_of h
theorem lift_no (hno : ∀ f w, ¬ Q .outgrown f w) : ¬ LetsOut (lift n Q) := fun ⟨_, _, f, _, hq⟩ => hno f _ hq
theorem W.roundL {id : Nat} {l : List Oper} (hd : l.all nodef = true) (hno : ∀ f w, ¬ Q .outgrown f w) (h : WL P n l.toArray Q l f w) :
  ∀ a, Rep n f a → (Code.region id l.toArray false).wpIn (Fence.wide.inRound lo) m P (lift n Q) a w := fun a ha =>
 wpIn_region_roundF (nd_arr hd) (lift_no hno) (by
  unfold WL at h
  have h1 := h a ha
  rw [List.range_eq_range', ← Array.length_toList, wpOps_eq_wpList l.toArray.toList 0 (by simp), List.toList_toArray]
  exact h1)
theorem W.roundH {id N : Nat} {l : List Oper} (hN : l.length = N) (hm : P.follows .mixedOrders = true) (S : World → Prop) (hd : l.all nodef = true) (hno : ∀ f w, ¬ Q .outgrown f w)
  (h : ∀ w1, Drew w w1 → WH P n l.toArray Q S N (Array.replicate N false) f w1) : ∀ a, Rep n f a → (Code.region id l.toArray true).wpIn (Fence.wide.inRound lo) m P (lift n Q) a w := fun a ha =>
 wpIn_region_round hm (nd_arr hd) (lift_no hno) (wpAny_of_held (S := S) _ _ _ _ (by
  subst hN
  have h1 := h (w.drewN 1) ⟨1, rfl⟩
  unfold WH at h1
  have := h1 a ha
  rw [show l.toArray.size = l.length by simp]
  exact this))
end
end
section
section
variable {P : Program} {fid : FuncId} {f : Fr} {a : Act} {w : World} {n D L : Nat} {Ds : List Deferred} {t : Nat} {v : Value} {assign body : Code} {R : Ending → World → Prop}
def QR (P : Program) (L : Nat) (R : Ending → World → Prop) : Exit → Fr → World → Prop
 | .normal, _, w => ∃ v w', (Instr.endRound L none).run P w = .ok v w' ∧ R (.returned v) w'
 | .panic c, _, w => R (.panicked c) w
 | _, _, _ => False
def QS (K : Fr → World → Prop) : Exit → Fr → World → Prop
 | .normal, f, w => K f w
 | _, _, _ => False
theorem yield_W (ha : Rep ⟨n, Ds⟩ f a) (ht : Nat.blt t n = true) {fn : Func} (hf : P.funcs[fid]? = some fn) (hL : w.heap[L]? = some (.loop (rfRec fid a #[t] assign body D .ready none)))
  (h : ∀ a', Rep ⟨n, []⟩ ((t, v) :: f) a' → assign.wpIn (Fence.wide.inRound L) 0 P (lift ⟨n, []⟩ (QS fun g w1 => w1.heap[L]? = some (.loop (rfRec fid a #[t] assign body D .ready none)) ∧
   ∀ a2, Rep ⟨n, []⟩ g a2 → body.wpIn (Fence.wide.inRound L) 0 P (lift ⟨n, []⟩ (QR P L R)) a2 (w1.putObj L (.loop { rfRec fid a #[t] assign body D .ready none with state := .busy })))) a' w) :
  YieldAt Fence.wide 0 P L #[v] w R := by
 refine ⟨fid, a.tmps.setIfInBounds t v, assign, body, ?_, roundIn_of_wpInP trivial ⟨fn, hf⟩ ?_⟩
 ·
  have i := run_yield (P := P) (args := #[v]) hL rfl
  simpa [rfRec] using i
 have hr : Rep ⟨n, []⟩ ((t, v) :: f) { tmps := a.tmps.setIfInBounds t v, defers := [] } := by
  have i := ha.put (d := t) ht v
  exact ⟨rfl, i.2.1, i.2.2⟩
 refine wpIn_mono (h _ hr) ?_
 rintro e l w1 ⟨g, hg, hq⟩
 cases e with
 | normal =>
  obtain ⟨j, hb⟩ := hq
  refine ⟨_, run_beginRound j rfl, wpIn_mono (hb l hg) ?_⟩
  rintro e a2 m ⟨o, k, b⟩
  cases e with
  | normal => exact b
  | panic c => exact ⟨k.1, b⟩
  | _ => exact b.elim
 | _ => exact hq.elim
end
end
section
theorem RowAt.two {w : World} {p : Option Addr} {l : List Int} (h : RowAt intV w p l) (k : Nat) (hk : 2 * k + 1 < l.length) : RowAt intV w (p.map (·.add (2 * k))) [l[2 * k], l[2 * k + 1]] := by
 have hp := h.isp oO
 rw [hp, Option.map_some]
 refine ⟨fun _ => rfl, fun j hj => ?_⟩
 have a : j = 0 ∨ j = 1 := by simp at hj; omega
 show w.cell? (((pA p).add (2 * k)).add j) = _
 rw [add_add]
 rcases a with rfl | rfl
 ·
  exact h.cells (2 * k) oO
 ·
  exact h.cells (2 * k + 1) hk
end
section
def ObjAt (w : World) (b : Nat) (o : Obj) : Prop := w.heap[b]? = some o
section
variable {w w1 : World} {b : Nat} {o : Obj}
theorem ObjAt.lt (h : ObjAt w b o) : b < w.heap.size := (Array.getElem?_eq_some_iff.1 h).1
theorem ObjAt.drew (h : ObjAt w b o) (d : Drew w w1) : ObjAt w1 b o := by obtain ⟨m, rfl⟩ := d; exact h
theorem ObjAt.below {B : Nat} (h : ObjAt w b o) (hb : Below B w w1) (hl : b < B) : ObjAt w1 b o := (hb.block b hl).trans h
theorem ObjAt.upd {c : Nat} (h : ObjAt w b o) (hu : Upd c w w1) (hn : b ≠ c) : ObjAt w1 b o := (hu.other b hn).trans h
theorem ObjAt.bl {w w1 : World} {b : Nat} {o : Obj} (h : ObjAt w b o) (hb : Below w.heap.size w w1) : ObjAt w1 b o := h.below hb h.lt
theorem ObjAt.up {w w1 : World} {b c : Nat} {o : Obj} (h : ObjAt w b o) (hu : Upd c w w1) (hne : b ≠ c := by ((try simp only) <;> omega)) : ObjAt w1 b o := h.upd hu hne
theorem ObjAt.un {w w1 : World} {b c : Nat} {o : Obj} (h : ObjAt w b o) (hu : Upd c w w1) (hl : b < c) : ObjAt w1 b o := h.upd hu (Nat.ne_of_lt hl)
theorem putObj_at (h : b < w.heap.size) : ObjAt (w.putObj b o) b o := by
 show (w.putObj b o).heap[b]? = some o
 simp [World.putObj, h]
theorem putObj_upd : Upd b w (w.putObj b o) := ⟨rfl, rfl, rfl, by simp [World.putObj], fun k hk => by simp [World.putObj, Array.getElem?_setIfInBounds_ne (fun e => hk e.symm)]⟩
end
theorem rfW_upd (fid : FuncId) (a : Act) (ps : Array Tmp) (assign body : Code) (w : World) :
  Below w.heap.size w (rfW fid a ps assign body w) ∧ ObjAt (rfW fid a ps assign body w) w.heap.size (.deferred (some [])) ∧
   ObjAt (rfW fid a ps assign body w) (w.heap.size + 1) (.loop (rfRec fid a ps assign body w.heap.size .ready none)) ∧ (rfW fid a ps assign body w).heap.size = w.heap.size + 2 := by
 have e : (rfW fid a ps assign body w).heap = (w.heap.push (.deferred (some []))).push (.loop (rfRec fid a ps assign body w.heap.size .ready none)) := rfl
 have b : (rfW fid a ps assign body w).os = w.os := rfl
 have c : (rfW fid a ps assign body w).tape = w.tape := rfl
 have d : (rfW fid a ps assign body w).output = w.output := rfl
 unfold ObjAt
 generalize rfW fid a ps assign body w = w1 at *
 generalize (Obj.loop (rfRec fid a ps assign body w.heap.size .ready none)) = o at *
 have hs : w1.heap.size = w.heap.size + 2 := by rw [e]; simp
 refine ⟨⟨b, c, d, by omega, fun k hk => ?_⟩, ?_, ?_, hs⟩
 ·
  rw [e, Array.getElem?_push, if_neg (by simp; omega), Array.getElem?_push, if_neg oO]
 ·
  rw [e, Array.getElem?_push, if_neg (by simp), Array.getElem?_push, if_pos rfl]
 ·
  rw [e, Array.getElem?_push, if_pos (by simp)]
theorem blk_round {P : Program} {F : Fence} {n : Sh} {m id L : Nat} {c : Code} {f : Fr} {w : World} {R : Ending → World → Prop} (h : ∀ a, Rep n f a → c.wpIn F m P (lift n (QR P L R)) a w) :
  ∀ a, Rep n f a → (Code.block id c).wpIn F m P (lift n (QR P L R)) a w := fun a ha => by
 refine wpIn_block (wpIn_mono (h a ha) ?_)
 rintro e a w ⟨f, hf, hq⟩
 cases e with
 | normal => exact ⟨f, hf, hq⟩
 | panic ch => exact ⟨f, hf, hq⟩
 | _ => exact hq.elim
theorem rf_start {P : Program} {fid gf : FuncId} {args : Array Value} {a : Act} {ps : Array Tmp} {assign body : Code} {w : World} {POST : Ending → World → Prop}
  (h : ∀ rec w1, rec = rfRec fid a ps assign body w.heap.size .ready none → w1 = rfW fid a ps assign body w → Below w.heap.size w w1 → ObjAt w1 w.heap.size (.deferred (some [])) → ObjAt w1 (w.heap.size + 1) (.loop rec) → w1.heap.size = w.heap.size + 2 → Calls P gf args w1 POST) :
  Calls P gf args (rfW fid a ps assign body w) POST := by
 obtain ⟨b, c, d, e⟩ := rfW_upd fid a ps assign body w
 exact h _ _ rfl rfl b c d e
section
variable {P : Program} {fn : Func} {R : Ending → World → Prop} {D : Nat}
def PostM (P : Program) (fn : Func) (R : Ending → World → Prop) (D : Nat) : Exit → Fr → World → Prop
 | .normal, f, w | .ret, f, w => ObjAt w D (.deferred (some [])) ∧ ∃ v, ResOk P fn f (w.putObj D (.deferred none)) v ∧ R (.returned v) (w.putObj D (.deferred none))
 | .panic chain, _, w => ObjAt w D (.deferred (some [])) ∧ R (.panicked chain) (w.putObj D (.deferred none))
 | _, _, _ => False
theorem postM_of {n : Nat} {f : Fr} {c : Code} {w : World} (h : W P ⟨n, [{ target := .collected D, args := #[] }]⟩ c (PostM P fn R D) f w) :
  ∀ a, Rep ⟨n, [{ target := .collected D, args := #[] }]⟩ f a → c.wp P (bodyPostM Fence.wide 1 P fn R) a w := fun a ha => by
 unfold W at h
 refine wp_mono (h a ha) ?_
 rintro e a1 w1 ⟨g, hg, hq⟩
 have hd : a1.defers = [{ target := .collected D, args := #[] }] := hg.1
 have fin : ∀ u, u ≠ .run → ObjAt w1 D (.deferred (some [])) → LeavesIn Fence.wide 1 P fn a1.tmps R [] u (w1.putObj D (.deferred none)) → LeavesInM Fence.wide 1 P fn a1.tmps R a1.defers u w1 := fun u hu h1 h2 => by
  rw [hd]
  exact ⟨hu, .inl ⟨D, _, rfl, run_takeDeferred h1, h2⟩⟩
 cases e with
 | normal => obtain ⟨h1, v, h2, h3⟩ := hq; exact fin .returning nofun h1 ⟨v, h2 _ hg.2.2, h3⟩
 | ret => obtain ⟨h1, v, h2, h3⟩ := hq; exact fin .returning nofun h1 ⟨v, h2 _ hg.2.2, h3⟩
 | panic ch => exact fin (.panicking ch) nofun hq.1 hq.2
 | _ => exact hq.elim
end
end
section
theorem HasBody.enter {P : Program} {F : FuncId} (h : HasBody P F) (args : Array Value) (w : World) : (callFunc F args).run P w = .ok (.enter F args) w := by
 obtain ⟨fn, hf, hb, hn⟩ := h
 simp [callFunc, hf, hb, hn, go_sem]
theorem inf57 : (Tryz.prog.info? 57).map (fun i => (i.zero, i.size, i.bytes)) = some (some (.agg (pointV pt0).toArray), 2, 16) := by kernel_rfl
structure LdJ (bv : Nat) (H : VwH) (p : Option Addr) (l : List Int) (c : Nat) (w : World) (b2 b5 x1 x2 D : Nat) (rec : Loop) (k : Nat) (w' : World) : Prop where
 bel : Below w.heap.size w w'
 kv : Blk w' bv (vwC H).toArray 74
 row : RowAt intV w' p l
 k2 : Blk w' b2 #[.pointer (some ⟨bv, 0, none⟩)] 65
 k5 : ∃ v q, Blk w' b5 #[v] 133 ∧ OwnM pointL 57 (D + 2) w' v q ∧ ledsV H.s.ctm (l.take (2 * k)) = .ok q ∧ q.length = k
 c1 : Blk w' x1 #[.slice p l.length c] 39
 c2 : Blk w' x2 #[.int .i64 2] 3
 od : ObjAt w' D (.deferred (some []))
 ol : ObjAt w' (D + 1) (.loop rec)
 sz : D + 2 ≤ w'.heap.size
section
variable {bv : Nat} {H : VwH} {p : Option Addr} {l : List Int} {c : Nat} {w : World} {b2 b5 x1 x2 D : Nat} {rec rec2 : Loop} {k : Nat} {w1 w2 : World}
theorem LdJ.drew (h : LdJ bv H p l c w b2 b5 x1 x2 D rec k w1) (d : Drew w1 w2) : LdJ bv H p l c w b2 b5 x1 x2 D rec k w2 := by
 obtain ⟨v, q, a, b, e, f⟩ := h.k5
 exact ⟨d.below h.bel, h.kv.drew d, h.row.drew d, h.k2.drew d, ⟨v, q, a.drew d, b.drew d, e, f⟩, h.c1.drew d, h.c2.drew d, h.od.drew d, h.ol.drew d, by obtain ⟨m, rfl⟩ := d; exact h.sz⟩
theorem LdJ.put (h : LdJ bv H p l c w b2 b5 x1 x2 D rec k w1) (hw : w.heap.size ≤ D) (hv : bv < w.heap.size) (hr : 0 < l.length → (pA p).block < w.heap.size) (h2 : b2 < D) (h5 : b5 < D) (hx1 : x1 < D) (hx2 : x2 < D) :
  LdJ bv H p l c w b2 b5 x1 x2 D rec2 k (w1.putObj (D + 1) (.loop rec2)) := by
 have hu := putObj_upd (w := w1) (b := D + 1) (o := .loop rec2)
 obtain ⟨v, q, d, a, f, i⟩ := h.k5
 exact ⟨ub_ h.bel oO hu, h.kv.upd hu oO, RowAt.upd h.row hu (fun j => by have := hr j; omega), h.k2.upd hu oO, ⟨v, q, d.upd hu oO, a.upd hu (fun g hg e => by have := (a.lt g hg).1; omega), f, i⟩,
  h.c1.upd hu oO, h.c2.upd hu oO, h.od.upd hu oO, putObj_at h.ol.lt, nt_ h.sz hu.size⟩
end
set_option maxHeartbeats 3200000 in
theorem vw_leds (bv : Nat) (H : VwH) (p : Option Addr) (l : List Int) (c m : Nat) (w : World) (h : Blk w bv (vwC H).toArray 74) (hr : RowAt intV w p l) (hl : l.length = 2 * m) (hm : m ≤ 100) (hc : l.length ≤ c) :
  Calls Tryz.prog 77 #[.pointer (some ⟨bv, 0, none⟩), .slice p l.length c] w (EndsV 30 (ledsV H.s.ctm l) (fun q v w' => Below w.heap.size w w' ∧ OwnM pointL 57 w.heap.size w' v q) (fun w' => Below w.heap.size w w')) := by
 have U := hr.lt
 have ah := h.lt
 refine calls_marksF func77 rfl ntmps77 bL <| wpF_first <| W.reg <| WL.box rfl rfl (fun b2 w2 e2 t dS eJ => ?_)
 refine WL.Z rfl <| wpF_first <| W.reg <| WL.al zeroValue133 rfl (fun b5 w5 e5 a8 cU eK => ?_)
 refine WL.e <| ?_
 intro a5 dT
 refine wpF_seq <| wpF_first ?_ a5 dT
 refine W.reg <| WL.M rfl <| WL.call hB_ rfl rfl (lib_Chunk p l.length c _) (fun x V dU => ?_)
 refine WL.e <| ?_
 obtain ⟨⟨x1, x2⟩, hx⟩ : ∃ y, y = x := ⟨x, rfl⟩
 subst hx
 obtain ⟨aK, b1, b3, dV, dW⟩ := dU
 simp only at b1 b3 dV dW
 intro a ha
 refine wpF_block <| wpF_range (gf := 145) (lb := #[.pointer (some ⟨x1, 0, none⟩), .pointer (some ⟨x2, 0, none⟩)]) (ha.agr _ _ rfl) (HasBody.enter (hasBody func145 kR)) ?_
 have ez : b2 < w2.heap.size := t.lt
 have eA : b5 < w5.heap.size := a8.lt
 have d5 := b1.lt
 have d6 := b3.lt
 have eL := aK.size
 have hb25 : b2 < b5 := by omega
 have eB : w.heap.size ≤ b2 := by omega
 refine rf_start fun rec wR Y eM r1 r2 r3 r4 => ?_
 have dX : Below w.heap.size w w2 := ub_ (br_ _ _) oO dS
 have dY : Below w.heap.size w w5 := ub_ dX oO cU
 have d7 : Below w.heap.size w V := bt_ dY (aK.mono oO)
 have b4 : Below w.heap.size w wR := bt_ d7 (r1.mono oO)
 have dZ : LdJ bv H p l c w b2 b5 x1 x2 V.heap.size rec 0 wR :=
  ⟨b4, h.below b4 ah, hr.below b4 (fun d => U d), ((t.upd cU oO).below aK oO).below r1 oO, ⟨.slice none 0 0, [], (a8.below aK oO).below r1 oO, OwnM.nil _ _ _ _, rfl, rfl⟩,
   b1.below r1 d5, b3.below r1 d6, r2, r3, by omega⟩
 refine (chunk_iter (V.heap.size + 1) x1 x2 p l.length c m (LdJ bv H p l c w b2 b5 x1 x2 V.heap.size rec) (fun ch w' => ∃ k, ledsV H.s.ctm l = .error k ∧ ch = [{ v := .iface 30 (.int .i64 k), recovered := false }] ∧ Below w.heap.size w w' ∧ ObjAt w' V.heap.size (.deferred (some []))) _ hl hc oO dZ (fun k w1 w2 h1 h2 => h1.drew h2) (fun k w1 h1 => ⟨h1.c1, h1.c2⟩) (fun d => by have := hr.isp oO; rw [this]; simp) ?_).mono ?_
 ·
  intro k w1 hk hJ; have b6 := RowAt.two hJ.row k oO; refine yield_W (D := V.heap.size) ha rfl func77 (Y ▸ hJ.ol) ?_
  intro a1 d'; refine W.roundL rfl (fun _ _ h => h) (WL.Z rfl ?_) a1 d'; refine ⟨Y ▸ hJ.ol, ?_⟩
  intro a2 e0; rw [← Y]; have a0 := hJ.put (rec2 := { rec with state := .busy }) oO ah U oO oO oO oO
  generalize w1.putObj (V.heap.size + 1) (.loop { rec with state := .busy }) = wB at *; have e1 := a0.bel; have t := a0.k2; have e3 := a0.kv; have cV := a0.ol; have cW := a0.od; have e4 := a0.c1; have e6 := a0.c2; have cX := a0.row; have e7 := a0.sz; have b6 := RowAt.two cX k oO; obtain ⟨v5, q, a8, b7, hq, aL⟩ := a0.k5; have ab : 0 < [l[2 * k], l[2 * k + 1]].length → (pA (p.map (·.add (2 * k)))).block < w.heap.size := fun d => by
   have h1 := U oO; rw [hr.isp oO]
   show (((pA p).add (2 * k)).block) < _
   rw [add_block]; omega
  have am : 0 < [l[2 * k], l[2 * k + 1]].length → (pA (p.map (·.add (2 * k)))).block < V.heap.size + 2 := fun d => by have := ab d; omega
  have an : 0 < l.length → (pA p).block < V.heap.size + 2 := fun d => by have := U d; omega
  have cY := fun e => ledsV_err (m := H.s.ctm) (l := l) (k := k) (e := e) oO hq
  have aH := ledsV_step (m := H.s.ctm) (l := l) (k := k) oO hq; obtain ⟨bL, ad⟩ : ∃ b, b = V.heap.size + 1 := ⟨_, rfl⟩; obtain ⟨bD, ai⟩ : ∃ b, b = V.heap.size := ⟨_, rfl⟩; rw [← ad] at cV; rw [← ai] at cW; refine blk_round ?_ a2 e0; refine W.roundH (N := 12) rfl mixed (fun w' => w'.heap[b2]? = wB.heap[b2]? ∧ RowAt intV w' (p.map (·.add (2 * k))) [l[2 * k], l[2 * k + 1]] ∧ True) rfl (fun _ _ h => h) (fun w1 X => ?_) ; have b8 := Drew.le e7 X; have cZ := OwnM.drew b7 X; have a3 := t.drew X; have a8 := a8.drew X; have aj := e3.drew X; have c' := cV.drew X; have ak := cW.drew X; have d0 := e4.drew X; have b9 := e6.drew X; have O := b6.drew X; have ao := cX.drew X; have a4 := Drew.below e1 X; refine WH.tk 1 rfl (fun w' hw' => Rd.ld (g65_ _) rfl ((hw'.1).trans t) rfl) ⟨(a3).trans (t).symm, O, tT⟩ rfl ?_; refine WH.tp 2 rfl (.mv rfl) ⟨(a3).trans (t).symm, O, tT⟩ rfl ?_; refine WH.tp 3 rfl (.ixb u39_ s3_ rfl rfl (O.isp (by first | omega | exact nz_ _)) (0) (rfl) ((by first | omega | exact nz_ _))) ⟨(a3).trans (t).symm, O, tT⟩ rfl ?_; refine WH.tk 4 rfl (fun w' hw' => Rd.ldc (g3_ _) rfl ((hw'.2.1).cells (0) ((by first | omega | exact nz_ _)))) ⟨(a3).trans (t).symm, O, tT⟩ rfl ?_; refine WH.tp 5 rfl (.mv rfl) ⟨(a3).trans (t).symm, O, tT⟩ rfl ?_; refine WH.tp 6 rfl (.ixb u39_ s3_ rfl rfl (O.isp (by first | omega | exact nz_ _)) (1) (rfl) ((by first | omega | exact Nat.lt_succ_self _))) ⟨(a3).trans (t).symm, O, tT⟩ rfl ?_; refine WH.tk 7 rfl (fun w' hw' => Rd.ldc (g3_ _) rfl ((hw'.2.1).cells (1) ((by first | omega | exact Nat.lt_succ_self _)))) ⟨(a3).trans (t).symm, O, tT⟩ rfl ?_; refine WH.br2 0 rfl 8 rfl ?_ ?_
  ·
   skip; refine WL.R (Rd.ld (isAgg133 _) rfl a8 rfl) <| WL.e <| ⟨⟨(a3).trans (t).symm, O, tT⟩, ?_⟩; refine WH.br1 8 rfl <| WL.ce hB_ rfl rfl ((vw_led bv H l[2 * k] l[2 * k + 1] _ aj)) (fun eN e8 ap J => ?_) (fun e9 e8 ap J => ?_)
   ·
    skip; have ba := bt_ a4 (Below.mono J a4.size); exact .inr ⟨_, rfl, _, cY _ ap, rfl, ba, ai ▸ (ak).below J (ak).lt⟩
   have bK := nt_ b8 J.size; have d8 := OwnM.below cZ J; have aI := a3.bl J; have bb := a8.bl J; have bc := aj.bl J; have bd := c'.bl J; have be := ak.bl J; have bf := d0.bl J; have bg := b9.bl J; have aJ := RowAt.below O J (fun d => O.lt d); have bh := RowAt.below ao J (fun d => ao.lt d); have bi := btr a4 J; refine WL.e <| ⟨⟨(aI).trans (t).symm, aJ, tT⟩, ?_⟩; refine WH.br1 9 rfl <| WL.bslM (L := pointL) (ps := _) ([e9]) u133_ s57_ z57_ rfl rfl rfl rfl rfl (by first | rfl | decide) rfl rfl (fun ea d9 Q bM E eu => ?_); have aM := nt_ bK E.size; have da := on_ d8 Q E; have db := bgl Q aI.lt; have bj := aI.un E db; have dc := bgl Q bb.lt; have dd := bb.un E dc; have de := bgl Q bc.lt; have df := bc.un E de; have dg := bgl Q bd.lt; have dh := bd.un E dg; have di := bgl Q be.lt; have dj := be.un E di; have dk := bgl Q bf.lt; have dl := bf.un E dk; have dm := bgl Q bg.lt; have dn := bg.un E dm; have bN := fun d => Q ▸ aJ.lt d
   have bk := RowAt.upd aJ E (fun d => nn_ (bN d)); have bO := fun d => Q ▸ bh.lt d
   have dp := RowAt.upd bh E (fun d => nn_ (bO d)); have dq := uB bi Q E; have eb := bge Q bi.size; have ec : ea ≤ d9.heap.size := by omega
   refine WL.e <| ⟨⟨(bj).trans (t).symm, bk, tT⟩, ?_⟩; refine WH.br1 10 rfl <| WL.appM u133_ inf57 rfl rfl rfl da rfl (bM).rowp (by simp only [List.length_cons, List.length_nil]; omega) (aM) rfl (fun h => ab_ h (lc_ _ _)) (fun eO eP aN P ev ew => ?_); have bm := bj.below P oO; have dr := dd.below P oO; have ds := df.below P oO; have dt := dh.below P oO; have du := dj.below P oO; have dv := dl.below P oO; have dw := dn.below P oO; have bn := RowAt.below bk P am; have dx := RowAt.below dp P an; have dy := bt_ dq (P.mono (oO)); have bP := nt_ aM P.size; refine WL.e <| ⟨⟨(bm).trans (t).symm, bn, tT⟩, ?_⟩; refine WH.br1 11 rfl <| WL.st sizeOf133 rfl rfl (aN).one dr oD (fun d1 aq C ex => ?_); have aq : Blk d1 b5 _ _ := aq; have C : Upd b5 _ _ := C; have bQ := nt_ bP C.size; have dz := OwnM.touch aN C oM; have bo := bm.up C; have dA := ds.up C; have bp := dt.up C; have dB := du.up C; have dC := dv.up C; have dD := dw.up C; have dE := RowAt.upd bn C (fun d => by have := ab d; omega); have dF := RowAt.upd dx C (fun d => by have := U d; omega); have dG := ub_ dy oO C; refine WL.e <| ⟨⟨(bo).trans (t).symm, dE, tT⟩, ?_⟩; refine WH.done kR ?_; have aD : LdJ bv H p l c w b2 b5 x1 x2 V.heap.size { rec with state := .busy } (k + 1) d1 := ⟨dG, dA, dF, bo, ⟨_, _, aq, dz, by rw [aH, ap]; rfl, by rw [List.length_append, aL]; rfl⟩, dC, dD, ai ▸ dB, ad ▸ bp, bQ⟩; refine ⟨_, _, run_endRound none (ad ▸ bp), .inl ⟨rfl, ?_⟩⟩; have a9 := aD.put (rec2 := { { rec with state := .busy } with state := if (none : Option Code).isNone then .ready else .done, pending := none }) oO ah U oO oO oO oO; have aa : rec = { { rec with state := .busy } with state := if (none : Option Code).isNone then .ready else .done, pending := none } := by rw [Y]; rfl
   rw [← aa] at a9; rw [← aa]; exact a9
  refine WL.ce hB_ rfl rfl ((vw_led bv H l[2 * k] l[2 * k + 1] _ aj)) (fun eQ ed ac K => ?_) (fun d2 ed ac K => ?_)
  ·
   skip; have bq := bt_ a4 (Below.mono K a4.size); exact .inr ⟨_, rfl, _, cY _ ac, rfl, bq, ai ▸ (ak).below K (ak).lt⟩
  have aO := nt_ b8 K.size; have bt := OwnM.below cZ K; have a6 := a3.bl K; have ae := a8.bl K; have ar := aj.bl K; have au := c'.bl K; have av := ak.bl K; have aw := d0.bl K; have ax := b9.bl K; have a7 := RowAt.below O K (fun d => O.lt d); have ay := RowAt.below ao K (fun d => ao.lt d); have az := btr a4 K; refine WL.e <| ⟨⟨(a6).trans (t).symm, a7, tT⟩, ?_⟩; refine WH.br2 0 rfl 9 rfl ?_ ?_
  ·
   skip; refine WL.R (Rd.ld (isAgg133 _) rfl ae rfl) <| WL.e <| ⟨⟨(a6).trans (t).symm, a7, tT⟩, ?_⟩; refine WH.br1 9 rfl <| WL.bslM (L := pointL) (ps := _) ([d2]) u133_ s57_ z57_ rfl rfl rfl rfl rfl (by first | rfl | decide) rfl rfl (fun ee dH T bR F ey => ?_); have aP := nt_ aO F.size; have dI := on_ bt T F; have dJ := bgl T a6.lt; have bu := a6.un F dJ; have dK := bgl T ae.lt; have dL := ae.un F dK; have dM := bgl T ar.lt; have dN := ar.un F dM; have bS := bgl T au.lt; have bT := au.un F bS; have bU := bgl T av.lt; have bV := av.un F bU; have bW := bgl T aw.lt; have bX := aw.un F bW; have bY := bgl T ax.lt; have bZ := ax.un F bY; have bw := fun d => T ▸ a7.lt d
   have aQ := RowAt.upd a7 F (fun d => nn_ (bw d)); have bx := fun d => T ▸ ay.lt d
   have b' := RowAt.upd ay F (fun d => nn_ (bx d)); have c0 := uB az T F; have ef := bge T az.size; have eg : ee ≤ dH.heap.size := by omega
   refine WL.e <| ⟨⟨(bu).trans (t).symm, aQ, tT⟩, ?_⟩; refine WH.br1 10 rfl <| WL.appM u133_ inf57 rfl rfl rfl dI rfl (bR).rowp (by simp only [List.length_cons, List.length_nil]; omega) (aP) rfl (fun h => ab_ h (lc_ _ _)) (fun eC eD aE A eh ei => ?_); have aR := bu.below A oO; have c3 := dL.below A oO; have c4 := dN.below A oO; have c5 := bT.below A oO; have c6 := bV.below A oO; have c7 := bX.below A oO; have c8 := bZ.below A oO; have aS := RowAt.below aQ A am; have c9 := RowAt.below b' A an; have ca := bt_ c0 (A.mono (oO)); have bz := nt_ aP A.size; refine WL.e <| ⟨⟨(aR).trans (t).symm, aS, tT⟩, ?_⟩; refine WH.br1 11 rfl <| WL.st sizeOf133 rfl rfl (aE).one c3 oD (fun bA af f ej => ?_); have af : Blk bA b5 _ _ := af; have f : Upd b5 _ _ := f; have bB := nt_ bz f.size; have cb := OwnM.touch aE f oM; have aT := aR.up f; have cc := c4.up f; have aU := c5.up f; have cd := c6.up f; have cf := c7.up f; have cg := c8.up f; have ci := RowAt.upd aS f (fun d => by have := ab d; omega); have cj := RowAt.upd c9 f (fun d => by have := U d; omega); have ck := ub_ ca oO f; refine WL.e <| ⟨⟨(aT).trans (t).symm, ci, tT⟩, ?_⟩; refine WH.done kR ?_; have aD : LdJ bv H p l c w b2 b5 x1 x2 V.heap.size { rec with state := .busy } (k + 1) bA := ⟨ck, cc, cj, aT, ⟨_, _, af, cb, by rw [aH, ac]; rfl, by rw [List.length_append, aL]; rfl⟩, cf, cg, ai ▸ cd, ad ▸ aU, bB⟩; refine ⟨_, _, run_endRound none (ad ▸ aU), .inl ⟨rfl, ?_⟩⟩; have a9 := aD.put (rec2 := { { rec with state := .busy } with state := if (none : Option Code).isNone then .ready else .done, pending := none }) oO ah U oO oO oO oO; have aa : rec = { { rec with state := .busy } with state := if (none : Option Code).isNone then .ready else .done, pending := none } := by rw [Y]; rfl
   rw [← aa] at a9; rw [← aa]; exact a9
  refine WL.bslM (L := pointL) (ps := _) ([d2]) u133_ s57_ z57_ rfl rfl rfl rfl rfl (by first | rfl | decide) rfl rfl (fun dO cl G bC u ek => ?_); have aF := nt_ aO u.size; have cm := on_ bt G u; have cn := bgl G a6.lt; have aA := a6.un u cn; have co := bgl G ae.lt; have aV := ae.un u co; have cq := bgl G ar.lt; have cr := ar.un u cq; have ct := bgl G au.lt; have cu := au.un u ct; have cv := bgl G av.lt; have cw := av.un u cv; have cy := bgl G aw.lt; have cz := aw.un u cy; have cA := bgl G ax.lt; have cB := ax.un u cA; have bE := fun d => G ▸ a7.lt d
  have aB := RowAt.upd a7 u (fun d => nn_ (bE d)); have bG := fun d => G ▸ ay.lt d
  have cC := RowAt.upd ay u (fun d => nn_ (bG d)); have cD := uB az G u; have dQ := bge G az.size; have dR : dO ≤ cl.heap.size := by omega
  refine WL.e <| ⟨⟨(aA).trans (t).symm, aB, tT⟩, ?_⟩; refine WH.br1 0 rfl <| WL.R (Rd.ld (isAgg133 _) rfl aV rfl) <| WL.e <| ⟨⟨(aA).trans (t).symm, aB, tT⟩, ?_⟩; refine WH.br1 10 rfl <| WL.appM u133_ inf57 rfl rfl rfl cm rfl (bC).rowp (by simp only [List.length_cons, List.length_nil]; omega) (aF) rfl (fun h => ab_ h (lc_ _ _)) (fun eF eG aG B el em => ?_); have aW := aA.below B oO; have cE := aV.below B oO; have cF := cr.below B oO; have cG := cu.below B oO; have cH := cw.below B oO; have cI := cz.below B oO; have cJ := cB.below B oO; have aX := RowAt.below aB B am; have cK := RowAt.below cC B an; have cL := bt_ cD (B.mono (oO)); have bH := nt_ aF B.size; refine WL.e <| ⟨⟨(aW).trans (t).symm, aX, tT⟩, ?_⟩; refine WH.br1 11 rfl <| WL.st sizeOf133 rfl rfl (aG).one cE oD (fun bI ag j en => ?_); have ag : Blk bI b5 _ _ := ag; have j : Upd b5 _ _ := j; have bJ := nt_ bH j.size; have cM := OwnM.touch aG j oM; have aY := aW.up j; have cN := cF.up j; have aZ := cG.up j; have cO := cH.up j; have cP := cI.up j; have cQ := cJ.up j; have cR := RowAt.upd aX j (fun d => by have := ab d; omega); have cS := RowAt.upd cK j (fun d => by have := U d; omega); have cT := ub_ cL oO j; refine WL.e <| ⟨⟨(aY).trans (t).symm, cR, tT⟩, ?_⟩; refine WH.done kR ?_; have aD : LdJ bv H p l c w b2 b5 x1 x2 V.heap.size { rec with state := .busy } (k + 1) bI := ⟨cT, cN, cS, aY, ⟨_, _, ag, cM, by rw [aH, ac]; rfl, by rw [List.length_append, aL]; rfl⟩, cP, cQ, ai ▸ cO, ad ▸ aZ, bJ⟩; refine ⟨_, _, run_endRound none (ad ▸ aZ), .inl ⟨rfl, ?_⟩⟩; have a9 := aD.put (rec2 := { { rec with state := .busy } with state := if (none : Option Code).isNone then .ready else .done, pending := none }) oO ah U oO oO oO oO; have aa : rec = { { rec with state := .busy } with state := if (none : Option Code).isNone then .ready else .done, pending := none } := by rw [Y]; rfl
  rw [← aa] at a9; rw [← aa]; exact a9
 ·
  intro e w3 he; rcases he with ⟨v, rfl, hJ⟩ | ⟨ch, rfl, k, eo, rfl, ep, eq⟩
  ·
   obtain ⟨v5, q, eH, b7, hq, aL⟩ := hJ.k5; rw [← hl, List.take_length] at hq; have er : rec.state ≠ .busy := by rw [Y]; nofun
   have es : rec.pending = none := by rw [Y]; rfl
   have a' := hJ.put (rec2 := { rec with state := .exhausted }) oO ah U oO oO oO oO; obtain ⟨wE, d3⟩ : ∃ x, x = w3.putObj (V.heap.size + 1) (.loop { rec with state := .exhausted }) := ⟨_, rfl⟩; rw [← d3] at a'; refine ⟨wE, by rw [d3, run_endLoop hJ.ol er, es], ?_⟩; obtain ⟨v6, q6, aj, aC, d4, eI⟩ := a'.k5; rw [← hl, List.take_length] at d4; have dP := aj; refine wpF_of (postM_of (D := V.heap.size) (n := 22) ?_ _ ⟨by rw [ha.1], ha.2.1, fun i v hi => ha.2.2 i v hi⟩); refine W.seq (W.reg ?_); refine WL.R (Rd.ld (isAgg133 _) rfl dP rfl) <| WL.Z rfl ?_; have b0 := putObj_upd (w := wE) (b := V.heap.size) (o := .deferred none); refine W.ret ⟨a'.od, v6, fun tmps ht => ?_, eo_ _ _ d4 rfl ⟨ub_ a'.bel oO b0, ?_⟩⟩
   ·
    rw [results_tmp rfl, ht _ _ rfl]; rfl
   ·
    exact (aC.upd b0 (fun g hg e => by have := (aC.lt g hg).1; omega)).base (fun g hg => by have := (aC.lt g hg).1; omega)
  ·
   have b0 := putObj_upd (w := w3) (b := V.heap.size) (o := .deferred none); have et : a.defers = [] := ha.1
   show LeavesInM Fence.wide 1 Tryz.prog _ _ _ ({ target := .collected V.heap.size, args := #[] } :: a.defers) (.panicking _) w3
   rw [et]; refine ⟨nofun, .inl ⟨_, _, rfl, run_takeDeferred eq, ?_⟩⟩; unfold EndsV; rw [eo]; exact ⟨rfl, ub_ ep oO b0⟩
end
section
theorem PRep.kn {w : World} {Z : Nat → Prop} {x : PC} {o : PV} (h : PRep w Z x o) : pvK o = x.kind ∧ pvN o = x.n ∧ pvT o = x.text := by
 cases h; exact ⟨rfl, rfl, rfl⟩
theorem ArR.kn {w : World} {Z : Nat → Prop} {cs : List PC} {args : List PV} (h : ArR Z w cs args) (i : Nat) (h1 : i < cs.length) (h2 : i < args.length) : pvK args[i] = cs[i].kind ∧ pvN args[i] = cs[i].n ∧ pvT args[i] = cs[i].text := (h.2 i h1 h2).kn
theorem ArR.nums {w : World} {Z : Nat → Prop} {cs : List PC} {args : List PV} (h : ArR Z w cs args) : (cs.map fun x => numX x.kind x.n) = args.map numP := by
 refine List.ext_getElem (by rw [List.length_map, List.length_map]; exact h.1) fun i a b => ?_
 rw [List.length_map] at a b
 rw [List.getElem_map, List.getElem_map, ← numX_P, (h.kn i a b).1, (h.kn i a b).2.1]
theorem ArR.num {w : World} {Z : Nat → Prop} {cs : List PC} {args : List PV} (h : ArR Z w cs args) (n : Nat) : numsC cs n = numsV args n := by
 have e := h.nums
 have a : (cs.map fun x => (numX x.kind x.n).1) = args.map fun o => (numP o).1 := by
  have := congrArg (List.map Prod.fst) e
  rw [List.map_map, List.map_map] at this
  exact this
 have b : cs.all (fun x => (numX x.kind x.n).2) = args.all fun o => (numP o).2 := by
  have := congrArg (fun l => l.all Prod.snd) e
  simpa [List.all_map, Function.comp_def] using this
 unfold numsC numsV
 rw [a, b, h.1]
theorem Vwr.set1 {B : Nat} {fs : Fcx} {w w1 : World} {bv : Nat} {H H1 : VwH} {vp : Value} {V V1 : Vw} {args : List PV} {its : List ItemV} {hs : List StC} {cs : List PC} (hO : VwO B w bv H vp V its hs cs) (K : KeepB w.heap.size [bv] w w1)
  (hk : Blk w1 bv (vwC H1).toArray 74) (hR : ∀ (m : Mv (Frz fs.c (VwF bv H vp) w) (Frz fs.c (VwF bv H vp) w1) w w1), VwR (Frz fs.c (VwF bv H vp) w1) w1 H1 fs V1 args its hs cs)
  (e1 : H1.path = H.path := by rfl) (e2 : H1.items = H.items := by rfl) (e3 : H1.saved = H.saved := by rfl) (e4 : H1.args = H.args := by rfl) (ep : V1.path = V.path := by rfl) :
  ∃ F1, Vwr B fs w1 bv F1 V1 args ∧ Chg (VwF bv H vp) F1 w w1 := by
 have hF : VwF bv H1 vp = VwF bv H vp := by unfold VwF; rw [e1, e2, e3, e4]
 have hC : Chg (VwF bv H vp) (VwF bv H vp) w w1 := Chg.of_keep K (fun g hg => by simp only [List.mem_singleton] at hg; subst hg; exact .inl (.inl rfl)) (fun g hg => .inl hg)
 have hb : ∀ g, VwF bv H vp g → g ≠ bv → w1.heap[g]? = w.heap[g]? := fun g hg hn => K.block g (hO.inn g hg).2 (by simpa using hn)
 have a : H.path ≠ bv := fun e => by
  have f := hO.blk; have b := hO.pth.blk
  rw [e] at b
  have d := f.symm.trans b
  simp only [Option.some.injEq, Obj.cells.injEq] at d
  exact ab_ d.2.1 dD
 refine ⟨VwF bv H vp, ⟨H1, vp, its, hs, cs, hF.symm, ⟨hk, ?_, ?_, ?_, ?_, hO.lbv, by rw [e1]; exact hO.lbp⟩, hR (Frz.mv hC)⟩, hC⟩
 ·
  rw [e1, ep]
  exact ⟨(hb _ (.inr (.inl rfl)) a).trans hO.pth.blk, hO.pth.own.same fun g hg => hb g (.inr (.inr (.inl hg))) (blk_sep hO.pth.own hO.blk dD g hg), hO.pth.len, nt_ hO.pth.base K.size⟩
 ·
  rw [e2]; exact hO.oi.same fun g hg => hb g (.inr (.inr (.inr (.inl hg)))) (blk_sep hO.oi hO.blk dD g hg)
 ·
  rw [e3]; exact hO.os.same fun g hg => hb g (.inr (.inr (.inr (.inr (.inl hg))))) (blk_sep hO.os hO.blk dD g hg)
 ·
  rw [e4]; exact hO.oa.same fun g hg => hb g (.inr (.inr (.inr (.inr (.inr hg))))) (blk_sep hO.oa hO.blk dD g hg)
section
variable {B : Nat} {fs : Fcx} {w : World} {bv : Nat} {F : Nat → Prop} {V : Vw} {args : List PV}
theorem vw_numV (n : Nat) (h : Vwr B fs w bv F V args) (ha : args.length ≤ 32) (hn : n ≤ 100) :
  Calls Tryz.prog 54 #[.pointer (some ⟨bv, 0, none⟩), .int .i64 (n : Int)] w (EndsV 30 (numsV args n) (fun l v w' => Below w.heap.size w w' ∧ OwnM ivL 3 w.heap.size w' v l) (fun w' => Below w.heap.size w w')) := by
 obtain ⟨H, vp, its, hs, cs, rfl, hO, hR⟩ := h.mem
 obtain ⟨p, c, e, hr, -⟩ := hO.oa.row
 rw [← hR.ar.num]
 exact vw_numbers bv n H p cs c w hO.blk e hr hn (by rw [hR.ar.1]; omega)
theorem whole_no {args : List PV} (h : ∀ o, args = [o] → pvK o = 2 → 0 ≤ pvN o → pvN o ≤ 2 → False) : wholeW args = .error 22 := by
 unfold wholeW
 split
 ·
  next o =>
  rw [if_neg]
  rintro ⟨a, b, c⟩
  exact h o rfl a b c
 ·
  rfl
theorem whole_yes {args : List PV} (h : args.length = 1) (h1 : pvK (args[0]) = 2) (h2 : 0 ≤ pvN args[0]) (h3 : pvN args[0] ≤ 2) : wholeW args = .ok (pvN args[0]) := by
 match args, h with
 | [o], _ => exact if_pos ⟨h1, h2, h3⟩
theorem vw_whole (h : Vwr B fs w bv F V args) (ha : args.length ≤ 32) :
  Calls Tryz.prog 67 #[.pointer (some ⟨bv, 0, none⟩)] w (EndB w (wholeW args) fun n => .int .i64 n) := by
 obtain ⟨H, vp, its, hs, cs, rfl, hO, hR⟩ := h.mem
 have j := hO.blk
 have a3 := hR.ar
 have ac := hO.oa
 clear hO hR h
 obtain ⟨s, fo, sa, pa, cl, it, lo, te, li, ar, its⟩ := H
 obtain ⟨p, c, e, hr, -⟩ := ac.row
 simp only at e
 subst e
 have y := a3.1
 have k := a3.kn 0
 refine W.e func67 rfl ntmps67 bL ?_
 have g := br_ (w.heap.size) w
 refine W.sr <| WL.Z rfl <| W.sr <| WL.M rfl <| WL.O (.nck rfl) <| WL.O (.fa u74_ rfl s72_ dD rfl) <| WL.R (Rd.ld (g72_ _) rfl j rfl) <| WL.O (.lenS u72_ rfl) <| WL.O (.eql rfl rfl) <| WL.M rfl <| WL.gd rfl rfl rfl (fun b => ?_) (fun b => ?_)
 have ad := dT b
 refine WL.M rfl <| WL.Y b <| WL.O (.nck rfl) <| WL.Y b <| WL.O (.fa u74_ rfl s72_ dD rfl) <| WL.Y b <| WL.R (Rd.ld (g72_ _) rfl j rfl) <| WL.Y b <| WL.O (.ixm u72_ s99_ rfl rfl (hr.isp (by first | omega | (simp only [List.length_cons, List.length_nil]; omega))) 0 rfl oO) <| WL.Y b <| WL.O (.fa u99_ rfl s3_ dD rfl) <| WL.Y b <| WL.R (Rd.ldc (g3_ _) rfl ((hr.field (0) (by first | omega | (simp only [List.length_cons, List.length_nil]; omega)) 0 dD).trans rfl)) <| WL.Y b <| WL.O (.eql rfl rfl) <| WL.O (.pkT rfl b rfl) <| WL.M rfl <| WL.gd rfl rfl rfl (fun d => ?_) (fun d => ?_)
 have ae := dT d
 refine WL.M rfl <| WL.Y d <| WL.O (.nck rfl) <| WL.Y d <| WL.O (.fa u74_ rfl s72_ dD rfl) <| WL.Y d <| WL.R (Rd.ld (g72_ _) rfl j rfl) <| WL.Y d <| WL.O (.ixm u72_ s99_ rfl rfl (hr.isp (by first | omega | (simp only [List.length_cons, List.length_nil]; omega))) 0 rfl oO) <| WL.Y d <| WL.O (.fa u99_ rfl s3_ dD rfl) <| WL.Y d <| WL.R (Rd.ldc (g3_ _) rfl ((hr.field (0) (by first | omega | (simp only [List.length_cons, List.length_nil]; omega)) 1 dD).trans rfl)) <| WL.Y d <| WL.O (.geq rfl rfl) <| WL.O (.pkT rfl d rfl) <| WL.M rfl <| WL.gd rfl rfl rfl (fun f => ?_) (fun f => ?_)
 have af := dT f
 refine WL.M rfl <| WL.Y f <| WL.O (.nck rfl) <| WL.Y f <| WL.O (.fa u74_ rfl s72_ dD rfl) <| WL.Y f <| WL.R (Rd.ld (g72_ _) rfl j rfl) <| WL.Y f <| WL.O (.ixm u72_ s99_ rfl rfl (hr.isp (by first | omega | (simp only [List.length_cons, List.length_nil]; omega))) 0 rfl oO) <| WL.Y f <| WL.O (.fa u99_ rfl s3_ dD rfl) <| WL.Y f <| WL.R (Rd.ldc (g3_ _) rfl ((hr.field (0) (by first | omega | (simp only [List.length_cons, List.length_nil]; omega)) 1 dD).trans rfl)) <| WL.Y f <| WL.O (.leq rfl rfl) <| WL.O (.pkT rfl f rfl) <| WL.ce hB_ rfl rfl ((vw_want _ _)) (fun k6 w4 G E => ?_) (fun a5 w4 G E => ?_)
 have a2 := bt_ g (Below.mono E g.size)
 obtain ⟨l, rfl⟩ := want_err G
 exact pn_is (Ends.err 22 (whole_no fun o ho h1 h2 h3 => by
  subst ho; have m : cs.length = 1 := y; obtain ⟨q, i, -⟩ := k oO (by simp); simp only [List.getElem_cons_zero] at q i
  first
   | omega
   | (rw [decide_eq_false_iff_not] at l; omega)) a2)
 have ag := j.bl E
 have a4 := rb_ hr E (fun J => hr.lt J)
 have ah := btr g E
 have a := want_ok G
 have m : cs.length = 1 := by first | exact ab_ a dD | omega
 have t : args.length = 1 := by omega
 have K : cs[0].kind = 2 := by first | exact ab_ a dD | omega
 have L : 0 ≤ cs[0].n := by first | exact ab_ a dD | omega
 have P : cs[0].n ≤ 2 := by first | exact ab_ a dD | exact dT a
 refine WL.e <| W.sr <| WL.M rfl <| WL.O (.nck rfl) <| WL.O (.fa u74_ rfl s72_ dD rfl) <| WL.R (Rd.ld (g72_ _) rfl ag rfl) <| WL.O (.ixm u72_ s99_ rfl rfl (a4.isp (by first | omega | (simp only [List.length_cons, List.length_nil]; omega))) 0 rfl oO) <| WL.O (.fa u99_ rfl s3_ dD rfl) <| WL.R (Rd.ldc (g3_ _) rfl ((a4.field (0) (by first | omega | (simp only [List.length_cons, List.length_nil]; omega)) 1 dD).trans rfl)) <| WL.Z rfl <| W.ret (W.r1 rfl rfl ?_)
 obtain ⟨q, i, -⟩ := k oO oO
 exact Ends.ok _ (whole_yes t oO oO oO) (by rw [i]) ah
 have af := dF f
 refine WL.N f <| WL.N f <| WL.N f <| WL.N f <| WL.N f <| WL.N f <| WL.N f <| WL.O (.pkF rfl f rfl) <| WL.ce hB_ rfl rfl ((vw_want _ _)) (fun al ai A u => ?_) (fun am ai A u => ?_)
 have Q := bt_ g (Below.mono u g.size)
 obtain ⟨l, rfl⟩ := want_err A
 exact pn_is (Ends.err 22 (whole_no fun o ho h1 h2 h3 => by
  subst ho; have m : cs.length = 1 := y; obtain ⟨q, i, -⟩ := k oO (by simp); simp only [List.getElem_cons_zero] at q i
  first
   | omega
   | (rw [decide_eq_false_iff_not] at l; omega)) Q)
 have a6 := j.bl u
 have T := rb_ hr u (fun J => hr.lt J)
 have a7 := btr g u
 have a := want_ok A
 have m : cs.length = 1 := by first | exact ab_ a dD | omega
 have t : args.length = 1 := by omega
 have K : cs[0].kind = 2 := by first | exact ab_ a dD | omega
 have L : 0 ≤ cs[0].n := by first | exact ab_ a dD | omega
 have P : cs[0].n ≤ 2 := by first | exact ab_ a dD | exact dT a
 refine WL.e <| W.sr <| WL.M rfl <| WL.O (.nck rfl) <| WL.O (.fa u74_ rfl s72_ dD rfl) <| WL.R (Rd.ld (g72_ _) rfl a6 rfl) <| WL.O (.ixm u72_ s99_ rfl rfl (T.isp (by first | omega | (simp only [List.length_cons, List.length_nil]; omega))) 0 rfl oO) <| WL.O (.fa u99_ rfl s3_ dD rfl) <| WL.R (Rd.ldc (g3_ _) rfl ((T.field (0) (by first | omega | (simp only [List.length_cons, List.length_nil]; omega)) 1 dD).trans rfl)) <| WL.Z rfl <| W.ret (W.r1 rfl rfl ?_)
 obtain ⟨q, i, -⟩ := k oO oO
 exact Ends.ok _ (whole_yes t oO oO oO) (by rw [i]) a7
 have ae := dF d
 refine WL.N d <| WL.N d <| WL.N d <| WL.N d <| WL.N d <| WL.N d <| WL.N d <| WL.O (.pkF rfl d rfl) <| WL.M rfl <| WL.N rfl <| WL.N rfl <| WL.N rfl <| WL.N rfl <| WL.N rfl <| WL.N rfl <| WL.N rfl <| WL.N rfl <| WL.O (.pkF rfl rfl rfl) <| WL.ce hB_ rfl rfl ((vw_want _ _)) (fun an aj C v => ?_) (fun ao aj C v => ?_)
 have U := bt_ g (Below.mono v g.size)
 obtain ⟨l, rfl⟩ := want_err C
 exact pn_is (Ends.err 22 (whole_no fun o ho h1 h2 h3 => by
  subst ho; have m : cs.length = 1 := y; obtain ⟨q, i, -⟩ := k oO (by simp); simp only [List.getElem_cons_zero] at q i
  first
   | omega
   | (rw [decide_eq_false_iff_not] at l; omega)) U)
 have a8 := j.bl v
 have X := rb_ hr v (fun J => hr.lt J)
 have a9 := btr g v
 have a := want_ok C
 have m : cs.length = 1 := by first | exact ab_ a dD | omega
 have t : args.length = 1 := by omega
 have K : cs[0].kind = 2 := by first | exact ab_ a dD | omega
 have L : 0 ≤ cs[0].n := by first | exact ab_ a dD | omega
 have P : cs[0].n ≤ 2 := by first | exact ab_ a dD | exact dT a
 refine WL.e <| W.sr <| WL.M rfl <| WL.O (.nck rfl) <| WL.O (.fa u74_ rfl s72_ dD rfl) <| WL.R (Rd.ld (g72_ _) rfl a8 rfl) <| WL.O (.ixm u72_ s99_ rfl rfl (X.isp (by first | omega | (simp only [List.length_cons, List.length_nil]; omega))) 0 rfl oO) <| WL.O (.fa u99_ rfl s3_ dD rfl) <| WL.R (Rd.ldc (g3_ _) rfl ((X.field (0) (by first | omega | (simp only [List.length_cons, List.length_nil]; omega)) 1 dD).trans rfl)) <| WL.Z rfl <| W.ret (W.r1 rfl rfl ?_)
 obtain ⟨q, i, -⟩ := k oO oO
 exact Ends.ok _ (whole_yes t oO oO oO) (by rw [i]) a9
 have ad := dF b
 refine WL.N b <| WL.N b <| WL.N b <| WL.N b <| WL.N b <| WL.N b <| WL.N b <| WL.O (.pkF rfl b rfl) <| WL.M rfl <| WL.N rfl <| WL.N rfl <| WL.N rfl <| WL.N rfl <| WL.N rfl <| WL.N rfl <| WL.N rfl <| WL.N rfl <| WL.O (.pkF rfl rfl rfl) <| WL.M rfl <| WL.N rfl <| WL.N rfl <| WL.N rfl <| WL.N rfl <| WL.N rfl <| WL.N rfl <| WL.N rfl <| WL.N rfl <| WL.O (.pkF rfl rfl rfl) <| WL.ce hB_ rfl rfl ((vw_want _ _)) (fun ap ak D x => ?_) (fun aq ak D x => ?_)
 have a0 := bt_ g (Below.mono x g.size)
 obtain ⟨l, rfl⟩ := want_err D
 exact pn_is (Ends.err 22 (whole_no fun o ho h1 h2 h3 => by
  subst ho; have m : cs.length = 1 := y; obtain ⟨q, i, -⟩ := k oO (by simp); simp only [List.getElem_cons_zero] at q i
  first
   | omega
   | (rw [decide_eq_false_iff_not] at l; omega)) a0)
 have aa := j.bl x
 have a1 := rb_ hr x (fun J => hr.lt J)
 have ab := btr g x
 have a := want_ok D
 have m : cs.length = 1 := by first | exact ab_ a dD | omega
 have t : args.length = 1 := by omega
 have K : cs[0].kind = 2 := by first | exact ab_ a dD | omega
 have L : 0 ≤ cs[0].n := by first | exact ab_ a dD | omega
 have P : cs[0].n ≤ 2 := by first | exact ab_ a dD | exact dT a
 refine WL.e <| W.sr <| WL.M rfl <| WL.O (.nck rfl) <| WL.O (.fa u74_ rfl s72_ dD rfl) <| WL.R (Rd.ld (g72_ _) rfl aa rfl) <| WL.O (.ixm u72_ s99_ rfl rfl (a1.isp (by first | omega | (simp only [List.length_cons, List.length_nil]; omega))) 0 rfl oO) <| WL.O (.fa u99_ rfl s3_ dD rfl) <| WL.R (Rd.ldc (g3_ _) rfl ((a1.field (0) (by first | omega | (simp only [List.length_cons, List.length_nil]; omega)) 1 dD).trans rfl)) <| WL.Z rfl <| W.ret (W.r1 rfl rfl ?_)
 obtain ⟨q, i, -⟩ := k oO oO
 exact Ends.ok _ (whole_yes t oO oO oO) (by rw [i]) ab
theorem m6_flat {l : List Int} (h : l.length = 6) : ivL.flat l = m6Y.V (m6L l) := by
 match l, h with
 | [a, b, c, d, e, f], _ => rfl
theorem vw_matrix (h : Vwr B fs w bv F V args) (ha : args.length ≤ 32) :
  Calls Tryz.prog 71 #[.pointer (some ⟨bv, 0, none⟩)] w (EndB w (matV args) fun m => .agg (m6V m).toArray) := by
 refine W.e func71 rfl ntmps71 bL ?_
 have g := br_ (w.heap.size) w
 refine W.sr <| WL.al z42_ rfl (fun E D i j k v => ?_)
 have c := uB g i k
 have u := bge i g.size
 refine WL.e <| W.sr <| WL.M rfl <| WL.cx hB_ rfl rfl ((vw_numV 6 (h.same c) ha oO)) (fun x y a b => ?_) (fun A G y a b => ?_)
 have f := bt_ c (Below.mono b c.size)
 exact pn_is (Ends.err x (by unfold matV; rw [a]; rfl) f)
 have q := j.bl b.1
 have s := btr c b.1
 obtain ⟨pn, cn, evn, t, -⟩ := b.2.row
 subst evn
 have d := (numsV_ok a).1
 refine WL.O (.s2a u42_ rfl (Nat.le_of_eq d.symm)) <| WL.R (Rd.ldR (L := ivL) (L' := m6Y) u42_ rfl isz42 t (m6L A) (m6_flat d) (by rw [d]; decide) rfl) <| WL.stL rfl rfl q isz42 rfl rfl (fun H l n C => ?_)
 have o := ub_ s oO n
 refine WL.e <| W.ret (W.retc1 rfl rfl (ldRow l u42_ rfl isz42)  ?_)
 exact Ends.ok _ (by unfold matV; rw [a]; rfl) rfl o
def colT (l : List Int) (n : Int) (t : Nat) : ColorV := ⟨n, if 0 < t then part1 (l.getD 0 0) else 0, if 1 < t then part1 (l.getD 1 0) else 0, if 2 < t then part1 (l.getD 2 0) else 0, if 3 < t then part1 (l.getD 3 0) else 0⟩
theorem colT_set (l : List Int) (n : Int) (i : Nat) (hi : i < 4) (hl : i < l.length) : (colorV (colT l n i)).toArray.setIfInBounds (1 + i) (.int .i64 (part1 l[i])) = (colorV (colT l n (i + 1))).toArray := by
 have e : l[i] = l.getD i 0 := by rw [List.getD_eq_getElem?_getD, List.getElem?_eq_getElem hl]; rfl
 rw [e]
 match i, hi with
 | 0, _ => rfl
 | 1, _ => rfl
 | 2, _ => rfl
 | 3, _ => rfl
theorem colT_all {l : List Int} {n : Nat} (h : l.length = n) (hn : n ≤ 4) : colT l n n = ⟨n, part1 (l.getD 0 0), part1 (l.getD 1 0), part1 (l.getD 2 0), part1 (l.getD 3 0)⟩ := by
 have z : ∀ i, n ≤ i → part1 (l.getD i 0) = 0 := fun i hi => by rw [List.getD_eq_getElem?_getD, List.getElem?_eq_none oO]; rfl
 have c : ∀ i, (if i < n then part1 (l.getD i 0) else 0) = part1 (l.getD i 0) := fun i => by
  split
  ·
   rfl
  ·
   rw [z i oO]
 unfold colT
 rw [c 0, c 1, c 2, c 3]
theorem vw_color (n : Nat) (h : Vwr B fs w bv F V args) (ha : args.length ≤ 32) (hn : n ≤ 4) :
  Calls Tryz.prog 69 #[.pointer (some ⟨bv, 0, none⟩), .int .i64 (n : Int)] w (EndB w (colorW args n) fun c => .agg (colorV c).toArray) := by
 refine W.e func69 rfl ntmps69 bL ?_
 have E := br_ (w.heap.size) w
 refine W.sr <| WL.al zeroValue37 rfl (fun b1 ak G m L ah => ?_)
 have H := uB E G L
 have ad := bge G E.size
 refine WL.e <| W.sr <| WL.M rfl <| ?_
 refine WL.O (.build (cs := (colorV (colT [] n 0)).toArray) rfl (by rw [blt37]; rfl)) ?_
 refine WL.al zeroValue37 rfl (fun y am q N s ai => ?_)
 have a4 := bgl q m.lt
 have a5 := m.un s a4
 have a6 := uB H q s
 have ae := bge q H.size
 refine WL.stL rfl rfl N isz37 rfl rfl (fun w7 P u aj => ?_)
 have a7 := a5.up u
 have l := ub_ a6 oO u
 refine WL.e <| W.seq <| W.sr <| WL.M rfl <| WL.M rfl <| WL.cx hB_ rfl rfl ((vw_numV n (h.same l) ha oO)) (fun a8 a9 f d => ?_) (fun g an a9 f d => ?_)
 have v := bt_ l (Below.mono d l.size)
 exact pn_is (Ends.err a8 (by unfold colorW; rw [f]; rfl) v)
 have Q := a7.bl d.1
 have T := P.bl d.1
 have U := btr l d.1
 obtain ⟨pn, cn, evn, J, aa, -⟩ := d.2.row
 subst evn
 have ab := (numsV_ok f).1
 have K := J.ofI
 have ao := K.lt
 refine WL.O (.lenS u39_ rfl) <| WL.M rfl <| WL.e <| W.b <| W.loop (α := Nat) (fun t => [(4, .pointer (some ⟨b1, 0, none⟩)), (5, .pointer (some ⟨y, 0, none⟩)), (12, .slice pn g.length cn), (13, .int .i64 (g.length : Int)), (14, .int .i64 (t : Int))]) (fun t w' => Below w.heap.size w w' ∧ Blk w' b1 (colorV (colT [] 0 0)).toArray 37 ∧ Blk w' y (colorV (colT g n t)).toArray 37 ∧ RowAt intV w' pn g ∧ t ≤ n) (fun t => n - t) (0) ⟨rfl, rfl, rfl, rfl, rfl, tT⟩ (⟨U, Q, T, K, nl_ _⟩) (fun t w1 hR => ?_)
 obtain ⟨i, rfl⟩ : ∃ i, i = t := ⟨t, rfl⟩
 obtain ⟨q1, q2, q3, X, q5⟩ := hR
 refine W.sr <| WL.O (.lss rfl rfl) <| WL.e <| W.seq <| W.cond rfl (fun x => ?_) (fun x => ?_)
 have Y := dT x
 refine W.k <| W.seq <| W.b <| W.sr <| WL.M rfl <| WL.O (.ixb u39_ s3_ rfl rfl (X.isp (by first | omega | exact nz_ _)) (i) (rfl) oO) <| WL.R (Rd.ldc (g3_ _) rfl (X.cells (i) oO)) <| WL.A rfl <| WL.Z rfl <| W.reg <| WL.M rfl <| WL.M rfl <| WL.O (.max2 rfl rfl) <| WL.O (.iis (part1 g[i]) (.min2 rfl rfl) (by unfold part1; (repeat' split) <;> omega)) <| WL.O (.fa u37_ rfl sizeOf35 dD rfl) <| WL.O (.ixr1 u35_ s3_ rfl rfl (i) (rfl) (Nat.lt_of_lt_of_le (show i < n by omega) hn)) <| WL.stC (o := 1 + i) ((colorV (colT g n (i + 1))).toArray) s3_ rfl (add_lit _ _ _) rfl (rfl) q3 ((by show 1 + i < 5; omega)) (colT_set g n i oO oO) (fun ac j a af => ?_)
 have j : Blk ac y _ _ := j
 have a : Upd y _ _ := a
 have a0 := q2.upd a oM
 have a1 := RowAt.upd X a (fun h0 => by have := aa _ (J.isp h0); omega)
 have a2 := ub_ q1 oO a
 refine WL.e <| W.reg <| WL.O (.iis (((i + 1 : Nat) : Int)) (.add rfl rfl (i64w oO)) oO) <| WL.M rfl <| WL.e <| ?_
 exact ⟨i + 1, ⟨rfl, rfl, rfl, rfl, rfl, tT⟩, ⟨a2, a0, j, a1, by omega⟩, by omega⟩
 have Y := dF x
 refine W.exit <| W.sr <| WL.R (Rd.ldA rfl q3 u37_ rfl isz37) <| WL.stL rfl rfl q2 isz37 rfl rfl (fun ap C D ag => ?_)
 have a3 := ub_ q1 oO D
 refine WL.e <| W.ret (W.retc1 rfl rfl (ldRow C u37_ rfl isz37)  ?_)
 obtain rfl : i = n := by omega
 exact Ends.ok _ (by unfold colorW; rw [f]; exact congrArg Except.ok (colT_all ab hn).symm) rfl a3
end
end
section
section
variable {P : Program} {n : Sh} {f : Fr}
theorem append_one_at {w : World} {B : Nat} {t ty e : TypeId} {i : TypeInfo} {z : Value} {by' : Nat} (ht : P.underlying t = some (.slice e)) (hi : P.info? e = some i) (hz : i.zero = some z) (hsize : i.size = 1) (hby : i.bytes = by') (hby2 : by' ≤ 16) (hzs : z.cells.size = 1)
    {v : Value} {m : Nat} {xs : List Value} (hown : w.ownsRow B e 1 v m xs) {a : Addr} {c : Nat} {u : Value} (hnews : ∀ j y, [u][j]? = some y → w.cell? (a.add j) = some y) (h1 : u.oneCell' = true) (hm : m ≤ 1000000000) {v' : Value} {w' : World}
    (hr : (Builtin.append_ #[t, t] ty #[v, .slice (some a) 1 c]).run P w = .ok v' w') : ∀ g, v'.ownBlock = some g → v.ownBlock = some g ∨ w.heap.size ≤ g := by
  have q : (m + 1) * by' ≤ (m + 1) * 16 := Nat.mul_le_mul_left _ hby2
  rcases hown.2 with ⟨rfl, rfl⟩ | ⟨g, cap, cur, rfl, s, hg, x, A, l, n⟩
  · have hx : xs = [] := List.eq_nil_of_length_eq_zero (by simpa using hown.1)
    subst hx
    obtain ⟨C, D, b, o, -, -⟩ := run_append_own (P := P) (w := w) w.heap.size t ty e i z 1 by' ht hi hz hsize hby hzs dD (.slice none 0 0) 0 [] (World.ownsRow_nil w w.heap.size e 1) a 1 c [u] rfl hnews (by simpa using h1) (by unfold maxLen; omega) oO (nr_ _)
    have he := hr.symm.trans b
    simp only [Result.ok.injEq] at he
    obtain ⟨rfl, rfl⟩ := he
    intro g hg
    exact .inr (o.lt g hg).1
  · by_cases hroom : m + 1 ≤ cap
    · have f : m * i.size + [u].length ≤ cur.size := by rw [hsize]; have : cur.size = cap * 1 := l; simp; omega
      have b := run_append_room (P := P) w t ty e i ht hi g m cap cur hg a 1 c [u] (by rw [hsize]; rfl) hnews (by simpa using h1) hroom f
      have he := hr.symm.trans b
      simp only [Result.ok.injEq] at he
      obtain ⟨rfl, rfl⟩ := he
      intro k hk
      exact .inl (by simpa [Value.ownBlock] using hk)
    · have d : ∀ j u, xs[j]? = some u → w.cell? ((⟨g, 0, none⟩ : Addr).add j) = some u := hown.cells (g := g) rfl
      have b := run_append_grow (P := P) w t ty e i z ht hi hz ⟨g, 0, none⟩ m cap xs (by rw [hsize]; exact hown.1) d a 1 c [u] (by rw [hsize]; rfl) hnews oO oO (growslice_fits oO (by rw [hby]; omega))
      have he := hr.symm.trans b
      simp only [Result.ok.injEq] at he
      obtain ⟨rfl, rfl⟩ := he
      intro k hk
      simp only [Value.ownBlock, Option.some.injEq] at hk
      exact .inr oO
theorem WL.appmf {ops : Array Oper} {Q : Exit → Fr → World → Prop} {w : World} {rest : List Oper} {d ty : Nat} {pos : String} {aft : Array Edge} {s x : Operand} {t e : TypeId} {B : Nat} {z v u : Value} {xs : List Value} {b c by' : Nat} {tb : TypeId}
    (ht : P.underlying t = some (.slice e)) (hi : (P.info? e).map (fun i => (i.zero, i.size, i.bytes)) = some (some z, 1, by')) (hby2 : Nat.ble by' 16 = true) (hzs : z.cells.size = 1)
    (hs : evo f s = some v) (hown : Own e B w v xs) (hx : evo f x = some (.slice (some ⟨b, 0, none⟩) 1 c)) (hb : Blk w b #[u] tb) (h1 : u.oneCell' = true)
    (hn : xs.length ≤ 1000000000) (hB : B ≤ w.heap.size) (hd : Nat.blt d n.n = true)
    (k : ∀ v' w', Own e B w' v' (xs ++ [u]) → Below B w w' → w.grownBy w' v.ownBlock → (∀ g, v'.ownBlock = some g → v.ownBlock = some g ∨ w.heap.size ≤ g) → WL P n ops Q rest ((d, v') :: f) w') :
    WL P n ops Q (⟨some d, .call ⟨.builtin .append, #[s, x], #[t, t]⟩, ty, pos, aft, none⟩ :: rest) f w := by
  cases hh : P.info? e with
  | none => rw [hh] at hi; cases hi
  | some i =>
    rw [hh] at hi; simp only [Option.map_some, Option.some.injEq, Prod.mk.injEq] at hi; obtain ⟨hz, a, o⟩ := hi; have m : by' ≤ 16 := by simpa using hby2
    have l : ∀ j y, [u][j]? = some y → w.cell? ((⟨b, 0, none⟩ : Addr).add j) = some y := fun j y hj => by
      have C : j = 0 := by
        rcases Nat.eq_zero_or_pos j with h | h
        · exact h
        · rw [List.getElem?_eq_none (by simp; omega)] at hj; cases hj
      subst C; simp only [List.getElem?_cons_zero, Option.some.injEq] at hj; subst hj; rw [add_zero_addr, hb.cell 0]; rfl
    have G : (xs.length + 1) * by' ≤ (xs.length + 1) * 16 := Nat.mul_le_mul_left _ m
    obtain ⟨v', w', q, D, A, -⟩ := run_append_own (P := P) (w := w) B t ty e i z 1 by' ht hh hz a o hzs dD v xs.length xs hown ⟨b, 0, none⟩ 1 c [u] rfl l (by simpa using h1) (by unfold maxLen; omega) oO hB
    have E := append_one_at (P := P) ht hh hz a o m hzs hown l h1 hn q; refine WL.run hd (w' := w') (v := v') (fun ρ hρ => ?_) (k v' w' ?_ ((br_ _ _).grown A hB fun k hk => (hown.lt k hk).1) A E)
    · unfold execOp
      simp only [resolve, invoke, builtin, Sem.run_bind, Sem.run_pure, Result.andThen_ok, List.map_toArray, List.map_cons, List.map_nil, hρ _ _ hs, hρ _ _ hx, q]
    · have F : (xs ++ [u]).length = xs.length + 1 := by simp
      unfold Own; rw [F]; exact D
end
end
section
abbrev VwE (B : Nat) (fs : Fcx) (bv : Nat) (F : Nat → Prop) (w : World) (res : Except Int Vw) (args : List PV) : Ending → World → Prop :=
 EndsV 30 res (fun V1 v w' => v = .tuple #[] ∧ ∃ F1, Vwr B fs w' bv F1 V1 args ∧ Chg F F1 w w') (fun w' => Below B w w')
theorem PRep.list {w : World} {Z : Nat → Prop} {x : PC} {o : PV} (h : PRep w Z x o) : ∃ cs, OwnM pcL 99 0 w (.slice x.lp x.ll x.lc) cs ∧ x.ll = cs.length ∧ RowM pcL w x.lp cs ∧ (0 < cs.length → Z (pA x.lp).block) ∧ ArR Z w cs (pvLs o) := by
 cases h with
 | mk x keys list cs hk hr hlen hsub =>
  obtain ⟨ho, hz⟩ := hr
  obtain ⟨p, c, e, a, -, -, -, b, -⟩ := ho.row
  simp only [Value.slice.injEq] at e
  obtain ⟨rfl, d, rfl⟩ := e
  exact ⟨cs, ho, d, a, fun f => hz _ (by rw [b, a.isp f]; rfl), hlen, hsub⟩
theorem posL_all : ∀ {l : List PV}, (∀ j (h : j < l.length), (numP l[j]).2 = true ∧ 0 ≤ (numP l[j]).1) → posL l = .ok (l.map fun o => (numP o).1)
 | [], _ => rfl
 | o :: r, h => by
  have h0 := h 0 (by simp)
  simp only [List.getElem_cons_zero] at h0
  have ih := posL_all (l := r) fun j hj => by have := h (j + 1) (by simpa using hj); simpa using this
  show (wantV ((numP o).2 && decide ((numP o).1 ≥ 0)) >>= fun _ => posL r >>= fun l => pure ((numP o).1 :: l)) = _
  rw [h0.1, decide_eq_true h0.2, ih]; rfl
theorem posL_no : ∀ {l : List PV} (j : Nat) (h : j < l.length), ((numP l[j]).2 && decide ((numP l[j]).1 ≥ 0)) = false → posL l = .error 22
 | o :: r, 0, _, h => by
  simp only [List.getElem_cons_zero] at h
  show (wantV ((numP o).2 && decide ((numP o).1 ≥ 0)) >>= fun _ => posL r >>= fun l => pure ((numP o).1 :: l)) = _
  rw [h]; rfl
 | o :: r, j + 1, hj, h => by
  have ih := posL_no (l := r) j (by simpa using hj) (by simpa using h)
  show (wantV ((numP o).2 && decide ((numP o).1 ≥ 0)) >>= fun _ => posL r >>= fun l => pure ((numP o).1 :: l)) = _
  rw [ih]
  cases hw : wantV ((numP o).2 && decide ((numP o).1 ≥ 0)) with
  | error k => rw [(want_err hw).2]; rfl
  | ok u => rfl
theorem dash_no {V : Vw} {args : List PV} (h : ∀ a b, args = [a, b] → pvK a = 6 → False) : dashV V args = .error 22 := by
 unfold dashV
 split
 ·
  next a b =>
  have : pvK a ≠ 6 := fun e => h a b rfl e
  rw [decide_eq_false this]; rfl
 ·
  rfl
def penD (p : PenV) (l : List Int) (ph : Int) : PenV := { p with pfDash := none, fDash := l, cfDash := 0, fPhase := ph }
theorem dash_1 {V : Vw} {args : List PV} (h : args.length = 2) (h6 : pvK args[0] = 6) :
  dashV V args = (do
   wantV ((numP args[1]).2 && decide ((numP args[1]).1 ≥ 0))
   let l ← posL (pvLs args[0])
   wantV (decide (l.length ≤ 11) && (decide (l.length = 0) || decide (sumL l > 0)))
   return { V with s := { V.s with pen := penD V.s.pen l (numP args[1]).1 } }) := by
 match args, h with
 | [a, b], _ =>
  have h6 : pvK a = 6 := h6
  show (wantV (decide (pvK a = 6)) >>= fun _ => _) = _
  rw [decide_eq_true h6]; rfl
theorem sumL_snoc (l : List Int) (x : Int) : sumL (l ++ [x]) = sumL l + x := by unfold sumL; rw [List.foldl_append]; rfl
theorem numP_le {o : PV} (h : (numP o).2 = true) : (numP o).1 ≤ 2147483647 := (fitsI (numP_fits h)).2
def numsX (cs : List PC) (i : Nat) : List Int := (cs.take i).map fun x => (numX x.kind x.n).1
theorem numsX_snoc {cs : List PC} {i : Nat} (h : i < cs.length) : numsX cs (i + 1) = numsX cs i ++ [(numX cs[i].kind cs[i].n).1] := by
 unfold numsX; rw [List.take_succ_eq_append_getElem h, List.map_append]; rfl
theorem numsX_len {cs : List PC} {i : Nat} (h : i ≤ cs.length) : (numsX cs i).length = i := by unfold numsX; rw [List.length_map, List.length_take]; omega
theorem numX_le {k n : Int} (h : (numX k n).2 = true) : (numX k n).1 ≤ 2147483647 := numP_le (o := .mk k n [] [] []) h
theorem sumX_le {cs : List PC} : ∀ {i : Nat}, i ≤ cs.length → (∀ j (h : j < cs.length), j < i → (numX cs[j].kind cs[j].n).2 = true ∧ 0 ≤ (numX cs[j].kind cs[j].n).1) → 0 ≤ sumL (numsX cs i) ∧ sumL (numsX cs i) ≤ 2147483647 * i
 | 0, _, _ => by unfold numsX; rw [List.take_zero]; decide
 | i + 1, h, hj => by
  have ih := sumX_le (i := i) oO fun j h1 h2 => hj j h1 oO
  have h1 := hj i oO oO
  have h2 := numX_le h1.1
  rw [numsX_snoc oO, sumL_snoc]
  omega
section
variable {B : Nat} {fs : Fcx} {w : World} {bv : Nat} {F : Nat → Prop} {V : Vw} {args : List PV}
theorem Vwr.base (h : Vwr B fs w bv F V args) : B ≤ bv ∧ B ≤ w.heap.size := by
 obtain ⟨H, vp, its, hs, cs, rfl, hO, -⟩ := h.mem
 exact ⟨hO.lbv, hO.pth.base⟩
set_option maxHeartbeats 1600000 in
theorem vw_dash (h : Vwr B fs w bv F V args) (ha : args.length ≤ 32) (hb : ∀ a ∈ args, (pvLs a).length ≤ 65535) :
  Calls Tryz.prog 68 #[.pointer (some ⟨bv, 0, none⟩)] w (VwE B fs bv F w (dashV V args) args) := by
 obtain ⟨cq, cr⟩ := h.base
 obtain ⟨H, vp, its, hs, cs, rfl, hO, hR⟩ := h.mem
 have a4 := hO.blk
 have aL := hR.ar
 have ct := hO.oa
 obtain ⟨s, fo, sa, pa, cl, it, lo, te, li, ar, itv⟩ := H
 obtain ⟨p, c, e, hr, -⟩ := ct.row
 simp only at e
 subst e
 have aM := aL.1
 have ax := aL.kn
 have d3 := hr.lt
 have cX := a4.lt
 have K : ∀ w1, KeepB w.heap.size [bv] w w1 → Below B w w1 := fun w1 hK => hK.below cr (by simpa using cq)
 refine W.e func68 rfl ntmps68 bL ?_
 have aE := KeepB.refl w.heap.size ([bv]) w
 refine W.cut (α := Unit) (fun t => [(0, .pointer (some ⟨bv, 0, none⟩))]) (fun t w' => KeepB w.heap.size [bv] w w' ∧ Blk w' bv (vwC ⟨s, fo, sa, pa, cl, it, lo, te, li, .slice p cs.length c, itv⟩).toArray 74 ∧ RowM pcL w' p cs ∧ ∃ a5 : cs.length = 2, cs[0].kind = 6) ?_ (fun t w1 hR => ?_)
 refine W.reg <| WL.M rfl <| WL.O (.nck rfl) <| WL.O (.fa u74_ rfl s72_ dD rfl) <| WL.R (Rd.ld (g72_ _) rfl a4 rfl) <| WL.O (.lenS u72_ rfl) <| WL.O (.eql rfl rfl) <| WL.M rfl <| WL.gd rfl rfl rfl (fun u => ?_) (fun u => ?_)
 have cu := dT u
 refine WL.M rfl <| WL.Y u <| WL.O (.nck rfl) <| WL.Y u <| WL.O (.fa u74_ rfl s72_ dD rfl) <| WL.Y u <| WL.R (Rd.ld (g72_ _) rfl a4 rfl) <| WL.Y u <| WL.O (.ixm u72_ s99_ rfl rfl (hr.isp (by first | omega | (simp only [List.length_cons, List.length_nil]; omega))) 0 rfl oO) <| WL.Y u <| WL.O (.fa u99_ rfl s3_ dD rfl) <| WL.Y u <| WL.R (Rd.ldc (g3_ _) rfl ((hr.field (0) (by first | omega | (simp only [List.length_cons, List.length_nil]; omega)) 0 dD).trans rfl)) <| WL.Y u <| WL.O (.eql rfl rfl) <| WL.O (.pkT rfl u rfl) <| WL.ce hB_ rfl rfl ((vw_want _ _)) (fun k4 w2 aB d => ?_) (fun a3 w2 aB d => ?_)
 have b6 := kB aE d
 obtain ⟨v, rfl⟩ := want_err aB
 exact pn_is (ee_ 22 (dash_no fun a b ho h6 => by
  subst ho; have a5 : cs.length = 2 := aM; obtain ⟨q1, q2, -⟩ := ax 0 oO (by simp); simp only [List.getElem_cons_zero] at q1 q2
  first
   | omega
   | (rw [decide_eq_false_iff_not] at v; omega)) (K _ b6))
 have cv := a4.bl d
 have cw := rb_ hr d (fun f => hr.lt f)
 have cy := kB aE d
 have d := want_ok aB
 have a5 : cs.length = 2 := by first | exact ab_ d dD | omega
 have aF : cs[0].kind = 6 := by first | exact ab_ d dD | exact dT d
 refine WL.e <| ?_
 exact ⟨(), ⟨rfl, tT⟩, cy, cv, cw, a5, aF⟩
 have cu := dF u
 refine WL.N u <| WL.N u <| WL.N u <| WL.N u <| WL.N u <| WL.N u <| WL.N u <| WL.O (.pkF rfl u rfl) <| WL.ce hB_ rfl rfl ((vw_want _ _)) (fun d4 w8 aC ay => ?_) (fun a9 w8 aC ay => ?_)
 have b7 := kB aE ay
 obtain ⟨v, rfl⟩ := want_err aC
 exact pn_is (ee_ 22 (dash_no fun a b ho h6 => by
  subst ho; have a5 : cs.length = 2 := aM; obtain ⟨q1, q2, -⟩ := ax 0 oO (by simp); simp only [List.getElem_cons_zero] at q1 q2
  first
   | omega
   | (rw [decide_eq_false_iff_not] at v; omega)) (K _ b7))
 have bw := a4.bl ay
 have bx := rb_ hr ay (fun f => hr.lt f)
 have bz := kB aE ay
 have d := want_ok aC
 have a5 : cs.length = 2 := by first | exact ab_ d dD | omega
 have aF : cs[0].kind = 6 := by first | exact ab_ d dD | exact dT d
 refine WL.e <| ?_
 exact ⟨(), ⟨rfl, tT⟩, bz, bw, bx, a5, aF⟩
 obtain ⟨j1, j2, j3, a5, aF⟩ := hR
 have cz : args.length = 2 := by omega
 have hD := dash_1 (V := V) cz (by have := (ax 0 oO oO).1; omega)
 have cA : numX cs[1].kind cs[1].n = numP args[1] := by rw [← numX_P, (ax 1 oO oO).1, (ax 1 oO oO).2.1]
 generalize numP args[1] = ph at *
 obtain ⟨ph, phB⟩ := ph
 simp only at hD
 refine W.sr <| WL.M rfl <| WL.O (.nck rfl) <| WL.O (.fa u74_ rfl s72_ dD rfl) <| WL.R (Rd.ld (g72_ _) rfl j2 rfl) <| WL.O (.ixm u72_ s99_ rfl rfl (j3.isp (by first | omega | (simp only [List.length_cons, List.length_nil]; omega))) 1 rfl oO) <| WL.R (Rd.ldS u99_ rfl isz99 j3 (1) (by first | omega | (simp only [List.length_cons, List.length_nil]; omega)) rfl) <| WL.c1 hB_ rfl rfl ((plex_Number cs[1] _)) (fun d5 aD => ?_)
 have aN := j2.bl aD
 have af := rb_ j3 aD (fun f => j3.lt f)
 have ag := kB j1 aD
 rw [cA]
 refine WL.M rfl <| WL.O (.ext rfl rfl) <| WL.O (.ext rfl rfl) <| WL.A rfl <| WL.Z rfl <| W.cut (α := Unit) (fun t => [(0, .pointer (some ⟨bv, 0, none⟩)), (2, .int .i64 ph)]) (fun t w' => KeepB w.heap.size [bv] w w' ∧ Blk w' bv (vwC ⟨s, fo, sa, pa, cl, it, lo, te, li, .slice p cs.length c, itv⟩).toArray 74 ∧ RowM pcL w' p cs ∧ phB = true ∧ 0 ≤ ph) ?_ (fun t w1 hR => ?_)
 refine W.reg <| WL.M rfl <| WL.M rfl <| WL.gd rfl rfl rfl (fun az => ?_) (fun az => ?_)
 refine WL.M rfl <| WL.Y az <| WL.O (.geq rfl rfl) <| WL.O (.pkT rfl az rfl) <| WL.ce hB_ rfl rfl ((vw_want _ _)) (fun d6 cB ah a6 => ?_) (fun d7 cB ah a6 => ?_)
 have aO := kB ag a6
 obtain ⟨v, rfl⟩ := want_err ah
 exact pn_is (ee_ 22 (by rw [hD]; exact bind_err (by first | (rw [show (phB && decide (ph ≥ 0)) = false by simp_all]; rfl))) (K _ aO))
 have bA := aN.bl a6
 have bB := rb_ af a6 (fun f => af.lt f)
 have bC := kB ag a6
 refine WL.e <| ?_
 have d := want_ok ah
 have P : phB = true := by first | exact ab_ d dD | assumption
 have Q : 0 ≤ ph := by first | exact ab_ d dD | exact dT d
 exact ⟨(), ⟨rfl, rfl, tT⟩, bC, bA, bB, P, Q⟩
 refine WL.N az <| WL.O (.pkF rfl az rfl) <| WL.ce hB_ rfl rfl ((vw_want _ _)) (fun d8 cC ai a7 => ?_) (fun d9 cC ai a7 => ?_)
 have aP := kB ag a7
 obtain ⟨v, rfl⟩ := want_err ai
 exact pn_is (ee_ 22 (by rw [hD]; exact bind_err (by first | (rw [show (phB && decide (ph ≥ 0)) = false by simp_all]; rfl))) (K _ aP))
 have bD := aN.bl a7
 have bE := rb_ af a7 (fun f => af.lt f)
 have bG := kB ag a7
 refine WL.e <| ?_
 have d := want_ok ai
 have P : phB = true := by first | exact ab_ d dD | assumption
 have Q : 0 ≤ ph := by first | exact ab_ d dD | exact dT d
 exact ⟨(), ⟨rfl, rfl, tT⟩, bG, bD, bE, P, Q⟩
 obtain ⟨j4, j5, j6, P, Q⟩ := hR
 obtain ⟨ce, da, db, bu, aQ, x⟩ := (aL.2 0 oO oO).list
 have bH := rk_ bu j4 (fun f => ⟨(aQ f).1, fun hm => (aQ f).2.1 (.inl (by simpa using hm))⟩)
 have bI := bu.lt
 have cY : 0 < ce.length → (pA cs[0].lp).block ≠ bv := fun f e => (aQ f).2.1 (.inl e)
 have dc : ce.length ≤ 65535 := by have := x.1; have := hb _ (List.getElem_mem (by omega : 0 < args.length)); omega
 rw [P, decide_eq_true Q, bind_ok (show wantV (true && true) = .ok () from rfl)] at hD
 refine W.sr <| WL.Z rfl <| W.sr <| WL.Z rfl <| W.seq <| W.sr <| WL.M rfl <| WL.O (.nck rfl) <| WL.O (.fa u74_ rfl s72_ dD rfl) <| WL.R (Rd.ld (g72_ _) rfl j5 rfl) <| WL.O (.ixm u72_ s99_ rfl rfl (j6.isp (by first | omega | (simp only [List.length_cons, List.length_nil]; omega))) 0 rfl oO) <| WL.O (.fa u99_ rfl s72_ dD rfl) <| WL.R (Rd.ldc (g72_ _) rfl ((j6.field (0) (by first | omega | (simp only [List.length_cons, List.length_nil]; omega)) 4 dD).trans rfl)) <| WL.O (.lenS u72_ rfl) <| WL.M rfl <| WL.e <| W.b <| W.loop (α := Value × Nat) (fun t => [(0, .pointer (some ⟨bv, 0, none⟩)), (2, .int .i64 ph), (4, t.1), (5, .int .i64 (sumL (numsX ce t.2))), (49, .slice cs[0].lp cs[0].ll cs[0].lc), (50, .int .i64 (cs[0].ll : Int)), (51, .int .i64 (t.2 : Int))]) (fun t w' => KeepB w.heap.size [bv] w w' ∧ Blk w' bv (vwC ⟨s, fo, sa, pa, cl, it, lo, te, li, .slice p cs.length c, itv⟩).toArray 74 ∧ RowM pcL w' cs[0].lp ce ∧ Own 3 w.heap.size w' t.1 ((numsX ce t.2).map intV) ∧ t.2 ≤ ce.length ∧ ∀ j (h : j < ce.length), j < t.2 → (numX ce[j].kind ce[j].n).2 = true ∧ 0 ≤ (numX ce[j].kind ce[j].n).1) (fun t => ce.length - t.2) ((_, 0)) ⟨rfl, rfl, rfl, rfl, rfl, rfl, rfl, tT⟩ (⟨j4, j5, bH, Own.nil _ _ _, nl_ _, fun j _ h => ab_ h oO⟩) (fun t w1 hR => ?_)
 obtain ⟨⟨sv, i⟩, cD⟩ : ∃ i, i = t := ⟨t, rfl⟩
 subst cD
 obtain ⟨q1, q2, q3, q4, q5, q6⟩ := hR
 simp only at q4 q5 q6
 have aj : w.heap.size ≤ w1.heap.size := q1.size
 have bJ := Own.ltV q4
 have bK := sumX_le q5 q6
 refine W.sr <| WL.O (.lss rfl rfl) <| WL.e <| W.seq <| W.cond rfl (fun aR => ?_) (fun aR => ?_)
 have bM := dT aR
 refine W.k <| W.seq <| W.b <| W.sr <| WL.O (.ixm u72_ s99_ rfl rfl (q3.isp (by first | omega | (simp only [List.length_cons, List.length_nil]; omega))) (i) (rfl) oO) <| WL.R (Rd.ldS u99_ rfl isz99 q3 (i) (by first | omega | (simp only [List.length_cons, List.length_nil]; omega)) rfl) <| WL.al z99_ rfl (fun dd cZ ak b8 T cP => ?_)
 have b9 := nt_ aj T.size
 have bN := Own.new q4 ak T
 have bO := bgl ak q2.lt
 have bP := q2.un T bO
 have aG := fun f => ak ▸ q3.lt f
 have bQ := RowM.upd q3 T (fun f => nn_ (aG f))
 have aS := bge ak q1.size
 have bR := kt_ q1 (kn_ T aS)
 refine WL.stL rfl rfl b8 isz99 rfl rfl (fun de ba X cQ => ?_)
 have bb := nt_ b9 X.size
 have bS := Own.upd bN X ((fun g hg e => by have := (bJ g hg); omega))
 have bT := bP.up X
 have aT := RowM.upd bQ X (fun f => nn_ (aG f))
 have bU := kU bR X
 refine WL.e <| W.sr <| WL.R (Rd.ldA rfl ba u99_ rfl isz99) <| WL.c1 hB_ rfl rfl ((plex_Number ce[i] _)) (fun df a8 => ?_)
 have aH := nt_ bb a8.size
 have aU := Own.below bS a8
 have aV := bT.bl a8
 have am := rb_ aT a8 (fun f => aT.lt f)
 have an := kB bU a8
 refine WL.M rfl <| WL.O (.ext rfl rfl) <| WL.O (.ext rfl rfl) <| WL.A rfl <| WL.Z rfl <| W.cut (α := Unit) (fun t => [(0, .pointer (some ⟨bv, 0, none⟩)), (2, .int .i64 ph), (4, sv), (5, .int .i64 (sumL (numsX ce i))), (8, .int .i64 (numX ce[i].kind ce[i].n).1), (49, .slice cs[0].lp cs[0].ll cs[0].lc), (50, .int .i64 (cs[0].ll : Int)), (51, .int .i64 (i : Int))]) (fun t w' => KeepB w.heap.size [bv] w w' ∧ Blk w' bv (vwC ⟨s, fo, sa, pa, cl, it, lo, te, li, .slice p cs.length c, itv⟩).toArray 74 ∧ RowM pcL w' cs[0].lp ce ∧ Own 3 w.heap.size w' sv ((numsX ce i).map intV) ∧ (numX ce[i].kind ce[i].n).2 = true ∧ 0 ≤ (numX ce[i].kind ce[i].n).1) ?_ (fun t w1 hR => ?_)
 refine W.reg <| WL.M rfl <| WL.M rfl <| WL.gd rfl rfl rfl (fun aA => ?_) (fun aA => ?_)
 refine WL.M rfl <| WL.Y aA <| WL.O (.geq rfl rfl) <| WL.O (.pkT rfl aA rfl) <| WL.ce hB_ rfl rfl ((vw_want _ _)) (fun dg cE ao G => ?_) (fun dh cE ao G => ?_)
 have aW := kB an G
 obtain ⟨v, rfl⟩ := want_err ao
 have E : i < (pvLs args[0]).length := by have := x.1; omega
 have aX : numP (pvLs args[0])[i] = numX ce[i].kind ce[i].n := by rw [← numX_P, (x.kn i oO E).1, (x.kn i oO E).2.1]
 exact pn_is (ee_ 22 (by rw [hD]; exact bind_err (posL_no i E (by rw [aX]; simp_all))) (K _ aW))
 have cR := nt_ aH G.size
 have bV := Own.below aU G
 have bW := aV.bl G
 have bX := rb_ am G (fun f => am.lt f)
 have bY := kB an G
 refine WL.e <| ?_
 have d := want_ok ao
 have P : (numX ce[i].kind ce[i].n).2 = true := by first | exact ab_ d dD | assumption
 have Q : 0 ≤ (numX ce[i].kind ce[i].n).1 := by first | exact ab_ d dD | exact dT d
 exact ⟨(), ⟨rfl, rfl, rfl, rfl, rfl, rfl, rfl, rfl, tT⟩, bY, bW, bX, bV, P, Q⟩
 refine WL.N aA <| WL.O (.pkF rfl aA rfl) <| WL.ce hB_ rfl rfl ((vw_want _ _)) (fun di cF ap J => ?_) (fun dj cF ap J => ?_)
 have aY := kB an J
 obtain ⟨v, rfl⟩ := want_err ap
 have E : i < (pvLs args[0]).length := by have := x.1; omega
 have aX : numP (pvLs args[0])[i] = numX ce[i].kind ce[i].n := by rw [← numX_P, (x.kn i oO E).1, (x.kn i oO E).2.1]
 exact pn_is (ee_ 22 (by rw [hD]; exact bind_err (posL_no i E (by rw [aX]; simp_all))) (K _ aY))
 have cS := nt_ aH J.size
 have bZ := Own.below aU J
 have b' := aV.bl J
 have c0 := rb_ am J (fun f => am.lt f)
 have c2 := kB an J
 refine WL.e <| ?_
 have d := want_ok ap
 have P : (numX ce[i].kind ce[i].n).2 = true := by first | exact ab_ d dD | assumption
 have Q : 0 ≤ (numX ce[i].kind ce[i].n).1 := by first | exact ab_ d dD | exact dT d
 exact ⟨(), ⟨rfl, rfl, rfl, rfl, rfl, rfl, rfl, rfl, tT⟩, c2, b', c0, bZ, P, Q⟩
 obtain ⟨n1, n2, n3, n4, n5, n6⟩ := hR
 have bc : w.heap.size ≤ w1.heap.size := n1.size
 have c4 := Own.ltV n4
 have c' := numX_le n5
 refine W.sr <| WL.M rfl <| WL.M rfl <| WL.bsl (ps := _) u39_ s3_ z3_ rfl rfl rfl rfl rfl pR rfl (fun dk d0 aq bd a0 cT => ?_)
 have aI := nt_ bc a0.size
 have c5 := Own.new n4 aq a0
 have c6 := bgl aq n2.lt
 have c7 := n2.un a0 c6
 have be := fun f => aq ▸ n3.lt f
 have c8 := RowM.upd n3 a0 (fun f => nn_ (be f))
 have aZ := bge aq n1.size
 have a' := kt_ n1 (kn_ a0 aZ)
 refine WL.appmf u39_ inf3 rfl rfl rfl c5 rfl bd rfl (by rw [List.length_map, numsX_len q5]; omega) (aI) rfl (fun dl dm bf au bg cU => ?_)
 have c9 := c7.below au oO
 have ca := rb_ c8 au bI
 have cb := kt_ a' (KeepB.of_grown bg (fun g hg => .inr (c4 g hg).1) a'.size)
 have cV := nt_ aI au.size
 refine WL.Z rfl <| W.reg <| WL.M rfl <| WL.M rfl <| WL.O (.iis (sumL (numsX ce (i + 1))) (.add rfl rfl (i64w oO)) (by rw [numsX_snoc oO, sumL_snoc])) <| WL.Z rfl <| W.reg <| WL.O (.iis (((i + 1 : Nat) : Int)) (.add rfl rfl (i64w oO)) oO) <| WL.M rfl <| WL.e <| ?_
 exact ⟨(_, i + 1), ⟨rfl, rfl, rfl, rfl, rfl, rfl, rfl, tT⟩, ⟨cb, c9, ca, by rw [numsX_snoc oO, List.map_append]; exact bf, by ((try simp only) <;> omega), fun j h hj => by
  rcases Nat.lt_succ_iff_lt_or_eq.1 hj with h2 | rfl; exact q6 j h h2; exact ⟨n5, n6⟩⟩, by ((try simp only) <;> omega)⟩
 have bM := dF aR
 have E : i = ce.length := by omega
 have hq4L : (numsX ce i) = (pvLs args[0]).map fun o => (numP o).1 := by
  have := congrArg (List.map Prod.fst) x.nums; rw [List.map_map, List.map_map] at this; subst E; unfold numsX; rw [List.take_length]; exact this
 have hP := posL_all (l := pvLs args[0]) (fun j hj => by
  have b0 : j < ce.length := by have := x.1; omega
  rw [show numP (pvLs args[0])[j] = numX ce[j].kind ce[j].n by rw [← numX_P, (x.kn j b0 hj).1, (x.kn j b0 hj).2.1]]; exact q6 j b0 oO)
 rw [← hq4L] at hP
 rw [bind_ok hP] at hD
 obtain ⟨L, hL⟩ : ∃ L, L = numsX ce i := ⟨_, rfl⟩
 have dn : L.length = ce.length := by rw [hL, numsX_len q5]; exact E
 have dp : sumL L = sumL (numsX ce i) := by rw [hL]
 rw [← hL] at hD bK q4
 obtain ⟨po, co, cc, dq, -⟩ := (OwnM.ofI q4).row
 subst cc
 refine W.exit <| W.cut (α := Unit) (fun t => [(0, .pointer (some ⟨bv, 0, none⟩)), (2, .int .i64 ph), (4, .slice po L.length co)]) (fun t w' => KeepB w.heap.size [bv] w w' ∧ Blk w' bv (vwC ⟨s, fo, sa, pa, cl, it, lo, te, li, .slice p cs.length c, itv⟩).toArray 74 ∧ OwnM ivL 3 w.heap.size w' (.slice po L.length co) L ∧ (decide (L.length ≤ 11) && (decide (L.length = 0) || decide (sumL L > 0))) = true) ?_ (fun t w1 hR => ?_)
 refine W.reg <| WL.M rfl <| WL.O (.lenS u39_ rfl) <| WL.O (.leq rfl rfl) <| WL.M rfl <| WL.gd rfl rfl rfl (fun q => ?_) (fun q => ?_)
 have cd := dT q
 refine WL.M rfl <| WL.Y q <| WL.O (.lenS u39_ rfl) <| WL.Y q <| WL.O (.eql rfl rfl) <| WL.Y q <| WL.M rfl <| WL.gd rfl rfl rfl (fun aa => ?_) (fun aa => ?_)
 have cf := dF aa
 refine WL.M rfl <| WL.Y aa <| WL.O (.gtr rfl rfl) <| WL.Y q <| WL.O (.pkF rfl aa rfl) <| WL.O (.pkT rfl q rfl) <| WL.ce hB_ rfl rfl ((vw_want _ _)) (fun dr cG av a1 => ?_) (fun ds cG av a1 => ?_)
 have b1 := kB q1 a1
 obtain ⟨v, rfl⟩ := want_err av
 exact pn_is (ee_ 22 (by rw [hD]; exact bind_err (by
  have hx : ¬ (decide (L.length ≤ 11) && (decide (L.length = 0) || decide (sumL L > 0))) = true := fun hh => by
   simp only [Bool.and_eq_true, Bool.or_eq_true, decide_eq_true_eq] at hh
   (simp only [decide_eq_false_iff_not] at v; omega)
  rw [Bool.eq_false_iff.2 hx]; rfl)) (K _ b1))
 have cW := nt_ aj a1.size
 have cg := Own.below q4 a1
 have ci := q2.bl a1
 have cj := kB q1 a1
 have ab : (decide (L.length ≤ 11) && (decide (L.length = 0) || decide (sumL L > 0))) = true := by
  have f := want_ok av
  (simp only [Bool.and_eq_true, Bool.or_eq_true, decide_eq_true_eq] at f ⊢; omega)
 refine WL.e <| ?_
 exact ⟨(), ⟨rfl, rfl, rfl, tT⟩, cj, ci, OwnM.ofI cg, ab⟩
 have cf := dT aa
 refine WL.N aa <| WL.Y q <| WL.O (.pkT rfl aa rfl) <| WL.O (.pkT rfl q rfl) <| WL.ce hB_ rfl rfl ((vw_want _ _)) (fun dt cH aw a2 => ?_) (fun du cH aw a2 => ?_)
 have b2 := kB q1 a2
 obtain ⟨v, rfl⟩ := want_err aw
 exact pn_is (ee_ 22 (by rw [hD]; exact bind_err (by
  have hx : ¬ (decide (L.length ≤ 11) && (decide (L.length = 0) || decide (sumL L > 0))) = true := fun hh => by
   simp only [Bool.and_eq_true, Bool.or_eq_true, decide_eq_true_eq] at hh; exact ab_ v dD
  rw [Bool.eq_false_iff.2 hx]; rfl)) (K _ b2))
 have cI := nt_ aj a2.size
 have ck := Own.below q4 a2
 have bh := q2.bl a2
 have bi := kB q1 a2
 have ab : (decide (L.length ≤ 11) && (decide (L.length = 0) || decide (sumL L > 0))) = true := by
  have f := want_ok aw
  (simp only [Bool.and_eq_true, Bool.or_eq_true, decide_eq_true_eq] at f ⊢; omega)
 refine WL.e <| ?_
 exact ⟨(), ⟨rfl, rfl, rfl, tT⟩, bi, bh, OwnM.ofI ck, ab⟩
 have cd := dF q
 refine WL.N q <| WL.N q <| WL.N q <| WL.U <| WL.U <| WL.N q <| WL.O (.pkF rfl q rfl) <| WL.ce hB_ rfl rfl ((vw_want _ _)) (fun d1 cm ac D => ?_) (fun d2 cm ac D => ?_)
 have aK := kB q1 D
 obtain ⟨v, rfl⟩ := want_err ac
 exact pn_is (ee_ 22 (by rw [hD]; exact bind_err (by
  have hx : ¬ (decide (L.length ≤ 11) && (decide (L.length = 0) || decide (sumL L > 0))) = true := fun hh => by
   simp only [Bool.and_eq_true, Bool.or_eq_true, decide_eq_true_eq] at hh
   omega
  rw [Bool.eq_false_iff.2 hx]; rfl)) (K _ aK))
 have cJ := nt_ aj D.size
 have bj := Own.below q4 D
 have bk := q2.bl D
 have bm := kB q1 D
 have ab : (decide (L.length ≤ 11) && (decide (L.length = 0) || decide (sumL L > 0))) = true := by
  have f := want_ok ac; exact ab_ f dD
 refine WL.e <| ?_
 exact ⟨(), ⟨rfl, rfl, rfl, tT⟩, bm, bk, OwnM.ofI bj, ab⟩
 obtain ⟨m1, m2, m3, ab⟩ := hR
 have b3 := m3.lt
 have bn : w.heap.size ≤ w1.heap.size := m1.size
 rw [ab, bind_ok (show wantV true = .ok () from rfl)] at hD
 refine W.reg <| WL.M rfl <| WL.M rfl <| WL.M rfl <| WL.M rfl <| WL.O (.nck rfl) <| WL.O (.fa u74_ rfl s68_ dD rfl) <| WL.O (.fa u68_ rfl s41_ dD rfl) <| WL.O (.fa u41_ rfl s39_ dD rfl) <| WL.stC (o := 20) ((vwC ⟨{ s with pen := { s.pen with pfDash := po, fDash := L, cfDash := co } }, fo, sa, pa, cl, it, lo, te, li, .slice p cs.length c, itv⟩).toArray) s39_ rfl (rfl) rfl (rfl) m2 bL (rfl) (fun cn ad y cK => ?_)
 have ad : Blk cn bv _ _ := ad
 have y : Upd bv _ _ := y
 have b4 := nt_ bn y.size
 have bo := ou_ m3 y ((fun g hg e => by have := (b3 g hg); have := a4.lt; omega))
 have bp := kU m1 y
 refine WL.O (.nck rfl) <| WL.O (.fa u74_ rfl s68_ dD rfl) <| WL.O (.fa u68_ rfl s41_ dD rfl) <| WL.O (.fa u41_ rfl s3_ dD rfl) <| WL.stC (o := 21) ((vwC ⟨{ s with pen := { s.pen with pfDash := po, fDash := L, cfDash := co, fPhase := ph } }, fo, sa, pa, cl, it, lo, te, li, .slice p cs.length c, itv⟩).toArray) s3_ rfl (rfl) rfl (rfl) ad bL (rfl) (fun b5 ae C cL => ?_)
 have ae : Blk b5 bv _ _ := ae
 have C : Upd bv _ _ := C
 have cM := nt_ b4 C.size
 have bq := ou_ bo C ((fun g hg e => by have := (b3 g hg); have := a4.lt; omega))
 have bt := kU bp C
 refine WL.e <| W.norm (W.ret0 rfl ?_)
 have aJ := bq
 refine eo_ _ _ hD rfl ⟨rfl, Vwr.set1 hO bt ae (fun m => ?_)⟩
 have hz : ∀ g, (Value.slice po L.length co).ownBlock = some g → Frz fs.c (VwF bv _ vp) b5 g := fun g hg => ⟨(aJ.lt g hg).2, fun hf => by have := (hO.inn g hf).2; have := (aJ.lt g hg).1; omega, by have := hR.cx; have := (aJ.lt g hg).1; omega⟩
 obtain ⟨p3, c3, e3, cN⟩ := Row3.own aJ hz
 cases e3
 have hq := hR.mv m
 have cO := hq.st.pen
 exact { hq with st := { hq.st with pen := (by rw [← cO]; rfl), penr := cN } }
end
end
section
theorem getD0 {l : List Int} {n i : Nat} (h : l.length = n) (hi : i < n) : l.getD i 0 = l[i]'oO := by
 rw [List.getD_eq_getElem?_getD, List.getElem?_eq_getElem oO]; rfl
section
variable {B : Nat} {fs : Fcx} {w : World} {bv : Nat} {F : Nat → Prop} {V : Vw} {args : List PV}
theorem vw_pens (op : List UInt8) (h : Vwr B fs w bv F V args) (ha : args.length ≤ 32) (hb : ∀ a ∈ args, (pvLs a).length ≤ 65535) :
  Calls Tryz.prog 48 #[.pointer (some ⟨bv, 0, none⟩), .string (bs op)] w (VwE B fs bv F w (pensV V args op) args) := by
 obtain ⟨az, aA⟩ := h.base
 have h0 := h
 obtain ⟨H, vp, its, hs, cs, rfl, hO, hR⟩ := h.mem
 have N := hO.blk
 obtain ⟨s, fo, sa, pa, cl, it, lo, te, li, ar, itv⟩ := H
 have a' := N.lt
 have i : ∀ w1, KeepB w.heap.size [bv] w w1 → Below B w w1 := fun w1 hK => hK.below aA (by simpa using az)
 refine W.e func48 rfl ntmps48 bL ?_
 have c := KeepB.refl w.heap.size ([bv]) w
 refine W.sr <| WL.M rfl <| WL.e <| W.b <| W.sr <| WL.O (.eqs rfl rfl) <| WL.Z rfl <| W.cond rfl (fun h1 => ?_) (fun h1 => ?_)
 have aB := dT h1
 have hD : pensV V args op = (do let l ← numsV args 1; wantV (decide (l.getD 0 0 ≥ 0)); return { V with s := { V.s with pen := { V.s.pen with fWidth := l.getD 0 0 } } }) := if_pos aS
 refine W.sr <| WL.M rfl <| WL.cx hB_ rfl rfl ((vw_numV 1 h0 ha oO)) (fun k4 w2 j P => ?_) (fun a3 x5 w2 j P => ?_)
 have ac := kB c P
 exact pn_is (ee_ k4 (by rw [hD, bind_err j]) (i _ ac))
 have aC := N.bl P.1
 have ae := kB c P.1
 obtain ⟨pn, cn, evn, a0, -⟩ := P.2.row
 subst evn
 have a1 := (numsV_ok j).1
 have Q := a0.ofI
 rw [bind_ok j, getD0 a1 dD] at hD
 obtain ⟨n0, T⟩ : ∃ n, n = a3[0] := ⟨_, rfl⟩
 rw [← T] at hD
 refine WL.O (.ixb u39_ s3_ rfl rfl (Q.isp (by first | omega | exact nz_ _)) (0) (rfl) oO) <| WL.R (Rd.iis (n0) (Rd.ldc (g3_ _) rfl (Q.cells (0) oO)) (by exact T.symm)) <| WL.Z rfl <| W.sr <| WL.M rfl <| WL.O (.geq rfl rfl) <| WL.ce hB_ rfl rfl ((vw_want _ _)) (fun aD w8 U Y => ?_) (fun a9 w8 U Y => ?_)
 have ad := kB ae Y
 exact pn_is (ee_ aD (by rw [hD]; exact bind_err U) (i _ ad))
 have af := aC.bl Y
 have ag := kB ae Y
 rw [bind_ok U] at hD
 refine WL.e <| W.reg <| WL.M rfl <| WL.M rfl <| WL.O (.nck rfl) <| WL.O (.fa u74_ rfl s68_ dD rfl) <| WL.O (.fa u68_ rfl s41_ dD rfl) <| WL.O (.fa u41_ rfl s3_ dD rfl) <| WL.stC (o := 16) ((vwC ⟨{ s with pen := { s.pen with fWidth := n0 } }, fo, sa, pa, cl, it, lo, te, li, ar, itv⟩).toArray) s3_ rfl (rfl) rfl (rfl) af bL (rfl) (fun aE k q aW => ?_)
 have k : Blk aE bv _ _ := k
 have q : Upd bv _ _ := q
 have ah := kU ag q
 refine WL.e <| W.norm (W.ret0 rfl ?_)
 refine eo_ _ _ hD rfl ⟨rfl, Vwr.set1 hO ah k (fun m => ?_)⟩
 have hq := hR.mv m
 have f := hq.st.pen
 exact { hq with st := { hq.st with pen := (by rw [← f]; rfl), penr := hq.st.penr } }
 have aB := dF h1
 refine W.sr <| WL.O (.eqs rfl rfl) <| WL.Z rfl <| W.cond rfl (fun a2 => ?_) (fun a2 => ?_)
 have ai := dT a2
 have hD : pensV V args op = (do let n ← wholeW args; return { V with s := { V.s with pen := { V.s.pen with fCap := n } } }) := by unfold pensV; rw [if_neg aS, if_pos aS]
 refine W.reg <| WL.M rfl <| WL.M rfl <| WL.ce hB_ rfl rfl ((vw_whole h0 ha)) (fun aF aG t u => ?_) (fun aH aG t u => ?_)
 have a4 := kB c u
 exact pn_is (ee_ aF (by rw [hD, bind_err t]) (i _ a4))
 have aj := N.bl u
 have ak := kB c u
 rw [bind_ok t] at hD
 refine WL.O (.nck rfl) <| WL.O (.fa u74_ rfl s68_ dD rfl) <| WL.O (.fa u68_ rfl s41_ dD rfl) <| WL.O (.fa u41_ rfl s3_ dD rfl) <| WL.stC (o := 17) ((vwC ⟨{ s with pen := { s.pen with fCap := aH } }, fo, sa, pa, cl, it, lo, te, li, ar, itv⟩).toArray) s3_ rfl (rfl) rfl (rfl) aj bL (rfl) (fun aI v x aX => ?_)
 have v : Blk aI bv _ _ := v
 have x : Upd bv _ _ := x
 have al := kU ak x
 refine WL.e <| W.norm (W.ret0 rfl ?_)
 refine eo_ _ _ hD rfl ⟨rfl, Vwr.set1 hO al v (fun m => ?_)⟩
 have hq := hR.mv m
 have f := hq.st.pen
 exact { hq with st := { hq.st with pen := (by rw [← f]; rfl), penr := hq.st.penr } }
 have ai := dF a2
 refine W.sr <| WL.O (.eqs rfl rfl) <| WL.Z rfl <| W.cond rfl (fun a5 => ?_) (fun a5 => ?_)
 have am := dT a5
 have hD : pensV V args op = (do let n ← wholeW args; return { V with s := { V.s with pen := { V.s.pen with fJoin := n } } }) := by unfold pensV; rw [if_neg aS, if_neg aS, if_pos aS]
 refine W.reg <| WL.M rfl <| WL.M rfl <| WL.ce hB_ rfl rfl ((vw_whole h0 ha)) (fun aJ aK y A => ?_) (fun aL aK y A => ?_)
 have a6 := kB c A
 exact pn_is (ee_ aJ (by rw [hD, bind_err y]) (i _ a6))
 have an := N.bl A
 have ao := kB c A
 rw [bind_ok y] at hD
 refine WL.O (.nck rfl) <| WL.O (.fa u74_ rfl s68_ dD rfl) <| WL.O (.fa u68_ rfl s41_ dD rfl) <| WL.O (.fa u41_ rfl s3_ dD rfl) <| WL.stC (o := 18) ((vwC ⟨{ s with pen := { s.pen with fJoin := aL } }, fo, sa, pa, cl, it, lo, te, li, ar, itv⟩).toArray) s3_ rfl (rfl) rfl (rfl) an bL (rfl) (fun aM C D aY => ?_)
 have C : Blk aM bv _ _ := C
 have D : Upd bv _ _ := D
 have ap := kU ao D
 refine WL.e <| W.norm (W.ret0 rfl ?_)
 refine eo_ _ _ hD rfl ⟨rfl, Vwr.set1 hO ap C (fun m => ?_)⟩
 have hq := hR.mv m
 have f := hq.st.pen
 exact { hq with st := { hq.st with pen := (by rw [← f]; rfl), penr := hq.st.penr } }
 have am := dF a5
 refine W.sr <| WL.O (.eqs rfl rfl) <| WL.Z rfl <| W.cond rfl (fun a7 => ?_) (fun a7 => ?_)
 have aq := dT a7
 have hD : pensV V args op = (do let l ← numsV args 1; wantV (decide (l.getD 0 0 ≥ 65536)); return { V with s := { V.s with pen := { V.s.pen with fMiter := l.getD 0 0 } } }) := by unfold pensV; rw [if_neg aS, if_neg aS, if_neg aS, if_pos aS]
 refine W.sr <| WL.M rfl <| WL.cx hB_ rfl rfl ((vw_numV 1 h0 ha oO)) (fun aN aO d g => ?_) (fun aP b0 aO d g => ?_)
 have a8 := kB c g
 exact pn_is (ee_ aN (by rw [hD, bind_err d]) (i _ a8))
 have au := N.bl g.1
 have aa := kB c g.1
 obtain ⟨pn, cn, evn, a0, -⟩ := g.2.row
 subst evn
 have a1 := (numsV_ok d).1
 have Q := a0.ofI
 rw [bind_ok d, getD0 a1 dD] at hD
 obtain ⟨n0, T⟩ : ∃ n, n = aP[0] := ⟨_, rfl⟩
 rw [← T] at hD
 refine WL.O (.ixb u39_ s3_ rfl rfl (Q.isp (by first | omega | exact nz_ _)) (0) (rfl) oO) <| WL.R (Rd.iis (n0) (Rd.ldc (g3_ _) rfl (Q.cells (0) oO)) (by exact T.symm)) <| WL.Z rfl <| W.sr <| WL.M rfl <| WL.O (.geq rfl rfl) <| WL.ce hB_ rfl rfl ((vw_want _ _)) (fun aQ aR E G => ?_) (fun b1 aR E G => ?_)
 have ab := kB aa G
 exact pn_is (ee_ aQ (by rw [hD]; exact bind_err E) (i _ ab))
 have av := au.bl G
 have aw := kB aa G
 rw [bind_ok E] at hD
 refine WL.e <| W.reg <| WL.M rfl <| WL.M rfl <| WL.O (.nck rfl) <| WL.O (.fa u74_ rfl s68_ dD rfl) <| WL.O (.fa u68_ rfl s41_ dD rfl) <| WL.O (.fa u41_ rfl s3_ dD rfl) <| WL.stC (o := 19) ((vwC ⟨{ s with pen := { s.pen with fMiter := n0 } }, fo, sa, pa, cl, it, lo, te, li, ar, itv⟩).toArray) s3_ rfl (rfl) rfl (rfl) av bL (rfl) (fun aT J K aZ => ?_)
 have J : Blk aT bv _ _ := J
 have K : Upd bv _ _ := K
 have ax := kU aw K
 refine WL.e <| W.norm (W.ret0 rfl ?_)
 refine eo_ _ _ hD rfl ⟨rfl, Vwr.set1 hO ax J (fun m => ?_)⟩
 have hq := hR.mv m
 have f := hq.st.pen
 exact { hq with st := { hq.st with pen := (by rw [← f]; rfl), penr := hq.st.penr } }
 have aq := dF a7
 have hD : pensV V args op = dashV V args := by unfold pensV; rw [if_neg aS, if_neg aS, if_neg aS, if_neg aS]
 refine W.reg <| WL.M rfl <| WL.cx hB_ rfl rfl ((vw_dash h0 ha hb)) (fun aU aV L X => ?_) (fun b2 b3 aV L X => ?_)
 exact pn_is (ee_ aU (hD.trans L) X)
 obtain ⟨rfl, hF⟩ := X
 have ay := hD.trans L
 refine WL.e <| W.norm (W.ret0 rfl ?_)
 exact eo_ _ _ ay rfl ⟨rfl, hF⟩
theorem vw_colors (op : List UInt8) (h : Vwr B fs w bv F V args) (ha : args.length ≤ 32) :
  Calls Tryz.prog 49 #[.pointer (some ⟨bv, 0, none⟩), .string (bs op)] w (VwE B fs bv F w (colorsV V args op) args) := by
 obtain ⟨ap, aq⟩ := h.base
 have T := h
 obtain ⟨H, vp, its, hs, cs, rfl, hO, hR⟩ := h.mem
 have d := hO.blk
 obtain ⟨s, fo, sa, pa, cl, it, lo, te, li, ar, itv⟩ := H
 have aZ := d.lt
 have f : ∀ w1, KeepB w.heap.size [bv] w w1 → Below B w w1 := fun w1 hK => hK.below aq (by simpa using ap)
 refine W.e func49 rfl ntmps49 bL ?_
 have a := KeepB.refl w.heap.size ([bv]) w
 refine W.sr <| WL.M rfl <| WL.e <| W.b <| W.sr <| WL.O (.eqs rfl rfl) <| WL.Z rfl <| W.cond rfl (fun h1 => ?_) (fun h1 => ?_)
 have au := dT h1
 have hD : colorsV V args op = (do let c ← colorW args 1; return { V with s := { V.s with fill := c } }) := if_pos aS
 refine W.reg <| WL.M rfl <| WL.M rfl <| WL.ce hB_ rfl rfl ((vw_color 1 T ha oO)) (fun k4 w2 N R => ?_) (fun a3 w2 N R => ?_)
 have a6 := kB a R
 exact pn_is (ee_ k4 (by rw [hD, bind_err N]) (f _ a6))
 have av := d.bl R
 have aw := kB a R
 rw [bind_ok N] at hD
 refine WL.O (.nck rfl) <| WL.O (.fa u74_ rfl s68_ dD rfl) <| WL.O (.fa u68_ rfl s37_ dD rfl) <| WL.stB (o := 6) ((vwC ⟨{ s with fill := a3 }, fo, sa, pa, cl, it, lo, te, li, ar, itv⟩).toArray) rfl (rfl) rfl av isz37 rfl bL (rfl) (fun w7 P Q a' => ?_)
 have P : Blk w7 bv _ _ := P
 have Q : Upd bv _ _ := Q
 have ax := kU aw Q
 refine WL.e <| W.norm (W.ret0 rfl ?_)
 refine eo_ _ _ hD rfl ⟨rfl, Vwr.set1 hO ax P (fun m => ?_)⟩
 have hq := hR.mv m
 exact { hq with st := { hq.st with fill := rfl } }
 have au := dF h1
 refine W.sr <| WL.O (.eqs rfl rfl) <| WL.Z rfl <| W.cond rfl (fun h9 => ?_) (fun h9 => ?_)
 have ay := dT h9
 have hD : colorsV V args op = (do let c ← colorW args 3; return { V with s := { V.s with fill := c } }) := by unfold colorsV; rw [if_neg aS, if_pos aS]
 refine W.reg <| WL.M rfl <| WL.M rfl <| WL.ce hB_ rfl rfl ((vw_color 3 T ha oO)) (fun az aA g i => ?_) (fun aB aA g i => ?_)
 have U := kB a i
 exact pn_is (ee_ az (by rw [hD, bind_err g]) (f _ U))
 have a7 := d.bl i
 have a8 := kB a i
 rw [bind_ok g] at hD
 refine WL.O (.nck rfl) <| WL.O (.fa u74_ rfl s68_ dD rfl) <| WL.O (.fa u68_ rfl s37_ dD rfl) <| WL.stB (o := 6) ((vwC ⟨{ s with fill := aB }, fo, sa, pa, cl, it, lo, te, li, ar, itv⟩).toArray) rfl (rfl) rfl a7 isz37 rfl bL (rfl) (fun aC j k aU => ?_)
 have j : Blk aC bv _ _ := j
 have k : Upd bv _ _ := k
 have a9 := kU a8 k
 refine WL.e <| W.norm (W.ret0 rfl ?_)
 refine eo_ _ _ hD rfl ⟨rfl, Vwr.set1 hO a9 j (fun m => ?_)⟩
 have hq := hR.mv m
 exact { hq with st := { hq.st with fill := rfl } }
 have ay := dF h9
 refine W.sr <| WL.O (.eqs rfl rfl) <| WL.Z rfl <| W.cond rfl (fun X => ?_) (fun X => ?_)
 have aa := dT X
 have hD : colorsV V args op = (do let c ← colorW args 4; return { V with s := { V.s with fill := c } }) := by unfold colorsV; rw [if_neg aS, if_neg aS, if_pos aS]
 refine W.reg <| WL.M rfl <| WL.M rfl <| WL.ce hB_ rfl rfl ((vw_color 4 T ha oO)) (fun aD aE l n => ?_) (fun aF aE l n => ?_)
 have Y := kB a n
 exact pn_is (ee_ aD (by rw [hD, bind_err l]) (f _ Y))
 have ab := d.bl n
 have ac := kB a n
 rw [bind_ok l] at hD
 refine WL.O (.nck rfl) <| WL.O (.fa u74_ rfl s68_ dD rfl) <| WL.O (.fa u68_ rfl s37_ dD rfl) <| WL.stB (o := 6) ((vwC ⟨{ s with fill := aF }, fo, sa, pa, cl, it, lo, te, li, ar, itv⟩).toArray) rfl (rfl) rfl ab isz37 rfl bL (rfl) (fun aG q t aV => ?_)
 have q : Blk aG bv _ _ := q
 have t : Upd bv _ _ := t
 have ad := kU ac t
 refine WL.e <| W.norm (W.ret0 rfl ?_)
 refine eo_ _ _ hD rfl ⟨rfl, Vwr.set1 hO ad q (fun m => ?_)⟩
 have hq := hR.mv m
 exact { hq with st := { hq.st with fill := rfl } }
 have aa := dF X
 refine W.sr <| WL.O (.eqs rfl rfl) <| WL.Z rfl <| W.cond rfl (fun a0 => ?_) (fun a0 => ?_)
 have ae := dT a0
 have hD : colorsV V args op = (do let c ← colorW args 1; return { V with s := { V.s with stroke := c } }) := by unfold colorsV; rw [if_neg aS, if_neg aS, if_neg aS, if_pos aS]
 refine W.reg <| WL.M rfl <| WL.M rfl <| WL.ce hB_ rfl rfl ((vw_color 1 T ha oO)) (fun aH aI u v => ?_) (fun aJ aI u v => ?_)
 have a1 := kB a v
 exact pn_is (ee_ aH (by rw [hD, bind_err u]) (f _ a1))
 have af := d.bl v
 have ag := kB a v
 rw [bind_ok u] at hD
 refine WL.O (.nck rfl) <| WL.O (.fa u74_ rfl s68_ dD rfl) <| WL.O (.fa u68_ rfl s37_ dD rfl) <| WL.stB (o := 11) ((vwC ⟨{ s with stroke := aJ }, fo, sa, pa, cl, it, lo, te, li, ar, itv⟩).toArray) rfl (rfl) rfl af isz37 rfl bL (rfl) (fun aK x y aW => ?_)
 have x : Blk aK bv _ _ := x
 have y : Upd bv _ _ := y
 have ah := kU ag y
 refine WL.e <| W.norm (W.ret0 rfl ?_)
 refine eo_ _ _ hD rfl ⟨rfl, Vwr.set1 hO ah x (fun m => ?_)⟩
 have hq := hR.mv m
 exact { hq with st := { hq.st with stroke := rfl } }
 have ae := dF a0
 refine W.sr <| WL.O (.eqs rfl rfl) <| WL.Z rfl <| W.cond rfl (fun a2 => ?_) (fun a2 => ?_)
 have ai := dT a2
 have hD : colorsV V args op = (do let c ← colorW args 3; return { V with s := { V.s with stroke := c } }) := by unfold colorsV; rw [if_neg aS, if_neg aS, if_neg aS, if_neg aS, if_pos aS]
 refine W.reg <| WL.M rfl <| WL.M rfl <| WL.ce hB_ rfl rfl ((vw_color 3 T ha oO)) (fun aL aM A C => ?_) (fun aN aM A C => ?_)
 have a4 := kB a C
 exact pn_is (ee_ aL (by rw [hD, bind_err A]) (f _ a4))
 have aj := d.bl C
 have ak := kB a C
 rw [bind_ok A] at hD
 refine WL.O (.nck rfl) <| WL.O (.fa u74_ rfl s68_ dD rfl) <| WL.O (.fa u68_ rfl s37_ dD rfl) <| WL.stB (o := 11) ((vwC ⟨{ s with stroke := aN }, fo, sa, pa, cl, it, lo, te, li, ar, itv⟩).toArray) rfl (rfl) rfl aj isz37 rfl bL (rfl) (fun aO D E aX => ?_)
 have D : Blk aO bv _ _ := D
 have E : Upd bv _ _ := E
 have al := kU ak E
 refine WL.e <| W.norm (W.ret0 rfl ?_)
 refine eo_ _ _ hD rfl ⟨rfl, Vwr.set1 hO al D (fun m => ?_)⟩
 have hq := hR.mv m
 exact { hq with st := { hq.st with stroke := rfl } }
 have ai := dF a2
 have hD : colorsV V args op = (do let c ← colorW args 4; return { V with s := { V.s with stroke := c } }) := by unfold colorsV; rw [if_neg aS, if_neg aS, if_neg aS, if_neg aS, if_neg aS]
 refine W.reg <| WL.M rfl <| WL.M rfl <| WL.ce hB_ rfl rfl ((vw_color 4 T ha oO)) (fun aP aQ G J => ?_) (fun aR aQ G J => ?_)
 have a5 := kB a J
 exact pn_is (ee_ aP (by rw [hD, bind_err G]) (f _ a5))
 have am := d.bl J
 have an := kB a J
 rw [bind_ok G] at hD
 refine WL.O (.nck rfl) <| WL.O (.fa u74_ rfl s68_ dD rfl) <| WL.O (.fa u68_ rfl s37_ dD rfl) <| WL.stB (o := 11) ((vwC ⟨{ s with stroke := aR }, fo, sa, pa, cl, it, lo, te, li, ar, itv⟩).toArray) rfl (rfl) rfl am isz37 rfl bL (rfl) (fun aT K L aY => ?_)
 have K : Blk aT bv _ _ := K
 have L : Upd bv _ _ := L
 have ao := kU an L
 refine WL.e <| W.norm (W.ret0 rfl ?_)
 refine eo_ _ _ hD rfl ⟨rfl, Vwr.set1 hO ao K (fun m => ?_)⟩
 have hq := hR.mv m
 exact { hq with st := { hq.st with stroke := rfl } }
end
end
section
def tyAt (w : World) (g : Nat) (t : TypeId) : Prop := ∃ cs, w.heap[g]? = some (.cells cs t (0, 0))
theorem tyAt.uniq {w : World} {g : Nat} {t t' : TypeId} (h : tyAt w g t) (h' : tyAt w g t') : t = t' := by
 obtain ⟨cs, h⟩ := h
 obtain ⟨cs', h'⟩ := h'
 rw [h] at h'
 simp only [Option.some.injEq, Obj.cells.injEq] at h'
 exact h'.2.1
theorem Blk.ty {w : World} {b : Nat} {cs : Array Value} {t : TypeId} (h : Blk w b cs t) : tyAt w b t := ⟨cs, h⟩
theorem OwnM.ty {α : Type} {L : Lay α} {e : TypeId} {B : Nat} {w : World} {v : Value} {l : List α} (h : OwnM L e B w v l) : ∀ g, v.ownBlock = some g → tyAt w g e := fun g hg => by
 rcases h with ⟨rfl, -⟩ | ⟨g1, cap, cur, rfl, -, h1, -⟩
 ·
  cases hg
 ·
  cases hg; exact ⟨cur, h1⟩
theorem OwnM.tyv {α : Type} {L : Lay α} {e t : TypeId} {B : Nat} {w : World} {v : Value} {l : List α} {b : Nat} (h : OwnM L e B w v l) (hb : tyAt w b t) : ∃ t' ∈ [t, e], tyAt w (vb v b) t' := by
 unfold vb
 cases hv : v.ownBlock with
 | none => exact ⟨t, by simp, hb⟩
 | some g => exact ⟨e, by simp, h.ty g hv⟩
section
variable {B : Nat} {w w1 : World} {bv : Nat} {H : VwH} {vp : Value} {V : Vw} {its : List ItemV} {hs : List StC} {cs : List PC}
theorem VwO.rest (hO : VwO B w bv H vp V its hs cs) {S : List Nat} (K : KeepB w.heap.size S w w1) (ts : List TypeId) (hS : ∀ g ∈ S, ∃ t ∈ ts, tyAt w g t) :
  (74 ∉ ts → Blk w1 bv (vwC H).toArray 74) ∧ (97 ∉ ts → 94 ∉ ts → PthAt B w1 H.path 4096 V.path vp) ∧ (44 ∉ ts → OwnM itemL 44 B w1 H.items its) ∧
   (68 ∉ ts → OwnM stY 68 B w1 H.saved hs.reverse) ∧ (99 ∉ ts → OwnM pcL 99 B w1 H.args cs) := by
 have key : ∀ g t, tyAt w g t → t ∉ ts → w1.heap[g]? = w.heap[g]? := fun g t a b => by
  obtain ⟨c, d⟩ := a
  refine K.block g (Array.getElem?_eq_some_iff.1 d).1 fun hm => ?_
  obtain ⟨t', e, f⟩ := hS g hm
  exact b (tyAt.uniq ⟨c, d⟩ f ▸ e)
 refine ⟨fun h => (key _ _ hO.blk.ty h).trans hO.blk, fun a b => ⟨(key _ _ hO.pth.blk.ty a).trans hO.pth.blk, hO.pth.own.same fun g hg => key g _ (hO.pth.own.ty g hg) b, hO.pth.len, nt_ hO.pth.base K.size⟩,
  fun h => hO.oi.same fun g hg => key g _ (hO.oi.ty g hg) h, fun h => hO.os.same fun g hg => key g _ (hO.os.ty g hg) h, fun h => hO.oa.same fun g hg => key g _ (hO.oa.ty g hg) h⟩
end
theorem two_ty {α : Type} {L : Lay α} {e t : TypeId} {B : Nat} {w : World} {v : Value} {l : List α} {b : Nat} (h : OwnM L e B w v l) (hb : tyAt w b t) : ∀ g ∈ [b, vb v b], ∃ t' ∈ [t, e], tyAt w g t' := fun g hg => by
 simp only [List.mem_cons, List.not_mem_nil, or_false] at hg
 rcases hg with rfl | rfl
 ·
  exact ⟨t, by simp, hb⟩
 ·
  exact h.tyv hb
theorem two_F {F : Nat → Prop} {bv N : Nat} {v : Value} (h : ∀ g, v.ownBlock = some g → F g) (hb : F bv := by exact .inl rfl) : ∀ g ∈ [bv, vb v bv], F g ∨ N ≤ g := fun g hg => by
 simp only [List.mem_cons, List.not_mem_nil, or_false] at hg
 rcases hg with rfl | rfl
 ·
  exact .inl hb
 ·
  unfold vb
  cases hv : v.ownBlock with
  | none => exact .inl hb
  | some g => exact .inl (h g hv)
theorem vb_own {v : Value} {b g : Nat} (h : v.ownBlock = some g) : vb v b = g := by unfold vb; rw [h]; rfl
theorem vb_or (v : Value) (b : Nat) : vb v b = b ∨ v.ownBlock = some (vb v b) := by
 unfold vb
 cases v.ownBlock with
 | none => exact .inl rfl
 | some g => exact .inr rfl
theorem SvR.cons {Z : Nat → Prop} {w : World} {h : StH} {hs : List StH} {s : VwS} {ss : List VwS} (q : SvR Z w hs ss) (q0 : StR Z w h s) : SvR Z w (h :: hs) (s :: ss) := by
 refine ⟨by simp [q.1], fun i a b => ?_⟩
 cases i with
 | zero => exact q0
 | succ i => exact q.2 i (by simpa using a) (by simpa using b)
theorem SvR.head {Z : Nat → Prop} {w : World} {h : StH} {hs : List StH} {s : VwS} {ss : List VwS} (q : SvR Z w (h :: hs) (s :: ss)) : StR Z w h s ∧ SvR Z w hs ss :=
 ⟨q.2 0 (by simp) (by simp), by simpa using q.1, fun i h1 h2 => q.2 (i + 1) (by simpa using h1) (by simpa using h2)⟩
def popV (V : Vw) : Except Int Vw := match V.saved with
 | [] => .error 22
 | s :: r => .ok { V with s := s, saved := r }
theorem states_q {V : Vw} {args : List PV} : statesV V args [113] = (numsV args 0 >>= fun _ => roomV (decide (V.saved.length < 32)) >>= fun _ => .ok { V with saved := V.s :: V.saved }) := by
 unfold statesV; rw [if_pos rfl]; rfl
theorem states_Q {V : Vw} {args : List PV} : statesV V args [81] = (numsV args 0 >>= fun _ => popV V) := by
 unfold statesV popV; rw [if_neg dD, if_pos rfl]; cases V.saved <;> rfl
theorem states_cm {V : Vw} {args : List PV} {op : List UInt8} (h1 : ¬ op = [113]) (h2 : ¬ op = [81]) : statesV V args op = (matV args >>= fun m => catV m V.s.ctm >>= fun c => .ok { V with s := { V.s with ctm := c } }) := by
 unfold statesV; rw [if_neg h1, if_neg h2]; rfl
section
variable {B : Nat} {fs : Fcx} {w : World} {bv : Nat} {F : Nat → Prop} {V : Vw} {args : List PV}
theorem Vwr.pushS {w1 : World} {H : VwH} {vp v1 : Value} {its : List ItemV} {hs : List StC} {cs : List PC} {sc : StC} (hO : VwO B w bv H vp V its hs cs) (hR : VwR (Frz fs.c (VwF bv H vp) w) w H fs V args its hs cs) (K : KeepB w.heap.size [bv, vb H.saved bv] w w1)
  (hk : Blk w1 bv (vwC { H with saved := v1 }).toArray 74) (ho : OwnM stY 68 B w1 v1 (hs.reverse ++ [sc])) (hn : ∀ g, v1.ownBlock = some g → H.saved.ownBlock = some g ∨ w.heap.size ≤ g) (hsc : H.s = sc.h := by rfl) :
  ∃ F1, Vwr B fs w1 bv F1 { V with saved := V.s :: V.saved } args ∧ Chg (VwF bv H vp) F1 w w1 := by
 obtain ⟨-, b, d, -, e⟩ := hO.rest K _ (two_ty hO.os hO.blk.ty)
 have hC : Chg (VwF bv H vp) (VwF bv { H with saved := v1 } vp) w w1 := Chg.of_keep K (two_F (fun g hg => .inr (.inr (.inr (.inr (.inl hg)))))) (fun g hg => by
  rcases hg with a | a | a | a | a | a
  ·
   exact .inl (.inl a)
  ·
   exact .inl (.inr (.inl a))
  ·
   exact .inl (.inr (.inr (.inl a)))
  ·
   exact .inl (.inr (.inr (.inr (.inl a))))
  ·
   exact (hn g a).imp (fun h => .inr (.inr (.inr (.inr (.inl h))))) id
  ·
   exact .inl (.inr (.inr (.inr (.inr (.inr a))))))
 have hq := hR.mv (Frz.mv (c := fs.c) hC)
 refine ⟨_, ⟨_, vp, its, sc :: hs, cs, rfl, ⟨hk, b dD dD, d dD, by rw [List.reverse_cons]; exact ho, e dD, hO.lbv, hO.lbp⟩, ?_⟩, hC⟩
 exact { hq with sv := hq.sv.cons (hsc ▸ hq.st) }
theorem inf68 : (Tryz.prog.info? 68).map (fun i => (i.zero, i.size, i.bytes)) = some (some (.agg (stV ⟨m60, col0 0, col0 0, penZ, .slice none 0 0, 0, 0⟩).toArray), 25, 232) := by kernel_rfl
set_option maxHeartbeats 1600000 in
theorem vw_states (op : List UInt8) (h : Vwr B fs w bv F V args) (ha : args.length ≤ 32) :
  Calls Tryz.prog 52 #[.pointer (some ⟨bv, 0, none⟩), .string (bs op)] w (VwE B fs bv F w (statesV V args op) args) := by
 obtain ⟨ac, cA⟩ := h.base
 have h0 := h
 obtain ⟨H, vp, its, hs, cs, rfl, hO, hR⟩ := h.mem
 have f := hO.blk
 have i := hO.os
 obtain ⟨s, fo, sa, pa, cl, it, lo, te, li, ar, itv⟩ := H
 obtain ⟨sc, cB⟩ := hR.st.cells
 obtain ⟨ps, cps, esa, cC, -, ef, -, -, dk, -⟩ := i.row
 unfold maxLen at dk
 simp only at cB esa
 subst cB
 subst esa
 have e7 := f.lt
 have cE := i.lt
 have aq := cA
 have aI := VwrN.of h0
 have e8 := f.lt
 have dl := hR.sv
 have e9 : hs.reverse.length = hs.length := List.length_reverse
 have bo : pPartM 25 ps cps 0 = ps := by
  unfold pPartM
  split
  rfl; cases ps with
  | none => rfl
  | some a => rw [Option.map_some, Nat.zero_mul, add_zero_addr]
 have eg : hs.length = V.saved.length := by have := dl.1; rw [List.length_map] at this; exact this
 have a5 : ∀ w1, KeepB w.heap.size [bv, vb (.slice ps hs.reverse.length cps) bv] w w1 → Below B w w1 := fun w1 hK => hK.below cA (fun k hk => by
  simp only [List.mem_cons, List.not_mem_nil, or_false] at hk; rcases hk with rfl | rfl; exact ac; rcases vb_or (.slice ps hs.reverse.length cps) bv with d | d; rw [d]; exact ac; exact (cE _ d).1)
 refine W.e func52 rfl ntmps52 bL ?_
 have aE := KeepB.refl w.heap.size ([bv, vb (.slice ps hs.reverse.length cps) bv]) w
 refine W.sr <| WL.M rfl <| WL.e <| W.b <| W.sr <| WL.O (.eqs rfl rfl) <| WL.Z rfl <| W.cond rfl (fun d => ?_) (fun d => ?_)
 have dm := dT d
 have bp : op = [113] := by assumption
 have hD := states_q (V := V) (args := args)
 rw [← bp] at hD
 refine W.sr <| WL.M rfl <| WL.cx hB_ rfl rfl ((vw_numV 0 (aI).get ha oO)) (fun k4 w2 aJ ap => ?_) (fun a3 x5 w2 aJ ap => ?_)
 have bV := kB aE ap
 exact pn_is (ee_ k4 (by rw [hD, bind_err aJ]) (a5 _ bV))
 have cF := nt_ aq ap.1.size
 have dn := OwnM.below i ap.1
 have cD := f.bl ap.1
 have bq := kB aE ap.1
 rw [bind_ok aJ] at hD
 refine WL.e <| W.sr <| WL.M rfl <| WL.O (.nck rfl) <| WL.O (.fa u74_ rfl s71_ dD rfl) <| WL.R (Rd.ld (g71_ _) rfl cD rfl) <| WL.O (.lenS u71_ rfl) <| WL.O (.bis (decide (V.saved.length < 32)) (.lss rfl rfl) (by exact decide_eq_decide.2 (by rw [List.length_reverse]; omega))) <| WL.ce hB_ rfl rfl ((vw_room _ _)) (fun dp dq a7 a2 => ?_) (fun eh dq a7 a2 => ?_)
 have bt := kB bq a2
 exact pn_is (ee_ dp (by rw [hD]; exact bind_err a7) (a5 _ bt))
 have bW := nt_ cF a2.size
 have cG := OwnM.below dn a2
 have cH := cD.bl a2
 have cI := kB bq a2
 rw [bind_ok a7] at hD
 have aK := a7
 unfold roomV at aK
 have ea : V.saved.length < 32 := by
  split at aK; exact dT aS; cases aK
 refine WL.e <| W.regH 14 rfl mixed (fun w' => True ∧ True) (fun ei au => ?_)
 have av := Drew.le bW au
 have aL := OwnM.drew cG au
 have n := cH.drew au
 have a4 := kt_ cI (kd_ au)
 refine WH.tp 0 rfl (.mv rfl) ⟨trivial, tT⟩ rfl ?_
 refine WH.tp 1 rfl (.mv rfl) ⟨trivial, tT⟩ rfl ?_
 refine WH.tp 2 rfl (.nck rfl) ⟨trivial, tT⟩ rfl ?_
 refine WH.tp 3 rfl (.fa u74_ rfl s71_ dD rfl) ⟨trivial, tT⟩ rfl ?_
 refine WH.tp 5 rfl (.mv rfl) ⟨trivial, tT⟩ rfl ?_
 refine WH.tp 6 rfl (.nck rfl) ⟨trivial, tT⟩ rfl ?_
 refine WH.tp 7 rfl (.fa u74_ rfl s68_ dD rfl) ⟨trivial, tT⟩ rfl ?_
 refine WH.br2 4 rfl 8 rfl ?_ ?_
 refine WL.R (Rd.ld (g71_ _) rfl n rfl) <| WL.e <| ⟨⟨trivial, tT⟩, ?_⟩
 refine WH.br1 8 rfl <| WL.R (Rd.ldF (L := stY) u68_ rfl isz68 n (sc) (rfl) rfl) <| WL.e <| ⟨⟨trivial, tT⟩, ?_⟩
 refine WH.br1 9 rfl <| WL.bslM (L := stY) (ps := _) ([sc]) u71_ s68_ zeroValue68 rfl rfl rfl rfl rfl (by first | rfl | decide) rfl rfl (fun dr cJ aM bX a8 dZ => ?_)
 have aX := nt_ av a8.size
 have cK := on_ aL aM a8
 have cL := bgl aM n.lt
 have cM := n.un a8 cL
 have bu := bge aM a4.size
 have aN := kt_ a4 (kn_ a8 bu)
 have ds : dr ≤ cJ.heap.size := by omega
 refine WL.e <| ⟨⟨trivial, tT⟩, ?_⟩
 refine WH.br1 10 rfl <| WL.appM u71_ inf68 rfl rfl rfl cK rfl (bX).rowp (by simp only [List.length_cons, List.length_nil, List.length_reverse]; omega) (aX) rfl (fun h => ab_ h (lc_ _ _)) (fun dt ej aY bY aZ a' => ?_)
 have cN := cM.grown aZ (fun e => blk_sep i f dD _ e rfl)
 have cO := kt_ aN (KeepB.of_grown aZ (fun g hg => .inl (by have hg : (Value.slice ps hs.reverse.length cps).ownBlock = some g := hg; rw [vb_own hg]; simp)) aN.size)
 have bZ := nt_ aX bY.size
 refine WL.e <| ⟨⟨trivial, tT⟩, ?_⟩
 refine WH.tp 11 rfl (.nck rfl) ⟨trivial, tT⟩ rfl ?_
 refine WH.tp 12 rfl (.fa u74_ rfl s71_ dD rfl) ⟨trivial, tT⟩ rfl ?_
 refine WH.br1 13 rfl <| WL.stC (o := 26) ((vwC ⟨sc.h, fo, dt, pa, cl, it, lo, te, li, ar, itv⟩).toArray) s71_ rfl (rfl) rfl ((aY).one) cN bL (rfl) (fun du aw T d' => ?_)
 have aw : Blk du bv _ _ := aw
 have T : Upd bv _ _ := T
 have e0 := nt_ bZ T.size
 have cP := ou_ aY T (fun g hg e => by subst e; first | exact blk_sep i f dD _ hg rfl | (rcases a' _ hg with d | d <;> first | exact blk_sep i f dD _ d rfl | omega))
 have cQ := kU cO T
 refine WL.e <| ⟨⟨trivial, tT⟩, ?_⟩
 refine WH.done kR <| W.norm (W.ret0 rfl ?_)
 exact eo_ _ _ hD rfl ⟨rfl, Vwr.pushS hO hR cQ aw cP (fun g d => (a' g d).imp id (nt_ aN.size))⟩
 refine WL.R (Rd.ldF (L := stY) u68_ rfl isz68 n (sc) (rfl) rfl) <| WL.e <| ⟨⟨trivial, tT⟩, ?_⟩
 refine WH.br2 4 rfl 9 rfl ?_ ?_
 refine WL.R (Rd.ld (g71_ _) rfl n rfl) <| WL.e <| ⟨⟨trivial, tT⟩, ?_⟩
 refine WH.br1 9 rfl <| WL.bslM (L := stY) (ps := _) ([sc]) u71_ s68_ zeroValue68 rfl rfl rfl rfl rfl (by first | rfl | decide) rfl rfl (fun dv cR aO b' a9 e1 => ?_)
 have b0 := nt_ av a9.size
 have cS := on_ aL aO a9
 have cT := bgl aO n.lt
 have cU := n.un a9 cT
 have bw := bge aO a4.size
 have aP := kt_ a4 (kn_ a9 bw)
 have dw : dv ≤ cR.heap.size := by omega
 refine WL.e <| ⟨⟨trivial, tT⟩, ?_⟩
 refine WH.br1 10 rfl <| WL.appM u71_ inf68 rfl rfl rfl cS rfl (b').rowp (by simp only [List.length_cons, List.length_nil, List.length_reverse]; omega) (b0) rfl (fun h => ab_ h (lc_ _ _)) (fun dx ek b1 c0 b2 b3 => ?_)
 have cV := cU.grown b2 (fun e => blk_sep i f dD _ e rfl)
 have cW := kt_ aP (KeepB.of_grown b2 (fun g hg => .inl (by have hg : (Value.slice ps hs.reverse.length cps).ownBlock = some g := hg; rw [vb_own hg]; simp)) aP.size)
 have c2 := nt_ b0 c0.size
 refine WL.e <| ⟨⟨trivial, tT⟩, ?_⟩
 refine WH.tp 11 rfl (.nck rfl) ⟨trivial, tT⟩ rfl ?_
 refine WH.tp 12 rfl (.fa u74_ rfl s71_ dD rfl) ⟨trivial, tT⟩ rfl ?_
 refine WH.br1 13 rfl <| WL.stC (o := 26) ((vwC ⟨sc.h, fo, dx, pa, cl, it, lo, te, li, ar, itv⟩).toArray) s71_ rfl (rfl) rfl ((b1).one) cV bL (rfl) (fun dy ax U e2 => ?_)
 have ax : Blk dy bv _ _ := ax
 have U : Upd bv _ _ := U
 have e3 := nt_ c2 U.size
 have cX := ou_ b1 U (fun g hg e => by subst e; first | exact blk_sep i f dD _ hg rfl | (rcases b3 _ hg with d | d <;> first | exact blk_sep i f dD _ d rfl | omega))
 have cY := kU cW U
 refine WL.e <| ⟨⟨trivial, tT⟩, ?_⟩
 refine WH.done kR <| W.norm (W.ret0 rfl ?_)
 exact eo_ _ _ hD rfl ⟨rfl, Vwr.pushS hO hR cY ax cX (fun g d => (b3 g d).imp id (nt_ aP.size))⟩
 refine WL.bslM (L := stY) (ps := _) ([sc]) u71_ s68_ zeroValue68 rfl rfl rfl rfl rfl (by first | rfl | decide) rfl rfl (fun dz cZ aQ c3 aa e4 => ?_)
 have b4 := nt_ av aa.size
 have c' := on_ aL aQ aa
 have d0 := bgl aQ n.lt
 have bx := n.un aa d0
 have bz := bge aQ a4.size
 have aR := kt_ a4 (kn_ aa bz)
 have dA : dz ≤ cZ.heap.size := by omega
 refine WL.e <| ⟨⟨trivial, tT⟩, ?_⟩
 refine WH.br1 4 rfl <| WL.R (Rd.ld (g71_ _) rfl bx rfl) <| WL.e <| ⟨⟨trivial, tT⟩, ?_⟩
 refine WH.br1 10 rfl <| WL.appM u71_ inf68 rfl rfl rfl c' rfl (c3).rowp (by simp only [List.length_cons, List.length_nil, List.length_reverse]; omega) (b4) rfl (fun h => ab_ h (lc_ _ _)) (fun dB el b5 c4 b6 b7 => ?_)
 have d1 := bx.grown b6 (fun e => blk_sep i f dD _ e rfl)
 have d2 := kt_ aR (KeepB.of_grown b6 (fun g hg => .inl (by have hg : (Value.slice ps hs.reverse.length cps).ownBlock = some g := hg; rw [vb_own hg]; simp)) aR.size)
 have c5 := nt_ b4 c4.size
 refine WL.e <| ⟨⟨trivial, tT⟩, ?_⟩
 refine WH.tp 11 rfl (.nck rfl) ⟨trivial, tT⟩ rfl ?_
 refine WH.tp 12 rfl (.fa u74_ rfl s71_ dD rfl) ⟨trivial, tT⟩ rfl ?_
 refine WH.br1 13 rfl <| WL.stC (o := 26) ((vwC ⟨sc.h, fo, dB, pa, cl, it, lo, te, li, ar, itv⟩).toArray) s71_ rfl (rfl) rfl ((b5).one) d1 bL (rfl) (fun dC ay X e5 => ?_)
 have ay : Blk dC bv _ _ := ay
 have X : Upd bv _ _ := X
 have e6 := nt_ c5 X.size
 have d3 := ou_ b5 X (fun g hg e => by subst e; first | exact blk_sep i f dD _ hg rfl | (rcases b7 _ hg with d | d <;> first | exact blk_sep i f dD _ d rfl | omega))
 have d4 := kU d2 X
 refine WL.e <| ⟨⟨trivial, tT⟩, ?_⟩
 refine WH.done kR <| W.norm (W.ret0 rfl ?_)
 exact eo_ _ _ hD rfl ⟨rfl, Vwr.pushS hO hR d4 ay d3 (fun g d => (b7 g d).imp id (nt_ aR.size))⟩
 have dm := dF d
 refine W.sr <| WL.O (.eqs rfl rfl) <| WL.Z rfl <| W.cond rfl (fun bA => ?_) (fun bA => ?_)
 have d5 := dT bA
 have bp : op = [81] := by assumption
 have hD := states_Q (V := V) (args := args)
 rw [← bp] at hD
 refine W.sr <| WL.M rfl <| WL.cx hB_ rfl rfl ((vw_numV 0 (aI).get ha oO)) (fun dE dG az P => ?_) (fun em en dG az P => ?_)
 have bB := kB aE P
 exact pn_is (ee_ dE (by rw [hD, bind_err az]) (a5 _ bB))
 have c6 := nt_ aq P.1.size
 have d6 := OwnM.below i P.1
 have bC := f.bl P.1
 have bD := rb_ cC P.1 (fun h0 => cC.lt h0)
 have bE := kB aE P.1
 rw [bind_ok az] at hD
 refine WL.e <| W.sr <| WL.M rfl <| WL.O (.nck rfl) <| WL.O (.fa u74_ rfl s71_ dD rfl) <| WL.R (Rd.ld (g71_ _) rfl bC rfl) <| WL.O (.iis ((hs.length : Int)) (.lenS u71_ rfl) (by rw [List.length_reverse])) <| WL.Z rfl <| W.sr <| WL.M rfl <| WL.O (.gtr rfl rfl) <| WL.ce hB_ rfl rfl ((vw_want _ _)) (fun eo dH aA Q => ?_) (fun ep dH aA Q => ?_)
 have bG := kB bE Q
 obtain ⟨dI, rfl⟩ := want_err aA
 have dJ : V.saved = [] := List.eq_nil_of_length_eq_zero (by (have := dF dI); omega)
 exact pn_is (ee_ 22 (by rw [hD]; unfold popV; rw [dJ]) (a5 _ bG))
 have bH := nt_ c6 Q.size
 have d7 := OwnM.below d6 Q
 have c7 := bC.bl Q
 have c8 := rb_ bD Q (fun h0 => bD.lt h0)
 have c9 := kB bE Q
 have eq := dT (want_ok aA)
 obtain ⟨d, c, rfl⟩ : ∃ a l, hs = a :: l := List.exists_cons_of_length_pos oO
 obtain ⟨s1, dK, b8⟩ : ∃ a l, V.saved = a :: l := List.exists_cons_of_length_pos oO
 have bI : (d :: c).reverse[c.length]'(by simp) = d := by simp
 have eb : (d :: c).length = c.length + 1 := rfl
 have er : (d :: c).reverse.length = c.length + 1 := by simp
 have aT : statesV V args op = .ok { V with s := s1, saved := dK } := by rw [hD]; unfold popV; rw [b8]
 refine WL.e <| W.regH 23 rfl mixed (fun w' => True ∧ True) (fun ec Y => ?_)
 have ad := Drew.le bH Y
 have aB := OwnM.drew d7 Y
 have j := c7.drew Y
 have a0 := c8.drew Y
 have aC := kt_ c9 (kd_ Y)
 refine WH.tp 0 rfl (.mv rfl) ⟨trivial, tT⟩ rfl ?_
 refine WH.tp 1 rfl (.mv rfl) ⟨trivial, tT⟩ rfl ?_
 refine WH.tp 2 rfl (.mv rfl) ⟨trivial, tT⟩ rfl ?_
 refine WH.tp 3 rfl (.nck rfl) ⟨trivial, tT⟩ rfl ?_
 refine WH.tp 4 rfl (.fa u74_ rfl s71_ dD rfl) ⟨trivial, tT⟩ rfl ?_
 refine WH.tp 6 rfl (.mv rfl) ⟨trivial, tT⟩ rfl ?_
 refine WH.tp 7 rfl (.sub rfl rfl (i64w oO)) ⟨trivial, tT⟩ rfl ?_
 refine WH.tp 10 rfl (.mv rfl) ⟨trivial, tT⟩ rfl ?_
 refine WH.tp 11 rfl (.nck rfl) ⟨trivial, tT⟩ rfl ?_
 refine WH.tp 12 rfl (.fa u74_ rfl s71_ dD rfl) ⟨trivial, tT⟩ rfl ?_
 refine WH.tp 14 rfl (.mv rfl) ⟨trivial, tT⟩ rfl ?_
 refine WH.tp 15 rfl (.sub rfl rfl (i64w oO)) ⟨trivial, tT⟩ rfl ?_
 refine WH.br2 5 rfl 13 rfl ?_ ?_
 refine WL.R (Rd.ld (g71_ _) rfl j rfl) <| WL.e <| ⟨⟨trivial, tT⟩, ?_⟩
 refine WH.tp 8 rfl (.ixm u71_ s68_ rfl rfl (a0.isp (by first | omega | (simp only [List.length_cons, List.length_nil]; omega))) (c.length) oO oO) ⟨trivial, tT⟩ rfl ?_
 refine WH.br2 9 rfl 13 rfl ?_ ?_
 refine WL.R (Rd.ldS u68_ rfl isz68 a0 (c.length) (by first | omega | (simp only [List.length_cons, List.length_nil]; omega)) rfl) <| WL.e <| ⟨⟨trivial, tT⟩, ?_⟩
 refine WH.br1 13 rfl <| WL.R (Rd.ld (g71_ _) rfl j rfl) <| WL.e <| ⟨⟨trivial, tT⟩, ?_⟩
 refine WH.tp 16 rfl (.slmT u71_ s68_ rfl rfl  (c.length) oO oO) ⟨trivial, tT⟩ rfl ?_
 refine WH.tp 17 rfl (.nck rfl) ⟨trivial, tT⟩ rfl ?_
 refine WH.tp 18 rfl (.fa u74_ rfl s68_ dD rfl) ⟨trivial, tT⟩ rfl ?_
 refine WH.br1 19 rfl <| WL.stB (o := 0) ((vwC ⟨d.h, fo, .slice ps (d :: c).reverse.length cps, pa, cl, it, lo, te, li, ar, itv⟩).toArray) rfl (rfl) rfl j isz68 rfl bL (by rw [bI]; rfl) (fun d8 ae q dL => ?_)
 have ae : Blk d8 bv _ _ := ae
 have q : Upd bv _ _ := q
 have bJ := nt_ ad q.size
 have ca := ou_ aB q (fun g hg e => by subst e; first | exact blk_sep i f dD _ hg rfl | (rcases HF _ hg with d | d <;> first | exact blk_sep i f dD _ d rfl | omega))
 have cb := kU aC q
 refine WL.e <| ⟨⟨trivial, tT⟩, ?_⟩
 refine WH.tp 20 rfl (.nck rfl) ⟨trivial, tT⟩ rfl ?_
 refine WH.tp 21 rfl (.fa u74_ rfl s71_ dD rfl) ⟨trivial, tT⟩ rfl ?_
 refine WH.br1 22 rfl <| WL.stC (o := 26) ((vwC ⟨d.h, fo, .slice ps c.length cps, pa, cl, it, lo, te, li, ar, itv⟩).toArray) s71_ rfl (rfl) rfl (rfl) ae bL (by rw [bo]; rfl) (fun aU af t dM => ?_)
 have af : Blk aU bv _ _ := af
 have t : Upd bv _ _ := t
 have dN := nt_ bJ t.size
 have cc := ou_ ca t (fun g hg e => by subst e; first | exact blk_sep i f dD _ hg rfl | (rcases HF _ hg with d | d <;> first | exact blk_sep i f dD _ d rfl | omega))
 have b9 := kU cb t
 refine WL.e <| ⟨⟨trivial, tT⟩, ?_⟩
 refine WH.done kR <| W.norm (W.ret0 rfl ?_)
 have hS := two_ty i f.ty
 obtain ⟨-, r2, r3, r4, r5⟩ := hO.rest b9 _ hS
 have ag : OwnM stY 68 B aU (.slice ps c.length cps) c.reverse := by
  have h2 := (cc).cutc c.length (by rw [List.length_reverse]; exact Nat.le_succ _)
  rwa [show ((d :: c).reverse).take c.length = c.reverse by rw [List.reverse_cons, List.take_append_of_le_length (by simp), List.take_of_length_le (by simp)]] at h2
 have hC : Chg (VwF bv ⟨sc.h, fo, .slice ps (d :: c).reverse.length cps, pa, cl, it, lo, te, li, ar, itv⟩ vp) (VwF bv ⟨d.h, fo, .slice ps c.length cps, pa, cl, it, lo, te, li, ar, itv⟩ vp) w aU := Chg.of_keep b9 (two_F (fun g hg => .inr (.inr (.inr (.inr (.inl hg)))))) (fun g hg => .inl (by unfold VwF at hg ⊢; cases ps <;> exact hg))
 refine eo_ _ _ aT rfl ⟨rfl, _, ⟨_, vp, its, c, cs, rfl, ⟨af, r2 dD dD, r3 dD, ag, r5 dD, ac, hO.lbp⟩, ?_⟩, hC⟩
 have hq := hR.mv (Frz.mv hC)
 have a6 := hq.sv
 rw [List.map_cons, b8] at a6
 obtain ⟨aF, aG⟩ := a6.head
 exact { hq with st := aF, sv := aG }
 refine WL.R (Rd.ld (g71_ _) rfl j rfl) <| WL.e <| ⟨⟨trivial, tT⟩, ?_⟩
 refine WH.tp 16 rfl (.slmT u71_ s68_ rfl rfl  (c.length) oO oO) ⟨trivial, tT⟩ rfl ?_
 refine WH.br1 9 rfl <| WL.R (Rd.ldS u68_ rfl isz68 a0 (c.length) (by first | omega | (simp only [List.length_cons, List.length_nil]; omega)) rfl) <| WL.e <| ⟨⟨trivial, tT⟩, ?_⟩
 refine WH.tp 17 rfl (.nck rfl) ⟨trivial, tT⟩ rfl ?_
 refine WH.tp 18 rfl (.fa u74_ rfl s68_ dD rfl) ⟨trivial, tT⟩ rfl ?_
 refine WH.br1 19 rfl <| WL.stB (o := 0) ((vwC ⟨d.h, fo, .slice ps (d :: c).reverse.length cps, pa, cl, it, lo, te, li, ar, itv⟩).toArray) rfl (rfl) rfl j isz68 rfl bL (by rw [bI]; rfl) (fun d9 ah u dO => ?_)
 have ah : Blk d9 bv _ _ := ah
 have u : Upd bv _ _ := u
 have bK := nt_ ad u.size
 have cd := ou_ aB u (fun g hg e => by subst e; first | exact blk_sep i f dD _ hg rfl | (rcases HF _ hg with d | d <;> first | exact blk_sep i f dD _ d rfl | omega))
 have cf := kU aC u
 refine WL.e <| ⟨⟨trivial, tT⟩, ?_⟩
 refine WH.tp 20 rfl (.nck rfl) ⟨trivial, tT⟩ rfl ?_
 refine WH.tp 21 rfl (.fa u74_ rfl s71_ dD rfl) ⟨trivial, tT⟩ rfl ?_
 refine WH.br1 22 rfl <| WL.stC (o := 26) ((vwC ⟨d.h, fo, .slice ps c.length cps, pa, cl, it, lo, te, li, ar, itv⟩).toArray) s71_ rfl (rfl) rfl (rfl) ah bL (by rw [bo]; rfl) (fun aV ai v dP => ?_)
 have ai : Blk aV bv _ _ := ai
 have v : Upd bv _ _ := v
 have dQ := nt_ bK v.size
 have cg := ou_ cd v (fun g hg e => by subst e; first | exact blk_sep i f dD _ hg rfl | (rcases HF _ hg with d | d <;> first | exact blk_sep i f dD _ d rfl | omega))
 have ba := kU cf v
 refine WL.e <| ⟨⟨trivial, tT⟩, ?_⟩
 refine WH.done kR <| W.norm (W.ret0 rfl ?_)
 have hS := two_ty i f.ty
 obtain ⟨-, r2, r3, r4, r5⟩ := hO.rest ba _ hS
 have ag : OwnM stY 68 B aV (.slice ps c.length cps) c.reverse := by
  have h2 := (cg).cutc c.length (by rw [List.length_reverse]; exact Nat.le_succ _)
  rwa [show ((d :: c).reverse).take c.length = c.reverse by rw [List.reverse_cons, List.take_append_of_le_length (by simp), List.take_of_length_le (by simp)]] at h2
 have hC : Chg (VwF bv ⟨sc.h, fo, .slice ps (d :: c).reverse.length cps, pa, cl, it, lo, te, li, ar, itv⟩ vp) (VwF bv ⟨d.h, fo, .slice ps c.length cps, pa, cl, it, lo, te, li, ar, itv⟩ vp) w aV := Chg.of_keep ba (two_F (fun g hg => .inr (.inr (.inr (.inr (.inl hg)))))) (fun g hg => .inl (by unfold VwF at hg ⊢; cases ps <;> exact hg))
 refine eo_ _ _ aT rfl ⟨rfl, _, ⟨_, vp, its, c, cs, rfl, ⟨ai, r2 dD dD, r3 dD, ag, r5 dD, ac, hO.lbp⟩, ?_⟩, hC⟩
 have hq := hR.mv (Frz.mv hC)
 have a6 := hq.sv
 rw [List.map_cons, b8] at a6
 obtain ⟨aF, aG⟩ := a6.head
 exact { hq with st := aF, sv := aG }
 refine WL.R (Rd.ld (g71_ _) rfl j rfl) <| WL.e <| ⟨⟨trivial, tT⟩, ?_⟩
 refine WH.tp 16 rfl (.slmT u71_ s68_ rfl rfl  (c.length) oO oO) ⟨trivial, tT⟩ rfl ?_
 refine WH.br1 5 rfl <| WL.R (Rd.ld (g71_ _) rfl j rfl) <| WL.e <| ⟨⟨trivial, tT⟩, ?_⟩
 refine WH.tp 8 rfl (.ixm u71_ s68_ rfl rfl (a0.isp (by first | omega | (simp only [List.length_cons, List.length_nil]; omega))) (c.length) oO oO) ⟨trivial, tT⟩ rfl ?_
 refine WH.br1 9 rfl <| WL.R (Rd.ldS u68_ rfl isz68 a0 (c.length) (by first | omega | (simp only [List.length_cons, List.length_nil]; omega)) rfl) <| WL.e <| ⟨⟨trivial, tT⟩, ?_⟩
 refine WH.tp 17 rfl (.nck rfl) ⟨trivial, tT⟩ rfl ?_
 refine WH.tp 18 rfl (.fa u74_ rfl s68_ dD rfl) ⟨trivial, tT⟩ rfl ?_
 refine WH.br1 19 rfl <| WL.stB (o := 0) ((vwC ⟨d.h, fo, .slice ps (d :: c).reverse.length cps, pa, cl, it, lo, te, li, ar, itv⟩).toArray) rfl (rfl) rfl j isz68 rfl bL (by rw [bI]; rfl) (fun da aj x dR => ?_)
 have aj : Blk da bv _ _ := aj
 have x : Upd bv _ _ := x
 have bM := nt_ ad x.size
 have ci := ou_ aB x (fun g hg e => by subst e; first | exact blk_sep i f dD _ hg rfl | (rcases HF _ hg with d | d <;> first | exact blk_sep i f dD _ d rfl | omega))
 have cj := kU aC x
 refine WL.e <| ⟨⟨trivial, tT⟩, ?_⟩
 refine WH.tp 20 rfl (.nck rfl) ⟨trivial, tT⟩ rfl ?_
 refine WH.tp 21 rfl (.fa u74_ rfl s71_ dD rfl) ⟨trivial, tT⟩ rfl ?_
 refine WH.br1 22 rfl <| WL.stC (o := 26) ((vwC ⟨d.h, fo, .slice ps c.length cps, pa, cl, it, lo, te, li, ar, itv⟩).toArray) s71_ rfl (rfl) rfl (rfl) aj bL (by rw [bo]; rfl) (fun aW ak y dS => ?_)
 have ak : Blk aW bv _ _ := ak
 have y : Upd bv _ _ := y
 have dU := nt_ bM y.size
 have ck := ou_ ci y (fun g hg e => by subst e; first | exact blk_sep i f dD _ hg rfl | (rcases HF _ hg with d | d <;> first | exact blk_sep i f dD _ d rfl | omega))
 have bb := kU cj y
 refine WL.e <| ⟨⟨trivial, tT⟩, ?_⟩
 refine WH.done kR <| W.norm (W.ret0 rfl ?_)
 have hS := two_ty i f.ty
 obtain ⟨-, r2, r3, r4, r5⟩ := hO.rest bb _ hS
 have ag : OwnM stY 68 B aW (.slice ps c.length cps) c.reverse := by
  have h2 := (ck).cutc c.length (by rw [List.length_reverse]; exact Nat.le_succ _)
  rwa [show ((d :: c).reverse).take c.length = c.reverse by rw [List.reverse_cons, List.take_append_of_le_length (by simp), List.take_of_length_le (by simp)]] at h2
 have hC : Chg (VwF bv ⟨sc.h, fo, .slice ps (d :: c).reverse.length cps, pa, cl, it, lo, te, li, ar, itv⟩ vp) (VwF bv ⟨d.h, fo, .slice ps c.length cps, pa, cl, it, lo, te, li, ar, itv⟩ vp) w aW := Chg.of_keep bb (two_F (fun g hg => .inr (.inr (.inr (.inr (.inl hg)))))) (fun g hg => .inl (by unfold VwF at hg ⊢; cases ps <;> exact hg))
 refine eo_ _ _ aT rfl ⟨rfl, _, ⟨_, vp, its, c, cs, rfl, ⟨ak, r2 dD dD, r3 dD, ag, r5 dD, ac, hO.lbp⟩, ?_⟩, hC⟩
 have hq := hR.mv (Frz.mv hC)
 have a6 := hq.sv
 rw [List.map_cons, b8] at a6
 obtain ⟨aF, aG⟩ := a6.head
 exact { hq with st := aF, sv := aG }
 have d5 := dF bA
 have hD := states_cm (V := V) (args := args) (op := op) aS aS
 refine W.regH 13 rfl mixed (fun w' => True ∧ True) (fun db a1 => ?_)
 have aH := Drew.le aq a1
 have bc := OwnM.drew i a1
 have bd := vs_ (w1 := db) aI (fun k hk hl => (by obtain ⟨m, rfl⟩ := a1; rfl))
 have aD := f.drew a1
 have ab := kt_ aE (kd_ a1)
 refine WH.tp 0 rfl (.mv rfl) ⟨trivial, tT⟩ rfl ?_
 refine WH.tp 1 rfl (.mv rfl) ⟨trivial, tT⟩ rfl ?_
 refine WH.tp 3 rfl (.mv rfl) ⟨trivial, tT⟩ rfl ?_
 refine WH.tp 4 rfl (.nck rfl) ⟨trivial, tT⟩ rfl ?_
 refine WH.tp 5 rfl (.fa u74_ rfl s68_ dD rfl) ⟨trivial, tT⟩ rfl ?_
 refine WH.tp 6 rfl (.fa u68_ rfl s42_ dD rfl) ⟨trivial, tT⟩ rfl ?_
 refine WH.br2 2 rfl 7 rfl ?_ ?_
 refine WL.ce hB_ rfl rfl ((vw_matrix (bd).get ha)) (fun dc dd al G => ?_) (fun ed dd al G => ?_)
 have bj := kB ab G
 exact pn_is (ee_ dc (by rw [hD, bind_err al]) (a5 _ bj))
 have bN := nt_ aH G.size
 have cm := OwnM.below bc G
 have be := aD.bl G
 have bf := kB ab G
 rw [bind_ok al] at hD
 refine WL.e <| ⟨⟨trivial, tT⟩, ?_⟩
 refine WH.br1 7 rfl <| WL.R (Rd.ldF (L := m6Y) u42_ rfl isz42 be (sc.h.ctm) (rfl) rfl) <| WL.e <| ⟨⟨trivial, tT⟩, ?_⟩
 refine WH.br1 8 rfl <| WL.ce hB_ rfl rfl ((vw_concat _ _ _)) (fun de df A J => ?_) (fun bO df A J => ?_)
 have bk := kB bf J
 exact pn_is (ee_ de (by rw [show sc.h.ctm = V.s.ctm from hR.st.ctm] at A; rw [hD]; exact bind_err A) (a5 _ bk))
 have bP := nt_ bN J.size
 have cn := OwnM.below cm J
 have co := be.bl J
 have cq := kB bf J
 rw [show sc.h.ctm = V.s.ctm from hR.st.ctm] at A
 rw [bind_ok A] at hD
 refine WL.e <| ⟨⟨trivial, tT⟩, ?_⟩
 refine WH.tp 9 rfl (.nck rfl) ⟨trivial, tT⟩ rfl ?_
 refine WH.tp 10 rfl (.fa u74_ rfl s68_ dD rfl) ⟨trivial, tT⟩ rfl ?_
 refine WH.tp 11 rfl (.fa u68_ rfl s42_ dD rfl) ⟨trivial, tT⟩ rfl ?_
 refine WH.br1 12 rfl <| WL.stB (o := 0) ((vwC ⟨{ sc.h with ctm := bO }, fo, .slice ps hs.reverse.length cps, pa, cl, it, lo, te, li, ar, itv⟩).toArray) rfl (rfl) rfl co isz42 rfl bL (rfl) (fun bQ am C dV => ?_)
 have am : Blk bQ bv _ _ := am
 have C : Upd bv _ _ := C
 have dW := nt_ bP C.size
 have cr := ou_ cn C (fun g hg e => by subst e; first | exact blk_sep i f dD _ hg rfl | (rcases HF _ hg with d | d <;> first | exact blk_sep i f dD _ d rfl | omega))
 have bg := kU cq C
 refine WL.e <| ⟨⟨trivial, tT⟩, ?_⟩
 refine WH.done kR <| W.norm (W.ret0 rfl ?_)
 have hS := two_ty i f.ty
 obtain ⟨-, r2, r3, -, r5⟩ := hO.rest bg _ hS
 have hC : Chg (VwF bv ⟨sc.h, fo, .slice ps hs.reverse.length cps, pa, cl, it, lo, te, li, ar, itv⟩ vp) (VwF bv ⟨{ sc.h with ctm := bO }, fo, .slice ps hs.reverse.length cps, pa, cl, it, lo, te, li, ar, itv⟩ vp) w bQ := Chg.of_keep bg (two_F (fun g hg => .inr (.inr (.inr (.inr (.inl hg)))))) (fun g hg => .inl hg)
 refine eo_ _ _ hD rfl ⟨rfl, _, ⟨_, vp, its, hs, cs, rfl, ⟨am, r2 dD dD, r3 dD, cr, r5 dD, ac, hO.lbp⟩, ?_⟩, hC⟩
 have hq := hR.mv (Frz.mv hC)
 exact { hq with st := { hq.st with ctm := rfl } }
 refine WL.R (Rd.ldF (L := m6Y) u42_ rfl isz42 aD (sc.h.ctm) (rfl) rfl) <| WL.e <| ⟨⟨trivial, tT⟩, ?_⟩
 refine WH.br1 2 rfl <| WL.ce hB_ rfl rfl ((vw_matrix (bd).get ha)) (fun dg dh an K => ?_) (fun ee dh an K => ?_)
 have bm := kB ab K
 exact pn_is (ee_ dg (by rw [hD, bind_err an]) (a5 _ bm))
 have bR := nt_ aH K.size
 have ct := OwnM.below bc K
 have cu := aD.bl K
 have bh := kB ab K
 rw [bind_ok an] at hD
 refine WL.e <| ⟨⟨trivial, tT⟩, ?_⟩
 refine WH.br1 8 rfl <| WL.ce hB_ rfl rfl ((vw_concat _ _ _)) (fun di dj D N => ?_) (fun bS dj D N => ?_)
 have bn := kB bh N
 exact pn_is (ee_ di (by rw [show sc.h.ctm = V.s.ctm from hR.st.ctm] at D; rw [hD]; exact bind_err D) (a5 _ bn))
 have bT := nt_ bR N.size
 have cv := OwnM.below ct N
 have cw := cu.bl N
 have cy := kB bh N
 rw [show sc.h.ctm = V.s.ctm from hR.st.ctm] at D
 rw [bind_ok D] at hD
 refine WL.e <| ⟨⟨trivial, tT⟩, ?_⟩
 refine WH.tp 9 rfl (.nck rfl) ⟨trivial, tT⟩ rfl ?_
 refine WH.tp 10 rfl (.fa u74_ rfl s68_ dD rfl) ⟨trivial, tT⟩ rfl ?_
 refine WH.tp 11 rfl (.fa u68_ rfl s42_ dD rfl) ⟨trivial, tT⟩ rfl ?_
 refine WH.br1 12 rfl <| WL.stB (o := 0) ((vwC ⟨{ sc.h with ctm := bS }, fo, .slice ps hs.reverse.length cps, pa, cl, it, lo, te, li, ar, itv⟩).toArray) rfl (rfl) rfl cw isz42 rfl bL (rfl) (fun bU ao E dX => ?_)
 have ao : Blk bU bv _ _ := ao
 have E : Upd bv _ _ := E
 have dY := nt_ bT E.size
 have cz := ou_ cv E (fun g hg e => by subst e; first | exact blk_sep i f dD _ hg rfl | (rcases HF _ hg with d | d <;> first | exact blk_sep i f dD _ d rfl | omega))
 have bi := kU cy E
 refine WL.e <| ⟨⟨trivial, tT⟩, ?_⟩
 refine WH.done kR <| W.norm (W.ret0 rfl ?_)
 have hS := two_ty i f.ty
 obtain ⟨-, r2, r3, -, r5⟩ := hO.rest bi _ hS
 have hC : Chg (VwF bv ⟨sc.h, fo, .slice ps hs.reverse.length cps, pa, cl, it, lo, te, li, ar, itv⟩ vp) (VwF bv ⟨{ sc.h with ctm := bS }, fo, .slice ps hs.reverse.length cps, pa, cl, it, lo, te, li, ar, itv⟩ vp) w bU := Chg.of_keep bi (two_F (fun g hg => .inr (.inr (.inr (.inr (.inl hg)))))) (fun g hg => .inl hg)
 refine eo_ _ _ hD rfl ⟨rfl, _, ⟨_, vp, its, hs, cs, rfl, ⟨ao, r2 dD dD, r3 dD, cz, r5 dD, ac, hO.lbp⟩, ?_⟩, hC⟩
 have hq := hR.mv (Frz.mv hC)
 exact { hq with st := { hq.st with ctm := rfl } }
end
end
section
def StN (N : Nat) (Q : World → Prop) (w : World) : Prop := ∃ w0 : World, w0.heap.size = N ∧ Q w0 ∧ ∀ k, k < N → w.heap[k]? = w0.heap[k]?
theorem StN.of {Q : World → Prop} {w : World} (h : Q w) : StN w.heap.size Q w := ⟨w, rfl, h, fun _ _ => rfl⟩
theorem StN.same {N : Nat} {Q : World → Prop} {w w1 : World} (h : StN N Q w) (hb : ∀ k, k < N → k < w.heap.size → w1.heap[k]? = w.heap[k]?) : StN N Q w1 := by
 obtain ⟨e, b, f, c⟩ := h
 refine ⟨e, b, f, fun k hk => (hb k hk ?_).trans (c k hk)⟩
 rcases Nat.lt_or_ge k w.heap.size with a | a
 ·
  exact a
 ·
  have d := c k hk
  rw [Array.getElem?_eq_none a, Array.getElem?_eq_getElem (b ▸ hk)] at d
  cases d
abbrev ss_ := @StN.same
theorem StN.size {N : Nat} {Q : World → Prop} {w : World} (h : StN N Q w) : N ≤ w.heap.size := by
  obtain ⟨a, rfl, e, c⟩ := h
  rcases Nat.eq_zero_or_pos a.heap.size with d | d
  · omega
  · have b := c (a.heap.size - 1) oO
    rw [Array.getElem?_eq_getElem (by omega : a.heap.size - 1 < a.heap.size)] at b
    have := (Array.getElem?_eq_some_iff.1 b).1
    omega
theorem PthAt.ofN {N B bp : Nat} {m : Int} {P : PathP} {v : Value} {w : World} (h : StN N (fun w => PthAt B w bp m P v) w) : PthAt B w bp m P v := by
 have hs := h.size
 obtain ⟨c, rfl, a, b⟩ := h
 exact ⟨(b _ a.blk.lt).trans a.blk, a.own.same fun g hg => b g (a.own.lt g hg).2, a.len, nt_ a.base hs⟩
def linesV : PathP → List PointV → Except Int PathP
 | P, [] => .ok P
 | P, a :: r => stepV (pLine 4096 P a) >>= fun Q => linesV Q r
theorem ledsV_len {m : M6} : ∀ {k : Nat} {l : List Int} {q : List PointV}, l.length = 2 * k → ledsV m l = .ok q → q.length = k
 | 0, l, q, hl, h => by
  obtain rfl := List.eq_nil_of_length_eq_zero hl
  cases h; rfl
 | k + 1, [], q, hl, h => by simp at hl
 | k + 1, [x], q, hl, h => by simp at hl; omega
 | k + 1, x :: y :: r, q, hl, h => by
  have h : (ledV m x y >>= fun p => ledsV m r >>= fun q => pure (p :: q)) = .ok q := h
  obtain ⟨p, -, h⟩ := bindE h
  obtain ⟨q1, h2, h⟩ := bindE h
  obtain rfl := pureE h
  have := ledsV_len (k := k) (by simp at hl; omega) h2
  simp [this]
def rectV (c : M6) (P : PathP) (args : List PV) : Except Int PathP :=
 numsV args 4 >>= fun n => plusV (n.getD 0 0) (n.getD 2 0) >>= fun x => plusV (n.getD 1 0) (n.getD 3 0) >>= fun y =>
  ledsV c [n.getD 0 0, n.getD 1 0, x, n.getD 1 0, x, y, n.getD 0 0, y] >>= fun l => stepV (pMove 4096 P (l.getD 0 pt0)) >>= fun p0 => linesV p0 (l.drop 1) >>= fun p3 => stepV (pClose 4096 p3)
theorem plus_err {a b k : Int} (h : plusV a b = .error k) : k = 22 := by
 unfold plusV at h; split at h
 ·
  cases h
 ·
  cases h; rfl
theorem bind_err2 {α β γ : Type} {x : Except Int α} {y : Except Int β} {f : α → β → Except Int γ} {k : Int} (h : y = .error k) (hx : ∀ j, x = .error j → j = k) : (x >>= fun a => y >>= fun b => f a b) = .error k := by
 cases hx0 : x with
 | error j => rw [hx j hx0]; rfl
 | ok a => rw [h]; rfl
theorem step_okE {r : PathP × Int} {u : Unit} (h : stepE r.2 = .ok u) : stepV r = .ok r.1 := by rw [stepE_V, h]; rfl
theorem step_errE {r : PathP × Int} {k : Int} (h : stepE r.2 = .error k) : stepV r = .error k := by rw [stepE_V, h]; rfl
abbrev PthE (B : Nat) (bp : Nat) (vp : Value) (w : World) (res : Except Int PathP) : Ending → World → Prop :=
 EndsV 30 res (fun P1 v w' => v = .tuple #[] ∧ KeepB w.heap.size [bp, vb vp bp] w w' ∧ ∃ v1, PthAt B w' bp 4096 P1 v1 ∧ Grew w vp v1) (fun w' => Below B w w')
theorem PthAt.ctm {B bp : Nat} {w w1 : World} {P : PathP} {v : Value} (h : PthAt B w bp 4096 P v) (hB : B ≤ bp) (hK : KeepB w.heap.size [bp, vb v bp] w w1) : Below B w w1 := hK.below h.base (fun k hk => by
 simp only [List.mem_cons, List.not_mem_nil, or_false] at hk
 rcases hk with rfl | rfl
 ·
  exact hB
 ·
  rcases vb_or v bp with h1 | h1
  ·
   rw [h1]; exact hB
  ·
   exact (h.own.lt _ h1).1)
theorem vb_cases {v v1 : Value} {N b : Nat} (h : ∀ g, v1.ownBlock = some g → v.ownBlock = some g ∨ N ≤ g) : vb v1 b = b ∨ vb v1 b = vb v b ∨ N ≤ vb v1 b := by
 rcases vb_or v1 b with a | a
 ·
  exact .inl a
 ·
  rcases h _ a with c | c
  ·
   exact .inr (.inl (vb_own c).symm)
  ·
   exact .inr (.inr c)
theorem ty_ne {B bp : Nat} {w1 : World} {P : PathP} {v : Value} {b : Nat} {cs : Array Value} (hP : PthAt B w1 bp 4096 P v) (hb : Blk w1 b cs 74) : b ≠ bp ∧ b ≠ vb v bp := by
 refine ⟨fun e => ?_, fun e => ?_⟩
 ·
  have c := hb.ty; have a := hP.blk.ty
  rw [e] at c
  exact ab_ (c.uniq a) dD
 ·
  obtain ⟨t, ht, a⟩ := hP.own.tyv hP.blk.ty
  rw [← e] at a
  have := hb.ty.uniq a
  subst this
  exact ab_ ht dD
theorem pPart_block {m c a : Nat} {p : Option Addr} (h : p = some (pA p)) : (pA (pPartM m p c a)).block = (pA p).block := by
 unfold pPartM
 split
 ·
  rfl
 ·
  rw [h]; exact add_block _ _
section
variable {B : Nat} {fs : Fcx} {w : World} {bv : Nat} {F : Nat → Prop} {V : Vw} {args : List PV}
set_option maxHeartbeats 3200000 in
theorem vw_rectangle {H : VwH} {vp : Value} (h : Vwr B fs w bv F V args) (ha : args.length ≤ 32) (hbk : Blk w bv (vwC H).toArray 74) (hP : PthAt B w H.path 4096 V.path vp) (hc : H.s.ctm = V.s.ctm) (hlb : B ≤ H.path) :
  Calls Tryz.prog 83 #[.pointer (some ⟨bv, 0, none⟩)] w (PthE B H.path vp w (rectV V.s.ctm V.path args)) := by
 have bB := VwrN.of h
 obtain ⟨s, fo, sa, pa, aF, it, lo, te, li, ar, itv⟩ := H
 simp only at hP hc hlb ⊢
 have cc := hP.blk.lt
 have cG := hbk.lt
 have cO := vb_lt hP.own cc
 obtain ⟨cP, cQ⟩ := ty_ne hP hbk
 have a5 := fun w1 => hP.ctm (w1 := w1) hlb
 obtain ⟨R, hD⟩ : ∃ R, rectV V.s.ctm V.path args = R := ⟨_, rfl⟩
 rw [hD]
 unfold rectV at hD
 have bC := StN.of (Q := fun w => PthAt B w pa 4096 V.path vp) hP
 refine W.e func83 rfl ntmps83 bL ?_
 have bo := KeepB.refl w.heap.size ([pa, vb vp pa]) w
 refine W.sr <| WL.M rfl <| WL.cx hB_ rfl rfl ((vw_numV 4 (bB).get ha oO)) (fun k3 w1 ab a9 => ?_) (fun a2 x4 w1 ab a9 => ?_)
 have bf := kB bo a9
 exact pn_is (ee_ k3 (by rw [← hD, bind_err ab]) (a5 _ bf))
 have cd := ss_ (w1 := w1) bC (fun k hk hl => a9.1.block k hl)
 have cf := hbk.bl a9.1
 have cg := kB bo a9.1
 obtain ⟨nl, rfl⟩ : ∃ l, l = a2 := ⟨_, rfl⟩
 obtain ⟨pn, cn, evn, ci, cR, -⟩ := a9.2.row
 subst evn
 have az := (numsV_ok ab).1
 have bp := ci.ofI
 have cS := bp.lt
 rw [bind_ok ab, getD0 az dD, getD0 az dD, getD0 az dD, getD0 az dD] at hD
 refine WL.Z rfl <| W.cut (α := Int × Int) (fun t => [(0, .pointer (some ⟨bv, 0, none⟩)), (2, .slice pn nl.length cn), (3, .int .i64 t.1), (4, .int .i64 t.2)]) (fun t w' => KeepB w.heap.size [pa, vb vp pa] w w' ∧ Blk w' bv (vwC ⟨s, fo, sa, pa, aF, it, lo, te, li, ar, itv⟩).toArray 74 ∧ RowAt intV w' pn nl ∧ StN w.heap.size (fun w => PthAt B w pa 4096 V.path vp) w' ∧ plusV nl[0] nl[2] = .ok t.1 ∧ plusV nl[1] nl[3] = .ok t.2) ?_ (fun t w1 hR => ?_)
 refine W.regH 16 rfl mixed (fun w' => RowAt intV w' pn nl ∧ True) (fun w9 aA => ?_)
 have bD := ss_ (w1 := w9) cd (fun k hk hl => (by obtain ⟨m, rfl⟩ := aA; rfl))
 have bE := cf.drew aA
 have f := bp.drew aA
 have aG := kt_ cg (kd_ aA)
 refine WH.tp 0 rfl (.mv rfl) ⟨f, tT⟩ rfl ?_
 refine WH.tp 1 rfl (.ixb u39_ s3_ rfl rfl (f.isp (by first | omega | exact nz_ _)) (0) (rfl) oO) ⟨f, tT⟩ rfl ?_
 refine WH.tk 2 rfl (fun w' hw' => Rd.ldc (g3_ _) rfl ((hw'.1).cells (0) oO)) ⟨f, tT⟩ rfl ?_
 refine WH.tp 3 rfl (.mv rfl) ⟨f, tT⟩ rfl ?_
 refine WH.tp 4 rfl (.ixb u39_ s3_ rfl rfl (f.isp (by first | omega | exact nz_ _)) (2) (rfl) oO) ⟨f, tT⟩ rfl ?_
 refine WH.tk 5 rfl (fun w' hw' => Rd.ldc (g3_ _) rfl ((hw'.1).cells (2) oO)) ⟨f, tT⟩ rfl ?_
 refine WH.tp 7 rfl (.mv rfl) ⟨f, tT⟩ rfl ?_
 refine WH.tp 8 rfl (.ixb u39_ s3_ rfl rfl (f.isp (by first | omega | exact nz_ _)) (1) (rfl) oO) ⟨f, tT⟩ rfl ?_
 refine WH.tk 9 rfl (fun w' hw' => Rd.ldc (g3_ _) rfl ((hw'.1).cells (1) oO)) ⟨f, tT⟩ rfl ?_
 refine WH.tp 10 rfl (.mv rfl) ⟨f, tT⟩ rfl ?_
 refine WH.tp 11 rfl (.ixb u39_ s3_ rfl rfl (f.isp (by first | omega | exact nz_ _)) (3) (rfl) oO) ⟨f, tT⟩ rfl ?_
 refine WH.tk 12 rfl (fun w' hw' => Rd.ldc (g3_ _) rfl ((hw'.1).cells (3) oO)) ⟨f, tT⟩ rfl ?_
 refine WH.br1 6 rfl <| WL.ce hB_ rfl rfl ((vw_plus _ _ _)) (fun cj bq ac P => ?_) (fun cT bq ac P => ?_)
 have aH := kB aG P
 exact pn_is (ee_ cj (by rw [← hD]; exact bind_err ac) (a5 _ aH))
 have bG := ss_ (w1 := bq) bD (fun k hk hl => P.block k hl)
 have bH := bE.bl P
 have ai := RowAt.below f P (fun n => f.lt n)
 have aI := kB aG P
 have bI := ac
 refine WL.e <| ⟨⟨ai, tT⟩, ?_⟩
 refine WH.br1 13 rfl <| WL.ce hB_ rfl rfl ((vw_plus _ _ _)) (fun ck bt Y T => ?_) (fun cU bt Y T => ?_)
 have aJ := kB aI T
 exact pn_is (ee_ ck (by rw [← hD]; exact bind_err2 Y (fun j hj => (plus_err hj).trans (plus_err Y).symm)) (a5 _ aJ))
 have bJ := ss_ (w1 := bt) bG (fun k hk hl => T.block k hl)
 have bK := bH.bl T
 have ad := RowAt.below ai T (fun n => ai.lt n)
 have bM := kB aI T
 have bN := Y
 refine WL.e <| ⟨⟨ad, tT⟩, ?_⟩
 refine WH.tp 14 rfl (.as rfl) ⟨ad, tT⟩ rfl ?_
 refine WH.tp 15 rfl (.as rfl) ⟨ad, tT⟩ rfl ?_
 refine WH.done kR ?_
 exact ⟨(_, _), ⟨rfl, rfl, rfl, rfl, tT⟩, bM, bK, ad, bJ, bI, bN⟩
 obtain ⟨⟨x, y⟩, cm⟩ : ∃ u, u = t := ⟨t, rfl⟩
 subst cm
 obtain ⟨j1, j2, j3, j4, j5, j6⟩ := hR
 simp only at j5 j6
 rw [bind_ok j5, bind_ok j6] at hD
 refine W.seq <| W.regH 20 rfl mixed (fun w' => RowAt intV w' pn nl ∧ True) (fun co ae => ?_)
 have bO := ss_ (w1 := co) j4 (fun k hk hl => (by obtain ⟨m, rfl⟩ := ae; rfl))
 have aK := j2.drew ae
 have d := j3.drew ae
 have aL := kt_ j1 (kd_ ae)
 refine WH.tp 0 rfl (.mv rfl) ⟨d, tT⟩ rfl ?_
 refine WH.tp 1 rfl (.mv rfl) ⟨d, tT⟩ rfl ?_
 refine WH.tp 2 rfl (.ixb u39_ s3_ rfl rfl (d.isp (by first | omega | exact nz_ _)) (0) (rfl) oO) ⟨d, tT⟩ rfl ?_
 refine WH.tk 3 rfl (fun w' hw' => Rd.ldc (g3_ _) rfl ((hw'.1).cells (0) oO)) ⟨d, tT⟩ rfl ?_
 refine WH.tp 4 rfl (.mv rfl) ⟨d, tT⟩ rfl ?_
 refine WH.tp 5 rfl (.ixb u39_ s3_ rfl rfl (d.isp (by first | omega | exact nz_ _)) (1) (rfl) oO) ⟨d, tT⟩ rfl ?_
 refine WH.tk 6 rfl (fun w' hw' => Rd.ldc (g3_ _) rfl ((hw'.1).cells (1) oO)) ⟨d, tT⟩ rfl ?_
 refine WH.tp 7 rfl (.mv rfl) ⟨d, tT⟩ rfl ?_
 refine WH.tp 8 rfl (.mv rfl) ⟨d, tT⟩ rfl ?_
 refine WH.tp 9 rfl (.ixb u39_ s3_ rfl rfl (d.isp (by first | omega | exact nz_ _)) (1) (rfl) oO) ⟨d, tT⟩ rfl ?_
 refine WH.tk 10 rfl (fun w' hw' => Rd.ldc (g3_ _) rfl ((hw'.1).cells (1) oO)) ⟨d, tT⟩ rfl ?_
 refine WH.tp 11 rfl (.mv rfl) ⟨d, tT⟩ rfl ?_
 refine WH.tp 12 rfl (.mv rfl) ⟨d, tT⟩ rfl ?_
 refine WH.tp 13 rfl (.mv rfl) ⟨d, tT⟩ rfl ?_
 refine WH.tp 14 rfl (.ixb u39_ s3_ rfl rfl (d.isp (by first | omega | exact nz_ _)) (0) (rfl) oO) ⟨d, tT⟩ rfl ?_
 refine WH.tk 15 rfl (fun w' hw' => Rd.ldc (g3_ _) rfl ((hw'.1).cells (0) oO)) ⟨d, tT⟩ rfl ?_
 refine WH.tp 16 rfl (.mv rfl) ⟨d, tT⟩ rfl ?_
 refine WH.br1 17 rfl <| WL.bsl (ps := _) u39_ s3_ z3_ rfl rfl rfl rfl rfl pR rfl (fun cV bP aj bg a0 cD => ?_)
 have bQ := ss_ (w1 := bP) bO (fun k hk hl => a0.other k oO)
 have bR := bgl aj aK.lt
 have aM := aK.un a0 bR
 have bh := fun n => aj ▸ d.lt n
 have ak := RowAt.upd d a0 (fun n => nn_ (bh n))
 have aN := bge aj aL.size
 have am := kt_ aL (kn_ a0 aN)
 have hq := RowAt.lit (V := intV) (l := [nl[0], nl[1], x, nl[1], x, y, nl[0], y]) bg (rfl)
 refine WL.e <| ⟨⟨ak, tT⟩, ?_⟩
 refine WH.br1 18 rfl <| WL.cx hB_ rfl rfl ((vw_leds bv ⟨s, fo, sa, pa, aF, it, lo, te, li, ar, itv⟩ _ [nl[0], nl[1], x, nl[1], x, y, nl[0], y] 8 4 _ aM hq rfl oO (nr_ 8))) (fun cq aO E G => ?_) (fun cr cW aO E G => ?_)
 have aP := kB am G
 exact pn_is (ee_ cq (by rw [hc] at E; rw [← hD]; exact bind_err E) (a5 _ aP))
 have bS := ss_ (w1 := aO) bQ (fun k hk hl => G.1.block k hl)
 have A := aM.bl G.1
 have aQ := RowAt.below ak G.1 (fun n => ak.lt n)
 have bT := kB am G.1
 obtain ⟨ls, rfl⟩ : ∃ l, l = cr := ⟨_, rfl⟩
 obtain ⟨pl, cl, evl, an, bU, cH, -⟩ := G.2.row
 subst evl
 have cX := ledsV_len (k := 4) rfl E
 rw [hc] at E
 rw [bind_ok E, show ls.getD 0 pt0 = ls[0] by rw [List.getD_eq_getElem?_getD, List.getElem?_eq_getElem oO]; rfl] at hD
 have ao : 0 < ls.length → w.heap.size ≤ (pA pl).block := fun n => nt_ am.size (bU _ (an.isp n))
 refine WL.e <| ⟨⟨aQ, tT⟩, ?_⟩
 refine WH.tp 19 rfl (.as rfl) ⟨aQ, tT⟩ rfl ?_
 refine WH.done kR <| W.seq <| W.regH 9 rfl mixed (fun w' => w'.heap[bv]? = aO.heap[bv]? ∧ RowM pointL w' pl ls ∧ True) (fun bu af => ?_)
 have bV := ss_ (w1 := bu) bS (fun k hk hl => (by obtain ⟨m, rfl⟩ := af; rfl))
 have C := A.drew af
 have o := an.drew af
 have ap := kt_ bT (kd_ af)
 refine WH.tp 0 rfl (.mv rfl) ⟨(C).trans (A).symm, o, tT⟩ rfl ?_
 refine WH.tp 1 rfl (.nck rfl) ⟨(C).trans (A).symm, o, tT⟩ rfl ?_
 refine WH.tp 2 rfl (.fa u74_ rfl s69_ dD rfl) ⟨(C).trans (A).symm, o, tT⟩ rfl ?_
 refine WH.tk 3 rfl (fun w' hw' => Rd.ld (g69_ _) rfl ((hw'.1).trans A) rfl) ⟨(C).trans (A).symm, o, tT⟩ rfl ?_
 refine WH.tp 4 rfl (.mv rfl) ⟨(C).trans (A).symm, o, tT⟩ rfl ?_
 refine WH.tp 5 rfl (.ixm u133_ s57_ rfl rfl (o.isp (by first | omega | (simp only [List.length_cons, List.length_nil]; omega))) (0) (rfl) oO) ⟨(C).trans (A).symm, o, tT⟩ rfl ?_
 refine WH.tk 6 rfl (fun w' hw' => Rd.ldS u57_ rfl isz57 (hw'.2.1) (0) (by first | omega | (simp only [List.length_cons, List.length_nil]; omega)) rfl) ⟨(C).trans (A).symm, o, tT⟩ rfl ?_
 refine WH.br1 7 rfl <| WL.c1 hB_ rfl rfl ((pth_Move B pa 4096 vp V.path ls[0] _ (PthAt.ofN bV))) (fun ct a6 => ?_)
 have aR := Blk.keepB C a6.1 C.lt (by simp only [List.mem_cons, List.not_mem_nil, or_false, not_or, not_false_eq_true]; omega)
 have aq := rk_ o a6.1 (fun n => ⟨o.lt n, by first | simpa using (ao) n | (have q := (ao) n; have q1 := o.lt n; simp only [List.mem_cons, List.not_mem_nil, or_false, not_or, not_false_eq_true]; omega)⟩)
 have aS := kt_ ap (KeepB.wide a6.1 ap.size (by simp <;> omega))
 obtain ⟨v1, cu, cv⟩ := a6.2
 have bW := StN.of (Q := fun w => PthAt B w pa 4096 _ v1) cu
 have aT := (o).lt
 have bw := ap.size
 obtain ⟨N, hN⟩ : ∃ N, N = bu.heap.size := ⟨_, rfl⟩
 rw [← hN] at aT bw
 have bX : N ≤ ct.heap.size := hN ▸ (a6.1).size
 refine WL.e <| ⟨⟨(aR).trans (A).symm, aq, tT⟩, ?_⟩
 refine WH.br1 8 rfl <| WL.ce hB_ rfl rfl ((vw_step _ _)) (fun cw aU ag U => ?_) (fun cY aU ag U => ?_)
 have aV := kB aS U
 exact pn_is (ee_ cw (by rw [← hD]; exact bind_err (step_errE ag)) (a5 _ aV))
 have aW := ss_ (w1 := aU) bW (fun k hk hl => U.block k hl)
 have aX := aR.bl U
 have aY := rb_ aq U (fun n => aq.lt n)
 have bY := kB aS U
 rw [bind_ok (step_okE ag)] at hD
 refine WL.e <| ⟨⟨(aX).trans (A).symm, aY, tT⟩, ?_⟩
 refine WH.done kR <| W.seq <| W.sr <| WL.M rfl <| WL.O (.slmF u133_ s57_ rfl rfl  (1) (rfl) oO) <| ?_
 have cy : RowM pointL aU (pPartM 2 pl cl 1) (ls.drop 1) := by
  have h2 := RowM.part (a := 1) (b := 4) (c := cl) aY oO oO oO
  rwa [List.take_of_length_le (by rw [List.length_drop]; omega)] at h2
 have cZ : (ls.drop 1).length = 3 := by rw [List.length_drop]; omega
 have aZ : 0 < (ls.drop 1).length → w.heap.size ≤ (pA (pPartM 2 pl cl 1)).block ∧ (pA (pPartM 2 pl cl 1)).block < N := fun _ => by
  rw [pPart_block (an.isp oO)]; exact ⟨ao oO, aT oO⟩
 refine WL.O (.lenS u133_ rfl) <| WL.M rfl <| WL.e <| W.b <| W.loop (α := Nat × PathP × Value) (fun t => [(0, .pointer (some ⟨bv, 0, none⟩)), (53, .slice (pPartM 2 pl cl 1) (ls.length - 1) (cl - 1)), (54, .int .i64 ((ls.length - 1 : Nat) : Int)), (55, .int .i64 (t.1 : Int))]) (fun t w' => KeepB w.heap.size [pa, vb vp pa] w w' ∧ Blk w' bv (vwC ⟨s, fo, sa, pa, aF, it, lo, te, li, ar, itv⟩).toArray 74 ∧ RowM pointL w' (pPartM 2 pl cl 1) (ls.drop 1) ∧ PthAt B w' pa 4096 t.2.1 t.2.2 ∧ (∀ g, t.2.2.ownBlock = some g → vp.ownBlock = some g ∨ N ≤ g) ∧ N ≤ w'.heap.size ∧ t.1 ≤ 3 ∧ (linesV t.2.1 ((ls.drop 1).drop t.1) >>= fun p3 => stepV (pClose 4096 p3)) = R) (fun t => 3 - t.1) ((0, _, _)) ⟨rfl, rfl, rfl, rfl, tT⟩ (⟨bY, aX, cy, PthAt.ofN aW, fun g hg => hN ▸ cv g hg, nt_ bX (aW).size, nl_ _, hD⟩) (fun t w1 hR => ?_)
 obtain ⟨⟨i, Pi, vi⟩, cz⟩ : ∃ u, u = t := ⟨t, rfl⟩
 subst cz
 obtain ⟨q1, q2, q3, q4, q5, a', q6, q7⟩ := hR
 simp only at q4 q5 q6 q7
 have au := StN.of (Q := fun w => PthAt B w pa 4096 Pi vi) q4
 have cI := vb_lt q4.own q4.blk.lt
 have cJ := vb_cases (b := pa) q5
 obtain ⟨cK, cL⟩ := ty_ne q4 q2
 refine W.sr <| WL.O (.lss rfl rfl) <| WL.e <| W.seq <| W.cond rfl (fun b0 => ?_) (fun b0 => ?_)
 have bZ := dT b0
 have bx : i < (ls.drop 1).length := by omega
 have aa : (stepV (pLine 4096 Pi (ls.drop 1)[i]) >>= fun Q => linesV Q ((ls.drop 1).drop (i + 1))) >>= (fun p3 => stepV (pClose 4096 p3)) = R := by rw [← q7, List.drop_eq_getElem_cons bx]; rfl
 refine W.k <| W.seq <| W.b <| W.sr <| WL.O (.ixm u133_ s57_ rfl rfl (q3.isp (by first | omega | (simp only [List.length_cons, List.length_nil]; omega))) (i) (rfl) oO) <| WL.R (Rd.ldS u57_ rfl isz57 q3 (i) (by first | omega | (simp only [List.length_cons, List.length_nil]; omega)) rfl) <| WL.al z57_ rfl (fun bz b' av bi a1 cE => ?_)
 have c0 := ss_ (w1 := b') au (fun k hk hl => a1.other k oO)
 have c2 := bgl av q2.lt
 have c3 := q2.un a1 c2
 have aB := fun n => av ▸ q3.lt n
 have c4 := RowM.upd q3 a1 (fun n => nn_ (aB n))
 have b1 := bge av q1.size
 have c5 := kt_ q1 (kn_ a1 b1)
 refine WL.stL rfl rfl bi isz57 rfl rfl (fun b2 v a3 cF => ?_)
 have c6 := ss_ (w1 := b2) c0 (fun k hk hl => a3.other k (by first | ((try simp only) <;> omega) | (have := hk.1; ((try simp only) <;> omega))))
 have D := c3.up a3
 have c7 := RowM.upd c4 a3 (fun n => nn_ (aB n))
 have c8 := kU c5 a3
 refine WL.e <| W.regH 7 rfl mixed (fun w' => w'.heap[bv]? = b2.heap[bv]? ∧ w'.heap[bz]? = b2.heap[bz]? ∧ True) (fun cA a7 => ?_)
 have aw := ss_ (w1 := cA) c6 (fun k hk hl => (by obtain ⟨m, rfl⟩ := a7; rfl))
 have J := D.drew a7
 have K := v.drew a7
 have ax := c7.drew a7
 have b3 := kt_ c8 (kd_ a7)
 refine WH.tp 0 rfl (.mv rfl) ⟨(J).trans (D).symm, (K).trans (v).symm, tT⟩ rfl ?_
 refine WH.tp 1 rfl (.nck rfl) ⟨(J).trans (D).symm, (K).trans (v).symm, tT⟩ rfl ?_
 refine WH.tp 2 rfl (.fa u74_ rfl s69_ dD rfl) ⟨(J).trans (D).symm, (K).trans (v).symm, tT⟩ rfl ?_
 refine WH.tk 3 rfl (fun w' hw' => Rd.ld (g69_ _) rfl ((hw'.1).trans D) rfl) ⟨(J).trans (D).symm, (K).trans (v).symm, tT⟩ rfl ?_
 refine WH.tk 4 rfl (fun w' hw' => Rd.ldA rfl ((hw'.2.1).trans v) u57_ rfl isz57) ⟨(J).trans (D).symm, (K).trans (v).symm, tT⟩ rfl ?_
 refine WH.br1 5 rfl <| WL.c1 hB_ rfl rfl ((pth_Line B pa 4096 vi Pi (ls.drop 1)[i] _ (PthAt.ofN aw))) (fun cB X => ?_)
 have b4 := Blk.keepB J X.1 J.lt (by simp only [List.mem_cons, List.not_mem_nil, or_false, not_or, not_false_eq_true]; omega)
 have b5 := Blk.keepB K X.1 K.lt (by simp only [List.mem_cons, List.not_mem_nil, or_false, not_or, not_false_eq_true]; omega)
 have b6 := rk_ ax X.1 (fun n => ⟨ax.lt n, by first | simpa using (aZ) n | (have q := (aZ) n; have q1 := ax.lt n; simp only [List.mem_cons, List.not_mem_nil, or_false, not_or, not_false_eq_true]; omega)⟩)
 have b7 := kt_ b3 (KeepB.wide X.1 b3.size (by simp <;> omega))
 obtain ⟨v2, b8, b9⟩ := X.2
 have ay := StN.of (Q := fun w => PthAt B w pa 4096 _ v2) b8
 have ba : ∀ g, v2.ownBlock = some g → vp.ownBlock = some g ∨ N ≤ g := fun g hg => (b9 g hg).elim (q5 g) (fun h => .inr (nt_ (nt_ a' (aw).size) h))
 have c9 : N ≤ cB.heap.size := nt_ (nt_ a' (aw).size) (X.1).size
 refine WL.e <| ⟨⟨(b4).trans (D).symm, (b5).trans (v).symm, tT⟩, ?_⟩
 refine WH.br1 6 rfl <| WL.ce hB_ rfl rfl ((vw_step _ _)) (fun cC bA ah L => ?_) (fun c' bA ah L => ?_)
 have bb := kB b7 L
 exact pn_is (ee_ cC (by rw [← aa]; exact bind_err (bind_err (step_errE ah))) (a5 _ bb))
 have bc := ss_ (w1 := bA) ay (fun k hk hl => L.block k hl)
 have bd := b4.bl L
 have ca := b5.bl L
 have bj := rb_ b6 L (fun n => b6.lt n)
 have bk := kB b7 L
 rw [bind_ok (step_okE ah)] at aa
 refine WL.e <| ⟨⟨(bd).trans (D).symm, (ca).trans (v).symm, tT⟩, ?_⟩
 refine WH.done kR <| W.reg <| WL.O (.iis (((i + 1 : Nat) : Int)) (.add rfl rfl (i64w oO)) oO) <| WL.M rfl <| WL.e <| ?_
 exact ⟨(i + 1, _, v2), ⟨rfl, rfl, rfl, rfl, tT⟩, ⟨bk, bd, bj, PthAt.ofN bc, ba, nt_ c9 (bc).size, by ((try simp only) <;> omega), aa⟩, by ((try simp only) <;> omega)⟩
 have bZ := dF b0
 have bx : i = 3 := by omega
 have aa : stepV (pClose 4096 Pi) = R := by rw [← q7, List.drop_of_length_le oO]; rfl
 refine W.exit <| W.reg <| WL.M rfl <| WL.O (.nck rfl) <| WL.O (.fa u74_ rfl s69_ dD rfl) <| WL.R (Rd.ld (g69_ _) rfl q2 rfl) <| WL.c1 hB_ rfl rfl ((pth_Close B pa 4096 vi Pi _ (PthAt.ofN au))) (fun cM aC => ?_)
 have aD := kt_ q1 (KeepB.wide aC.1 q1.size (by simp <;> omega))
 obtain ⟨v2, b8, b9⟩ := aC.2
 have ay := StN.of (Q := fun w => PthAt B w pa 4096 _ v2) b8
 have ba : ∀ g, v2.ownBlock = some g → vp.ownBlock = some g ∨ N ≤ g := fun g hg => (b9 g hg).elim (q5 g) (fun h => .inr (nt_ (nt_ a' (au).size) h))
 refine WL.ce hB_ rfl rfl ((vw_step _ _)) (fun cb be a8 a4 => ?_) (fun cN be a8 a4 => ?_)
 have aE := kB aD a4
 exact pn_is (ee_ cb (by rw [← aa]; exact step_errE a8) (a5 _ aE))
 have bm := ss_ (w1 := be) ay (fun k hk hl => a4.block k hl)
 have bn := kB aD a4
 refine WL.e <| W.norm (W.ret0 rfl ?_)
 exact eo_ _ _ (aa.symm.trans (step_okE a8)) rfl ⟨rfl, bn, v2, PthAt.ofN bm, fun g hg => (ba g hg).imp id (fun h => nt_ bw h)⟩
end
end
end Go.Proofs.YthmhfjeojkbpfaaGreatDoor
