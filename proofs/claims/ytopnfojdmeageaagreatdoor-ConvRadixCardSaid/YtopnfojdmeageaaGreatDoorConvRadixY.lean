/-
  The law ConvRadix: a whole number in digits of any base is the number again, as a card.
-/
import Derived.Test.YtopnfojdmeageaaGreatDoorCr3
namespace Go.Proofs.YtopnfojdmeageaaGreatDoor
open Go.RowKit
open Go.Proofs.Tryz
section
def tx1 (k : Nat) : ObjV := ⟨6, false, 0, 0, [], 1, 0, k⟩
def S3 (T X : List UInt8) : StoV := ⟨491 - strC X.length, [T ++ (List.replicate 60 0).drop T.length, X], [], [], [], []⟩
theorem str_S2 (T : List UInt8) {k : Nat} (h : k ≤ 1000) : strE (S2 T) k = 0 := by
 unfold strE takeE
 rw [if_neg oO, if_neg oO, if_neg]
 show ¬ (491 < strC k)
 unfold strC; omega
theorem text_S2 (T X : List UInt8) (h : X.length ≤ 1000) : textS (S2 T) X = S3 T X ∧ strO (S2 T) X.length = tx1 X.length := by
 refine ⟨?_, ?_⟩
 ·
  unfold textS; rw [if_pos (str_S2 T h)]; rfl
 ·
  unfold strO; rw [if_pos (str_S2 T h)]; rfl
theorem sok_3 {T X : List UInt8} (h : T.length ≤ 60) (hX : X.length ≤ 1000) : SOk (S3 T X) := by
 have hc : 0 ≤ strC X.length ∧ strC X.length ≤ 491 := by unfold strC; omega
 refine ⟨by show (0 : Int) ≤ 491 - strC X.length; omega, by show ((2 : Nat) + (0 : Nat) + (0 : Nat) : Int) + (491 - strC X.length) ≤ 1048576; omega, fun l hl => ?_, fun l hl => by simp [S3] at hl, fun d hd => by simp [S3] at hd⟩
 simp only [S3, List.mem_cons, List.not_mem_nil, or_false] at hl
 rcases hl with rfl | rfl
 ·
  rw [S2_len h]; decide
 ·
  omega
theorem tx1_valid (T X : List UInt8) : validB (S3 T X) (tx1 X.length) = true := by
 unfold validB withinB
 rw [if_pos (show (tx1 X.length).kind = 6 from rfl)]
 show (decide ((0 : Int) ≤ 1) && decide ((1 : Int) < ((2 : Nat) : Int)) && (decide ((0 : Int) ≤ 0) && decide ((0 : Int) ≤ (X.length : Int)) && decide ((0 : Int) ≤ (X.length : Int)) && decide ((X.length : Int) ≤ (X.length : Int) - 0))) = true
 simp
theorem tx1_bytes (T X : List UInt8) : bytesO (S3 T X) (tx1 X.length) = X := by
 unfold bytesO
 rw [if_pos (by rw [tx1_valid]; rfl)]
 show (X.drop 0).take X.length = X
 simp
theorem do_tx1 {T X : List UInt8} {n : Int} (ht : tokenL X = tokInt n) : doO (S3 T X) s_cvi [tx1 X.length] = ([numOb 1 n], 0) ∧ doS (S3 T X) s_cvi [tx1 X.length] = S3 T X := by
 have hk : known s_cvi = 1 := rfl
 have hb : ¬ doBad (S3 T X) s_cvi [tx1 X.length] := by
  intro q
  rcases q with q | q | q
  ·
   omega
  ·
   rw [hk] at q; exact q rfl
  ·
   simp only [List.any_cons, List.any_nil, tx1_valid, Bool.not_true, Bool.or_false] at q
   cases q
 have hn : numO (S3 T X) (tx1 X.length) = (numOb 1 n, 0) := by
  unfold numO
  rw [if_neg (show ¬ ((tx1 X.length).kind = 1 ∨ (tx1 X.length).kind = 2) from (show ¬ ((6 : Int) = 1 ∨ (6 : Int) = 2) by decide)), if_pos (show (tx1 X.length).kind = 6 from rfl), if_pos (show readB (S3 T X) (tx1 X.length) = true from rfl), tx1_bytes, ht]; rfl
 have hu : unaO (S3 T X) s_cvi (tx1 X.length) = (numOb 1 n, 0) := by
  show wholeO (S3 T X) (tx1 X.length) = _
  unfold wholeO; rw [hn]; rfl
 have e0 : aL [tx1 X.length] 0 = tx1 X.length := rfl
 refine ⟨?_, ?_⟩
 ·
  unfold doO; rw [if_neg hb, if_pos hk, e0, hu]; rfl
 ·
  unfold doS unaS; rw [if_neg hb, if_pos hk, if_neg (fun q => q.2.2.1 rfl)]
set_option maxHeartbeats 6400000 in
theorem lawx_ConvRadix (n a : Int) (w : World) (hE : EnvC w) (hn : fitsB n = true) (ha : 0 ≤ a ∧ a ≤ 255) : Calls Tryz.prog 4 #[.int .i32 n, .int .u8 a] w fun e w' => e = .returned (.bool true) ∧ Below w.heap.size w w' := by
 have hf := (fitsB_iff n).1 hn
 obtain ⟨B, hBe⟩ : ∃ B : Int, B = a % 35 + 2 := ⟨_, rfl⟩
 have hB2 : 2 ≤ B ∧ B ≤ 36 := by omega
 obtain ⟨T, hT⟩ : ∃ T, T = if B = 10 then decL n else radT n B.toNat := ⟨_, rfl⟩
 obtain ⟨r1, r2, r3, r4⟩ := c_radix n hn B.toNat oO oO
 have hTl : T.length ≤ 60 := by
  rw [hT]; split
  have := c_len n hn; omega
  omega
 obtain ⟨d1, d2⟩ := do_cvrs hn hB2.1 hB2.2 hT hTl
 refine W.enter func4 rfl ntmps4 (Nat.le_of_ble_eq_true rfl) ?_
 have hB0 := Chg.refl NoF w
 refine W.sr <| WL.z rfl rfl ?_
 refine W.sr <| WL.call hb6 rfl rfl ((sto_New 500 _ dD dD)) (fun r w1 hw1 => ?_)
 obtain ⟨hB1, b, F, rfl, hst1, hge1⟩ := hw1
 have hC1 : Chg NoF F w w1 := (Chg.of_below hB1).grow (fun g hg => .inr (hge1 g hg))
 have hB2 := Chg.trans hB0 hC1
 refine WL.m rfl rfl <| WL.p (.ext rfl rfl) rfl <| WL.p (.ext rfl rfl) rfl <| WL.a rfl rfl <| WL.z rfl rfl ?_
 refine W.sr <| WL.m rfl rfl <| WL.p (.rem rfl rfl oO (Int.tmod_eq_emod_of_nonneg oO)) rfl <| WL.p (.cvt underlying5 underlying3 rfl (i64w oO)) rfl <| WL.p (.iis (B) (.add rfl rfl (i64w oO)) oO) rfl <| WL.z rfl rfl ?_
 refine W.sr <| WL.m rfl rfl <| WL.c1 hb7 rfl rfl ((sto_String b F (S0 500) 60 _ hst1 (sok_0 500 dD dD) dD)) (fun w3 hw3 => ?_)
 obtain ⟨F4, hstF4, hCF4, hxF4⟩ := Chg.open hw3
 have hB5 := Chg.trans hB2 hCF4
 have hst1b : Sto w3 b F4 S1 := hstF4
 refine WL.m rfl rfl <| WL.p (.ext rfl rfl) rfl <| WL.p (.iis (0) (.ext rfl rfl) (by rfl)) rfl <| WL.alloc zeroValue27 rfl (fun b6 wb6 eb6 hkb6 hub6 hsb6 => ?_)
 have hF7 := Sto.same (w1 := wb6) hst1b (fun k hk hl => hub6.other k oO)
 have hgeb6 : w.heap.size ≤ b6 := by rw [eb6]; exact hB5.size
 have hB8 := Chg.upd hB5 hub6 hgeb6
 have hnf9 : ¬ F4 b6 := fun hq => by have hq1 := (hst1b).lt hq; omega
 refine WL.stL rfl rfl hkb6 isz27 rfl rfl (fun w10 hkw10 huw10 hsw10 => ?_)
 have hF11 := Sto.same (w1 := w10) hF7 (fun k hk hl => huw10.other k (fun e => hnf9 (e ▸ hk)))
 have hB12 := Chg.upd hB8 huw10 oO
 refine WL.z rfl rfl ?_
 refine W.sr <| WL.m rfl rfl <| WL.m rfl rfl <| WL.p (.cvt underlying21 underlying3 rfl (i64w oO)) rfl <| ?_
 refine WL.p (.buildL (ps := _) blt27 rfl rfl rfl pS) rfl ?_
 refine WL.m rfl rfl <| ?_
 refine WL.p (.buildL (ps := _) blt27 rfl rfl rfl pS) rfl ?_
 refine WL.r (Rd.ldA rfl hkw10 underlying27 rfl isz27) rfl <| WL.bslM (L := objL) (ps := _) ([numOb 1 n, numOb 1 B, rm 60]) underlying30 sizeOf27 zeroValue27 rfl rfl rfl rfl rfl (by first | rfl | decide) rfl rfl (fun b13 wb13 eb13 hob13 hub13 hsb13 => ?_)
 have hF14 := Sto.same (w1 := wb13) hF11 (fun k hk hl => hub13.other k oO)
 have hl16 : b6 < b13 := by rw [eb13]; exact hkw10.lt
 have hk15 := hkw10.upd hub13 (Nat.ne_of_lt hl16)
 have hgeb13 : w.heap.size ≤ b13 := by rw [eb13]; exact hB12.size
 have hB17 := Chg.upd hB12 hub13 hgeb13
 have hnf18 : ¬ F4 b13 := fun hq => by have hq1 := (hF11).lt hq; omega
 have hleb13 : b13 ≤ wb13.heap.size := by omega
 refine WL.call hb8 rfl rfl ((conv_Do b F4 S1 s_cvrs _ [numOb 1 n, numOb 1 B, rm 60] _ _ hF14 sok_1 (hE.chg hB17 freeN) (hE.free hB17 freeN) (hob13).rowp (fun _ => hnf18) (show (3 : Nat) ≤ _ by decide) (show (0 : Nat) ≤ _ by decide) dD (fun x hx => by rcases List.mem_cons.1 hx with rfl | hx; exact ⟨by show _ ≤ n; omega, by show n ≤ _; omega⟩; rcases List.mem_cons.1 hx with rfl | hx; exact ⟨by show _ ≤ B; omega, by show B ≤ _; omega⟩; rcases List.mem_cons.1 hx with rfl | hx; exact ⟨by decide, by decide⟩; cases hx))) (fun r w19 hw19 => ?_)
 obtain ⟨v3, F3, rfl, ho3, hn3, hst3, hC3⟩ := hw19
 rw [d1] at ho3
 have ho3 : OwnM objL 27 _ w19 v3 [rm T.length] := ho3
 rw [d2] at hst3
 obtain ⟨p3, c3, rfl, hrow3, -⟩ := ho3.row
 have hvn3 := vnf_of hrow3 hn3
 have hnf20 := Chg.nf hC3 hnf9 hk15.lt
 have hk22 := Blk.chg hk15 hC3 hnf9
 have hB23 := Chg.trans hB17 hC3
 refine WL.m rfl rfl <| WL.p (.ext rfl rfl) rfl <| WL.p (.iis (0) (.ext rfl rfl) (by rw [d1])) rfl <| WL.a rfl rfl <| WL.z rfl rfl ?_
 refine W.seq <| W.sr <| WL.c1 hb9 rfl rfl ((law10_answers _ (hE.chg hB23 freeN))) (fun w24 hw24 => ?_)
 have hF25 := Sto.same (w1 := w24) hst3 (fun k hk hl => hw24.block k hl)
 have hk26 := hk22.below hw24 hk22.lt
 have hv27 := RowM.below hrow3 hw24 (fun h0 => hrow3.lt h0)
 have hB28 := Chg.low hB23 hw24
 refine WL.p (.not rfl) rfl <| WL.m rfl rfl <| WL.gy rfl rfl rfl rfl <| WL.m rfl rfl <| WL.gy rfl rfl rfl rfl <| WL.p (.neq rfl rfl) rfl <| WL.p (.pkF rfl rfl rfl) rfl <| WL.m rfl rfl <| WL.gy rfl rfl rfl rfl <| WL.m rfl rfl <| WL.gy rfl rfl rfl rfl <| WL.p (.iis (1) (.lenS underlying30 rfl) (by rfl)) rfl <| WL.gy rfl rfl rfl rfl <| WL.p (.neq rfl rfl) rfl <| WL.p (.pkF rfl rfl rfl) rfl <| WL.nil <| ?_
 refine W.condF rfl rfl ?_
 refine W.skip <| W.sr <| WL.m rfl rfl <| WL.m rfl rfl <| WL.p (.ixm underlying30 sizeOf27 rfl rfl (hv27.isp (by first | omega | (simp only [List.length_cons, List.length_nil]; omega))) (0) (rfl) (Nat.zero_lt_one)) rfl <| WL.r (Rd.ldS underlying27 rfl isz27 hv27 (0) (by first | omega | (simp only [List.length_cons, List.length_nil]; omega)) rfl) rfl <| ?_
 have hszd : ∀ g, F3 g → g < w24.heap.size := fun g hg => (hF25).lt hg
 refine WL.call hb10 rfl rfl ((sto_Bytes b F3 (S2 T) (rm T.length) _ hF25 (sok_2 hTl))) (fun r w29 hw29 => ?_)
 have hF30 := Sto.same (w1 := w29) hF25 (fun k hk hl => hw29.1.block k hl)
 have hk31 := hk26.below hw29.1 hk26.lt
 have hv32 := RowM.below hv27 hw29.1 (fun h0 => hv27.lt h0)
 have hB33 := Chg.low hB28 hw29.1
 obtain ⟨v5, rfl, ho5⟩ := hw29.2
 rw [if_pos (rm_isText (S := S2 T) rfl (by rw [S2_len hTl]; exact hTl)), show textO (S2 T) (rm T.length) = T by have := bytes_2 hTl; unfold bytesO at this; rwa [if_pos (rm_isText (S := S2 T) rfl (by rw [S2_len hTl]; exact hTl))] at this] at ho5
 obtain ⟨p5, c5, rfl, hbt5, hge5, -⟩ := ho5.bytesC
 have hnb5 : 0 < T.length → ¬ F3 (pA p5).block := fun h0 hf5 => by have h6 := hge5 h0; have h7 := hszd _ hf5; omega
 refine WL.m rfl rfl <| WL.p (.ext rfl rfl) rfl <| WL.p (.ext rfl rfl) rfl <| WL.a rfl rfl <| WL.z rfl rfl ?_
 refine W.seq <| W.sr <| WL.m rfl rfl <| WL.p (.eql rfl rfl) rfl <| WL.nil <| ?_
 refine W.cond rfl (fun h34 => ?_) (fun h34 => ?_)
 have h34' := dT h34
 have hTe : T = decL n := by rw [hT, if_pos aS]
 refine W.seq <| W.regY 7 rfl mixed (fun w35 dw35 => ?_)
 have hv39 := hbt5.drew dw35
 have hB40 := Chg.drew hB33 dw35
 refine WY.tk 0 rfl (.mv rfl) rfl ?_
 refine WY.tk 2 rfl (.mv rfl) rfl ?_
 refine WY.tk 3 rfl (.cvt underlying21 underlying3 rfl (i64w oO)) rfl ?_
 refine WY.br2 1 rfl 4 rfl ?_ ?_
 refine WL.r (Rd.b2s (l := T) underlying35 underlying5 underlying9 rfl (hv39)) rfl <| WL.nil <| ?_
 refine WY.br1 4 rfl ?_
 refine WL.c1 hb11 rfl rfl ((ref_Dec n _ oO oO)) (fun w41 hw41 => ?_)
 have hB46 := Chg.low hB40 hw41
 refine WL.nil <| ?_
 refine WY.tk 5 rfl (.eqs rfl rfl) rfl ?_
 refine WY.tk 6 rfl (.as rfl) rfl ?_
 refine WY.done kR ?_
 refine W.ret (W.ret1 rfl rfl ?_)
 exact ⟨rbE (by first | rfl | simp_all), (hB46).none⟩
 refine WL.c1 hb11 rfl rfl ((ref_Dec n _ oO oO)) (fun w47 hw47 => ?_)
 have hv51 := BytesAt.below hv39 hw47 (fun h0 => hv39.lt h0)
 have hB52 := Chg.low hB40 hw47
 refine WL.nil <| ?_
 refine WY.br1 1 rfl ?_
 refine WL.r (Rd.b2s (l := T) underlying35 underlying5 underlying9 rfl (hv51)) rfl <| WL.nil <| ?_
 refine WY.tk 5 rfl (.eqs rfl rfl) rfl ?_
 refine WY.tk 6 rfl (.as rfl) rfl ?_
 refine WY.done kR ?_
 refine W.ret (W.ret1 rfl rfl ?_)
 exact ⟨rbE (by first | rfl | simp_all), (hB52).none⟩
 have h34' := dF h34
 have hTe : T = radT n B.toNat := by rw [hT, if_neg aS]
 have hdB : decL B = digitsL B.toNat := by unfold decL; rw [if_neg oO, show B.natAbs = B.toNat by omega]
 have hBl : (decL B).length ≤ 11 := c_len B ((fitsB_iff B).2 oO)
 have hXl : (decL B ++ [35] ++ T).length ≤ 1000 := by simp only [List.length_append, List.length_cons, List.length_nil]; omega
 have hXt : tokenL (decL B ++ [35] ++ T) = tokInt n := by rw [hdB, hTe]; simpa using r1
 obtain ⟨x1, x2⟩ := text_S2 T (decL B ++ [35] ++ T) hXl
 obtain ⟨d3, d4⟩ := do_tx1 (T := T) hXt
 rw [← x2] at d3 d4
 have hTn : T ≠ [] := by rw [hTe]; exact r3
 have hT0 : 0 < T.length := List.length_pos_iff.2 hTn
 have hT1 : ¬ T.length = 1 → T[0] ≠ 48 := fun h1 h2 => by
  rcases r4 with h3 | h3
  rw [← hTe] at h3; exact h1 h3
  rw [← hTe, List.head?_eq_getElem?, List.getElem?_eq_getElem hT0, h2] at h3; exact h3 rfl
 refine W.skip <| W.seq <| W.regY 15 rfl mixed (fun w53 dw53 => ?_)
 have hF54 := Sto.same (w1 := w53) hF30 (fun k hk hl => (by obtain ⟨m, rfl⟩ := dw53; rfl))
 have hk55 := hk31.drew dw53
 have hv56 := hv32.drew dw53
 have hv57 := hbt5.drew dw53
 have hB58 := Chg.drew hB33 dw53
 refine WY.tk 0 rfl (.mv rfl) rfl ?_
 refine WY.tk 1 rfl (.mv rfl) rfl ?_
 refine WY.tk 4 rfl (.mv rfl) rfl ?_
 refine WY.br [2, 5, 12] kR rfl ⟨⟨_, rfl, ?_⟩, ⟨_, rfl, ?_⟩, ⟨_, rfl, ?_⟩, trivial⟩
 refine WL.c1 hb11 rfl rfl ((ref_Dec B _ oO oO)) (fun w59 hw59 => ?_)
 have hF60 := Sto.same (w1 := w59) hF54 (fun k hk hl => hw59.block k hl)
 have hk61 := hk55.below hw59 hk55.lt
 have hv62 := RowM.below hv56 hw59 (fun h0 => hv56.lt h0)
 have hv63 := BytesAt.below hv57 hw59 (fun h0 => hv57.lt h0)
 have hB64 := Chg.low hB58 hw59
 refine WL.nil <| ?_
 refine WY.tk 3 rfl (.cat rfl rfl (by simp only [List.length_append, List.length_cons, List.length_nil]; omega)) rfl ?_
 refine WY.br2 5 rfl 12 rfl ?_ ?_
 refine WL.r (Rd.b2s (l := T) underlying35 underlying5 underlying9 rfl (hv63)) rfl <| WL.nil <| ?_
 refine WY.tk 6 rfl (.cat rfl rfl (by simp only [List.length_append, List.length_cons, List.length_nil]; omega)) rfl ?_
 refine WY.br2 7 rfl 12 rfl ?_ ?_
 refine WL.s2b underlying9 underlying35 underlying5 rfl rfl (fun b65 wb65 cs78 eb65 hs78 hcs78 hub65 hsb65 => ?_)
 have hF66 := Sto.same (w1 := wb65) hF60 (fun k hk hl => hub65.other k oO)
 have hl68 : b6 < b65 := by rw [eb65]; exact hk61.lt
 have hk67 := hk61.upd hub65 (Nat.ne_of_lt hl68)
 have hvl70 := fun h0 => eb65 ▸ hv62.lt h0
 have hv69 := RowM.upd hv62 hub65 (fun h0 => Nat.ne_of_lt (hvl70 h0))
 have hvl72 := fun h0 => eb65 ▸ hv63.lt h0
 have hv71 := bup hv63 hub65 hvl72
 have hgeb65 : w.heap.size ≤ b65 := by rw [eb65]; exact hB64.size
 have hB73 := Chg.upd hB64 hub65 hgeb65
 have hnf74 : ¬ F3 b65 := fun hq => by have hq1 := (hF60).lt hq; omega
 refine WL.nil <| ?_
 refine WY.br2 8 rfl 12 rfl ?_ ?_
 refine WL.c1 hb12 rfl rfl ((sto_Text b F3 (S2 T) (some ⟨b65, 0, none⟩) (decL B ++ [35] ++ T) _ _ hF66 (sok_2 hTl) hs78 (fun _ => hnf74) oO)) (fun w75 hw75 => ?_)
 obtain ⟨F76, hstF76, hCF76, hxF76⟩ := Chg.open hw75
 have hnf77 := Chg.nf hCF76 hnf20 hk67.lt
 have hk79 := Blk.chg hk67 hCF76 hnf20
 have hnf81 := fun h0 => Chg.nf hCF76 (hvn3 h0) (hv69.lt h0)
 have hv80 := RowM.chg hv69 hCF76 hvn3
 have hnf83 := fun h0 => Chg.nf hCF76 (hnb5 h0) (hv71.lt h0)
 have hv82 := BytesAt.chg hv71 hCF76 hnb5
 have hB84 := Chg.trans hB73 hCF76
 have hst4 : Sto w75 b F76 (S3 T (decL B ++ [35] ++ T)) := by rw [← x1]; exact hstF76
 refine WL.nil <| ?_
 refine WY.tk 9 rfl (.mv rfl) rfl ?_
 refine WY.tk 10 rfl (.ext rfl rfl) rfl ?_
 refine WY.tk 11 rfl (.iis (0) (.ext rfl rfl) (by exact str_S2 T hXl)) rfl ?_
 refine WY.br1 12 rfl ?_
 refine WL.alloc zeroValue27 rfl (fun b85 wb85 eb85 hkb85 hub85 hsb85 => ?_)
 have hF86 := Sto.same (w1 := wb85) hst4 (fun k hk hl => hub85.other k oO)
 have hl88 : b6 < b85 := by rw [eb85]; exact hk79.lt
 have hk87 := hk79.upd hub85 (Nat.ne_of_lt hl88)
 have hvl90 := fun h0 => eb85 ▸ hv80.lt h0
 have hv89 := RowM.upd hv80 hub85 (fun h0 => Nat.ne_of_lt (hvl90 h0))
 have hvl92 := fun h0 => eb85 ▸ hv82.lt h0
 have hv91 := bup hv82 hub85 hvl92
 have hgeb85 : w.heap.size ≤ b85 := by rw [eb85]; exact hB84.size
 have hB93 := Chg.upd hB84 hub85 hgeb85
 have hnf94 : ¬ F76 b85 := fun hq => by have hq1 := (hst4).lt hq; omega
 refine WL.nil <| ?_
 refine WY.br1 13 rfl ?_
 refine WL.stL rfl rfl hkb85 isz27 rfl rfl (fun w95 hkw95 huw95 hsw95 => ?_)
 have hF96 := Sto.same (w1 := w95) hF86 (fun k hk hl => huw95.other k (fun e => hnf94 (e ▸ hk)))
 have hk97 := hk87.up huw95
 have hv98 := RowM.upd hv89 huw95 (fun h0 => Nat.ne_of_lt (hvl90 h0))
 have hv99 := bup hv91 huw95 hvl92
 have hB100 := Chg.upd hB93 huw95 oO
 refine WL.nil <| ?_
 refine WY.tk 14 rfl (.as rfl) rfl ?_
 refine WY.done kR ?_
 refine W.sr <| WL.m rfl rfl <| WL.r (Rd.ldA rfl hkw95 underlying27 rfl isz27) rfl <| WL.bslM (L := objL) (ps := _) ([strO (S2 T) ((decL B ++ [35] ++ T).length : Int)]) underlying30 sizeOf27 zeroValue27 rfl rfl rfl rfl rfl (by first | rfl | decide) rfl rfl (fun b101 wb101 eb101 hob101 hub101 hsb101 => ?_)
 have hF102 := Sto.same (w1 := wb101) hF96 (fun k hk hl => hub101.other k oO)
 have hl104 : b6 < b101 := by rw [eb101]; exact hk97.lt
 have hk103 := hk97.upd hub101 (Nat.ne_of_lt hl104)
 have hl106 : b85 < b101 := by rw [eb101]; exact hkw95.lt
 have hk105 := hkw95.upd hub101 (Nat.ne_of_lt hl106)
 have hvl108 := fun h0 => eb101 ▸ hv98.lt h0
 have hv107 := RowM.upd hv98 hub101 (fun h0 => Nat.ne_of_lt (hvl108 h0))
 have hvl110 := fun h0 => eb101 ▸ hv99.lt h0
 have hv109 := bup hv99 hub101 hvl110
 have hgeb101 : w.heap.size ≤ b101 := by rw [eb101]; exact hB100.size
 have hB111 := Chg.upd hB100 hub101 hgeb101
 have hnf112 : ¬ F76 b101 := fun hq => by have hq1 := (hF96).lt hq; omega
 have hleb101 : b101 ≤ wb101.heap.size := by omega
 refine WL.call hb8 rfl rfl ((conv_Do b F76 (S3 T (decL B ++ [35] ++ T)) s_cvi _ [strO (S2 T) ((decL B ++ [35] ++ T).length : Int)] _ _ hF102 (sok_3 hTl hXl) (hE.chg hB111 freeN) (hE.free hB111 freeN) (hob101).rowp (fun _ => hnf112) (show (1 : Nat) ≤ _ by decide) (show (0 : Nat) ≤ _ by decide) dD (fun x hx => by rcases List.mem_cons.1 hx with rfl | hx; rw [x2]; exact ⟨show (_ : Int) ≤ 0 by decide, show (0 : Int) ≤ _ by decide⟩; cases hx))) (fun r w113 hw113 => ?_)
 obtain ⟨v6, F6, rfl, ho6, hn6, hst6, hC6⟩ := hw113
 rw [d3] at ho6
 have ho6 : OwnM objL 27 _ w113 v6 [numOb 1 n] := ho6
 obtain ⟨p6, c6, rfl, hrow6, -⟩ := ho6.row
 have hvn6 := vnf_of hrow6 hn6
 have hnf114 := Chg.nf hC6 hnf77 hk103.lt
 have hnf115 := Chg.nf hC6 hnf94 hk105.lt
 have hnf120 := fun h0 => Chg.nf hC6 (hnf81 h0) (hv107.lt h0)
 have hnf122 := fun h0 => Chg.nf hC6 (hnf83 h0) (hv109.lt h0)
 have hv121 := BytesAt.chg hv109 hC6 hnf83
 have hB123 := Chg.trans hB111 hC6
 refine WL.m rfl rfl <| WL.p (.ext rfl rfl) rfl <| WL.p (.iis (0) (.ext rfl rfl) (by rw [d3])) rfl <| WL.a rfl rfl <| WL.z rfl rfl ?_
 refine W.sr <| WL.m rfl rfl <| WL.p (.eql rfl rfl) rfl <| WL.m rfl rfl <| WL.gy rfl rfl rfl rfl <| WL.m rfl rfl <| WL.gy rfl rfl rfl rfl <| WL.p (.eql rfl rfl) rfl <| WL.p (.pkT rfl rfl rfl) rfl <| WL.m rfl rfl <| WL.gy rfl rfl rfl rfl <| WL.m rfl rfl <| WL.gy rfl rfl rfl rfl <| WL.p (.ixm underlying30 sizeOf27 rfl rfl (hrow6.isp (by first | omega | (simp only [List.length_cons, List.length_nil]; omega))) (0) (rfl) (Nat.zero_lt_one)) rfl <| WL.gy rfl rfl rfl rfl <| WL.p (.fa underlying27 rfl sizeOf3 dD rfl) rfl <| WL.gy rfl rfl rfl rfl <| WL.r (Rd.iis (n) (Rd.ldc (isAgg3 _) rfl ((hrow6.field (0) (by first | omega | (simp only [List.length_cons, List.length_nil]; omega)) 3 dD).trans rfl)) (by rfl)) rfl <| WL.gy rfl rfl rfl rfl <| WL.m rfl rfl <| WL.gy rfl rfl rfl rfl <| WL.p (.cvt underlying21 underlying3 rfl (i64w oO)) rfl <| WL.gy rfl rfl rfl rfl <| WL.p (.bis (true) (.eql rfl rfl) (by simp)) rfl <| WL.p (.pkT rfl rfl rfl) rfl <| WL.m rfl rfl <| WL.gy rfl rfl rfl rfl <| WL.m rfl rfl <| WL.gy rfl rfl rfl rfl <| WL.p (.lenS underlying35 rfl) rfl <| WL.gy rfl rfl rfl rfl <| WL.p (.eql rfl rfl) rfl <| WL.gy rfl rfl rfl rfl <| WL.m rfl rfl <| WL.gd rfl rfl rfl (fun g124 => ?_) (fun g124 => ?_)
 have g124' := dF g124
 refine WL.m rfl rfl <| WL.gy rfl rfl rfl g124 <| WL.p (.ixb underlying35 sizeOf5 rfl rfl (hv121.isp oO) (0) (rfl) (hT0)) rfl <| WL.gy rfl rfl rfl g124 <| WL.r (Rd.ldc (isAgg5 _) rfl (hv121.cells (0) (hT0))) rfl <| WL.gy rfl rfl rfl g124 <| WL.p (.bis (true) (.neq rfl rfl) (by have h9 : T[0].toNat ≠ 48 := fun h8 => hT1 oO (UInt8.toNat_inj.1 h8); simp; omega)) rfl <| WL.gy rfl rfl rfl rfl <| WL.p (.pkF rfl g124 rfl) rfl <| WL.p (.pkT rfl rfl rfl) rfl <| WL.z rfl rfl ?_
 refine W.ret (W.ret1 rfl rfl ?_)
 exact ⟨rbE (by first | rfl | simp_all), (hB123).none⟩
 have g124' := dT g124
 refine WL.gn rfl rfl rfl g124 <| WL.gn rfl rfl rfl g124 <| WL.gn rfl rfl rfl g124 <| WL.gy rfl rfl rfl rfl <| WL.p (.pkT rfl g124 rfl) rfl <| WL.p (.pkT rfl rfl rfl) rfl <| WL.z rfl rfl ?_
 refine W.ret (W.ret1 rfl rfl ?_)
 exact ⟨rbE (by first | rfl | simp_all), (hB123).none⟩
 refine WL.alloc zeroValue27 rfl (fun b125 wb125 eb125 hkb125 hub125 hsb125 => ?_)
 have hF126 := Sto.same (w1 := wb125) hF66 (fun k hk hl => hub125.other k oO)
 have hl128 : b6 < b125 := by rw [eb125]; exact hk67.lt
 have hk127 := hk67.upd hub125 (Nat.ne_of_lt hl128)
 have hvl130 := fun h0 => eb125 ▸ hv69.lt h0
 have hv129 := RowM.upd hv69 hub125 (fun h0 => Nat.ne_of_lt (hvl130 h0))
 have hvl132 := fun h0 => eb125 ▸ hv71.lt h0
 have hv131 := bup hv71 hub125 hvl132
 have hvl134 := fun h0 => eb125 ▸ hs78.lt h0
 have hv133 := bup hs78 hub125 hvl134
 have hgeb125 : w.heap.size ≤ b125 := by rw [eb125]; exact hB73.size
 have hB135 := Chg.upd hB73 hub125 hgeb125
 have hnf136 : ¬ F3 b125 := fun hq => by have hq1 := (hF66).lt hq; omega
 refine WL.nil <| ?_
 refine WY.br1 8 rfl ?_
 refine WL.c1 hb12 rfl rfl ((sto_Text b F3 (S2 T) (some ⟨b65, 0, none⟩) (decL B ++ [35] ++ T) _ _ hF126 (sok_2 hTl) hv133 (fun _ => hnf74) oO)) (fun w137 hw137 => ?_)
 obtain ⟨F138, hstF138, hCF138, hxF138⟩ := Chg.open hw137
 have hnf139 := Chg.nf hCF138 hnf20 hk127.lt
 have hnf141 := Chg.nf hCF138 hnf136 hkb125.lt
 have hk142 := Blk.chg hk127 hCF138 hnf20
 have hk143 := Blk.chg hkb125 hCF138 hnf136
 have hnf145 := fun h0 => Chg.nf hCF138 (hvn3 h0) (hv129.lt h0)
 have hv144 := RowM.chg hv129 hCF138 hvn3
 have hnf147 := fun h0 => Chg.nf hCF138 (hnb5 h0) (hv131.lt h0)
 have hv146 := BytesAt.chg hv131 hCF138 hnb5
 have hB148 := Chg.trans hB135 hCF138
 have hst4 : Sto w137 b F138 (S3 T (decL B ++ [35] ++ T)) := by rw [← x1]; exact hstF138
 refine WL.nil <| ?_
 refine WY.tk 9 rfl (.mv rfl) rfl ?_
 refine WY.tk 10 rfl (.ext rfl rfl) rfl ?_
 refine WY.tk 11 rfl (.iis (0) (.ext rfl rfl) (by exact str_S2 T hXl)) rfl ?_
 refine WY.br1 13 rfl ?_
 refine WL.stL rfl rfl hk143 isz27 rfl rfl (fun w149 hkw149 huw149 hsw149 => ?_)
 have hF150 := Sto.same (w1 := w149) hst4 (fun k hk hl => huw149.other k (fun e => hnf141 (e ▸ hk)))
 have hk151 := hk142.up huw149
 have hv152 := RowM.upd hv144 huw149 (fun h0 => Nat.ne_of_lt (hvl130 h0))
 have hv153 := bup hv146 huw149 hvl132
 have hB154 := Chg.upd hB148 huw149 oO
 refine WL.nil <| ?_
 refine WY.tk 14 rfl (.as rfl) rfl ?_
 refine WY.done kR ?_
 refine W.sr <| WL.m rfl rfl <| WL.r (Rd.ldA rfl hkw149 underlying27 rfl isz27) rfl <| WL.bslM (L := objL) (ps := _) ([strO (S2 T) ((decL B ++ [35] ++ T).length : Int)]) underlying30 sizeOf27 zeroValue27 rfl rfl rfl rfl rfl (by first | rfl | decide) rfl rfl (fun b155 wb155 eb155 hob155 hub155 hsb155 => ?_)
 have hF156 := Sto.same (w1 := wb155) hF150 (fun k hk hl => hub155.other k oO)
 have hl158 : b6 < b155 := by rw [eb155]; exact hk151.lt
 have hk157 := hk151.upd hub155 (Nat.ne_of_lt hl158)
 have hl160 : b125 < b155 := by rw [eb155]; exact hkw149.lt
 have hk159 := hkw149.upd hub155 (Nat.ne_of_lt hl160)
 have hvl162 := fun h0 => eb155 ▸ hv152.lt h0
 have hv161 := RowM.upd hv152 hub155 (fun h0 => Nat.ne_of_lt (hvl162 h0))
 have hvl164 := fun h0 => eb155 ▸ hv153.lt h0
 have hv163 := bup hv153 hub155 hvl164
 have hgeb155 : w.heap.size ≤ b155 := by rw [eb155]; exact hB154.size
 have hB165 := Chg.upd hB154 hub155 hgeb155
 have hnf166 : ¬ F138 b155 := fun hq => by have hq1 := (hF150).lt hq; omega
 have hleb155 : b155 ≤ wb155.heap.size := by omega
 refine WL.call hb8 rfl rfl ((conv_Do b F138 (S3 T (decL B ++ [35] ++ T)) s_cvi _ [strO (S2 T) ((decL B ++ [35] ++ T).length : Int)] _ _ hF156 (sok_3 hTl hXl) (hE.chg hB165 freeN) (hE.free hB165 freeN) (hob155).rowp (fun _ => hnf166) (show (1 : Nat) ≤ _ by decide) (show (0 : Nat) ≤ _ by decide) dD (fun x hx => by rcases List.mem_cons.1 hx with rfl | hx; rw [x2]; exact ⟨show (_ : Int) ≤ 0 by decide, show (0 : Int) ≤ _ by decide⟩; cases hx))) (fun r w167 hw167 => ?_)
 obtain ⟨v6, F6, rfl, ho6, hn6, hst6, hC6⟩ := hw167
 rw [d3] at ho6
 have ho6 : OwnM objL 27 _ w167 v6 [numOb 1 n] := ho6
 obtain ⟨p6, c6, rfl, hrow6, -⟩ := ho6.row
 have hvn6 := vnf_of hrow6 hn6
 have hnf168 := Chg.nf hC6 hnf139 hk157.lt
 have hnf169 := Chg.nf hC6 hnf141 hk159.lt
 have hnf174 := fun h0 => Chg.nf hC6 (hnf145 h0) (hv161.lt h0)
 have hnf176 := fun h0 => Chg.nf hC6 (hnf147 h0) (hv163.lt h0)
 have hv175 := BytesAt.chg hv163 hC6 hnf147
 have hB177 := Chg.trans hB165 hC6
 refine WL.m rfl rfl <| WL.p (.ext rfl rfl) rfl <| WL.p (.iis (0) (.ext rfl rfl) (by rw [d3])) rfl <| WL.a rfl rfl <| WL.z rfl rfl ?_
 refine W.sr <| WL.m rfl rfl <| WL.p (.eql rfl rfl) rfl <| WL.m rfl rfl <| WL.gy rfl rfl rfl rfl <| WL.m rfl rfl <| WL.gy rfl rfl rfl rfl <| WL.p (.eql rfl rfl) rfl <| WL.p (.pkT rfl rfl rfl) rfl <| WL.m rfl rfl <| WL.gy rfl rfl rfl rfl <| WL.m rfl rfl <| WL.gy rfl rfl rfl rfl <| WL.p (.ixm underlying30 sizeOf27 rfl rfl (hrow6.isp (by first | omega | (simp only [List.length_cons, List.length_nil]; omega))) (0) (rfl) (Nat.zero_lt_one)) rfl <| WL.gy rfl rfl rfl rfl <| WL.p (.fa underlying27 rfl sizeOf3 dD rfl) rfl <| WL.gy rfl rfl rfl rfl <| WL.r (Rd.iis (n) (Rd.ldc (isAgg3 _) rfl ((hrow6.field (0) (by first | omega | (simp only [List.length_cons, List.length_nil]; omega)) 3 dD).trans rfl)) (by rfl)) rfl <| WL.gy rfl rfl rfl rfl <| WL.m rfl rfl <| WL.gy rfl rfl rfl rfl <| WL.p (.cvt underlying21 underlying3 rfl (i64w oO)) rfl <| WL.gy rfl rfl rfl rfl <| WL.p (.bis (true) (.eql rfl rfl) (by simp)) rfl <| WL.p (.pkT rfl rfl rfl) rfl <| WL.m rfl rfl <| WL.gy rfl rfl rfl rfl <| WL.m rfl rfl <| WL.gy rfl rfl rfl rfl <| WL.p (.lenS underlying35 rfl) rfl <| WL.gy rfl rfl rfl rfl <| WL.p (.eql rfl rfl) rfl <| WL.gy rfl rfl rfl rfl <| WL.m rfl rfl <| WL.gd rfl rfl rfl (fun g178 => ?_) (fun g178 => ?_)
 have g178' := dF g178
 refine WL.m rfl rfl <| WL.gy rfl rfl rfl g178 <| WL.p (.ixb underlying35 sizeOf5 rfl rfl (hv175.isp oO) (0) (rfl) (hT0)) rfl <| WL.gy rfl rfl rfl g178 <| WL.r (Rd.ldc (isAgg5 _) rfl (hv175.cells (0) (hT0))) rfl <| WL.gy rfl rfl rfl g178 <| WL.p (.bis (true) (.neq rfl rfl) (by have h9 : T[0].toNat ≠ 48 := fun h8 => hT1 oO (UInt8.toNat_inj.1 h8); simp; omega)) rfl <| WL.gy rfl rfl rfl rfl <| WL.p (.pkF rfl g178 rfl) rfl <| WL.p (.pkT rfl rfl rfl) rfl <| WL.z rfl rfl ?_
 refine W.ret (W.ret1 rfl rfl ?_)
 exact ⟨rbE (by first | rfl | simp_all), (hB177).none⟩
 have g178' := dT g178
 refine WL.gn rfl rfl rfl g178 <| WL.gn rfl rfl rfl g178 <| WL.gn rfl rfl rfl g178 <| WL.gy rfl rfl rfl rfl <| WL.p (.pkT rfl g178 rfl) rfl <| WL.p (.pkT rfl rfl rfl) rfl <| WL.z rfl rfl ?_
 refine W.ret (W.ret1 rfl rfl ?_)
 exact ⟨rbE (by first | rfl | simp_all), (hB177).none⟩
 refine WL.alloc zeroValue27 rfl (fun b179 wb179 eb179 hkb179 hub179 hsb179 => ?_)
 have hF180 := Sto.same (w1 := wb179) hF60 (fun k hk hl => hub179.other k oO)
 have hl182 : b6 < b179 := by rw [eb179]; exact hk61.lt
 have hk181 := hk61.upd hub179 (Nat.ne_of_lt hl182)
 have hvl184 := fun h0 => eb179 ▸ hv62.lt h0
 have hv183 := RowM.upd hv62 hub179 (fun h0 => Nat.ne_of_lt (hvl184 h0))
 have hvl186 := fun h0 => eb179 ▸ hv63.lt h0
 have hv185 := bup hv63 hub179 hvl186
 have hgeb179 : w.heap.size ≤ b179 := by rw [eb179]; exact hB64.size
 have hB187 := Chg.upd hB64 hub179 hgeb179
 have hnf188 : ¬ F3 b179 := fun hq => by have hq1 := (hF60).lt hq; omega
 refine WL.nil <| ?_
 refine WY.br1 7 rfl ?_
 refine WL.s2b underlying9 underlying35 underlying5 rfl rfl (fun b189 wb189 cs78 eb189 hs78 hcs78 hub189 hsb189 => ?_)
 have hF190 := Sto.same (w1 := wb189) hF180 (fun k hk hl => hub189.other k oO)
 have hl192 : b6 < b189 := by rw [eb189]; exact hk181.lt
 have hk191 := hk181.upd hub189 (Nat.ne_of_lt hl192)
 have hl194 : b179 < b189 := by rw [eb189]; exact hkb179.lt
 have hk193 := hkb179.upd hub189 (Nat.ne_of_lt hl194)
 have hvl196 := fun h0 => eb189 ▸ hv183.lt h0
 have hv195 := RowM.upd hv183 hub189 (fun h0 => Nat.ne_of_lt (hvl196 h0))
 have hvl198 := fun h0 => eb189 ▸ hv185.lt h0
 have hv197 := bup hv185 hub189 hvl198
 have hgeb189 : w.heap.size ≤ b189 := by rw [eb189]; exact hB187.size
 have hB199 := Chg.upd hB187 hub189 hgeb189
 have hnf200 : ¬ F3 b189 := fun hq => by have hq1 := (hF180).lt hq; omega
 refine WL.nil <| ?_
 refine WY.br1 8 rfl ?_
 refine WL.c1 hb12 rfl rfl ((sto_Text b F3 (S2 T) (some ⟨b189, 0, none⟩) (decL B ++ [35] ++ T) _ _ hF190 (sok_2 hTl) hs78 (fun _ => hnf200) oO)) (fun w201 hw201 => ?_)
 obtain ⟨F202, hstF202, hCF202, hxF202⟩ := Chg.open hw201
 have hnf203 := Chg.nf hCF202 hnf20 hk191.lt
 have hnf204 := Chg.nf hCF202 hnf188 hk193.lt
 have hk206 := Blk.chg hk191 hCF202 hnf20
 have hk207 := Blk.chg hk193 hCF202 hnf188
 have hnf209 := fun h0 => Chg.nf hCF202 (hvn3 h0) (hv195.lt h0)
 have hv208 := RowM.chg hv195 hCF202 hvn3
 have hnf211 := fun h0 => Chg.nf hCF202 (hnb5 h0) (hv197.lt h0)
 have hv210 := BytesAt.chg hv197 hCF202 hnb5
 have hB212 := Chg.trans hB199 hCF202
 have hst4 : Sto w201 b F202 (S3 T (decL B ++ [35] ++ T)) := by rw [← x1]; exact hstF202
 refine WL.nil <| ?_
 refine WY.tk 9 rfl (.mv rfl) rfl ?_
 refine WY.tk 10 rfl (.ext rfl rfl) rfl ?_
 refine WY.tk 11 rfl (.iis (0) (.ext rfl rfl) (by exact str_S2 T hXl)) rfl ?_
 refine WY.br1 13 rfl ?_
 refine WL.stL rfl rfl hk207 isz27 rfl rfl (fun w213 hkw213 huw213 hsw213 => ?_)
 have hF214 := Sto.same (w1 := w213) hst4 (fun k hk hl => huw213.other k (fun e => hnf204 (e ▸ hk)))
 have hk215 := hk206.up huw213
 have hv216 := RowM.upd hv208 huw213 (fun h0 => Nat.ne_of_lt (hvl184 h0))
 have hv217 := bup hv210 huw213 hvl186
 have hB218 := Chg.upd hB212 huw213 oO
 refine WL.nil <| ?_
 refine WY.tk 14 rfl (.as rfl) rfl ?_
 refine WY.done kR ?_
 refine W.sr <| WL.m rfl rfl <| WL.r (Rd.ldA rfl hkw213 underlying27 rfl isz27) rfl <| WL.bslM (L := objL) (ps := _) ([strO (S2 T) ((decL B ++ [35] ++ T).length : Int)]) underlying30 sizeOf27 zeroValue27 rfl rfl rfl rfl rfl (by first | rfl | decide) rfl rfl (fun b219 wb219 eb219 hob219 hub219 hsb219 => ?_)
 have hF220 := Sto.same (w1 := wb219) hF214 (fun k hk hl => hub219.other k oO)
 have hl222 : b6 < b219 := by rw [eb219]; exact hk215.lt
 have hk221 := hk215.upd hub219 (Nat.ne_of_lt hl222)
 have hl224 : b179 < b219 := by rw [eb219]; exact hkw213.lt
 have hk223 := hkw213.upd hub219 (Nat.ne_of_lt hl224)
 have hvl226 := fun h0 => eb219 ▸ hv216.lt h0
 have hv225 := RowM.upd hv216 hub219 (fun h0 => Nat.ne_of_lt (hvl226 h0))
 have hvl228 := fun h0 => eb219 ▸ hv217.lt h0
 have hv227 := bup hv217 hub219 hvl228
 have hgeb219 : w.heap.size ≤ b219 := by rw [eb219]; exact hB218.size
 have hB229 := Chg.upd hB218 hub219 hgeb219
 have hnf230 : ¬ F202 b219 := fun hq => by have hq1 := (hF214).lt hq; omega
 have hleb219 : b219 ≤ wb219.heap.size := by omega
 refine WL.call hb8 rfl rfl ((conv_Do b F202 (S3 T (decL B ++ [35] ++ T)) s_cvi _ [strO (S2 T) ((decL B ++ [35] ++ T).length : Int)] _ _ hF220 (sok_3 hTl hXl) (hE.chg hB229 freeN) (hE.free hB229 freeN) (hob219).rowp (fun _ => hnf230) (show (1 : Nat) ≤ _ by decide) (show (0 : Nat) ≤ _ by decide) dD (fun x hx => by rcases List.mem_cons.1 hx with rfl | hx; rw [x2]; exact ⟨show (_ : Int) ≤ 0 by decide, show (0 : Int) ≤ _ by decide⟩; cases hx))) (fun r w231 hw231 => ?_)
 obtain ⟨v6, F6, rfl, ho6, hn6, hst6, hC6⟩ := hw231
 rw [d3] at ho6
 have ho6 : OwnM objL 27 _ w231 v6 [numOb 1 n] := ho6
 obtain ⟨p6, c6, rfl, hrow6, -⟩ := ho6.row
 have hvn6 := vnf_of hrow6 hn6
 have hnf232 := Chg.nf hC6 hnf203 hk221.lt
 have hnf233 := Chg.nf hC6 hnf204 hk223.lt
 have hnf238 := fun h0 => Chg.nf hC6 (hnf209 h0) (hv225.lt h0)
 have hnf240 := fun h0 => Chg.nf hC6 (hnf211 h0) (hv227.lt h0)
 have hv239 := BytesAt.chg hv227 hC6 hnf211
 have hB241 := Chg.trans hB229 hC6
 refine WL.m rfl rfl <| WL.p (.ext rfl rfl) rfl <| WL.p (.iis (0) (.ext rfl rfl) (by rw [d3])) rfl <| WL.a rfl rfl <| WL.z rfl rfl ?_
 refine W.sr <| WL.m rfl rfl <| WL.p (.eql rfl rfl) rfl <| WL.m rfl rfl <| WL.gy rfl rfl rfl rfl <| WL.m rfl rfl <| WL.gy rfl rfl rfl rfl <| WL.p (.eql rfl rfl) rfl <| WL.p (.pkT rfl rfl rfl) rfl <| WL.m rfl rfl <| WL.gy rfl rfl rfl rfl <| WL.m rfl rfl <| WL.gy rfl rfl rfl rfl <| WL.p (.ixm underlying30 sizeOf27 rfl rfl (hrow6.isp (by first | omega | (simp only [List.length_cons, List.length_nil]; omega))) (0) (rfl) (Nat.zero_lt_one)) rfl <| WL.gy rfl rfl rfl rfl <| WL.p (.fa underlying27 rfl sizeOf3 dD rfl) rfl <| WL.gy rfl rfl rfl rfl <| WL.r (Rd.iis (n) (Rd.ldc (isAgg3 _) rfl ((hrow6.field (0) (by first | omega | (simp only [List.length_cons, List.length_nil]; omega)) 3 dD).trans rfl)) (by rfl)) rfl <| WL.gy rfl rfl rfl rfl <| WL.m rfl rfl <| WL.gy rfl rfl rfl rfl <| WL.p (.cvt underlying21 underlying3 rfl (i64w oO)) rfl <| WL.gy rfl rfl rfl rfl <| WL.p (.bis (true) (.eql rfl rfl) (by simp)) rfl <| WL.p (.pkT rfl rfl rfl) rfl <| WL.m rfl rfl <| WL.gy rfl rfl rfl rfl <| WL.m rfl rfl <| WL.gy rfl rfl rfl rfl <| WL.p (.lenS underlying35 rfl) rfl <| WL.gy rfl rfl rfl rfl <| WL.p (.eql rfl rfl) rfl <| WL.gy rfl rfl rfl rfl <| WL.m rfl rfl <| WL.gd rfl rfl rfl (fun g242 => ?_) (fun g242 => ?_)
 have g242' := dF g242
 refine WL.m rfl rfl <| WL.gy rfl rfl rfl g242 <| WL.p (.ixb underlying35 sizeOf5 rfl rfl (hv239.isp oO) (0) (rfl) (hT0)) rfl <| WL.gy rfl rfl rfl g242 <| WL.r (Rd.ldc (isAgg5 _) rfl (hv239.cells (0) (hT0))) rfl <| WL.gy rfl rfl rfl g242 <| WL.p (.bis (true) (.neq rfl rfl) (by have h9 : T[0].toNat ≠ 48 := fun h8 => hT1 oO (UInt8.toNat_inj.1 h8); simp; omega)) rfl <| WL.gy rfl rfl rfl rfl <| WL.p (.pkF rfl g242 rfl) rfl <| WL.p (.pkT rfl rfl rfl) rfl <| WL.z rfl rfl ?_
 refine W.ret (W.ret1 rfl rfl ?_)
 exact ⟨rbE (by first | rfl | simp_all), (hB241).none⟩
 have g242' := dT g242
 refine WL.gn rfl rfl rfl g242 <| WL.gn rfl rfl rfl g242 <| WL.gn rfl rfl rfl g242 <| WL.gy rfl rfl rfl rfl <| WL.p (.pkT rfl g242 rfl) rfl <| WL.p (.pkT rfl rfl rfl) rfl <| WL.z rfl rfl ?_
 refine W.ret (W.ret1 rfl rfl ?_)
 exact ⟨rbE (by first | rfl | simp_all), (hB241).none⟩
 refine WL.alloc zeroValue27 rfl (fun b243 wb243 eb243 hkb243 hub243 hsb243 => ?_)
 have hF244 := Sto.same (w1 := wb243) hF60 (fun k hk hl => hub243.other k oO)
 have hl246 : b6 < b243 := by rw [eb243]; exact hk61.lt
 have hk245 := hk61.upd hub243 (Nat.ne_of_lt hl246)
 have hvl248 := fun h0 => eb243 ▸ hv62.lt h0
 have hv247 := RowM.upd hv62 hub243 (fun h0 => Nat.ne_of_lt (hvl248 h0))
 have hvl250 := fun h0 => eb243 ▸ hv63.lt h0
 have hv249 := bup hv63 hub243 hvl250
 have hgeb243 : w.heap.size ≤ b243 := by rw [eb243]; exact hB64.size
 have hB251 := Chg.upd hB64 hub243 hgeb243
 have hnf252 : ¬ F3 b243 := fun hq => by have hq1 := (hF60).lt hq; omega
 refine WL.nil <| ?_
 refine WY.br1 5 rfl ?_
 refine WL.r (Rd.b2s (l := T) underlying35 underlying5 underlying9 rfl (hv249)) rfl <| WL.nil <| ?_
 refine WY.tk 6 rfl (.cat rfl rfl (by simp only [List.length_append, List.length_cons, List.length_nil]; omega)) rfl ?_
 refine WY.br1 7 rfl ?_
 refine WL.s2b underlying9 underlying35 underlying5 rfl rfl (fun b253 wb253 cs78 eb253 hs78 hcs78 hub253 hsb253 => ?_)
 have hF254 := Sto.same (w1 := wb253) hF244 (fun k hk hl => hub253.other k oO)
 have hl256 : b6 < b253 := by rw [eb253]; exact hk245.lt
 have hk255 := hk245.upd hub253 (Nat.ne_of_lt hl256)
 have hl258 : b243 < b253 := by rw [eb253]; exact hkb243.lt
 have hk257 := hkb243.upd hub253 (Nat.ne_of_lt hl258)
 have hvl260 := fun h0 => eb253 ▸ hv247.lt h0
 have hv259 := RowM.upd hv247 hub253 (fun h0 => Nat.ne_of_lt (hvl260 h0))
 have hvl262 := fun h0 => eb253 ▸ hv249.lt h0
 have hv261 := bup hv249 hub253 hvl262
 have hgeb253 : w.heap.size ≤ b253 := by rw [eb253]; exact hB251.size
 have hB263 := Chg.upd hB251 hub253 hgeb253
 have hnf264 : ¬ F3 b253 := fun hq => by have hq1 := (hF244).lt hq; omega
 refine WL.nil <| ?_
 refine WY.br1 8 rfl ?_
 refine WL.c1 hb12 rfl rfl ((sto_Text b F3 (S2 T) (some ⟨b253, 0, none⟩) (decL B ++ [35] ++ T) _ _ hF254 (sok_2 hTl) hs78 (fun _ => hnf264) oO)) (fun w265 hw265 => ?_)
 obtain ⟨F266, hstF266, hCF266, hxF266⟩ := Chg.open hw265
 have hnf267 := Chg.nf hCF266 hnf20 hk255.lt
 have hnf268 := Chg.nf hCF266 hnf252 hk257.lt
 have hk270 := Blk.chg hk255 hCF266 hnf20
 have hk271 := Blk.chg hk257 hCF266 hnf252
 have hnf273 := fun h0 => Chg.nf hCF266 (hvn3 h0) (hv259.lt h0)
 have hv272 := RowM.chg hv259 hCF266 hvn3
 have hnf275 := fun h0 => Chg.nf hCF266 (hnb5 h0) (hv261.lt h0)
 have hv274 := BytesAt.chg hv261 hCF266 hnb5
 have hB276 := Chg.trans hB263 hCF266
 have hst4 : Sto w265 b F266 (S3 T (decL B ++ [35] ++ T)) := by rw [← x1]; exact hstF266
 refine WL.nil <| ?_
 refine WY.tk 9 rfl (.mv rfl) rfl ?_
 refine WY.tk 10 rfl (.ext rfl rfl) rfl ?_
 refine WY.tk 11 rfl (.iis (0) (.ext rfl rfl) (by exact str_S2 T hXl)) rfl ?_
 refine WY.br1 13 rfl ?_
 refine WL.stL rfl rfl hk271 isz27 rfl rfl (fun w277 hkw277 huw277 hsw277 => ?_)
 have hF278 := Sto.same (w1 := w277) hst4 (fun k hk hl => huw277.other k (fun e => hnf268 (e ▸ hk)))
 have hk279 := hk270.up huw277
 have hv280 := RowM.upd hv272 huw277 (fun h0 => Nat.ne_of_lt (hvl248 h0))
 have hv281 := bup hv274 huw277 hvl250
 have hB282 := Chg.upd hB276 huw277 oO
 refine WL.nil <| ?_
 refine WY.tk 14 rfl (.as rfl) rfl ?_
 refine WY.done kR ?_
 refine W.sr <| WL.m rfl rfl <| WL.r (Rd.ldA rfl hkw277 underlying27 rfl isz27) rfl <| WL.bslM (L := objL) (ps := _) ([strO (S2 T) ((decL B ++ [35] ++ T).length : Int)]) underlying30 sizeOf27 zeroValue27 rfl rfl rfl rfl rfl (by first | rfl | decide) rfl rfl (fun b283 wb283 eb283 hob283 hub283 hsb283 => ?_)
 have hF284 := Sto.same (w1 := wb283) hF278 (fun k hk hl => hub283.other k oO)
 have hl286 : b6 < b283 := by rw [eb283]; exact hk279.lt
 have hk285 := hk279.upd hub283 (Nat.ne_of_lt hl286)
 have hl288 : b243 < b283 := by rw [eb283]; exact hkw277.lt
 have hk287 := hkw277.upd hub283 (Nat.ne_of_lt hl288)
 have hvl290 := fun h0 => eb283 ▸ hv280.lt h0
 have hv289 := RowM.upd hv280 hub283 (fun h0 => Nat.ne_of_lt (hvl290 h0))
 have hvl292 := fun h0 => eb283 ▸ hv281.lt h0
 have hv291 := bup hv281 hub283 hvl292
 have hgeb283 : w.heap.size ≤ b283 := by rw [eb283]; exact hB282.size
 have hB293 := Chg.upd hB282 hub283 hgeb283
 have hnf294 : ¬ F266 b283 := fun hq => by have hq1 := (hF278).lt hq; omega
 have hleb283 : b283 ≤ wb283.heap.size := by omega
 refine WL.call hb8 rfl rfl ((conv_Do b F266 (S3 T (decL B ++ [35] ++ T)) s_cvi _ [strO (S2 T) ((decL B ++ [35] ++ T).length : Int)] _ _ hF284 (sok_3 hTl hXl) (hE.chg hB293 freeN) (hE.free hB293 freeN) (hob283).rowp (fun _ => hnf294) (show (1 : Nat) ≤ _ by decide) (show (0 : Nat) ≤ _ by decide) dD (fun x hx => by rcases List.mem_cons.1 hx with rfl | hx; rw [x2]; exact ⟨show (_ : Int) ≤ 0 by decide, show (0 : Int) ≤ _ by decide⟩; cases hx))) (fun r w295 hw295 => ?_)
 obtain ⟨v6, F6, rfl, ho6, hn6, hst6, hC6⟩ := hw295
 rw [d3] at ho6
 have ho6 : OwnM objL 27 _ w295 v6 [numOb 1 n] := ho6
 obtain ⟨p6, c6, rfl, hrow6, -⟩ := ho6.row
 have hvn6 := vnf_of hrow6 hn6
 have hnf296 := Chg.nf hC6 hnf267 hk285.lt
 have hnf297 := Chg.nf hC6 hnf268 hk287.lt
 have hnf302 := fun h0 => Chg.nf hC6 (hnf273 h0) (hv289.lt h0)
 have hnf304 := fun h0 => Chg.nf hC6 (hnf275 h0) (hv291.lt h0)
 have hv303 := BytesAt.chg hv291 hC6 hnf275
 have hB305 := Chg.trans hB293 hC6
 refine WL.m rfl rfl <| WL.p (.ext rfl rfl) rfl <| WL.p (.iis (0) (.ext rfl rfl) (by rw [d3])) rfl <| WL.a rfl rfl <| WL.z rfl rfl ?_
 refine W.sr <| WL.m rfl rfl <| WL.p (.eql rfl rfl) rfl <| WL.m rfl rfl <| WL.gy rfl rfl rfl rfl <| WL.m rfl rfl <| WL.gy rfl rfl rfl rfl <| WL.p (.eql rfl rfl) rfl <| WL.p (.pkT rfl rfl rfl) rfl <| WL.m rfl rfl <| WL.gy rfl rfl rfl rfl <| WL.m rfl rfl <| WL.gy rfl rfl rfl rfl <| WL.p (.ixm underlying30 sizeOf27 rfl rfl (hrow6.isp (by first | omega | (simp only [List.length_cons, List.length_nil]; omega))) (0) (rfl) (Nat.zero_lt_one)) rfl <| WL.gy rfl rfl rfl rfl <| WL.p (.fa underlying27 rfl sizeOf3 dD rfl) rfl <| WL.gy rfl rfl rfl rfl <| WL.r (Rd.iis (n) (Rd.ldc (isAgg3 _) rfl ((hrow6.field (0) (by first | omega | (simp only [List.length_cons, List.length_nil]; omega)) 3 dD).trans rfl)) (by rfl)) rfl <| WL.gy rfl rfl rfl rfl <| WL.m rfl rfl <| WL.gy rfl rfl rfl rfl <| WL.p (.cvt underlying21 underlying3 rfl (i64w oO)) rfl <| WL.gy rfl rfl rfl rfl <| WL.p (.bis (true) (.eql rfl rfl) (by simp)) rfl <| WL.p (.pkT rfl rfl rfl) rfl <| WL.m rfl rfl <| WL.gy rfl rfl rfl rfl <| WL.m rfl rfl <| WL.gy rfl rfl rfl rfl <| WL.p (.lenS underlying35 rfl) rfl <| WL.gy rfl rfl rfl rfl <| WL.p (.eql rfl rfl) rfl <| WL.gy rfl rfl rfl rfl <| WL.m rfl rfl <| WL.gd rfl rfl rfl (fun g306 => ?_) (fun g306 => ?_)
 have g306' := dF g306
 refine WL.m rfl rfl <| WL.gy rfl rfl rfl g306 <| WL.p (.ixb underlying35 sizeOf5 rfl rfl (hv303.isp oO) (0) (rfl) (hT0)) rfl <| WL.gy rfl rfl rfl g306 <| WL.r (Rd.ldc (isAgg5 _) rfl (hv303.cells (0) (hT0))) rfl <| WL.gy rfl rfl rfl g306 <| WL.p (.bis (true) (.neq rfl rfl) (by have h9 : T[0].toNat ≠ 48 := fun h8 => hT1 oO (UInt8.toNat_inj.1 h8); simp; omega)) rfl <| WL.gy rfl rfl rfl rfl <| WL.p (.pkF rfl g306 rfl) rfl <| WL.p (.pkT rfl rfl rfl) rfl <| WL.z rfl rfl ?_
 refine W.ret (W.ret1 rfl rfl ?_)
 exact ⟨rbE (by first | rfl | simp_all), (hB305).none⟩
 have g306' := dT g306
 refine WL.gn rfl rfl rfl g306 <| WL.gn rfl rfl rfl g306 <| WL.gn rfl rfl rfl g306 <| WL.gy rfl rfl rfl rfl <| WL.p (.pkT rfl g306 rfl) rfl <| WL.p (.pkT rfl rfl rfl) rfl <| WL.z rfl rfl ?_
 refine W.ret (W.ret1 rfl rfl ?_)
 exact ⟨rbE (by first | rfl | simp_all), (hB305).none⟩
 refine WL.r (Rd.b2s (l := T) underlying35 underlying5 underlying9 rfl (hv57)) rfl <| WL.nil <| ?_
 refine WY.br2 2 rfl 12 rfl ?_ ?_
 refine WL.c1 hb11 rfl rfl ((ref_Dec B _ oO oO)) (fun w307 hw307 => ?_)
 have hF308 := Sto.same (w1 := w307) hF54 (fun k hk hl => hw307.block k hl)
 have hk309 := hk55.below hw307 hk55.lt
 have hv310 := RowM.below hv56 hw307 (fun h0 => hv56.lt h0)
 have hv311 := BytesAt.below hv57 hw307 (fun h0 => hv57.lt h0)
 have hB312 := Chg.low hB58 hw307
 refine WL.nil <| ?_
 refine WY.tk 3 rfl (.cat rfl rfl (by simp only [List.length_append, List.length_cons, List.length_nil]; omega)) rfl ?_
 refine WY.tk 6 rfl (.cat rfl rfl (by simp only [List.length_append, List.length_cons, List.length_nil]; omega)) rfl ?_
 refine WY.br2 7 rfl 12 rfl ?_ ?_
 refine WL.s2b underlying9 underlying35 underlying5 rfl rfl (fun b313 wb313 cs78 eb313 hs78 hcs78 hub313 hsb313 => ?_)
 have hF314 := Sto.same (w1 := wb313) hF308 (fun k hk hl => hub313.other k oO)
 have hl316 : b6 < b313 := by rw [eb313]; exact hk309.lt
 have hk315 := hk309.upd hub313 (Nat.ne_of_lt hl316)
 have hvl318 := fun h0 => eb313 ▸ hv310.lt h0
 have hv317 := RowM.upd hv310 hub313 (fun h0 => Nat.ne_of_lt (hvl318 h0))
 have hvl320 := fun h0 => eb313 ▸ hv311.lt h0
 have hv319 := bup hv311 hub313 hvl320
 have hgeb313 : w.heap.size ≤ b313 := by rw [eb313]; exact hB312.size
 have hB321 := Chg.upd hB312 hub313 hgeb313
 have hnf322 : ¬ F3 b313 := fun hq => by have hq1 := (hF308).lt hq; omega
 refine WL.nil <| ?_
 refine WY.br2 8 rfl 12 rfl ?_ ?_
 refine WL.c1 hb12 rfl rfl ((sto_Text b F3 (S2 T) (some ⟨b313, 0, none⟩) (decL B ++ [35] ++ T) _ _ hF314 (sok_2 hTl) hs78 (fun _ => hnf322) oO)) (fun w323 hw323 => ?_)
 obtain ⟨F324, hstF324, hCF324, hxF324⟩ := Chg.open hw323
 have hnf325 := Chg.nf hCF324 hnf20 hk315.lt
 have hk327 := Blk.chg hk315 hCF324 hnf20
 have hnf329 := fun h0 => Chg.nf hCF324 (hvn3 h0) (hv317.lt h0)
 have hv328 := RowM.chg hv317 hCF324 hvn3
 have hnf331 := fun h0 => Chg.nf hCF324 (hnb5 h0) (hv319.lt h0)
 have hv330 := BytesAt.chg hv319 hCF324 hnb5
 have hB332 := Chg.trans hB321 hCF324
 have hst4 : Sto w323 b F324 (S3 T (decL B ++ [35] ++ T)) := by rw [← x1]; exact hstF324
 refine WL.nil <| ?_
 refine WY.tk 9 rfl (.mv rfl) rfl ?_
 refine WY.tk 10 rfl (.ext rfl rfl) rfl ?_
 refine WY.tk 11 rfl (.iis (0) (.ext rfl rfl) (by exact str_S2 T hXl)) rfl ?_
 refine WY.br1 12 rfl ?_
 refine WL.alloc zeroValue27 rfl (fun b333 wb333 eb333 hkb333 hub333 hsb333 => ?_)
 have hF334 := Sto.same (w1 := wb333) hst4 (fun k hk hl => hub333.other k oO)
 have hl336 : b6 < b333 := by rw [eb333]; exact hk327.lt
 have hk335 := hk327.upd hub333 (Nat.ne_of_lt hl336)
 have hvl338 := fun h0 => eb333 ▸ hv328.lt h0
 have hv337 := RowM.upd hv328 hub333 (fun h0 => Nat.ne_of_lt (hvl338 h0))
 have hvl340 := fun h0 => eb333 ▸ hv330.lt h0
 have hv339 := bup hv330 hub333 hvl340
 have hgeb333 : w.heap.size ≤ b333 := by rw [eb333]; exact hB332.size
 have hB341 := Chg.upd hB332 hub333 hgeb333
 have hnf342 : ¬ F324 b333 := fun hq => by have hq1 := (hst4).lt hq; omega
 refine WL.nil <| ?_
 refine WY.br1 13 rfl ?_
 refine WL.stL rfl rfl hkb333 isz27 rfl rfl (fun w343 hkw343 huw343 hsw343 => ?_)
 have hF344 := Sto.same (w1 := w343) hF334 (fun k hk hl => huw343.other k (fun e => hnf342 (e ▸ hk)))
 have hk345 := hk335.up huw343
 have hv346 := RowM.upd hv337 huw343 (fun h0 => Nat.ne_of_lt (hvl338 h0))
 have hv347 := bup hv339 huw343 hvl340
 have hB348 := Chg.upd hB341 huw343 oO
 refine WL.nil <| ?_
 refine WY.tk 14 rfl (.as rfl) rfl ?_
 refine WY.done kR ?_
 refine W.sr <| WL.m rfl rfl <| WL.r (Rd.ldA rfl hkw343 underlying27 rfl isz27) rfl <| WL.bslM (L := objL) (ps := _) ([strO (S2 T) ((decL B ++ [35] ++ T).length : Int)]) underlying30 sizeOf27 zeroValue27 rfl rfl rfl rfl rfl (by first | rfl | decide) rfl rfl (fun b349 wb349 eb349 hob349 hub349 hsb349 => ?_)
 have hF350 := Sto.same (w1 := wb349) hF344 (fun k hk hl => hub349.other k oO)
 have hl352 : b6 < b349 := by rw [eb349]; exact hk345.lt
 have hk351 := hk345.upd hub349 (Nat.ne_of_lt hl352)
 have hl354 : b333 < b349 := by rw [eb349]; exact hkw343.lt
 have hk353 := hkw343.upd hub349 (Nat.ne_of_lt hl354)
 have hvl356 := fun h0 => eb349 ▸ hv346.lt h0
 have hv355 := RowM.upd hv346 hub349 (fun h0 => Nat.ne_of_lt (hvl356 h0))
 have hvl358 := fun h0 => eb349 ▸ hv347.lt h0
 have hv357 := bup hv347 hub349 hvl358
 have hgeb349 : w.heap.size ≤ b349 := by rw [eb349]; exact hB348.size
 have hB359 := Chg.upd hB348 hub349 hgeb349
 have hnf360 : ¬ F324 b349 := fun hq => by have hq1 := (hF344).lt hq; omega
 have hleb349 : b349 ≤ wb349.heap.size := by omega
 refine WL.call hb8 rfl rfl ((conv_Do b F324 (S3 T (decL B ++ [35] ++ T)) s_cvi _ [strO (S2 T) ((decL B ++ [35] ++ T).length : Int)] _ _ hF350 (sok_3 hTl hXl) (hE.chg hB359 freeN) (hE.free hB359 freeN) (hob349).rowp (fun _ => hnf360) (show (1 : Nat) ≤ _ by decide) (show (0 : Nat) ≤ _ by decide) dD (fun x hx => by rcases List.mem_cons.1 hx with rfl | hx; rw [x2]; exact ⟨show (_ : Int) ≤ 0 by decide, show (0 : Int) ≤ _ by decide⟩; cases hx))) (fun r w361 hw361 => ?_)
 obtain ⟨v6, F6, rfl, ho6, hn6, hst6, hC6⟩ := hw361
 rw [d3] at ho6
 have ho6 : OwnM objL 27 _ w361 v6 [numOb 1 n] := ho6
 obtain ⟨p6, c6, rfl, hrow6, -⟩ := ho6.row
 have hvn6 := vnf_of hrow6 hn6
 have hnf362 := Chg.nf hC6 hnf325 hk351.lt
 have hnf363 := Chg.nf hC6 hnf342 hk353.lt
 have hnf368 := fun h0 => Chg.nf hC6 (hnf329 h0) (hv355.lt h0)
 have hnf370 := fun h0 => Chg.nf hC6 (hnf331 h0) (hv357.lt h0)
 have hv369 := BytesAt.chg hv357 hC6 hnf331
 have hB371 := Chg.trans hB359 hC6
 refine WL.m rfl rfl <| WL.p (.ext rfl rfl) rfl <| WL.p (.iis (0) (.ext rfl rfl) (by rw [d3])) rfl <| WL.a rfl rfl <| WL.z rfl rfl ?_
 refine W.sr <| WL.m rfl rfl <| WL.p (.eql rfl rfl) rfl <| WL.m rfl rfl <| WL.gy rfl rfl rfl rfl <| WL.m rfl rfl <| WL.gy rfl rfl rfl rfl <| WL.p (.eql rfl rfl) rfl <| WL.p (.pkT rfl rfl rfl) rfl <| WL.m rfl rfl <| WL.gy rfl rfl rfl rfl <| WL.m rfl rfl <| WL.gy rfl rfl rfl rfl <| WL.p (.ixm underlying30 sizeOf27 rfl rfl (hrow6.isp (by first | omega | (simp only [List.length_cons, List.length_nil]; omega))) (0) (rfl) (Nat.zero_lt_one)) rfl <| WL.gy rfl rfl rfl rfl <| WL.p (.fa underlying27 rfl sizeOf3 dD rfl) rfl <| WL.gy rfl rfl rfl rfl <| WL.r (Rd.iis (n) (Rd.ldc (isAgg3 _) rfl ((hrow6.field (0) (by first | omega | (simp only [List.length_cons, List.length_nil]; omega)) 3 dD).trans rfl)) (by rfl)) rfl <| WL.gy rfl rfl rfl rfl <| WL.m rfl rfl <| WL.gy rfl rfl rfl rfl <| WL.p (.cvt underlying21 underlying3 rfl (i64w oO)) rfl <| WL.gy rfl rfl rfl rfl <| WL.p (.bis (true) (.eql rfl rfl) (by simp)) rfl <| WL.p (.pkT rfl rfl rfl) rfl <| WL.m rfl rfl <| WL.gy rfl rfl rfl rfl <| WL.m rfl rfl <| WL.gy rfl rfl rfl rfl <| WL.p (.lenS underlying35 rfl) rfl <| WL.gy rfl rfl rfl rfl <| WL.p (.eql rfl rfl) rfl <| WL.gy rfl rfl rfl rfl <| WL.m rfl rfl <| WL.gd rfl rfl rfl (fun g372 => ?_) (fun g372 => ?_)
 have g372' := dF g372
 refine WL.m rfl rfl <| WL.gy rfl rfl rfl g372 <| WL.p (.ixb underlying35 sizeOf5 rfl rfl (hv369.isp oO) (0) (rfl) (hT0)) rfl <| WL.gy rfl rfl rfl g372 <| WL.r (Rd.ldc (isAgg5 _) rfl (hv369.cells (0) (hT0))) rfl <| WL.gy rfl rfl rfl g372 <| WL.p (.bis (true) (.neq rfl rfl) (by have h9 : T[0].toNat ≠ 48 := fun h8 => hT1 oO (UInt8.toNat_inj.1 h8); simp; omega)) rfl <| WL.gy rfl rfl rfl rfl <| WL.p (.pkF rfl g372 rfl) rfl <| WL.p (.pkT rfl rfl rfl) rfl <| WL.z rfl rfl ?_
 refine W.ret (W.ret1 rfl rfl ?_)
 exact ⟨rbE (by first | rfl | simp_all), (hB371).none⟩
 have g372' := dT g372
 refine WL.gn rfl rfl rfl g372 <| WL.gn rfl rfl rfl g372 <| WL.gn rfl rfl rfl g372 <| WL.gy rfl rfl rfl rfl <| WL.p (.pkT rfl g372 rfl) rfl <| WL.p (.pkT rfl rfl rfl) rfl <| WL.z rfl rfl ?_
 refine W.ret (W.ret1 rfl rfl ?_)
 exact ⟨rbE (by first | rfl | simp_all), (hB371).none⟩
 refine WL.alloc zeroValue27 rfl (fun b373 wb373 eb373 hkb373 hub373 hsb373 => ?_)
 have hF374 := Sto.same (w1 := wb373) hF314 (fun k hk hl => hub373.other k oO)
 have hl376 : b6 < b373 := by rw [eb373]; exact hk315.lt
 have hk375 := hk315.upd hub373 (Nat.ne_of_lt hl376)
 have hvl378 := fun h0 => eb373 ▸ hv317.lt h0
 have hv377 := RowM.upd hv317 hub373 (fun h0 => Nat.ne_of_lt (hvl378 h0))
 have hvl380 := fun h0 => eb373 ▸ hv319.lt h0
 have hv379 := bup hv319 hub373 hvl380
 have hvl382 := fun h0 => eb373 ▸ hs78.lt h0
 have hv381 := bup hs78 hub373 hvl382
 have hgeb373 : w.heap.size ≤ b373 := by rw [eb373]; exact hB321.size
 have hB383 := Chg.upd hB321 hub373 hgeb373
 have hnf384 : ¬ F3 b373 := fun hq => by have hq1 := (hF314).lt hq; omega
 refine WL.nil <| ?_
 refine WY.br1 8 rfl ?_
 refine WL.c1 hb12 rfl rfl ((sto_Text b F3 (S2 T) (some ⟨b313, 0, none⟩) (decL B ++ [35] ++ T) _ _ hF374 (sok_2 hTl) hv381 (fun _ => hnf322) oO)) (fun w385 hw385 => ?_)
 obtain ⟨F386, hstF386, hCF386, hxF386⟩ := Chg.open hw385
 have hnf387 := Chg.nf hCF386 hnf20 hk375.lt
 have hnf389 := Chg.nf hCF386 hnf384 hkb373.lt
 have hk390 := Blk.chg hk375 hCF386 hnf20
 have hk391 := Blk.chg hkb373 hCF386 hnf384
 have hnf393 := fun h0 => Chg.nf hCF386 (hvn3 h0) (hv377.lt h0)
 have hv392 := RowM.chg hv377 hCF386 hvn3
 have hnf395 := fun h0 => Chg.nf hCF386 (hnb5 h0) (hv379.lt h0)
 have hv394 := BytesAt.chg hv379 hCF386 hnb5
 have hB396 := Chg.trans hB383 hCF386
 have hst4 : Sto w385 b F386 (S3 T (decL B ++ [35] ++ T)) := by rw [← x1]; exact hstF386
 refine WL.nil <| ?_
 refine WY.tk 9 rfl (.mv rfl) rfl ?_
 refine WY.tk 10 rfl (.ext rfl rfl) rfl ?_
 refine WY.tk 11 rfl (.iis (0) (.ext rfl rfl) (by exact str_S2 T hXl)) rfl ?_
 refine WY.br1 13 rfl ?_
 refine WL.stL rfl rfl hk391 isz27 rfl rfl (fun w397 hkw397 huw397 hsw397 => ?_)
 have hF398 := Sto.same (w1 := w397) hst4 (fun k hk hl => huw397.other k (fun e => hnf389 (e ▸ hk)))
 have hk399 := hk390.up huw397
 have hv400 := RowM.upd hv392 huw397 (fun h0 => Nat.ne_of_lt (hvl378 h0))
 have hv401 := bup hv394 huw397 hvl380
 have hB402 := Chg.upd hB396 huw397 oO
 refine WL.nil <| ?_
 refine WY.tk 14 rfl (.as rfl) rfl ?_
 refine WY.done kR ?_
 refine W.sr <| WL.m rfl rfl <| WL.r (Rd.ldA rfl hkw397 underlying27 rfl isz27) rfl <| WL.bslM (L := objL) (ps := _) ([strO (S2 T) ((decL B ++ [35] ++ T).length : Int)]) underlying30 sizeOf27 zeroValue27 rfl rfl rfl rfl rfl (by first | rfl | decide) rfl rfl (fun b403 wb403 eb403 hob403 hub403 hsb403 => ?_)
 have hF404 := Sto.same (w1 := wb403) hF398 (fun k hk hl => hub403.other k oO)
 have hl406 : b6 < b403 := by rw [eb403]; exact hk399.lt
 have hk405 := hk399.upd hub403 (Nat.ne_of_lt hl406)
 have hl408 : b373 < b403 := by rw [eb403]; exact hkw397.lt
 have hk407 := hkw397.upd hub403 (Nat.ne_of_lt hl408)
 have hvl410 := fun h0 => eb403 ▸ hv400.lt h0
 have hv409 := RowM.upd hv400 hub403 (fun h0 => Nat.ne_of_lt (hvl410 h0))
 have hvl412 := fun h0 => eb403 ▸ hv401.lt h0
 have hv411 := bup hv401 hub403 hvl412
 have hgeb403 : w.heap.size ≤ b403 := by rw [eb403]; exact hB402.size
 have hB413 := Chg.upd hB402 hub403 hgeb403
 have hnf414 : ¬ F386 b403 := fun hq => by have hq1 := (hF398).lt hq; omega
 have hleb403 : b403 ≤ wb403.heap.size := by omega
 refine WL.call hb8 rfl rfl ((conv_Do b F386 (S3 T (decL B ++ [35] ++ T)) s_cvi _ [strO (S2 T) ((decL B ++ [35] ++ T).length : Int)] _ _ hF404 (sok_3 hTl hXl) (hE.chg hB413 freeN) (hE.free hB413 freeN) (hob403).rowp (fun _ => hnf414) (show (1 : Nat) ≤ _ by decide) (show (0 : Nat) ≤ _ by decide) dD (fun x hx => by rcases List.mem_cons.1 hx with rfl | hx; rw [x2]; exact ⟨show (_ : Int) ≤ 0 by decide, show (0 : Int) ≤ _ by decide⟩; cases hx))) (fun r w415 hw415 => ?_)
 obtain ⟨v6, F6, rfl, ho6, hn6, hst6, hC6⟩ := hw415
 rw [d3] at ho6
 have ho6 : OwnM objL 27 _ w415 v6 [numOb 1 n] := ho6
 obtain ⟨p6, c6, rfl, hrow6, -⟩ := ho6.row
 have hvn6 := vnf_of hrow6 hn6
 have hnf416 := Chg.nf hC6 hnf387 hk405.lt
 have hnf417 := Chg.nf hC6 hnf389 hk407.lt
 have hnf422 := fun h0 => Chg.nf hC6 (hnf393 h0) (hv409.lt h0)
 have hnf424 := fun h0 => Chg.nf hC6 (hnf395 h0) (hv411.lt h0)
 have hv423 := BytesAt.chg hv411 hC6 hnf395
 have hB425 := Chg.trans hB413 hC6
 refine WL.m rfl rfl <| WL.p (.ext rfl rfl) rfl <| WL.p (.iis (0) (.ext rfl rfl) (by rw [d3])) rfl <| WL.a rfl rfl <| WL.z rfl rfl ?_
 refine W.sr <| WL.m rfl rfl <| WL.p (.eql rfl rfl) rfl <| WL.m rfl rfl <| WL.gy rfl rfl rfl rfl <| WL.m rfl rfl <| WL.gy rfl rfl rfl rfl <| WL.p (.eql rfl rfl) rfl <| WL.p (.pkT rfl rfl rfl) rfl <| WL.m rfl rfl <| WL.gy rfl rfl rfl rfl <| WL.m rfl rfl <| WL.gy rfl rfl rfl rfl <| WL.p (.ixm underlying30 sizeOf27 rfl rfl (hrow6.isp (by first | omega | (simp only [List.length_cons, List.length_nil]; omega))) (0) (rfl) (Nat.zero_lt_one)) rfl <| WL.gy rfl rfl rfl rfl <| WL.p (.fa underlying27 rfl sizeOf3 dD rfl) rfl <| WL.gy rfl rfl rfl rfl <| WL.r (Rd.iis (n) (Rd.ldc (isAgg3 _) rfl ((hrow6.field (0) (by first | omega | (simp only [List.length_cons, List.length_nil]; omega)) 3 dD).trans rfl)) (by rfl)) rfl <| WL.gy rfl rfl rfl rfl <| WL.m rfl rfl <| WL.gy rfl rfl rfl rfl <| WL.p (.cvt underlying21 underlying3 rfl (i64w oO)) rfl <| WL.gy rfl rfl rfl rfl <| WL.p (.bis (true) (.eql rfl rfl) (by simp)) rfl <| WL.p (.pkT rfl rfl rfl) rfl <| WL.m rfl rfl <| WL.gy rfl rfl rfl rfl <| WL.m rfl rfl <| WL.gy rfl rfl rfl rfl <| WL.p (.lenS underlying35 rfl) rfl <| WL.gy rfl rfl rfl rfl <| WL.p (.eql rfl rfl) rfl <| WL.gy rfl rfl rfl rfl <| WL.m rfl rfl <| WL.gd rfl rfl rfl (fun g426 => ?_) (fun g426 => ?_)
 have g426' := dF g426
 refine WL.m rfl rfl <| WL.gy rfl rfl rfl g426 <| WL.p (.ixb underlying35 sizeOf5 rfl rfl (hv423.isp oO) (0) (rfl) (hT0)) rfl <| WL.gy rfl rfl rfl g426 <| WL.r (Rd.ldc (isAgg5 _) rfl (hv423.cells (0) (hT0))) rfl <| WL.gy rfl rfl rfl g426 <| WL.p (.bis (true) (.neq rfl rfl) (by have h9 : T[0].toNat ≠ 48 := fun h8 => hT1 oO (UInt8.toNat_inj.1 h8); simp; omega)) rfl <| WL.gy rfl rfl rfl rfl <| WL.p (.pkF rfl g426 rfl) rfl <| WL.p (.pkT rfl rfl rfl) rfl <| WL.z rfl rfl ?_
 refine W.ret (W.ret1 rfl rfl ?_)
 exact ⟨rbE (by first | rfl | simp_all), (hB425).none⟩
 have g426' := dT g426
 refine WL.gn rfl rfl rfl g426 <| WL.gn rfl rfl rfl g426 <| WL.gn rfl rfl rfl g426 <| WL.gy rfl rfl rfl rfl <| WL.p (.pkT rfl g426 rfl) rfl <| WL.p (.pkT rfl rfl rfl) rfl <| WL.z rfl rfl ?_
 refine W.ret (W.ret1 rfl rfl ?_)
 exact ⟨rbE (by first | rfl | simp_all), (hB425).none⟩
 refine WL.alloc zeroValue27 rfl (fun b427 wb427 eb427 hkb427 hub427 hsb427 => ?_)
 have hF428 := Sto.same (w1 := wb427) hF308 (fun k hk hl => hub427.other k oO)
 have hl430 : b6 < b427 := by rw [eb427]; exact hk309.lt
 have hk429 := hk309.upd hub427 (Nat.ne_of_lt hl430)
 have hvl432 := fun h0 => eb427 ▸ hv310.lt h0
 have hv431 := RowM.upd hv310 hub427 (fun h0 => Nat.ne_of_lt (hvl432 h0))
 have hvl434 := fun h0 => eb427 ▸ hv311.lt h0
 have hv433 := bup hv311 hub427 hvl434
 have hgeb427 : w.heap.size ≤ b427 := by rw [eb427]; exact hB312.size
 have hB435 := Chg.upd hB312 hub427 hgeb427
 have hnf436 : ¬ F3 b427 := fun hq => by have hq1 := (hF308).lt hq; omega
 refine WL.nil <| ?_
 refine WY.br1 7 rfl ?_
 refine WL.s2b underlying9 underlying35 underlying5 rfl rfl (fun b437 wb437 cs78 eb437 hs78 hcs78 hub437 hsb437 => ?_)
 have hF438 := Sto.same (w1 := wb437) hF428 (fun k hk hl => hub437.other k oO)
 have hl440 : b6 < b437 := by rw [eb437]; exact hk429.lt
 have hk439 := hk429.upd hub437 (Nat.ne_of_lt hl440)
 have hl442 : b427 < b437 := by rw [eb437]; exact hkb427.lt
 have hk441 := hkb427.upd hub437 (Nat.ne_of_lt hl442)
 have hvl444 := fun h0 => eb437 ▸ hv431.lt h0
 have hv443 := RowM.upd hv431 hub437 (fun h0 => Nat.ne_of_lt (hvl444 h0))
 have hvl446 := fun h0 => eb437 ▸ hv433.lt h0
 have hv445 := bup hv433 hub437 hvl446
 have hgeb437 : w.heap.size ≤ b437 := by rw [eb437]; exact hB435.size
 have hB447 := Chg.upd hB435 hub437 hgeb437
 have hnf448 : ¬ F3 b437 := fun hq => by have hq1 := (hF428).lt hq; omega
 refine WL.nil <| ?_
 refine WY.br1 8 rfl ?_
 refine WL.c1 hb12 rfl rfl ((sto_Text b F3 (S2 T) (some ⟨b437, 0, none⟩) (decL B ++ [35] ++ T) _ _ hF438 (sok_2 hTl) hs78 (fun _ => hnf448) oO)) (fun w449 hw449 => ?_)
 obtain ⟨F450, hstF450, hCF450, hxF450⟩ := Chg.open hw449
 have hnf451 := Chg.nf hCF450 hnf20 hk439.lt
 have hnf452 := Chg.nf hCF450 hnf436 hk441.lt
 have hk454 := Blk.chg hk439 hCF450 hnf20
 have hk455 := Blk.chg hk441 hCF450 hnf436
 have hnf457 := fun h0 => Chg.nf hCF450 (hvn3 h0) (hv443.lt h0)
 have hv456 := RowM.chg hv443 hCF450 hvn3
 have hnf459 := fun h0 => Chg.nf hCF450 (hnb5 h0) (hv445.lt h0)
 have hv458 := BytesAt.chg hv445 hCF450 hnb5
 have hB460 := Chg.trans hB447 hCF450
 have hst4 : Sto w449 b F450 (S3 T (decL B ++ [35] ++ T)) := by rw [← x1]; exact hstF450
 refine WL.nil <| ?_
 refine WY.tk 9 rfl (.mv rfl) rfl ?_
 refine WY.tk 10 rfl (.ext rfl rfl) rfl ?_
 refine WY.tk 11 rfl (.iis (0) (.ext rfl rfl) (by exact str_S2 T hXl)) rfl ?_
 refine WY.br1 13 rfl ?_
 refine WL.stL rfl rfl hk455 isz27 rfl rfl (fun w461 hkw461 huw461 hsw461 => ?_)
 have hF462 := Sto.same (w1 := w461) hst4 (fun k hk hl => huw461.other k (fun e => hnf452 (e ▸ hk)))
 have hk463 := hk454.up huw461
 have hv464 := RowM.upd hv456 huw461 (fun h0 => Nat.ne_of_lt (hvl432 h0))
 have hv465 := bup hv458 huw461 hvl434
 have hB466 := Chg.upd hB460 huw461 oO
 refine WL.nil <| ?_
 refine WY.tk 14 rfl (.as rfl) rfl ?_
 refine WY.done kR ?_
 refine W.sr <| WL.m rfl rfl <| WL.r (Rd.ldA rfl hkw461 underlying27 rfl isz27) rfl <| WL.bslM (L := objL) (ps := _) ([strO (S2 T) ((decL B ++ [35] ++ T).length : Int)]) underlying30 sizeOf27 zeroValue27 rfl rfl rfl rfl rfl (by first | rfl | decide) rfl rfl (fun b467 wb467 eb467 hob467 hub467 hsb467 => ?_)
 have hF468 := Sto.same (w1 := wb467) hF462 (fun k hk hl => hub467.other k oO)
 have hl470 : b6 < b467 := by rw [eb467]; exact hk463.lt
 have hk469 := hk463.upd hub467 (Nat.ne_of_lt hl470)
 have hl472 : b427 < b467 := by rw [eb467]; exact hkw461.lt
 have hk471 := hkw461.upd hub467 (Nat.ne_of_lt hl472)
 have hvl474 := fun h0 => eb467 ▸ hv464.lt h0
 have hv473 := RowM.upd hv464 hub467 (fun h0 => Nat.ne_of_lt (hvl474 h0))
 have hvl476 := fun h0 => eb467 ▸ hv465.lt h0
 have hv475 := bup hv465 hub467 hvl476
 have hgeb467 : w.heap.size ≤ b467 := by rw [eb467]; exact hB466.size
 have hB477 := Chg.upd hB466 hub467 hgeb467
 have hnf478 : ¬ F450 b467 := fun hq => by have hq1 := (hF462).lt hq; omega
 have hleb467 : b467 ≤ wb467.heap.size := by omega
 refine WL.call hb8 rfl rfl ((conv_Do b F450 (S3 T (decL B ++ [35] ++ T)) s_cvi _ [strO (S2 T) ((decL B ++ [35] ++ T).length : Int)] _ _ hF468 (sok_3 hTl hXl) (hE.chg hB477 freeN) (hE.free hB477 freeN) (hob467).rowp (fun _ => hnf478) (show (1 : Nat) ≤ _ by decide) (show (0 : Nat) ≤ _ by decide) dD (fun x hx => by rcases List.mem_cons.1 hx with rfl | hx; rw [x2]; exact ⟨show (_ : Int) ≤ 0 by decide, show (0 : Int) ≤ _ by decide⟩; cases hx))) (fun r w479 hw479 => ?_)
 obtain ⟨v6, F6, rfl, ho6, hn6, hst6, hC6⟩ := hw479
 rw [d3] at ho6
 have ho6 : OwnM objL 27 _ w479 v6 [numOb 1 n] := ho6
 obtain ⟨p6, c6, rfl, hrow6, -⟩ := ho6.row
 have hvn6 := vnf_of hrow6 hn6
 have hnf480 := Chg.nf hC6 hnf451 hk469.lt
 have hnf481 := Chg.nf hC6 hnf452 hk471.lt
 have hnf486 := fun h0 => Chg.nf hC6 (hnf457 h0) (hv473.lt h0)
 have hnf488 := fun h0 => Chg.nf hC6 (hnf459 h0) (hv475.lt h0)
 have hv487 := BytesAt.chg hv475 hC6 hnf459
 have hB489 := Chg.trans hB477 hC6
 refine WL.m rfl rfl <| WL.p (.ext rfl rfl) rfl <| WL.p (.iis (0) (.ext rfl rfl) (by rw [d3])) rfl <| WL.a rfl rfl <| WL.z rfl rfl ?_
 refine W.sr <| WL.m rfl rfl <| WL.p (.eql rfl rfl) rfl <| WL.m rfl rfl <| WL.gy rfl rfl rfl rfl <| WL.m rfl rfl <| WL.gy rfl rfl rfl rfl <| WL.p (.eql rfl rfl) rfl <| WL.p (.pkT rfl rfl rfl) rfl <| WL.m rfl rfl <| WL.gy rfl rfl rfl rfl <| WL.m rfl rfl <| WL.gy rfl rfl rfl rfl <| WL.p (.ixm underlying30 sizeOf27 rfl rfl (hrow6.isp (by first | omega | (simp only [List.length_cons, List.length_nil]; omega))) (0) (rfl) (Nat.zero_lt_one)) rfl <| WL.gy rfl rfl rfl rfl <| WL.p (.fa underlying27 rfl sizeOf3 dD rfl) rfl <| WL.gy rfl rfl rfl rfl <| WL.r (Rd.iis (n) (Rd.ldc (isAgg3 _) rfl ((hrow6.field (0) (by first | omega | (simp only [List.length_cons, List.length_nil]; omega)) 3 dD).trans rfl)) (by rfl)) rfl <| WL.gy rfl rfl rfl rfl <| WL.m rfl rfl <| WL.gy rfl rfl rfl rfl <| WL.p (.cvt underlying21 underlying3 rfl (i64w oO)) rfl <| WL.gy rfl rfl rfl rfl <| WL.p (.bis (true) (.eql rfl rfl) (by simp)) rfl <| WL.p (.pkT rfl rfl rfl) rfl <| WL.m rfl rfl <| WL.gy rfl rfl rfl rfl <| WL.m rfl rfl <| WL.gy rfl rfl rfl rfl <| WL.p (.lenS underlying35 rfl) rfl <| WL.gy rfl rfl rfl rfl <| WL.p (.eql rfl rfl) rfl <| WL.gy rfl rfl rfl rfl <| WL.m rfl rfl <| WL.gd rfl rfl rfl (fun g490 => ?_) (fun g490 => ?_)
 have g490' := dF g490
 refine WL.m rfl rfl <| WL.gy rfl rfl rfl g490 <| WL.p (.ixb underlying35 sizeOf5 rfl rfl (hv487.isp oO) (0) (rfl) (hT0)) rfl <| WL.gy rfl rfl rfl g490 <| WL.r (Rd.ldc (isAgg5 _) rfl (hv487.cells (0) (hT0))) rfl <| WL.gy rfl rfl rfl g490 <| WL.p (.bis (true) (.neq rfl rfl) (by have h9 : T[0].toNat ≠ 48 := fun h8 => hT1 oO (UInt8.toNat_inj.1 h8); simp; omega)) rfl <| WL.gy rfl rfl rfl rfl <| WL.p (.pkF rfl g490 rfl) rfl <| WL.p (.pkT rfl rfl rfl) rfl <| WL.z rfl rfl ?_
 refine W.ret (W.ret1 rfl rfl ?_)
 exact ⟨rbE (by first | rfl | simp_all), (hB489).none⟩
 have g490' := dT g490
 refine WL.gn rfl rfl rfl g490 <| WL.gn rfl rfl rfl g490 <| WL.gn rfl rfl rfl g490 <| WL.gy rfl rfl rfl rfl <| WL.p (.pkT rfl g490 rfl) rfl <| WL.p (.pkT rfl rfl rfl) rfl <| WL.z rfl rfl ?_
 refine W.ret (W.ret1 rfl rfl ?_)
 exact ⟨rbE (by first | rfl | simp_all), (hB489).none⟩
 refine WL.alloc zeroValue27 rfl (fun b491 wb491 eb491 hkb491 hub491 hsb491 => ?_)
 have hF492 := Sto.same (w1 := wb491) hF54 (fun k hk hl => hub491.other k oO)
 have hl494 : b6 < b491 := by rw [eb491]; exact hk55.lt
 have hk493 := hk55.upd hub491 (Nat.ne_of_lt hl494)
 have hvl496 := fun h0 => eb491 ▸ hv56.lt h0
 have hv495 := RowM.upd hv56 hub491 (fun h0 => Nat.ne_of_lt (hvl496 h0))
 have hvl498 := fun h0 => eb491 ▸ hv57.lt h0
 have hv497 := bup hv57 hub491 hvl498
 have hgeb491 : w.heap.size ≤ b491 := by rw [eb491]; exact hB58.size
 have hB499 := Chg.upd hB58 hub491 hgeb491
 have hnf500 : ¬ F3 b491 := fun hq => by have hq1 := (hF54).lt hq; omega
 refine WL.nil <| ?_
 refine WY.br1 2 rfl ?_
 refine WL.c1 hb11 rfl rfl ((ref_Dec B _ oO oO)) (fun w501 hw501 => ?_)
 have hF502 := Sto.same (w1 := w501) hF492 (fun k hk hl => hw501.block k hl)
 have hk503 := hk493.below hw501 hk493.lt
 have hk504 := hkb491.below hw501 hkb491.lt
 have hv505 := RowM.below hv495 hw501 (fun h0 => hv495.lt h0)
 have hv506 := BytesAt.below hv497 hw501 (fun h0 => hv497.lt h0)
 have hB507 := Chg.low hB499 hw501
 refine WL.nil <| ?_
 refine WY.tk 3 rfl (.cat rfl rfl (by simp only [List.length_append, List.length_cons, List.length_nil]; omega)) rfl ?_
 refine WY.tk 6 rfl (.cat rfl rfl (by simp only [List.length_append, List.length_cons, List.length_nil]; omega)) rfl ?_
 refine WY.br1 7 rfl ?_
 refine WL.s2b underlying9 underlying35 underlying5 rfl rfl (fun b508 wb508 cs78 eb508 hs78 hcs78 hub508 hsb508 => ?_)
 have hF509 := Sto.same (w1 := wb508) hF502 (fun k hk hl => hub508.other k oO)
 have hl511 : b6 < b508 := by rw [eb508]; exact hk503.lt
 have hk510 := hk503.upd hub508 (Nat.ne_of_lt hl511)
 have hl513 : b491 < b508 := by rw [eb508]; exact hk504.lt
 have hk512 := hk504.upd hub508 (Nat.ne_of_lt hl513)
 have hvl515 := fun h0 => eb508 ▸ hv505.lt h0
 have hv514 := RowM.upd hv505 hub508 (fun h0 => Nat.ne_of_lt (hvl515 h0))
 have hvl517 := fun h0 => eb508 ▸ hv506.lt h0
 have hv516 := bup hv506 hub508 hvl517
 have hgeb508 : w.heap.size ≤ b508 := by rw [eb508]; exact hB507.size
 have hB518 := Chg.upd hB507 hub508 hgeb508
 have hnf519 : ¬ F3 b508 := fun hq => by have hq1 := (hF502).lt hq; omega
 refine WL.nil <| ?_
 refine WY.br1 8 rfl ?_
 refine WL.c1 hb12 rfl rfl ((sto_Text b F3 (S2 T) (some ⟨b508, 0, none⟩) (decL B ++ [35] ++ T) _ _ hF509 (sok_2 hTl) hs78 (fun _ => hnf519) oO)) (fun w520 hw520 => ?_)
 obtain ⟨F521, hstF521, hCF521, hxF521⟩ := Chg.open hw520
 have hnf522 := Chg.nf hCF521 hnf20 hk510.lt
 have hnf523 := Chg.nf hCF521 hnf500 hk512.lt
 have hk525 := Blk.chg hk510 hCF521 hnf20
 have hk526 := Blk.chg hk512 hCF521 hnf500
 have hnf528 := fun h0 => Chg.nf hCF521 (hvn3 h0) (hv514.lt h0)
 have hv527 := RowM.chg hv514 hCF521 hvn3
 have hnf530 := fun h0 => Chg.nf hCF521 (hnb5 h0) (hv516.lt h0)
 have hv529 := BytesAt.chg hv516 hCF521 hnb5
 have hB531 := Chg.trans hB518 hCF521
 have hst4 : Sto w520 b F521 (S3 T (decL B ++ [35] ++ T)) := by rw [← x1]; exact hstF521
 refine WL.nil <| ?_
 refine WY.tk 9 rfl (.mv rfl) rfl ?_
 refine WY.tk 10 rfl (.ext rfl rfl) rfl ?_
 refine WY.tk 11 rfl (.iis (0) (.ext rfl rfl) (by exact str_S2 T hXl)) rfl ?_
 refine WY.br1 13 rfl ?_
 refine WL.stL rfl rfl hk526 isz27 rfl rfl (fun w532 hkw532 huw532 hsw532 => ?_)
 have hF533 := Sto.same (w1 := w532) hst4 (fun k hk hl => huw532.other k (fun e => hnf523 (e ▸ hk)))
 have hk534 := hk525.up huw532
 have hv535 := RowM.upd hv527 huw532 (fun h0 => Nat.ne_of_lt (hvl496 h0))
 have hv536 := bup hv529 huw532 hvl498
 have hB537 := Chg.upd hB531 huw532 oO
 refine WL.nil <| ?_
 refine WY.tk 14 rfl (.as rfl) rfl ?_
 refine WY.done kR ?_
 refine W.sr <| WL.m rfl rfl <| WL.r (Rd.ldA rfl hkw532 underlying27 rfl isz27) rfl <| WL.bslM (L := objL) (ps := _) ([strO (S2 T) ((decL B ++ [35] ++ T).length : Int)]) underlying30 sizeOf27 zeroValue27 rfl rfl rfl rfl rfl (by first | rfl | decide) rfl rfl (fun b538 wb538 eb538 hob538 hub538 hsb538 => ?_)
 have hF539 := Sto.same (w1 := wb538) hF533 (fun k hk hl => hub538.other k oO)
 have hl541 : b6 < b538 := by rw [eb538]; exact hk534.lt
 have hk540 := hk534.upd hub538 (Nat.ne_of_lt hl541)
 have hl543 : b491 < b538 := by rw [eb538]; exact hkw532.lt
 have hk542 := hkw532.upd hub538 (Nat.ne_of_lt hl543)
 have hvl545 := fun h0 => eb538 ▸ hv535.lt h0
 have hv544 := RowM.upd hv535 hub538 (fun h0 => Nat.ne_of_lt (hvl545 h0))
 have hvl547 := fun h0 => eb538 ▸ hv536.lt h0
 have hv546 := bup hv536 hub538 hvl547
 have hgeb538 : w.heap.size ≤ b538 := by rw [eb538]; exact hB537.size
 have hB548 := Chg.upd hB537 hub538 hgeb538
 have hnf549 : ¬ F521 b538 := fun hq => by have hq1 := (hF533).lt hq; omega
 have hleb538 : b538 ≤ wb538.heap.size := by omega
 refine WL.call hb8 rfl rfl ((conv_Do b F521 (S3 T (decL B ++ [35] ++ T)) s_cvi _ [strO (S2 T) ((decL B ++ [35] ++ T).length : Int)] _ _ hF539 (sok_3 hTl hXl) (hE.chg hB548 freeN) (hE.free hB548 freeN) (hob538).rowp (fun _ => hnf549) (show (1 : Nat) ≤ _ by decide) (show (0 : Nat) ≤ _ by decide) dD (fun x hx => by rcases List.mem_cons.1 hx with rfl | hx; rw [x2]; exact ⟨show (_ : Int) ≤ 0 by decide, show (0 : Int) ≤ _ by decide⟩; cases hx))) (fun r w550 hw550 => ?_)
 obtain ⟨v6, F6, rfl, ho6, hn6, hst6, hC6⟩ := hw550
 rw [d3] at ho6
 have ho6 : OwnM objL 27 _ w550 v6 [numOb 1 n] := ho6
 obtain ⟨p6, c6, rfl, hrow6, -⟩ := ho6.row
 have hvn6 := vnf_of hrow6 hn6
 have hnf551 := Chg.nf hC6 hnf522 hk540.lt
 have hnf552 := Chg.nf hC6 hnf523 hk542.lt
 have hnf557 := fun h0 => Chg.nf hC6 (hnf528 h0) (hv544.lt h0)
 have hnf559 := fun h0 => Chg.nf hC6 (hnf530 h0) (hv546.lt h0)
 have hv558 := BytesAt.chg hv546 hC6 hnf530
 have hB560 := Chg.trans hB548 hC6
 refine WL.m rfl rfl <| WL.p (.ext rfl rfl) rfl <| WL.p (.iis (0) (.ext rfl rfl) (by rw [d3])) rfl <| WL.a rfl rfl <| WL.z rfl rfl ?_
 refine W.sr <| WL.m rfl rfl <| WL.p (.eql rfl rfl) rfl <| WL.m rfl rfl <| WL.gy rfl rfl rfl rfl <| WL.m rfl rfl <| WL.gy rfl rfl rfl rfl <| WL.p (.eql rfl rfl) rfl <| WL.p (.pkT rfl rfl rfl) rfl <| WL.m rfl rfl <| WL.gy rfl rfl rfl rfl <| WL.m rfl rfl <| WL.gy rfl rfl rfl rfl <| WL.p (.ixm underlying30 sizeOf27 rfl rfl (hrow6.isp (by first | omega | (simp only [List.length_cons, List.length_nil]; omega))) (0) (rfl) (Nat.zero_lt_one)) rfl <| WL.gy rfl rfl rfl rfl <| WL.p (.fa underlying27 rfl sizeOf3 dD rfl) rfl <| WL.gy rfl rfl rfl rfl <| WL.r (Rd.iis (n) (Rd.ldc (isAgg3 _) rfl ((hrow6.field (0) (by first | omega | (simp only [List.length_cons, List.length_nil]; omega)) 3 dD).trans rfl)) (by rfl)) rfl <| WL.gy rfl rfl rfl rfl <| WL.m rfl rfl <| WL.gy rfl rfl rfl rfl <| WL.p (.cvt underlying21 underlying3 rfl (i64w oO)) rfl <| WL.gy rfl rfl rfl rfl <| WL.p (.bis (true) (.eql rfl rfl) (by simp)) rfl <| WL.p (.pkT rfl rfl rfl) rfl <| WL.m rfl rfl <| WL.gy rfl rfl rfl rfl <| WL.m rfl rfl <| WL.gy rfl rfl rfl rfl <| WL.p (.lenS underlying35 rfl) rfl <| WL.gy rfl rfl rfl rfl <| WL.p (.eql rfl rfl) rfl <| WL.gy rfl rfl rfl rfl <| WL.m rfl rfl <| WL.gd rfl rfl rfl (fun g561 => ?_) (fun g561 => ?_)
 have g561' := dF g561
 refine WL.m rfl rfl <| WL.gy rfl rfl rfl g561 <| WL.p (.ixb underlying35 sizeOf5 rfl rfl (hv558.isp oO) (0) (rfl) (hT0)) rfl <| WL.gy rfl rfl rfl g561 <| WL.r (Rd.ldc (isAgg5 _) rfl (hv558.cells (0) (hT0))) rfl <| WL.gy rfl rfl rfl g561 <| WL.p (.bis (true) (.neq rfl rfl) (by have h9 : T[0].toNat ≠ 48 := fun h8 => hT1 oO (UInt8.toNat_inj.1 h8); simp; omega)) rfl <| WL.gy rfl rfl rfl rfl <| WL.p (.pkF rfl g561 rfl) rfl <| WL.p (.pkT rfl rfl rfl) rfl <| WL.z rfl rfl ?_
 refine W.ret (W.ret1 rfl rfl ?_)
 exact ⟨rbE (by first | rfl | simp_all), (hB560).none⟩
 have g561' := dT g561
 refine WL.gn rfl rfl rfl g561 <| WL.gn rfl rfl rfl g561 <| WL.gn rfl rfl rfl g561 <| WL.gy rfl rfl rfl rfl <| WL.p (.pkT rfl g561 rfl) rfl <| WL.p (.pkT rfl rfl rfl) rfl <| WL.z rfl rfl ?_
 refine W.ret (W.ret1 rfl rfl ?_)
 exact ⟨rbE (by first | rfl | simp_all), (hB560).none⟩
 refine WL.alloc zeroValue27 rfl (fun b562 wb562 eb562 hkb562 hub562 hsb562 => ?_)
 have hF563 := Sto.same (w1 := wb562) hF54 (fun k hk hl => hub562.other k oO)
 have hl565 : b6 < b562 := by rw [eb562]; exact hk55.lt
 have hk564 := hk55.upd hub562 (Nat.ne_of_lt hl565)
 have hvl567 := fun h0 => eb562 ▸ hv56.lt h0
 have hv566 := RowM.upd hv56 hub562 (fun h0 => Nat.ne_of_lt (hvl567 h0))
 have hvl569 := fun h0 => eb562 ▸ hv57.lt h0
 have hv568 := bup hv57 hub562 hvl569
 have hgeb562 : w.heap.size ≤ b562 := by rw [eb562]; exact hB58.size
 have hB570 := Chg.upd hB58 hub562 hgeb562
 have hnf571 : ¬ F3 b562 := fun hq => by have hq1 := (hF54).lt hq; omega
 refine WL.nil <| ?_
 refine WY.br2 2 rfl 5 rfl ?_ ?_
 refine WL.c1 hb11 rfl rfl ((ref_Dec B _ oO oO)) (fun w572 hw572 => ?_)
 have hF573 := Sto.same (w1 := w572) hF563 (fun k hk hl => hw572.block k hl)
 have hk574 := hk564.below hw572 hk564.lt
 have hk575 := hkb562.below hw572 hkb562.lt
 have hv576 := RowM.below hv566 hw572 (fun h0 => hv566.lt h0)
 have hv577 := BytesAt.below hv568 hw572 (fun h0 => hv568.lt h0)
 have hB578 := Chg.low hB570 hw572
 refine WL.nil <| ?_
 refine WY.tk 3 rfl (.cat rfl rfl (by simp only [List.length_append, List.length_cons, List.length_nil]; omega)) rfl ?_
 refine WY.br1 5 rfl ?_
 refine WL.r (Rd.b2s (l := T) underlying35 underlying5 underlying9 rfl (hv577)) rfl <| WL.nil <| ?_
 refine WY.tk 6 rfl (.cat rfl rfl (by simp only [List.length_append, List.length_cons, List.length_nil]; omega)) rfl ?_
 refine WY.br1 7 rfl ?_
 refine WL.s2b underlying9 underlying35 underlying5 rfl rfl (fun b579 wb579 cs78 eb579 hs78 hcs78 hub579 hsb579 => ?_)
 have hF580 := Sto.same (w1 := wb579) hF573 (fun k hk hl => hub579.other k oO)
 have hl582 : b6 < b579 := by rw [eb579]; exact hk574.lt
 have hk581 := hk574.upd hub579 (Nat.ne_of_lt hl582)
 have hl584 : b562 < b579 := by rw [eb579]; exact hk575.lt
 have hk583 := hk575.upd hub579 (Nat.ne_of_lt hl584)
 have hvl586 := fun h0 => eb579 ▸ hv576.lt h0
 have hv585 := RowM.upd hv576 hub579 (fun h0 => Nat.ne_of_lt (hvl586 h0))
 have hvl588 := fun h0 => eb579 ▸ hv577.lt h0
 have hv587 := bup hv577 hub579 hvl588
 have hgeb579 : w.heap.size ≤ b579 := by rw [eb579]; exact hB578.size
 have hB589 := Chg.upd hB578 hub579 hgeb579
 have hnf590 : ¬ F3 b579 := fun hq => by have hq1 := (hF573).lt hq; omega
 refine WL.nil <| ?_
 refine WY.br1 8 rfl ?_
 refine WL.c1 hb12 rfl rfl ((sto_Text b F3 (S2 T) (some ⟨b579, 0, none⟩) (decL B ++ [35] ++ T) _ _ hF580 (sok_2 hTl) hs78 (fun _ => hnf590) oO)) (fun w591 hw591 => ?_)
 obtain ⟨F592, hstF592, hCF592, hxF592⟩ := Chg.open hw591
 have hnf593 := Chg.nf hCF592 hnf20 hk581.lt
 have hnf594 := Chg.nf hCF592 hnf571 hk583.lt
 have hk596 := Blk.chg hk581 hCF592 hnf20
 have hk597 := Blk.chg hk583 hCF592 hnf571
 have hnf599 := fun h0 => Chg.nf hCF592 (hvn3 h0) (hv585.lt h0)
 have hv598 := RowM.chg hv585 hCF592 hvn3
 have hnf601 := fun h0 => Chg.nf hCF592 (hnb5 h0) (hv587.lt h0)
 have hv600 := BytesAt.chg hv587 hCF592 hnb5
 have hB602 := Chg.trans hB589 hCF592
 have hst4 : Sto w591 b F592 (S3 T (decL B ++ [35] ++ T)) := by rw [← x1]; exact hstF592
 refine WL.nil <| ?_
 refine WY.tk 9 rfl (.mv rfl) rfl ?_
 refine WY.tk 10 rfl (.ext rfl rfl) rfl ?_
 refine WY.tk 11 rfl (.iis (0) (.ext rfl rfl) (by exact str_S2 T hXl)) rfl ?_
 refine WY.br1 13 rfl ?_
 refine WL.stL rfl rfl hk597 isz27 rfl rfl (fun w603 hkw603 huw603 hsw603 => ?_)
 have hF604 := Sto.same (w1 := w603) hst4 (fun k hk hl => huw603.other k (fun e => hnf594 (e ▸ hk)))
 have hk605 := hk596.up huw603
 have hv606 := RowM.upd hv598 huw603 (fun h0 => Nat.ne_of_lt (hvl567 h0))
 have hv607 := bup hv600 huw603 hvl569
 have hB608 := Chg.upd hB602 huw603 oO
 refine WL.nil <| ?_
 refine WY.tk 14 rfl (.as rfl) rfl ?_
 refine WY.done kR ?_
 refine W.sr <| WL.m rfl rfl <| WL.r (Rd.ldA rfl hkw603 underlying27 rfl isz27) rfl <| WL.bslM (L := objL) (ps := _) ([strO (S2 T) ((decL B ++ [35] ++ T).length : Int)]) underlying30 sizeOf27 zeroValue27 rfl rfl rfl rfl rfl (by first | rfl | decide) rfl rfl (fun b609 wb609 eb609 hob609 hub609 hsb609 => ?_)
 have hF610 := Sto.same (w1 := wb609) hF604 (fun k hk hl => hub609.other k oO)
 have hl612 : b6 < b609 := by rw [eb609]; exact hk605.lt
 have hk611 := hk605.upd hub609 (Nat.ne_of_lt hl612)
 have hl614 : b562 < b609 := by rw [eb609]; exact hkw603.lt
 have hk613 := hkw603.upd hub609 (Nat.ne_of_lt hl614)
 have hvl616 := fun h0 => eb609 ▸ hv606.lt h0
 have hv615 := RowM.upd hv606 hub609 (fun h0 => Nat.ne_of_lt (hvl616 h0))
 have hvl618 := fun h0 => eb609 ▸ hv607.lt h0
 have hv617 := bup hv607 hub609 hvl618
 have hgeb609 : w.heap.size ≤ b609 := by rw [eb609]; exact hB608.size
 have hB619 := Chg.upd hB608 hub609 hgeb609
 have hnf620 : ¬ F592 b609 := fun hq => by have hq1 := (hF604).lt hq; omega
 have hleb609 : b609 ≤ wb609.heap.size := by omega
 refine WL.call hb8 rfl rfl ((conv_Do b F592 (S3 T (decL B ++ [35] ++ T)) s_cvi _ [strO (S2 T) ((decL B ++ [35] ++ T).length : Int)] _ _ hF610 (sok_3 hTl hXl) (hE.chg hB619 freeN) (hE.free hB619 freeN) (hob609).rowp (fun _ => hnf620) (show (1 : Nat) ≤ _ by decide) (show (0 : Nat) ≤ _ by decide) dD (fun x hx => by rcases List.mem_cons.1 hx with rfl | hx; rw [x2]; exact ⟨show (_ : Int) ≤ 0 by decide, show (0 : Int) ≤ _ by decide⟩; cases hx))) (fun r w621 hw621 => ?_)
 obtain ⟨v6, F6, rfl, ho6, hn6, hst6, hC6⟩ := hw621
 rw [d3] at ho6
 have ho6 : OwnM objL 27 _ w621 v6 [numOb 1 n] := ho6
 obtain ⟨p6, c6, rfl, hrow6, -⟩ := ho6.row
 have hvn6 := vnf_of hrow6 hn6
 have hnf622 := Chg.nf hC6 hnf593 hk611.lt
 have hnf623 := Chg.nf hC6 hnf594 hk613.lt
 have hnf628 := fun h0 => Chg.nf hC6 (hnf599 h0) (hv615.lt h0)
 have hnf630 := fun h0 => Chg.nf hC6 (hnf601 h0) (hv617.lt h0)
 have hv629 := BytesAt.chg hv617 hC6 hnf601
 have hB631 := Chg.trans hB619 hC6
 refine WL.m rfl rfl <| WL.p (.ext rfl rfl) rfl <| WL.p (.iis (0) (.ext rfl rfl) (by rw [d3])) rfl <| WL.a rfl rfl <| WL.z rfl rfl ?_
 refine W.sr <| WL.m rfl rfl <| WL.p (.eql rfl rfl) rfl <| WL.m rfl rfl <| WL.gy rfl rfl rfl rfl <| WL.m rfl rfl <| WL.gy rfl rfl rfl rfl <| WL.p (.eql rfl rfl) rfl <| WL.p (.pkT rfl rfl rfl) rfl <| WL.m rfl rfl <| WL.gy rfl rfl rfl rfl <| WL.m rfl rfl <| WL.gy rfl rfl rfl rfl <| WL.p (.ixm underlying30 sizeOf27 rfl rfl (hrow6.isp (by first | omega | (simp only [List.length_cons, List.length_nil]; omega))) (0) (rfl) (Nat.zero_lt_one)) rfl <| WL.gy rfl rfl rfl rfl <| WL.p (.fa underlying27 rfl sizeOf3 dD rfl) rfl <| WL.gy rfl rfl rfl rfl <| WL.r (Rd.iis (n) (Rd.ldc (isAgg3 _) rfl ((hrow6.field (0) (by first | omega | (simp only [List.length_cons, List.length_nil]; omega)) 3 dD).trans rfl)) (by rfl)) rfl <| WL.gy rfl rfl rfl rfl <| WL.m rfl rfl <| WL.gy rfl rfl rfl rfl <| WL.p (.cvt underlying21 underlying3 rfl (i64w oO)) rfl <| WL.gy rfl rfl rfl rfl <| WL.p (.bis (true) (.eql rfl rfl) (by simp)) rfl <| WL.p (.pkT rfl rfl rfl) rfl <| WL.m rfl rfl <| WL.gy rfl rfl rfl rfl <| WL.m rfl rfl <| WL.gy rfl rfl rfl rfl <| WL.p (.lenS underlying35 rfl) rfl <| WL.gy rfl rfl rfl rfl <| WL.p (.eql rfl rfl) rfl <| WL.gy rfl rfl rfl rfl <| WL.m rfl rfl <| WL.gd rfl rfl rfl (fun g632 => ?_) (fun g632 => ?_)
 have g632' := dF g632
 refine WL.m rfl rfl <| WL.gy rfl rfl rfl g632 <| WL.p (.ixb underlying35 sizeOf5 rfl rfl (hv629.isp oO) (0) (rfl) (hT0)) rfl <| WL.gy rfl rfl rfl g632 <| WL.r (Rd.ldc (isAgg5 _) rfl (hv629.cells (0) (hT0))) rfl <| WL.gy rfl rfl rfl g632 <| WL.p (.bis (true) (.neq rfl rfl) (by have h9 : T[0].toNat ≠ 48 := fun h8 => hT1 oO (UInt8.toNat_inj.1 h8); simp; omega)) rfl <| WL.gy rfl rfl rfl rfl <| WL.p (.pkF rfl g632 rfl) rfl <| WL.p (.pkT rfl rfl rfl) rfl <| WL.z rfl rfl ?_
 refine W.ret (W.ret1 rfl rfl ?_)
 exact ⟨rbE (by first | rfl | simp_all), (hB631).none⟩
 have g632' := dT g632
 refine WL.gn rfl rfl rfl g632 <| WL.gn rfl rfl rfl g632 <| WL.gn rfl rfl rfl g632 <| WL.gy rfl rfl rfl rfl <| WL.p (.pkT rfl g632 rfl) rfl <| WL.p (.pkT rfl rfl rfl) rfl <| WL.z rfl rfl ?_
 refine W.ret (W.ret1 rfl rfl ?_)
 exact ⟨rbE (by first | rfl | simp_all), (hB631).none⟩
 refine WL.r (Rd.b2s (l := T) underlying35 underlying5 underlying9 rfl (hv568)) rfl <| WL.nil <| ?_
 refine WY.br1 2 rfl ?_
 refine WL.c1 hb11 rfl rfl ((ref_Dec B _ oO oO)) (fun w633 hw633 => ?_)
 have hF634 := Sto.same (w1 := w633) hF563 (fun k hk hl => hw633.block k hl)
 have hk635 := hk564.below hw633 hk564.lt
 have hk636 := hkb562.below hw633 hkb562.lt
 have hv637 := RowM.below hv566 hw633 (fun h0 => hv566.lt h0)
 have hv638 := BytesAt.below hv568 hw633 (fun h0 => hv568.lt h0)
 have hB639 := Chg.low hB570 hw633
 refine WL.nil <| ?_
 refine WY.tk 3 rfl (.cat rfl rfl (by simp only [List.length_append, List.length_cons, List.length_nil]; omega)) rfl ?_
 refine WY.tk 6 rfl (.cat rfl rfl (by simp only [List.length_append, List.length_cons, List.length_nil]; omega)) rfl ?_
 refine WY.br1 7 rfl ?_
 refine WL.s2b underlying9 underlying35 underlying5 rfl rfl (fun b640 wb640 cs78 eb640 hs78 hcs78 hub640 hsb640 => ?_)
 have hF641 := Sto.same (w1 := wb640) hF634 (fun k hk hl => hub640.other k oO)
 have hl643 : b6 < b640 := by rw [eb640]; exact hk635.lt
 have hk642 := hk635.upd hub640 (Nat.ne_of_lt hl643)
 have hl645 : b562 < b640 := by rw [eb640]; exact hk636.lt
 have hk644 := hk636.upd hub640 (Nat.ne_of_lt hl645)
 have hvl647 := fun h0 => eb640 ▸ hv637.lt h0
 have hv646 := RowM.upd hv637 hub640 (fun h0 => Nat.ne_of_lt (hvl647 h0))
 have hvl649 := fun h0 => eb640 ▸ hv638.lt h0
 have hv648 := bup hv638 hub640 hvl649
 have hgeb640 : w.heap.size ≤ b640 := by rw [eb640]; exact hB639.size
 have hB650 := Chg.upd hB639 hub640 hgeb640
 have hnf651 : ¬ F3 b640 := fun hq => by have hq1 := (hF634).lt hq; omega
 refine WL.nil <| ?_
 refine WY.br1 8 rfl ?_
 refine WL.c1 hb12 rfl rfl ((sto_Text b F3 (S2 T) (some ⟨b640, 0, none⟩) (decL B ++ [35] ++ T) _ _ hF641 (sok_2 hTl) hs78 (fun _ => hnf651) oO)) (fun w652 hw652 => ?_)
 obtain ⟨F653, hstF653, hCF653, hxF653⟩ := Chg.open hw652
 have hnf654 := Chg.nf hCF653 hnf20 hk642.lt
 have hnf655 := Chg.nf hCF653 hnf571 hk644.lt
 have hk657 := Blk.chg hk642 hCF653 hnf20
 have hk658 := Blk.chg hk644 hCF653 hnf571
 have hnf660 := fun h0 => Chg.nf hCF653 (hvn3 h0) (hv646.lt h0)
 have hv659 := RowM.chg hv646 hCF653 hvn3
 have hnf662 := fun h0 => Chg.nf hCF653 (hnb5 h0) (hv648.lt h0)
 have hv661 := BytesAt.chg hv648 hCF653 hnb5
 have hB663 := Chg.trans hB650 hCF653
 have hst4 : Sto w652 b F653 (S3 T (decL B ++ [35] ++ T)) := by rw [← x1]; exact hstF653
 refine WL.nil <| ?_
 refine WY.tk 9 rfl (.mv rfl) rfl ?_
 refine WY.tk 10 rfl (.ext rfl rfl) rfl ?_
 refine WY.tk 11 rfl (.iis (0) (.ext rfl rfl) (by exact str_S2 T hXl)) rfl ?_
 refine WY.br1 13 rfl ?_
 refine WL.stL rfl rfl hk658 isz27 rfl rfl (fun w664 hkw664 huw664 hsw664 => ?_)
 have hF665 := Sto.same (w1 := w664) hst4 (fun k hk hl => huw664.other k (fun e => hnf655 (e ▸ hk)))
 have hk666 := hk657.up huw664
 have hv667 := RowM.upd hv659 huw664 (fun h0 => Nat.ne_of_lt (hvl567 h0))
 have hv668 := bup hv661 huw664 hvl569
 have hB669 := Chg.upd hB663 huw664 oO
 refine WL.nil <| ?_
 refine WY.tk 14 rfl (.as rfl) rfl ?_
 refine WY.done kR ?_
 refine W.sr <| WL.m rfl rfl <| WL.r (Rd.ldA rfl hkw664 underlying27 rfl isz27) rfl <| WL.bslM (L := objL) (ps := _) ([strO (S2 T) ((decL B ++ [35] ++ T).length : Int)]) underlying30 sizeOf27 zeroValue27 rfl rfl rfl rfl rfl (by first | rfl | decide) rfl rfl (fun b670 wb670 eb670 hob670 hub670 hsb670 => ?_)
 have hF671 := Sto.same (w1 := wb670) hF665 (fun k hk hl => hub670.other k oO)
 have hl673 : b6 < b670 := by rw [eb670]; exact hk666.lt
 have hk672 := hk666.upd hub670 (Nat.ne_of_lt hl673)
 have hl675 : b562 < b670 := by rw [eb670]; exact hkw664.lt
 have hk674 := hkw664.upd hub670 (Nat.ne_of_lt hl675)
 have hvl677 := fun h0 => eb670 ▸ hv667.lt h0
 have hv676 := RowM.upd hv667 hub670 (fun h0 => Nat.ne_of_lt (hvl677 h0))
 have hvl679 := fun h0 => eb670 ▸ hv668.lt h0
 have hv678 := bup hv668 hub670 hvl679
 have hgeb670 : w.heap.size ≤ b670 := by rw [eb670]; exact hB669.size
 have hB680 := Chg.upd hB669 hub670 hgeb670
 have hnf681 : ¬ F653 b670 := fun hq => by have hq1 := (hF665).lt hq; omega
 have hleb670 : b670 ≤ wb670.heap.size := by omega
 refine WL.call hb8 rfl rfl ((conv_Do b F653 (S3 T (decL B ++ [35] ++ T)) s_cvi _ [strO (S2 T) ((decL B ++ [35] ++ T).length : Int)] _ _ hF671 (sok_3 hTl hXl) (hE.chg hB680 freeN) (hE.free hB680 freeN) (hob670).rowp (fun _ => hnf681) (show (1 : Nat) ≤ _ by decide) (show (0 : Nat) ≤ _ by decide) dD (fun x hx => by rcases List.mem_cons.1 hx with rfl | hx; rw [x2]; exact ⟨show (_ : Int) ≤ 0 by decide, show (0 : Int) ≤ _ by decide⟩; cases hx))) (fun r w682 hw682 => ?_)
 obtain ⟨v6, F6, rfl, ho6, hn6, hst6, hC6⟩ := hw682
 rw [d3] at ho6
 have ho6 : OwnM objL 27 _ w682 v6 [numOb 1 n] := ho6
 obtain ⟨p6, c6, rfl, hrow6, -⟩ := ho6.row
 have hvn6 := vnf_of hrow6 hn6
 have hnf683 := Chg.nf hC6 hnf654 hk672.lt
 have hnf684 := Chg.nf hC6 hnf655 hk674.lt
 have hnf689 := fun h0 => Chg.nf hC6 (hnf660 h0) (hv676.lt h0)
 have hnf691 := fun h0 => Chg.nf hC6 (hnf662 h0) (hv678.lt h0)
 have hv690 := BytesAt.chg hv678 hC6 hnf662
 have hB692 := Chg.trans hB680 hC6
 refine WL.m rfl rfl <| WL.p (.ext rfl rfl) rfl <| WL.p (.iis (0) (.ext rfl rfl) (by rw [d3])) rfl <| WL.a rfl rfl <| WL.z rfl rfl ?_
 refine W.sr <| WL.m rfl rfl <| WL.p (.eql rfl rfl) rfl <| WL.m rfl rfl <| WL.gy rfl rfl rfl rfl <| WL.m rfl rfl <| WL.gy rfl rfl rfl rfl <| WL.p (.eql rfl rfl) rfl <| WL.p (.pkT rfl rfl rfl) rfl <| WL.m rfl rfl <| WL.gy rfl rfl rfl rfl <| WL.m rfl rfl <| WL.gy rfl rfl rfl rfl <| WL.p (.ixm underlying30 sizeOf27 rfl rfl (hrow6.isp (by first | omega | (simp only [List.length_cons, List.length_nil]; omega))) (0) (rfl) (Nat.zero_lt_one)) rfl <| WL.gy rfl rfl rfl rfl <| WL.p (.fa underlying27 rfl sizeOf3 dD rfl) rfl <| WL.gy rfl rfl rfl rfl <| WL.r (Rd.iis (n) (Rd.ldc (isAgg3 _) rfl ((hrow6.field (0) (by first | omega | (simp only [List.length_cons, List.length_nil]; omega)) 3 dD).trans rfl)) (by rfl)) rfl <| WL.gy rfl rfl rfl rfl <| WL.m rfl rfl <| WL.gy rfl rfl rfl rfl <| WL.p (.cvt underlying21 underlying3 rfl (i64w oO)) rfl <| WL.gy rfl rfl rfl rfl <| WL.p (.bis (true) (.eql rfl rfl) (by simp)) rfl <| WL.p (.pkT rfl rfl rfl) rfl <| WL.m rfl rfl <| WL.gy rfl rfl rfl rfl <| WL.m rfl rfl <| WL.gy rfl rfl rfl rfl <| WL.p (.lenS underlying35 rfl) rfl <| WL.gy rfl rfl rfl rfl <| WL.p (.eql rfl rfl) rfl <| WL.gy rfl rfl rfl rfl <| WL.m rfl rfl <| WL.gd rfl rfl rfl (fun g693 => ?_) (fun g693 => ?_)
 have g693' := dF g693
 refine WL.m rfl rfl <| WL.gy rfl rfl rfl g693 <| WL.p (.ixb underlying35 sizeOf5 rfl rfl (hv690.isp oO) (0) (rfl) (hT0)) rfl <| WL.gy rfl rfl rfl g693 <| WL.r (Rd.ldc (isAgg5 _) rfl (hv690.cells (0) (hT0))) rfl <| WL.gy rfl rfl rfl g693 <| WL.p (.bis (true) (.neq rfl rfl) (by have h9 : T[0].toNat ≠ 48 := fun h8 => hT1 oO (UInt8.toNat_inj.1 h8); simp; omega)) rfl <| WL.gy rfl rfl rfl rfl <| WL.p (.pkF rfl g693 rfl) rfl <| WL.p (.pkT rfl rfl rfl) rfl <| WL.z rfl rfl ?_
 refine W.ret (W.ret1 rfl rfl ?_)
 exact ⟨rbE (by first | rfl | simp_all), (hB692).none⟩
 have g693' := dT g693
 refine WL.gn rfl rfl rfl g693 <| WL.gn rfl rfl rfl g693 <| WL.gn rfl rfl rfl g693 <| WL.gy rfl rfl rfl rfl <| WL.p (.pkT rfl g693 rfl) rfl <| WL.p (.pkT rfl rfl rfl) rfl <| WL.z rfl rfl ?_
 refine W.ret (W.ret1 rfl rfl ?_)
 exact ⟨rbE (by first | rfl | simp_all), (hB692).none⟩
end
section
open Go.ChangeShapes Go.WideShapes Go.ChangeAt Go.RowKit
theorem own : ownKnob Tryz.prog.godebug = none := by kernel_rfl
def putCells (cs : Array Value) : Obj → Obj
 | .cells _ t frozen => .cells cs t frozen
 | o => o
def litCell : DataW Unit → Value
 | .lit (.int k z) => .int k z
 | .lit (.string s) => .string ⟨s.toArray⟩
 | _ => .bool false
def dataCells : DataW Unit → Array Value
 | .agg ps => (ps.map litCell).toArray
 | _ => #[]
def rangeCells : Array Value := #[.int .u8 128, .int .u8 191, .int .u8 160, .int .u8 191, .int .u8 128, .int .u8 159, .int .u8 144, .int .u8 191, .int .u8 128, .int .u8 143, .int .u8 0, .int .u8 0, .int .u8 0, .int .u8 0, .int .u8 0, .int .u8 0, .int .u8 0, .int .u8 0, .int .u8 0, .int .u8 0, .int .u8 0, .int .u8 0, .int .u8 0, .int .u8 0, .int .u8 0, .int .u8 0, .int .u8 0, .int .u8 0, .int .u8 0, .int .u8 0, .int .u8 0, .int .u8 0]
def firstCells : Array Value := (Go.Pinned.utf8FirstZ.map fun (n : Nat) => Value.int .u8 (n : Int)).toArray
noncomputable def low : Nat := (World.holding Tryz.prog default ⟨#[], #[], []⟩).heap.size
noncomputable def base0 (os : Os) : World := World.holding Tryz.prog os ⟨#[.cells Lib.caseCells5 (Tryz.lays203_ren.t 208)], #[], []⟩
/-- a world for a witness: the settled one, the listed variables holding what their initialisers lay -/
noncomputable def laidWorld (os : Os) : World :=
 { base0 os with heap := ((((((((base0 os).heap.modify 6 (putCells (dataCells Rows.laid_math_bits_deBruijn32tab))).modify 7 (putCells (dataCells Rows.laid_math_bits_deBruijn64tab))).modify 2 (putCells (dataCells Rows.laid_internal_strconv_uint64pow10))).modify 0 (putCells (dataCells Rows.laid_mezzotint_conv_types))).modify 5 (putCells rangeCells)).modify 1 (putCells #[.slice (some ⟨low, 0, none⟩) 336 336])).modify 4 (putCells firstCells)) }
theorem env_of {W : World} (h : laidMetH Tryz.prog Rows.convBackRow.laid W) (_hS : W.ShapedOpen Tryz.prog) : EnvC W := by
 have h1 : laidMet Tryz.prog Rows.convBackRow.laid W := by
  rw [MakeChecks.laidMetH_plain _ _ _ kR] at h; exact h
 exact ⟨Lib.tabIs_of_head (g := 2) (zs := Lib.pow10Tab) kR kR underlying167 underlying82 kR kR h1.tail.tail,
  Lib.tabIs_of_head (g := 7) kR kR underlying204 underlying5 kR kR h1.tail⟩
theorem wf_i32 {n : Int} (h : (Lit.int .i32 n).wf = true) : fitsB n = true := by
 have : -2147483648 ≤ n ∧ n ≤ 2147483647 := by simpa [Lit.wf, IntKind.min, IntKind.max, IntKind.bits, IntKind.signed] using h
 exact (fitsB_iff n).2 this
theorem wf_u8 {n : Int} (h : (Lit.int .u8 n).wf = true) : 0 ≤ n ∧ n ≤ 255 := by simpa [Lit.wf, IntKind.min, IntKind.max, IntKind.bits, IntKind.signed] using h
theorem law_ConvRadix (n a : Int) (w : World) (hE : EnvC w) (hn : (Lit.int .i32 n).wf = true) (ha : (Lit.int .u8 a).wf = true) : Calls Tryz.prog 4 #[.int .i32 n, .int .u8 a] w fun e w' => e = .returned (.bool true) ∧ Below w.heap.size w w' := lawx_ConvRadix n a w hE (wf_i32 hn) (wf_u8 ha)
theorem laid_swap {P : Program} {w : World} {x y : String × DataW Unit} : ∀ (l : List (String × DataW Unit)) (ps : List MemPlace), DataW.LaidVars P w (l ++ [x, y]) ps → ∃ qs, DataW.LaidVars P w (l ++ [y, x]) qs ∧ qs.Perm ps
 | [], ps, h => by
  obtain ⟨n1, d1⟩ := x
  obtain ⟨n2, d2⟩ := y
  obtain ⟨g, t, cs, fu, p, q, h1, h2, h3, h4, ⟨g', t', cs', fu', p', q', h1', h2', h3', h4', h5', rfl⟩, rfl⟩ := h
  obtain rfl : q' = [] := h5'
  refine ⟨_, ⟨g', t', cs', fu', p', _, h1', h2', h3', h4', ⟨g, t, cs, fu, p, [], h1, h2, h3, h4, rfl, rfl⟩, rfl⟩, ?_⟩
  simp only [List.append_nil]
  exact List.perm_append_comm
 | (n, d) :: l, ps, h => by
  obtain ⟨g, t, cs, fu, p, q, h1, h2, h3, h4, h5, rfl⟩ := h
  obtain ⟨qs, hq, hp⟩ := laid_swap l q h5
  exact ⟨_, ⟨g, t, cs, fu, p, qs, h1, h2, h3, h4, hq, rfl⟩, List.Perm.append_left _ hp⟩
theorem laidMet_swap {P : Program} {w : World} {x y : String × DataW Unit} (l : List (String × DataW Unit)) (h : laidMet P (l ++ [x, y]) w) : laidMet P (l ++ [y, x]) w := by
 obtain ⟨ps, h1, h2, h3⟩ := h
 obtain ⟨qs, hq, hp⟩ := laid_swap l ps h1
 exact ⟨qs, hq, hp.symm.nodup h2, fun b off hm => h3 b off (hp.mem_iff.1 hm)⟩
theorem laid_all (os : Os) (args : Array Value) : laidMet Tryz.prog Rows.convBackRow.laid ((laidWorld os).forCall (fun _ _ => 0) ⟨#[], args, []⟩).memory :=
  laidMet_swap [("math/bits.deBruijn32tab", Rows.laid_math_bits_deBruijn32tab), ("math/bits.deBruijn64tab", Rows.laid_math_bits_deBruijn64tab), ("internal/strconv.uint64pow10", Rows.laid_internal_strconv_uint64pow10), ("unicode/utf8.acceptRanges", Rows.laid_unicode_utf8_acceptRanges), ("mezzotint/conv.types", Rows.laid_mezzotint_conv_types)]
    (by
      have h := laidMet_with_case (ρ := Tryz.lays203_ren) { Tryz.lays203 with } kR ⟨by kernel_rfl, by kernel_rfl, by kernel_rfl, by kernel_rfl, by kernel_rfl, by kernel_rfl⟩
        (w := ((laidWorld os).forCall (fun _ _ => 0) ⟨#[], args, []⟩).memory)
        (l := [("math/bits.deBruijn32tab", Rows.laid_math_bits_deBruijn32tab), ("math/bits.deBruijn64tab", Rows.laid_math_bits_deBruijn64tab), ("internal/strconv.uint64pow10", Rows.laid_internal_strconv_uint64pow10), ("unicode/utf8.acceptRanges", Rows.laid_unicode_utf8_acceptRanges), ("mezzotint/conv.types", Rows.laid_mezzotint_conv_types), ("unicode/utf8.first", Rows.laid_unicode_utf8_first)])
        10 kR kR kR low (Tryz.lays203_ren.t 208) (dT kR) kR kR kR
      rw [← Pinned.caseRanges_eq] at h
      exact h)
end
section
open Go.ChangeShapes Go.WideShapes Go.ChangeAt Go.RowKit
open Go.ChangeMaps (open_string shut_string)
set_option maxRecDepth 100000 in
theorem contract_ConvRadix (H : Type) (enc : TypeId × Value → H) (W : World) (base : Nat) (args : Array Value) (ds gs : List (DataW H)) (before : List MemPlace)
  (hval : ∀ (j : Nat) t v, Tryz.f4.params[j]? = some t → args[j]? = some v → Value.okWide Tryz.prog W .any base t v)
  (hW : DataW.Whole enc Tryz.prog Tryz.f4.params.toList Rows.convRadixSpec.vars false W args.toList ds gs before) (hL : laidMetH Tryz.prog Rows.convRadixRow.laid W) (hS : W.ShapedOpen Tryz.prog) :
  Calls Tryz.prog 4 args W fun e W' => ∃ v, e = .returned v ∧ Rows.convRadixSpec.post enc Tryz.prog Tryz.f4 false true false false W args v W' := by
 have hW' := hW
 obtain ⟨p, q, hA0, hV, rfl, hfz, hnd⟩ := hW
 have hA : DataW.TrodAll enc Tryz.prog W 0 (fun _ => true) true Tryz.f4.params.toList args.toList ds p := hA0
 rw [Tryz.params4] at hA hval
 obtain ⟨v0, vs0, d0, ds0, p0, q0, hargs0, rfl, rfl, h0, r0⟩ := trodAll_cons hA
 obtain ⟨v1, vs1, d1, ds1, p1, q1, hargs1, rfl, rfl, h1, r1⟩ := trodAll_cons r0
 obtain ⟨rfl, rfl, rfl⟩ := trodAll_nil r1
 obtain rfl : args = #[v0, v1] := by cases args; simp_all
 obtain ⟨rfl, rfl⟩ := trodVars_none hV
 obtain ⟨s0, rfl, rfl, rfl, hm0⟩ := open_int underlying21 (hval 0 21 v0 rfl rfl) h0
 obtain ⟨s1, rfl, rfl, rfl, hm1⟩ := open_int underlying5 (hval 1 5 v1 rfl rfl) h1
 clear hA0
 simp only [List.append_nil] at hW'
 refine (law_ConvRadix s0 s1 W (env_of hL hS) hm0 hm1).mono fun e W' ⟨he, bel⟩ => ?_
 subst he
 exact ⟨_, rfl, _, _, _, [], _, [], hW', trodAll_mk1 (shut_bool underlying4 _), (trodAll_cons_mk (shut_int underlying21 hm0) (trodAll_cons_mk (shut_int underlying5 hm1) trodAll_mk0)), rfl, bel.frame _, fun h => by cases h⟩
theorem laid_met_ConvRadix (os : Os) : laidMet Tryz.prog Rows.convRadixRow.laid ((laidWorld os).forCall (fun _ _ => 0) ⟨#[], #[.int .i32 0, .int .u8 0], []⟩).memory :=
 laid_all os _
theorem reads_ConvRadix (os : Os) {H : Type} (enc : TypeId × Value → H) : ∃ places, DataW.whole enc Tryz.prog ((laidWorld os).forCall (fun _ _ => 0) ⟨#[], #[.int .i32 0, .int .u8 0], []⟩).memory Tryz.f4.params.toList Rows.convRadixSpec.vars false #[Value.int .i32 0, .int .u8 0].toList 8 = some ([.lit (.int .i32 0), .lit (.int .u8 0)], [], places) :=
 ⟨[], by kernel_rfl⟩
set_option maxRecDepth 100000 in
theorem lifted_ConvRadix (os : Os) (started : os.Started) (H : Type) (enc : TypeId × Value → H) (F : Stop.Interp) :
    ReturnsInHanded {} Tryz.checked os 4 .any ((OpenSpec.ofChange Rows.convRadixSpec).preRow enc Tryz.prog Tryz.f4 Rows.convRadixRow.domain false Rows.convRadixRow.laid) (((OpenSpec.ofChange Rows.convRadixSpec).at F).post enc Tryz.prog Tryz.f4 false true false false) := by
  obtain ⟨places, hx⟩ := reads_ConvRadix os enc
  refine returnsInHanded_of_row (C := Tryz.checked) (s := OpenSpec.ofChange Rows.convRadixSpec) own started kR func4
    (witness_row_atRef (enc := enc) (C := Tryz.checked) false (laidWorld os) #[.int .i32 0, .int .u8 0] rfl kR kR kR
      (OpenSpec.preRow_of_cond 8 hx kR (fun k hk => by cases hk) kR (laid_met_ConvRadix os))) ?_
  intro W base args ds gs before hval hW _ hcd _ hL hS _
  exact contract_ConvRadix H enc W base args ds gs before hval hW hL hS
theorem said_ConvRadix : Rows.ConvRadixSaid :=
  OpenClaim.holds_of_cond 4 Tryz.f4 rfl rfl rfl rfl rfl rfl rfl ⟨rfl, rfl, rfl, rfl, rfl⟩ rfl rfl rfl rfl rfl kR func4 kR
    (dT kR) (by unfold Func.isWrapper; first | (rw [if_pos (by decide +kernel)]; kernel_rfl) | (rw [if_neg (by decide +kernel)]; exact ⟨rfl, rfl⟩))
    (fun os started H enc _ F => by rw [OpenClaim.pre_eq_preRow]; exact lifted_ConvRadix os started H enc F)
theorem plain_ConvRadix (f : FuncId) (fn : Func) (hf : Tryz.pinned.checked.prog.funcNamed "mezzotint/mezzotintlaw10.ConvRadix" = some f) (hfn : Tryz.pinned.checked.prog.funcs[f]? = some fn) :
  false = Tryz.pinned.checked.prog.looks [] ∧ ∀ (j : Nat) t, fn.params[j]? = some t → Tryz.pinned.checked.prog.wantsStandIn t = false := by
 obtain rfl : f = 4 := Option.some.inj ((show Tryz.prog.funcNamed "mezzotint/mezzotintlaw10.ConvRadix" = some 4 by kernel_rfl).symm.trans hf) |>.symm
 obtain rfl : fn = Tryz.f4 := (Option.some.inj (func4.symm.trans hfn)).symm
 refine ⟨by kernel_rfl, fun j t ht => ?_⟩
 rw [Tryz.params4] at ht
 have hmem := Array.mem_of_getElem? ht
 simp only [List.mem_toArray, List.mem_cons, List.not_mem_nil, or_false] at hmem
 rcases hmem with rfl | rfl
 ·
  exact (show Tryz.prog.wantsStandIn 21 = false by kernel_rfl)
 ·
  exact (show Tryz.prog.wantsStandIn 5 = false by kernel_rfl)
/-- THE CARD -/
theorem ConvRadix_holds : Rows.ConvRadixCardSaid :=
 Claim7.holds_tied_plain_at .later [] _ _ _ _ said_ConvRadix (fun _ h => by cases h) kR (fun _ h => by cases h) convRadix_row_tie rfl ⟨rfl, rfl⟩ kR rfl plain_ConvRadix kR
#print axioms ConvRadix_holds
end
end Go.Proofs.YtopnfojdmeageaaGreatDoor
