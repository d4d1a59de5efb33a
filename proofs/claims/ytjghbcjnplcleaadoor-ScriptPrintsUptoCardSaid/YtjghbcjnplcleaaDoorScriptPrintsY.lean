/-
  The law ScriptPrints, in its second form: Print hands back the text of any pages, or the error. Condition: the row's own, that what is read is of bulk at most 1048576.
-/
import Derived.Test.YtjghbcjnplcleaaDoorSp2
namespace Go.Proofs.YtjghbcjnplcleaaDoor
open Go.RowKit
open Go.Proofs.Tryd
section
theorem smT_len {n : Int} (h0 : 0 ≤ n) (h1 : n < 100) : (smT n).length ≤ 22 := by have := decL_le n oO oO; unfold smT; simp only [List.length_cons]; omega
theorem numsT_len (l : List Int) : (numsT l).length ≤ 61 * l.length := fm_len numT_len l
theorem RowM.lit {w : World} {b : Nat} {cs : Array Value} {t : TypeId} {l : List Int} (h : Blk w b cs t) (e : cs = (l.map intV).toArray) : RowM intL w (some ⟨b, 0, none⟩) l := (RowAt.lit h e).rowI
set_option maxHeartbeats 1600000 in
theorem prt_pen (b : Nat) (v : Value) (t0 : List UInt8) (x : PenV) (w : World) (h : Prt w b v t0) (hr : RowAt intV w x.pfDash x.fDash) (hp : 0 < x.fDash.length → (pA x.pfDash).block ≠ b ∧ v.ownBlock ≠ some (pA x.pfDash).block)
  (hc1 : 0 ≤ x.fCap) (hc2 : x.fCap < 100) (hj1 : 0 ≤ x.fJoin) (hj2 : x.fJoin < 100) (hd : x.fDash.length < 100) (hcc : x.fDash = [] → x.cfDash = 0 ∨ x.pfDash ≠ none) (hn : t0.length ≤ 900000) :
  Calls Tryd.prog 33 #[.pointer (some ⟨b, 0, none⟩), .agg (penV x).toArray] w fun e w' => ∃ r, e = .returned r ∧ r = .tuple #[] ∧ ∃ v', Prt w' b v' (t0 ++ penT x) ∧ Wr b v v' w w' := by
 have hbw := h.lt
 have hvw : ∀ g, v.ownBlock = some g → g < w.heap.size := fun g hg => (h.own.lt g hg).2
 have hrlt : 0 < x.fDash.length → (pA x.pfDash).block < w.heap.size := fun h0 => hr.lt h0
 have w1' := numsT_len [x.fWidth]; have w2' := numsT_len [x.fMiter]
 have s1' := smT_len hc1 hc2; have s2' := smT_len hj1 hj2; have s3' : (smT (x.fDash.length : Int)).length ≤ 22 := smT_len oO oO
 have w3' := numsT_len (x.fDash ++ [x.fPhase])
 simp only [List.length_append, List.length_cons, List.length_nil] at w1' w2' w3'
 refine W.enter func33 rfl ntmps33 (Nat.le_of_ble_eq_true rfl) ?_
 have hB0 := Below.refl (w.heap.size) w
 refine W.sr <| WL.box rfl rfl (fun b1 wb1 eb1 hkb1 hub1 hsb1 => ?_)
 have hB2 := Upd.below hB0 (by rw [eb1]; exact hB0.size) hub1
 have hgeb1 : w.heap.size ≤ b1 := by rw [eb1]; exact hB0.size
 have hBx : Below w.heap.size w wb1 := Upd.below (Below.refl _ _) oO hub1
 have hk0 := hkb1
 have hX0 : Wr b v v wb1 wb1 := Wr.refl _ _ _
 have hp0 := h.below hBx
 have hne : b1 ≠ b := by omega
 have hnv : v.ownBlock ≠ some b1 := fun e => by have := hvw _ e; omega
 refine WL.nil <| ?_
 refine W.sr <| WL.m rfl rfl <| WL.p (.fa underlying39 rfl sizeOf3 dD rfl) rfl <| WL.r (Rd.ld (isAgg3 _) rfl hkb1 rfl) rfl <| WL.bsl (ps := _) underlying37 sizeOf3 zeroValue3 rfl rfl rfl rfl rfl pR rfl (fun b3 wb3 eb3 hkb3 hub3 hsb3 => ?_)
 have hl5 : b1 < b3 := by rw [eb3]; exact hkb1.lt
 have hk4 := hkb1.upd hub3 (Nat.ne_of_lt hl5)
 have hgeb3 : w.heap.size ≤ b3 := by rw [eb3]; exact hB2.size
 have hz7 := RowAt.lit (V := intV) (l := [x.fWidth]) hkb3 (rfl)
 refine WL.call hb13 rfl rfl ((prt_numbers b v t0 _ [x.fWidth] 1 _ (hp0.below (Upd.below (Below.refl _ _) oO hub3)) hz7 (fun _ => ⟨by show b3 ≠ b; have := hp0.lt; omega, fun e => by have := (hp0.own.lt _ e).2; have h3 : (pA (some (⟨b3, 0, none⟩ : Addr))).block = b3 := rfl; rw [h3] at this; omega⟩) (by simp only [List.length_cons, List.length_nil]; omega))) (fun r w7 hw7 => ?_)
 obtain ⟨rfl, v1, hp1, hw1⟩ := hw7
 have hX1 := (hX0.trans (Wr.of_below (Upd.below (Below.refl _ _) oO hub3))).trans hw1
 have hk1 := hk0.wr hX1 hne hnv
 refine WL.nil <| ?_
 refine W.sr <| WL.m rfl rfl <| WL.p (.fa underlying39 rfl sizeOf3 dD rfl) rfl <| WL.r (Rd.ld (isAgg3 _) rfl hk1 rfl) rfl <| WL.call hb31 rfl rfl ((prt_small b v1 _ x.fCap _ hp1 (by simp only [List.length_append]; omega) hc1 hc2)) (fun r w8 hw8 => ?_)
 obtain ⟨rfl, v2, hp2, hw2⟩ := hw8
 have hX2 := hX1.trans hw2
 have hk2 := hk0.wr hX2 hne hnv
 have hB2 := Below.refl w8.heap.size w8
 refine WL.nil <| ?_
 refine W.sr <| WL.m rfl rfl <| WL.p (.fa underlying39 rfl sizeOf3 dD rfl) rfl <| WL.r (Rd.ld (isAgg3 _) rfl hk2 rfl) rfl <| WL.call hb31 rfl rfl ((prt_small b v2 _ x.fJoin _ hp2 (by simp only [List.length_append]; omega) hj1 hj2)) (fun r w9 hw9 => ?_)
 obtain ⟨rfl, v3, hp3, hw3⟩ := hw9
 have hX3 := hX2.trans hw3
 have hk3 := hk0.wr hX3 hne hnv
 have hB3 := Below.refl w9.heap.size w9
 refine WL.nil <| ?_
 refine W.sr <| WL.m rfl rfl <| WL.p (.fa underlying39 rfl sizeOf3 dD rfl) rfl <| WL.r (Rd.ld (isAgg3 _) rfl hk3 rfl) rfl <| WL.bsl (ps := _) underlying37 sizeOf3 zeroValue3 rfl rfl rfl rfl rfl pR rfl (fun b10 wb10 eb10 hkb10 hub10 hsb10 => ?_)
 have hl12 : b1 < b10 := by rw [eb10]; exact hk3.lt
 have hgeb10 : w9.heap.size ≤ b10 := by rw [eb10]; exact hB3.size
 have hz20 := RowAt.lit (V := intV) (l := [x.fMiter]) hkb10 (rfl)
 refine WL.call hb13 rfl rfl ((prt_numbers b v3 _ _ [x.fMiter] 1 _ (hp3.below (Upd.below (Below.refl _ _) oO hub10)) hz20 (fun _ => ⟨by show b10 ≠ b; have := hp3.lt; omega, fun e => by have := (hp3.own.lt _ e).2; have h3 : (pA (some (⟨b10, 0, none⟩ : Addr))).block = b10 := rfl; rw [h3] at this; omega⟩) (by simp only [List.length_append, List.length_cons, List.length_nil]; omega))) (fun r w14 hw14 => ?_)
 obtain ⟨rfl, v4, hp4, hw4⟩ := hw14
 have hX4 := (hX3.trans (Wr.of_below (Upd.below (Below.refl _ _) oO hub10))).trans hw4
 have hk4 := hk0.wr hX4 hne hnv
 refine WL.nil <| ?_
 refine W.sr <| WL.m rfl rfl <| WL.p (.fa underlying39 rfl sizeOf37 dD rfl) rfl <| WL.r (Rd.ld (isAgg37 _) rfl hk4 rfl) rfl <| WL.p (.lenS underlying37 rfl) rfl <| WL.call hb31 rfl rfl ((prt_small b v4 _ (x.fDash.length : Int) _ hp4 (by simp only [List.length_append]; omega) oO oO)) (fun r w15 hw15 => ?_)
 obtain ⟨rfl, v5, hp5, hw5⟩ := hw15
 have hX5 := hX4.trans hw5
 have hk5 := hk0.wr hX5 hne hnv
 have hB5 := Below.refl w15.heap.size w15
 have hrd5 : RowM intL w15 x.pfDash x.fDash := RowM.keepB (hr.rowI) ((Wr.of_below hBx).trans hX5).1 (fun h0 => ⟨hrlt h0, by simp only [List.mem_cons, Option.mem_toList, not_or]; exact hp h0⟩)
 have hs5 : 0 ≤ w15.heap.size := Nat.zero_le _
 refine WL.nil <| ?_
 refine W.regY 9 rfl mixed (fun w16 dw16 => ?_)
 have hk17 := hk5.drew dw16
 have hv18 := hrd5.drew dw16
 have hB19 := Drew.below hB5 dw16
 refine WY.tk 0 rfl (.mv rfl) rfl ?_
 refine WY.tk 1 rfl (.fa underlying39 rfl sizeOf37 dD rfl) rfl ?_
 refine WY.tk 4 rfl (.fa underlying39 rfl sizeOf3 dD rfl) rfl ?_
 refine WY.br2 2 rfl 5 rfl ?_ ?_
 refine WL.r (Rd.ld (isAgg37 _) rfl hk17 rfl) rfl <| WL.nil <| ?_
 refine WY.br2 3 rfl 5 rfl ?_ ?_
 refine WL.call hb49 rfl rfl ((lib_CloneI _ _ _ _ hv18 hcc oO)) (fun vc w20 hw20 => ?_)
 have hk21 := hk17.below hw20.1 hk17.lt
 have hB23 := btr hB19 hw20.1
 have hoc := OwnM.base (C := w15.heap.size) (hw20).2 (fun g hg => by have h1 := ((hw20).2.lt g hg).1; have h3 := Drew.size dw16; first | exact h1 | omega)
 have hle30 : w15.heap.size ≤ w20.heap.size := by have h1 := (hw20).1.size; have h3 := Drew.size dw16; first | exact h1 | omega
 refine WL.nil <| ?_
 refine WY.br1 5 rfl ?_
 refine WL.r (Rd.ld (isAgg3 _) rfl hk21 rfl) rfl <| WL.nil <| ?_
 refine WY.br1 6 rfl ?_
 refine WL.bsl (ps := _) underlying37 sizeOf3 zeroValue3 rfl rfl rfl rfl rfl pR rfl (fun b24 wb24 eb24 hkb24 hub24 hsb24 => ?_)
 have hle26 := Nat.le_trans hle30 hub24.size
 have ho25 := OwnM.new hoc eb24 hub24
 have hl28 : b1 < b24 := by rw [eb24]; exact hk21.lt
 have hB31 := Upd.below hB23 (by rw [eb24]; exact hB23.size) hub24
 have hgeb24 : w15.heap.size ≤ b24 := by rw [eb24]; exact hB23.size
 have hz33 := RowM.lit (l := [x.fPhase]) hkb24 (rfl)
 refine WL.nil <| ?_
 refine WY.br1 7 rfl ?_
 refine WL.appM underlying37 inf3 rfl rfl rfl ho25 rfl hz33 (by simp only [List.length_cons, List.length_nil]; omega) (hle26) rfl (fun h => nomatch h) (fun v32 w33 how33 hbw33 hgw33 hfw33 => ?_)
 have hB35 := Below.trans hB31 (hbw33.mono (Nat.le_refl _))
 have hle36 := Nat.le_trans hle26 hbw33.size
 obtain ⟨pz, cz, ez, hz, hzb, hzc, hzn, hzo, -⟩ := OwnM.row how33
 subst ez
 refine WL.nil <| ?_
 refine WY.br1 8 rfl ?_
 refine WL.call hb13 rfl rfl ((prt_numbers b v5 _ pz (x.fDash ++ [x.fPhase]) cz _ (hp5.below hB35) hz.atI (fun h0 => by have h1 := hzb _ (hz.isp h0); exact ⟨fun e => by have := hp5.lt; omega, fun e => by have := (hp5.own.lt _ e).2; omega⟩) (by simp only [List.length_append, List.length_cons, List.length_nil]; omega))) (fun r w37 hw37 => ?_)
 obtain ⟨rfl, v6, hp6, hw6⟩ := hw37
 have hX6 := ((((Wr.of_below hBx).trans hX5).trans (Wr.of_below hB35)).trans hw6)
 refine WL.nil <| ?_
 refine WY.done kR ?_
 refine W.norm (W.ret0 rfl ?_)
 have epn : penT x = numsT [x.fWidth] ++ smT x.fCap ++ smT x.fJoin ++ numsT [x.fMiter] ++ smT (x.fDash.length : Int) ++ numsT (x.fDash ++ [x.fPhase]) := by simp [penT, numsT]
 exact ⟨_, rfl, rfl, v6, by rw [epn]; simp only [← List.append_assoc]; exact hp6, hX6⟩
 refine WL.r (Rd.ld (isAgg3 _) rfl hk17 rfl) rfl <| WL.nil <| ?_
 refine WY.br2 3 rfl 6 rfl ?_ ?_
 refine WL.call hb49 rfl rfl ((lib_CloneI _ _ _ _ hv18 hcc oO)) (fun vc w38 hw38 => ?_)
 have hk39 := hk17.below hw38.1 hk17.lt
 have hB41 := btr hB19 hw38.1
 have hoc := OwnM.base (C := w15.heap.size) (hw38).2 (fun g hg => by have h1 := ((hw38).2.lt g hg).1; have h3 := Drew.size dw16; first | exact h1 | omega)
 have hle30 : w15.heap.size ≤ w38.heap.size := by have h1 := (hw38).1.size; have h3 := Drew.size dw16; first | exact h1 | omega
 refine WL.nil <| ?_
 refine WY.br1 6 rfl ?_
 refine WL.bsl (ps := _) underlying37 sizeOf3 zeroValue3 rfl rfl rfl rfl rfl pR rfl (fun b42 wb42 eb42 hkb42 hub42 hsb42 => ?_)
 have hle44 := Nat.le_trans hle30 hub42.size
 have ho43 := OwnM.new hoc eb42 hub42
 have hl46 : b1 < b42 := by rw [eb42]; exact hk39.lt
 have hB49 := Upd.below hB41 (by rw [eb42]; exact hB41.size) hub42
 have hgeb42 : w15.heap.size ≤ b42 := by rw [eb42]; exact hB41.size
 have hz33 := RowM.lit (l := [x.fPhase]) hkb42 (rfl)
 refine WL.nil <| ?_
 refine WY.br1 7 rfl ?_
 refine WL.appM underlying37 inf3 rfl rfl rfl ho43 rfl hz33 (by simp only [List.length_cons, List.length_nil]; omega) (hle44) rfl (fun h => nomatch h) (fun v50 w51 how51 hbw51 hgw51 hfw51 => ?_)
 have hB53 := Below.trans hB49 (hbw51.mono (Nat.le_refl _))
 have hle54 := Nat.le_trans hle44 hbw51.size
 obtain ⟨pz, cz, ez, hz, hzb, hzc, hzn, hzo, -⟩ := OwnM.row how51
 subst ez
 refine WL.nil <| ?_
 refine WY.br1 8 rfl ?_
 refine WL.call hb13 rfl rfl ((prt_numbers b v5 _ pz (x.fDash ++ [x.fPhase]) cz _ (hp5.below hB53) hz.atI (fun h0 => by have h1 := hzb _ (hz.isp h0); exact ⟨fun e => by have := hp5.lt; omega, fun e => by have := (hp5.own.lt _ e).2; omega⟩) (by simp only [List.length_append, List.length_cons, List.length_nil]; omega))) (fun r w55 hw55 => ?_)
 obtain ⟨rfl, v6, hp6, hw6⟩ := hw55
 have hX6 := ((((Wr.of_below hBx).trans hX5).trans (Wr.of_below hB53)).trans hw6)
 refine WL.nil <| ?_
 refine WY.done kR ?_
 refine W.norm (W.ret0 rfl ?_)
 have epn : penT x = numsT [x.fWidth] ++ smT x.fCap ++ smT x.fJoin ++ numsT [x.fMiter] ++ smT (x.fDash.length : Int) ++ numsT (x.fDash ++ [x.fPhase]) := by simp [penT, numsT]
 exact ⟨_, rfl, rfl, v6, by rw [epn]; simp only [← List.append_assoc]; exact hp6, hX6⟩
 refine WL.bsl (ps := _) underlying37 sizeOf3 zeroValue3 rfl rfl rfl rfl rfl pR rfl (fun b56 wb56 eb56 hkb56 hub56 hsb56 => ?_)
 have hl58 : b1 < b56 := by rw [eb56]; exact hk17.lt
 have hvl60 := fun h0 => eb56 ▸ hv18.lt h0
 have hv59 := RowM.upd hv18 hub56 (fun h0 => Nat.ne_of_lt (hvl60 h0))
 have hB61 := Upd.below hB19 (by rw [eb56]; exact hB19.size) hub56
 have hgeb56 : w15.heap.size ≤ b56 := by rw [eb56]; exact hB19.size
 have hz33 := RowM.lit (l := [x.fPhase]) hkb56 (rfl)
 refine WL.nil <| ?_
 refine WY.br1 3 rfl ?_
 refine WL.call hb49 rfl rfl ((lib_CloneI _ _ _ _ hv59 hcc oO)) (fun vc w62 hw62 => ?_)
 have hv65 := RowM.below hz33 hw62.1 (fun h0 => hz33.lt h0)
 have hB66 := btr hB61 hw62.1
 have hoc := OwnM.base (C := w15.heap.size) (hw62).2 (fun g hg => by have h1 := ((hw62).2.lt g hg).1; have h3 := Drew.size dw16; first | exact h1 | omega)
 have hle30 : w15.heap.size ≤ w62.heap.size := by have h1 := (hw62).1.size; have h3 := Drew.size dw16; first | exact h1 | omega
 refine WL.nil <| ?_
 refine WY.br1 7 rfl ?_
 refine WL.appM underlying37 inf3 rfl rfl rfl hoc rfl hv65 (by simp only [List.length_cons, List.length_nil]; omega) (hle30) rfl (fun h => nomatch h) (fun v67 w68 how68 hbw68 hgw68 hfw68 => ?_)
 have hB70 := Below.trans hB66 (hbw68.mono (Nat.le_refl _))
 have hle71 := Nat.le_trans hle30 hbw68.size
 obtain ⟨pz, cz, ez, hz, hzb, hzc, hzn, hzo, -⟩ := OwnM.row how68
 subst ez
 refine WL.nil <| ?_
 refine WY.br1 8 rfl ?_
 refine WL.call hb13 rfl rfl ((prt_numbers b v5 _ pz (x.fDash ++ [x.fPhase]) cz _ (hp5.below hB70) hz.atI (fun h0 => by have h1 := hzb _ (hz.isp h0); exact ⟨fun e => by have := hp5.lt; omega, fun e => by have := (hp5.own.lt _ e).2; omega⟩) (by simp only [List.length_append, List.length_cons, List.length_nil]; omega))) (fun r w72 hw72 => ?_)
 obtain ⟨rfl, v6, hp6, hw6⟩ := hw72
 have hX6 := ((((Wr.of_below hBx).trans hX5).trans (Wr.of_below hB70)).trans hw6)
 refine WL.nil <| ?_
 refine WY.done kR ?_
 refine W.norm (W.ret0 rfl ?_)
 have epn : penT x = numsT [x.fWidth] ++ smT x.fCap ++ smT x.fJoin ++ numsT [x.fMiter] ++ smT (x.fDash.length : Int) ++ numsT (x.fDash ++ [x.fPhase]) := by simp [penT, numsT]
 exact ⟨_, rfl, rfl, v6, by rw [epn]; simp only [← List.append_assoc]; exact hp6, hX6⟩
 refine WL.r (Rd.ld (isAgg3 _) rfl hk17 rfl) rfl <| WL.nil <| ?_
 refine WY.br2 2 rfl 6 rfl ?_ ?_
 refine WL.r (Rd.ld (isAgg37 _) rfl hk17 rfl) rfl <| WL.nil <| ?_
 refine WY.br2 3 rfl 6 rfl ?_ ?_
 refine WL.call hb49 rfl rfl ((lib_CloneI _ _ _ _ hv18 hcc oO)) (fun vc w73 hw73 => ?_)
 have hk74 := hk17.below hw73.1 hk17.lt
 have hB76 := btr hB19 hw73.1
 have hoc := OwnM.base (C := w15.heap.size) (hw73).2 (fun g hg => by have h1 := ((hw73).2.lt g hg).1; have h3 := Drew.size dw16; first | exact h1 | omega)
 have hle30 : w15.heap.size ≤ w73.heap.size := by have h1 := (hw73).1.size; have h3 := Drew.size dw16; first | exact h1 | omega
 refine WL.nil <| ?_
 refine WY.br1 6 rfl ?_
 refine WL.bsl (ps := _) underlying37 sizeOf3 zeroValue3 rfl rfl rfl rfl rfl pR rfl (fun b77 wb77 eb77 hkb77 hub77 hsb77 => ?_)
 have hle79 := Nat.le_trans hle30 hub77.size
 have ho78 := OwnM.new hoc eb77 hub77
 have hl81 : b1 < b77 := by rw [eb77]; exact hk74.lt
 have hB84 := Upd.below hB76 (by rw [eb77]; exact hB76.size) hub77
 have hgeb77 : w15.heap.size ≤ b77 := by rw [eb77]; exact hB76.size
 have hz33 := RowM.lit (l := [x.fPhase]) hkb77 (rfl)
 refine WL.nil <| ?_
 refine WY.br1 7 rfl ?_
 refine WL.appM underlying37 inf3 rfl rfl rfl ho78 rfl hz33 (by simp only [List.length_cons, List.length_nil]; omega) (hle79) rfl (fun h => nomatch h) (fun v85 w86 how86 hbw86 hgw86 hfw86 => ?_)
 have hB88 := Below.trans hB84 (hbw86.mono (Nat.le_refl _))
 have hle89 := Nat.le_trans hle79 hbw86.size
 obtain ⟨pz, cz, ez, hz, hzb, hzc, hzn, hzo, -⟩ := OwnM.row how86
 subst ez
 refine WL.nil <| ?_
 refine WY.br1 8 rfl ?_
 refine WL.call hb13 rfl rfl ((prt_numbers b v5 _ pz (x.fDash ++ [x.fPhase]) cz _ (hp5.below hB88) hz.atI (fun h0 => by have h1 := hzb _ (hz.isp h0); exact ⟨fun e => by have := hp5.lt; omega, fun e => by have := (hp5.own.lt _ e).2; omega⟩) (by simp only [List.length_append, List.length_cons, List.length_nil]; omega))) (fun r w90 hw90 => ?_)
 obtain ⟨rfl, v6, hp6, hw6⟩ := hw90
 have hX6 := ((((Wr.of_below hBx).trans hX5).trans (Wr.of_below hB88)).trans hw6)
 refine WL.nil <| ?_
 refine WY.done kR ?_
 refine W.norm (W.ret0 rfl ?_)
 have epn : penT x = numsT [x.fWidth] ++ smT x.fCap ++ smT x.fJoin ++ numsT [x.fMiter] ++ smT (x.fDash.length : Int) ++ numsT (x.fDash ++ [x.fPhase]) := by simp [penT, numsT]
 exact ⟨_, rfl, rfl, v6, by rw [epn]; simp only [← List.append_assoc]; exact hp6, hX6⟩
 refine WL.bsl (ps := _) underlying37 sizeOf3 zeroValue3 rfl rfl rfl rfl rfl pR rfl (fun b91 wb91 eb91 hkb91 hub91 hsb91 => ?_)
 have hl93 : b1 < b91 := by rw [eb91]; exact hk17.lt
 have hvl95 := fun h0 => eb91 ▸ hv18.lt h0
 have hv94 := RowM.upd hv18 hub91 (fun h0 => Nat.ne_of_lt (hvl95 h0))
 have hB96 := Upd.below hB19 (by rw [eb91]; exact hB19.size) hub91
 have hgeb91 : w15.heap.size ≤ b91 := by rw [eb91]; exact hB19.size
 have hz33 := RowM.lit (l := [x.fPhase]) hkb91 (rfl)
 refine WL.nil <| ?_
 refine WY.br1 3 rfl ?_
 refine WL.call hb49 rfl rfl ((lib_CloneI _ _ _ _ hv94 hcc oO)) (fun vc w97 hw97 => ?_)
 have hv100 := RowM.below hz33 hw97.1 (fun h0 => hz33.lt h0)
 have hB101 := btr hB96 hw97.1
 have hoc := OwnM.base (C := w15.heap.size) (hw97).2 (fun g hg => by have h1 := ((hw97).2.lt g hg).1; have h3 := Drew.size dw16; first | exact h1 | omega)
 have hle30 : w15.heap.size ≤ w97.heap.size := by have h1 := (hw97).1.size; have h3 := Drew.size dw16; first | exact h1 | omega
 refine WL.nil <| ?_
 refine WY.br1 7 rfl ?_
 refine WL.appM underlying37 inf3 rfl rfl rfl hoc rfl hv100 (by simp only [List.length_cons, List.length_nil]; omega) (hle30) rfl (fun h => nomatch h) (fun v102 w103 how103 hbw103 hgw103 hfw103 => ?_)
 have hB105 := Below.trans hB101 (hbw103.mono (Nat.le_refl _))
 have hle106 := Nat.le_trans hle30 hbw103.size
 obtain ⟨pz, cz, ez, hz, hzb, hzc, hzn, hzo, -⟩ := OwnM.row how103
 subst ez
 refine WL.nil <| ?_
 refine WY.br1 8 rfl ?_
 refine WL.call hb13 rfl rfl ((prt_numbers b v5 _ pz (x.fDash ++ [x.fPhase]) cz _ (hp5.below hB105) hz.atI (fun h0 => by have h1 := hzb _ (hz.isp h0); exact ⟨fun e => by have := hp5.lt; omega, fun e => by have := (hp5.own.lt _ e).2; omega⟩) (by simp only [List.length_append, List.length_cons, List.length_nil]; omega))) (fun r w107 hw107 => ?_)
 obtain ⟨rfl, v6, hp6, hw6⟩ := hw107
 have hX6 := ((((Wr.of_below hBx).trans hX5).trans (Wr.of_below hB105)).trans hw6)
 refine WL.nil <| ?_
 refine WY.done kR ?_
 refine W.norm (W.ret0 rfl ?_)
 have epn : penT x = numsT [x.fWidth] ++ smT x.fCap ++ smT x.fJoin ++ numsT [x.fMiter] ++ smT (x.fDash.length : Int) ++ numsT (x.fDash ++ [x.fPhase]) := by simp [penT, numsT]
 exact ⟨_, rfl, rfl, v6, by rw [epn]; simp only [← List.append_assoc]; exact hp6, hX6⟩
 refine WL.bsl (ps := _) underlying37 sizeOf3 zeroValue3 rfl rfl rfl rfl rfl pR rfl (fun b108 wb108 eb108 hkb108 hub108 hsb108 => ?_)
 have hl110 : b1 < b108 := by rw [eb108]; exact hk17.lt
 have hk109 := hk17.upd hub108 (Nat.ne_of_lt hl110)
 have hvl112 := fun h0 => eb108 ▸ hv18.lt h0
 have hv111 := RowM.upd hv18 hub108 (fun h0 => Nat.ne_of_lt (hvl112 h0))
 have hB113 := Upd.below hB19 (by rw [eb108]; exact hB19.size) hub108
 have hgeb108 : w15.heap.size ≤ b108 := by rw [eb108]; exact hB19.size
 have hz33 := RowM.lit (l := [x.fPhase]) hkb108 (rfl)
 refine WL.nil <| ?_
 refine WY.br1 2 rfl ?_
 refine WL.r (Rd.ld (isAgg37 _) rfl hk109 rfl) rfl <| WL.nil <| ?_
 refine WY.br1 3 rfl ?_
 refine WL.call hb49 rfl rfl ((lib_CloneI _ _ _ _ hv111 hcc oO)) (fun vc w114 hw114 => ?_)
 have hv117 := RowM.below hz33 hw114.1 (fun h0 => hz33.lt h0)
 have hB118 := btr hB113 hw114.1
 have hoc := OwnM.base (C := w15.heap.size) (hw114).2 (fun g hg => by have h1 := ((hw114).2.lt g hg).1; have h3 := Drew.size dw16; first | exact h1 | omega)
 have hle30 : w15.heap.size ≤ w114.heap.size := by have h1 := (hw114).1.size; have h3 := Drew.size dw16; first | exact h1 | omega
 refine WL.nil <| ?_
 refine WY.br1 7 rfl ?_
 refine WL.appM underlying37 inf3 rfl rfl rfl hoc rfl hv117 (by simp only [List.length_cons, List.length_nil]; omega) (hle30) rfl (fun h => nomatch h) (fun v119 w120 how120 hbw120 hgw120 hfw120 => ?_)
 have hB122 := Below.trans hB118 (hbw120.mono (Nat.le_refl _))
 have hle123 := Nat.le_trans hle30 hbw120.size
 obtain ⟨pz, cz, ez, hz, hzb, hzc, hzn, hzo, -⟩ := OwnM.row how120
 subst ez
 refine WL.nil <| ?_
 refine WY.br1 8 rfl ?_
 refine WL.call hb13 rfl rfl ((prt_numbers b v5 _ pz (x.fDash ++ [x.fPhase]) cz _ (hp5.below hB122) hz.atI (fun h0 => by have h1 := hzb _ (hz.isp h0); exact ⟨fun e => by have := hp5.lt; omega, fun e => by have := (hp5.own.lt _ e).2; omega⟩) (by simp only [List.length_append, List.length_cons, List.length_nil]; omega))) (fun r w124 hw124 => ?_)
 obtain ⟨rfl, v6, hp6, hw6⟩ := hw124
 have hX6 := ((((Wr.of_below hBx).trans hX5).trans (Wr.of_below hB122)).trans hw6)
 refine WL.nil <| ?_
 refine WY.done kR ?_
 refine W.norm (W.ret0 rfl ?_)
 have epn : penT x = numsT [x.fWidth] ++ smT x.fCap ++ smT x.fJoin ++ numsT [x.fMiter] ++ smT (x.fDash.length : Int) ++ numsT (x.fDash ++ [x.fPhase]) := by simp [penT, numsT]
 exact ⟨_, rfl, rfl, v6, by rw [epn]; simp only [← List.append_assoc]; exact hp6, hX6⟩
end
section
theorem clips_pre : ∀ (l : List ClipV) (i : Nat) (hi : i < l.length), ((l.take i).flatMap clipT).length + 368 * (5 + l[i].fPath.length) ≤ 368 * (5 * l.length + sumOf (fun c : ClipV => c.fPath.length) l)
 | [], i, hi => absurd hi (by simp)
 | c :: l, 0, hi => by
  have e : sumOf (fun c : ClipV => c.fPath.length) (c :: l) = c.fPath.length + sumOf (fun c : ClipV => c.fPath.length) l := by simp [sumOf]
  rw [e]; simp only [List.take_zero, List.flatMap_nil, List.length_nil, List.getElem_cons_zero, List.length_cons]; omega
 | c :: l, i + 1, hi => by
  have ih := clips_pre l i (by simpa using hi)
  have e : sumOf (fun c : ClipV => c.fPath.length) (c :: l) = c.fPath.length + sumOf (fun c : ClipV => c.fPath.length) l := by simp [sumOf]
  have hc : (clipT c).length ≤ 7 + 368 * c.fPath.length := by
   have := pathT_len c.fPath
   unfold clipT; split <;> simp only [List.length_append, List.length_cons, List.length_nil] <;> omega
  rw [e]; simp only [List.take_succ_cons, List.flatMap_cons, List.length_append, List.getElem_cons_succ, List.length_cons]; omega
theorem clips_len (l : List ClipV) : (l.flatMap clipT).length ≤ 368 * (5 * l.length + sumOf (fun c : ClipV => c.fPath.length) l) := by
 induction l with
 | nil => simp
 | cons c l ih =>
  have hc : (clipT c).length ≤ 7 + 368 * c.fPath.length := by
   have := pathT_len c.fPath
   unfold clipT; split <;> simp only [List.length_append, List.length_cons, List.length_nil] <;> omega
  have e : sumOf (fun c : ClipV => c.fPath.length) (c :: l) = c.fPath.length + sumOf (fun c : ClipV => c.fPath.length) l := by simp [sumOf]
  rw [e]
  simp only [List.flatMap_cons, List.length_append, List.length_cons]; omega
theorem itemB_font {x : ItemV} (h : itemB x = true) (h4 : x.fKind = 4) : 0 ≤ x.fFont ∧ x.fFont ≤ 13 := by
 unfold itemB at h
 simp only [Bool.and_eq_true, if_pos h4] at h
 have := h.2
 simp only [Bool.and_eq_true, lettersB, decide_eq_true_eq] at this
 omega
theorem itemB_pen {x : ItemV} (h : itemB x = true) (h3 : x.fKind = 3) : 0 ≤ x.fPen.fCap ∧ x.fPen.fCap ≤ 2 ∧ 0 ≤ x.fPen.fJoin ∧ x.fPen.fJoin ≤ 2 ∧ x.fPen.fDash.length ≤ 11 := by
 unfold itemB at h
 simp only [Bool.and_eq_true, if_neg (show ¬ x.fKind = 4 by omega), if_neg (show ¬ (x.fKind = 1 ∨ x.fKind = 2) by omega), if_pos h3] at h
 have h2 : penB x.fPen = true := h.2.2
 unfold penB at h2
 simp only [Bool.and_eq_true] at h2
 have h5 : penH x.fPen = false := by simpa using h2.1.1
 simp only [penH, Bool.or_eq_false_iff, decide_eq_false_iff_not] at h5
 omega
theorem colorT_len (x : ColorV) (h : x.fSpace = 1 ∨ x.fSpace = 3 ∨ x.fSpace = 4) : (colorT x).length ≤ 266 := by
 have h1 := smT_len (n := x.fSpace) oO oO
 have h2 := parts_take_len x x.fSpace.toNat
 unfold colorT; simp only [List.length_append]; omega
theorem penT_len {x : PenV} (hc1 : 0 ≤ x.fCap) (hc2 : x.fCap ≤ 2) (hj1 : 0 ≤ x.fJoin) (hj2 : x.fJoin ≤ 2) (hd : x.fDash.length ≤ 11) : (penT x).length ≤ 249 + 61 * x.fDash.length := by
 have a1 := numT_len x.fWidth; have a2 := numT_len x.fMiter; have a3 := numT_len x.fPhase
 have c1 := smT_len hc1 oO; have c2 := smT_len hj1 oO; have c3 : (smT (x.fDash.length : Int)).length ≤ 22 := smT_len oO oO
 have c4 := numsT_len x.fDash
 unfold penT; simp only [List.length_append]; omega
set_option maxHeartbeats 3200000 in
theorem prt_item (b : Nat) (v : Value) (t0 : List UInt8) (x : ItemV) (w0 w : World) (h : Prt w b v t0) (hx : ItemOk w0 x) (hB0 : Below w0.heap.size w0 w) (hb : w0.heap.size ≤ b) (hk : itemB x = true) (hn : t0.length + 368 * (5 + itemW x + clipW x) ≤ 800000) :
  Calls Tryd.prog 15 #[.pointer (some ⟨b, 0, none⟩), .agg (itemV x).toArray] w fun e w' => ∃ r, e = .returned r ∧ r = .tuple #[] ∧ ∃ v', Prt w' b v' (t0 ++ itemT x) ∧ Wr b v v' w w' := by
 have hbw := h.lt
 have hvw : ∀ g, v.ownBlock = some g → g < w.heap.size := fun g hg => (h.own.lt g hg).2
 obtain ⟨hk1, hk4, hsp, hc16⟩ := itemB_kind hk
 have hcl := colorT_len x.fColor hsp
 have hcs := clips_len x.fClips
 have hpl := pathT_len x.fPath
 have hbl : (x.fBytes.flatMap hexT).length ≤ 2 * x.fBytes.length := fm_len hexT_len x.fBytes
 have hml := numsT_len (mats x)
 have hm6 : (mats x).length = 6 := rfl
 unfold itemW clipW at hn
 have hap : ∀ {α : Type} {p : Option Addr} {l : List α} {v' : Value} {w' : World} {m : List UInt8}, (0 < l.length → (pA p).block < w0.heap.size) → Prt w' b v' m → 0 < l.length → (pA p).block ≠ b ∧ v'.ownBlock ≠ some (pA p).block :=
  fun h1 hP h0 => ⟨by have := h1 h0; omega, fun e => by have := hP.ge _ e; have := h1 h0; omega⟩
 have hlc : 0 < x.fClips.length → (pA x.pfClips).block < w0.heap.size := fun h0 => hx.row_fClips.lt h0
 refine W.enter func15 rfl ntmps15 (Nat.le_of_ble_eq_true rfl) ?_
 refine W.sr <| WL.box rfl rfl (fun b1 wb1 eb1 hkb1 hub1 hsb1 => ?_)
 have hBx : Below w.heap.size w wb1 := Upd.below (Below.refl _ _) oO hub1
 have hk0 := hkb1
 have hX0 : Wr b v v wb1 wb1 := Wr.refl _ _ _
 have hp0 := h.below hBx
 have hne : b1 ≠ b := by omega
 have hnv : v.ownBlock ≠ some b1 := fun e => by have := hvw _ e; omega
 have hsz : w0.heap.size ≤ wb1.heap.size := Nat.le_trans hB0.size hBx.size
 have hbx0 : Below w0.heap.size w0 wb1 := hB0.trans (hBx.mono hB0.size)
 have hxw : ∀ {v' : Value} {w' : World}, Wr b v v' wb1 w' → ItemOk w' x := fun hW => hx.below (hbx0.trans (hW.below hsz hb fun g hg => by have := h.ge g hg; omega))
 have hrc0 := (hxw hX0).row_fClips
 refine WL.nil <| ?_
 refine W.seq <| W.sr <| WL.p (.fa underlying43 rfl sizeOf36 dD rfl) rfl <| WL.r (Rd.ld (isAgg36 _) rfl hkb1 rfl) rfl <| WL.p (.lenS underlying36 rfl) rfl <| WL.m rfl rfl <| WL.nil <| ?_
 refine W.block ?_
 refine W.loop (α := Nat × Value) (fun t => [(0, .pointer (some ⟨b, 0, none⟩)), (3, .pointer (some ⟨b1, 0, none⟩)), (7, .slice x.pfClips x.fClips.length x.cfClips), (8, .int .i64 (x.fClips.length : Int)), (9, .int .i64 (t.1 : Int))]) (fun t w' => Prt w' b t.2 (t0 ++ (x.fClips.take t.1).flatMap clipT) ∧ Wr b v t.2 wb1 w' ∧ t.1 ≤ x.fClips.length) (fun t => x.fClips.length - t.1) ((0, v)) ⟨rfl, rfl, rfl, rfl, rfl, trivial⟩ (⟨by simpa using hp0, hX0, Nat.zero_le _⟩) (fun t w1 hR => ?_)
 obtain ⟨i, v1⟩ := t
 obtain ⟨hP, hW, hi⟩ := hR
 simp only at hP hW hi ⊢
 have hrx := (hxw hW).row_fClips
 have hkb := hk0.wr hW hne hnv
 refine W.sr <| WL.p (.lss rfl rfl) rfl <| WL.nil <| ?_
 refine W.seq <| W.cond rfl (fun h2 => ?_) (fun h2 => ?_)
 have h2' := dT h2
 have hil : i < x.fClips.length := by omega
 have hnt : (x.fClips.take (i + 1)).flatMap clipT = (x.fClips.take i).flatMap clipT ++ clipT x.fClips[i] := flatMap_take hil
 have hpre := clips_pre x.fClips i hil
 have hxi := hx.all_fClips _ (List.getElem_mem hil)
 have hli : 0 < x.fClips[i].fPath.length → (pA x.fClips[i].pfPath).block < w0.heap.size := fun h0 => hxi.row_fPath.lt h0
 refine W.skip <| W.seq <| W.block <| W.sr <| WL.p (.ixm underlying36 sizeOf45 rfl rfl (hrx.isp oO) (i) (rfl) oO) rfl <| WL.r (Rd.ldS underlying45 rfl isz45 hrx (i) oO rfl) rfl <| WL.alloc zeroValue45 rfl (fun b3 wb3 eb3 hkb3 hub3 hsb3 => ?_)
 have hl5 : b1 < b3 := by rw [eb3]; exact hkb.lt
 have hk4 := hkb.upd hub3 (Nat.ne_of_lt hl5)
 refine WL.stL rfl rfl hkb3 isz45 rfl rfl (fun w8 hkw8 huw8 hsw8 => ?_)
 refine WL.nil <| ?_
 refine W.seq <| W.seq ?_
 have hBy : Below w1.heap.size w1 w8 := Upd.below (Upd.below (Below.refl _ _) oO hub3) oO huw8
 have hkc0 := hkw8
 have hpy := hP.below hBy
 have hWy := hW.trans (Wr.of_below hBy)
 have hw5 : b3 < w8.heap.size := hkc0.lt
 have hne5 : b3 ≠ b := by have := hP.lt; omega
 have hnv5 : v1.ownBlock ≠ some b3 := fun e => by have := (hP.own.lt _ e).2; omega
 have hY0 : Wr b v1 v1 w8 w8 := Wr.refl _ _ _
 refine W.reg <| WL.p (.fa underlying45 rfl sizeOf4 dD rfl) rfl <| WL.r (Rd.ld (isAgg4 _) rfl hkw8 rfl) rfl <| WL.nil <| ?_
 refine W.cond rfl (fun h11 => ?_) (fun h11 => ?_)
 refine W.reg <| WL.m rfl rfl <| WL.p (.nck rfl) rfl <| WL.p (.fa underlying52 rfl sizeOf50 dD rfl) rfl <| WL.call hb12 rfl rfl ((prt_WriteString b v1 _ [101, 111] _ hpy (by simp only [List.length_append, List.length_cons, List.length_nil]; omega))) (fun r w12 hw12 => ?_)
 obtain ⟨v2, hp2, hw2⟩ := hw12
 have hY2 := hY0.trans hw2
 have hkc2 := hkc0.wr hY2 hne5 hnv5
 have hpa := hp2
 have hYa := hY2
 refine WL.nil <| ?_
 refine W.sr <| WL.m rfl rfl <| WL.p (.nck rfl) rfl <| WL.p (.fa underlying52 rfl sizeOf50 dD rfl) rfl <| WL.call hb12 rfl rfl ((prt_WriteString b _ _ [99, 108, 105, 112] _ hpa (by simp only [List.length_append, List.length_cons, List.length_nil]; omega))) (fun r w13 hw13 => ?_)
 obtain ⟨v3, hp3, hw3⟩ := hw13
 have hY3 := hYa.trans hw3
 have hkc3 := hkc0.wr hY3 hne5 hnv5
 refine WL.nil <| ?_
 refine W.sr <| WL.m rfl rfl <| WL.p (.fa underlying45 rfl sizeOf32 dD rfl) rfl <| WL.r (Rd.ld (isAgg32 _) rfl hkc3 rfl) rfl <| WL.call hb29 rfl rfl ((prt_path b v3 _ x.fClips[i].pfPath x.fClips[i].fPath _ _ hp3 ((hxw (hWy.trans hY3)).all_fClips _ (List.getElem_mem hil)).row_fPath (hap hli hp3) (by simp only [List.length_append, List.length_cons, List.length_nil]; omega))) (fun r w14 hw14 => ?_)
 obtain ⟨rfl, v4, hp4, hw4⟩ := hw14
 have hY4 := hY3.trans hw4
 refine WL.nil <| ?_
 refine W.reg <| WL.m rfl rfl <| WL.p (.nck rfl) rfl <| WL.p (.fa underlying52 rfl sizeOf50 dD rfl) rfl <| WL.call hb14 rfl rfl ((prt_WriteByte b v4 _ 10 _ hp4 (by have := pathT_len x.fClips[i].fPath; simp only [List.length_append, List.length_cons, List.length_nil]; omega))) (fun r w15 hw15 => ?_)
 obtain ⟨v5, hp5, hw5⟩ := hw15
 have hY5 := hY4.trans hw5
 refine WL.nil <| ?_
 refine W.reg <| WL.p (.iis (((i + 1 : Nat) : Int)) (.add rfl rfl (i64w oO)) oO) rfl <| WL.m rfl rfl <| WL.nil <| ?_
 first
 | exact ⟨(i + 1, v5), ⟨rfl, rfl, rfl, rfl, rfl, trivial⟩, ⟨by simp only []; rw [hnt, clipT, if_pos aS]; simp only [← List.append_assoc]; exact hp5, hWy.trans hY5, by ((try simp only) <;> omega)⟩, by ((try simp only) <;> omega)⟩
 | exact ⟨(i + 1, v5), ⟨rfl, rfl, rfl, rfl, rfl, trivial⟩, ⟨by simp only []; rw [hnt, clipT, if_neg (by simp_all), List.nil_append]; simp only [← List.append_assoc]; exact hp5, hWy.trans hY5, by ((try simp only) <;> omega)⟩, by ((try simp only) <;> omega)⟩
 have hpa := hpy
 have hYa := hY0
 refine W.skip <| W.sr <| WL.m rfl rfl <| WL.p (.nck rfl) rfl <| WL.p (.fa underlying52 rfl sizeOf50 dD rfl) rfl <| WL.call hb12 rfl rfl ((prt_WriteString b _ _ [99, 108, 105, 112] _ hpa (by simp only [List.length_append, List.length_cons, List.length_nil]; omega))) (fun r w16 hw16 => ?_)
 obtain ⟨v3, hp3, hw3⟩ := hw16
 have hY3 := hYa.trans hw3
 have hkc3 := hkc0.wr hY3 hne5 hnv5
 refine WL.nil <| ?_
 refine W.sr <| WL.m rfl rfl <| WL.p (.fa underlying45 rfl sizeOf32 dD rfl) rfl <| WL.r (Rd.ld (isAgg32 _) rfl hkc3 rfl) rfl <| WL.call hb29 rfl rfl ((prt_path b v3 _ x.fClips[i].pfPath x.fClips[i].fPath _ _ hp3 ((hxw (hWy.trans hY3)).all_fClips _ (List.getElem_mem hil)).row_fPath (hap hli hp3) (by simp only [List.length_append, List.length_cons, List.length_nil]; omega))) (fun r w17 hw17 => ?_)
 obtain ⟨rfl, v4, hp4, hw4⟩ := hw17
 have hY4 := hY3.trans hw4
 refine WL.nil <| ?_
 refine W.reg <| WL.m rfl rfl <| WL.p (.nck rfl) rfl <| WL.p (.fa underlying52 rfl sizeOf50 dD rfl) rfl <| WL.call hb14 rfl rfl ((prt_WriteByte b v4 _ 10 _ hp4 (by have := pathT_len x.fClips[i].fPath; simp only [List.length_append, List.length_cons, List.length_nil]; omega))) (fun r w18 hw18 => ?_)
 obtain ⟨v5, hp5, hw5⟩ := hw18
 have hY5 := hY4.trans hw5
 refine WL.nil <| ?_
 refine W.reg <| WL.p (.iis (((i + 1 : Nat) : Int)) (.add rfl rfl (i64w oO)) oO) rfl <| WL.m rfl rfl <| WL.nil <| ?_
 first
 | exact ⟨(i + 1, v5), ⟨rfl, rfl, rfl, rfl, rfl, trivial⟩, ⟨by simp only []; rw [hnt, clipT, if_pos aS]; simp only [← List.append_assoc]; exact hp5, hWy.trans hY5, by ((try simp only) <;> omega)⟩, by ((try simp only) <;> omega)⟩
 | exact ⟨(i + 1, v5), ⟨rfl, rfl, rfl, rfl, rfl, trivial⟩, ⟨by simp only []; rw [hnt, clipT, if_neg (by simp_all), List.nil_append]; simp only [← List.append_assoc]; exact hp5, hWy.trans hY5, by ((try simp only) <;> omega)⟩, by ((try simp only) <;> omega)⟩
 have h2' := dF h2
 have hie : x.fClips.take i = x.fClips := List.take_of_length_le oO
 rw [hie] at hP
 have hb1l : b1 < w1.heap.size := hkb.lt
 refine W.exit <| W.seq <| W.sr <| WL.p (.fa underlying43 rfl sizeOf3 dD rfl) rfl <| WL.r (Rd.ld (isAgg3 _) rfl hkb rfl) rfl <| WL.nil <| ?_
 refine W.block <| W.sr <| WL.p (.eql rfl rfl) rfl <| WL.z rfl rfl ?_
 refine W.cond rfl (fun h19 => ?_) (fun h19 => ?_)
 have h19' := dT h19
 obtain ⟨hf1, hf2⟩ := itemB_font hk aS
 have hsf := smT_len (n := x.fFont) oO oO
 refine W.sr <| WL.m rfl rfl <| WL.p (.nck rfl) rfl <| WL.p (.fa underlying52 rfl sizeOf50 dD rfl) rfl <| WL.call hb12 rfl rfl ((prt_WriteString b v1 _ [116, 101, 120, 116] _ hP (by simp only [List.length_append, List.length_cons, List.length_nil]; omega))) (fun r w20 hw20 => ?_)
 obtain ⟨v2, hp2, hw2⟩ := hw20
 have hX2 := hW.trans hw2
 have hk2 := hk0.wr hX2 hne hnv
 refine WL.nil <| ?_
 refine W.sr <| WL.m rfl rfl <| WL.p (.fa underlying43 rfl sizeOf35 dD rfl) rfl <| WL.r (Rd.ldF (L := colorL) underlying35 rfl isz35 hk2 (x.fColor) (rfl) rfl) rfl <| WL.call hb30 rfl rfl ((prt_color b v2 _ x.fColor _ hp2 (by simp only [List.length_append, List.length_cons, List.length_nil]; omega) hsp)) (fun r w21 hw21 => ?_)
 obtain ⟨rfl, v3, hp3, hw3⟩ := hw21
 have hX3 := hX2.trans hw3
 have hk3 := hk0.wr hX3 hne hnv
 refine WL.nil <| ?_
 refine W.sr <| WL.m rfl rfl <| WL.p (.fa underlying43 rfl sizeOf3 dD rfl) rfl <| WL.r (Rd.ld (isAgg3 _) rfl hk3 rfl) rfl <| WL.call hb31 rfl rfl ((prt_small b v3 _ x.fFont _ hp3 (by simp only [List.length_append, List.length_cons, List.length_nil]; omega) hf1 oO)) (fun r w22 hw22 => ?_)
 obtain ⟨rfl, v4, hp4, hw4⟩ := hw22
 have hX4 := hX3.trans hw4
 have hk4 := hk0.wr hX4 hne hnv
 refine WL.nil <| ?_
 refine W.sr <| WL.m rfl rfl <| WL.p (.fa underlying43 rfl sizeOf40 dD rfl) rfl <| WL.p (.sla underlying40 sizeOf3 rfl) rfl <| WL.call hb13 rfl rfl ((prt_numbers b v4 _ (some ⟨b1, 15, none⟩) (mats x) 6 _ hp4 (mats_row hk4) (fun _ => ⟨hne, fun e => by rcases hX4.2 _ e with e2 | e2; exact hnv e2; exact absurd e2 (by show ¬ _ ≤ b1; have := hk0.lt; omega)⟩) (by simp only [List.length_append, List.length_cons, List.length_nil]; omega))) (fun r w23 hw23 => ?_)
 obtain ⟨rfl, v5, hp5, hw5⟩ := hw23
 have hX5 := hX4.trans hw5
 have hk5 := hk0.wr hX5 hne hnv
 refine WL.nil <| ?_
 refine W.reg <| WL.m rfl rfl <| WL.p (.fa underlying43 rfl sizeOf41 dD rfl) rfl <| WL.r (Rd.ld (isAgg41 _) rfl hk5 rfl) rfl <| WL.call hb32 rfl rfl ((prt_bytes b v5 _ x.pfBytes x.fBytes x.cfBytes _ hp5 (hxw hX5).row_fBytes (hap (fun h0 => hx.row_fBytes.lt h0) hp5) (by simp only [List.length_append, List.length_cons, List.length_nil]; omega))) (fun r w24 hw24 => ?_)
 obtain ⟨rfl, v6, hp6, hw6⟩ := hw24
 have hX6 := hX5.trans hw6
 refine WL.nil <| ?_
 refine W.reg <| WL.m rfl rfl <| WL.p (.nck rfl) rfl <| WL.p (.fa underlying52 rfl sizeOf50 dD rfl) rfl <| WL.call hb14 rfl rfl ((prt_WriteByte b v6 _ 10 _ hp6 (by (try unfold bytesT); simp only [List.length_append, List.length_cons, List.length_nil]; omega))) (fun r w25 hw25 => ?_)
 obtain ⟨v7, hp7, hw7⟩ := hw25
 have hX7 := (Wr.of_below hBx).trans (hX6.trans hw7)
 refine WL.nil <| ?_
 refine W.norm (W.ret0 rfl ?_)
 first
 | exact ⟨_, rfl, rfl, v7, by rw [itemT, if_pos (show x.fKind = 4 by assumption), headT, if_neg oO, if_neg oO, if_neg oO]; simpa only [List.append_assoc, bytesT] using hp7, hX7⟩
 | exact ⟨_, rfl, rfl, v7, by rw [itemT, if_neg (show ¬ x.fKind = 4 by assumption), if_pos (show x.fKind = 3 by assumption), headT, if_neg oO, if_neg oO, if_pos aS]; simpa only [List.append_assoc] using hp7, hX7⟩
 | exact ⟨_, rfl, rfl, v7, by rw [itemT, if_neg (show ¬ x.fKind = 4 by assumption), if_neg (show ¬ x.fKind = 3 by assumption), headT, if_neg oO, if_pos (show x.fKind = 2 by assumption)]; simpa only [List.append_assoc, List.nil_append, List.cons_append] using hp7, hX7⟩
 | exact ⟨_, rfl, rfl, v7, by rw [itemT, if_neg (show ¬ x.fKind = 4 by assumption), if_neg (show ¬ x.fKind = 3 by assumption), headT, if_pos oO]; simpa only [List.append_assoc, List.nil_append, List.cons_append] using hp7, hX7⟩
 have h19' := dF h19
 refine W.sr <| WL.p (.eql rfl rfl) rfl <| WL.z rfl rfl ?_
 refine W.cond rfl (fun h26 => ?_) (fun h26 => ?_)
 have h26' := dT h26
 obtain ⟨hq1, hq2, hq3, hq4, hq5⟩ := itemB_pen hk aS
 have hpn := penT_len hq1 hq2 hq3 hq4 hq5
 refine W.sr <| WL.m rfl rfl <| WL.p (.nck rfl) rfl <| WL.p (.fa underlying52 rfl sizeOf50 dD rfl) rfl <| WL.call hb12 rfl rfl ((prt_WriteString b v1 _ [115, 116, 114, 111, 107, 101] _ hP (by simp only [List.length_append, List.length_cons, List.length_nil]; omega))) (fun r w27 hw27 => ?_)
 obtain ⟨v2, hp2, hw2⟩ := hw27
 have hX2 := hW.trans hw2
 have hk2 := hk0.wr hX2 hne hnv
 refine WL.nil <| ?_
 refine W.sr <| WL.m rfl rfl <| WL.p (.fa underlying43 rfl sizeOf35 dD rfl) rfl <| WL.r (Rd.ldF (L := colorL) underlying35 rfl isz35 hk2 (x.fColor) (rfl) rfl) rfl <| WL.call hb30 rfl rfl ((prt_color b v2 _ x.fColor _ hp2 (by simp only [List.length_append, List.length_cons, List.length_nil]; omega) hsp)) (fun r w28 hw28 => ?_)
 obtain ⟨rfl, v3, hp3, hw3⟩ := hw28
 have hX3 := hX2.trans hw3
 have hk3 := hk0.wr hX3 hne hnv
 refine WL.nil <| ?_
 refine W.sr <| WL.m rfl rfl <| WL.p (.fa underlying43 rfl sizeOf39 dD rfl) rfl <| WL.r (Rd.ldF (L := penL) underlying39 rfl isz39 hk3 (x.fPen) (rfl) rfl) rfl <| WL.call hb33 rfl rfl ((prt_pen b v3 _ x.fPen _ hp3 (hxw hX3).ok_fPen.row_fDash (hap (fun h0 => hx.ok_fPen.row_fDash.lt h0) hp3) hq1 oO hq3 oO oO hx.ok_fPen.sl_fDash.nil (by simp only [List.length_append, List.length_cons, List.length_nil]; omega))) (fun r w29 hw29 => ?_)
 obtain ⟨rfl, v4, hp4, hw4⟩ := hw29
 have hX4 := hX3.trans hw4
 have hk4 := hk0.wr hX4 hne hnv
 refine WL.nil <| ?_
 refine W.reg <| WL.m rfl rfl <| WL.p (.fa underlying43 rfl sizeOf32 dD rfl) rfl <| WL.r (Rd.ld (isAgg32 _) rfl hk4 rfl) rfl <| WL.call hb29 rfl rfl ((prt_path b v4 _ x.pfPath x.fPath _ _ hp4 (hxw hX4).row_fPath (hap (fun h0 => hx.row_fPath.lt h0) hp4) (by simp only [List.length_append, List.length_cons, List.length_nil]; omega))) (fun r w30 hw30 => ?_)
 obtain ⟨rfl, v6, hp6, hw6⟩ := hw30
 have hX6 := hX4.trans hw6
 refine WL.nil <| ?_
 refine W.reg <| WL.m rfl rfl <| WL.p (.nck rfl) rfl <| WL.p (.fa underlying52 rfl sizeOf50 dD rfl) rfl <| WL.call hb14 rfl rfl ((prt_WriteByte b v6 _ 10 _ hp6 (by (try unfold bytesT); simp only [List.length_append, List.length_cons, List.length_nil]; omega))) (fun r w31 hw31 => ?_)
 obtain ⟨v7, hp7, hw7⟩ := hw31
 have hX7 := (Wr.of_below hBx).trans (hX6.trans hw7)
 refine WL.nil <| ?_
 refine W.norm (W.ret0 rfl ?_)
 first
 | exact ⟨_, rfl, rfl, v7, by rw [itemT, if_pos (show x.fKind = 4 by assumption), headT, if_neg oO, if_neg oO, if_neg oO]; simpa only [List.append_assoc, bytesT] using hp7, hX7⟩
 | exact ⟨_, rfl, rfl, v7, by rw [itemT, if_neg (show ¬ x.fKind = 4 by assumption), if_pos (show x.fKind = 3 by assumption), headT, if_neg oO, if_neg oO, if_pos aS]; simpa only [List.append_assoc] using hp7, hX7⟩
 | exact ⟨_, rfl, rfl, v7, by rw [itemT, if_neg (show ¬ x.fKind = 4 by assumption), if_neg (show ¬ x.fKind = 3 by assumption), headT, if_neg oO, if_pos (show x.fKind = 2 by assumption)]; simpa only [List.append_assoc, List.nil_append, List.cons_append] using hp7, hX7⟩
 | exact ⟨_, rfl, rfl, v7, by rw [itemT, if_neg (show ¬ x.fKind = 4 by assumption), if_neg (show ¬ x.fKind = 3 by assumption), headT, if_pos oO]; simpa only [List.append_assoc, List.nil_append, List.cons_append] using hp7, hX7⟩
 have h26' := dF h26
 refine W.seq <| W.sr <| WL.p (.fa underlying43 rfl sizeOf3 dD rfl) rfl <| WL.r (Rd.ld (isAgg3 _) rfl hkb rfl) rfl <| WL.p (.eql rfl rfl) rfl <| WL.nil <| ?_
 refine W.cond rfl (fun h32 => ?_) (fun h32 => ?_)
 have h32' := dT h32
 refine W.reg <| WL.m rfl rfl <| WL.p (.nck rfl) rfl <| WL.p (.fa underlying52 rfl sizeOf50 dD rfl) rfl <| WL.call hb12 rfl rfl ((prt_WriteString b v1 _ [101, 111] _ hP (by simp only [List.length_append, List.length_cons, List.length_nil]; omega))) (fun r w33 hw33 => ?_)
 obtain ⟨v2, hp2, hw2⟩ := hw33
 have hX2 := hW.trans hw2
 have hk2 := hk0.wr hX2 hne hnv
 have hpa := hp2
 have hXa := hX2
 refine WL.nil <| ?_
 refine W.sr <| WL.m rfl rfl <| WL.p (.nck rfl) rfl <| WL.p (.fa underlying52 rfl sizeOf50 dD rfl) rfl <| WL.call hb12 rfl rfl ((prt_WriteString b _ _ [102, 105, 108, 108] _ hpa (by simp only [List.length_append, List.length_cons, List.length_nil]; omega))) (fun r w34 hw34 => ?_)
 obtain ⟨v3, hp3, hw3⟩ := hw34
 have hX3 := hXa.trans hw3
 have hk3 := hk0.wr hX3 hne hnv
 refine WL.nil <| ?_
 refine W.sr <| WL.m rfl rfl <| WL.p (.fa underlying43 rfl sizeOf35 dD rfl) rfl <| WL.r (Rd.ldF (L := colorL) underlying35 rfl isz35 hk3 (x.fColor) (rfl) rfl) rfl <| WL.call hb30 rfl rfl ((prt_color b v3 _ x.fColor _ hp3 (by simp only [List.length_append, List.length_cons, List.length_nil]; omega) hsp)) (fun r w35 hw35 => ?_)
 obtain ⟨rfl, v4, hp4, hw4⟩ := hw35
 have hX4 := hX3.trans hw4
 have hk4 := hk0.wr hX4 hne hnv
 refine WL.nil <| ?_
 refine W.reg <| WL.m rfl rfl <| WL.p (.fa underlying43 rfl sizeOf32 dD rfl) rfl <| WL.r (Rd.ld (isAgg32 _) rfl hk4 rfl) rfl <| WL.call hb29 rfl rfl ((prt_path b v4 _ x.pfPath x.fPath _ _ hp4 (hxw hX4).row_fPath (hap (fun h0 => hx.row_fPath.lt h0) hp4) (by simp only [List.length_append, List.length_cons, List.length_nil]; omega))) (fun r w36 hw36 => ?_)
 obtain ⟨rfl, v6, hp6, hw6⟩ := hw36
 have hX6 := hX4.trans hw6
 refine WL.nil <| ?_
 refine W.reg <| WL.m rfl rfl <| WL.p (.nck rfl) rfl <| WL.p (.fa underlying52 rfl sizeOf50 dD rfl) rfl <| WL.call hb14 rfl rfl ((prt_WriteByte b v6 _ 10 _ hp6 (by (try unfold bytesT); simp only [List.length_append, List.length_cons, List.length_nil]; omega))) (fun r w37 hw37 => ?_)
 obtain ⟨v7, hp7, hw7⟩ := hw37
 have hX7 := (Wr.of_below hBx).trans (hX6.trans hw7)
 refine WL.nil <| ?_
 refine W.norm (W.ret0 rfl ?_)
 first
 | exact ⟨_, rfl, rfl, v7, by rw [itemT, if_pos (show x.fKind = 4 by assumption), headT, if_neg oO, if_neg oO, if_neg oO]; simpa only [List.append_assoc, bytesT] using hp7, hX7⟩
 | exact ⟨_, rfl, rfl, v7, by rw [itemT, if_neg (show ¬ x.fKind = 4 by assumption), if_pos (show x.fKind = 3 by assumption), headT, if_neg oO, if_neg oO, if_pos aS]; simpa only [List.append_assoc] using hp7, hX7⟩
 | exact ⟨_, rfl, rfl, v7, by rw [itemT, if_neg (show ¬ x.fKind = 4 by assumption), if_neg (show ¬ x.fKind = 3 by assumption), headT, if_neg oO, if_pos (show x.fKind = 2 by assumption)]; simpa only [List.append_assoc, List.nil_append, List.cons_append] using hp7, hX7⟩
 | exact ⟨_, rfl, rfl, v7, by rw [itemT, if_neg (show ¬ x.fKind = 4 by assumption), if_neg (show ¬ x.fKind = 3 by assumption), headT, if_pos oO]; simpa only [List.append_assoc, List.nil_append, List.cons_append] using hp7, hX7⟩
 have h32' := dF h32
 have hpa := hP
 have hXa := hW
 refine W.skip <| W.sr <| WL.m rfl rfl <| WL.p (.nck rfl) rfl <| WL.p (.fa underlying52 rfl sizeOf50 dD rfl) rfl <| WL.call hb12 rfl rfl ((prt_WriteString b _ _ [102, 105, 108, 108] _ hpa (by simp only [List.length_append, List.length_cons, List.length_nil]; omega))) (fun r w38 hw38 => ?_)
 obtain ⟨v3, hp3, hw3⟩ := hw38
 have hX3 := hXa.trans hw3
 have hk3 := hk0.wr hX3 hne hnv
 refine WL.nil <| ?_
 refine W.sr <| WL.m rfl rfl <| WL.p (.fa underlying43 rfl sizeOf35 dD rfl) rfl <| WL.r (Rd.ldF (L := colorL) underlying35 rfl isz35 hk3 (x.fColor) (rfl) rfl) rfl <| WL.call hb30 rfl rfl ((prt_color b v3 _ x.fColor _ hp3 (by simp only [List.length_append, List.length_cons, List.length_nil]; omega) hsp)) (fun r w39 hw39 => ?_)
 obtain ⟨rfl, v4, hp4, hw4⟩ := hw39
 have hX4 := hX3.trans hw4
 have hk4 := hk0.wr hX4 hne hnv
 refine WL.nil <| ?_
 refine W.reg <| WL.m rfl rfl <| WL.p (.fa underlying43 rfl sizeOf32 dD rfl) rfl <| WL.r (Rd.ld (isAgg32 _) rfl hk4 rfl) rfl <| WL.call hb29 rfl rfl ((prt_path b v4 _ x.pfPath x.fPath _ _ hp4 (hxw hX4).row_fPath (hap (fun h0 => hx.row_fPath.lt h0) hp4) (by simp only [List.length_append, List.length_cons, List.length_nil]; omega))) (fun r w40 hw40 => ?_)
 obtain ⟨rfl, v6, hp6, hw6⟩ := hw40
 have hX6 := hX4.trans hw6
 refine WL.nil <| ?_
 refine W.reg <| WL.m rfl rfl <| WL.p (.nck rfl) rfl <| WL.p (.fa underlying52 rfl sizeOf50 dD rfl) rfl <| WL.call hb14 rfl rfl ((prt_WriteByte b v6 _ 10 _ hp6 (by (try unfold bytesT); simp only [List.length_append, List.length_cons, List.length_nil]; omega))) (fun r w41 hw41 => ?_)
 obtain ⟨v7, hp7, hw7⟩ := hw41
 have hX7 := (Wr.of_below hBx).trans (hX6.trans hw7)
 refine WL.nil <| ?_
 refine W.norm (W.ret0 rfl ?_)
 first
 | exact ⟨_, rfl, rfl, v7, by rw [itemT, if_pos (show x.fKind = 4 by assumption), headT, if_neg oO, if_neg oO, if_neg oO]; simpa only [List.append_assoc, bytesT] using hp7, hX7⟩
 | exact ⟨_, rfl, rfl, v7, by rw [itemT, if_neg (show ¬ x.fKind = 4 by assumption), if_pos (show x.fKind = 3 by assumption), headT, if_neg oO, if_neg oO, if_pos aS]; simpa only [List.append_assoc] using hp7, hX7⟩
 | exact ⟨_, rfl, rfl, v7, by rw [itemT, if_neg (show ¬ x.fKind = 4 by assumption), if_neg (show ¬ x.fKind = 3 by assumption), headT, if_neg oO, if_pos (show x.fKind = 2 by assumption)]; simpa only [List.append_assoc, List.nil_append, List.cons_append] using hp7, hX7⟩
 | exact ⟨_, rfl, rfl, v7, by rw [itemT, if_neg (show ¬ x.fKind = 4 by assumption), if_neg (show ¬ x.fKind = 3 by assumption), headT, if_pos oO]; simpa only [List.append_assoc, List.nil_append, List.cons_append] using hp7, hX7⟩
end
section
theorem pre_len {α : Type} {g : α → List UInt8} {m : α → Nat} : ∀ (l : List α), (∀ x ∈ l, (g x).length ≤ m x) → ∀ (i : Nat) (hi : i < l.length), ((l.take i).flatMap g).length + m l[i] ≤ (l.map m).sum
 | [], _, i, hi => absurd hi (by simp)
 | x :: l, h, 0, hi => by simp only [List.take_zero, List.flatMap_nil, List.length_nil, List.getElem_cons_zero, List.map_cons, List.sum_cons]; omega
 | x :: l, h, i + 1, hi => by
  have ih := pre_len l (fun y hy => h y (List.mem_cons_of_mem _ hy)) i (by simpa using hi)
  have hx := h x (List.mem_cons_self ..)
  simp only [List.take_succ_cons, List.flatMap_cons, List.length_append, List.getElem_cons_succ, List.map_cons, List.sum_cons]; omega
theorem sum_lin {α : Type} (c : Nat) (f : α → Nat) : ∀ l : List α, (l.map fun x => 368 * (c + f x)).sum = 368 * (c * l.length + sumOf f l)
 | [] => by simp [sumOf]
 | x :: l => by
  have ih := sum_lin c f l
  have e : sumOf f (x :: l) = f x + sumOf f l := by simp [sumOf]
  rw [e]
  simp only [List.map_cons, List.sum_cons, ih, List.length_cons, Nat.mul_succ]
  generalize c * l.length = k
  omega
theorem items_pre {w : World} {l : List ItemV} (h : ∀ y ∈ l, ItemOk w y ∧ itemB y = true ∧ ItemS y) (k : Nat) (hk : k < l.length) :
  ((l.take k).flatMap itemT).length + 368 * (5 + itemW l[k] + clipW l[k]) ≤ 368 * (5 * l.length + sumOf (fun y => itemW y + clipW y) l) := by
 have h1 := pre_len (g := itemT) (m := fun y => 368 * (5 + (itemW y + clipW y))) l (fun y hy => by have := itemT_len (h y hy).1 (h y hy).2.1 (h y hy).2.2; omega) k hk
 rw [sum_lin] at h1; omega
theorem items_len {w : World} {l : List ItemV} (h : ∀ y ∈ l, ItemOk w y ∧ itemB y = true ∧ ItemS y) :
  (l.flatMap itemT).length ≤ 368 * (5 * l.length + sumOf (fun y => itemW y + clipW y) l) := by
 induction l with
 | nil => simp
 | cons y m ih =>
  have h1 := ih fun z hz => h z (List.mem_cons_of_mem _ hz)
  have h2 := h y (List.mem_cons_self ..)
  have h3 := itemT_len h2.1 h2.2.1 h2.2.2
  have e : sumOf (fun y => itemW y + clipW y) (y :: m) = (itemW y + clipW y) + sumOf (fun y => itemW y + clipW y) m := by simp [sumOf]
  rw [e]
  simp only [List.flatMap_cons, List.length_append, List.length_cons]; omega
theorem pageH_len (x : PageV) : (pageH x).length ≤ 127 := by
 have n1 := numT_len x.fWidth; have n2 := numT_len x.fHeight
 unfold pageH; simp only [List.length_append, List.length_cons, List.length_nil]; omega
theorem page_items {w : World} {x : PageV} (ho : PageOk w x) (hb : pageB x = true) (hs : ∀ y ∈ x.fItems, ItemS y) : ∀ y ∈ x.fItems, ItemOk w y ∧ itemB y = true ∧ ItemS y := fun y hy => by
 unfold pageB at hb
 simp only [Bool.and_eq_true, List.all_eq_true] at hb
 exact ⟨ho.all_fItems y hy, hb.2 y hy, hs y hy⟩
theorem pages_pre {w : World} {l : List PageV} (ho : ∀ x ∈ l, PageOk w x) (hb : ∀ x ∈ l, pageB x = true) (hs : ∀ x ∈ l, ∀ y ∈ x.fItems, ItemS y) (i : Nat) (hi : i < l.length) :
  (pagesT (l.take i)).length + 368 * (1 + pageW l[i]) ≤ 368 * pagesW l := by
 have h1 := pre_len (g := pageT) (m := fun x => 368 * (1 + pageW x)) l (fun x hx => by
  have h2 := items_len (page_items (ho x hx) (hb x hx) (hs x hx))
  have h3 := pageH_len x
  unfold pageT pageW; rw [List.length_append]; omega) i hi
 rw [sum_lin] at h1
 unfold pagesT pagesW; omega
theorem all_bnot {α : Type} (q : α → Bool) (l : List α) : l.any (fun x => !q x) = !l.all q := by rw [List.all_eq_not_any_not, Bool.not_not]
set_option maxHeartbeats 3200000 in
theorem script_Print (p : Option Addr) (l : List PageV) (c : Nat) (w : World) (hF : Fonts w) (hr : RowM pageL w p l) (hs : PagesS l) (ho : ∀ x ∈ l, PageOk w x) (hW : pagesW l < 2000) :
  Calls Tryd.prog 6 #[.slice p l.length c] w fun e w' => e = .returned (.tuple #[.string (bs (if l.all pageB then pagesT l else [])), .int .i64 (if l.all pageB then 0 else 22)]) ∧ Below w.heap.size w w' := by
 have hrl : 0 < l.length → (pA p).block < w.heap.size := fun h0 => hr.lt h0
 have hl := hs.len
 refine W.enter func6 rfl ntmps6 (Nat.le_of_ble_eq_true rfl) ?_
 have hB0 := Below.refl (w.heap.size) w
 refine W.sr <| WL.a rfl rfl <| WL.z rfl rfl ?_
 refine W.seq <| W.sr <| WL.m rfl rfl <| WL.c1 hb9 rfl rfl ((lib_ContainsPage hb10 _ _ _ (fun x => !pageB x) _ hr oO (fun j h w1 hb1 => script_Print1 _ _ (hF.below hb1) ((ho _ (List.getElem_mem h)).below hb1)))) (fun w1 hw1 => ?_)
 have hB3 := btr hB0 hw1
 refine WL.nil <| ?_
 refine W.cond rfl (fun h4 => ?_) (fun h4 => ?_)
 have hno : l.all pageB = false := by have := all_bnot pageB l; simp_all
 refine W.sr <| WL.a rfl rfl <| WL.z rfl rfl ?_
 refine W.ret (W.ret2 rfl rfl rfl ?_)
 first
 | exact ⟨by rw [hno]; rfl, hB3⟩
 | exact ⟨by rw [hall]; rfl, hB3⟩
 have hall : l.all pageB = true := by have := all_bnot pageB l; simp_all
 have hbs : ∀ x ∈ l, pageB x = true := List.all_eq_true.1 hall
 refine W.skip <| W.sr <| WL.alloc zeroValue52 rfl (fun b5 wb5 eb5 hkb5 hub5 hsb5 => ?_)
 have hB8 := Upd.below hB3 (by rw [eb5]; exact hB3.size) hub5
 have hgeb5 : w.heap.size ≤ b5 := by rw [eb5]; exact hB3.size
 refine WL.nil <| ?_
 refine W.seq <| W.seq ?_
 have hk0 := hkb5
 have hP0 : Prt wb5 b5 (.slice none 0 0) [] := ⟨⟨none, .inl rfl, hk0⟩, Own.nil _ _ _⟩
 have hX0 : Wr b5 (.slice none 0 0) (.slice none 0 0) wb5 wb5 := Wr.refl _ _ _
 have hbx0 := hB8
 have hb0 : w.heap.size ≤ b5 := hgeb5
 have hsz : w.heap.size ≤ wb5.heap.size := hB8.size
 have hbe : ∀ {v' : Value} {w' : World}, Wr b5 (.slice none 0 0) v' wb5 w' → Below w.heap.size w w' := fun hW => hbx0.trans (hW.below hsz hb0 fun g hg => by cases hg)
 refine W.reg <| WL.m rfl rfl <| WL.p (.lenS underlying22 rfl) rfl <| WL.m rfl rfl <| WL.nil <| ?_
 refine W.block ?_
 refine W.loop (α := Nat × Value) (fun t => [(4, .pointer (some ⟨b5, 0, none⟩)), (11, .slice p l.length c), (12, .int .i64 (l.length : Int)), (13, .int .i64 (t.1 : Int))]) (fun t w' => Prt w' b5 t.2 (pagesT (l.take t.1)) ∧ Wr b5 (.slice none 0 0) t.2 wb5 w' ∧ t.1 ≤ l.length ∧ (t.1 = 0 → t.2 = .slice none 0 0)) (fun t => l.length - t.1) ((0, .slice none 0 0)) ⟨rfl, rfl, rfl, rfl, trivial⟩ (⟨by simpa [pagesT] using hP0, hX0, Nat.zero_le _, fun _ => rfl⟩) (fun t w1 hR => ?_)
 obtain ⟨i, v1⟩ := t
 obtain ⟨hP, hX, hi, hv0⟩ := hR
 simp only at hP hX hi hv0 ⊢
 have hB1 := hbe hX
 have hrb := hr.below hB1 hrl
 refine W.sr <| WL.p (.lss rfl rfl) rfl <| WL.nil <| ?_
 refine W.seq <| W.cond rfl (fun h9 => ?_) (fun h9 => ?_)
 have h9' := dT h9
 have hil : i < l.length := by omega
 have hpo := ho _ (List.getElem_mem hil)
 have hps := hs.items _ (List.getElem_mem hil)
 have hpb := hbs _ (List.getElem_mem hil)
 have hpre := pages_pre ho hbs (fun x hx => (hs.items x hx).2) i hil
 have hph := pageH_len l[i]
 have hft : pagesT (l.take (i + 1)) = pagesT (l.take i) ++ pageT l[i] := flatMap_take hil
 have hio := page_items hpo hpb hps.2
 have hiln := items_len hio
 unfold pageW at hpre
 have n1 := numT_len l[i].fWidth; have n2 := numT_len l[i].fHeight
 have hn2 := numsT_len [l[i].fWidth, l[i].fHeight]
 refine W.skip <| W.seq <| W.block <| W.sr <| WL.p (.ixm underlying22 sizeOf31 rfl rfl (hrb.isp oO) (i) (rfl) oO) rfl <| WL.r (Rd.ldS underlying31 rfl isz31 hrb (i) oO rfl) rfl <| WL.alloc zeroValue31 rfl (fun b10 wb10 eb10 hkb10 hub10 hsb10 => ?_)
 have hgeb10 : w.heap.size ≤ b10 := by rw [eb10]; exact hB1.size
 refine WL.stL rfl rfl hkb10 isz31 rfl rfl (fun w14 hkw14 huw14 hsw14 => ?_)
 refine WL.nil <| ?_
 refine W.seq ?_
 have hBy : Below w1.heap.size w1 w14 := Upd.below (Upd.below (Below.refl _ _) oO hub10) oO huw14
 have hkc0 := hkw14
 have hpy := hP.below hBy
 have hWy := hX.trans (Wr.of_below hBy)
 have hne6 : b10 ≠ b5 := by have := hP.lt; omega
 have hnv6 : v1.ownBlock ≠ some b10 := fun e => by have := (hP.own.lt _ e).2; omega
 have hY0 : Wr b5 v1 v1 w14 w14 := Wr.refl _ _ _
 refine W.reg <| WL.p (.fa underlying52 rfl sizeOf50 dD rfl) rfl <| WL.call hb12 rfl rfl ((prt_WriteString _ v1 _ [112, 97, 103, 101] _ hpy (by simp only [List.length_append, List.length_cons, List.length_nil]; omega))) (fun r w17 hw17 => ?_)
 obtain ⟨v2, hp2, hw2⟩ := hw17
 have hY2 := hY0.trans hw2
 have hkc2 := hkc0.wr hY2 hne6 hnv6
 have hB2 := Below.refl w17.heap.size w17
 refine WL.nil <| ?_
 refine W.sr <| WL.p (.fa underlying31 rfl sizeOf3 dD rfl) rfl <| WL.r (Rd.ld (isAgg3 _) rfl hkc2 rfl) rfl <| WL.p (.fa underlying31 rfl sizeOf3 dD rfl) rfl <| WL.r (Rd.ld (isAgg3 _) rfl hkc2 rfl) rfl <| WL.bsl (ps := _) underlying37 sizeOf3 zeroValue3 rfl rfl rfl rfl rfl pR rfl (fun b18 wb18 eb18 hkb18 hub18 hsb18 => ?_)
 have hl20 : b10 < b18 := by rw [eb18]; exact hkc2.lt
 have hB21 := Upd.below hB2 (by rw [eb18]; exact hB2.size) hub18
 have hgeb18 : w17.heap.size ≤ b18 := by rw [eb18]; exact hB2.size
 have hz23 := RowAt.lit (V := intV) (l := [l[i].fWidth, l[i].fHeight]) hkb18 (rfl)
 refine WL.call hb13 rfl rfl ((prt_numbers _ v2 _ _ [l[i].fWidth, l[i].fHeight] 2 _ (hp2.below hB21) hz23 (fun _ => ⟨by show b18 ≠ _; have := hp2.lt; omega, fun e => by have := (hp2.own.lt _ e).2; have h3 : (pA (some (⟨b18, 0, none⟩ : Addr))).block = b18 := rfl; rw [h3] at this; omega⟩) (by simp only [List.length_append, List.length_cons, List.length_nil]; omega))) (fun r w22 hw22 => ?_)
 obtain ⟨rfl, v3, hp3, hw3⟩ := hw22
 have hY3 := (hY2.trans (Wr.of_below hB21)).trans hw3
 have hkc3 := hkc0.wr hY3 hne6 hnv6
 have hB3 := Below.refl w22.heap.size w22
 refine WL.nil <| ?_
 refine W.sr <| WL.p (.fa underlying52 rfl sizeOf50 dD rfl) rfl <| WL.call hb14 rfl rfl ((prt_WriteByte _ v3 _ 10 _ hp3 (by simp only [List.length_append, List.length_cons, List.length_nil] at *; omega))) (fun r w23 hw23 => ?_)
 obtain ⟨v4, hp4, hw4⟩ := hw23
 have hY4 := hY3.trans hw4
 have hkc4 := hkc0.wr hY4 hne6 hnv6
 have hX4 := hWy.trans hY4
 refine WL.nil <| ?_
 refine W.seq ?_
 have hp4' : Prt w23 b5 v4 (pagesT (l.take i) ++ pageH l[i]) := by simpa [pageH, numsT] using hp4
 refine W.reg <| WL.p (.fa underlying31 rfl sizeOf29 dD rfl) rfl <| WL.r (Rd.ld (isAgg29 _) rfl hkc4 rfl) rfl <| WL.p (.lenS underlying29 rfl) rfl <| WL.m rfl rfl <| WL.nil <| ?_
 refine W.block ?_
 refine W.loop (α := Nat × Value) (fun t => [(4, .pointer (some ⟨b5, 0, none⟩)), (11, .slice p l.length c), (12, .int .i64 (l.length : Int)), (13, .int .i64 (i : Int)), (28, .slice l[i].pfItems l[i].fItems.length l[i].cfItems), (29, .int .i64 (l[i].fItems.length : Int)), (30, .int .i64 (t.1 : Int))]) (fun t w' => Prt w' b5 t.2 (pagesT (l.take i) ++ pageH l[i] ++ (l[i].fItems.take t.1).flatMap itemT) ∧ Wr b5 (.slice none 0 0) t.2 wb5 w' ∧ t.1 ≤ l[i].fItems.length) (fun t => l[i].fItems.length - t.1) ((0, v4)) ⟨rfl, rfl, rfl, rfl, rfl, rfl, rfl, trivial⟩ (⟨by simpa using hp4', hX4, Nat.zero_le _⟩) (fun t w1 hR => ?_)
 obtain ⟨k, v5⟩ := t
 obtain ⟨hP5, hX5, hk5⟩ := hR
 simp only at hP5 hX5 hk5 ⊢
 have hB5 := hbe hX5
 have hri := (hpo.below hB5).row_fItems
 refine W.sr <| WL.p (.lss rfl rfl) rfl <| WL.nil <| ?_
 refine W.seq <| W.cond rfl (fun h24 => ?_) (fun h24 => ?_)
 have h24' := dT h24
 have hkl : k < l[i].fItems.length := by omega
 have hik : (l[i].fItems.take (k + 1)).flatMap itemT = (l[i].fItems.take k).flatMap itemT ++ itemT l[i].fItems[k] := flatMap_take hkl
 have hit := hio _ (List.getElem_mem hkl)
 have hip := items_pre hio k hkl
 have hil2 := itemT_len hit.1 hit.2.1 hit.2.2
 refine W.skip <| W.seq <| W.block <| W.sr <| WL.p (.ixm underlying29 sizeOf43 rfl rfl (hri.isp oO) (k) (rfl) oO) rfl <| WL.r (Rd.ldS underlying43 rfl isz43 hri (k) oO rfl) rfl <| WL.alloc zeroValue43 rfl (fun b25 wb25 eb25 hkb25 hub25 hsb25 => ?_)
 have hgeb25 : w.heap.size ≤ b25 := by rw [eb25]; exact hB5.size
 refine WL.stL rfl rfl hkb25 isz43 rfl rfl (fun w29 hkw29 huw29 hsw29 => ?_)
 refine WL.nil <| ?_
 refine W.seq ?_
 have hBz : Below w1.heap.size w1 w29 := Upd.below (Upd.below (Below.refl _ _) oO hub25) oO huw29
 have hpz := hP5.below hBz
 have hWz := hX5.trans (Wr.of_below hBz)
 refine W.reg <| WL.r (Rd.ldA rfl hkw29 underlying43 rfl isz43) rfl <| WL.call hb15 rfl rfl ((prt_item _ v5 _ l[i].fItems[k] w _ hpz hit.1 (hbe hWz) hb0 hit.2.1 (by simp only [List.length_append]; omega))) (fun r w32 hw32 => ?_)
 obtain ⟨rfl, v6, hp6, hw6⟩ := hw32
 have hX6 := hWz.trans hw6
 refine WL.nil <| ?_
 refine W.sr <| WL.p (.fa underlying52 rfl sizeOf50 dD rfl) rfl <| WL.c1 hb16 rfl rfl ((prt_Len _ v6 _ _ hp6)) (fun w33 hw33 => ?_)
 obtain rfl := hw33
 refine WL.p (.gtr rfl rfl) rfl <| WL.nil <| ?_
 refine W.cond rfl (fun h34 => ?_) (fun h34 => ?_)
 have h34' := dT h34
 exfalso; have h38 : (1048576 : Int) < ((pagesT (l.take i) ++ pageH l[i] ++ (l[i].fItems.take k).flatMap itemT ++ itemT l[i].fItems[k]).length : Int) := by assumption
 simp only [List.length_append] at h38; omega
 have h34' := dF h34
 refine W.skip <| W.reg <| WL.p (.iis (((k + 1 : Nat) : Int)) (.add rfl rfl (i64w oO)) oO) rfl <| WL.m rfl rfl <| WL.nil <| ?_
 exact ⟨(k + 1, v6), ⟨rfl, rfl, rfl, rfl, rfl, rfl, rfl, trivial⟩, ⟨by simp only []; rw [hik, ← List.append_assoc]; exact hp6, hX6, by ((try simp only) <;> omega)⟩, by ((try simp only) <;> omega)⟩
 have h24' := dF h24
 have hke : l[i].fItems.take k = l[i].fItems := List.take_of_length_le oO
 refine W.exit <| W.reg <| WL.p (.iis (((i + 1 : Nat) : Int)) (.add rfl rfl (i64w oO)) oO) rfl <| WL.m rfl rfl <| WL.nil <| ?_
 exact ⟨(i + 1, v5), ⟨rfl, rfl, rfl, rfl, trivial⟩, ⟨by simp only []; rw [hft, pageT, ← List.append_assoc]; rw [hke] at hP5; exact hP5, hX5, by ((try simp only) <;> omega), fun h => by ((try simp only) <;> omega)⟩, by ((try simp only) <;> omega)⟩
 have h9' := dF h9
 have hie : l.take i = l := List.take_of_length_le oO
 rw [hie] at hP
 have hpl := pagesT_len l ho hbs (fun x hx => (hs.items x hx).2)
 refine W.exit <| W.seq <| W.sr <| WL.p (.fa underlying52 rfl sizeOf50 dD rfl) rfl <| WL.c1 hb16 rfl rfl ((prt_Len _ v1 _ _ hP)) (fun w35 hw35 => ?_)
 obtain rfl := hw35
 refine WL.p (.gtr rfl rfl) rfl <| WL.nil <| ?_
 refine W.cond rfl (fun h36 => ?_) (fun h36 => ?_)
 have h36' := dT h36
 exfalso; omega
 have h36' := dF h36
 have hStr : Calls Tryd.prog 17 #[.pointer (some ⟨b5, 0, none⟩)] w1 (fun e w' => e = .returned (.string (bs (pagesT l))) ∧ Below (b5 + 1) w1 w') := by
  cases l with
  | nil =>
   obtain rfl := hv0 (by simpa using hi)
   obtain ⟨a, -, hk⟩ := hP.blk
   exact prt_String0 _ a _ hk
  | cons x m => exact prt_String _ v1 _ _ hP (by simp [pagesT, pageT, pageH])
 refine W.skip <| W.sr <| WL.p (.fa underlying52 rfl sizeOf50 dD rfl) rfl <| WL.c1 hb17 rfl rfl (hStr) (fun w37 hw37 => ?_)
 have hB7 := hB1.trans ((hw37).mono oO)
 refine WL.a rfl rfl <| WL.z rfl rfl ?_
 refine W.ret (W.ret2 rfl rfl rfl ?_)
 first
 | exact ⟨by rw [hno]; rfl, hB7⟩
 | exact ⟨by rw [hall]; rfl, hB7⟩
end
section
def pg1 : PageV := ⟨65536, 131072, none, [], 0⟩
theorem pg1_ok (w : World) : PageOk w pg1 := ⟨rfl, rfl, RowM.nil w, SlOk.z, fun y hy => by cases hy⟩
theorem pg1_T : pagesT [pg1] = [112, 97, 103, 101, 32, 49, 32, 50, 10] := by decide +kernel
theorem pg1_S : PagesS [pg1] := ⟨by decide, fun x hx => by
 obtain rfl : x = pg1 := by simpa using hx
 exact ⟨by decide, fun y hy => by cases hy⟩⟩
theorem pg1_all (w : World) : ∀ x ∈ [pg1], PageOk w x := fun x hx => by
 obtain rfl : x = pg1 := by simpa using hx
 exact pg1_ok w
theorem pg1_b : [pg1].all pageB = true := by decide +kernel
theorem Print_pg1 (p : Option Addr) (w : World) (hF : Fonts w) (hr : RowM pageL w p [pg1]) :
  Calls Tryd.prog 6 #[.slice p 1 1] w fun e w' => e = .returned (.tuple #[.string (bs [112, 97, 103, 101, 32, 49, 32, 50, 10]), .int .i64 0]) ∧ Below w.heap.size w w' :=
 (script_Print p [pg1] 1 w hF hr pg1_S (pg1_all w) dD).mono fun e w' h => by
  rw [pg1_b, pg1_T] at h; exact h
theorem law26_answers (w : World) (hF : Fonts w) : Calls Tryd.prog 4 #[] w fun e w' => e = .returned (.bool true) ∧ Below w.heap.size w w' := by
 refine W.enter func4 rfl ntmps4 (Nat.le_of_ble_eq_true rfl) ?_
 have hB0 := Below.refl (w.heap.size) w
 refine W.sr <| WL.z rfl rfl ?_
 refine W.sr <| WL.p (.buildL (ps := _) blt31 rfl rfl rfl pS) rfl ?_
 refine WL.bslM (L := pageL) (ps := _) ([pg1]) underlying22 sizeOf31 zeroValue31 rfl rfl rfl rfl rfl (by first | rfl | decide) rfl rfl (fun b1 wb1 eb1 hob1 hub1 hsb1 => ?_)
 have hB2 := Upd.below hB0 (by rw [eb1]; exact hB0.size) hub1
 have hgeb1 : w.heap.size ≤ b1 := by rw [eb1]; exact hB0.size
 have hleb1 : b1 ≤ wb1.heap.size := by omega
 refine WL.c1 hb6 rfl rfl ((Print_pg1 _ _ (hF.below hB2) (hob1).rowp)) (fun w3 hw3 => ?_)
 have hle5 := Nat.le_trans hleb1 hw3.size
 have hB7 := btr hB2 hw3
 refine WL.m rfl rfl <| WL.p (.ext rfl rfl) rfl <| WL.p (.ext rfl rfl) rfl <| WL.a rfl rfl <| WL.z rfl rfl ?_
 refine W.sr <| WL.m rfl rfl <| WL.p (.bis (true) (.eql rfl rfl) (by rfl)) rfl <| WL.m rfl rfl <| WL.gy rfl rfl rfl rfl <| WL.m rfl rfl <| WL.gy rfl rfl rfl rfl <| WL.p (.bis (true) (.eqs rfl rfl) (by rfl)) rfl <| WL.p (.pkT rfl rfl rfl) rfl <| WL.z rfl rfl ?_
 refine W.ret (W.ret1 rfl rfl ?_)
 exact ⟨rfl, hB7⟩
set_option maxHeartbeats 1600000 in
theorem law_ScriptPrints (p : Option Addr) (l : List PageV) (c : Nat) (w : World) (hF : Fonts w) (hr : RowM pageL w p l) (hs : PagesS l) (ho : ∀ x ∈ l, PageOk w x) :
  Calls Tryd.prog 3 #[.slice p l.length c] w fun e w' => e = .returned (.bool true) ∧ Below w.heap.size w w' := by
 have hrl : 0 < l.length → (pA p).block < w.heap.size := fun h0 => hr.lt h0
 have hob : ∀ {w'}, Below w.heap.size w w' → ∀ x ∈ l, PageOk w' x := fun hb x hx => (ho x hx).below hb
 refine W.enter func3 rfl ntmps3 (Nat.le_of_ble_eq_true rfl) ?_
 have hB0 := Below.refl (w.heap.size) w
 refine W.sr <| WL.z rfl rfl ?_
 refine W.seq <| W.sr <| WL.c1 hb4 rfl rfl ((law26_answers _ (hF.below hB0))) (fun w1 hw1 => ?_)
 have hB2 := btr hB0 hw1
 refine WL.p (.bis (false) (.not rfl) (by rfl)) rfl <| WL.m rfl rfl <| WL.gy rfl rfl rfl rfl <| WL.m rfl rfl <| WL.gy rfl rfl rfl rfl <| WL.c1 hb5 rfl rfl ((law26_light p l c _ (hr.below hB2 hrl) hs (hob hB2))) (fun w3 hw3 => ?_)
 have hB4 := btr hB2 hw3
 refine WL.gy rfl rfl rfl rfl <| WL.p (.not rfl) rfl <| WL.p (.pkF rfl rfl rfl) rfl <| WL.nil <| ?_
 refine W.cond rfl (fun h5 => ?_) (fun h5 => ?_)
 have h5' := (nT h5)
 refine W.sr <| WL.c1 hb4 rfl rfl ((law26_answers _ (hF.below hB4))) (fun w6 hw6 => ?_)
 have hB7 := btr hB4 hw6
 refine WL.z rfl rfl ?_
 refine W.ret (W.ret1 rfl rfl ?_)
 first
 | exact ⟨rfl, hB7⟩
 | exact ⟨scr_val (by simp_all), hB7⟩
 have h5' := (nF h5)
 have hlw : pagesW l < 2000 := by simp_all
 refine W.skip <| W.sr <| WL.m rfl rfl <| WL.c1 hb6 rfl rfl ((script_Print p l c _ (hF.below hB4) (hr.below hB4 hrl) hs (hob hB4) hlw)) (fun w8 hw8 => ?_)
 have hB9 := btr hB4 hw8
 refine WL.m rfl rfl <| WL.p (.ext rfl rfl) rfl <| WL.p (.ext rfl rfl) rfl <| WL.a rfl rfl <| WL.z rfl rfl ?_
 refine W.seq <| W.sr <| WL.m rfl rfl <| WL.c1 hb7 rfl rfl ((law_sound p l c _ (hr.below hB9 hrl) (by have := hs.len; omega) (hob hB9))) (fun w10 hw10 => ?_)
 have hB11 := btr hB9 hw10
 refine WL.p (.not rfl) rfl <| WL.nil <| ?_
 refine W.cond rfl (fun h12 => ?_) (fun h12 => ?_)
 have h12' := (nT h12)
 have hno : l.all pageB = false := by simp_all
 refine W.sr <| WL.m rfl rfl <| WL.p (.eql rfl rfl) rfl <| WL.m rfl rfl <| WL.gd rfl rfl rfl (fun g13 => ?_) (fun g13 => ?_)
 have g13' := dT g13
 refine WL.m rfl rfl <| WL.gy rfl rfl rfl g13 <| WL.p (.eqs rfl rfl) rfl <| WL.p (.pkT rfl g13 rfl) rfl <| WL.z rfl rfl ?_
 refine W.ret (W.ret1 rfl rfl ?_)
 first
 | exact ⟨rfl, hB11⟩
 | exact ⟨scr_val (by simp_all), hB11⟩
 have g13' := dF g13
 refine WL.gn rfl rfl rfl g13 <| WL.p (.pkF rfl g13 rfl) rfl <| WL.z rfl rfl ?_
 refine W.ret (W.ret1 rfl rfl ?_)
 first
 | exact ⟨rfl, hB11⟩
 | exact ⟨scr_val (by simp_all), hB11⟩
 have h12' := (nF h12)
 have hall : l.all pageB = true := by simp_all
 refine W.skip <| W.sr <| WL.m rfl rfl <| WL.p (.eql rfl rfl) rfl <| WL.m rfl rfl <| WL.gd rfl rfl rfl (fun g14 => ?_) (fun g14 => ?_)
 have g14' := dT g14
 refine WL.m rfl rfl <| WL.gy rfl rfl rfl g14 <| WL.m rfl rfl <| WL.gy rfl rfl rfl g14 <| WL.c1 hb8 rfl rfl ((ref26_Print p l c _ (hr.below hB11 hrl) hs (hob hB11) (List.all_eq_true.1 (by simp_all)) (by have := pagesT_len l ho (List.all_eq_true.1 (by simp_all)) (fun x hx => (hs.items x hx).2); omega))) (fun w15 hw15 => ?_)
 have hB16 := btr hB11 hw15
 refine WL.gy rfl rfl rfl g14 <| WL.p (.eqs rfl rfl) rfl <| WL.p (.pkT rfl g14 rfl) rfl <| WL.z rfl rfl ?_
 refine W.ret (W.ret1 rfl rfl ?_)
 first
 | exact ⟨rfl, hB16⟩
 | exact ⟨scr_val (by simp_all), hB16⟩
 have g14' := dF g14
 refine WL.gn rfl rfl rfl g14 <| WL.gn rfl rfl rfl g14 <| WL.gn rfl rfl rfl g14 <| WL.p (.pkF rfl g14 rfl) rfl <| WL.z rfl rfl ?_
 refine W.ret (W.ret1 rfl rfl ?_)
 first
 | exact ⟨rfl, hB11⟩
 | exact ⟨scr_val (by simp_all), hB11⟩
end
section
open Go.ChangeShapes Go.WideShapes Go.ChangeAt Go.RowKit
theorem bulk_get {H : Type} : ∀ (a : List (DataW H)) (i : Nat) (hi : i < a.length), Rows.uptoBulk a[i] ≤ Rows.uptoBulkAll a
 | [], i, hi => absurd hi (by simp)
 | x :: a, 0, _ => by simp only [List.getElem_cons_zero, Rows.uptoBulkAll]; omega
 | x :: a, i + 1, hi => by
  have := bulk_get a i (by simpa using hi)
  simp only [List.getElem_cons_succ, Rows.uptoBulkAll]; omega
theorem bulk_part {H : Type} (xs : List (DataW H × List MemPlace)) (i : Nat) (hi : i < xs.length) {q : List MemPlace} : Rows.uptoBulk xs[i].1 ≤ Rows.uptoBulk ((.agg (xs.map (·.1)), q) : DataW H × List MemPlace).1 := by
 have h := bulk_get (xs.map (·.1)) i (by simpa using hi)
 rw [List.getElem_map] at h
 simp only [Rows.uptoBulk]; omega
theorem uptoBulk_pos {H : Type} (d : DataW H) : 1 ≤ Rows.uptoBulk d := by cases d with
 | lit l => cases l <;> simp [Rows.uptoBulk]
 | _ => simp [Rows.uptoBulk]
theorem bulkAll_len {H : Type} : ∀ a : List (DataW H), a.length ≤ Rows.uptoBulkAll a
 | [] => Nat.zero_le _
 | x :: a => by have := bulkAll_len a; have := uptoBulk_pos x; simp only [Rows.uptoBulkAll, List.length_cons]; omega
section
variable {H : Type} {enc : TypeId × Value → H} {P : Program} {w : World} {base : Nat} {sp : Nat → Bool} {held : Bool} {fuel : Nat} {t e : TypeId} {cs : List Value} {x : DataW H × List MemPlace} {α : Type}
theorem openS_rowM {L : Lay α} {Ok : α → Prop} {S : Nat → α → Prop} (mono : ∀ {m n y}, S m y → m ≤ n → S n y) (hu : P.underlying t = some (.slice e)) (hc : P.cellsOf e = L.m) (hel : ∀ {n cs x}, DataW.trod enc P w base sp held n e cs = some x → ∃ o, cs = L.V o ∧ Ok o ∧ S (Rows.uptoBulk x.1) o)
    (h : DataW.trod enc P w base sp held fuel t cs = some x) : ∃ p l c, cs = [.slice p (l : List α).length c] ∧ RowM L w p l ∧ SlOk p l c ∧ (∀ y ∈ l, Ok y) ∧ l.length ≤ Rows.uptoBulk x.1 ∧ ∀ y ∈ l, S (Rows.uptoBulk x.1) y := by
  rcases Go.Deep.open_slice hu h with ⟨rfl, rfl⟩ | ⟨a, len, cap, k, n, D, Pl, rfl, -, hl, hm, hk, rfl, hx⟩
  · exact ⟨none, [], 0, rfl, RowM.nil w, .z, fun y hy => by simp at hy, Nat.zero_le _, fun y hy => by simp at hy⟩
  · have hlk : len ≤ k := by rw [hk]; split <;> omega
    obtain ⟨l, hll, hp⟩ := list_choose (fun i o => (∀ q, q < L.m → w.cell? (a.add (i * L.m + q)) = (L.V o)[q]?) ∧ Ok o ∧ S (Rows.uptoBulk (D i)) o) len (fun i hi => by
      obtain ⟨cs, h1, h2⟩ := hx i oO
      obtain ⟨o, rfl, ho, hs⟩ := hel h2
      rw [hc] at h1
      obtain ⟨-, -, h3⟩ := World.cells?_some h1
      exact ⟨o, fun q hq => by rw [← add_add]; exact h3 q hq, ho, hs⟩)
    have hb : ∀ i, i < len → Rows.uptoBulk (D i) ≤ Rows.uptoBulkAll ((List.range len).map D) := fun i hi => by
      have := bulk_get ((List.range len).map D) i (by simpa using hi)
      simpa using this
    have hlb : len ≤ Rows.uptoBulkAll ((List.range len).map D) := by have := bulkAll_len ((List.range len).map D); simpa using this
    refine ⟨some a, l, cap, by rw [hll], ⟨fun _ => rfl, fun j hj q hq => (hp j hj).1 q hq⟩, ⟨by omega, hm, fun _ => .inr (by simp), fun h => by cases h⟩, fun y hy => ?_, by simp only [Rows.uptoBulk]; omega, fun y hy => ?_⟩
    · obtain ⟨i, hi, rfl⟩ := List.getElem_of_mem hy
      exact (hp i hi).2.1
    · obtain ⟨i, hi, rfl⟩ := List.getElem_of_mem hy
      exact mono (hp i hi).2.2 (by have := hb i oO; simp only [Rows.uptoBulk]; omega)
theorem openS_rowAt {V : α → Value} {Ok : α → Prop} {S : Nat → α → Prop} (mono : ∀ {m n y}, S m y → m ≤ n → S n y) (hu : P.underlying t = some (.slice e)) (hc : P.cellsOf e = 1) (hel : ∀ {n v x}, DataW.trod enc P w base sp held n e [v] = some x → ∃ o, v = V o ∧ Ok o ∧ S (Rows.uptoBulk x.1) o)
    (h : DataW.trod enc P w base sp held fuel t cs = some x) : ∃ p l c, cs = [.slice p (l : List α).length c] ∧ RowAt V w p l ∧ SlOk p l c ∧ (∀ y ∈ l, Ok y) ∧ l.length ≤ Rows.uptoBulk x.1 ∧ ∀ y ∈ l, S (Rows.uptoBulk x.1) y := by
  rcases Go.Deep.open_slice1 hu hc h with ⟨rfl, rfl⟩ | ⟨a, len, cap, k, n, F, D, Pl, rfl, -, hl, hm, hk, rfl, hx⟩
  · exact ⟨none, [], 0, rfl, RowAt.nil w, .z, fun y hy => by simp at hy, Nat.zero_le _, fun y hy => by simp at hy⟩
  · have hlk : len ≤ k := by rw [hk]; split <;> omega
    obtain ⟨l, hll, hp⟩ := list_choose (fun i o => w.cell? (a.add i) = some (V o) ∧ Ok o ∧ S (Rows.uptoBulk (D i)) o) len (fun i hi => by
      obtain ⟨h1, h2⟩ := hx i oO
      obtain ⟨o, ho, hk, hs⟩ := hel h2
      exact ⟨o, by rw [h1, ho], hk, hs⟩)
    have hb : ∀ i, i < len → Rows.uptoBulk (D i) ≤ Rows.uptoBulkAll ((List.range len).map D) := fun i hi => by
      have := bulk_get ((List.range len).map D) i (by simpa using hi)
      simpa using this
    have hlb : len ≤ Rows.uptoBulkAll ((List.range len).map D) := by have := bulkAll_len ((List.range len).map D); simpa using this
    refine ⟨some a, l, cap, by rw [hll], ⟨fun _ => rfl, fun j hj => (hp j hj).1⟩, ⟨by omega, hm, fun _ => .inr (by simp), fun h => by cases h⟩, fun y hy => ?_, by simp only [Rows.uptoBulk]; omega, fun y hy => ?_⟩
    · obtain ⟨i, hi, rfl⟩ := List.getElem_of_mem hy
      exact (hp i hi).2.1
    · obtain ⟨i, hi, rfl⟩ := List.getElem_of_mem hy
      exact mono (hp i hi).2.2 (by have := hb i oO; simp only [Rows.uptoBulk]; omega)
theorem openS_ints (hu : P.underlying t = some (.slice e)) (he : P.underlying e = some (.int .i64)) (hc : P.cellsOf e = 1)
  (h : DataW.trod enc P w base sp held fuel t cs = some x) : ∃ p l c, cs = [.slice p (l : List Int).length c] ∧ RowAt intV w p l ∧ SlOk p l c ∧ (∀ y ∈ l, (Lit.int .i64 y).wf = true) ∧ l.length ≤ Rows.uptoBulk x.1 := by
 obtain ⟨p, l, c, h1, h2, h3, h4, h5, -⟩ := openS_rowAt (V := intV) (Ok := fun y => (Lit.int .i64 y).wf = true) (S := fun _ _ => True) (fun _ _ => trivial) hu hc (fun {n v x} h => by
  obtain ⟨a, e, -, w⟩ := DataW.trod_int he h
  simp only [List.cons.injEq, and_true] at e
  exact ⟨a, e, w, trivial⟩) h
 exact ⟨p, l, c, h1, h2, h3, h4, h5⟩
theorem openS_u8s (hu : P.underlying t = some (.slice e)) (he : P.underlying e = some (.int .u8)) (hc : P.cellsOf e = 1)
  (h : DataW.trod enc P w base sp held fuel t cs = some x) : ∃ p l c, cs = [.slice p (l : List UInt8).length c] ∧ BytesAt w p l ∧ SlOk p l c ∧ (∀ y ∈ l, True) ∧ l.length ≤ Rows.uptoBulk x.1 := by
 obtain ⟨p, l, c, h1, h2, h3, h4, h5, -⟩ := openS_rowAt (V := fun c : UInt8 => .int .u8 (c.toNat : Int)) (Ok := fun _ => True) (S := fun _ _ => True) (fun _ _ => trivial) hu hc (fun {n v x} h => by
  obtain ⟨a, e, -, w⟩ := DataW.trod_int he h
  simp only [List.cons.injEq, and_true] at e
  have hb : 0 ≤ a ∧ a ≤ 255 := by simp only [Lit.wf, Bool.and_eq_true, decide_eq_true_eq] at w; exact w
  refine ⟨a.toNat.toUInt8, ?_, trivial, trivial⟩
  rw [e]
  have : (a.toNat.toUInt8).toNat = a.toNat % 256 := by simp
  rw [this]; congr 1; omega) h
 exact ⟨p, l, c, h1, ⟨h2.isp, h2.cells⟩, h3, h4, h5⟩
end
end
section
open Go.ChangeShapes Go.WideShapes Go.ChangeAt Go.RowKit
set_option maxRecDepth 20000 in
theorem openS_Seg {H : Type} {enc : TypeId × Value → H} {w : World} {base : Nat} {sp : Nat → Bool} {held : Bool} {fuel : Nat} {cs : List Value} {x : DataW H × List MemPlace}
  (h : DataW.trod enc Tryd.prog w base sp held fuel 91 cs = some x) : ∃ o : SegV, cs = segV o ∧ SegOk w o := by
 exact open_Seg h
set_option maxRecDepth 20000 in
theorem openS_Color {H : Type} {enc : TypeId × Value → H} {w : World} {base : Nat} {sp : Nat → Bool} {held : Bool} {fuel : Nat} {cs : List Value} {x : DataW H × List MemPlace}
  (h : DataW.trod enc Tryd.prog w base sp held fuel 35 cs = some x) : ∃ o : ColorV, cs = colorV o ∧ ColorOk w o := by
 exact open_Color h
structure ClipZ (n : Nat) (x : ClipV) : Prop where
 z_fPath : x.fPath.length ≤ n
theorem ClipZ.mono {m n : Nat} {x : ClipV} (h : ClipZ m x) (hn : m ≤ n) : ClipZ n x := ⟨Nat.le_trans h.z_fPath hn⟩
set_option maxRecDepth 20000 in
theorem openS_Clip {H : Type} {enc : TypeId × Value → H} {w : World} {base : Nat} {sp : Nat → Bool} {held : Bool} {fuel : Nat} {cs : List Value} {x : DataW H × List MemPlace}
  (h : DataW.trod enc Tryd.prog w base sp held fuel 45 cs = some x) : ∃ o : ClipV, cs = clipV o ∧ ClipOk w o ∧ ClipZ (Rows.uptoBulk x.1) o := by
 obtain ⟨xs, n, rfl, hx, hl, hlen, hf⟩ := DataW.trod_struct underlying45 h
 have hbx : ∀ (i : Nat) (hi : i < xs.length), Rows.uptoBulk xs[i].1 ≤ Rows.uptoBulk x.1 := fun i hi => by rw [hx]; exact bulk_part xs i hi
 clear hx
 rw [cells45] at hl
 have hlen2 : xs.length = 2 := hlen
 match cs, hl with
 | [c0, c1], _ =>
  have g : ∀ (i : Nat) (f : Field) (q : Nat) (c : List Value), _ → Tryd.prog.cellsOf f.type = q → (([c0, c1] : List Value).drop f.offset).take q = c → DataW.trod enc Tryd.prog w base sp held n f.type c = xs[i]? := fun i f q c h1 h2 h3 => by
   have := hf i f h1
   rw [h2, h3] at this
   exact this
  have f0 := (g 0 _ 1 [c0] rfl cells32 rfl).trans (List.getElem?_eq_getElem oO)
  obtain ⟨pfPath, afPath, lfPath, efPath, rfPath, sfPath, kfPath, zfPath, yfPath⟩ := openS_rowM (L := segL) (Ok := fun o => SegOk w o) (S := fun _ _ => True) (fun _ _ => trivial) underlying32 cells91 (fun h => (openS_Seg h).imp fun _ h => ⟨h.1, h.2, trivial⟩) f0
  have f1 := (g 1 _ 1 [c1] rfl cells4 rfl).trans (List.getElem?_eq_getElem oO)
  obtain ⟨afEvenOdd, efEvenOdd, -⟩ := DataW.trod_bool underlying4 f1
  simp only [List.cons.injEq, and_true] at efPath efEvenOdd
  refine ⟨⟨pfPath, afPath, lfPath, afEvenOdd⟩, ?_, ⟨rfPath, sfPath, kfPath⟩, ⟨(Nat.le_trans zfPath (hbx 0 oO))⟩⟩
  rw [efPath, efEvenOdd]
  rfl
structure PenZ (n : Nat) (x : PenV) : Prop where
 z_fDash : x.fDash.length ≤ n
theorem PenZ.mono {m n : Nat} {x : PenV} (h : PenZ m x) (hn : m ≤ n) : PenZ n x := ⟨Nat.le_trans h.z_fDash hn⟩
set_option maxRecDepth 20000 in
theorem openS_Pen {H : Type} {enc : TypeId × Value → H} {w : World} {base : Nat} {sp : Nat → Bool} {held : Bool} {fuel : Nat} {cs : List Value} {x : DataW H × List MemPlace}
  (h : DataW.trod enc Tryd.prog w base sp held fuel 39 cs = some x) : ∃ o : PenV, cs = penV o ∧ PenOk w o ∧ PenZ (Rows.uptoBulk x.1) o := by
 obtain ⟨xs, n, rfl, hx, hl, hlen, hf⟩ := DataW.trod_struct underlying39 h
 have hbx : ∀ (i : Nat) (hi : i < xs.length), Rows.uptoBulk xs[i].1 ≤ Rows.uptoBulk x.1 := fun i hi => by rw [hx]; exact bulk_part xs i hi
 clear hx
 rw [cells39] at hl
 have hlen6 : xs.length = 6 := hlen
 match cs, hl with
 | [c0, c1, c2, c3, c4, c5], _ =>
  have g : ∀ (i : Nat) (f : Field) (q : Nat) (c : List Value), _ → Tryd.prog.cellsOf f.type = q → (([c0, c1, c2, c3, c4, c5] : List Value).drop f.offset).take q = c → DataW.trod enc Tryd.prog w base sp held n f.type c = xs[i]? := fun i f q c h1 h2 h3 => by
   have := hf i f h1
   rw [h2, h3] at this
   exact this
  have f0 := (g 0 _ 1 [c0] rfl cells3 rfl).trans (List.getElem?_eq_getElem oO)
  obtain ⟨afWidth, efWidth, -, wfWidth⟩ := DataW.trod_int underlying3 f0
  have f1 := (g 1 _ 1 [c1] rfl cells3 rfl).trans (List.getElem?_eq_getElem oO)
  obtain ⟨afCap, efCap, -, wfCap⟩ := DataW.trod_int underlying3 f1
  have f2 := (g 2 _ 1 [c2] rfl cells3 rfl).trans (List.getElem?_eq_getElem oO)
  obtain ⟨afJoin, efJoin, -, wfJoin⟩ := DataW.trod_int underlying3 f2
  have f3 := (g 3 _ 1 [c3] rfl cells3 rfl).trans (List.getElem?_eq_getElem oO)
  obtain ⟨afMiter, efMiter, -, wfMiter⟩ := DataW.trod_int underlying3 f3
  have f4 := (g 4 _ 1 [c4] rfl cells37 rfl).trans (List.getElem?_eq_getElem oO)
  obtain ⟨pfDash, afDash, lfDash, efDash, rfDash, sfDash, kfDash, zfDash⟩ := openS_ints underlying37 underlying3 cells3 f4
  have f5 := (g 5 _ 1 [c5] rfl cells3 rfl).trans (List.getElem?_eq_getElem oO)
  obtain ⟨afPhase, efPhase, -, wfPhase⟩ := DataW.trod_int underlying3 f5
  simp only [List.cons.injEq, and_true] at efWidth efCap efJoin efMiter efDash efPhase
  refine ⟨⟨afWidth, afCap, afJoin, afMiter, pfDash, afDash, lfDash, afPhase⟩, ?_, ⟨wfWidth, wfCap, wfJoin, wfMiter, rfDash, sfDash, kfDash, wfPhase⟩, ⟨(Nat.le_trans zfDash (hbx 4 oO))⟩⟩
  rw [efWidth, efCap, efJoin, efMiter, efDash, efPhase]
  rfl
structure ItemZ (n : Nat) (x : ItemV) : Prop where
 z_fPath : x.fPath.length ≤ n
 z_fClips : x.fClips.length ≤ n
 zs_fClips : ∀ y ∈ x.fClips, ClipZ n y
 z_fPen : PenZ n x.fPen
 z_fBytes : x.fBytes.length ≤ n
theorem ItemZ.mono {m n : Nat} {x : ItemV} (h : ItemZ m x) (hn : m ≤ n) : ItemZ n x := ⟨Nat.le_trans h.z_fPath hn, Nat.le_trans h.z_fClips hn, fun y hy => (h.zs_fClips y hy).mono hn, h.z_fPen.mono hn, Nat.le_trans h.z_fBytes hn⟩
set_option maxRecDepth 20000 in
theorem openS_Item {H : Type} {enc : TypeId × Value → H} {w : World} {base : Nat} {sp : Nat → Bool} {held : Bool} {fuel : Nat} {cs : List Value} {x : DataW H × List MemPlace}
  (h : DataW.trod enc Tryd.prog w base sp held fuel 43 cs = some x) : ∃ o : ItemV, cs = itemV o ∧ ItemOk w o ∧ ItemZ (Rows.uptoBulk x.1) o := by
 obtain ⟨xs, n, rfl, hx, hl, hlen, hf⟩ := DataW.trod_struct underlying43 h
 have hbx : ∀ (i : Nat) (hi : i < xs.length), Rows.uptoBulk xs[i].1 ≤ Rows.uptoBulk x.1 := fun i hi => by rw [hx]; exact bulk_part xs i hi
 clear hx
 rw [cells43] at hl
 have hlen8 : xs.length = 8 := hlen
 match cs, hl with
 | [c0, c1, c2, c3, c4, c5, c6, c7, c8, c9, c10, c11, c12, c13, c14, c15, c16, c17, c18, c19, c20, c21], _ =>
  have g : ∀ (i : Nat) (f : Field) (q : Nat) (c : List Value), _ → Tryd.prog.cellsOf f.type = q → (([c0, c1, c2, c3, c4, c5, c6, c7, c8, c9, c10, c11, c12, c13, c14, c15, c16, c17, c18, c19, c20, c21] : List Value).drop f.offset).take q = c → DataW.trod enc Tryd.prog w base sp held n f.type c = xs[i]? := fun i f q c h1 h2 h3 => by
   have := hf i f h1
   rw [h2, h3] at this
   exact this
  have f0 := (g 0 _ 1 [c0] rfl cells3 rfl).trans (List.getElem?_eq_getElem oO)
  obtain ⟨afKind, efKind, -, wfKind⟩ := DataW.trod_int underlying3 f0
  have f1 := (g 1 _ 1 [c1] rfl cells32 rfl).trans (List.getElem?_eq_getElem oO)
  obtain ⟨pfPath, afPath, lfPath, efPath, rfPath, sfPath, kfPath, zfPath, yfPath⟩ := openS_rowM (L := segL) (Ok := fun o => SegOk w o) (S := fun _ _ => True) (fun _ _ => trivial) underlying32 cells91 (fun h => (openS_Seg h).imp fun _ h => ⟨h.1, h.2, trivial⟩) f1
  have f2 := (g 2 _ 5 [c2, c3, c4, c5, c6] rfl cells35 rfl).trans (List.getElem?_eq_getElem oO)
  obtain ⟨afColor, efColor, wfColor⟩ := openS_Color f2
  have f3 := (g 3 _ 1 [c7] rfl cells36 rfl).trans (List.getElem?_eq_getElem oO)
  obtain ⟨pfClips, afClips, lfClips, efClips, rfClips, sfClips, kfClips, zfClips, yfClips⟩ := openS_rowM (L := clipL) (Ok := fun o => ClipOk w o) (S := ClipZ) (fun h hn => h.mono hn) underlying36 cells45 (fun h => openS_Clip h) f3
  have f4 := (g 4 _ 6 [c8, c9, c10, c11, c12, c13] rfl cells39 rfl).trans (List.getElem?_eq_getElem oO)
  obtain ⟨afPen, efPen, wfPen, zfPen⟩ := openS_Pen f4
  have f5 := (g 5 _ 1 [c14] rfl cells3 rfl).trans (List.getElem?_eq_getElem oO)
  obtain ⟨afFont, efFont, -, wfFont⟩ := DataW.trod_int underlying3 f5
  have f6 := (g 6 _ 6 [c15, c16, c17, c18, c19, c20] rfl cells40 rfl).trans (List.getElem?_eq_getElem oO)
  obtain ⟨xz1, mz1, rfl, -, -, hlz1, hfz1⟩ := DataW.trod_array underlying40 f6
  rw [cells3] at hfz1
  have yz1_0 := (show DataW.trod enc Tryd.prog w base sp held _ 3 [c15] = _ from hfz1 0 dD).trans (List.getElem?_eq_getElem oO)
  obtain ⟨afMatrix_0, efMatrix_0, -, wfMatrix_0⟩ := DataW.trod_int underlying3 yz1_0
  have yz1_1 := (show DataW.trod enc Tryd.prog w base sp held _ 3 [c16] = _ from hfz1 1 dD).trans (List.getElem?_eq_getElem oO)
  obtain ⟨afMatrix_1, efMatrix_1, -, wfMatrix_1⟩ := DataW.trod_int underlying3 yz1_1
  have yz1_2 := (show DataW.trod enc Tryd.prog w base sp held _ 3 [c17] = _ from hfz1 2 dD).trans (List.getElem?_eq_getElem oO)
  obtain ⟨afMatrix_2, efMatrix_2, -, wfMatrix_2⟩ := DataW.trod_int underlying3 yz1_2
  have yz1_3 := (show DataW.trod enc Tryd.prog w base sp held _ 3 [c18] = _ from hfz1 3 dD).trans (List.getElem?_eq_getElem oO)
  obtain ⟨afMatrix_3, efMatrix_3, -, wfMatrix_3⟩ := DataW.trod_int underlying3 yz1_3
  have yz1_4 := (show DataW.trod enc Tryd.prog w base sp held _ 3 [c19] = _ from hfz1 4 dD).trans (List.getElem?_eq_getElem oO)
  obtain ⟨afMatrix_4, efMatrix_4, -, wfMatrix_4⟩ := DataW.trod_int underlying3 yz1_4
  have yz1_5 := (show DataW.trod enc Tryd.prog w base sp held _ 3 [c20] = _ from hfz1 5 dD).trans (List.getElem?_eq_getElem oO)
  obtain ⟨afMatrix_5, efMatrix_5, -, wfMatrix_5⟩ := DataW.trod_int underlying3 yz1_5
  have f7 := (g 7 _ 1 [c21] rfl cells41 rfl).trans (List.getElem?_eq_getElem oO)
  obtain ⟨pfBytes, afBytes, lfBytes, efBytes, rfBytes, sfBytes, kfBytes, zfBytes⟩ := openS_u8s underlying41 underlying5 cells5 f7
  simp only [List.cons.injEq, and_true] at efKind efPath efClips efFont efMatrix_0 efMatrix_1 efMatrix_2 efMatrix_3 efMatrix_4 efMatrix_5 efBytes
  refine ⟨⟨afKind, pfPath, afPath, lfPath, afColor, pfClips, afClips, lfClips, afPen, afFont, afMatrix_0, afMatrix_1, afMatrix_2, afMatrix_3, afMatrix_4, afMatrix_5, pfBytes, afBytes, lfBytes⟩, ?_, ⟨wfKind, rfPath, sfPath, kfPath, wfColor, rfClips, sfClips, kfClips, wfPen, wfFont, wfMatrix_0, wfMatrix_1, wfMatrix_2, wfMatrix_3, wfMatrix_4, wfMatrix_5, rfBytes, sfBytes⟩, ⟨(Nat.le_trans zfPath (hbx 1 oO)), (Nat.le_trans zfClips (hbx 3 oO)), (fun q hq => (yfClips q hq).mono (hbx 3 oO)), (zfPen.mono (hbx 4 oO)), (Nat.le_trans zfBytes (hbx 7 oO))⟩⟩
  show _ = ([.int .i64 afKind, .slice pfPath afPath.length lfPath] : List Value) ++ colorV afColor ++ ([.slice pfClips afClips.length lfClips] : List Value) ++ penV afPen ++ ([.int .i64 afFont, .int .i64 afMatrix_0, .int .i64 afMatrix_1, .int .i64 afMatrix_2, .int .i64 afMatrix_3, .int .i64 afMatrix_4, .int .i64 afMatrix_5, .slice pfBytes afBytes.length lfBytes] : List Value)
  rw [← efColor, ← efPen]
  rw [efKind, efPath, efClips, efFont, efMatrix_0, efMatrix_1, efMatrix_2, efMatrix_3, efMatrix_4, efMatrix_5, efBytes]
  rfl
structure PageZ (n : Nat) (x : PageV) : Prop where
 z_fItems : x.fItems.length ≤ n
 zs_fItems : ∀ y ∈ x.fItems, ItemZ n y
theorem PageZ.mono {m n : Nat} {x : PageV} (h : PageZ m x) (hn : m ≤ n) : PageZ n x := ⟨Nat.le_trans h.z_fItems hn, fun y hy => (h.zs_fItems y hy).mono hn⟩
set_option maxRecDepth 20000 in
theorem openS_Page {H : Type} {enc : TypeId × Value → H} {w : World} {base : Nat} {sp : Nat → Bool} {held : Bool} {fuel : Nat} {cs : List Value} {x : DataW H × List MemPlace}
  (h : DataW.trod enc Tryd.prog w base sp held fuel 31 cs = some x) : ∃ o : PageV, cs = pageV o ∧ PageOk w o ∧ PageZ (Rows.uptoBulk x.1) o := by
 obtain ⟨xs, n, rfl, hx, hl, hlen, hf⟩ := DataW.trod_struct underlying31 h
 have hbx : ∀ (i : Nat) (hi : i < xs.length), Rows.uptoBulk xs[i].1 ≤ Rows.uptoBulk x.1 := fun i hi => by rw [hx]; exact bulk_part xs i hi
 clear hx
 rw [cells31] at hl
 have hlen3 : xs.length = 3 := hlen
 match cs, hl with
 | [c0, c1, c2], _ =>
  have g : ∀ (i : Nat) (f : Field) (q : Nat) (c : List Value), _ → Tryd.prog.cellsOf f.type = q → (([c0, c1, c2] : List Value).drop f.offset).take q = c → DataW.trod enc Tryd.prog w base sp held n f.type c = xs[i]? := fun i f q c h1 h2 h3 => by
   have := hf i f h1
   rw [h2, h3] at this
   exact this
  have f0 := (g 0 _ 1 [c0] rfl cells3 rfl).trans (List.getElem?_eq_getElem oO)
  obtain ⟨afWidth, efWidth, -, wfWidth⟩ := DataW.trod_int underlying3 f0
  have f1 := (g 1 _ 1 [c1] rfl cells3 rfl).trans (List.getElem?_eq_getElem oO)
  obtain ⟨afHeight, efHeight, -, wfHeight⟩ := DataW.trod_int underlying3 f1
  have f2 := (g 2 _ 1 [c2] rfl cells29 rfl).trans (List.getElem?_eq_getElem oO)
  obtain ⟨pfItems, afItems, lfItems, efItems, rfItems, sfItems, kfItems, zfItems, yfItems⟩ := openS_rowM (L := itemL) (Ok := fun o => ItemOk w o) (S := ItemZ) (fun h hn => h.mono hn) underlying29 cells43 (fun h => openS_Item h) f2
  simp only [List.cons.injEq, and_true] at efWidth efHeight efItems
  refine ⟨⟨afWidth, afHeight, pfItems, afItems, lfItems⟩, ?_, ⟨wfWidth, wfHeight, rfItems, sfItems, kfItems⟩, ⟨(Nat.le_trans zfItems (hbx 2 oO)), (fun q hq => (yfItems q hq).mono (hbx 2 oO))⟩⟩
  rw [efWidth, efHeight, efItems]
  rfl
end
section
open Go.ChangeShapes Go.WideShapes Go.ChangeAt Go.RowKit
theorem own : ownKnob Tryd.prog.godebug = none := by kernel_rfl
theorem laidOut : laidOutB Tryd.prog = true := by kernel_rfl
def putCells (cs : Array Value) : Obj → Obj
 | .cells _ t frozen => .cells cs t frozen
 | o => o
def litCell : DataW Unit → Value
 | .lit (.int k z) => .int k z
 | .lit (.string s) => .string ⟨s.toArray⟩
 | _ => .bool false
def dataCells : DataW Unit → Array Value
 | .agg ps => (ps.map litCell).toArray
 | _ => #[]
/-- a world for a witness: the settled one, the listed variables holding what their initialisers lay -/
noncomputable def laidWorld (os : Os) : World :=
 { World.holding Tryd.prog os ⟨#[], #[], []⟩ with heap := ((((World.holding Tryd.prog os ⟨#[], #[], []⟩).heap.modify 2 (putCells (dataCells Rows.laid_math_bits_deBruijn32tab))).modify 3 (putCells (dataCells Rows.laid_math_bits_deBruijn64tab))).modify 1 (putCells (dataCells Rows.laid_internal_strconv_uint64pow10))).modify 0 (putCells (dataCells Rows.laid_mezzotint_font_names)) }
end
section
open Go.ChangeShapes Go.WideShapes Go.ChangeAt Go.RowKit
theorem pagesS_of {l : List PageV} {n : Nat} (h : l.length ≤ n) (hz : ∀ y ∈ l, PageZ n y) (hn : n ≤ 1048576) : PagesS l :=
 ⟨Nat.le_trans h hn, fun x hx => ⟨Nat.le_trans (hz x hx).z_fItems hn, fun y hy => by
  have := (hz x hx).zs_fItems y hy
  exact ⟨Nat.le_trans this.z_fPath hn, Nat.le_trans this.z_fBytes hn, Nat.le_trans this.z_fPen.z_fDash hn, Nat.le_trans this.z_fClips hn, fun c hc => Nat.le_trans (this.zs_fClips c hc).z_fPath hn⟩⟩⟩
theorem laid_strs {P : Program} {W : World} {name : String} {ss : List (List UInt8)} {rest : List (String × DataW Unit)} {g : Nat} {t e : TypeId} {n : Nat}
  (hg : P.globalNamed name = some g) (hty : (P.globals[g]?).map (·.type) = some t) (ht : P.underlying t = some (.array n e)) (he : P.underlying e = some .string) (hce : P.cellsOf e = 1)
  (h : laidMet P ((name, .agg (ss.map fun s => .lit (.string s))) :: rest) W) : RowAt strV W (some ⟨g, 0, none⟩) ss := by
 obtain ⟨ps, ⟨g', t', cs, fuel, p, q, hg', ht', hvar, hd, _, _⟩, _⟩ := h
 obtain rfl := Option.some.inj (hg.symm.trans hg')
 obtain rfl := Option.some.inj (hty.symm.trans ht')
 obtain ⟨xs, m, rfl, hx, hcl, hl, hf⟩ := DataW.trod_array ht hd
 rw [hce] at hf
 have hxs : xs.map (·.1) = ss.map fun s => (DataW.lit (.string s) : DataW Unit) := by
  have := congrArg Prod.fst hx
  simpa using this.symm
 have hlen : xs.length = ss.length := by have := congrArg List.length hxs; simpa using this
 refine ⟨fun _ => rfl, fun j hj => ?_⟩
 have hjx : j < xs.length := by omega
 have h1 := (hf j oO).trans (List.getElem?_eq_getElem hjx)
 obtain ⟨s, e1, e2, -⟩ := DataW.trod_string he h1
 have h3 : xs[j].1 = .lit (.string ss[j]) := by
  have := congrArg (·[j]?) hxs
  simp only [List.getElem?_map, List.getElem?_eq_getElem hjx, List.getElem?_eq_getElem hj, Option.map_some, Option.some.injEq] at this
  exact this
 rw [e2] at h3
 simp only [DataW.lit.injEq, Lit.string.injEq] at h3
 have h4 : cs[j]? = some (.string s) := by
  have := congrArg (·[0]?) e1
  simpa [List.getElem?_take, List.getElem?_drop] using this
 show W.cell? ((⟨g, 0, none⟩ : Addr).add j) = _
 rw [add_lit, Nat.zero_add, World.var?_cell hg hvar j, h4]
 show _ = some (Value.string (bs ss[j]))
 rw [← h3]; rfl
def fontNames : List (List UInt8) := [[67, 111, 117, 114, 105, 101, 114], [67, 111, 117, 114, 105, 101, 114, 45, 66, 111, 108, 100], [67, 111, 117, 114, 105, 101, 114, 45, 79, 98, 108, 105, 113, 117, 101], [67, 111, 117, 114, 105, 101, 114, 45, 66, 111, 108, 100, 79, 98, 108, 105, 113, 117, 101], [72, 101, 108, 118, 101, 116, 105, 99, 97], [72, 101, 108, 118, 101, 116, 105, 99, 97, 45, 66, 111, 108, 100], [72, 101, 108, 118, 101, 116, 105, 99, 97, 45, 79, 98, 108, 105, 113, 117, 101], [72, 101, 108, 118, 101, 116, 105, 99, 97, 45, 66, 111, 108, 100, 79, 98, 108, 105, 113, 117, 101], [84, 105, 109, 101, 115, 45, 82, 111, 109, 97, 110], [84, 105, 109, 101, 115, 45, 66, 111, 108, 100], [84, 105, 109, 101, 115, 45, 73, 116, 97, 108, 105, 99], [84, 105, 109, 101, 115, 45, 66, 111, 108, 100, 73, 116, 97, 108, 105, 99], [83, 121, 109, 98, 111, 108], [90, 97, 112, 102, 68, 105, 110, 103, 98, 97, 116, 115]]
theorem fonts_of {W : World} (h : laidMetH Tryd.prog Rows.scriptPrintsUptoRow.laid W) : Fonts W := by
 have h1 : laidMet Tryd.prog Rows.scriptPrintsUptoRow.laid W := by
  rw [MakeChecks.laidMetH_plain _ _ _ kR] at h; exact h
 have h2 : laidMet Tryd.prog [("mezzotint/font.names", .agg (fontNames.map fun s => .lit (.string s)))] W := h1.tail.tail.tail
 exact ⟨fontNames, rfl, fun i hi => by
  have key : ∀ s ∈ fontNames, s ≠ [] := by decide
  exact key _ (List.getElem_mem hi), laid_strs (g := 0) kR kR underlying108 underlying9 kR h2⟩
end
section
open Go.ChangeShapes Go.WideShapes Go.ChangeAt Go.RowKit
open Go.ChangeMaps (open_string shut_string)
set_option maxRecDepth 100000 in
theorem contract_ScriptPrints (H : Type) (enc : TypeId × Value → H) (W : World) (base : Nat) (args : Array Value) (ds gs : List (DataW H)) (before : List MemPlace)
  (hval : ∀ (j : Nat) t v, Tryd.f3.params[j]? = some t → args[j]? = some v → Value.okWide Tryd.prog W .any base t v)
  (hW : DataW.Whole enc Tryd.prog Tryd.f3.params.toList Rows.scriptPrintsSpec.vars false W args.toList ds gs before) (hcd : Rows.uptoBulkAll (ds ++ gs) ≤ 1048576) (hL : laidMetH Tryd.prog Rows.scriptPrintsUptoRow.laid W) :
  Calls Tryd.prog 3 args W fun e W' => ∃ v, e = .returned v ∧ Rows.scriptPrintsSpec.post enc Tryd.prog Tryd.f3 false true false false W args v W' := by
 have hW' := hW
 obtain ⟨p, q, hA0, hV, rfl, hfz, hnd⟩ := hW
 have hA : DataW.TrodAll enc Tryd.prog W 0 (fun _ => true) true Tryd.f3.params.toList args.toList ds p := hA0
 rw [Tryd.params3] at hA hval
 obtain ⟨v0, vs0, d0, ds0, p0, q0, hargs0, rfl, rfl, h0, r0⟩ := trodAll_cons hA
 obtain ⟨rfl, rfl, rfl⟩ := trodAll_nil r0
 obtain rfl : args = #[v0] := by cases args; simp_all
 obtain ⟨rfl, rfl⟩ := trodVars_none hV
 simp only [List.append_nil, Rows.uptoBulkAll] at hcd
 obtain ⟨a0, n0, k0, rfl⟩ := okWide_slice underlying22 (hval 0 22 v0 rfl rfl)
 have hh0 := h0
 obtain ⟨fu0, ft0⟩ := hh0
 obtain ⟨s0, l0, c0, ec0, hb0, hs0, hk0, hz0, hzs0⟩ := openS_rowM (L := pageL) (Ok := fun o => PageOk W o) (S := PageZ) (fun h hn => h.mono hn) underlying22 cells31 (fun h => openS_Page h) ft0
 simp only [Value.cells, List.cons.injEq, and_true, Value.slice.injEq] at ec0
 obtain ⟨rfl, rfl, rfl⟩ := ec0
 clear hA0
 simp only [List.append_nil] at hW'
 refine (law_ScriptPrints a0 l0 k0 W (fonts_of hL) hb0 (pagesS_of hz0 hzs0 oO) hk0).mono fun e W' ⟨he, bel⟩ => ?_
 subst he
 exact ⟨_, rfl, _, _, _, [], _, [], hW', trodAll_mk1 (shut_bool underlying4 _), (trodAll_cons_mk (trod_keep laidOut kR kR h0 bel (fun x hx => hW'.lt x (by first | exact hx | (simp only [List.mem_append]; simp_all)))) trodAll_mk0), rfl, bel.frame _, fun h => by cases h⟩
theorem laid_met_ScriptPrints (os : Os) : laidMet Tryd.prog Rows.scriptPrintsUptoRow.laid ((laidWorld os).forCall (fun _ _ => 0) ⟨#[], #[.slice none 0 0], []⟩).memory :=
 laidMet_of_run' 8 kR kR
theorem reads_ScriptPrints (os : Os) {H : Type} (enc : TypeId × Value → H) : ∃ places, DataW.whole enc Tryd.prog ((laidWorld os).forCall (fun _ _ => 0) ⟨#[], #[.slice none 0 0], []⟩).memory Tryd.f3.params.toList Rows.scriptPrintsSpec.vars false #[Value.slice none 0 0].toList 8 = some ([.nil], [], places) :=
 ⟨[], by kernel_rfl⟩
set_option maxRecDepth 100000 in
theorem lifted_ScriptPrints (os : Os) (started : os.Started) (H : Type) (enc : TypeId × Value → H) (F : Stop.Interp) :
    ReturnsInHanded {} Tryd.checked os 3 .any ((Rows.OpenSpec.upto Rows.scriptPrintsSpec).preRow enc Tryd.prog Tryd.f3 Rows.scriptPrintsUptoRow.domain false Rows.scriptPrintsUptoRow.laid) (((Rows.OpenSpec.upto Rows.scriptPrintsSpec).at F).post enc Tryd.prog Tryd.f3 false true false false) := by
  obtain ⟨places, hx⟩ := reads_ScriptPrints os enc
  refine returnsInHanded_of_row (C := Tryd.checked) (s := Rows.OpenSpec.upto Rows.scriptPrintsSpec) own started kR func3
    (witness_row_at (enc := enc) (C := Tryd.checked) false (laidWorld os) #[.slice none 0 0] rfl kR kR kR
      (OpenSpec.preRow_of_cond 8 hx kR (fun k hk => by cases hk; rfl) kR (laid_met_ScriptPrints os))) ?_
  intro W base args ds gs before hval hW _ hcd _ hL _ _
  exact contract_ScriptPrints H enc W base args ds gs before hval hW (dT (hcd _ rfl)) hL
theorem said_ScriptPrints : Rows.ScriptPrintsUptoSaid :=
  OpenClaim.holds_of_cond 3 Tryd.f3 rfl rfl rfl rfl rfl rfl rfl ⟨rfl, rfl, rfl, rfl, rfl⟩ rfl rfl rfl rfl rfl kR func3 kR
    (dT kR) (by unfold Func.isWrapper; first | (rw [if_pos (by decide +kernel)]; kernel_rfl) | (rw [if_neg (by decide +kernel)]; exact ⟨rfl, rfl⟩))
    (fun os started H enc _ F => by rw [OpenClaim.pre_eq_preRow]; exact lifted_ScriptPrints os started H enc F)
theorem plain_ScriptPrints (f : FuncId) (fn : Func) (hf : Tryd.pinned.checked.prog.funcNamed "mezzotint/mezzotintlaw26.ScriptPrints" = some f) (hfn : Tryd.pinned.checked.prog.funcs[f]? = some fn) :
  false = Tryd.pinned.checked.prog.looks [] ∧ ∀ (j : Nat) t, fn.params[j]? = some t → Tryd.pinned.checked.prog.wantsStandIn t = false := by
 obtain rfl : f = 3 := Option.some.inj ((show Tryd.prog.funcNamed "mezzotint/mezzotintlaw26.ScriptPrints" = some 3 by kernel_rfl).symm.trans hf) |>.symm
 obtain rfl : fn = Tryd.f3 := (Option.some.inj (func3.symm.trans hfn)).symm
 refine ⟨by kernel_rfl, fun j t ht => ?_⟩
 rw [Tryd.params3] at ht
 obtain rfl : t = 22 := by simpa using Array.mem_of_getElem? ht
 exact (show Tryd.prog.wantsStandIn 22 = false by kernel_rfl)
/-- THE CARD -/
theorem ScriptPrints_holds : Rows.ScriptPrintsUptoCardSaid :=
 Claim7.holds_tied_plain_at .later [] _ _ _ _ said_ScriptPrints (fun _ h => by cases h) kR (fun _ h => by cases h) scriptPrintsUpto_row_tie rfl ⟨rfl, rfl⟩ kR rfl plain_ScriptPrints kR
#print axioms ScriptPrints_holds
end
end Go.Proofs.YtjghbcjnplcleaaDoor
