/-
  Scan: the reference's functions on bytes, fourth part: the next token.
-/
import Derived.Test.YtjghbcjnplcleaaGreatDoorScanR3
namespace Go.Proofs.YtjghbcjnplcleaaGreatDoor
open Go.RowKit

theorem tokenL_e (l : List UInt8) (h : (tokenL l).e ≠ 0) : (tokenL l).ok = true := by
  have hf : ∀ a b c, (finL a b c).e ≠ 0 → (finL a b c).ok = true := by
    intro a b c; unfold finL; repeat' split
    all_goals simp [tokNone, tokGreat, tokInt, tokReal]
  revert h
  unfold tokenL
  split
  · simp [tokNone]
  · split
    · intro; assumption
    · split
      · simp [tokInt]
      · unfold realL2
        split
        · split
          · exact hf _ _ _
          · simp [tokNone]
        · exact hf _ _ _

/-- the token from its first byte on -/
def tokC (c : UInt8) (r : List UInt8) : TokE :=
  if c = 40 then textS (roundS 1 [] r)
  else if c = 41 then .error 14
  else if c = 60 ∨ c = 62 then angleS c r
  else if c = 123 then .ok (⟨7, 0, []⟩, r)
  else if c = 125 then .ok (⟨8, 0, []⟩, r)
  else if c = 91 ∨ c = 93 then .ok (⟨3, 0, [c]⟩, r)
  else if c = 47 then slashS r
  else wordS (c :: r)
theorem tokS_end {l : List UInt8} {n s : Nat} (h : l.drop s = skipS false (l.drop n)) (hs : l.length ≤ s) : tokS (l.drop n) = .ok (⟨0, 0, []⟩, []) := by
  unfold tokS
  rw [← h, List.drop_eq_nil_of_le hs]
theorem tokS_at {l : List UInt8} {n s : Nat} (h : l.drop s = skipS false (l.drop n)) (hs : s < l.length) : tokS (l.drop n) = tokC l[s] (l.drop (s + 1)) := by
  unfold tokS
  rw [← h, List.drop_eq_getElem_cons hs]; rfl
theorem angle_eq {l : List UInt8} {s : Nat} {c d : UInt8} (hc : c ≠ 0) (hd : d = (l[s]?).getD 0) : angleS c (l.drop s) = if d = c then .ok (⟨3, 0, [c, c]⟩, l.drop (s + 1)) else if c = 60 then textS (hexS none [] (l.drop s)) else .error 14 := by
  by_cases h : s < l.length
  · rw [List.drop_eq_getElem_cons h]
    rw [List.getElem?_eq_getElem h] at hd
    obtain rfl : d = l[s] := hd
    rfl
  · rw [List.drop_eq_nil_of_le (by omega)]
    rw [List.getElem?_eq_none (by omega)] at hd
    obtain rfl : d = 0 := hd
    rw [if_neg (fun e => hc e.symm)]; rfl
theorem slash_eq {l : List UInt8} {s : Nat} {d : UInt8} (hd : d = (l[s]?).getD 0) : slashS (l.drop s) = if d = 47 then nameS 5 (l.drop (s + 1)) else nameS 4 (l.drop s) := by
  by_cases h : s < l.length
  · rw [List.drop_eq_getElem_cons h]
    rw [List.getElem?_eq_getElem h] at hd
    obtain rfl : d = l[s] := hd
    rfl
  · rw [List.drop_eq_nil_of_le (by omega)]
    rw [List.getElem?_eq_none (by omega)] at hd
    obtain rfl : d = 0 := hd
    rw [if_neg (by decide)]; rfl
theorem tokC_word {c : UInt8} (r : List UInt8) (h1 : ¬ (c.toNat : Int) = 40) (h2 : ¬ (c.toNat : Int) = 41) (h3 : ¬ (c.toNat : Int) = 60) (h4 : ¬ (c.toNat : Int) = 62) (h5 : ¬ (c.toNat : Int) = 123) (h6 : ¬ (c.toNat : Int) = 125) (h7 : ¬ (c.toNat : Int) = 91)
    (h8 : ¬ (c.toNat : Int) = 93) (h9 : ¬ (c.toNat : Int) = 47) : tokC c r = wordS (c :: r) := by
  unfold tokC
  rw [if_neg (u8_ne (d := 40) h1), if_neg (u8_ne (d := 41) h2), if_neg (not_or.2 ⟨u8_ne (d := 60) h3, u8_ne (d := 62) h4⟩), if_neg (u8_ne (d := 123) h5), if_neg (u8_ne (d := 125) h6), if_neg (not_or.2 ⟨u8_ne (d := 91) h7, u8_ne (d := 93) h8⟩), if_neg (u8_ne (d := 47) h9)]
theorem word_take (l : List UInt8) (s : Nat) : (l.drop s).take (wordAt l s - s) = (l.drop s).takeWhile regB := by
  unfold wordAt
  rw [Nat.add_sub_cancel_left]
  conv => lhs; arg 2; rw [← List.takeWhile_append_dropWhile (p := regB) (l := l.drop s)]
  rw [List.take_left']; rfl
theorem word_drop (l : List UInt8) (s : Nat) : (l.drop s).dropWhile regB = l.drop (wordAt l s) := by
  unfold wordAt
  rw [← List.drop_drop]
  conv => rhs; arg 2; rw [← List.takeWhile_append_dropWhile (p := regB) (l := l.drop s)]
  rw [List.drop_left']; rfl
theorem nameS_at (k : Int) (l : List UInt8) (s : Nat) (hs : s ≤ l.length) : nrOf l (nameS k (l.drop s)) = nameR k l s (wordAt l s) := by
  have h1 := word_take l s
  have h2 := wordAt_le l s hs
  have h3 : ((l.drop s).takeWhile regB).length = wordAt l s - s := by unfold wordAt; omega
  unfold nameS nameR
  rw [h3, word_drop, ← h1]
  split
  · rfl
  · simp only [nrOf, List.length_drop]
    rw [show l.length - (l.length - wordAt l s) = wordAt l s by omega]
theorem nrOf_drop (l : List UInt8) (t : TokV) (k : Nat) (hk : k ≤ l.length) : nrOf l (.ok (t, l.drop k)) = ⟨t.kind, t.n, t.text, k, 0⟩ := by
  simp only [nrOf, List.length_drop]
  rw [show l.length - (l.length - k) = k by omega]
theorem StrOk.cases {w : World} {B : Nat} {l : List UInt8} {o : Option (List UInt8 × List UInt8)} {v : Value} {at' err : Int} (h : StrOk w B l o v at' err) :
    (o = none ∧ err = 14) ∨ ∃ (s : List UInt8) (k : Nat) (q : Option Addr) (cq : Nat), o = some (s, l.drop k) ∧ err = 0 ∧ at' = k ∧ k ≤ l.length ∧ s.length ≤ l.length ∧ v = .slice q s.length cq ∧ BytesAt w q s := by
  unfold StrOk at h
  split at h
  · exact Or.inl ⟨rfl, h⟩
  · next s r =>
    obtain ⟨he, ho, hl, k, hk, hkl, rfl⟩ := h
    obtain ⟨q, cq, hv, hb, -⟩ := ho.bytes
    exact Or.inr ⟨s, k, q, cq, rfl, he, hk, hkl, hl, hv, hb⟩
theorem wordS_at (l : List UInt8) (s : Nat) (hs : s ≤ l.length) (T : TokR) (hT : T = tokenL ((l.drop s).take (wordAt l s - s))) : nrOf l (wordS (l.drop s)) =
    if T.e ≠ 0 then ⟨0, 0, [], 0, T.e⟩ else if T.ok then ⟨T.kind, T.n, [], wordAt l s, 0⟩ else nameR 3 l s (wordAt l s) := by
  rw [word_take] at hT
  have : wordS (l.drop s) = if T.e ≠ 0 then .error T.e else if T.ok then .ok (⟨T.kind, T.n, []⟩, (l.drop s).dropWhile regB) else nameS 3 (l.drop s) := by rw [hT]; rfl
  rw [this]
  split
  · rfl
  · split
    · rw [word_drop, nrOf_drop _ _ _ (wordAt_le l s hs).2]
    · exact nameS_at 3 l s hs
theorem tokC40 (r : List UInt8) : tokC 40 r = textS (roundS 1 [] r) := rfl
theorem tokC41 (r : List UInt8) : tokC 41 r = .error 14 := rfl
theorem tokC60 (r : List UInt8) : tokC 60 r = angleS 60 r := rfl
theorem tokC62 (r : List UInt8) : tokC 62 r = angleS 62 r := rfl
theorem tokC123 (r : List UInt8) : tokC 123 r = .ok (⟨7, 0, []⟩, r) := rfl
theorem tokC125 (r : List UInt8) : tokC 125 r = .ok (⟨8, 0, []⟩, r) := rfl
theorem tokC91 (r : List UInt8) : tokC 91 r = .ok (⟨3, 0, [91]⟩, r) := rfl
theorem tokC93 (r : List UInt8) : tokC 93 r = .ok (⟨3, 0, [93]⟩, r) := rfl
theorem tokC47 (r : List UInt8) : tokC 47 r = slashS r := rfl
/-- the reference's next token from place a on -/
def nextR (l : List UInt8) (a : Int) : NR := if a < 0 ∨ (l.length : Int) < a then ⟨0, 0, [], 0, 21⟩ else nrOf l (tokS (l.drop a.toNat))

theorem ref_Next (a : Int) (p : Option Addr) (l : List UInt8) (c : Nat) (w : World) (hb : BytesAt w p l) (hc : l.length ≤ c) (hl : l.length ≤ 1000000) :
    Calls Tryz.prog 111 #[.slice p l.length c, .int .i64 a] w fun e w' => e = .returned (nextR l a).val ∧ Below w.heap.size w w' := by
  refine W.enter Tryz.func111 rfl Tryz.ntmps111 (Nat.le_of_ble_eq_true rfl) ?_
  have hB0 := Below.refl (w.heap.size) w
  refine W.seq ?_
  refine W.reg ?_ -- 0
  refine WL.alloc Tryz.zeroValue143 rfl (fun b1 wb1 eb1 hkb1 hub1 hsb1 => ?_)
  have hvl3 := fun h0 => eb1 ▸ hb.lt h0
  have hv2 := BytesAt.upd hb hub1 (fun h0 => Nat.ne_of_lt (hvl3 h0))
  have hB4 := Upd.below hB0 (by rw [eb1]; exact hB0.size) hub1
  have hgeb1 : w.heap.size ≤ b1 := by rw [eb1]; exact hB0.size
  refine WL.p (.as rfl) rfl <| WL.p (.as rfl) rfl <| WL.nil <| ?_
  refine W.seq ?_
  refine W.seq ?_
  refine W.reg ?_ -- 1
  refine WL.p (.mv rfl) rfl <| WL.p (.lss rfl rfl) rfl <| WL.p (.mv rfl) rfl <| WL.gd rfl rfl rfl (fun g5 => ?_) (fun g5 => ?_)
  · have g5' := of_decide_eq_false g5
    refine WL.p (.mv rfl) rfl <| WL.gy rfl rfl rfl g5 <| WL.p (.mv rfl) rfl <| WL.gy rfl rfl rfl g5 <| WL.p (.lenS Tryz.underlying22 rfl) rfl <| WL.gy rfl rfl rfl g5 <| WL.p (.gtr rfl rfl) rfl <| WL.p (.pkF rfl g5 rfl) rfl <| WL.nil <| ?_
    refine W.cond rfl (fun h6 => ?_) (fun h6 => ?_) -- slot 23
    · have h6' := of_decide_eq_true h6
      refine W.seq ?_
      refine W.reg ?_ -- 2
      refine WL.c1 hb154 rfl rfl ((ref_none _ _)) (fun w7 hw7 => ?_)
      have hk8 := hkb1.below hw7 hkb1.lt
      have hv9 := BytesAt.below hv2 hw7 (fun h0 => hv2.lt h0)
      have hB10 := btr hB4 hw7
      refine WL.p (.ext rfl rfl) rfl <| WL.p (.ext rfl rfl) rfl <| WL.p (.ext rfl rfl) rfl <| WL.stL rfl rfl hk8 isz143 rfl rfl (fun w11 hkw11 huw11 hsw11 => ?_)
      have hv12 := BytesAt.upd hv9 huw11 (fun h0 => Nat.ne_of_lt (hvl3 h0))
      have hB13 := Upd.below hB10 (by omega) huw11
      refine WL.p (.as rfl) rfl <| WL.p (.as rfl) rfl <| WL.nil <| ?_
      refine W.ret (W.retc3 rfl rfl (ldRow hkw11 Tryz.underlying143 rfl isz143) rfl rfl ?_)
      first
      | exact ⟨ret_val (by unfold nextR; rw [if_pos (by omega)]; (first | done | rfl)), hB13⟩
      | exact ⟨ret_val (by rw [hN, tokS_end hsd (by omega)]; (first | done | rfl)), hB13⟩
      | exact ⟨ret_val (by rw [hX, ho]; (first | done | rfl)), hB13⟩
      | exact ⟨ret_val (by rw [hX, ho]; simp only [textS]; rw [if_pos (by omega)]; (first | done | rfl)), hB13⟩
      | exact ⟨ret_val (by rw [hX, ho]; simp only [textS]; rw [if_neg (by omega), nrOf_drop _ _ _ hk]; (first | done | rfl)), hB13⟩
      | exact ⟨ret_val (by rw [hN, hT, show x = 41 from u8_eq (by assumption), tokC41]; (first | done | rfl)), hB13⟩
      | exact ⟨ret_val (by rw [hN, hT, show x = 123 from u8_eq (by assumption), tokC123, nrOf_drop _ _ _ (by omega)]; (first | done | rfl)), hB13⟩
      | exact ⟨ret_val (by rw [hN, hT, show x = 125 from u8_eq (by assumption), tokC125, nrOf_drop _ _ _ (by omega)]; (first | done | rfl)), hB13⟩
      | exact ⟨ret_val (by rw [hN, hT, show x = 91 from u8_eq (by assumption), tokC91, nrOf_drop _ _ _ (by omega)]; (first | done | rfl)), hB13⟩
      | exact ⟨ret_val (by rw [hN, hT, show x = 93 from u8_eq (by assumption), tokC93, nrOf_drop _ _ _ (by omega)]; (first | done | rfl)), hB13⟩
      | exact ⟨ret_val (by rw [hN, hT, show x = 60 from u8_eq (by assumption), tokC60, angle_eq (by decide) hy, if_pos (show y = 60 from u8_eq (by assumption)), nrOf_drop _ _ _ (by omega)]; (first | done | rfl)), hB13⟩
      | exact ⟨ret_val (by rw [hN, hT, show x = 62 from u8_eq (by assumption), tokC62, angle_eq (by decide) hy, if_pos (show y = 62 from u8_eq (by assumption)), nrOf_drop _ _ _ (by omega)]; (first | done | rfl)), hB13⟩
      | exact ⟨ret_val (by rw [hN, hT, show x = 62 from u8_eq (by assumption), tokC62, angle_eq (by decide) hy, if_neg (u8_ne (d := 62) (show ¬ (y.toNat : Int) = 62 from by omega)), if_neg (by decide)]; (first | done | rfl)), hB13⟩
      | exact ⟨ret_val (by rw [hN, hT, show x = 47 from u8_eq (by assumption), tokC47, slash_eq hy, if_pos (show y = 47 from u8_eq (by assumption)), nameS_at _ _ _ (by omega)]; (first | done | rfl)), hB13⟩
      | exact ⟨ret_val (by rw [hN, hT, show x = 47 from u8_eq (by assumption), tokC47, slash_eq hy, if_neg (u8_ne (d := 47) (show ¬ (y.toNat : Int) = 47 from by omega)), nameS_at _ _ _ (by omega)]; (first | done | rfl)), hB13⟩
      | exact ⟨ret_val (by rw [hX, if_pos (by assumption)]; (first | done | rfl)), hB13⟩
      | exact ⟨ret_val (by rw [hX, if_neg (fun h => h (by assumption)), if_pos (by assumption)]; (first | done | rfl)), hB13⟩
      | exact ⟨ret_val (by rw [hX, if_neg (fun h => by simp_all), if_neg (bF (by assumption))]; (first | done | rfl)), hB13⟩
      | (exfalso; omega)
    · have h6' := of_decide_eq_false h6
      obtain ⟨n, rfl⟩ := Int.eq_ofNat_of_zero_le (a := a) (by omega)
      have hN : nextR l (n : Int) = nrOf l (tokS (l.drop n)) := by unfold nextR; rw [if_neg (by omega)]; rfl
      refine W.skip ?_
      refine W.seq ?_
      refine W.reg ?_ -- 3
      refine WL.p (.mv rfl) rfl <| WL.p (.mv rfl) rfl <| WL.c1 hb14 rfl rfl ((ref_Skip p l c n _ hv2 (by omega) hl)) (fun w14 hw14 => ?_)
      obtain rfl := hw14
      have hsd := skipAt_drop false l n
      have hsl := skipAt_le false l n
      generalize skipAt false l n = s at *
      refine WL.p (.as rfl) rfl <| WL.nil <| ?_
      refine W.seq ?_
      refine W.seq ?_
      refine W.reg ?_ -- 4
      refine WL.p (.mv rfl) rfl <| WL.p (.mv rfl) rfl <| WL.p (.lenS Tryz.underlying22 rfl) rfl <| WL.p (.geq rfl rfl) rfl <| WL.nil <| ?_
      refine W.cond rfl (fun h15 => ?_) (fun h15 => ?_) -- slot 34
      · have h15' := of_decide_eq_true h15
        refine W.seq ?_
        refine W.reg ?_ -- 5
        refine WL.p (.buildL (ps := _) blt143 rfl rfl rfl (by simp only [put1, List.map, List.zip, List.zipWith] <;> rfl)) rfl ?_
        refine WL.p (.mv rfl) rfl <| WL.p (.lenS Tryz.underlying22 rfl) rfl <| WL.stL rfl rfl hkb1 isz143 rfl rfl (fun w16 hkw16 huw16 hsw16 => ?_)
        have hv17 := BytesAt.upd hv2 huw16 (fun h0 => Nat.ne_of_lt (hvl3 h0))
        have hB18 := Upd.below hB4 (by omega) huw16
        refine WL.p (.as rfl) rfl <| WL.p (.as rfl) rfl <| WL.nil <| ?_
        refine W.ret (W.retc3 rfl rfl (ldRow hkw16 Tryz.underlying143 rfl isz143) rfl rfl ?_)
        first
        | exact ⟨ret_val (by unfold nextR; rw [if_pos (by omega)]; (first | done | rfl)), hB18⟩
        | exact ⟨ret_val (by rw [hN, tokS_end hsd (by omega)]; (first | done | rfl)), hB18⟩
        | exact ⟨ret_val (by rw [hX, ho]; (first | done | rfl)), hB18⟩
        | exact ⟨ret_val (by rw [hX, ho]; simp only [textS]; rw [if_pos (by omega)]; (first | done | rfl)), hB18⟩
        | exact ⟨ret_val (by rw [hX, ho]; simp only [textS]; rw [if_neg (by omega), nrOf_drop _ _ _ hk]; (first | done | rfl)), hB18⟩
        | exact ⟨ret_val (by rw [hN, hT, show x = 41 from u8_eq (by assumption), tokC41]; (first | done | rfl)), hB18⟩
        | exact ⟨ret_val (by rw [hN, hT, show x = 123 from u8_eq (by assumption), tokC123, nrOf_drop _ _ _ (by omega)]; (first | done | rfl)), hB18⟩
        | exact ⟨ret_val (by rw [hN, hT, show x = 125 from u8_eq (by assumption), tokC125, nrOf_drop _ _ _ (by omega)]; (first | done | rfl)), hB18⟩
        | exact ⟨ret_val (by rw [hN, hT, show x = 91 from u8_eq (by assumption), tokC91, nrOf_drop _ _ _ (by omega)]; (first | done | rfl)), hB18⟩
        | exact ⟨ret_val (by rw [hN, hT, show x = 93 from u8_eq (by assumption), tokC93, nrOf_drop _ _ _ (by omega)]; (first | done | rfl)), hB18⟩
        | exact ⟨ret_val (by rw [hN, hT, show x = 60 from u8_eq (by assumption), tokC60, angle_eq (by decide) hy, if_pos (show y = 60 from u8_eq (by assumption)), nrOf_drop _ _ _ (by omega)]; (first | done | rfl)), hB18⟩
        | exact ⟨ret_val (by rw [hN, hT, show x = 62 from u8_eq (by assumption), tokC62, angle_eq (by decide) hy, if_pos (show y = 62 from u8_eq (by assumption)), nrOf_drop _ _ _ (by omega)]; (first | done | rfl)), hB18⟩
        | exact ⟨ret_val (by rw [hN, hT, show x = 62 from u8_eq (by assumption), tokC62, angle_eq (by decide) hy, if_neg (u8_ne (d := 62) (show ¬ (y.toNat : Int) = 62 from by omega)), if_neg (by decide)]; (first | done | rfl)), hB18⟩
        | exact ⟨ret_val (by rw [hN, hT, show x = 47 from u8_eq (by assumption), tokC47, slash_eq hy, if_pos (show y = 47 from u8_eq (by assumption)), nameS_at _ _ _ (by omega)]; (first | done | rfl)), hB18⟩
        | exact ⟨ret_val (by rw [hN, hT, show x = 47 from u8_eq (by assumption), tokC47, slash_eq hy, if_neg (u8_ne (d := 47) (show ¬ (y.toNat : Int) = 47 from by omega)), nameS_at _ _ _ (by omega)]; (first | done | rfl)), hB18⟩
        | exact ⟨ret_val (by rw [hX, if_pos (by assumption)]; (first | done | rfl)), hB18⟩
        | exact ⟨ret_val (by rw [hX, if_neg (fun h => h (by assumption)), if_pos (by assumption)]; (first | done | rfl)), hB18⟩
        | exact ⟨ret_val (by rw [hX, if_neg (fun h => by simp_all), if_neg (bF (by assumption))]; (first | done | rfl)), hB18⟩
        | (exfalso; omega)
      · have h15' := of_decide_eq_false h15
        refine W.skip ?_
        refine W.seq ?_
        have hlt : s < l.length := by omega
        have hT := tokS_at hsd hlt
        obtain ⟨x, hx⟩ : ∃ x, x = l[s]'hlt := ⟨_, rfl⟩
        rw [← hx] at hT
        refine W.reg ?_ -- 6
        refine WL.p (.mv rfl) rfl <| WL.p (.mv rfl) rfl <| WL.p (.ixb Tryz.underlying22 Tryz.sizeOf5 rfl rfl (hv2.isp (by omega)) _ rfl (by omega)) rfl <| WL.r (Rd.iis ((x.toNat : Int)) (Rd.ldc (Tryz.isAgg5 _) rfl (hv2.cells _ (by omega))) (by rw [hx])) rfl <| WL.p (.as rfl) rfl <| WL.nil <| ?_
        refine W.seq ?_
        refine W.reg ?_ -- 7
        refine WL.p (.as rfl) rfl <| WL.nil <| ?_
        refine W.cut (α := UInt8) (fun t => [(0, .slice p l.length c), (1, .int .i64 (s : Int)), (4, .pointer (some ⟨b1, 0, none⟩)), (7, .int .u8 (x.toNat : Int)), (8, .int .u8 (t.toNat : Int))]) (fun t w' => wb1 = w' ∧ t = (l[s + 1]?).getD 0) ?_ (fun t w1 hR => ?_)
        · skip
          refine W.seq ?_
          refine W.reg ?_ -- 8
          refine WL.p (.mv rfl) rfl <| WL.p (.add rfl rfl (i64w (by omega))) rfl <| WL.p (.mv rfl) rfl <| WL.p (.lenS Tryz.underlying22 rfl) rfl <| WL.p (.lss rfl rfl) rfl <| WL.nil <| ?_
          refine W.cond rfl (fun h19 => ?_) (fun h19 => ?_) -- slot 46
          · have h19' := of_decide_eq_true h19
            refine W.reg ?_ -- 9
            refine WL.p (.mv rfl) rfl <| WL.p (.mv rfl) rfl <| WL.p (.add rfl rfl (i64w (by omega))) rfl <| WL.p (.ixb Tryz.underlying22 Tryz.sizeOf5 rfl rfl (hv2.isp (by omega)) (s + 1) (by omega) (by omega)) rfl <| WL.r (Rd.ldc (Tryz.isAgg5 _) rfl (hv2.cells (s + 1) (by omega))) rfl <| WL.p (.as rfl) rfl <| WL.nil <| ?_
            -- join 46.meet/1
            first
            | exact ⟨l[s + 1]'(by omega), ⟨rfl, rfl, rfl, rfl, rfl, trivial⟩, rfl, by rw [List.getElem?_eq_getElem (by omega)]; rfl⟩
            | exact ⟨0, ⟨rfl, rfl, rfl, rfl, rfl, trivial⟩, rfl, by rw [List.getElem?_eq_none (by omega)]; rfl⟩
            -- met
          · have h19' := of_decide_eq_false h19
            refine W.skip ?_
            -- join 46.meet/2
            first
            | exact ⟨l[s + 1]'(by omega), ⟨rfl, rfl, rfl, rfl, rfl, trivial⟩, rfl, by rw [List.getElem?_eq_getElem (by omega)]; rfl⟩
            | exact ⟨0, ⟨rfl, rfl, rfl, rfl, rfl, trivial⟩, rfl, by rw [List.getElem?_eq_none (by omega)]; rfl⟩
            -- met
        obtain ⟨y, rfl⟩ : ∃ y, y = t := ⟨t, rfl⟩
        obtain ⟨rfl, hy⟩ := hR
        have hyl : ¬ (y.toNat : Int) = 0 → s + 1 < l.length := fun h => by
          rcases Nat.lt_or_ge (s + 1) l.length with h1 | h1
          · exact h1
          · rw [List.getElem?_eq_none h1] at hy; subst hy; exact absurd rfl h
        refine W.seq ?_
        refine W.seq ?_
        refine W.reg ?_ -- 10
        refine WL.p (.mv rfl) rfl <| WL.nil <| ?_
        refine W.block ?_
        refine W.seq ?_
        refine W.seq ?_
        refine W.reg ?_ -- 11
        refine WL.p (.eql rfl rfl) rfl <| WL.p (.as rfl) rfl <| WL.nil <| ?_
        refine W.cond rfl (fun h20 => ?_) (fun h20 => ?_) -- slot 53
        · have h20' := of_decide_eq_true h20
          refine W.skip ?_
          refine W.condT rfl h20 ?_
          refine W.seq ?_
          refine W.seq ?_
          refine W.reg ?_ -- 13
          refine WL.p (.mv rfl) rfl <| WL.p (.eql rfl rfl) rfl <| WL.p (.mv rfl) rfl <| WL.gd rfl rfl rfl (fun g21 => ?_) (fun g21 => ?_)
          · have g21' := of_decide_eq_true g21
            refine WL.p (.mv rfl) rfl <| WL.gy rfl rfl rfl g21 <| WL.p (.eql rfl rfl) rfl <| WL.p (.pkT rfl g21 rfl) rfl <| WL.nil <| ?_
            refine W.cond rfl (fun h22 => ?_) (fun h22 => ?_) -- slot 61
            · have h22' := of_decide_eq_true h22
              refine W.seq ?_
              refine W.reg ?_ -- 14
              refine WL.p (.buildL (ps := _) blt143 rfl rfl rfl (by simp only [put1, List.map, List.zip, List.zipWith, List.set] <;> rfl)) rfl ?_
              refine WL.p (.mv rfl) rfl <| WL.p (.iis (((s + 1 + 1 : Nat) : Int)) (.add rfl rfl (i64w (by omega))) (by omega)) rfl <| WL.stL rfl rfl hkb1 isz143 rfl rfl (fun w23 hkw23 huw23 hsw23 => ?_)
              have hv24 := BytesAt.upd hv2 huw23 (fun h0 => Nat.ne_of_lt (hvl3 h0))
              have hB25 := Upd.below hB4 (by omega) huw23
              refine WL.p (.as rfl) rfl <| WL.p (.as rfl) rfl <| WL.nil <| ?_
              refine W.ret (W.retc3 rfl rfl (ldRow hkw23 Tryz.underlying143 rfl isz143) rfl rfl ?_)
              first
              | exact ⟨ret_val (by unfold nextR; rw [if_pos (by omega)]; (first | done | rfl)), hB25⟩
              | exact ⟨ret_val (by rw [hN, tokS_end hsd (by omega)]; (first | done | rfl)), hB25⟩
              | exact ⟨ret_val (by rw [hX, ho]; (first | done | rfl)), hB25⟩
              | exact ⟨ret_val (by rw [hX, ho]; simp only [textS]; rw [if_pos (by omega)]; (first | done | rfl)), hB25⟩
              | exact ⟨ret_val (by rw [hX, ho]; simp only [textS]; rw [if_neg (by omega), nrOf_drop _ _ _ hk]; (first | done | rfl)), hB25⟩
              | exact ⟨ret_val (by rw [hN, hT, show x = 41 from u8_eq (by assumption), tokC41]; (first | done | rfl)), hB25⟩
              | exact ⟨ret_val (by rw [hN, hT, show x = 123 from u8_eq (by assumption), tokC123, nrOf_drop _ _ _ (by omega)]; (first | done | rfl)), hB25⟩
              | exact ⟨ret_val (by rw [hN, hT, show x = 125 from u8_eq (by assumption), tokC125, nrOf_drop _ _ _ (by omega)]; (first | done | rfl)), hB25⟩
              | exact ⟨ret_val (by rw [hN, hT, show x = 91 from u8_eq (by assumption), tokC91, nrOf_drop _ _ _ (by omega)]; (first | done | rfl)), hB25⟩
              | exact ⟨ret_val (by rw [hN, hT, show x = 93 from u8_eq (by assumption), tokC93, nrOf_drop _ _ _ (by omega)]; (first | done | rfl)), hB25⟩
              | exact ⟨ret_val (by rw [hN, hT, show x = 60 from u8_eq (by assumption), tokC60, angle_eq (by decide) hy, if_pos (show y = 60 from u8_eq (by assumption)), nrOf_drop _ _ _ (by omega)]; (first | done | rfl)), hB25⟩
              | exact ⟨ret_val (by rw [hN, hT, show x = 62 from u8_eq (by assumption), tokC62, angle_eq (by decide) hy, if_pos (show y = 62 from u8_eq (by assumption)), nrOf_drop _ _ _ (by omega)]; (first | done | rfl)), hB25⟩
              | exact ⟨ret_val (by rw [hN, hT, show x = 62 from u8_eq (by assumption), tokC62, angle_eq (by decide) hy, if_neg (u8_ne (d := 62) (show ¬ (y.toNat : Int) = 62 from by omega)), if_neg (by decide)]; (first | done | rfl)), hB25⟩
              | exact ⟨ret_val (by rw [hN, hT, show x = 47 from u8_eq (by assumption), tokC47, slash_eq hy, if_pos (show y = 47 from u8_eq (by assumption)), nameS_at _ _ _ (by omega)]; (first | done | rfl)), hB25⟩
              | exact ⟨ret_val (by rw [hN, hT, show x = 47 from u8_eq (by assumption), tokC47, slash_eq hy, if_neg (u8_ne (d := 47) (show ¬ (y.toNat : Int) = 47 from by omega)), nameS_at _ _ _ (by omega)]; (first | done | rfl)), hB25⟩
              | exact ⟨ret_val (by rw [hX, if_pos (by assumption)]; (first | done | rfl)), hB25⟩
              | exact ⟨ret_val (by rw [hX, if_neg (fun h => h (by assumption)), if_pos (by assumption)]; (first | done | rfl)), hB25⟩
              | exact ⟨ret_val (by rw [hX, if_neg (fun h => by simp_all), if_neg (bF (by assumption))]; (first | done | rfl)), hB25⟩
              | (exfalso; omega)
            · have h22' := of_decide_eq_false h22
              refine W.skip ?_
              refine W.seq ?_
              refine W.reg ?_ -- 15
              refine WL.p (.as rfl) rfl <| WL.nil <| ?_
              refine W.seq ?_
              refine W.reg ?_ -- 16
              refine WL.p (.as rfl) rfl <| WL.nil <| ?_
              refine W.seq ?_
              refine W.reg ?_ -- 17
              refine WL.p (.as rfl) rfl <| WL.nil <| ?_
              refine W.seq ?_
              refine W.seq ?_
              refine W.reg ?_ -- 18
              refine WL.p (.mv rfl) rfl <| WL.p (.eql rfl rfl) rfl <| WL.nil <| ?_
              refine W.cond rfl (fun h26 => ?_) (fun h26 => ?_) -- slot 66
              · have h26' := of_decide_eq_true h26
                have hX : nextR l (n : Int) = nrOf l (textS (roundS 1 [] (l.drop (s + 1)))) := by rw [hN, hT, show x = 40 from u8_eq (by assumption), tokC40]
                refine W.reg ?_ -- 19
                refine WL.p (.mv rfl) rfl <| WL.p (.mv rfl) rfl <| WL.call hb155 rfl rfl ((ref_Round p l c s _ hv2 (by omega) hl)) (fun v w27 hw27 => ?_)
                have hk28 := hkb1.below hw27.1 hkb1.lt
                have hv29 := BytesAt.below hv2 hw27.1 (fun h0 => hv2.lt h0)
                have hB30 := btr hB4 hw27.1
                obtain ⟨u, at1, err1, rfl, hso⟩ := hw27.2
                refine WL.p (.mv rfl) rfl <| WL.p (.ext rfl rfl) rfl <| WL.p (.ext rfl rfl) rfl <| WL.p (.ext rfl rfl) rfl <| WL.p (.as rfl) rfl <| WL.p (.as rfl) rfl <| WL.p (.as rfl) rfl <| WL.nil <| ?_
                refine W.seq ?_
                refine W.seq ?_
                refine W.reg ?_ -- 21
                refine WL.p (.mv rfl) rfl <| WL.p (.neq rfl rfl) rfl <| WL.nil <| ?_
                refine W.cond rfl (fun h31 => ?_) (fun h31 => ?_) -- slot 82
                · have h31' := ndT h31
                  obtain ⟨ho, rfl⟩ := hso.cases.resolve_right (fun h => by obtain ⟨_, _, _, _, _, h0, _⟩ := h; omega)
                  refine W.seq ?_
                  refine W.reg ?_ -- 22
                  refine WL.p (.mv rfl) rfl <| WL.c1 hb154 rfl rfl ((ref_none _ _)) (fun w32 hw32 => ?_)
                  have hk33 := hk28.below hw32 hk28.lt
                  have hv34 := BytesAt.below hv29 hw32 (fun h0 => hv29.lt h0)
                  have hB35 := btr hB30 hw32
                  refine WL.p (.ext rfl rfl) rfl <| WL.p (.ext rfl rfl) rfl <| WL.p (.ext rfl rfl) rfl <| WL.stL rfl rfl hk33 isz143 rfl rfl (fun w36 hkw36 huw36 hsw36 => ?_)
                  have hv37 := BytesAt.upd hv34 huw36 (fun h0 => Nat.ne_of_lt (hvl3 h0))
                  have hB38 := Upd.below hB35 (by omega) huw36
                  refine WL.p (.as rfl) rfl <| WL.p (.as rfl) rfl <| WL.nil <| ?_
                  refine W.ret (W.retc3 rfl rfl (ldRow hkw36 Tryz.underlying143 rfl isz143) rfl rfl ?_)
                  first
                  | exact ⟨ret_val (by unfold nextR; rw [if_pos (by omega)]; (first | done | rfl)), hB38⟩
                  | exact ⟨ret_val (by rw [hN, tokS_end hsd (by omega)]; (first | done | rfl)), hB38⟩
                  | exact ⟨ret_val (by rw [hX, ho]; (first | done | rfl)), hB38⟩
                  | exact ⟨ret_val (by rw [hX, ho]; simp only [textS]; rw [if_pos (by omega)]; (first | done | rfl)), hB38⟩
                  | exact ⟨ret_val (by rw [hX, ho]; simp only [textS]; rw [if_neg (by omega), nrOf_drop _ _ _ hk]; (first | done | rfl)), hB38⟩
                  | exact ⟨ret_val (by rw [hN, hT, show x = 41 from u8_eq (by assumption), tokC41]; (first | done | rfl)), hB38⟩
                  | exact ⟨ret_val (by rw [hN, hT, show x = 123 from u8_eq (by assumption), tokC123, nrOf_drop _ _ _ (by omega)]; (first | done | rfl)), hB38⟩
                  | exact ⟨ret_val (by rw [hN, hT, show x = 125 from u8_eq (by assumption), tokC125, nrOf_drop _ _ _ (by omega)]; (first | done | rfl)), hB38⟩
                  | exact ⟨ret_val (by rw [hN, hT, show x = 91 from u8_eq (by assumption), tokC91, nrOf_drop _ _ _ (by omega)]; (first | done | rfl)), hB38⟩
                  | exact ⟨ret_val (by rw [hN, hT, show x = 93 from u8_eq (by assumption), tokC93, nrOf_drop _ _ _ (by omega)]; (first | done | rfl)), hB38⟩
                  | exact ⟨ret_val (by rw [hN, hT, show x = 60 from u8_eq (by assumption), tokC60, angle_eq (by decide) hy, if_pos (show y = 60 from u8_eq (by assumption)), nrOf_drop _ _ _ (by omega)]; (first | done | rfl)), hB38⟩
                  | exact ⟨ret_val (by rw [hN, hT, show x = 62 from u8_eq (by assumption), tokC62, angle_eq (by decide) hy, if_pos (show y = 62 from u8_eq (by assumption)), nrOf_drop _ _ _ (by omega)]; (first | done | rfl)), hB38⟩
                  | exact ⟨ret_val (by rw [hN, hT, show x = 62 from u8_eq (by assumption), tokC62, angle_eq (by decide) hy, if_neg (u8_ne (d := 62) (show ¬ (y.toNat : Int) = 62 from by omega)), if_neg (by decide)]; (first | done | rfl)), hB38⟩
                  | exact ⟨ret_val (by rw [hN, hT, show x = 47 from u8_eq (by assumption), tokC47, slash_eq hy, if_pos (show y = 47 from u8_eq (by assumption)), nameS_at _ _ _ (by omega)]; (first | done | rfl)), hB38⟩
                  | exact ⟨ret_val (by rw [hN, hT, show x = 47 from u8_eq (by assumption), tokC47, slash_eq hy, if_neg (u8_ne (d := 47) (show ¬ (y.toNat : Int) = 47 from by omega)), nameS_at _ _ _ (by omega)]; (first | done | rfl)), hB38⟩
                  | exact ⟨ret_val (by rw [hX, if_pos (by assumption)]; (first | done | rfl)), hB38⟩
                  | exact ⟨ret_val (by rw [hX, if_neg (fun h => h (by assumption)), if_pos (by assumption)]; (first | done | rfl)), hB38⟩
                  | exact ⟨ret_val (by rw [hX, if_neg (fun h => by simp_all), if_neg (bF (by assumption))]; (first | done | rfl)), hB38⟩
                  | (exfalso; omega)
                · have h31' := ndF h31
                  obtain ⟨s1, k, q, cq, ho, rfl, rfl, hk, hs1, rfl, hq⟩ := hso.cases.resolve_left (fun h => by have := h.2; omega)
                  refine W.skip ?_
                  refine W.seq ?_
                  refine W.seq ?_
                  refine W.reg ?_ -- 23
                  refine WL.p (.mv rfl) rfl <| WL.p (.lenS Tryz.underlying22 rfl) rfl <| WL.p (.gtr rfl rfl) rfl <| WL.nil <| ?_
                  refine W.cond rfl (fun h39 => ?_) (fun h39 => ?_) -- slot 90
                  · have h39' := of_decide_eq_true h39
                    refine W.seq ?_
                    refine W.reg ?_ -- 24
                    refine WL.c1 hb154 rfl rfl ((ref_none _ _)) (fun w40 hw40 => ?_)
                    have hk41 := hk28.below hw40 hk28.lt
                    have hv42 := BytesAt.below hv29 hw40 (fun h0 => hv29.lt h0)
                    have hB43 := btr hB30 hw40
                    refine WL.p (.ext rfl rfl) rfl <| WL.p (.ext rfl rfl) rfl <| WL.p (.ext rfl rfl) rfl <| WL.stL rfl rfl hk41 isz143 rfl rfl (fun w44 hkw44 huw44 hsw44 => ?_)
                    have hv45 := BytesAt.upd hv42 huw44 (fun h0 => Nat.ne_of_lt (hvl3 h0))
                    have hB46 := Upd.below hB43 (by omega) huw44
                    refine WL.p (.as rfl) rfl <| WL.p (.as rfl) rfl <| WL.nil <| ?_
                    refine W.ret (W.retc3 rfl rfl (ldRow hkw44 Tryz.underlying143 rfl isz143) rfl rfl ?_)
                    first
                    | exact ⟨ret_val (by unfold nextR; rw [if_pos (by omega)]; (first | done | rfl)), hB46⟩
                    | exact ⟨ret_val (by rw [hN, tokS_end hsd (by omega)]; (first | done | rfl)), hB46⟩
                    | exact ⟨ret_val (by rw [hX, ho]; (first | done | rfl)), hB46⟩
                    | exact ⟨ret_val (by rw [hX, ho]; simp only [textS]; rw [if_pos (by omega)]; (first | done | rfl)), hB46⟩
                    | exact ⟨ret_val (by rw [hX, ho]; simp only [textS]; rw [if_neg (by omega), nrOf_drop _ _ _ hk]; (first | done | rfl)), hB46⟩
                    | exact ⟨ret_val (by rw [hN, hT, show x = 41 from u8_eq (by assumption), tokC41]; (first | done | rfl)), hB46⟩
                    | exact ⟨ret_val (by rw [hN, hT, show x = 123 from u8_eq (by assumption), tokC123, nrOf_drop _ _ _ (by omega)]; (first | done | rfl)), hB46⟩
                    | exact ⟨ret_val (by rw [hN, hT, show x = 125 from u8_eq (by assumption), tokC125, nrOf_drop _ _ _ (by omega)]; (first | done | rfl)), hB46⟩
                    | exact ⟨ret_val (by rw [hN, hT, show x = 91 from u8_eq (by assumption), tokC91, nrOf_drop _ _ _ (by omega)]; (first | done | rfl)), hB46⟩
                    | exact ⟨ret_val (by rw [hN, hT, show x = 93 from u8_eq (by assumption), tokC93, nrOf_drop _ _ _ (by omega)]; (first | done | rfl)), hB46⟩
                    | exact ⟨ret_val (by rw [hN, hT, show x = 60 from u8_eq (by assumption), tokC60, angle_eq (by decide) hy, if_pos (show y = 60 from u8_eq (by assumption)), nrOf_drop _ _ _ (by omega)]; (first | done | rfl)), hB46⟩
                    | exact ⟨ret_val (by rw [hN, hT, show x = 62 from u8_eq (by assumption), tokC62, angle_eq (by decide) hy, if_pos (show y = 62 from u8_eq (by assumption)), nrOf_drop _ _ _ (by omega)]; (first | done | rfl)), hB46⟩
                    | exact ⟨ret_val (by rw [hN, hT, show x = 62 from u8_eq (by assumption), tokC62, angle_eq (by decide) hy, if_neg (u8_ne (d := 62) (show ¬ (y.toNat : Int) = 62 from by omega)), if_neg (by decide)]; (first | done | rfl)), hB46⟩
                    | exact ⟨ret_val (by rw [hN, hT, show x = 47 from u8_eq (by assumption), tokC47, slash_eq hy, if_pos (show y = 47 from u8_eq (by assumption)), nameS_at _ _ _ (by omega)]; (first | done | rfl)), hB46⟩
                    | exact ⟨ret_val (by rw [hN, hT, show x = 47 from u8_eq (by assumption), tokC47, slash_eq hy, if_neg (u8_ne (d := 47) (show ¬ (y.toNat : Int) = 47 from by omega)), nameS_at _ _ _ (by omega)]; (first | done | rfl)), hB46⟩
                    | exact ⟨ret_val (by rw [hX, if_pos (by assumption)]; (first | done | rfl)), hB46⟩
                    | exact ⟨ret_val (by rw [hX, if_neg (fun h => h (by assumption)), if_pos (by assumption)]; (first | done | rfl)), hB46⟩
                    | exact ⟨ret_val (by rw [hX, if_neg (fun h => by simp_all), if_neg (bF (by assumption))]; (first | done | rfl)), hB46⟩
                    | (exfalso; omega)
                  · have h39' := of_decide_eq_false h39
                    refine W.skip ?_
                    refine W.seq ?_
                    refine W.reg ?_ -- 25
                    refine WL.p (.mv rfl) rfl <| WL.r (Rd.b2s (l := s1) Tryz.underlying22 Tryz.underlying5 Tryz.underlying9 rfl (hq)) rfl <| ?_
                    refine WL.p (.buildL (ps := _) blt143 rfl rfl rfl (by simp only [put1, List.map, List.zip, List.zipWith, List.set] <;> rfl)) rfl ?_
                    refine WL.p (.mv rfl) rfl <| WL.stL rfl rfl hk28 isz143 rfl rfl (fun w47 hkw47 huw47 hsw47 => ?_)
                    have hv48 := BytesAt.upd hv29 huw47 (fun h0 => Nat.ne_of_lt (hvl3 h0))
                    have hB49 := Upd.below hB30 (by omega) huw47
                    refine WL.p (.as rfl) rfl <| WL.p (.as rfl) rfl <| WL.nil <| ?_
                    refine W.ret (W.retc3 rfl rfl (ldRow hkw47 Tryz.underlying143 rfl isz143) rfl rfl ?_)
                    first
                    | exact ⟨ret_val (by unfold nextR; rw [if_pos (by omega)]; (first | done | rfl)), hB49⟩
                    | exact ⟨ret_val (by rw [hN, tokS_end hsd (by omega)]; (first | done | rfl)), hB49⟩
                    | exact ⟨ret_val (by rw [hX, ho]; (first | done | rfl)), hB49⟩
                    | exact ⟨ret_val (by rw [hX, ho]; simp only [textS]; rw [if_pos (by omega)]; (first | done | rfl)), hB49⟩
                    | exact ⟨ret_val (by rw [hX, ho]; simp only [textS]; rw [if_neg (by omega), nrOf_drop _ _ _ hk]; (first | done | rfl)), hB49⟩
                    | exact ⟨ret_val (by rw [hN, hT, show x = 41 from u8_eq (by assumption), tokC41]; (first | done | rfl)), hB49⟩
                    | exact ⟨ret_val (by rw [hN, hT, show x = 123 from u8_eq (by assumption), tokC123, nrOf_drop _ _ _ (by omega)]; (first | done | rfl)), hB49⟩
                    | exact ⟨ret_val (by rw [hN, hT, show x = 125 from u8_eq (by assumption), tokC125, nrOf_drop _ _ _ (by omega)]; (first | done | rfl)), hB49⟩
                    | exact ⟨ret_val (by rw [hN, hT, show x = 91 from u8_eq (by assumption), tokC91, nrOf_drop _ _ _ (by omega)]; (first | done | rfl)), hB49⟩
                    | exact ⟨ret_val (by rw [hN, hT, show x = 93 from u8_eq (by assumption), tokC93, nrOf_drop _ _ _ (by omega)]; (first | done | rfl)), hB49⟩
                    | exact ⟨ret_val (by rw [hN, hT, show x = 60 from u8_eq (by assumption), tokC60, angle_eq (by decide) hy, if_pos (show y = 60 from u8_eq (by assumption)), nrOf_drop _ _ _ (by omega)]; (first | done | rfl)), hB49⟩
                    | exact ⟨ret_val (by rw [hN, hT, show x = 62 from u8_eq (by assumption), tokC62, angle_eq (by decide) hy, if_pos (show y = 62 from u8_eq (by assumption)), nrOf_drop _ _ _ (by omega)]; (first | done | rfl)), hB49⟩
                    | exact ⟨ret_val (by rw [hN, hT, show x = 62 from u8_eq (by assumption), tokC62, angle_eq (by decide) hy, if_neg (u8_ne (d := 62) (show ¬ (y.toNat : Int) = 62 from by omega)), if_neg (by decide)]; (first | done | rfl)), hB49⟩
                    | exact ⟨ret_val (by rw [hN, hT, show x = 47 from u8_eq (by assumption), tokC47, slash_eq hy, if_pos (show y = 47 from u8_eq (by assumption)), nameS_at _ _ _ (by omega)]; (first | done | rfl)), hB49⟩
                    | exact ⟨ret_val (by rw [hN, hT, show x = 47 from u8_eq (by assumption), tokC47, slash_eq hy, if_neg (u8_ne (d := 47) (show ¬ (y.toNat : Int) = 47 from by omega)), nameS_at _ _ _ (by omega)]; (first | done | rfl)), hB49⟩
                    | exact ⟨ret_val (by rw [hX, if_pos (by assumption)]; (first | done | rfl)), hB49⟩
                    | exact ⟨ret_val (by rw [hX, if_neg (fun h => h (by assumption)), if_pos (by assumption)]; (first | done | rfl)), hB49⟩
                    | exact ⟨ret_val (by rw [hX, if_neg (fun h => by simp_all), if_neg (bF (by assumption))]; (first | done | rfl)), hB49⟩
                    | (exfalso; omega)
              · have h26' := of_decide_eq_false h26
                have hX : nextR l (n : Int) = nrOf l (textS (hexS none [] (l.drop (s + 1)))) := by
                  first
                  | (exfalso; omega)
                  | rw [hN, hT, show x = 60 from u8_eq (by assumption), tokC60, angle_eq (by decide) hy, if_neg (u8_ne (d := 60) (show ¬ (y.toNat : Int) = 60 from by omega)), if_pos rfl]
                refine W.reg ?_ -- 20
                refine WL.p (.mv rfl) rfl <| WL.p (.mv rfl) rfl <| WL.call hb156 rfl rfl ((ref_HexS p l c s _ hv2 (by omega) hl)) (fun v w50 hw50 => ?_)
                have hk51 := hkb1.below hw50.1 hkb1.lt
                have hv52 := BytesAt.below hv2 hw50.1 (fun h0 => hv2.lt h0)
                have hB53 := btr hB4 hw50.1
                obtain ⟨u, at1, err1, rfl, hso⟩ := hw50.2
                refine WL.p (.mv rfl) rfl <| WL.p (.ext rfl rfl) rfl <| WL.p (.ext rfl rfl) rfl <| WL.p (.ext rfl rfl) rfl <| WL.p (.as rfl) rfl <| WL.p (.as rfl) rfl <| WL.p (.as rfl) rfl <| WL.nil <| ?_
                refine W.seq ?_
                refine W.seq ?_
                refine W.reg ?_ -- 21
                refine WL.p (.mv rfl) rfl <| WL.p (.neq rfl rfl) rfl <| WL.nil <| ?_
                refine W.cond rfl (fun h54 => ?_) (fun h54 => ?_) -- slot 82
                · have h54' := ndT h54
                  obtain ⟨ho, rfl⟩ := hso.cases.resolve_right (fun h => by obtain ⟨_, _, _, _, _, h0, _⟩ := h; omega)
                  refine W.seq ?_
                  refine W.reg ?_ -- 22
                  refine WL.p (.mv rfl) rfl <| WL.c1 hb154 rfl rfl ((ref_none _ _)) (fun w55 hw55 => ?_)
                  have hk56 := hk51.below hw55 hk51.lt
                  have hv57 := BytesAt.below hv52 hw55 (fun h0 => hv52.lt h0)
                  have hB58 := btr hB53 hw55
                  refine WL.p (.ext rfl rfl) rfl <| WL.p (.ext rfl rfl) rfl <| WL.p (.ext rfl rfl) rfl <| WL.stL rfl rfl hk56 isz143 rfl rfl (fun w59 hkw59 huw59 hsw59 => ?_)
                  have hv60 := BytesAt.upd hv57 huw59 (fun h0 => Nat.ne_of_lt (hvl3 h0))
                  have hB61 := Upd.below hB58 (by omega) huw59
                  refine WL.p (.as rfl) rfl <| WL.p (.as rfl) rfl <| WL.nil <| ?_
                  refine W.ret (W.retc3 rfl rfl (ldRow hkw59 Tryz.underlying143 rfl isz143) rfl rfl ?_)
                  first
                  | exact ⟨ret_val (by unfold nextR; rw [if_pos (by omega)]; (first | done | rfl)), hB61⟩
                  | exact ⟨ret_val (by rw [hN, tokS_end hsd (by omega)]; (first | done | rfl)), hB61⟩
                  | exact ⟨ret_val (by rw [hX, ho]; (first | done | rfl)), hB61⟩
                  | exact ⟨ret_val (by rw [hX, ho]; simp only [textS]; rw [if_pos (by omega)]; (first | done | rfl)), hB61⟩
                  | exact ⟨ret_val (by rw [hX, ho]; simp only [textS]; rw [if_neg (by omega), nrOf_drop _ _ _ hk]; (first | done | rfl)), hB61⟩
                  | exact ⟨ret_val (by rw [hN, hT, show x = 41 from u8_eq (by assumption), tokC41]; (first | done | rfl)), hB61⟩
                  | exact ⟨ret_val (by rw [hN, hT, show x = 123 from u8_eq (by assumption), tokC123, nrOf_drop _ _ _ (by omega)]; (first | done | rfl)), hB61⟩
                  | exact ⟨ret_val (by rw [hN, hT, show x = 125 from u8_eq (by assumption), tokC125, nrOf_drop _ _ _ (by omega)]; (first | done | rfl)), hB61⟩
                  | exact ⟨ret_val (by rw [hN, hT, show x = 91 from u8_eq (by assumption), tokC91, nrOf_drop _ _ _ (by omega)]; (first | done | rfl)), hB61⟩
                  | exact ⟨ret_val (by rw [hN, hT, show x = 93 from u8_eq (by assumption), tokC93, nrOf_drop _ _ _ (by omega)]; (first | done | rfl)), hB61⟩
                  | exact ⟨ret_val (by rw [hN, hT, show x = 60 from u8_eq (by assumption), tokC60, angle_eq (by decide) hy, if_pos (show y = 60 from u8_eq (by assumption)), nrOf_drop _ _ _ (by omega)]; (first | done | rfl)), hB61⟩
                  | exact ⟨ret_val (by rw [hN, hT, show x = 62 from u8_eq (by assumption), tokC62, angle_eq (by decide) hy, if_pos (show y = 62 from u8_eq (by assumption)), nrOf_drop _ _ _ (by omega)]; (first | done | rfl)), hB61⟩
                  | exact ⟨ret_val (by rw [hN, hT, show x = 62 from u8_eq (by assumption), tokC62, angle_eq (by decide) hy, if_neg (u8_ne (d := 62) (show ¬ (y.toNat : Int) = 62 from by omega)), if_neg (by decide)]; (first | done | rfl)), hB61⟩
                  | exact ⟨ret_val (by rw [hN, hT, show x = 47 from u8_eq (by assumption), tokC47, slash_eq hy, if_pos (show y = 47 from u8_eq (by assumption)), nameS_at _ _ _ (by omega)]; (first | done | rfl)), hB61⟩
                  | exact ⟨ret_val (by rw [hN, hT, show x = 47 from u8_eq (by assumption), tokC47, slash_eq hy, if_neg (u8_ne (d := 47) (show ¬ (y.toNat : Int) = 47 from by omega)), nameS_at _ _ _ (by omega)]; (first | done | rfl)), hB61⟩
                  | exact ⟨ret_val (by rw [hX, if_pos (by assumption)]; (first | done | rfl)), hB61⟩
                  | exact ⟨ret_val (by rw [hX, if_neg (fun h => h (by assumption)), if_pos (by assumption)]; (first | done | rfl)), hB61⟩
                  | exact ⟨ret_val (by rw [hX, if_neg (fun h => by simp_all), if_neg (bF (by assumption))]; (first | done | rfl)), hB61⟩
                  | (exfalso; omega)
                · have h54' := ndF h54
                  obtain ⟨s1, k, q, cq, ho, rfl, rfl, hk, hs1, rfl, hq⟩ := hso.cases.resolve_left (fun h => by have := h.2; omega)
                  refine W.skip ?_
                  refine W.seq ?_
                  refine W.seq ?_
                  refine W.reg ?_ -- 23
                  refine WL.p (.mv rfl) rfl <| WL.p (.lenS Tryz.underlying22 rfl) rfl <| WL.p (.gtr rfl rfl) rfl <| WL.nil <| ?_
                  refine W.cond rfl (fun h62 => ?_) (fun h62 => ?_) -- slot 90
                  · have h62' := of_decide_eq_true h62
                    refine W.seq ?_
                    refine W.reg ?_ -- 24
                    refine WL.c1 hb154 rfl rfl ((ref_none _ _)) (fun w63 hw63 => ?_)
                    have hk64 := hk51.below hw63 hk51.lt
                    have hv65 := BytesAt.below hv52 hw63 (fun h0 => hv52.lt h0)
                    have hB66 := btr hB53 hw63
                    refine WL.p (.ext rfl rfl) rfl <| WL.p (.ext rfl rfl) rfl <| WL.p (.ext rfl rfl) rfl <| WL.stL rfl rfl hk64 isz143 rfl rfl (fun w67 hkw67 huw67 hsw67 => ?_)
                    have hv68 := BytesAt.upd hv65 huw67 (fun h0 => Nat.ne_of_lt (hvl3 h0))
                    have hB69 := Upd.below hB66 (by omega) huw67
                    refine WL.p (.as rfl) rfl <| WL.p (.as rfl) rfl <| WL.nil <| ?_
                    refine W.ret (W.retc3 rfl rfl (ldRow hkw67 Tryz.underlying143 rfl isz143) rfl rfl ?_)
                    first
                    | exact ⟨ret_val (by unfold nextR; rw [if_pos (by omega)]; (first | done | rfl)), hB69⟩
                    | exact ⟨ret_val (by rw [hN, tokS_end hsd (by omega)]; (first | done | rfl)), hB69⟩
                    | exact ⟨ret_val (by rw [hX, ho]; (first | done | rfl)), hB69⟩
                    | exact ⟨ret_val (by rw [hX, ho]; simp only [textS]; rw [if_pos (by omega)]; (first | done | rfl)), hB69⟩
                    | exact ⟨ret_val (by rw [hX, ho]; simp only [textS]; rw [if_neg (by omega), nrOf_drop _ _ _ hk]; (first | done | rfl)), hB69⟩
                    | exact ⟨ret_val (by rw [hN, hT, show x = 41 from u8_eq (by assumption), tokC41]; (first | done | rfl)), hB69⟩
                    | exact ⟨ret_val (by rw [hN, hT, show x = 123 from u8_eq (by assumption), tokC123, nrOf_drop _ _ _ (by omega)]; (first | done | rfl)), hB69⟩
                    | exact ⟨ret_val (by rw [hN, hT, show x = 125 from u8_eq (by assumption), tokC125, nrOf_drop _ _ _ (by omega)]; (first | done | rfl)), hB69⟩
                    | exact ⟨ret_val (by rw [hN, hT, show x = 91 from u8_eq (by assumption), tokC91, nrOf_drop _ _ _ (by omega)]; (first | done | rfl)), hB69⟩
                    | exact ⟨ret_val (by rw [hN, hT, show x = 93 from u8_eq (by assumption), tokC93, nrOf_drop _ _ _ (by omega)]; (first | done | rfl)), hB69⟩
                    | exact ⟨ret_val (by rw [hN, hT, show x = 60 from u8_eq (by assumption), tokC60, angle_eq (by decide) hy, if_pos (show y = 60 from u8_eq (by assumption)), nrOf_drop _ _ _ (by omega)]; (first | done | rfl)), hB69⟩
                    | exact ⟨ret_val (by rw [hN, hT, show x = 62 from u8_eq (by assumption), tokC62, angle_eq (by decide) hy, if_pos (show y = 62 from u8_eq (by assumption)), nrOf_drop _ _ _ (by omega)]; (first | done | rfl)), hB69⟩
                    | exact ⟨ret_val (by rw [hN, hT, show x = 62 from u8_eq (by assumption), tokC62, angle_eq (by decide) hy, if_neg (u8_ne (d := 62) (show ¬ (y.toNat : Int) = 62 from by omega)), if_neg (by decide)]; (first | done | rfl)), hB69⟩
                    | exact ⟨ret_val (by rw [hN, hT, show x = 47 from u8_eq (by assumption), tokC47, slash_eq hy, if_pos (show y = 47 from u8_eq (by assumption)), nameS_at _ _ _ (by omega)]; (first | done | rfl)), hB69⟩
                    | exact ⟨ret_val (by rw [hN, hT, show x = 47 from u8_eq (by assumption), tokC47, slash_eq hy, if_neg (u8_ne (d := 47) (show ¬ (y.toNat : Int) = 47 from by omega)), nameS_at _ _ _ (by omega)]; (first | done | rfl)), hB69⟩
                    | exact ⟨ret_val (by rw [hX, if_pos (by assumption)]; (first | done | rfl)), hB69⟩
                    | exact ⟨ret_val (by rw [hX, if_neg (fun h => h (by assumption)), if_pos (by assumption)]; (first | done | rfl)), hB69⟩
                    | exact ⟨ret_val (by rw [hX, if_neg (fun h => by simp_all), if_neg (bF (by assumption))]; (first | done | rfl)), hB69⟩
                    | (exfalso; omega)
                  · have h62' := of_decide_eq_false h62
                    refine W.skip ?_
                    refine W.seq ?_
                    refine W.reg ?_ -- 25
                    refine WL.p (.mv rfl) rfl <| WL.r (Rd.b2s (l := s1) Tryz.underlying22 Tryz.underlying5 Tryz.underlying9 rfl (hq)) rfl <| ?_
                    refine WL.p (.buildL (ps := _) blt143 rfl rfl rfl (by simp only [put1, List.map, List.zip, List.zipWith, List.set] <;> rfl)) rfl ?_
                    refine WL.p (.mv rfl) rfl <| WL.stL rfl rfl hk51 isz143 rfl rfl (fun w70 hkw70 huw70 hsw70 => ?_)
                    have hv71 := BytesAt.upd hv52 huw70 (fun h0 => Nat.ne_of_lt (hvl3 h0))
                    have hB72 := Upd.below hB53 (by omega) huw70
                    refine WL.p (.as rfl) rfl <| WL.p (.as rfl) rfl <| WL.nil <| ?_
                    refine W.ret (W.retc3 rfl rfl (ldRow hkw70 Tryz.underlying143 rfl isz143) rfl rfl ?_)
                    first
                    | exact ⟨ret_val (by unfold nextR; rw [if_pos (by omega)]; (first | done | rfl)), hB72⟩
                    | exact ⟨ret_val (by rw [hN, tokS_end hsd (by omega)]; (first | done | rfl)), hB72⟩
                    | exact ⟨ret_val (by rw [hX, ho]; (first | done | rfl)), hB72⟩
                    | exact ⟨ret_val (by rw [hX, ho]; simp only [textS]; rw [if_pos (by omega)]; (first | done | rfl)), hB72⟩
                    | exact ⟨ret_val (by rw [hX, ho]; simp only [textS]; rw [if_neg (by omega), nrOf_drop _ _ _ hk]; (first | done | rfl)), hB72⟩
                    | exact ⟨ret_val (by rw [hN, hT, show x = 41 from u8_eq (by assumption), tokC41]; (first | done | rfl)), hB72⟩
                    | exact ⟨ret_val (by rw [hN, hT, show x = 123 from u8_eq (by assumption), tokC123, nrOf_drop _ _ _ (by omega)]; (first | done | rfl)), hB72⟩
                    | exact ⟨ret_val (by rw [hN, hT, show x = 125 from u8_eq (by assumption), tokC125, nrOf_drop _ _ _ (by omega)]; (first | done | rfl)), hB72⟩
                    | exact ⟨ret_val (by rw [hN, hT, show x = 91 from u8_eq (by assumption), tokC91, nrOf_drop _ _ _ (by omega)]; (first | done | rfl)), hB72⟩
                    | exact ⟨ret_val (by rw [hN, hT, show x = 93 from u8_eq (by assumption), tokC93, nrOf_drop _ _ _ (by omega)]; (first | done | rfl)), hB72⟩
                    | exact ⟨ret_val (by rw [hN, hT, show x = 60 from u8_eq (by assumption), tokC60, angle_eq (by decide) hy, if_pos (show y = 60 from u8_eq (by assumption)), nrOf_drop _ _ _ (by omega)]; (first | done | rfl)), hB72⟩
                    | exact ⟨ret_val (by rw [hN, hT, show x = 62 from u8_eq (by assumption), tokC62, angle_eq (by decide) hy, if_pos (show y = 62 from u8_eq (by assumption)), nrOf_drop _ _ _ (by omega)]; (first | done | rfl)), hB72⟩
                    | exact ⟨ret_val (by rw [hN, hT, show x = 62 from u8_eq (by assumption), tokC62, angle_eq (by decide) hy, if_neg (u8_ne (d := 62) (show ¬ (y.toNat : Int) = 62 from by omega)), if_neg (by decide)]; (first | done | rfl)), hB72⟩
                    | exact ⟨ret_val (by rw [hN, hT, show x = 47 from u8_eq (by assumption), tokC47, slash_eq hy, if_pos (show y = 47 from u8_eq (by assumption)), nameS_at _ _ _ (by omega)]; (first | done | rfl)), hB72⟩
                    | exact ⟨ret_val (by rw [hN, hT, show x = 47 from u8_eq (by assumption), tokC47, slash_eq hy, if_neg (u8_ne (d := 47) (show ¬ (y.toNat : Int) = 47 from by omega)), nameS_at _ _ _ (by omega)]; (first | done | rfl)), hB72⟩
                    | exact ⟨ret_val (by rw [hX, if_pos (by assumption)]; (first | done | rfl)), hB72⟩
                    | exact ⟨ret_val (by rw [hX, if_neg (fun h => h (by assumption)), if_pos (by assumption)]; (first | done | rfl)), hB72⟩
                    | exact ⟨ret_val (by rw [hX, if_neg (fun h => by simp_all), if_neg (bF (by assumption))]; (first | done | rfl)), hB72⟩
                    | (exfalso; omega)
          · have g21' := of_decide_eq_false g21
            refine WL.gn rfl rfl rfl g21 <| WL.p (.pkF rfl g21 rfl) rfl <| WL.nil <| ?_
            refine W.condF rfl rfl ?_
            refine W.skip ?_
            refine W.seq ?_
            refine W.reg ?_ -- 15
            refine WL.p (.as rfl) rfl <| WL.nil <| ?_
            refine W.seq ?_
            refine W.reg ?_ -- 16
            refine WL.p (.as rfl) rfl <| WL.nil <| ?_
            refine W.seq ?_
            refine W.reg ?_ -- 17
            refine WL.p (.as rfl) rfl <| WL.nil <| ?_
            refine W.seq ?_
            refine W.seq ?_
            refine W.reg ?_ -- 18
            refine WL.p (.mv rfl) rfl <| WL.p (.eql rfl rfl) rfl <| WL.nil <| ?_
            refine W.cond rfl (fun h73 => ?_) (fun h73 => ?_) -- slot 66
            · have h73' := of_decide_eq_true h73
              have hX : nextR l (n : Int) = nrOf l (textS (roundS 1 [] (l.drop (s + 1)))) := by rw [hN, hT, show x = 40 from u8_eq (by assumption), tokC40]
              refine W.reg ?_ -- 19
              refine WL.p (.mv rfl) rfl <| WL.p (.mv rfl) rfl <| WL.call hb155 rfl rfl ((ref_Round p l c s _ hv2 (by omega) hl)) (fun v w74 hw74 => ?_)
              have hk75 := hkb1.below hw74.1 hkb1.lt
              have hv76 := BytesAt.below hv2 hw74.1 (fun h0 => hv2.lt h0)
              have hB77 := btr hB4 hw74.1
              obtain ⟨u, at1, err1, rfl, hso⟩ := hw74.2
              refine WL.p (.mv rfl) rfl <| WL.p (.ext rfl rfl) rfl <| WL.p (.ext rfl rfl) rfl <| WL.p (.ext rfl rfl) rfl <| WL.p (.as rfl) rfl <| WL.p (.as rfl) rfl <| WL.p (.as rfl) rfl <| WL.nil <| ?_
              refine W.seq ?_
              refine W.seq ?_
              refine W.reg ?_ -- 21
              refine WL.p (.mv rfl) rfl <| WL.p (.neq rfl rfl) rfl <| WL.nil <| ?_
              refine W.cond rfl (fun h78 => ?_) (fun h78 => ?_) -- slot 82
              · have h78' := ndT h78
                obtain ⟨ho, rfl⟩ := hso.cases.resolve_right (fun h => by obtain ⟨_, _, _, _, _, h0, _⟩ := h; omega)
                refine W.seq ?_
                refine W.reg ?_ -- 22
                refine WL.p (.mv rfl) rfl <| WL.c1 hb154 rfl rfl ((ref_none _ _)) (fun w79 hw79 => ?_)
                have hk80 := hk75.below hw79 hk75.lt
                have hv81 := BytesAt.below hv76 hw79 (fun h0 => hv76.lt h0)
                have hB82 := btr hB77 hw79
                refine WL.p (.ext rfl rfl) rfl <| WL.p (.ext rfl rfl) rfl <| WL.p (.ext rfl rfl) rfl <| WL.stL rfl rfl hk80 isz143 rfl rfl (fun w83 hkw83 huw83 hsw83 => ?_)
                have hv84 := BytesAt.upd hv81 huw83 (fun h0 => Nat.ne_of_lt (hvl3 h0))
                have hB85 := Upd.below hB82 (by omega) huw83
                refine WL.p (.as rfl) rfl <| WL.p (.as rfl) rfl <| WL.nil <| ?_
                refine W.ret (W.retc3 rfl rfl (ldRow hkw83 Tryz.underlying143 rfl isz143) rfl rfl ?_)
                first
                | exact ⟨ret_val (by unfold nextR; rw [if_pos (by omega)]; (first | done | rfl)), hB85⟩
                | exact ⟨ret_val (by rw [hN, tokS_end hsd (by omega)]; (first | done | rfl)), hB85⟩
                | exact ⟨ret_val (by rw [hX, ho]; (first | done | rfl)), hB85⟩
                | exact ⟨ret_val (by rw [hX, ho]; simp only [textS]; rw [if_pos (by omega)]; (first | done | rfl)), hB85⟩
                | exact ⟨ret_val (by rw [hX, ho]; simp only [textS]; rw [if_neg (by omega), nrOf_drop _ _ _ hk]; (first | done | rfl)), hB85⟩
                | exact ⟨ret_val (by rw [hN, hT, show x = 41 from u8_eq (by assumption), tokC41]; (first | done | rfl)), hB85⟩
                | exact ⟨ret_val (by rw [hN, hT, show x = 123 from u8_eq (by assumption), tokC123, nrOf_drop _ _ _ (by omega)]; (first | done | rfl)), hB85⟩
                | exact ⟨ret_val (by rw [hN, hT, show x = 125 from u8_eq (by assumption), tokC125, nrOf_drop _ _ _ (by omega)]; (first | done | rfl)), hB85⟩
                | exact ⟨ret_val (by rw [hN, hT, show x = 91 from u8_eq (by assumption), tokC91, nrOf_drop _ _ _ (by omega)]; (first | done | rfl)), hB85⟩
                | exact ⟨ret_val (by rw [hN, hT, show x = 93 from u8_eq (by assumption), tokC93, nrOf_drop _ _ _ (by omega)]; (first | done | rfl)), hB85⟩
                | exact ⟨ret_val (by rw [hN, hT, show x = 60 from u8_eq (by assumption), tokC60, angle_eq (by decide) hy, if_pos (show y = 60 from u8_eq (by assumption)), nrOf_drop _ _ _ (by omega)]; (first | done | rfl)), hB85⟩
                | exact ⟨ret_val (by rw [hN, hT, show x = 62 from u8_eq (by assumption), tokC62, angle_eq (by decide) hy, if_pos (show y = 62 from u8_eq (by assumption)), nrOf_drop _ _ _ (by omega)]; (first | done | rfl)), hB85⟩
                | exact ⟨ret_val (by rw [hN, hT, show x = 62 from u8_eq (by assumption), tokC62, angle_eq (by decide) hy, if_neg (u8_ne (d := 62) (show ¬ (y.toNat : Int) = 62 from by omega)), if_neg (by decide)]; (first | done | rfl)), hB85⟩
                | exact ⟨ret_val (by rw [hN, hT, show x = 47 from u8_eq (by assumption), tokC47, slash_eq hy, if_pos (show y = 47 from u8_eq (by assumption)), nameS_at _ _ _ (by omega)]; (first | done | rfl)), hB85⟩
                | exact ⟨ret_val (by rw [hN, hT, show x = 47 from u8_eq (by assumption), tokC47, slash_eq hy, if_neg (u8_ne (d := 47) (show ¬ (y.toNat : Int) = 47 from by omega)), nameS_at _ _ _ (by omega)]; (first | done | rfl)), hB85⟩
                | exact ⟨ret_val (by rw [hX, if_pos (by assumption)]; (first | done | rfl)), hB85⟩
                | exact ⟨ret_val (by rw [hX, if_neg (fun h => h (by assumption)), if_pos (by assumption)]; (first | done | rfl)), hB85⟩
                | exact ⟨ret_val (by rw [hX, if_neg (fun h => by simp_all), if_neg (bF (by assumption))]; (first | done | rfl)), hB85⟩
                | (exfalso; omega)
              · have h78' := ndF h78
                obtain ⟨s1, k, q, cq, ho, rfl, rfl, hk, hs1, rfl, hq⟩ := hso.cases.resolve_left (fun h => by have := h.2; omega)
                refine W.skip ?_
                refine W.seq ?_
                refine W.seq ?_
                refine W.reg ?_ -- 23
                refine WL.p (.mv rfl) rfl <| WL.p (.lenS Tryz.underlying22 rfl) rfl <| WL.p (.gtr rfl rfl) rfl <| WL.nil <| ?_
                refine W.cond rfl (fun h86 => ?_) (fun h86 => ?_) -- slot 90
                · have h86' := of_decide_eq_true h86
                  refine W.seq ?_
                  refine W.reg ?_ -- 24
                  refine WL.c1 hb154 rfl rfl ((ref_none _ _)) (fun w87 hw87 => ?_)
                  have hk88 := hk75.below hw87 hk75.lt
                  have hv89 := BytesAt.below hv76 hw87 (fun h0 => hv76.lt h0)
                  have hB90 := btr hB77 hw87
                  refine WL.p (.ext rfl rfl) rfl <| WL.p (.ext rfl rfl) rfl <| WL.p (.ext rfl rfl) rfl <| WL.stL rfl rfl hk88 isz143 rfl rfl (fun w91 hkw91 huw91 hsw91 => ?_)
                  have hv92 := BytesAt.upd hv89 huw91 (fun h0 => Nat.ne_of_lt (hvl3 h0))
                  have hB93 := Upd.below hB90 (by omega) huw91
                  refine WL.p (.as rfl) rfl <| WL.p (.as rfl) rfl <| WL.nil <| ?_
                  refine W.ret (W.retc3 rfl rfl (ldRow hkw91 Tryz.underlying143 rfl isz143) rfl rfl ?_)
                  first
                  | exact ⟨ret_val (by unfold nextR; rw [if_pos (by omega)]; (first | done | rfl)), hB93⟩
                  | exact ⟨ret_val (by rw [hN, tokS_end hsd (by omega)]; (first | done | rfl)), hB93⟩
                  | exact ⟨ret_val (by rw [hX, ho]; (first | done | rfl)), hB93⟩
                  | exact ⟨ret_val (by rw [hX, ho]; simp only [textS]; rw [if_pos (by omega)]; (first | done | rfl)), hB93⟩
                  | exact ⟨ret_val (by rw [hX, ho]; simp only [textS]; rw [if_neg (by omega), nrOf_drop _ _ _ hk]; (first | done | rfl)), hB93⟩
                  | exact ⟨ret_val (by rw [hN, hT, show x = 41 from u8_eq (by assumption), tokC41]; (first | done | rfl)), hB93⟩
                  | exact ⟨ret_val (by rw [hN, hT, show x = 123 from u8_eq (by assumption), tokC123, nrOf_drop _ _ _ (by omega)]; (first | done | rfl)), hB93⟩
                  | exact ⟨ret_val (by rw [hN, hT, show x = 125 from u8_eq (by assumption), tokC125, nrOf_drop _ _ _ (by omega)]; (first | done | rfl)), hB93⟩
                  | exact ⟨ret_val (by rw [hN, hT, show x = 91 from u8_eq (by assumption), tokC91, nrOf_drop _ _ _ (by omega)]; (first | done | rfl)), hB93⟩
                  | exact ⟨ret_val (by rw [hN, hT, show x = 93 from u8_eq (by assumption), tokC93, nrOf_drop _ _ _ (by omega)]; (first | done | rfl)), hB93⟩
                  | exact ⟨ret_val (by rw [hN, hT, show x = 60 from u8_eq (by assumption), tokC60, angle_eq (by decide) hy, if_pos (show y = 60 from u8_eq (by assumption)), nrOf_drop _ _ _ (by omega)]; (first | done | rfl)), hB93⟩
                  | exact ⟨ret_val (by rw [hN, hT, show x = 62 from u8_eq (by assumption), tokC62, angle_eq (by decide) hy, if_pos (show y = 62 from u8_eq (by assumption)), nrOf_drop _ _ _ (by omega)]; (first | done | rfl)), hB93⟩
                  | exact ⟨ret_val (by rw [hN, hT, show x = 62 from u8_eq (by assumption), tokC62, angle_eq (by decide) hy, if_neg (u8_ne (d := 62) (show ¬ (y.toNat : Int) = 62 from by omega)), if_neg (by decide)]; (first | done | rfl)), hB93⟩
                  | exact ⟨ret_val (by rw [hN, hT, show x = 47 from u8_eq (by assumption), tokC47, slash_eq hy, if_pos (show y = 47 from u8_eq (by assumption)), nameS_at _ _ _ (by omega)]; (first | done | rfl)), hB93⟩
                  | exact ⟨ret_val (by rw [hN, hT, show x = 47 from u8_eq (by assumption), tokC47, slash_eq hy, if_neg (u8_ne (d := 47) (show ¬ (y.toNat : Int) = 47 from by omega)), nameS_at _ _ _ (by omega)]; (first | done | rfl)), hB93⟩
                  | exact ⟨ret_val (by rw [hX, if_pos (by assumption)]; (first | done | rfl)), hB93⟩
                  | exact ⟨ret_val (by rw [hX, if_neg (fun h => h (by assumption)), if_pos (by assumption)]; (first | done | rfl)), hB93⟩
                  | exact ⟨ret_val (by rw [hX, if_neg (fun h => by simp_all), if_neg (bF (by assumption))]; (first | done | rfl)), hB93⟩
                  | (exfalso; omega)
                · have h86' := of_decide_eq_false h86
                  refine W.skip ?_
                  refine W.seq ?_
                  refine W.reg ?_ -- 25
                  refine WL.p (.mv rfl) rfl <| WL.r (Rd.b2s (l := s1) Tryz.underlying22 Tryz.underlying5 Tryz.underlying9 rfl (hq)) rfl <| ?_
                  refine WL.p (.buildL (ps := _) blt143 rfl rfl rfl (by simp only [put1, List.map, List.zip, List.zipWith, List.set] <;> rfl)) rfl ?_
                  refine WL.p (.mv rfl) rfl <| WL.stL rfl rfl hk75 isz143 rfl rfl (fun w94 hkw94 huw94 hsw94 => ?_)
                  have hv95 := BytesAt.upd hv76 huw94 (fun h0 => Nat.ne_of_lt (hvl3 h0))
                  have hB96 := Upd.below hB77 (by omega) huw94
                  refine WL.p (.as rfl) rfl <| WL.p (.as rfl) rfl <| WL.nil <| ?_
                  refine W.ret (W.retc3 rfl rfl (ldRow hkw94 Tryz.underlying143 rfl isz143) rfl rfl ?_)
                  first
                  | exact ⟨ret_val (by unfold nextR; rw [if_pos (by omega)]; (first | done | rfl)), hB96⟩
                  | exact ⟨ret_val (by rw [hN, tokS_end hsd (by omega)]; (first | done | rfl)), hB96⟩
                  | exact ⟨ret_val (by rw [hX, ho]; (first | done | rfl)), hB96⟩
                  | exact ⟨ret_val (by rw [hX, ho]; simp only [textS]; rw [if_pos (by omega)]; (first | done | rfl)), hB96⟩
                  | exact ⟨ret_val (by rw [hX, ho]; simp only [textS]; rw [if_neg (by omega), nrOf_drop _ _ _ hk]; (first | done | rfl)), hB96⟩
                  | exact ⟨ret_val (by rw [hN, hT, show x = 41 from u8_eq (by assumption), tokC41]; (first | done | rfl)), hB96⟩
                  | exact ⟨ret_val (by rw [hN, hT, show x = 123 from u8_eq (by assumption), tokC123, nrOf_drop _ _ _ (by omega)]; (first | done | rfl)), hB96⟩
                  | exact ⟨ret_val (by rw [hN, hT, show x = 125 from u8_eq (by assumption), tokC125, nrOf_drop _ _ _ (by omega)]; (first | done | rfl)), hB96⟩
                  | exact ⟨ret_val (by rw [hN, hT, show x = 91 from u8_eq (by assumption), tokC91, nrOf_drop _ _ _ (by omega)]; (first | done | rfl)), hB96⟩
                  | exact ⟨ret_val (by rw [hN, hT, show x = 93 from u8_eq (by assumption), tokC93, nrOf_drop _ _ _ (by omega)]; (first | done | rfl)), hB96⟩
                  | exact ⟨ret_val (by rw [hN, hT, show x = 60 from u8_eq (by assumption), tokC60, angle_eq (by decide) hy, if_pos (show y = 60 from u8_eq (by assumption)), nrOf_drop _ _ _ (by omega)]; (first | done | rfl)), hB96⟩
                  | exact ⟨ret_val (by rw [hN, hT, show x = 62 from u8_eq (by assumption), tokC62, angle_eq (by decide) hy, if_pos (show y = 62 from u8_eq (by assumption)), nrOf_drop _ _ _ (by omega)]; (first | done | rfl)), hB96⟩
                  | exact ⟨ret_val (by rw [hN, hT, show x = 62 from u8_eq (by assumption), tokC62, angle_eq (by decide) hy, if_neg (u8_ne (d := 62) (show ¬ (y.toNat : Int) = 62 from by omega)), if_neg (by decide)]; (first | done | rfl)), hB96⟩
                  | exact ⟨ret_val (by rw [hN, hT, show x = 47 from u8_eq (by assumption), tokC47, slash_eq hy, if_pos (show y = 47 from u8_eq (by assumption)), nameS_at _ _ _ (by omega)]; (first | done | rfl)), hB96⟩
                  | exact ⟨ret_val (by rw [hN, hT, show x = 47 from u8_eq (by assumption), tokC47, slash_eq hy, if_neg (u8_ne (d := 47) (show ¬ (y.toNat : Int) = 47 from by omega)), nameS_at _ _ _ (by omega)]; (first | done | rfl)), hB96⟩
                  | exact ⟨ret_val (by rw [hX, if_pos (by assumption)]; (first | done | rfl)), hB96⟩
                  | exact ⟨ret_val (by rw [hX, if_neg (fun h => h (by assumption)), if_pos (by assumption)]; (first | done | rfl)), hB96⟩
                  | exact ⟨ret_val (by rw [hX, if_neg (fun h => by simp_all), if_neg (bF (by assumption))]; (first | done | rfl)), hB96⟩
                  | (exfalso; omega)
            · have h73' := of_decide_eq_false h73
              have hX : nextR l (n : Int) = nrOf l (textS (hexS none [] (l.drop (s + 1)))) := by
                first
                | (exfalso; omega)
                | rw [hN, hT, show x = 60 from u8_eq (by assumption), tokC60, angle_eq (by decide) hy, if_neg (u8_ne (d := 60) (show ¬ (y.toNat : Int) = 60 from by omega)), if_pos rfl]
              refine W.reg ?_ -- 20
              refine WL.p (.mv rfl) rfl <| WL.p (.mv rfl) rfl <| WL.call hb156 rfl rfl ((ref_HexS p l c s _ hv2 (by omega) hl)) (fun v w97 hw97 => ?_)
              have hk98 := hkb1.below hw97.1 hkb1.lt
              have hv99 := BytesAt.below hv2 hw97.1 (fun h0 => hv2.lt h0)
              have hB100 := btr hB4 hw97.1
              obtain ⟨u, at1, err1, rfl, hso⟩ := hw97.2
              refine WL.p (.mv rfl) rfl <| WL.p (.ext rfl rfl) rfl <| WL.p (.ext rfl rfl) rfl <| WL.p (.ext rfl rfl) rfl <| WL.p (.as rfl) rfl <| WL.p (.as rfl) rfl <| WL.p (.as rfl) rfl <| WL.nil <| ?_
              refine W.seq ?_
              refine W.seq ?_
              refine W.reg ?_ -- 21
              refine WL.p (.mv rfl) rfl <| WL.p (.neq rfl rfl) rfl <| WL.nil <| ?_
              refine W.cond rfl (fun h101 => ?_) (fun h101 => ?_) -- slot 82
              · have h101' := ndT h101
                obtain ⟨ho, rfl⟩ := hso.cases.resolve_right (fun h => by obtain ⟨_, _, _, _, _, h0, _⟩ := h; omega)
                refine W.seq ?_
                refine W.reg ?_ -- 22
                refine WL.p (.mv rfl) rfl <| WL.c1 hb154 rfl rfl ((ref_none _ _)) (fun w102 hw102 => ?_)
                have hk103 := hk98.below hw102 hk98.lt
                have hv104 := BytesAt.below hv99 hw102 (fun h0 => hv99.lt h0)
                have hB105 := btr hB100 hw102
                refine WL.p (.ext rfl rfl) rfl <| WL.p (.ext rfl rfl) rfl <| WL.p (.ext rfl rfl) rfl <| WL.stL rfl rfl hk103 isz143 rfl rfl (fun w106 hkw106 huw106 hsw106 => ?_)
                have hv107 := BytesAt.upd hv104 huw106 (fun h0 => Nat.ne_of_lt (hvl3 h0))
                have hB108 := Upd.below hB105 (by omega) huw106
                refine WL.p (.as rfl) rfl <| WL.p (.as rfl) rfl <| WL.nil <| ?_
                refine W.ret (W.retc3 rfl rfl (ldRow hkw106 Tryz.underlying143 rfl isz143) rfl rfl ?_)
                first
                | exact ⟨ret_val (by unfold nextR; rw [if_pos (by omega)]; (first | done | rfl)), hB108⟩
                | exact ⟨ret_val (by rw [hN, tokS_end hsd (by omega)]; (first | done | rfl)), hB108⟩
                | exact ⟨ret_val (by rw [hX, ho]; (first | done | rfl)), hB108⟩
                | exact ⟨ret_val (by rw [hX, ho]; simp only [textS]; rw [if_pos (by omega)]; (first | done | rfl)), hB108⟩
                | exact ⟨ret_val (by rw [hX, ho]; simp only [textS]; rw [if_neg (by omega), nrOf_drop _ _ _ hk]; (first | done | rfl)), hB108⟩
                | exact ⟨ret_val (by rw [hN, hT, show x = 41 from u8_eq (by assumption), tokC41]; (first | done | rfl)), hB108⟩
                | exact ⟨ret_val (by rw [hN, hT, show x = 123 from u8_eq (by assumption), tokC123, nrOf_drop _ _ _ (by omega)]; (first | done | rfl)), hB108⟩
                | exact ⟨ret_val (by rw [hN, hT, show x = 125 from u8_eq (by assumption), tokC125, nrOf_drop _ _ _ (by omega)]; (first | done | rfl)), hB108⟩
                | exact ⟨ret_val (by rw [hN, hT, show x = 91 from u8_eq (by assumption), tokC91, nrOf_drop _ _ _ (by omega)]; (first | done | rfl)), hB108⟩
                | exact ⟨ret_val (by rw [hN, hT, show x = 93 from u8_eq (by assumption), tokC93, nrOf_drop _ _ _ (by omega)]; (first | done | rfl)), hB108⟩
                | exact ⟨ret_val (by rw [hN, hT, show x = 60 from u8_eq (by assumption), tokC60, angle_eq (by decide) hy, if_pos (show y = 60 from u8_eq (by assumption)), nrOf_drop _ _ _ (by omega)]; (first | done | rfl)), hB108⟩
                | exact ⟨ret_val (by rw [hN, hT, show x = 62 from u8_eq (by assumption), tokC62, angle_eq (by decide) hy, if_pos (show y = 62 from u8_eq (by assumption)), nrOf_drop _ _ _ (by omega)]; (first | done | rfl)), hB108⟩
                | exact ⟨ret_val (by rw [hN, hT, show x = 62 from u8_eq (by assumption), tokC62, angle_eq (by decide) hy, if_neg (u8_ne (d := 62) (show ¬ (y.toNat : Int) = 62 from by omega)), if_neg (by decide)]; (first | done | rfl)), hB108⟩
                | exact ⟨ret_val (by rw [hN, hT, show x = 47 from u8_eq (by assumption), tokC47, slash_eq hy, if_pos (show y = 47 from u8_eq (by assumption)), nameS_at _ _ _ (by omega)]; (first | done | rfl)), hB108⟩
                | exact ⟨ret_val (by rw [hN, hT, show x = 47 from u8_eq (by assumption), tokC47, slash_eq hy, if_neg (u8_ne (d := 47) (show ¬ (y.toNat : Int) = 47 from by omega)), nameS_at _ _ _ (by omega)]; (first | done | rfl)), hB108⟩
                | exact ⟨ret_val (by rw [hX, if_pos (by assumption)]; (first | done | rfl)), hB108⟩
                | exact ⟨ret_val (by rw [hX, if_neg (fun h => h (by assumption)), if_pos (by assumption)]; (first | done | rfl)), hB108⟩
                | exact ⟨ret_val (by rw [hX, if_neg (fun h => by simp_all), if_neg (bF (by assumption))]; (first | done | rfl)), hB108⟩
                | (exfalso; omega)
              · have h101' := ndF h101
                obtain ⟨s1, k, q, cq, ho, rfl, rfl, hk, hs1, rfl, hq⟩ := hso.cases.resolve_left (fun h => by have := h.2; omega)
                refine W.skip ?_
                refine W.seq ?_
                refine W.seq ?_
                refine W.reg ?_ -- 23
                refine WL.p (.mv rfl) rfl <| WL.p (.lenS Tryz.underlying22 rfl) rfl <| WL.p (.gtr rfl rfl) rfl <| WL.nil <| ?_
                refine W.cond rfl (fun h109 => ?_) (fun h109 => ?_) -- slot 90
                · have h109' := of_decide_eq_true h109
                  refine W.seq ?_
                  refine W.reg ?_ -- 24
                  refine WL.c1 hb154 rfl rfl ((ref_none _ _)) (fun w110 hw110 => ?_)
                  have hk111 := hk98.below hw110 hk98.lt
                  have hv112 := BytesAt.below hv99 hw110 (fun h0 => hv99.lt h0)
                  have hB113 := btr hB100 hw110
                  refine WL.p (.ext rfl rfl) rfl <| WL.p (.ext rfl rfl) rfl <| WL.p (.ext rfl rfl) rfl <| WL.stL rfl rfl hk111 isz143 rfl rfl (fun w114 hkw114 huw114 hsw114 => ?_)
                  have hv115 := BytesAt.upd hv112 huw114 (fun h0 => Nat.ne_of_lt (hvl3 h0))
                  have hB116 := Upd.below hB113 (by omega) huw114
                  refine WL.p (.as rfl) rfl <| WL.p (.as rfl) rfl <| WL.nil <| ?_
                  refine W.ret (W.retc3 rfl rfl (ldRow hkw114 Tryz.underlying143 rfl isz143) rfl rfl ?_)
                  first
                  | exact ⟨ret_val (by unfold nextR; rw [if_pos (by omega)]; (first | done | rfl)), hB116⟩
                  | exact ⟨ret_val (by rw [hN, tokS_end hsd (by omega)]; (first | done | rfl)), hB116⟩
                  | exact ⟨ret_val (by rw [hX, ho]; (first | done | rfl)), hB116⟩
                  | exact ⟨ret_val (by rw [hX, ho]; simp only [textS]; rw [if_pos (by omega)]; (first | done | rfl)), hB116⟩
                  | exact ⟨ret_val (by rw [hX, ho]; simp only [textS]; rw [if_neg (by omega), nrOf_drop _ _ _ hk]; (first | done | rfl)), hB116⟩
                  | exact ⟨ret_val (by rw [hN, hT, show x = 41 from u8_eq (by assumption), tokC41]; (first | done | rfl)), hB116⟩
                  | exact ⟨ret_val (by rw [hN, hT, show x = 123 from u8_eq (by assumption), tokC123, nrOf_drop _ _ _ (by omega)]; (first | done | rfl)), hB116⟩
                  | exact ⟨ret_val (by rw [hN, hT, show x = 125 from u8_eq (by assumption), tokC125, nrOf_drop _ _ _ (by omega)]; (first | done | rfl)), hB116⟩
                  | exact ⟨ret_val (by rw [hN, hT, show x = 91 from u8_eq (by assumption), tokC91, nrOf_drop _ _ _ (by omega)]; (first | done | rfl)), hB116⟩
                  | exact ⟨ret_val (by rw [hN, hT, show x = 93 from u8_eq (by assumption), tokC93, nrOf_drop _ _ _ (by omega)]; (first | done | rfl)), hB116⟩
                  | exact ⟨ret_val (by rw [hN, hT, show x = 60 from u8_eq (by assumption), tokC60, angle_eq (by decide) hy, if_pos (show y = 60 from u8_eq (by assumption)), nrOf_drop _ _ _ (by omega)]; (first | done | rfl)), hB116⟩
                  | exact ⟨ret_val (by rw [hN, hT, show x = 62 from u8_eq (by assumption), tokC62, angle_eq (by decide) hy, if_pos (show y = 62 from u8_eq (by assumption)), nrOf_drop _ _ _ (by omega)]; (first | done | rfl)), hB116⟩
                  | exact ⟨ret_val (by rw [hN, hT, show x = 62 from u8_eq (by assumption), tokC62, angle_eq (by decide) hy, if_neg (u8_ne (d := 62) (show ¬ (y.toNat : Int) = 62 from by omega)), if_neg (by decide)]; (first | done | rfl)), hB116⟩
                  | exact ⟨ret_val (by rw [hN, hT, show x = 47 from u8_eq (by assumption), tokC47, slash_eq hy, if_pos (show y = 47 from u8_eq (by assumption)), nameS_at _ _ _ (by omega)]; (first | done | rfl)), hB116⟩
                  | exact ⟨ret_val (by rw [hN, hT, show x = 47 from u8_eq (by assumption), tokC47, slash_eq hy, if_neg (u8_ne (d := 47) (show ¬ (y.toNat : Int) = 47 from by omega)), nameS_at _ _ _ (by omega)]; (first | done | rfl)), hB116⟩
                  | exact ⟨ret_val (by rw [hX, if_pos (by assumption)]; (first | done | rfl)), hB116⟩
                  | exact ⟨ret_val (by rw [hX, if_neg (fun h => h (by assumption)), if_pos (by assumption)]; (first | done | rfl)), hB116⟩
                  | exact ⟨ret_val (by rw [hX, if_neg (fun h => by simp_all), if_neg (bF (by assumption))]; (first | done | rfl)), hB116⟩
                  | (exfalso; omega)
                · have h109' := of_decide_eq_false h109
                  refine W.skip ?_
                  refine W.seq ?_
                  refine W.reg ?_ -- 25
                  refine WL.p (.mv rfl) rfl <| WL.r (Rd.b2s (l := s1) Tryz.underlying22 Tryz.underlying5 Tryz.underlying9 rfl (hq)) rfl <| ?_
                  refine WL.p (.buildL (ps := _) blt143 rfl rfl rfl (by simp only [put1, List.map, List.zip, List.zipWith, List.set] <;> rfl)) rfl ?_
                  refine WL.p (.mv rfl) rfl <| WL.stL rfl rfl hk98 isz143 rfl rfl (fun w117 hkw117 huw117 hsw117 => ?_)
                  have hv118 := BytesAt.upd hv99 huw117 (fun h0 => Nat.ne_of_lt (hvl3 h0))
                  have hB119 := Upd.below hB100 (by omega) huw117
                  refine WL.p (.as rfl) rfl <| WL.p (.as rfl) rfl <| WL.nil <| ?_
                  refine W.ret (W.retc3 rfl rfl (ldRow hkw117 Tryz.underlying143 rfl isz143) rfl rfl ?_)
                  first
                  | exact ⟨ret_val (by unfold nextR; rw [if_pos (by omega)]; (first | done | rfl)), hB119⟩
                  | exact ⟨ret_val (by rw [hN, tokS_end hsd (by omega)]; (first | done | rfl)), hB119⟩
                  | exact ⟨ret_val (by rw [hX, ho]; (first | done | rfl)), hB119⟩
                  | exact ⟨ret_val (by rw [hX, ho]; simp only [textS]; rw [if_pos (by omega)]; (first | done | rfl)), hB119⟩
                  | exact ⟨ret_val (by rw [hX, ho]; simp only [textS]; rw [if_neg (by omega), nrOf_drop _ _ _ hk]; (first | done | rfl)), hB119⟩
                  | exact ⟨ret_val (by rw [hN, hT, show x = 41 from u8_eq (by assumption), tokC41]; (first | done | rfl)), hB119⟩
                  | exact ⟨ret_val (by rw [hN, hT, show x = 123 from u8_eq (by assumption), tokC123, nrOf_drop _ _ _ (by omega)]; (first | done | rfl)), hB119⟩
                  | exact ⟨ret_val (by rw [hN, hT, show x = 125 from u8_eq (by assumption), tokC125, nrOf_drop _ _ _ (by omega)]; (first | done | rfl)), hB119⟩
                  | exact ⟨ret_val (by rw [hN, hT, show x = 91 from u8_eq (by assumption), tokC91, nrOf_drop _ _ _ (by omega)]; (first | done | rfl)), hB119⟩
                  | exact ⟨ret_val (by rw [hN, hT, show x = 93 from u8_eq (by assumption), tokC93, nrOf_drop _ _ _ (by omega)]; (first | done | rfl)), hB119⟩
                  | exact ⟨ret_val (by rw [hN, hT, show x = 60 from u8_eq (by assumption), tokC60, angle_eq (by decide) hy, if_pos (show y = 60 from u8_eq (by assumption)), nrOf_drop _ _ _ (by omega)]; (first | done | rfl)), hB119⟩
                  | exact ⟨ret_val (by rw [hN, hT, show x = 62 from u8_eq (by assumption), tokC62, angle_eq (by decide) hy, if_pos (show y = 62 from u8_eq (by assumption)), nrOf_drop _ _ _ (by omega)]; (first | done | rfl)), hB119⟩
                  | exact ⟨ret_val (by rw [hN, hT, show x = 62 from u8_eq (by assumption), tokC62, angle_eq (by decide) hy, if_neg (u8_ne (d := 62) (show ¬ (y.toNat : Int) = 62 from by omega)), if_neg (by decide)]; (first | done | rfl)), hB119⟩
                  | exact ⟨ret_val (by rw [hN, hT, show x = 47 from u8_eq (by assumption), tokC47, slash_eq hy, if_pos (show y = 47 from u8_eq (by assumption)), nameS_at _ _ _ (by omega)]; (first | done | rfl)), hB119⟩
                  | exact ⟨ret_val (by rw [hN, hT, show x = 47 from u8_eq (by assumption), tokC47, slash_eq hy, if_neg (u8_ne (d := 47) (show ¬ (y.toNat : Int) = 47 from by omega)), nameS_at _ _ _ (by omega)]; (first | done | rfl)), hB119⟩
                  | exact ⟨ret_val (by rw [hX, if_pos (by assumption)]; (first | done | rfl)), hB119⟩
                  | exact ⟨ret_val (by rw [hX, if_neg (fun h => h (by assumption)), if_pos (by assumption)]; (first | done | rfl)), hB119⟩
                  | exact ⟨ret_val (by rw [hX, if_neg (fun h => by simp_all), if_neg (bF (by assumption))]; (first | done | rfl)), hB119⟩
                  | (exfalso; omega)
        · have h20' := of_decide_eq_false h20
          refine W.reg ?_ -- 12
          refine WL.p (.eql rfl rfl) rfl <| WL.p (.as rfl) rfl <| WL.nil <| ?_
          refine W.cond rfl (fun h120 => ?_) (fun h120 => ?_) -- slot 53
          · have h120' := of_decide_eq_true h120
            refine W.seq ?_
            refine W.seq ?_
            refine W.reg ?_ -- 13
            refine WL.p (.mv rfl) rfl <| WL.p (.eql rfl rfl) rfl <| WL.p (.mv rfl) rfl <| WL.gd rfl rfl rfl (fun g121 => ?_) (fun g121 => ?_)
            · have g121' := of_decide_eq_true g121
              refine WL.p (.mv rfl) rfl <| WL.gy rfl rfl rfl g121 <| WL.p (.eql rfl rfl) rfl <| WL.p (.pkT rfl g121 rfl) rfl <| WL.nil <| ?_
              refine W.cond rfl (fun h122 => ?_) (fun h122 => ?_) -- slot 61
              · have h122' := of_decide_eq_true h122
                refine W.seq ?_
                refine W.reg ?_ -- 14
                refine WL.p (.buildL (ps := _) blt143 rfl rfl rfl (by simp only [put1, List.map, List.zip, List.zipWith, List.set] <;> rfl)) rfl ?_
                refine WL.p (.mv rfl) rfl <| WL.p (.iis (((s + 1 + 1 : Nat) : Int)) (.add rfl rfl (i64w (by omega))) (by omega)) rfl <| WL.stL rfl rfl hkb1 isz143 rfl rfl (fun w123 hkw123 huw123 hsw123 => ?_)
                have hv124 := BytesAt.upd hv2 huw123 (fun h0 => Nat.ne_of_lt (hvl3 h0))
                have hB125 := Upd.below hB4 (by omega) huw123
                refine WL.p (.as rfl) rfl <| WL.p (.as rfl) rfl <| WL.nil <| ?_
                refine W.ret (W.retc3 rfl rfl (ldRow hkw123 Tryz.underlying143 rfl isz143) rfl rfl ?_)
                first
                | exact ⟨ret_val (by unfold nextR; rw [if_pos (by omega)]; (first | done | rfl)), hB125⟩
                | exact ⟨ret_val (by rw [hN, tokS_end hsd (by omega)]; (first | done | rfl)), hB125⟩
                | exact ⟨ret_val (by rw [hX, ho]; (first | done | rfl)), hB125⟩
                | exact ⟨ret_val (by rw [hX, ho]; simp only [textS]; rw [if_pos (by omega)]; (first | done | rfl)), hB125⟩
                | exact ⟨ret_val (by rw [hX, ho]; simp only [textS]; rw [if_neg (by omega), nrOf_drop _ _ _ hk]; (first | done | rfl)), hB125⟩
                | exact ⟨ret_val (by rw [hN, hT, show x = 41 from u8_eq (by assumption), tokC41]; (first | done | rfl)), hB125⟩
                | exact ⟨ret_val (by rw [hN, hT, show x = 123 from u8_eq (by assumption), tokC123, nrOf_drop _ _ _ (by omega)]; (first | done | rfl)), hB125⟩
                | exact ⟨ret_val (by rw [hN, hT, show x = 125 from u8_eq (by assumption), tokC125, nrOf_drop _ _ _ (by omega)]; (first | done | rfl)), hB125⟩
                | exact ⟨ret_val (by rw [hN, hT, show x = 91 from u8_eq (by assumption), tokC91, nrOf_drop _ _ _ (by omega)]; (first | done | rfl)), hB125⟩
                | exact ⟨ret_val (by rw [hN, hT, show x = 93 from u8_eq (by assumption), tokC93, nrOf_drop _ _ _ (by omega)]; (first | done | rfl)), hB125⟩
                | exact ⟨ret_val (by rw [hN, hT, show x = 60 from u8_eq (by assumption), tokC60, angle_eq (by decide) hy, if_pos (show y = 60 from u8_eq (by assumption)), nrOf_drop _ _ _ (by omega)]; (first | done | rfl)), hB125⟩
                | exact ⟨ret_val (by rw [hN, hT, show x = 62 from u8_eq (by assumption), tokC62, angle_eq (by decide) hy, if_pos (show y = 62 from u8_eq (by assumption)), nrOf_drop _ _ _ (by omega)]; (first | done | rfl)), hB125⟩
                | exact ⟨ret_val (by rw [hN, hT, show x = 62 from u8_eq (by assumption), tokC62, angle_eq (by decide) hy, if_neg (u8_ne (d := 62) (show ¬ (y.toNat : Int) = 62 from by omega)), if_neg (by decide)]; (first | done | rfl)), hB125⟩
                | exact ⟨ret_val (by rw [hN, hT, show x = 47 from u8_eq (by assumption), tokC47, slash_eq hy, if_pos (show y = 47 from u8_eq (by assumption)), nameS_at _ _ _ (by omega)]; (first | done | rfl)), hB125⟩
                | exact ⟨ret_val (by rw [hN, hT, show x = 47 from u8_eq (by assumption), tokC47, slash_eq hy, if_neg (u8_ne (d := 47) (show ¬ (y.toNat : Int) = 47 from by omega)), nameS_at _ _ _ (by omega)]; (first | done | rfl)), hB125⟩
                | exact ⟨ret_val (by rw [hX, if_pos (by assumption)]; (first | done | rfl)), hB125⟩
                | exact ⟨ret_val (by rw [hX, if_neg (fun h => h (by assumption)), if_pos (by assumption)]; (first | done | rfl)), hB125⟩
                | exact ⟨ret_val (by rw [hX, if_neg (fun h => by simp_all), if_neg (bF (by assumption))]; (first | done | rfl)), hB125⟩
                | (exfalso; omega)
              · have h122' := of_decide_eq_false h122
                refine W.skip ?_
                refine W.seq ?_
                refine W.reg ?_ -- 15
                refine WL.p (.as rfl) rfl <| WL.nil <| ?_
                refine W.seq ?_
                refine W.reg ?_ -- 16
                refine WL.p (.as rfl) rfl <| WL.nil <| ?_
                refine W.seq ?_
                refine W.reg ?_ -- 17
                refine WL.p (.as rfl) rfl <| WL.nil <| ?_
                refine W.seq ?_
                refine W.seq ?_
                refine W.reg ?_ -- 18
                refine WL.p (.mv rfl) rfl <| WL.p (.eql rfl rfl) rfl <| WL.nil <| ?_
                refine W.cond rfl (fun h126 => ?_) (fun h126 => ?_) -- slot 66
                · have h126' := of_decide_eq_true h126
                  have hX : nextR l (n : Int) = nrOf l (textS (roundS 1 [] (l.drop (s + 1)))) := by rw [hN, hT, show x = 40 from u8_eq (by assumption), tokC40]
                  refine W.reg ?_ -- 19
                  refine WL.p (.mv rfl) rfl <| WL.p (.mv rfl) rfl <| WL.call hb155 rfl rfl ((ref_Round p l c s _ hv2 (by omega) hl)) (fun v w127 hw127 => ?_)
                  have hk128 := hkb1.below hw127.1 hkb1.lt
                  have hv129 := BytesAt.below hv2 hw127.1 (fun h0 => hv2.lt h0)
                  have hB130 := btr hB4 hw127.1
                  obtain ⟨u, at1, err1, rfl, hso⟩ := hw127.2
                  refine WL.p (.mv rfl) rfl <| WL.p (.ext rfl rfl) rfl <| WL.p (.ext rfl rfl) rfl <| WL.p (.ext rfl rfl) rfl <| WL.p (.as rfl) rfl <| WL.p (.as rfl) rfl <| WL.p (.as rfl) rfl <| WL.nil <| ?_
                  refine W.seq ?_
                  refine W.seq ?_
                  refine W.reg ?_ -- 21
                  refine WL.p (.mv rfl) rfl <| WL.p (.neq rfl rfl) rfl <| WL.nil <| ?_
                  refine W.cond rfl (fun h131 => ?_) (fun h131 => ?_) -- slot 82
                  · have h131' := ndT h131
                    obtain ⟨ho, rfl⟩ := hso.cases.resolve_right (fun h => by obtain ⟨_, _, _, _, _, h0, _⟩ := h; omega)
                    refine W.seq ?_
                    refine W.reg ?_ -- 22
                    refine WL.p (.mv rfl) rfl <| WL.c1 hb154 rfl rfl ((ref_none _ _)) (fun w132 hw132 => ?_)
                    have hk133 := hk128.below hw132 hk128.lt
                    have hv134 := BytesAt.below hv129 hw132 (fun h0 => hv129.lt h0)
                    have hB135 := btr hB130 hw132
                    refine WL.p (.ext rfl rfl) rfl <| WL.p (.ext rfl rfl) rfl <| WL.p (.ext rfl rfl) rfl <| WL.stL rfl rfl hk133 isz143 rfl rfl (fun w136 hkw136 huw136 hsw136 => ?_)
                    have hv137 := BytesAt.upd hv134 huw136 (fun h0 => Nat.ne_of_lt (hvl3 h0))
                    have hB138 := Upd.below hB135 (by omega) huw136
                    refine WL.p (.as rfl) rfl <| WL.p (.as rfl) rfl <| WL.nil <| ?_
                    refine W.ret (W.retc3 rfl rfl (ldRow hkw136 Tryz.underlying143 rfl isz143) rfl rfl ?_)
                    first
                    | exact ⟨ret_val (by unfold nextR; rw [if_pos (by omega)]; (first | done | rfl)), hB138⟩
                    | exact ⟨ret_val (by rw [hN, tokS_end hsd (by omega)]; (first | done | rfl)), hB138⟩
                    | exact ⟨ret_val (by rw [hX, ho]; (first | done | rfl)), hB138⟩
                    | exact ⟨ret_val (by rw [hX, ho]; simp only [textS]; rw [if_pos (by omega)]; (first | done | rfl)), hB138⟩
                    | exact ⟨ret_val (by rw [hX, ho]; simp only [textS]; rw [if_neg (by omega), nrOf_drop _ _ _ hk]; (first | done | rfl)), hB138⟩
                    | exact ⟨ret_val (by rw [hN, hT, show x = 41 from u8_eq (by assumption), tokC41]; (first | done | rfl)), hB138⟩
                    | exact ⟨ret_val (by rw [hN, hT, show x = 123 from u8_eq (by assumption), tokC123, nrOf_drop _ _ _ (by omega)]; (first | done | rfl)), hB138⟩
                    | exact ⟨ret_val (by rw [hN, hT, show x = 125 from u8_eq (by assumption), tokC125, nrOf_drop _ _ _ (by omega)]; (first | done | rfl)), hB138⟩
                    | exact ⟨ret_val (by rw [hN, hT, show x = 91 from u8_eq (by assumption), tokC91, nrOf_drop _ _ _ (by omega)]; (first | done | rfl)), hB138⟩
                    | exact ⟨ret_val (by rw [hN, hT, show x = 93 from u8_eq (by assumption), tokC93, nrOf_drop _ _ _ (by omega)]; (first | done | rfl)), hB138⟩
                    | exact ⟨ret_val (by rw [hN, hT, show x = 60 from u8_eq (by assumption), tokC60, angle_eq (by decide) hy, if_pos (show y = 60 from u8_eq (by assumption)), nrOf_drop _ _ _ (by omega)]; (first | done | rfl)), hB138⟩
                    | exact ⟨ret_val (by rw [hN, hT, show x = 62 from u8_eq (by assumption), tokC62, angle_eq (by decide) hy, if_pos (show y = 62 from u8_eq (by assumption)), nrOf_drop _ _ _ (by omega)]; (first | done | rfl)), hB138⟩
                    | exact ⟨ret_val (by rw [hN, hT, show x = 62 from u8_eq (by assumption), tokC62, angle_eq (by decide) hy, if_neg (u8_ne (d := 62) (show ¬ (y.toNat : Int) = 62 from by omega)), if_neg (by decide)]; (first | done | rfl)), hB138⟩
                    | exact ⟨ret_val (by rw [hN, hT, show x = 47 from u8_eq (by assumption), tokC47, slash_eq hy, if_pos (show y = 47 from u8_eq (by assumption)), nameS_at _ _ _ (by omega)]; (first | done | rfl)), hB138⟩
                    | exact ⟨ret_val (by rw [hN, hT, show x = 47 from u8_eq (by assumption), tokC47, slash_eq hy, if_neg (u8_ne (d := 47) (show ¬ (y.toNat : Int) = 47 from by omega)), nameS_at _ _ _ (by omega)]; (first | done | rfl)), hB138⟩
                    | exact ⟨ret_val (by rw [hX, if_pos (by assumption)]; (first | done | rfl)), hB138⟩
                    | exact ⟨ret_val (by rw [hX, if_neg (fun h => h (by assumption)), if_pos (by assumption)]; (first | done | rfl)), hB138⟩
                    | exact ⟨ret_val (by rw [hX, if_neg (fun h => by simp_all), if_neg (bF (by assumption))]; (first | done | rfl)), hB138⟩
                    | (exfalso; omega)
                  · have h131' := ndF h131
                    obtain ⟨s1, k, q, cq, ho, rfl, rfl, hk, hs1, rfl, hq⟩ := hso.cases.resolve_left (fun h => by have := h.2; omega)
                    refine W.skip ?_
                    refine W.seq ?_
                    refine W.seq ?_
                    refine W.reg ?_ -- 23
                    refine WL.p (.mv rfl) rfl <| WL.p (.lenS Tryz.underlying22 rfl) rfl <| WL.p (.gtr rfl rfl) rfl <| WL.nil <| ?_
                    refine W.cond rfl (fun h139 => ?_) (fun h139 => ?_) -- slot 90
                    · have h139' := of_decide_eq_true h139
                      refine W.seq ?_
                      refine W.reg ?_ -- 24
                      refine WL.c1 hb154 rfl rfl ((ref_none _ _)) (fun w140 hw140 => ?_)
                      have hk141 := hk128.below hw140 hk128.lt
                      have hv142 := BytesAt.below hv129 hw140 (fun h0 => hv129.lt h0)
                      have hB143 := btr hB130 hw140
                      refine WL.p (.ext rfl rfl) rfl <| WL.p (.ext rfl rfl) rfl <| WL.p (.ext rfl rfl) rfl <| WL.stL rfl rfl hk141 isz143 rfl rfl (fun w144 hkw144 huw144 hsw144 => ?_)
                      have hv145 := BytesAt.upd hv142 huw144 (fun h0 => Nat.ne_of_lt (hvl3 h0))
                      have hB146 := Upd.below hB143 (by omega) huw144
                      refine WL.p (.as rfl) rfl <| WL.p (.as rfl) rfl <| WL.nil <| ?_
                      refine W.ret (W.retc3 rfl rfl (ldRow hkw144 Tryz.underlying143 rfl isz143) rfl rfl ?_)
                      first
                      | exact ⟨ret_val (by unfold nextR; rw [if_pos (by omega)]; (first | done | rfl)), hB146⟩
                      | exact ⟨ret_val (by rw [hN, tokS_end hsd (by omega)]; (first | done | rfl)), hB146⟩
                      | exact ⟨ret_val (by rw [hX, ho]; (first | done | rfl)), hB146⟩
                      | exact ⟨ret_val (by rw [hX, ho]; simp only [textS]; rw [if_pos (by omega)]; (first | done | rfl)), hB146⟩
                      | exact ⟨ret_val (by rw [hX, ho]; simp only [textS]; rw [if_neg (by omega), nrOf_drop _ _ _ hk]; (first | done | rfl)), hB146⟩
                      | exact ⟨ret_val (by rw [hN, hT, show x = 41 from u8_eq (by assumption), tokC41]; (first | done | rfl)), hB146⟩
                      | exact ⟨ret_val (by rw [hN, hT, show x = 123 from u8_eq (by assumption), tokC123, nrOf_drop _ _ _ (by omega)]; (first | done | rfl)), hB146⟩
                      | exact ⟨ret_val (by rw [hN, hT, show x = 125 from u8_eq (by assumption), tokC125, nrOf_drop _ _ _ (by omega)]; (first | done | rfl)), hB146⟩
                      | exact ⟨ret_val (by rw [hN, hT, show x = 91 from u8_eq (by assumption), tokC91, nrOf_drop _ _ _ (by omega)]; (first | done | rfl)), hB146⟩
                      | exact ⟨ret_val (by rw [hN, hT, show x = 93 from u8_eq (by assumption), tokC93, nrOf_drop _ _ _ (by omega)]; (first | done | rfl)), hB146⟩
                      | exact ⟨ret_val (by rw [hN, hT, show x = 60 from u8_eq (by assumption), tokC60, angle_eq (by decide) hy, if_pos (show y = 60 from u8_eq (by assumption)), nrOf_drop _ _ _ (by omega)]; (first | done | rfl)), hB146⟩
                      | exact ⟨ret_val (by rw [hN, hT, show x = 62 from u8_eq (by assumption), tokC62, angle_eq (by decide) hy, if_pos (show y = 62 from u8_eq (by assumption)), nrOf_drop _ _ _ (by omega)]; (first | done | rfl)), hB146⟩
                      | exact ⟨ret_val (by rw [hN, hT, show x = 62 from u8_eq (by assumption), tokC62, angle_eq (by decide) hy, if_neg (u8_ne (d := 62) (show ¬ (y.toNat : Int) = 62 from by omega)), if_neg (by decide)]; (first | done | rfl)), hB146⟩
                      | exact ⟨ret_val (by rw [hN, hT, show x = 47 from u8_eq (by assumption), tokC47, slash_eq hy, if_pos (show y = 47 from u8_eq (by assumption)), nameS_at _ _ _ (by omega)]; (first | done | rfl)), hB146⟩
                      | exact ⟨ret_val (by rw [hN, hT, show x = 47 from u8_eq (by assumption), tokC47, slash_eq hy, if_neg (u8_ne (d := 47) (show ¬ (y.toNat : Int) = 47 from by omega)), nameS_at _ _ _ (by omega)]; (first | done | rfl)), hB146⟩
                      | exact ⟨ret_val (by rw [hX, if_pos (by assumption)]; (first | done | rfl)), hB146⟩
                      | exact ⟨ret_val (by rw [hX, if_neg (fun h => h (by assumption)), if_pos (by assumption)]; (first | done | rfl)), hB146⟩
                      | exact ⟨ret_val (by rw [hX, if_neg (fun h => by simp_all), if_neg (bF (by assumption))]; (first | done | rfl)), hB146⟩
                      | (exfalso; omega)
                    · have h139' := of_decide_eq_false h139
                      refine W.skip ?_
                      refine W.seq ?_
                      refine W.reg ?_ -- 25
                      refine WL.p (.mv rfl) rfl <| WL.r (Rd.b2s (l := s1) Tryz.underlying22 Tryz.underlying5 Tryz.underlying9 rfl (hq)) rfl <| ?_
                      refine WL.p (.buildL (ps := _) blt143 rfl rfl rfl (by simp only [put1, List.map, List.zip, List.zipWith, List.set] <;> rfl)) rfl ?_
                      refine WL.p (.mv rfl) rfl <| WL.stL rfl rfl hk128 isz143 rfl rfl (fun w147 hkw147 huw147 hsw147 => ?_)
                      have hv148 := BytesAt.upd hv129 huw147 (fun h0 => Nat.ne_of_lt (hvl3 h0))
                      have hB149 := Upd.below hB130 (by omega) huw147
                      refine WL.p (.as rfl) rfl <| WL.p (.as rfl) rfl <| WL.nil <| ?_
                      refine W.ret (W.retc3 rfl rfl (ldRow hkw147 Tryz.underlying143 rfl isz143) rfl rfl ?_)
                      first
                      | exact ⟨ret_val (by unfold nextR; rw [if_pos (by omega)]; (first | done | rfl)), hB149⟩
                      | exact ⟨ret_val (by rw [hN, tokS_end hsd (by omega)]; (first | done | rfl)), hB149⟩
                      | exact ⟨ret_val (by rw [hX, ho]; (first | done | rfl)), hB149⟩
                      | exact ⟨ret_val (by rw [hX, ho]; simp only [textS]; rw [if_pos (by omega)]; (first | done | rfl)), hB149⟩
                      | exact ⟨ret_val (by rw [hX, ho]; simp only [textS]; rw [if_neg (by omega), nrOf_drop _ _ _ hk]; (first | done | rfl)), hB149⟩
                      | exact ⟨ret_val (by rw [hN, hT, show x = 41 from u8_eq (by assumption), tokC41]; (first | done | rfl)), hB149⟩
                      | exact ⟨ret_val (by rw [hN, hT, show x = 123 from u8_eq (by assumption), tokC123, nrOf_drop _ _ _ (by omega)]; (first | done | rfl)), hB149⟩
                      | exact ⟨ret_val (by rw [hN, hT, show x = 125 from u8_eq (by assumption), tokC125, nrOf_drop _ _ _ (by omega)]; (first | done | rfl)), hB149⟩
                      | exact ⟨ret_val (by rw [hN, hT, show x = 91 from u8_eq (by assumption), tokC91, nrOf_drop _ _ _ (by omega)]; (first | done | rfl)), hB149⟩
                      | exact ⟨ret_val (by rw [hN, hT, show x = 93 from u8_eq (by assumption), tokC93, nrOf_drop _ _ _ (by omega)]; (first | done | rfl)), hB149⟩
                      | exact ⟨ret_val (by rw [hN, hT, show x = 60 from u8_eq (by assumption), tokC60, angle_eq (by decide) hy, if_pos (show y = 60 from u8_eq (by assumption)), nrOf_drop _ _ _ (by omega)]; (first | done | rfl)), hB149⟩
                      | exact ⟨ret_val (by rw [hN, hT, show x = 62 from u8_eq (by assumption), tokC62, angle_eq (by decide) hy, if_pos (show y = 62 from u8_eq (by assumption)), nrOf_drop _ _ _ (by omega)]; (first | done | rfl)), hB149⟩
                      | exact ⟨ret_val (by rw [hN, hT, show x = 62 from u8_eq (by assumption), tokC62, angle_eq (by decide) hy, if_neg (u8_ne (d := 62) (show ¬ (y.toNat : Int) = 62 from by omega)), if_neg (by decide)]; (first | done | rfl)), hB149⟩
                      | exact ⟨ret_val (by rw [hN, hT, show x = 47 from u8_eq (by assumption), tokC47, slash_eq hy, if_pos (show y = 47 from u8_eq (by assumption)), nameS_at _ _ _ (by omega)]; (first | done | rfl)), hB149⟩
                      | exact ⟨ret_val (by rw [hN, hT, show x = 47 from u8_eq (by assumption), tokC47, slash_eq hy, if_neg (u8_ne (d := 47) (show ¬ (y.toNat : Int) = 47 from by omega)), nameS_at _ _ _ (by omega)]; (first | done | rfl)), hB149⟩
                      | exact ⟨ret_val (by rw [hX, if_pos (by assumption)]; (first | done | rfl)), hB149⟩
                      | exact ⟨ret_val (by rw [hX, if_neg (fun h => h (by assumption)), if_pos (by assumption)]; (first | done | rfl)), hB149⟩
                      | exact ⟨ret_val (by rw [hX, if_neg (fun h => by simp_all), if_neg (bF (by assumption))]; (first | done | rfl)), hB149⟩
                      | (exfalso; omega)
                · have h126' := of_decide_eq_false h126
                  have hX : nextR l (n : Int) = nrOf l (textS (hexS none [] (l.drop (s + 1)))) := by
                    first
                    | (exfalso; omega)
                    | rw [hN, hT, show x = 60 from u8_eq (by assumption), tokC60, angle_eq (by decide) hy, if_neg (u8_ne (d := 60) (show ¬ (y.toNat : Int) = 60 from by omega)), if_pos rfl]
                  refine W.reg ?_ -- 20
                  refine WL.p (.mv rfl) rfl <| WL.p (.mv rfl) rfl <| WL.call hb156 rfl rfl ((ref_HexS p l c s _ hv2 (by omega) hl)) (fun v w150 hw150 => ?_)
                  have hk151 := hkb1.below hw150.1 hkb1.lt
                  have hv152 := BytesAt.below hv2 hw150.1 (fun h0 => hv2.lt h0)
                  have hB153 := btr hB4 hw150.1
                  obtain ⟨u, at1, err1, rfl, hso⟩ := hw150.2
                  refine WL.p (.mv rfl) rfl <| WL.p (.ext rfl rfl) rfl <| WL.p (.ext rfl rfl) rfl <| WL.p (.ext rfl rfl) rfl <| WL.p (.as rfl) rfl <| WL.p (.as rfl) rfl <| WL.p (.as rfl) rfl <| WL.nil <| ?_
                  refine W.seq ?_
                  refine W.seq ?_
                  refine W.reg ?_ -- 21
                  refine WL.p (.mv rfl) rfl <| WL.p (.neq rfl rfl) rfl <| WL.nil <| ?_
                  refine W.cond rfl (fun h154 => ?_) (fun h154 => ?_) -- slot 82
                  · have h154' := ndT h154
                    obtain ⟨ho, rfl⟩ := hso.cases.resolve_right (fun h => by obtain ⟨_, _, _, _, _, h0, _⟩ := h; omega)
                    refine W.seq ?_
                    refine W.reg ?_ -- 22
                    refine WL.p (.mv rfl) rfl <| WL.c1 hb154 rfl rfl ((ref_none _ _)) (fun w155 hw155 => ?_)
                    have hk156 := hk151.below hw155 hk151.lt
                    have hv157 := BytesAt.below hv152 hw155 (fun h0 => hv152.lt h0)
                    have hB158 := btr hB153 hw155
                    refine WL.p (.ext rfl rfl) rfl <| WL.p (.ext rfl rfl) rfl <| WL.p (.ext rfl rfl) rfl <| WL.stL rfl rfl hk156 isz143 rfl rfl (fun w159 hkw159 huw159 hsw159 => ?_)
                    have hv160 := BytesAt.upd hv157 huw159 (fun h0 => Nat.ne_of_lt (hvl3 h0))
                    have hB161 := Upd.below hB158 (by omega) huw159
                    refine WL.p (.as rfl) rfl <| WL.p (.as rfl) rfl <| WL.nil <| ?_
                    refine W.ret (W.retc3 rfl rfl (ldRow hkw159 Tryz.underlying143 rfl isz143) rfl rfl ?_)
                    first
                    | exact ⟨ret_val (by unfold nextR; rw [if_pos (by omega)]; (first | done | rfl)), hB161⟩
                    | exact ⟨ret_val (by rw [hN, tokS_end hsd (by omega)]; (first | done | rfl)), hB161⟩
                    | exact ⟨ret_val (by rw [hX, ho]; (first | done | rfl)), hB161⟩
                    | exact ⟨ret_val (by rw [hX, ho]; simp only [textS]; rw [if_pos (by omega)]; (first | done | rfl)), hB161⟩
                    | exact ⟨ret_val (by rw [hX, ho]; simp only [textS]; rw [if_neg (by omega), nrOf_drop _ _ _ hk]; (first | done | rfl)), hB161⟩
                    | exact ⟨ret_val (by rw [hN, hT, show x = 41 from u8_eq (by assumption), tokC41]; (first | done | rfl)), hB161⟩
                    | exact ⟨ret_val (by rw [hN, hT, show x = 123 from u8_eq (by assumption), tokC123, nrOf_drop _ _ _ (by omega)]; (first | done | rfl)), hB161⟩
                    | exact ⟨ret_val (by rw [hN, hT, show x = 125 from u8_eq (by assumption), tokC125, nrOf_drop _ _ _ (by omega)]; (first | done | rfl)), hB161⟩
                    | exact ⟨ret_val (by rw [hN, hT, show x = 91 from u8_eq (by assumption), tokC91, nrOf_drop _ _ _ (by omega)]; (first | done | rfl)), hB161⟩
                    | exact ⟨ret_val (by rw [hN, hT, show x = 93 from u8_eq (by assumption), tokC93, nrOf_drop _ _ _ (by omega)]; (first | done | rfl)), hB161⟩
                    | exact ⟨ret_val (by rw [hN, hT, show x = 60 from u8_eq (by assumption), tokC60, angle_eq (by decide) hy, if_pos (show y = 60 from u8_eq (by assumption)), nrOf_drop _ _ _ (by omega)]; (first | done | rfl)), hB161⟩
                    | exact ⟨ret_val (by rw [hN, hT, show x = 62 from u8_eq (by assumption), tokC62, angle_eq (by decide) hy, if_pos (show y = 62 from u8_eq (by assumption)), nrOf_drop _ _ _ (by omega)]; (first | done | rfl)), hB161⟩
                    | exact ⟨ret_val (by rw [hN, hT, show x = 62 from u8_eq (by assumption), tokC62, angle_eq (by decide) hy, if_neg (u8_ne (d := 62) (show ¬ (y.toNat : Int) = 62 from by omega)), if_neg (by decide)]; (first | done | rfl)), hB161⟩
                    | exact ⟨ret_val (by rw [hN, hT, show x = 47 from u8_eq (by assumption), tokC47, slash_eq hy, if_pos (show y = 47 from u8_eq (by assumption)), nameS_at _ _ _ (by omega)]; (first | done | rfl)), hB161⟩
                    | exact ⟨ret_val (by rw [hN, hT, show x = 47 from u8_eq (by assumption), tokC47, slash_eq hy, if_neg (u8_ne (d := 47) (show ¬ (y.toNat : Int) = 47 from by omega)), nameS_at _ _ _ (by omega)]; (first | done | rfl)), hB161⟩
                    | exact ⟨ret_val (by rw [hX, if_pos (by assumption)]; (first | done | rfl)), hB161⟩
                    | exact ⟨ret_val (by rw [hX, if_neg (fun h => h (by assumption)), if_pos (by assumption)]; (first | done | rfl)), hB161⟩
                    | exact ⟨ret_val (by rw [hX, if_neg (fun h => by simp_all), if_neg (bF (by assumption))]; (first | done | rfl)), hB161⟩
                    | (exfalso; omega)
                  · have h154' := ndF h154
                    obtain ⟨s1, k, q, cq, ho, rfl, rfl, hk, hs1, rfl, hq⟩ := hso.cases.resolve_left (fun h => by have := h.2; omega)
                    refine W.skip ?_
                    refine W.seq ?_
                    refine W.seq ?_
                    refine W.reg ?_ -- 23
                    refine WL.p (.mv rfl) rfl <| WL.p (.lenS Tryz.underlying22 rfl) rfl <| WL.p (.gtr rfl rfl) rfl <| WL.nil <| ?_
                    refine W.cond rfl (fun h162 => ?_) (fun h162 => ?_) -- slot 90
                    · have h162' := of_decide_eq_true h162
                      refine W.seq ?_
                      refine W.reg ?_ -- 24
                      refine WL.c1 hb154 rfl rfl ((ref_none _ _)) (fun w163 hw163 => ?_)
                      have hk164 := hk151.below hw163 hk151.lt
                      have hv165 := BytesAt.below hv152 hw163 (fun h0 => hv152.lt h0)
                      have hB166 := btr hB153 hw163
                      refine WL.p (.ext rfl rfl) rfl <| WL.p (.ext rfl rfl) rfl <| WL.p (.ext rfl rfl) rfl <| WL.stL rfl rfl hk164 isz143 rfl rfl (fun w167 hkw167 huw167 hsw167 => ?_)
                      have hv168 := BytesAt.upd hv165 huw167 (fun h0 => Nat.ne_of_lt (hvl3 h0))
                      have hB169 := Upd.below hB166 (by omega) huw167
                      refine WL.p (.as rfl) rfl <| WL.p (.as rfl) rfl <| WL.nil <| ?_
                      refine W.ret (W.retc3 rfl rfl (ldRow hkw167 Tryz.underlying143 rfl isz143) rfl rfl ?_)
                      first
                      | exact ⟨ret_val (by unfold nextR; rw [if_pos (by omega)]; (first | done | rfl)), hB169⟩
                      | exact ⟨ret_val (by rw [hN, tokS_end hsd (by omega)]; (first | done | rfl)), hB169⟩
                      | exact ⟨ret_val (by rw [hX, ho]; (first | done | rfl)), hB169⟩
                      | exact ⟨ret_val (by rw [hX, ho]; simp only [textS]; rw [if_pos (by omega)]; (first | done | rfl)), hB169⟩
                      | exact ⟨ret_val (by rw [hX, ho]; simp only [textS]; rw [if_neg (by omega), nrOf_drop _ _ _ hk]; (first | done | rfl)), hB169⟩
                      | exact ⟨ret_val (by rw [hN, hT, show x = 41 from u8_eq (by assumption), tokC41]; (first | done | rfl)), hB169⟩
                      | exact ⟨ret_val (by rw [hN, hT, show x = 123 from u8_eq (by assumption), tokC123, nrOf_drop _ _ _ (by omega)]; (first | done | rfl)), hB169⟩
                      | exact ⟨ret_val (by rw [hN, hT, show x = 125 from u8_eq (by assumption), tokC125, nrOf_drop _ _ _ (by omega)]; (first | done | rfl)), hB169⟩
                      | exact ⟨ret_val (by rw [hN, hT, show x = 91 from u8_eq (by assumption), tokC91, nrOf_drop _ _ _ (by omega)]; (first | done | rfl)), hB169⟩
                      | exact ⟨ret_val (by rw [hN, hT, show x = 93 from u8_eq (by assumption), tokC93, nrOf_drop _ _ _ (by omega)]; (first | done | rfl)), hB169⟩
                      | exact ⟨ret_val (by rw [hN, hT, show x = 60 from u8_eq (by assumption), tokC60, angle_eq (by decide) hy, if_pos (show y = 60 from u8_eq (by assumption)), nrOf_drop _ _ _ (by omega)]; (first | done | rfl)), hB169⟩
                      | exact ⟨ret_val (by rw [hN, hT, show x = 62 from u8_eq (by assumption), tokC62, angle_eq (by decide) hy, if_pos (show y = 62 from u8_eq (by assumption)), nrOf_drop _ _ _ (by omega)]; (first | done | rfl)), hB169⟩
                      | exact ⟨ret_val (by rw [hN, hT, show x = 62 from u8_eq (by assumption), tokC62, angle_eq (by decide) hy, if_neg (u8_ne (d := 62) (show ¬ (y.toNat : Int) = 62 from by omega)), if_neg (by decide)]; (first | done | rfl)), hB169⟩
                      | exact ⟨ret_val (by rw [hN, hT, show x = 47 from u8_eq (by assumption), tokC47, slash_eq hy, if_pos (show y = 47 from u8_eq (by assumption)), nameS_at _ _ _ (by omega)]; (first | done | rfl)), hB169⟩
                      | exact ⟨ret_val (by rw [hN, hT, show x = 47 from u8_eq (by assumption), tokC47, slash_eq hy, if_neg (u8_ne (d := 47) (show ¬ (y.toNat : Int) = 47 from by omega)), nameS_at _ _ _ (by omega)]; (first | done | rfl)), hB169⟩
                      | exact ⟨ret_val (by rw [hX, if_pos (by assumption)]; (first | done | rfl)), hB169⟩
                      | exact ⟨ret_val (by rw [hX, if_neg (fun h => h (by assumption)), if_pos (by assumption)]; (first | done | rfl)), hB169⟩
                      | exact ⟨ret_val (by rw [hX, if_neg (fun h => by simp_all), if_neg (bF (by assumption))]; (first | done | rfl)), hB169⟩
                      | (exfalso; omega)
                    · have h162' := of_decide_eq_false h162
                      refine W.skip ?_
                      refine W.seq ?_
                      refine W.reg ?_ -- 25
                      refine WL.p (.mv rfl) rfl <| WL.r (Rd.b2s (l := s1) Tryz.underlying22 Tryz.underlying5 Tryz.underlying9 rfl (hq)) rfl <| ?_
                      refine WL.p (.buildL (ps := _) blt143 rfl rfl rfl (by simp only [put1, List.map, List.zip, List.zipWith, List.set] <;> rfl)) rfl ?_
                      refine WL.p (.mv rfl) rfl <| WL.stL rfl rfl hk151 isz143 rfl rfl (fun w170 hkw170 huw170 hsw170 => ?_)
                      have hv171 := BytesAt.upd hv152 huw170 (fun h0 => Nat.ne_of_lt (hvl3 h0))
                      have hB172 := Upd.below hB153 (by omega) huw170
                      refine WL.p (.as rfl) rfl <| WL.p (.as rfl) rfl <| WL.nil <| ?_
                      refine W.ret (W.retc3 rfl rfl (ldRow hkw170 Tryz.underlying143 rfl isz143) rfl rfl ?_)
                      first
                      | exact ⟨ret_val (by unfold nextR; rw [if_pos (by omega)]; (first | done | rfl)), hB172⟩
                      | exact ⟨ret_val (by rw [hN, tokS_end hsd (by omega)]; (first | done | rfl)), hB172⟩
                      | exact ⟨ret_val (by rw [hX, ho]; (first | done | rfl)), hB172⟩
                      | exact ⟨ret_val (by rw [hX, ho]; simp only [textS]; rw [if_pos (by omega)]; (first | done | rfl)), hB172⟩
                      | exact ⟨ret_val (by rw [hX, ho]; simp only [textS]; rw [if_neg (by omega), nrOf_drop _ _ _ hk]; (first | done | rfl)), hB172⟩
                      | exact ⟨ret_val (by rw [hN, hT, show x = 41 from u8_eq (by assumption), tokC41]; (first | done | rfl)), hB172⟩
                      | exact ⟨ret_val (by rw [hN, hT, show x = 123 from u8_eq (by assumption), tokC123, nrOf_drop _ _ _ (by omega)]; (first | done | rfl)), hB172⟩
                      | exact ⟨ret_val (by rw [hN, hT, show x = 125 from u8_eq (by assumption), tokC125, nrOf_drop _ _ _ (by omega)]; (first | done | rfl)), hB172⟩
                      | exact ⟨ret_val (by rw [hN, hT, show x = 91 from u8_eq (by assumption), tokC91, nrOf_drop _ _ _ (by omega)]; (first | done | rfl)), hB172⟩
                      | exact ⟨ret_val (by rw [hN, hT, show x = 93 from u8_eq (by assumption), tokC93, nrOf_drop _ _ _ (by omega)]; (first | done | rfl)), hB172⟩
                      | exact ⟨ret_val (by rw [hN, hT, show x = 60 from u8_eq (by assumption), tokC60, angle_eq (by decide) hy, if_pos (show y = 60 from u8_eq (by assumption)), nrOf_drop _ _ _ (by omega)]; (first | done | rfl)), hB172⟩
                      | exact ⟨ret_val (by rw [hN, hT, show x = 62 from u8_eq (by assumption), tokC62, angle_eq (by decide) hy, if_pos (show y = 62 from u8_eq (by assumption)), nrOf_drop _ _ _ (by omega)]; (first | done | rfl)), hB172⟩
                      | exact ⟨ret_val (by rw [hN, hT, show x = 62 from u8_eq (by assumption), tokC62, angle_eq (by decide) hy, if_neg (u8_ne (d := 62) (show ¬ (y.toNat : Int) = 62 from by omega)), if_neg (by decide)]; (first | done | rfl)), hB172⟩
                      | exact ⟨ret_val (by rw [hN, hT, show x = 47 from u8_eq (by assumption), tokC47, slash_eq hy, if_pos (show y = 47 from u8_eq (by assumption)), nameS_at _ _ _ (by omega)]; (first | done | rfl)), hB172⟩
                      | exact ⟨ret_val (by rw [hN, hT, show x = 47 from u8_eq (by assumption), tokC47, slash_eq hy, if_neg (u8_ne (d := 47) (show ¬ (y.toNat : Int) = 47 from by omega)), nameS_at _ _ _ (by omega)]; (first | done | rfl)), hB172⟩
                      | exact ⟨ret_val (by rw [hX, if_pos (by assumption)]; (first | done | rfl)), hB172⟩
                      | exact ⟨ret_val (by rw [hX, if_neg (fun h => h (by assumption)), if_pos (by assumption)]; (first | done | rfl)), hB172⟩
                      | exact ⟨ret_val (by rw [hX, if_neg (fun h => by simp_all), if_neg (bF (by assumption))]; (first | done | rfl)), hB172⟩
                      | (exfalso; omega)
            · have g121' := of_decide_eq_false g121
              refine WL.gn rfl rfl rfl g121 <| WL.p (.pkF rfl g121 rfl) rfl <| WL.nil <| ?_
              refine W.condF rfl rfl ?_
              refine W.skip ?_
              refine W.seq ?_
              refine W.reg ?_ -- 15
              refine WL.p (.as rfl) rfl <| WL.nil <| ?_
              refine W.seq ?_
              refine W.reg ?_ -- 16
              refine WL.p (.as rfl) rfl <| WL.nil <| ?_
              refine W.seq ?_
              refine W.reg ?_ -- 17
              refine WL.p (.as rfl) rfl <| WL.nil <| ?_
              refine W.seq ?_
              refine W.seq ?_
              refine W.reg ?_ -- 18
              refine WL.p (.mv rfl) rfl <| WL.p (.eql rfl rfl) rfl <| WL.nil <| ?_
              refine W.cond rfl (fun h173 => ?_) (fun h173 => ?_) -- slot 66
              · have h173' := of_decide_eq_true h173
                have hX : nextR l (n : Int) = nrOf l (textS (roundS 1 [] (l.drop (s + 1)))) := by rw [hN, hT, show x = 40 from u8_eq (by assumption), tokC40]
                refine W.reg ?_ -- 19
                refine WL.p (.mv rfl) rfl <| WL.p (.mv rfl) rfl <| WL.call hb155 rfl rfl ((ref_Round p l c s _ hv2 (by omega) hl)) (fun v w174 hw174 => ?_)
                have hk175 := hkb1.below hw174.1 hkb1.lt
                have hv176 := BytesAt.below hv2 hw174.1 (fun h0 => hv2.lt h0)
                have hB177 := btr hB4 hw174.1
                obtain ⟨u, at1, err1, rfl, hso⟩ := hw174.2
                refine WL.p (.mv rfl) rfl <| WL.p (.ext rfl rfl) rfl <| WL.p (.ext rfl rfl) rfl <| WL.p (.ext rfl rfl) rfl <| WL.p (.as rfl) rfl <| WL.p (.as rfl) rfl <| WL.p (.as rfl) rfl <| WL.nil <| ?_
                refine W.seq ?_
                refine W.seq ?_
                refine W.reg ?_ -- 21
                refine WL.p (.mv rfl) rfl <| WL.p (.neq rfl rfl) rfl <| WL.nil <| ?_
                refine W.cond rfl (fun h178 => ?_) (fun h178 => ?_) -- slot 82
                · have h178' := ndT h178
                  obtain ⟨ho, rfl⟩ := hso.cases.resolve_right (fun h => by obtain ⟨_, _, _, _, _, h0, _⟩ := h; omega)
                  refine W.seq ?_
                  refine W.reg ?_ -- 22
                  refine WL.p (.mv rfl) rfl <| WL.c1 hb154 rfl rfl ((ref_none _ _)) (fun w179 hw179 => ?_)
                  have hk180 := hk175.below hw179 hk175.lt
                  have hv181 := BytesAt.below hv176 hw179 (fun h0 => hv176.lt h0)
                  have hB182 := btr hB177 hw179
                  refine WL.p (.ext rfl rfl) rfl <| WL.p (.ext rfl rfl) rfl <| WL.p (.ext rfl rfl) rfl <| WL.stL rfl rfl hk180 isz143 rfl rfl (fun w183 hkw183 huw183 hsw183 => ?_)
                  have hv184 := BytesAt.upd hv181 huw183 (fun h0 => Nat.ne_of_lt (hvl3 h0))
                  have hB185 := Upd.below hB182 (by omega) huw183
                  refine WL.p (.as rfl) rfl <| WL.p (.as rfl) rfl <| WL.nil <| ?_
                  refine W.ret (W.retc3 rfl rfl (ldRow hkw183 Tryz.underlying143 rfl isz143) rfl rfl ?_)
                  first
                  | exact ⟨ret_val (by unfold nextR; rw [if_pos (by omega)]; (first | done | rfl)), hB185⟩
                  | exact ⟨ret_val (by rw [hN, tokS_end hsd (by omega)]; (first | done | rfl)), hB185⟩
                  | exact ⟨ret_val (by rw [hX, ho]; (first | done | rfl)), hB185⟩
                  | exact ⟨ret_val (by rw [hX, ho]; simp only [textS]; rw [if_pos (by omega)]; (first | done | rfl)), hB185⟩
                  | exact ⟨ret_val (by rw [hX, ho]; simp only [textS]; rw [if_neg (by omega), nrOf_drop _ _ _ hk]; (first | done | rfl)), hB185⟩
                  | exact ⟨ret_val (by rw [hN, hT, show x = 41 from u8_eq (by assumption), tokC41]; (first | done | rfl)), hB185⟩
                  | exact ⟨ret_val (by rw [hN, hT, show x = 123 from u8_eq (by assumption), tokC123, nrOf_drop _ _ _ (by omega)]; (first | done | rfl)), hB185⟩
                  | exact ⟨ret_val (by rw [hN, hT, show x = 125 from u8_eq (by assumption), tokC125, nrOf_drop _ _ _ (by omega)]; (first | done | rfl)), hB185⟩
                  | exact ⟨ret_val (by rw [hN, hT, show x = 91 from u8_eq (by assumption), tokC91, nrOf_drop _ _ _ (by omega)]; (first | done | rfl)), hB185⟩
                  | exact ⟨ret_val (by rw [hN, hT, show x = 93 from u8_eq (by assumption), tokC93, nrOf_drop _ _ _ (by omega)]; (first | done | rfl)), hB185⟩
                  | exact ⟨ret_val (by rw [hN, hT, show x = 60 from u8_eq (by assumption), tokC60, angle_eq (by decide) hy, if_pos (show y = 60 from u8_eq (by assumption)), nrOf_drop _ _ _ (by omega)]; (first | done | rfl)), hB185⟩
                  | exact ⟨ret_val (by rw [hN, hT, show x = 62 from u8_eq (by assumption), tokC62, angle_eq (by decide) hy, if_pos (show y = 62 from u8_eq (by assumption)), nrOf_drop _ _ _ (by omega)]; (first | done | rfl)), hB185⟩
                  | exact ⟨ret_val (by rw [hN, hT, show x = 62 from u8_eq (by assumption), tokC62, angle_eq (by decide) hy, if_neg (u8_ne (d := 62) (show ¬ (y.toNat : Int) = 62 from by omega)), if_neg (by decide)]; (first | done | rfl)), hB185⟩
                  | exact ⟨ret_val (by rw [hN, hT, show x = 47 from u8_eq (by assumption), tokC47, slash_eq hy, if_pos (show y = 47 from u8_eq (by assumption)), nameS_at _ _ _ (by omega)]; (first | done | rfl)), hB185⟩
                  | exact ⟨ret_val (by rw [hN, hT, show x = 47 from u8_eq (by assumption), tokC47, slash_eq hy, if_neg (u8_ne (d := 47) (show ¬ (y.toNat : Int) = 47 from by omega)), nameS_at _ _ _ (by omega)]; (first | done | rfl)), hB185⟩
                  | exact ⟨ret_val (by rw [hX, if_pos (by assumption)]; (first | done | rfl)), hB185⟩
                  | exact ⟨ret_val (by rw [hX, if_neg (fun h => h (by assumption)), if_pos (by assumption)]; (first | done | rfl)), hB185⟩
                  | exact ⟨ret_val (by rw [hX, if_neg (fun h => by simp_all), if_neg (bF (by assumption))]; (first | done | rfl)), hB185⟩
                  | (exfalso; omega)
                · have h178' := ndF h178
                  obtain ⟨s1, k, q, cq, ho, rfl, rfl, hk, hs1, rfl, hq⟩ := hso.cases.resolve_left (fun h => by have := h.2; omega)
                  refine W.skip ?_
                  refine W.seq ?_
                  refine W.seq ?_
                  refine W.reg ?_ -- 23
                  refine WL.p (.mv rfl) rfl <| WL.p (.lenS Tryz.underlying22 rfl) rfl <| WL.p (.gtr rfl rfl) rfl <| WL.nil <| ?_
                  refine W.cond rfl (fun h186 => ?_) (fun h186 => ?_) -- slot 90
                  · have h186' := of_decide_eq_true h186
                    refine W.seq ?_
                    refine W.reg ?_ -- 24
                    refine WL.c1 hb154 rfl rfl ((ref_none _ _)) (fun w187 hw187 => ?_)
                    have hk188 := hk175.below hw187 hk175.lt
                    have hv189 := BytesAt.below hv176 hw187 (fun h0 => hv176.lt h0)
                    have hB190 := btr hB177 hw187
                    refine WL.p (.ext rfl rfl) rfl <| WL.p (.ext rfl rfl) rfl <| WL.p (.ext rfl rfl) rfl <| WL.stL rfl rfl hk188 isz143 rfl rfl (fun w191 hkw191 huw191 hsw191 => ?_)
                    have hv192 := BytesAt.upd hv189 huw191 (fun h0 => Nat.ne_of_lt (hvl3 h0))
                    have hB193 := Upd.below hB190 (by omega) huw191
                    refine WL.p (.as rfl) rfl <| WL.p (.as rfl) rfl <| WL.nil <| ?_
                    refine W.ret (W.retc3 rfl rfl (ldRow hkw191 Tryz.underlying143 rfl isz143) rfl rfl ?_)
                    first
                    | exact ⟨ret_val (by unfold nextR; rw [if_pos (by omega)]; (first | done | rfl)), hB193⟩
                    | exact ⟨ret_val (by rw [hN, tokS_end hsd (by omega)]; (first | done | rfl)), hB193⟩
                    | exact ⟨ret_val (by rw [hX, ho]; (first | done | rfl)), hB193⟩
                    | exact ⟨ret_val (by rw [hX, ho]; simp only [textS]; rw [if_pos (by omega)]; (first | done | rfl)), hB193⟩
                    | exact ⟨ret_val (by rw [hX, ho]; simp only [textS]; rw [if_neg (by omega), nrOf_drop _ _ _ hk]; (first | done | rfl)), hB193⟩
                    | exact ⟨ret_val (by rw [hN, hT, show x = 41 from u8_eq (by assumption), tokC41]; (first | done | rfl)), hB193⟩
                    | exact ⟨ret_val (by rw [hN, hT, show x = 123 from u8_eq (by assumption), tokC123, nrOf_drop _ _ _ (by omega)]; (first | done | rfl)), hB193⟩
                    | exact ⟨ret_val (by rw [hN, hT, show x = 125 from u8_eq (by assumption), tokC125, nrOf_drop _ _ _ (by omega)]; (first | done | rfl)), hB193⟩
                    | exact ⟨ret_val (by rw [hN, hT, show x = 91 from u8_eq (by assumption), tokC91, nrOf_drop _ _ _ (by omega)]; (first | done | rfl)), hB193⟩
                    | exact ⟨ret_val (by rw [hN, hT, show x = 93 from u8_eq (by assumption), tokC93, nrOf_drop _ _ _ (by omega)]; (first | done | rfl)), hB193⟩
                    | exact ⟨ret_val (by rw [hN, hT, show x = 60 from u8_eq (by assumption), tokC60, angle_eq (by decide) hy, if_pos (show y = 60 from u8_eq (by assumption)), nrOf_drop _ _ _ (by omega)]; (first | done | rfl)), hB193⟩
                    | exact ⟨ret_val (by rw [hN, hT, show x = 62 from u8_eq (by assumption), tokC62, angle_eq (by decide) hy, if_pos (show y = 62 from u8_eq (by assumption)), nrOf_drop _ _ _ (by omega)]; (first | done | rfl)), hB193⟩
                    | exact ⟨ret_val (by rw [hN, hT, show x = 62 from u8_eq (by assumption), tokC62, angle_eq (by decide) hy, if_neg (u8_ne (d := 62) (show ¬ (y.toNat : Int) = 62 from by omega)), if_neg (by decide)]; (first | done | rfl)), hB193⟩
                    | exact ⟨ret_val (by rw [hN, hT, show x = 47 from u8_eq (by assumption), tokC47, slash_eq hy, if_pos (show y = 47 from u8_eq (by assumption)), nameS_at _ _ _ (by omega)]; (first | done | rfl)), hB193⟩
                    | exact ⟨ret_val (by rw [hN, hT, show x = 47 from u8_eq (by assumption), tokC47, slash_eq hy, if_neg (u8_ne (d := 47) (show ¬ (y.toNat : Int) = 47 from by omega)), nameS_at _ _ _ (by omega)]; (first | done | rfl)), hB193⟩
                    | exact ⟨ret_val (by rw [hX, if_pos (by assumption)]; (first | done | rfl)), hB193⟩
                    | exact ⟨ret_val (by rw [hX, if_neg (fun h => h (by assumption)), if_pos (by assumption)]; (first | done | rfl)), hB193⟩
                    | exact ⟨ret_val (by rw [hX, if_neg (fun h => by simp_all), if_neg (bF (by assumption))]; (first | done | rfl)), hB193⟩
                    | (exfalso; omega)
                  · have h186' := of_decide_eq_false h186
                    refine W.skip ?_
                    refine W.seq ?_
                    refine W.reg ?_ -- 25
                    refine WL.p (.mv rfl) rfl <| WL.r (Rd.b2s (l := s1) Tryz.underlying22 Tryz.underlying5 Tryz.underlying9 rfl (hq)) rfl <| ?_
                    refine WL.p (.buildL (ps := _) blt143 rfl rfl rfl (by simp only [put1, List.map, List.zip, List.zipWith, List.set] <;> rfl)) rfl ?_
                    refine WL.p (.mv rfl) rfl <| WL.stL rfl rfl hk175 isz143 rfl rfl (fun w194 hkw194 huw194 hsw194 => ?_)
                    have hv195 := BytesAt.upd hv176 huw194 (fun h0 => Nat.ne_of_lt (hvl3 h0))
                    have hB196 := Upd.below hB177 (by omega) huw194
                    refine WL.p (.as rfl) rfl <| WL.p (.as rfl) rfl <| WL.nil <| ?_
                    refine W.ret (W.retc3 rfl rfl (ldRow hkw194 Tryz.underlying143 rfl isz143) rfl rfl ?_)
                    first
                    | exact ⟨ret_val (by unfold nextR; rw [if_pos (by omega)]; (first | done | rfl)), hB196⟩
                    | exact ⟨ret_val (by rw [hN, tokS_end hsd (by omega)]; (first | done | rfl)), hB196⟩
                    | exact ⟨ret_val (by rw [hX, ho]; (first | done | rfl)), hB196⟩
                    | exact ⟨ret_val (by rw [hX, ho]; simp only [textS]; rw [if_pos (by omega)]; (first | done | rfl)), hB196⟩
                    | exact ⟨ret_val (by rw [hX, ho]; simp only [textS]; rw [if_neg (by omega), nrOf_drop _ _ _ hk]; (first | done | rfl)), hB196⟩
                    | exact ⟨ret_val (by rw [hN, hT, show x = 41 from u8_eq (by assumption), tokC41]; (first | done | rfl)), hB196⟩
                    | exact ⟨ret_val (by rw [hN, hT, show x = 123 from u8_eq (by assumption), tokC123, nrOf_drop _ _ _ (by omega)]; (first | done | rfl)), hB196⟩
                    | exact ⟨ret_val (by rw [hN, hT, show x = 125 from u8_eq (by assumption), tokC125, nrOf_drop _ _ _ (by omega)]; (first | done | rfl)), hB196⟩
                    | exact ⟨ret_val (by rw [hN, hT, show x = 91 from u8_eq (by assumption), tokC91, nrOf_drop _ _ _ (by omega)]; (first | done | rfl)), hB196⟩
                    | exact ⟨ret_val (by rw [hN, hT, show x = 93 from u8_eq (by assumption), tokC93, nrOf_drop _ _ _ (by omega)]; (first | done | rfl)), hB196⟩
                    | exact ⟨ret_val (by rw [hN, hT, show x = 60 from u8_eq (by assumption), tokC60, angle_eq (by decide) hy, if_pos (show y = 60 from u8_eq (by assumption)), nrOf_drop _ _ _ (by omega)]; (first | done | rfl)), hB196⟩
                    | exact ⟨ret_val (by rw [hN, hT, show x = 62 from u8_eq (by assumption), tokC62, angle_eq (by decide) hy, if_pos (show y = 62 from u8_eq (by assumption)), nrOf_drop _ _ _ (by omega)]; (first | done | rfl)), hB196⟩
                    | exact ⟨ret_val (by rw [hN, hT, show x = 62 from u8_eq (by assumption), tokC62, angle_eq (by decide) hy, if_neg (u8_ne (d := 62) (show ¬ (y.toNat : Int) = 62 from by omega)), if_neg (by decide)]; (first | done | rfl)), hB196⟩
                    | exact ⟨ret_val (by rw [hN, hT, show x = 47 from u8_eq (by assumption), tokC47, slash_eq hy, if_pos (show y = 47 from u8_eq (by assumption)), nameS_at _ _ _ (by omega)]; (first | done | rfl)), hB196⟩
                    | exact ⟨ret_val (by rw [hN, hT, show x = 47 from u8_eq (by assumption), tokC47, slash_eq hy, if_neg (u8_ne (d := 47) (show ¬ (y.toNat : Int) = 47 from by omega)), nameS_at _ _ _ (by omega)]; (first | done | rfl)), hB196⟩
                    | exact ⟨ret_val (by rw [hX, if_pos (by assumption)]; (first | done | rfl)), hB196⟩
                    | exact ⟨ret_val (by rw [hX, if_neg (fun h => h (by assumption)), if_pos (by assumption)]; (first | done | rfl)), hB196⟩
                    | exact ⟨ret_val (by rw [hX, if_neg (fun h => by simp_all), if_neg (bF (by assumption))]; (first | done | rfl)), hB196⟩
                    | (exfalso; omega)
              · have h173' := of_decide_eq_false h173
                have hX : nextR l (n : Int) = nrOf l (textS (hexS none [] (l.drop (s + 1)))) := by
                  first
                  | (exfalso; omega)
                  | rw [hN, hT, show x = 60 from u8_eq (by assumption), tokC60, angle_eq (by decide) hy, if_neg (u8_ne (d := 60) (show ¬ (y.toNat : Int) = 60 from by omega)), if_pos rfl]
                refine W.reg ?_ -- 20
                refine WL.p (.mv rfl) rfl <| WL.p (.mv rfl) rfl <| WL.call hb156 rfl rfl ((ref_HexS p l c s _ hv2 (by omega) hl)) (fun v w197 hw197 => ?_)
                have hk198 := hkb1.below hw197.1 hkb1.lt
                have hv199 := BytesAt.below hv2 hw197.1 (fun h0 => hv2.lt h0)
                have hB200 := btr hB4 hw197.1
                obtain ⟨u, at1, err1, rfl, hso⟩ := hw197.2
                refine WL.p (.mv rfl) rfl <| WL.p (.ext rfl rfl) rfl <| WL.p (.ext rfl rfl) rfl <| WL.p (.ext rfl rfl) rfl <| WL.p (.as rfl) rfl <| WL.p (.as rfl) rfl <| WL.p (.as rfl) rfl <| WL.nil <| ?_
                refine W.seq ?_
                refine W.seq ?_
                refine W.reg ?_ -- 21
                refine WL.p (.mv rfl) rfl <| WL.p (.neq rfl rfl) rfl <| WL.nil <| ?_
                refine W.cond rfl (fun h201 => ?_) (fun h201 => ?_) -- slot 82
                · have h201' := ndT h201
                  obtain ⟨ho, rfl⟩ := hso.cases.resolve_right (fun h => by obtain ⟨_, _, _, _, _, h0, _⟩ := h; omega)
                  refine W.seq ?_
                  refine W.reg ?_ -- 22
                  refine WL.p (.mv rfl) rfl <| WL.c1 hb154 rfl rfl ((ref_none _ _)) (fun w202 hw202 => ?_)
                  have hk203 := hk198.below hw202 hk198.lt
                  have hv204 := BytesAt.below hv199 hw202 (fun h0 => hv199.lt h0)
                  have hB205 := btr hB200 hw202
                  refine WL.p (.ext rfl rfl) rfl <| WL.p (.ext rfl rfl) rfl <| WL.p (.ext rfl rfl) rfl <| WL.stL rfl rfl hk203 isz143 rfl rfl (fun w206 hkw206 huw206 hsw206 => ?_)
                  have hv207 := BytesAt.upd hv204 huw206 (fun h0 => Nat.ne_of_lt (hvl3 h0))
                  have hB208 := Upd.below hB205 (by omega) huw206
                  refine WL.p (.as rfl) rfl <| WL.p (.as rfl) rfl <| WL.nil <| ?_
                  refine W.ret (W.retc3 rfl rfl (ldRow hkw206 Tryz.underlying143 rfl isz143) rfl rfl ?_)
                  first
                  | exact ⟨ret_val (by unfold nextR; rw [if_pos (by omega)]; (first | done | rfl)), hB208⟩
                  | exact ⟨ret_val (by rw [hN, tokS_end hsd (by omega)]; (first | done | rfl)), hB208⟩
                  | exact ⟨ret_val (by rw [hX, ho]; (first | done | rfl)), hB208⟩
                  | exact ⟨ret_val (by rw [hX, ho]; simp only [textS]; rw [if_pos (by omega)]; (first | done | rfl)), hB208⟩
                  | exact ⟨ret_val (by rw [hX, ho]; simp only [textS]; rw [if_neg (by omega), nrOf_drop _ _ _ hk]; (first | done | rfl)), hB208⟩
                  | exact ⟨ret_val (by rw [hN, hT, show x = 41 from u8_eq (by assumption), tokC41]; (first | done | rfl)), hB208⟩
                  | exact ⟨ret_val (by rw [hN, hT, show x = 123 from u8_eq (by assumption), tokC123, nrOf_drop _ _ _ (by omega)]; (first | done | rfl)), hB208⟩
                  | exact ⟨ret_val (by rw [hN, hT, show x = 125 from u8_eq (by assumption), tokC125, nrOf_drop _ _ _ (by omega)]; (first | done | rfl)), hB208⟩
                  | exact ⟨ret_val (by rw [hN, hT, show x = 91 from u8_eq (by assumption), tokC91, nrOf_drop _ _ _ (by omega)]; (first | done | rfl)), hB208⟩
                  | exact ⟨ret_val (by rw [hN, hT, show x = 93 from u8_eq (by assumption), tokC93, nrOf_drop _ _ _ (by omega)]; (first | done | rfl)), hB208⟩
                  | exact ⟨ret_val (by rw [hN, hT, show x = 60 from u8_eq (by assumption), tokC60, angle_eq (by decide) hy, if_pos (show y = 60 from u8_eq (by assumption)), nrOf_drop _ _ _ (by omega)]; (first | done | rfl)), hB208⟩
                  | exact ⟨ret_val (by rw [hN, hT, show x = 62 from u8_eq (by assumption), tokC62, angle_eq (by decide) hy, if_pos (show y = 62 from u8_eq (by assumption)), nrOf_drop _ _ _ (by omega)]; (first | done | rfl)), hB208⟩
                  | exact ⟨ret_val (by rw [hN, hT, show x = 62 from u8_eq (by assumption), tokC62, angle_eq (by decide) hy, if_neg (u8_ne (d := 62) (show ¬ (y.toNat : Int) = 62 from by omega)), if_neg (by decide)]; (first | done | rfl)), hB208⟩
                  | exact ⟨ret_val (by rw [hN, hT, show x = 47 from u8_eq (by assumption), tokC47, slash_eq hy, if_pos (show y = 47 from u8_eq (by assumption)), nameS_at _ _ _ (by omega)]; (first | done | rfl)), hB208⟩
                  | exact ⟨ret_val (by rw [hN, hT, show x = 47 from u8_eq (by assumption), tokC47, slash_eq hy, if_neg (u8_ne (d := 47) (show ¬ (y.toNat : Int) = 47 from by omega)), nameS_at _ _ _ (by omega)]; (first | done | rfl)), hB208⟩
                  | exact ⟨ret_val (by rw [hX, if_pos (by assumption)]; (first | done | rfl)), hB208⟩
                  | exact ⟨ret_val (by rw [hX, if_neg (fun h => h (by assumption)), if_pos (by assumption)]; (first | done | rfl)), hB208⟩
                  | exact ⟨ret_val (by rw [hX, if_neg (fun h => by simp_all), if_neg (bF (by assumption))]; (first | done | rfl)), hB208⟩
                  | (exfalso; omega)
                · have h201' := ndF h201
                  obtain ⟨s1, k, q, cq, ho, rfl, rfl, hk, hs1, rfl, hq⟩ := hso.cases.resolve_left (fun h => by have := h.2; omega)
                  refine W.skip ?_
                  refine W.seq ?_
                  refine W.seq ?_
                  refine W.reg ?_ -- 23
                  refine WL.p (.mv rfl) rfl <| WL.p (.lenS Tryz.underlying22 rfl) rfl <| WL.p (.gtr rfl rfl) rfl <| WL.nil <| ?_
                  refine W.cond rfl (fun h209 => ?_) (fun h209 => ?_) -- slot 90
                  · have h209' := of_decide_eq_true h209
                    refine W.seq ?_
                    refine W.reg ?_ -- 24
                    refine WL.c1 hb154 rfl rfl ((ref_none _ _)) (fun w210 hw210 => ?_)
                    have hk211 := hk198.below hw210 hk198.lt
                    have hv212 := BytesAt.below hv199 hw210 (fun h0 => hv199.lt h0)
                    have hB213 := btr hB200 hw210
                    refine WL.p (.ext rfl rfl) rfl <| WL.p (.ext rfl rfl) rfl <| WL.p (.ext rfl rfl) rfl <| WL.stL rfl rfl hk211 isz143 rfl rfl (fun w214 hkw214 huw214 hsw214 => ?_)
                    have hv215 := BytesAt.upd hv212 huw214 (fun h0 => Nat.ne_of_lt (hvl3 h0))
                    have hB216 := Upd.below hB213 (by omega) huw214
                    refine WL.p (.as rfl) rfl <| WL.p (.as rfl) rfl <| WL.nil <| ?_
                    refine W.ret (W.retc3 rfl rfl (ldRow hkw214 Tryz.underlying143 rfl isz143) rfl rfl ?_)
                    first
                    | exact ⟨ret_val (by unfold nextR; rw [if_pos (by omega)]; (first | done | rfl)), hB216⟩
                    | exact ⟨ret_val (by rw [hN, tokS_end hsd (by omega)]; (first | done | rfl)), hB216⟩
                    | exact ⟨ret_val (by rw [hX, ho]; (first | done | rfl)), hB216⟩
                    | exact ⟨ret_val (by rw [hX, ho]; simp only [textS]; rw [if_pos (by omega)]; (first | done | rfl)), hB216⟩
                    | exact ⟨ret_val (by rw [hX, ho]; simp only [textS]; rw [if_neg (by omega), nrOf_drop _ _ _ hk]; (first | done | rfl)), hB216⟩
                    | exact ⟨ret_val (by rw [hN, hT, show x = 41 from u8_eq (by assumption), tokC41]; (first | done | rfl)), hB216⟩
                    | exact ⟨ret_val (by rw [hN, hT, show x = 123 from u8_eq (by assumption), tokC123, nrOf_drop _ _ _ (by omega)]; (first | done | rfl)), hB216⟩
                    | exact ⟨ret_val (by rw [hN, hT, show x = 125 from u8_eq (by assumption), tokC125, nrOf_drop _ _ _ (by omega)]; (first | done | rfl)), hB216⟩
                    | exact ⟨ret_val (by rw [hN, hT, show x = 91 from u8_eq (by assumption), tokC91, nrOf_drop _ _ _ (by omega)]; (first | done | rfl)), hB216⟩
                    | exact ⟨ret_val (by rw [hN, hT, show x = 93 from u8_eq (by assumption), tokC93, nrOf_drop _ _ _ (by omega)]; (first | done | rfl)), hB216⟩
                    | exact ⟨ret_val (by rw [hN, hT, show x = 60 from u8_eq (by assumption), tokC60, angle_eq (by decide) hy, if_pos (show y = 60 from u8_eq (by assumption)), nrOf_drop _ _ _ (by omega)]; (first | done | rfl)), hB216⟩
                    | exact ⟨ret_val (by rw [hN, hT, show x = 62 from u8_eq (by assumption), tokC62, angle_eq (by decide) hy, if_pos (show y = 62 from u8_eq (by assumption)), nrOf_drop _ _ _ (by omega)]; (first | done | rfl)), hB216⟩
                    | exact ⟨ret_val (by rw [hN, hT, show x = 62 from u8_eq (by assumption), tokC62, angle_eq (by decide) hy, if_neg (u8_ne (d := 62) (show ¬ (y.toNat : Int) = 62 from by omega)), if_neg (by decide)]; (first | done | rfl)), hB216⟩
                    | exact ⟨ret_val (by rw [hN, hT, show x = 47 from u8_eq (by assumption), tokC47, slash_eq hy, if_pos (show y = 47 from u8_eq (by assumption)), nameS_at _ _ _ (by omega)]; (first | done | rfl)), hB216⟩
                    | exact ⟨ret_val (by rw [hN, hT, show x = 47 from u8_eq (by assumption), tokC47, slash_eq hy, if_neg (u8_ne (d := 47) (show ¬ (y.toNat : Int) = 47 from by omega)), nameS_at _ _ _ (by omega)]; (first | done | rfl)), hB216⟩
                    | exact ⟨ret_val (by rw [hX, if_pos (by assumption)]; (first | done | rfl)), hB216⟩
                    | exact ⟨ret_val (by rw [hX, if_neg (fun h => h (by assumption)), if_pos (by assumption)]; (first | done | rfl)), hB216⟩
                    | exact ⟨ret_val (by rw [hX, if_neg (fun h => by simp_all), if_neg (bF (by assumption))]; (first | done | rfl)), hB216⟩
                    | (exfalso; omega)
                  · have h209' := of_decide_eq_false h209
                    refine W.skip ?_
                    refine W.seq ?_
                    refine W.reg ?_ -- 25
                    refine WL.p (.mv rfl) rfl <| WL.r (Rd.b2s (l := s1) Tryz.underlying22 Tryz.underlying5 Tryz.underlying9 rfl (hq)) rfl <| ?_
                    refine WL.p (.buildL (ps := _) blt143 rfl rfl rfl (by simp only [put1, List.map, List.zip, List.zipWith, List.set] <;> rfl)) rfl ?_
                    refine WL.p (.mv rfl) rfl <| WL.stL rfl rfl hk198 isz143 rfl rfl (fun w217 hkw217 huw217 hsw217 => ?_)
                    have hv218 := BytesAt.upd hv199 huw217 (fun h0 => Nat.ne_of_lt (hvl3 h0))
                    have hB219 := Upd.below hB200 (by omega) huw217
                    refine WL.p (.as rfl) rfl <| WL.p (.as rfl) rfl <| WL.nil <| ?_
                    refine W.ret (W.retc3 rfl rfl (ldRow hkw217 Tryz.underlying143 rfl isz143) rfl rfl ?_)
                    first
                    | exact ⟨ret_val (by unfold nextR; rw [if_pos (by omega)]; (first | done | rfl)), hB219⟩
                    | exact ⟨ret_val (by rw [hN, tokS_end hsd (by omega)]; (first | done | rfl)), hB219⟩
                    | exact ⟨ret_val (by rw [hX, ho]; (first | done | rfl)), hB219⟩
                    | exact ⟨ret_val (by rw [hX, ho]; simp only [textS]; rw [if_pos (by omega)]; (first | done | rfl)), hB219⟩
                    | exact ⟨ret_val (by rw [hX, ho]; simp only [textS]; rw [if_neg (by omega), nrOf_drop _ _ _ hk]; (first | done | rfl)), hB219⟩
                    | exact ⟨ret_val (by rw [hN, hT, show x = 41 from u8_eq (by assumption), tokC41]; (first | done | rfl)), hB219⟩
                    | exact ⟨ret_val (by rw [hN, hT, show x = 123 from u8_eq (by assumption), tokC123, nrOf_drop _ _ _ (by omega)]; (first | done | rfl)), hB219⟩
                    | exact ⟨ret_val (by rw [hN, hT, show x = 125 from u8_eq (by assumption), tokC125, nrOf_drop _ _ _ (by omega)]; (first | done | rfl)), hB219⟩
                    | exact ⟨ret_val (by rw [hN, hT, show x = 91 from u8_eq (by assumption), tokC91, nrOf_drop _ _ _ (by omega)]; (first | done | rfl)), hB219⟩
                    | exact ⟨ret_val (by rw [hN, hT, show x = 93 from u8_eq (by assumption), tokC93, nrOf_drop _ _ _ (by omega)]; (first | done | rfl)), hB219⟩
                    | exact ⟨ret_val (by rw [hN, hT, show x = 60 from u8_eq (by assumption), tokC60, angle_eq (by decide) hy, if_pos (show y = 60 from u8_eq (by assumption)), nrOf_drop _ _ _ (by omega)]; (first | done | rfl)), hB219⟩
                    | exact ⟨ret_val (by rw [hN, hT, show x = 62 from u8_eq (by assumption), tokC62, angle_eq (by decide) hy, if_pos (show y = 62 from u8_eq (by assumption)), nrOf_drop _ _ _ (by omega)]; (first | done | rfl)), hB219⟩
                    | exact ⟨ret_val (by rw [hN, hT, show x = 62 from u8_eq (by assumption), tokC62, angle_eq (by decide) hy, if_neg (u8_ne (d := 62) (show ¬ (y.toNat : Int) = 62 from by omega)), if_neg (by decide)]; (first | done | rfl)), hB219⟩
                    | exact ⟨ret_val (by rw [hN, hT, show x = 47 from u8_eq (by assumption), tokC47, slash_eq hy, if_pos (show y = 47 from u8_eq (by assumption)), nameS_at _ _ _ (by omega)]; (first | done | rfl)), hB219⟩
                    | exact ⟨ret_val (by rw [hN, hT, show x = 47 from u8_eq (by assumption), tokC47, slash_eq hy, if_neg (u8_ne (d := 47) (show ¬ (y.toNat : Int) = 47 from by omega)), nameS_at _ _ _ (by omega)]; (first | done | rfl)), hB219⟩
                    | exact ⟨ret_val (by rw [hX, if_pos (by assumption)]; (first | done | rfl)), hB219⟩
                    | exact ⟨ret_val (by rw [hX, if_neg (fun h => h (by assumption)), if_pos (by assumption)]; (first | done | rfl)), hB219⟩
                    | exact ⟨ret_val (by rw [hX, if_neg (fun h => by simp_all), if_neg (bF (by assumption))]; (first | done | rfl)), hB219⟩
                    | (exfalso; omega)
          · have h120' := of_decide_eq_false h120
            refine W.seq ?_
            refine W.reg ?_ -- 26
            refine WL.p (.eql rfl rfl) rfl <| WL.p (.as rfl) rfl <| WL.nil <| ?_
            refine W.cond rfl (fun h220 => ?_) (fun h220 => ?_) -- slot 99
            · have h220' := of_decide_eq_true h220
              refine W.seq ?_
              refine W.reg ?_ -- 27
              refine WL.c1 hb154 rfl rfl ((ref_none _ _)) (fun w221 hw221 => ?_)
              have hk222 := hkb1.below hw221 hkb1.lt
              have hv223 := BytesAt.below hv2 hw221 (fun h0 => hv2.lt h0)
              have hB224 := btr hB4 hw221
              refine WL.p (.ext rfl rfl) rfl <| WL.p (.ext rfl rfl) rfl <| WL.p (.ext rfl rfl) rfl <| WL.stL rfl rfl hk222 isz143 rfl rfl (fun w225 hkw225 huw225 hsw225 => ?_)
              have hv226 := BytesAt.upd hv223 huw225 (fun h0 => Nat.ne_of_lt (hvl3 h0))
              have hB227 := Upd.below hB224 (by omega) huw225
              refine WL.p (.as rfl) rfl <| WL.p (.as rfl) rfl <| WL.nil <| ?_
              refine W.ret (W.retc3 rfl rfl (ldRow hkw225 Tryz.underlying143 rfl isz143) rfl rfl ?_)
              first
              | exact ⟨ret_val (by unfold nextR; rw [if_pos (by omega)]; (first | done | rfl)), hB227⟩
              | exact ⟨ret_val (by rw [hN, tokS_end hsd (by omega)]; (first | done | rfl)), hB227⟩
              | exact ⟨ret_val (by rw [hX, ho]; (first | done | rfl)), hB227⟩
              | exact ⟨ret_val (by rw [hX, ho]; simp only [textS]; rw [if_pos (by omega)]; (first | done | rfl)), hB227⟩
              | exact ⟨ret_val (by rw [hX, ho]; simp only [textS]; rw [if_neg (by omega), nrOf_drop _ _ _ hk]; (first | done | rfl)), hB227⟩
              | exact ⟨ret_val (by rw [hN, hT, show x = 41 from u8_eq (by assumption), tokC41]; (first | done | rfl)), hB227⟩
              | exact ⟨ret_val (by rw [hN, hT, show x = 123 from u8_eq (by assumption), tokC123, nrOf_drop _ _ _ (by omega)]; (first | done | rfl)), hB227⟩
              | exact ⟨ret_val (by rw [hN, hT, show x = 125 from u8_eq (by assumption), tokC125, nrOf_drop _ _ _ (by omega)]; (first | done | rfl)), hB227⟩
              | exact ⟨ret_val (by rw [hN, hT, show x = 91 from u8_eq (by assumption), tokC91, nrOf_drop _ _ _ (by omega)]; (first | done | rfl)), hB227⟩
              | exact ⟨ret_val (by rw [hN, hT, show x = 93 from u8_eq (by assumption), tokC93, nrOf_drop _ _ _ (by omega)]; (first | done | rfl)), hB227⟩
              | exact ⟨ret_val (by rw [hN, hT, show x = 60 from u8_eq (by assumption), tokC60, angle_eq (by decide) hy, if_pos (show y = 60 from u8_eq (by assumption)), nrOf_drop _ _ _ (by omega)]; (first | done | rfl)), hB227⟩
              | exact ⟨ret_val (by rw [hN, hT, show x = 62 from u8_eq (by assumption), tokC62, angle_eq (by decide) hy, if_pos (show y = 62 from u8_eq (by assumption)), nrOf_drop _ _ _ (by omega)]; (first | done | rfl)), hB227⟩
              | exact ⟨ret_val (by rw [hN, hT, show x = 62 from u8_eq (by assumption), tokC62, angle_eq (by decide) hy, if_neg (u8_ne (d := 62) (show ¬ (y.toNat : Int) = 62 from by omega)), if_neg (by decide)]; (first | done | rfl)), hB227⟩
              | exact ⟨ret_val (by rw [hN, hT, show x = 47 from u8_eq (by assumption), tokC47, slash_eq hy, if_pos (show y = 47 from u8_eq (by assumption)), nameS_at _ _ _ (by omega)]; (first | done | rfl)), hB227⟩
              | exact ⟨ret_val (by rw [hN, hT, show x = 47 from u8_eq (by assumption), tokC47, slash_eq hy, if_neg (u8_ne (d := 47) (show ¬ (y.toNat : Int) = 47 from by omega)), nameS_at _ _ _ (by omega)]; (first | done | rfl)), hB227⟩
              | exact ⟨ret_val (by rw [hX, if_pos (by assumption)]; (first | done | rfl)), hB227⟩
              | exact ⟨ret_val (by rw [hX, if_neg (fun h => h (by assumption)), if_pos (by assumption)]; (first | done | rfl)), hB227⟩
              | exact ⟨ret_val (by rw [hX, if_neg (fun h => by simp_all), if_neg (bF (by assumption))]; (first | done | rfl)), hB227⟩
              | (exfalso; omega)
            · have h220' := of_decide_eq_false h220
              refine W.seq ?_
              refine W.reg ?_ -- 28
              refine WL.p (.eql rfl rfl) rfl <| WL.p (.as rfl) rfl <| WL.nil <| ?_
              refine W.cond rfl (fun h228 => ?_) (fun h228 => ?_) -- slot 105
              · have h228' := of_decide_eq_true h228
                refine W.seq ?_
                refine W.seq ?_
                refine W.reg ?_ -- 29
                refine WL.p (.mv rfl) rfl <| WL.p (.neq rfl rfl) rfl <| WL.nil <| ?_
                refine W.cond rfl (fun h229 => ?_) (fun h229 => ?_) -- slot 108
                · have h229' := ndT h229
                  refine W.seq ?_
                  refine W.reg ?_ -- 30
                  refine WL.c1 hb154 rfl rfl ((ref_none _ _)) (fun w230 hw230 => ?_)
                  have hk231 := hkb1.below hw230 hkb1.lt
                  have hv232 := BytesAt.below hv2 hw230 (fun h0 => hv2.lt h0)
                  have hB233 := btr hB4 hw230
                  refine WL.p (.ext rfl rfl) rfl <| WL.p (.ext rfl rfl) rfl <| WL.p (.ext rfl rfl) rfl <| WL.stL rfl rfl hk231 isz143 rfl rfl (fun w234 hkw234 huw234 hsw234 => ?_)
                  have hv235 := BytesAt.upd hv232 huw234 (fun h0 => Nat.ne_of_lt (hvl3 h0))
                  have hB236 := Upd.below hB233 (by omega) huw234
                  refine WL.p (.as rfl) rfl <| WL.p (.as rfl) rfl <| WL.nil <| ?_
                  refine W.ret (W.retc3 rfl rfl (ldRow hkw234 Tryz.underlying143 rfl isz143) rfl rfl ?_)
                  first
                  | exact ⟨ret_val (by unfold nextR; rw [if_pos (by omega)]; (first | done | rfl)), hB236⟩
                  | exact ⟨ret_val (by rw [hN, tokS_end hsd (by omega)]; (first | done | rfl)), hB236⟩
                  | exact ⟨ret_val (by rw [hX, ho]; (first | done | rfl)), hB236⟩
                  | exact ⟨ret_val (by rw [hX, ho]; simp only [textS]; rw [if_pos (by omega)]; (first | done | rfl)), hB236⟩
                  | exact ⟨ret_val (by rw [hX, ho]; simp only [textS]; rw [if_neg (by omega), nrOf_drop _ _ _ hk]; (first | done | rfl)), hB236⟩
                  | exact ⟨ret_val (by rw [hN, hT, show x = 41 from u8_eq (by assumption), tokC41]; (first | done | rfl)), hB236⟩
                  | exact ⟨ret_val (by rw [hN, hT, show x = 123 from u8_eq (by assumption), tokC123, nrOf_drop _ _ _ (by omega)]; (first | done | rfl)), hB236⟩
                  | exact ⟨ret_val (by rw [hN, hT, show x = 125 from u8_eq (by assumption), tokC125, nrOf_drop _ _ _ (by omega)]; (first | done | rfl)), hB236⟩
                  | exact ⟨ret_val (by rw [hN, hT, show x = 91 from u8_eq (by assumption), tokC91, nrOf_drop _ _ _ (by omega)]; (first | done | rfl)), hB236⟩
                  | exact ⟨ret_val (by rw [hN, hT, show x = 93 from u8_eq (by assumption), tokC93, nrOf_drop _ _ _ (by omega)]; (first | done | rfl)), hB236⟩
                  | exact ⟨ret_val (by rw [hN, hT, show x = 60 from u8_eq (by assumption), tokC60, angle_eq (by decide) hy, if_pos (show y = 60 from u8_eq (by assumption)), nrOf_drop _ _ _ (by omega)]; (first | done | rfl)), hB236⟩
                  | exact ⟨ret_val (by rw [hN, hT, show x = 62 from u8_eq (by assumption), tokC62, angle_eq (by decide) hy, if_pos (show y = 62 from u8_eq (by assumption)), nrOf_drop _ _ _ (by omega)]; (first | done | rfl)), hB236⟩
                  | exact ⟨ret_val (by rw [hN, hT, show x = 62 from u8_eq (by assumption), tokC62, angle_eq (by decide) hy, if_neg (u8_ne (d := 62) (show ¬ (y.toNat : Int) = 62 from by omega)), if_neg (by decide)]; (first | done | rfl)), hB236⟩
                  | exact ⟨ret_val (by rw [hN, hT, show x = 47 from u8_eq (by assumption), tokC47, slash_eq hy, if_pos (show y = 47 from u8_eq (by assumption)), nameS_at _ _ _ (by omega)]; (first | done | rfl)), hB236⟩
                  | exact ⟨ret_val (by rw [hN, hT, show x = 47 from u8_eq (by assumption), tokC47, slash_eq hy, if_neg (u8_ne (d := 47) (show ¬ (y.toNat : Int) = 47 from by omega)), nameS_at _ _ _ (by omega)]; (first | done | rfl)), hB236⟩
                  | exact ⟨ret_val (by rw [hX, if_pos (by assumption)]; (first | done | rfl)), hB236⟩
                  | exact ⟨ret_val (by rw [hX, if_neg (fun h => h (by assumption)), if_pos (by assumption)]; (first | done | rfl)), hB236⟩
                  | exact ⟨ret_val (by rw [hX, if_neg (fun h => by simp_all), if_neg (bF (by assumption))]; (first | done | rfl)), hB236⟩
                  | (exfalso; omega)
                · have h229' := ndF h229
                  refine W.skip ?_
                  refine W.seq ?_
                  refine W.reg ?_ -- 31
                  refine WL.p (.buildL (ps := _) blt143 rfl rfl rfl (by simp only [put1, List.map, List.zip, List.zipWith, List.set] <;> rfl)) rfl ?_
                  refine WL.p (.mv rfl) rfl <| WL.p (.iis (((s + 1 + 1 : Nat) : Int)) (.add rfl rfl (i64w (by omega))) (by omega)) rfl <| WL.stL rfl rfl hkb1 isz143 rfl rfl (fun w237 hkw237 huw237 hsw237 => ?_)
                  have hv238 := BytesAt.upd hv2 huw237 (fun h0 => Nat.ne_of_lt (hvl3 h0))
                  have hB239 := Upd.below hB4 (by omega) huw237
                  refine WL.p (.as rfl) rfl <| WL.p (.as rfl) rfl <| WL.nil <| ?_
                  refine W.ret (W.retc3 rfl rfl (ldRow hkw237 Tryz.underlying143 rfl isz143) rfl rfl ?_)
                  first
                  | exact ⟨ret_val (by unfold nextR; rw [if_pos (by omega)]; (first | done | rfl)), hB239⟩
                  | exact ⟨ret_val (by rw [hN, tokS_end hsd (by omega)]; (first | done | rfl)), hB239⟩
                  | exact ⟨ret_val (by rw [hX, ho]; (first | done | rfl)), hB239⟩
                  | exact ⟨ret_val (by rw [hX, ho]; simp only [textS]; rw [if_pos (by omega)]; (first | done | rfl)), hB239⟩
                  | exact ⟨ret_val (by rw [hX, ho]; simp only [textS]; rw [if_neg (by omega), nrOf_drop _ _ _ hk]; (first | done | rfl)), hB239⟩
                  | exact ⟨ret_val (by rw [hN, hT, show x = 41 from u8_eq (by assumption), tokC41]; (first | done | rfl)), hB239⟩
                  | exact ⟨ret_val (by rw [hN, hT, show x = 123 from u8_eq (by assumption), tokC123, nrOf_drop _ _ _ (by omega)]; (first | done | rfl)), hB239⟩
                  | exact ⟨ret_val (by rw [hN, hT, show x = 125 from u8_eq (by assumption), tokC125, nrOf_drop _ _ _ (by omega)]; (first | done | rfl)), hB239⟩
                  | exact ⟨ret_val (by rw [hN, hT, show x = 91 from u8_eq (by assumption), tokC91, nrOf_drop _ _ _ (by omega)]; (first | done | rfl)), hB239⟩
                  | exact ⟨ret_val (by rw [hN, hT, show x = 93 from u8_eq (by assumption), tokC93, nrOf_drop _ _ _ (by omega)]; (first | done | rfl)), hB239⟩
                  | exact ⟨ret_val (by rw [hN, hT, show x = 60 from u8_eq (by assumption), tokC60, angle_eq (by decide) hy, if_pos (show y = 60 from u8_eq (by assumption)), nrOf_drop _ _ _ (by omega)]; (first | done | rfl)), hB239⟩
                  | exact ⟨ret_val (by rw [hN, hT, show x = 62 from u8_eq (by assumption), tokC62, angle_eq (by decide) hy, if_pos (show y = 62 from u8_eq (by assumption)), nrOf_drop _ _ _ (by omega)]; (first | done | rfl)), hB239⟩
                  | exact ⟨ret_val (by rw [hN, hT, show x = 62 from u8_eq (by assumption), tokC62, angle_eq (by decide) hy, if_neg (u8_ne (d := 62) (show ¬ (y.toNat : Int) = 62 from by omega)), if_neg (by decide)]; (first | done | rfl)), hB239⟩
                  | exact ⟨ret_val (by rw [hN, hT, show x = 47 from u8_eq (by assumption), tokC47, slash_eq hy, if_pos (show y = 47 from u8_eq (by assumption)), nameS_at _ _ _ (by omega)]; (first | done | rfl)), hB239⟩
                  | exact ⟨ret_val (by rw [hN, hT, show x = 47 from u8_eq (by assumption), tokC47, slash_eq hy, if_neg (u8_ne (d := 47) (show ¬ (y.toNat : Int) = 47 from by omega)), nameS_at _ _ _ (by omega)]; (first | done | rfl)), hB239⟩
                  | exact ⟨ret_val (by rw [hX, if_pos (by assumption)]; (first | done | rfl)), hB239⟩
                  | exact ⟨ret_val (by rw [hX, if_neg (fun h => h (by assumption)), if_pos (by assumption)]; (first | done | rfl)), hB239⟩
                  | exact ⟨ret_val (by rw [hX, if_neg (fun h => by simp_all), if_neg (bF (by assumption))]; (first | done | rfl)), hB239⟩
                  | (exfalso; omega)
              · have h228' := of_decide_eq_false h228
                refine W.seq ?_
                refine W.reg ?_ -- 32
                refine WL.p (.eql rfl rfl) rfl <| WL.p (.as rfl) rfl <| WL.nil <| ?_
                refine W.cond rfl (fun h240 => ?_) (fun h240 => ?_) -- slot 116
                · have h240' := of_decide_eq_true h240
                  refine W.seq ?_
                  refine W.reg ?_ -- 33
                  refine WL.p (.buildL (ps := _) blt143 rfl rfl rfl (by simp only [put1, List.map, List.zip, List.zipWith, List.set] <;> rfl)) rfl ?_
                  refine WL.p (.mv rfl) rfl <| WL.p (.iis (((s + 1 : Nat) : Int)) (.add rfl rfl (i64w (by omega))) (by omega)) rfl <| WL.stL rfl rfl hkb1 isz143 rfl rfl (fun w241 hkw241 huw241 hsw241 => ?_)
                  have hv242 := BytesAt.upd hv2 huw241 (fun h0 => Nat.ne_of_lt (hvl3 h0))
                  have hB243 := Upd.below hB4 (by omega) huw241
                  refine WL.p (.as rfl) rfl <| WL.p (.as rfl) rfl <| WL.nil <| ?_
                  refine W.ret (W.retc3 rfl rfl (ldRow hkw241 Tryz.underlying143 rfl isz143) rfl rfl ?_)
                  first
                  | exact ⟨ret_val (by unfold nextR; rw [if_pos (by omega)]; (first | done | rfl)), hB243⟩
                  | exact ⟨ret_val (by rw [hN, tokS_end hsd (by omega)]; (first | done | rfl)), hB243⟩
                  | exact ⟨ret_val (by rw [hX, ho]; (first | done | rfl)), hB243⟩
                  | exact ⟨ret_val (by rw [hX, ho]; simp only [textS]; rw [if_pos (by omega)]; (first | done | rfl)), hB243⟩
                  | exact ⟨ret_val (by rw [hX, ho]; simp only [textS]; rw [if_neg (by omega), nrOf_drop _ _ _ hk]; (first | done | rfl)), hB243⟩
                  | exact ⟨ret_val (by rw [hN, hT, show x = 41 from u8_eq (by assumption), tokC41]; (first | done | rfl)), hB243⟩
                  | exact ⟨ret_val (by rw [hN, hT, show x = 123 from u8_eq (by assumption), tokC123, nrOf_drop _ _ _ (by omega)]; (first | done | rfl)), hB243⟩
                  | exact ⟨ret_val (by rw [hN, hT, show x = 125 from u8_eq (by assumption), tokC125, nrOf_drop _ _ _ (by omega)]; (first | done | rfl)), hB243⟩
                  | exact ⟨ret_val (by rw [hN, hT, show x = 91 from u8_eq (by assumption), tokC91, nrOf_drop _ _ _ (by omega)]; (first | done | rfl)), hB243⟩
                  | exact ⟨ret_val (by rw [hN, hT, show x = 93 from u8_eq (by assumption), tokC93, nrOf_drop _ _ _ (by omega)]; (first | done | rfl)), hB243⟩
                  | exact ⟨ret_val (by rw [hN, hT, show x = 60 from u8_eq (by assumption), tokC60, angle_eq (by decide) hy, if_pos (show y = 60 from u8_eq (by assumption)), nrOf_drop _ _ _ (by omega)]; (first | done | rfl)), hB243⟩
                  | exact ⟨ret_val (by rw [hN, hT, show x = 62 from u8_eq (by assumption), tokC62, angle_eq (by decide) hy, if_pos (show y = 62 from u8_eq (by assumption)), nrOf_drop _ _ _ (by omega)]; (first | done | rfl)), hB243⟩
                  | exact ⟨ret_val (by rw [hN, hT, show x = 62 from u8_eq (by assumption), tokC62, angle_eq (by decide) hy, if_neg (u8_ne (d := 62) (show ¬ (y.toNat : Int) = 62 from by omega)), if_neg (by decide)]; (first | done | rfl)), hB243⟩
                  | exact ⟨ret_val (by rw [hN, hT, show x = 47 from u8_eq (by assumption), tokC47, slash_eq hy, if_pos (show y = 47 from u8_eq (by assumption)), nameS_at _ _ _ (by omega)]; (first | done | rfl)), hB243⟩
                  | exact ⟨ret_val (by rw [hN, hT, show x = 47 from u8_eq (by assumption), tokC47, slash_eq hy, if_neg (u8_ne (d := 47) (show ¬ (y.toNat : Int) = 47 from by omega)), nameS_at _ _ _ (by omega)]; (first | done | rfl)), hB243⟩
                  | exact ⟨ret_val (by rw [hX, if_pos (by assumption)]; (first | done | rfl)), hB243⟩
                  | exact ⟨ret_val (by rw [hX, if_neg (fun h => h (by assumption)), if_pos (by assumption)]; (first | done | rfl)), hB243⟩
                  | exact ⟨ret_val (by rw [hX, if_neg (fun h => by simp_all), if_neg (bF (by assumption))]; (first | done | rfl)), hB243⟩
                  | (exfalso; omega)
                · have h240' := of_decide_eq_false h240
                  refine W.seq ?_
                  refine W.reg ?_ -- 34
                  refine WL.p (.eql rfl rfl) rfl <| WL.p (.as rfl) rfl <| WL.nil <| ?_
                  refine W.cond rfl (fun h244 => ?_) (fun h244 => ?_) -- slot 121
                  · have h244' := of_decide_eq_true h244
                    refine W.seq ?_
                    refine W.reg ?_ -- 35
                    refine WL.p (.buildL (ps := _) blt143 rfl rfl rfl (by simp only [put1, List.map, List.zip, List.zipWith, List.set] <;> rfl)) rfl ?_
                    refine WL.p (.mv rfl) rfl <| WL.p (.iis (((s + 1 : Nat) : Int)) (.add rfl rfl (i64w (by omega))) (by omega)) rfl <| WL.stL rfl rfl hkb1 isz143 rfl rfl (fun w245 hkw245 huw245 hsw245 => ?_)
                    have hv246 := BytesAt.upd hv2 huw245 (fun h0 => Nat.ne_of_lt (hvl3 h0))
                    have hB247 := Upd.below hB4 (by omega) huw245
                    refine WL.p (.as rfl) rfl <| WL.p (.as rfl) rfl <| WL.nil <| ?_
                    refine W.ret (W.retc3 rfl rfl (ldRow hkw245 Tryz.underlying143 rfl isz143) rfl rfl ?_)
                    first
                    | exact ⟨ret_val (by unfold nextR; rw [if_pos (by omega)]; (first | done | rfl)), hB247⟩
                    | exact ⟨ret_val (by rw [hN, tokS_end hsd (by omega)]; (first | done | rfl)), hB247⟩
                    | exact ⟨ret_val (by rw [hX, ho]; (first | done | rfl)), hB247⟩
                    | exact ⟨ret_val (by rw [hX, ho]; simp only [textS]; rw [if_pos (by omega)]; (first | done | rfl)), hB247⟩
                    | exact ⟨ret_val (by rw [hX, ho]; simp only [textS]; rw [if_neg (by omega), nrOf_drop _ _ _ hk]; (first | done | rfl)), hB247⟩
                    | exact ⟨ret_val (by rw [hN, hT, show x = 41 from u8_eq (by assumption), tokC41]; (first | done | rfl)), hB247⟩
                    | exact ⟨ret_val (by rw [hN, hT, show x = 123 from u8_eq (by assumption), tokC123, nrOf_drop _ _ _ (by omega)]; (first | done | rfl)), hB247⟩
                    | exact ⟨ret_val (by rw [hN, hT, show x = 125 from u8_eq (by assumption), tokC125, nrOf_drop _ _ _ (by omega)]; (first | done | rfl)), hB247⟩
                    | exact ⟨ret_val (by rw [hN, hT, show x = 91 from u8_eq (by assumption), tokC91, nrOf_drop _ _ _ (by omega)]; (first | done | rfl)), hB247⟩
                    | exact ⟨ret_val (by rw [hN, hT, show x = 93 from u8_eq (by assumption), tokC93, nrOf_drop _ _ _ (by omega)]; (first | done | rfl)), hB247⟩
                    | exact ⟨ret_val (by rw [hN, hT, show x = 60 from u8_eq (by assumption), tokC60, angle_eq (by decide) hy, if_pos (show y = 60 from u8_eq (by assumption)), nrOf_drop _ _ _ (by omega)]; (first | done | rfl)), hB247⟩
                    | exact ⟨ret_val (by rw [hN, hT, show x = 62 from u8_eq (by assumption), tokC62, angle_eq (by decide) hy, if_pos (show y = 62 from u8_eq (by assumption)), nrOf_drop _ _ _ (by omega)]; (first | done | rfl)), hB247⟩
                    | exact ⟨ret_val (by rw [hN, hT, show x = 62 from u8_eq (by assumption), tokC62, angle_eq (by decide) hy, if_neg (u8_ne (d := 62) (show ¬ (y.toNat : Int) = 62 from by omega)), if_neg (by decide)]; (first | done | rfl)), hB247⟩
                    | exact ⟨ret_val (by rw [hN, hT, show x = 47 from u8_eq (by assumption), tokC47, slash_eq hy, if_pos (show y = 47 from u8_eq (by assumption)), nameS_at _ _ _ (by omega)]; (first | done | rfl)), hB247⟩
                    | exact ⟨ret_val (by rw [hN, hT, show x = 47 from u8_eq (by assumption), tokC47, slash_eq hy, if_neg (u8_ne (d := 47) (show ¬ (y.toNat : Int) = 47 from by omega)), nameS_at _ _ _ (by omega)]; (first | done | rfl)), hB247⟩
                    | exact ⟨ret_val (by rw [hX, if_pos (by assumption)]; (first | done | rfl)), hB247⟩
                    | exact ⟨ret_val (by rw [hX, if_neg (fun h => h (by assumption)), if_pos (by assumption)]; (first | done | rfl)), hB247⟩
                    | exact ⟨ret_val (by rw [hX, if_neg (fun h => by simp_all), if_neg (bF (by assumption))]; (first | done | rfl)), hB247⟩
                    | (exfalso; omega)
                  · have h244' := of_decide_eq_false h244
                    refine W.seq ?_
                    refine W.seq ?_
                    refine W.reg ?_ -- 36
                    refine WL.p (.eql rfl rfl) rfl <| WL.p (.as rfl) rfl <| WL.nil <| ?_
                    refine W.cond rfl (fun h248 => ?_) (fun h248 => ?_) -- slot 126
                    · have h248' := of_decide_eq_true h248
                      refine W.skip ?_
                      refine W.condT rfl h248 ?_
                      refine W.seq ?_
                      refine W.reg ?_ -- 38
                      refine WL.p (.mv rfl) rfl <| WL.bsl (ps := _) Tryz.underlying22 Tryz.sizeOf5 Tryz.zeroValue5 rfl rfl rfl rfl rfl (by simp only [put1, List.map, List.zip, List.zipWith, List.set, List.replicate] <;> rfl) rfl (fun b249 wb249 eb249 hkb249 hub249 hsb249 => ?_)
                      have hl251 : b1 < b249 := by rw [eb249]; exact hkb1.lt
                      have hk250 := hkb1.upd hub249 (Nat.ne_of_lt hl251)
                      have hvl253 := fun h0 => eb249 ▸ hv2.lt h0
                      have hv252 := BytesAt.upd hv2 hub249 (fun h0 => Nat.ne_of_lt (hvl253 h0))
                      have hB254 := Upd.below hB4 (by rw [eb249]; exact hB4.size) hub249
                      have hgeb249 : w.heap.size ≤ b249 := by rw [eb249]; exact hB4.size
                      refine WL.r (Rd.b2s (l := [x]) Tryz.underlying22 Tryz.underlying5 Tryz.underlying9 rfl (BytesAt.one hkb249 rfl)) rfl <| ?_
                      refine WL.p (.buildL (ps := _) blt143 rfl rfl rfl (by simp only [put1, List.map, List.zip, List.zipWith, List.set] <;> rfl)) rfl ?_
                      refine WL.p (.mv rfl) rfl <| WL.p (.iis (((s + 1 : Nat) : Int)) (.add rfl rfl (i64w (by omega))) (by omega)) rfl <| WL.stL rfl rfl hk250 isz143 rfl rfl (fun w255 hkw255 huw255 hsw255 => ?_)
                      have hk256 := hkb249.upd huw255 (by ((try simp only) <;> omega))
                      have hv257 := BytesAt.upd hv252 huw255 (fun h0 => Nat.ne_of_lt (hvl3 h0))
                      have hB258 := Upd.below hB254 (by omega) huw255
                      refine WL.p (.as rfl) rfl <| WL.p (.as rfl) rfl <| WL.nil <| ?_
                      refine W.ret (W.retc3 rfl rfl (ldRow hkw255 Tryz.underlying143 rfl isz143) rfl rfl ?_)
                      first
                      | exact ⟨ret_val (by unfold nextR; rw [if_pos (by omega)]; (first | done | rfl)), hB258⟩
                      | exact ⟨ret_val (by rw [hN, tokS_end hsd (by omega)]; (first | done | rfl)), hB258⟩
                      | exact ⟨ret_val (by rw [hX, ho]; (first | done | rfl)), hB258⟩
                      | exact ⟨ret_val (by rw [hX, ho]; simp only [textS]; rw [if_pos (by omega)]; (first | done | rfl)), hB258⟩
                      | exact ⟨ret_val (by rw [hX, ho]; simp only [textS]; rw [if_neg (by omega), nrOf_drop _ _ _ hk]; (first | done | rfl)), hB258⟩
                      | exact ⟨ret_val (by rw [hN, hT, show x = 41 from u8_eq (by assumption), tokC41]; (first | done | rfl)), hB258⟩
                      | exact ⟨ret_val (by rw [hN, hT, show x = 123 from u8_eq (by assumption), tokC123, nrOf_drop _ _ _ (by omega)]; (first | done | rfl)), hB258⟩
                      | exact ⟨ret_val (by rw [hN, hT, show x = 125 from u8_eq (by assumption), tokC125, nrOf_drop _ _ _ (by omega)]; (first | done | rfl)), hB258⟩
                      | exact ⟨ret_val (by rw [hN, hT, show x = 91 from u8_eq (by assumption), tokC91, nrOf_drop _ _ _ (by omega)]; (first | done | rfl)), hB258⟩
                      | exact ⟨ret_val (by rw [hN, hT, show x = 93 from u8_eq (by assumption), tokC93, nrOf_drop _ _ _ (by omega)]; (first | done | rfl)), hB258⟩
                      | exact ⟨ret_val (by rw [hN, hT, show x = 60 from u8_eq (by assumption), tokC60, angle_eq (by decide) hy, if_pos (show y = 60 from u8_eq (by assumption)), nrOf_drop _ _ _ (by omega)]; (first | done | rfl)), hB258⟩
                      | exact ⟨ret_val (by rw [hN, hT, show x = 62 from u8_eq (by assumption), tokC62, angle_eq (by decide) hy, if_pos (show y = 62 from u8_eq (by assumption)), nrOf_drop _ _ _ (by omega)]; (first | done | rfl)), hB258⟩
                      | exact ⟨ret_val (by rw [hN, hT, show x = 62 from u8_eq (by assumption), tokC62, angle_eq (by decide) hy, if_neg (u8_ne (d := 62) (show ¬ (y.toNat : Int) = 62 from by omega)), if_neg (by decide)]; (first | done | rfl)), hB258⟩
                      | exact ⟨ret_val (by rw [hN, hT, show x = 47 from u8_eq (by assumption), tokC47, slash_eq hy, if_pos (show y = 47 from u8_eq (by assumption)), nameS_at _ _ _ (by omega)]; (first | done | rfl)), hB258⟩
                      | exact ⟨ret_val (by rw [hN, hT, show x = 47 from u8_eq (by assumption), tokC47, slash_eq hy, if_neg (u8_ne (d := 47) (show ¬ (y.toNat : Int) = 47 from by omega)), nameS_at _ _ _ (by omega)]; (first | done | rfl)), hB258⟩
                      | exact ⟨ret_val (by rw [hX, if_pos (by assumption)]; (first | done | rfl)), hB258⟩
                      | exact ⟨ret_val (by rw [hX, if_neg (fun h => h (by assumption)), if_pos (by assumption)]; (first | done | rfl)), hB258⟩
                      | exact ⟨ret_val (by rw [hX, if_neg (fun h => by simp_all), if_neg (bF (by assumption))]; (first | done | rfl)), hB258⟩
                      | (exfalso; omega)
                    · have h248' := of_decide_eq_false h248
                      refine W.reg ?_ -- 37
                      refine WL.p (.eql rfl rfl) rfl <| WL.p (.as rfl) rfl <| WL.nil <| ?_
                      refine W.cond rfl (fun h259 => ?_) (fun h259 => ?_) -- slot 126
                      · have h259' := of_decide_eq_true h259
                        refine W.seq ?_
                        refine W.reg ?_ -- 38
                        refine WL.p (.mv rfl) rfl <| WL.bsl (ps := _) Tryz.underlying22 Tryz.sizeOf5 Tryz.zeroValue5 rfl rfl rfl rfl rfl (by simp only [put1, List.map, List.zip, List.zipWith, List.set, List.replicate] <;> rfl) rfl (fun b260 wb260 eb260 hkb260 hub260 hsb260 => ?_)
                        have hl262 : b1 < b260 := by rw [eb260]; exact hkb1.lt
                        have hk261 := hkb1.upd hub260 (Nat.ne_of_lt hl262)
                        have hvl264 := fun h0 => eb260 ▸ hv2.lt h0
                        have hv263 := BytesAt.upd hv2 hub260 (fun h0 => Nat.ne_of_lt (hvl264 h0))
                        have hB265 := Upd.below hB4 (by rw [eb260]; exact hB4.size) hub260
                        have hgeb260 : w.heap.size ≤ b260 := by rw [eb260]; exact hB4.size
                        refine WL.r (Rd.b2s (l := [x]) Tryz.underlying22 Tryz.underlying5 Tryz.underlying9 rfl (BytesAt.one hkb260 rfl)) rfl <| ?_
                        refine WL.p (.buildL (ps := _) blt143 rfl rfl rfl (by simp only [put1, List.map, List.zip, List.zipWith, List.set] <;> rfl)) rfl ?_
                        refine WL.p (.mv rfl) rfl <| WL.p (.iis (((s + 1 : Nat) : Int)) (.add rfl rfl (i64w (by omega))) (by omega)) rfl <| WL.stL rfl rfl hk261 isz143 rfl rfl (fun w266 hkw266 huw266 hsw266 => ?_)
                        have hk267 := hkb260.upd huw266 (by ((try simp only) <;> omega))
                        have hv268 := BytesAt.upd hv263 huw266 (fun h0 => Nat.ne_of_lt (hvl3 h0))
                        have hB269 := Upd.below hB265 (by omega) huw266
                        refine WL.p (.as rfl) rfl <| WL.p (.as rfl) rfl <| WL.nil <| ?_
                        refine W.ret (W.retc3 rfl rfl (ldRow hkw266 Tryz.underlying143 rfl isz143) rfl rfl ?_)
                        first
                        | exact ⟨ret_val (by unfold nextR; rw [if_pos (by omega)]; (first | done | rfl)), hB269⟩
                        | exact ⟨ret_val (by rw [hN, tokS_end hsd (by omega)]; (first | done | rfl)), hB269⟩
                        | exact ⟨ret_val (by rw [hX, ho]; (first | done | rfl)), hB269⟩
                        | exact ⟨ret_val (by rw [hX, ho]; simp only [textS]; rw [if_pos (by omega)]; (first | done | rfl)), hB269⟩
                        | exact ⟨ret_val (by rw [hX, ho]; simp only [textS]; rw [if_neg (by omega), nrOf_drop _ _ _ hk]; (first | done | rfl)), hB269⟩
                        | exact ⟨ret_val (by rw [hN, hT, show x = 41 from u8_eq (by assumption), tokC41]; (first | done | rfl)), hB269⟩
                        | exact ⟨ret_val (by rw [hN, hT, show x = 123 from u8_eq (by assumption), tokC123, nrOf_drop _ _ _ (by omega)]; (first | done | rfl)), hB269⟩
                        | exact ⟨ret_val (by rw [hN, hT, show x = 125 from u8_eq (by assumption), tokC125, nrOf_drop _ _ _ (by omega)]; (first | done | rfl)), hB269⟩
                        | exact ⟨ret_val (by rw [hN, hT, show x = 91 from u8_eq (by assumption), tokC91, nrOf_drop _ _ _ (by omega)]; (first | done | rfl)), hB269⟩
                        | exact ⟨ret_val (by rw [hN, hT, show x = 93 from u8_eq (by assumption), tokC93, nrOf_drop _ _ _ (by omega)]; (first | done | rfl)), hB269⟩
                        | exact ⟨ret_val (by rw [hN, hT, show x = 60 from u8_eq (by assumption), tokC60, angle_eq (by decide) hy, if_pos (show y = 60 from u8_eq (by assumption)), nrOf_drop _ _ _ (by omega)]; (first | done | rfl)), hB269⟩
                        | exact ⟨ret_val (by rw [hN, hT, show x = 62 from u8_eq (by assumption), tokC62, angle_eq (by decide) hy, if_pos (show y = 62 from u8_eq (by assumption)), nrOf_drop _ _ _ (by omega)]; (first | done | rfl)), hB269⟩
                        | exact ⟨ret_val (by rw [hN, hT, show x = 62 from u8_eq (by assumption), tokC62, angle_eq (by decide) hy, if_neg (u8_ne (d := 62) (show ¬ (y.toNat : Int) = 62 from by omega)), if_neg (by decide)]; (first | done | rfl)), hB269⟩
                        | exact ⟨ret_val (by rw [hN, hT, show x = 47 from u8_eq (by assumption), tokC47, slash_eq hy, if_pos (show y = 47 from u8_eq (by assumption)), nameS_at _ _ _ (by omega)]; (first | done | rfl)), hB269⟩
                        | exact ⟨ret_val (by rw [hN, hT, show x = 47 from u8_eq (by assumption), tokC47, slash_eq hy, if_neg (u8_ne (d := 47) (show ¬ (y.toNat : Int) = 47 from by omega)), nameS_at _ _ _ (by omega)]; (first | done | rfl)), hB269⟩
                        | exact ⟨ret_val (by rw [hX, if_pos (by assumption)]; (first | done | rfl)), hB269⟩
                        | exact ⟨ret_val (by rw [hX, if_neg (fun h => h (by assumption)), if_pos (by assumption)]; (first | done | rfl)), hB269⟩
                        | exact ⟨ret_val (by rw [hX, if_neg (fun h => by simp_all), if_neg (bF (by assumption))]; (first | done | rfl)), hB269⟩
                        | (exfalso; omega)
                      · have h259' := of_decide_eq_false h259
                        refine W.seq ?_
                        refine W.reg ?_ -- 39
                        refine WL.p (.eql rfl rfl) rfl <| WL.p (.as rfl) rfl <| WL.nil <| ?_
                        refine W.cond rfl (fun h270 => ?_) (fun h270 => ?_) -- slot 135
                        · have h270' := of_decide_eq_true h270
                          refine W.seq ?_
                          refine W.seq ?_
                          refine W.reg ?_ -- 40
                          refine WL.p (.mv rfl) rfl <| WL.p (.eql rfl rfl) rfl <| WL.nil <| ?_
                          refine W.cond rfl (fun h271 => ?_) (fun h271 => ?_) -- slot 138
                          · have h271' := of_decide_eq_true h271
                            refine W.seq ?_
                            refine W.reg ?_ -- 41
                            refine WL.p (.mv rfl) rfl <| WL.p (.mv rfl) rfl <| WL.p (.iis (((s + 1 + 1 : Nat) : Int)) (.add rfl rfl (i64w (by omega))) (by omega)) rfl <| WL.p (.mv rfl) rfl <| WL.p (.mv rfl) rfl <| WL.p (.iis (((s + 1 + 1 : Nat) : Int)) (.add rfl rfl (i64w (by omega))) (by omega)) rfl <| WL.c1 hb12 rfl rfl ((ref_Word p l c (s + 1 + 1) _ hv2 (by omega) hl)) (fun w272 hw272 => ?_)
                            obtain rfl := hw272
                            refine WL.c1 hb157 rfl rfl ((ref_name 5 p l c (s + 1 + 1) (wordAt l (s + 1 + 1)) _ hv2 (wordAt_le l (s + 1 + 1) (by omega)).1 (wordAt_le l (s + 1 + 1) (by omega)).2 hc hl)) (fun w273 hw273 => ?_)
                            have hk274 := hkb1.below hw273 hkb1.lt
                            have hv275 := BytesAt.below hv2 hw273 (fun h0 => hv2.lt h0)
                            have hB276 := btr hB4 hw273
                            refine WL.p (.ext rfl rfl) rfl <| WL.p (.ext rfl rfl) rfl <| WL.p (.ext rfl rfl) rfl <| WL.stL rfl rfl hk274 isz143 rfl rfl (fun w277 hkw277 huw277 hsw277 => ?_)
                            have hv278 := BytesAt.upd hv275 huw277 (fun h0 => Nat.ne_of_lt (hvl3 h0))
                            have hB279 := Upd.below hB276 (by omega) huw277
                            refine WL.p (.as rfl) rfl <| WL.p (.as rfl) rfl <| WL.nil <| ?_
                            refine W.ret (W.retc3 rfl rfl (ldRow hkw277 Tryz.underlying143 rfl isz143) rfl rfl ?_)
                            first
                            | exact ⟨ret_val (by unfold nextR; rw [if_pos (by omega)]; (first | done | rfl)), hB279⟩
                            | exact ⟨ret_val (by rw [hN, tokS_end hsd (by omega)]; (first | done | rfl)), hB279⟩
                            | exact ⟨ret_val (by rw [hX, ho]; (first | done | rfl)), hB279⟩
                            | exact ⟨ret_val (by rw [hX, ho]; simp only [textS]; rw [if_pos (by omega)]; (first | done | rfl)), hB279⟩
                            | exact ⟨ret_val (by rw [hX, ho]; simp only [textS]; rw [if_neg (by omega), nrOf_drop _ _ _ hk]; (first | done | rfl)), hB279⟩
                            | exact ⟨ret_val (by rw [hN, hT, show x = 41 from u8_eq (by assumption), tokC41]; (first | done | rfl)), hB279⟩
                            | exact ⟨ret_val (by rw [hN, hT, show x = 123 from u8_eq (by assumption), tokC123, nrOf_drop _ _ _ (by omega)]; (first | done | rfl)), hB279⟩
                            | exact ⟨ret_val (by rw [hN, hT, show x = 125 from u8_eq (by assumption), tokC125, nrOf_drop _ _ _ (by omega)]; (first | done | rfl)), hB279⟩
                            | exact ⟨ret_val (by rw [hN, hT, show x = 91 from u8_eq (by assumption), tokC91, nrOf_drop _ _ _ (by omega)]; (first | done | rfl)), hB279⟩
                            | exact ⟨ret_val (by rw [hN, hT, show x = 93 from u8_eq (by assumption), tokC93, nrOf_drop _ _ _ (by omega)]; (first | done | rfl)), hB279⟩
                            | exact ⟨ret_val (by rw [hN, hT, show x = 60 from u8_eq (by assumption), tokC60, angle_eq (by decide) hy, if_pos (show y = 60 from u8_eq (by assumption)), nrOf_drop _ _ _ (by omega)]; (first | done | rfl)), hB279⟩
                            | exact ⟨ret_val (by rw [hN, hT, show x = 62 from u8_eq (by assumption), tokC62, angle_eq (by decide) hy, if_pos (show y = 62 from u8_eq (by assumption)), nrOf_drop _ _ _ (by omega)]; (first | done | rfl)), hB279⟩
                            | exact ⟨ret_val (by rw [hN, hT, show x = 62 from u8_eq (by assumption), tokC62, angle_eq (by decide) hy, if_neg (u8_ne (d := 62) (show ¬ (y.toNat : Int) = 62 from by omega)), if_neg (by decide)]; (first | done | rfl)), hB279⟩
                            | exact ⟨ret_val (by rw [hN, hT, show x = 47 from u8_eq (by assumption), tokC47, slash_eq hy, if_pos (show y = 47 from u8_eq (by assumption)), nameS_at _ _ _ (by omega)]; (first | done | rfl)), hB279⟩
                            | exact ⟨ret_val (by rw [hN, hT, show x = 47 from u8_eq (by assumption), tokC47, slash_eq hy, if_neg (u8_ne (d := 47) (show ¬ (y.toNat : Int) = 47 from by omega)), nameS_at _ _ _ (by omega)]; (first | done | rfl)), hB279⟩
                            | exact ⟨ret_val (by rw [hX, if_pos (by assumption)]; (first | done | rfl)), hB279⟩
                            | exact ⟨ret_val (by rw [hX, if_neg (fun h => h (by assumption)), if_pos (by assumption)]; (first | done | rfl)), hB279⟩
                            | exact ⟨ret_val (by rw [hX, if_neg (fun h => by simp_all), if_neg (bF (by assumption))]; (first | done | rfl)), hB279⟩
                            | (exfalso; omega)
                          · have h271' := of_decide_eq_false h271
                            refine W.skip ?_
                            refine W.seq ?_
                            refine W.reg ?_ -- 42
                            refine WL.p (.mv rfl) rfl <| WL.p (.mv rfl) rfl <| WL.p (.iis (((s + 1 : Nat) : Int)) (.add rfl rfl (i64w (by omega))) (by omega)) rfl <| WL.p (.mv rfl) rfl <| WL.p (.mv rfl) rfl <| WL.p (.iis (((s + 1 : Nat) : Int)) (.add rfl rfl (i64w (by omega))) (by omega)) rfl <| WL.c1 hb12 rfl rfl ((ref_Word p l c (s + 1) _ hv2 (by omega) hl)) (fun w280 hw280 => ?_)
                            obtain rfl := hw280
                            refine WL.c1 hb157 rfl rfl ((ref_name 4 p l c (s + 1) (wordAt l (s + 1)) _ hv2 (wordAt_le l (s + 1) (by omega)).1 (wordAt_le l (s + 1) (by omega)).2 hc hl)) (fun w281 hw281 => ?_)
                            have hk282 := hkb1.below hw281 hkb1.lt
                            have hv283 := BytesAt.below hv2 hw281 (fun h0 => hv2.lt h0)
                            have hB284 := btr hB4 hw281
                            refine WL.p (.ext rfl rfl) rfl <| WL.p (.ext rfl rfl) rfl <| WL.p (.ext rfl rfl) rfl <| WL.stL rfl rfl hk282 isz143 rfl rfl (fun w285 hkw285 huw285 hsw285 => ?_)
                            have hv286 := BytesAt.upd hv283 huw285 (fun h0 => Nat.ne_of_lt (hvl3 h0))
                            have hB287 := Upd.below hB284 (by omega) huw285
                            refine WL.p (.as rfl) rfl <| WL.p (.as rfl) rfl <| WL.nil <| ?_
                            refine W.ret (W.retc3 rfl rfl (ldRow hkw285 Tryz.underlying143 rfl isz143) rfl rfl ?_)
                            first
                            | exact ⟨ret_val (by unfold nextR; rw [if_pos (by omega)]; (first | done | rfl)), hB287⟩
                            | exact ⟨ret_val (by rw [hN, tokS_end hsd (by omega)]; (first | done | rfl)), hB287⟩
                            | exact ⟨ret_val (by rw [hX, ho]; (first | done | rfl)), hB287⟩
                            | exact ⟨ret_val (by rw [hX, ho]; simp only [textS]; rw [if_pos (by omega)]; (first | done | rfl)), hB287⟩
                            | exact ⟨ret_val (by rw [hX, ho]; simp only [textS]; rw [if_neg (by omega), nrOf_drop _ _ _ hk]; (first | done | rfl)), hB287⟩
                            | exact ⟨ret_val (by rw [hN, hT, show x = 41 from u8_eq (by assumption), tokC41]; (first | done | rfl)), hB287⟩
                            | exact ⟨ret_val (by rw [hN, hT, show x = 123 from u8_eq (by assumption), tokC123, nrOf_drop _ _ _ (by omega)]; (first | done | rfl)), hB287⟩
                            | exact ⟨ret_val (by rw [hN, hT, show x = 125 from u8_eq (by assumption), tokC125, nrOf_drop _ _ _ (by omega)]; (first | done | rfl)), hB287⟩
                            | exact ⟨ret_val (by rw [hN, hT, show x = 91 from u8_eq (by assumption), tokC91, nrOf_drop _ _ _ (by omega)]; (first | done | rfl)), hB287⟩
                            | exact ⟨ret_val (by rw [hN, hT, show x = 93 from u8_eq (by assumption), tokC93, nrOf_drop _ _ _ (by omega)]; (first | done | rfl)), hB287⟩
                            | exact ⟨ret_val (by rw [hN, hT, show x = 60 from u8_eq (by assumption), tokC60, angle_eq (by decide) hy, if_pos (show y = 60 from u8_eq (by assumption)), nrOf_drop _ _ _ (by omega)]; (first | done | rfl)), hB287⟩
                            | exact ⟨ret_val (by rw [hN, hT, show x = 62 from u8_eq (by assumption), tokC62, angle_eq (by decide) hy, if_pos (show y = 62 from u8_eq (by assumption)), nrOf_drop _ _ _ (by omega)]; (first | done | rfl)), hB287⟩
                            | exact ⟨ret_val (by rw [hN, hT, show x = 62 from u8_eq (by assumption), tokC62, angle_eq (by decide) hy, if_neg (u8_ne (d := 62) (show ¬ (y.toNat : Int) = 62 from by omega)), if_neg (by decide)]; (first | done | rfl)), hB287⟩
                            | exact ⟨ret_val (by rw [hN, hT, show x = 47 from u8_eq (by assumption), tokC47, slash_eq hy, if_pos (show y = 47 from u8_eq (by assumption)), nameS_at _ _ _ (by omega)]; (first | done | rfl)), hB287⟩
                            | exact ⟨ret_val (by rw [hN, hT, show x = 47 from u8_eq (by assumption), tokC47, slash_eq hy, if_neg (u8_ne (d := 47) (show ¬ (y.toNat : Int) = 47 from by omega)), nameS_at _ _ _ (by omega)]; (first | done | rfl)), hB287⟩
                            | exact ⟨ret_val (by rw [hX, if_pos (by assumption)]; (first | done | rfl)), hB287⟩
                            | exact ⟨ret_val (by rw [hX, if_neg (fun h => h (by assumption)), if_pos (by assumption)]; (first | done | rfl)), hB287⟩
                            | exact ⟨ret_val (by rw [hX, if_neg (fun h => by simp_all), if_neg (bF (by assumption))]; (first | done | rfl)), hB287⟩
                            | (exfalso; omega)
                        · have h270' := of_decide_eq_false h270
                          refine W.skip ?_
                          refine W.seq ?_
                          have hX : nextR l (n : Int) = nrOf l (wordS (l.drop s)) := by rw [hN, hT, tokC_word _ (by omega) (by omega) (by omega) (by omega) (by omega) (by omega) (by omega) (by omega) (by omega), hx, ← List.drop_eq_getElem_cons hlt]
                          have hwl := wordAt_le l s (by omega)
                          refine W.reg ?_ -- 43
                          refine WL.p (.mv rfl) rfl <| WL.p (.mv rfl) rfl <| WL.c1 hb12 rfl rfl ((ref_Word p l c s _ hv2 (by omega) hl)) (fun w288 hw288 => ?_)
                          obtain rfl := hw288
                          refine WL.p (.as rfl) rfl <| WL.nil <| ?_
                          refine W.seq ?_
                          obtain ⟨T, hTk⟩ : ∃ T, T = tokenL ((l.drop s).take (wordAt l s - s)) := ⟨_, rfl⟩
                          rw [wordS_at l s (by omega) T hTk] at hX
                          have hTe := tokenL_e ((l.drop s).take (wordAt l s - s))
                          rw [← hTk] at hTe
                          have hTc : ∀ w, Calls Tryz.prog 118 #[.string (bs ((l.drop s).take (wordAt l s - s)))] w fun e w' => e = .returned T.val ∧ Below w.heap.size w w' := fun w => by rw [hTk]; exact ref_Token _ w
                          refine W.reg ?_ -- 44
                          refine WL.p (.mv rfl) rfl <| WL.p (.mv rfl) rfl <| WL.p (.mv rfl) rfl <| WL.p (.slb Tryz.underlying22 Tryz.sizeOf5 rfl rfl rfl  (s) (wordAt l s) (rfl) (rfl) (by omega) (by omega)) rfl <| WL.r (Rd.b2sPart Tryz.underlying22 Tryz.underlying5 Tryz.underlying9 rfl rfl hv2 (by omega) (by omega) hc) rfl <| WL.c1 hb118 rfl rfl ((hTc _)) (fun w289 hw289 => ?_)
                          have hk290 := hkb1.below hw289 hkb1.lt
                          have hv291 := BytesAt.below hv2 hw289 (fun h0 => hv2.lt h0)
                          have hB292 := btr hB4 hw289
                          refine WL.p (.mv rfl) rfl <| WL.p (.ext rfl rfl) rfl <| WL.p (.ext rfl rfl) rfl <| WL.p (.ext rfl rfl) rfl <| WL.alloc Tryz.zeroValue143 rfl (fun b293 wb293 eb293 hkb293 hub293 hsb293 => ?_)
                          have hl295 : b1 < b293 := by rw [eb293]; exact hk290.lt
                          have hk294 := hk290.upd hub293 (Nat.ne_of_lt hl295)
                          have hvl297 := fun h0 => eb293 ▸ hv291.lt h0
                          have hv296 := BytesAt.upd hv291 hub293 (fun h0 => Nat.ne_of_lt (hvl297 h0))
                          have hB298 := Upd.below hB292 (by rw [eb293]; exact hB292.size) hub293
                          have hgeb293 : w.heap.size ≤ b293 := by rw [eb293]; exact hB292.size
                          refine WL.stL rfl rfl hkb293 isz143 rfl rfl (fun w299 hkw299 huw299 hsw299 => ?_)
                          have hk300 := hk294.upd huw299 (by ((try simp only) <;> omega))
                          have hv301 := BytesAt.upd hv296 huw299 (fun h0 => Nat.ne_of_lt (hvl297 h0))
                          have hB302 := Upd.below hB298 (by omega) huw299
                          refine WL.p (.as rfl) rfl <| WL.p (.as rfl) rfl <| WL.nil <| ?_
                          refine W.seq ?_
                          refine W.seq ?_
                          refine W.reg ?_ -- 45
                          refine WL.p (.mv rfl) rfl <| WL.p (.mv rfl) rfl <| WL.gd rfl rfl rfl (fun g303 => ?_) (fun g303 => ?_)
                          · have g303' := g303
                            refine WL.p (.mv rfl) rfl <| WL.gy rfl rfl rfl g303 <| WL.p (.neq rfl rfl) rfl <| WL.p (.pkT rfl g303 rfl) rfl <| WL.nil <| ?_
                            refine W.cond rfl (fun h304 => ?_) (fun h304 => ?_) -- slot 178
                            · have h304' := ndT h304
                              refine W.seq ?_
                              refine W.reg ?_ -- 46
                              refine WL.p (.mv rfl) rfl <| WL.c1 hb154 rfl rfl ((ref_none _ _)) (fun w305 hw305 => ?_)
                              have hk306 := hk300.below hw305 hk300.lt
                              have hk307 := hkw299.below hw305 hkw299.lt
                              have hv308 := BytesAt.below hv301 hw305 (fun h0 => hv301.lt h0)
                              have hB309 := btr hB302 hw305
                              refine WL.p (.ext rfl rfl) rfl <| WL.p (.ext rfl rfl) rfl <| WL.p (.ext rfl rfl) rfl <| WL.stL rfl rfl hk306 isz143 rfl rfl (fun w310 hkw310 huw310 hsw310 => ?_)
                              have hk311 := hk307.upd huw310 (by ((try simp only) <;> omega))
                              have hv312 := BytesAt.upd hv308 huw310 (fun h0 => Nat.ne_of_lt (hvl3 h0))
                              have hB313 := Upd.below hB309 (by omega) huw310
                              refine WL.p (.as rfl) rfl <| WL.p (.as rfl) rfl <| WL.nil <| ?_
                              refine W.ret (W.retc3 rfl rfl (ldRow hkw310 Tryz.underlying143 rfl isz143) rfl rfl ?_)
                              first
                              | exact ⟨ret_val (by unfold nextR; rw [if_pos (by omega)]; (first | done | rfl)), hB313⟩
                              | exact ⟨ret_val (by rw [hN, tokS_end hsd (by omega)]; (first | done | rfl)), hB313⟩
                              | exact ⟨ret_val (by rw [hX, ho]; (first | done | rfl)), hB313⟩
                              | exact ⟨ret_val (by rw [hX, ho]; simp only [textS]; rw [if_pos (by omega)]; (first | done | rfl)), hB313⟩
                              | exact ⟨ret_val (by rw [hX, ho]; simp only [textS]; rw [if_neg (by omega), nrOf_drop _ _ _ hk]; (first | done | rfl)), hB313⟩
                              | exact ⟨ret_val (by rw [hN, hT, show x = 41 from u8_eq (by assumption), tokC41]; (first | done | rfl)), hB313⟩
                              | exact ⟨ret_val (by rw [hN, hT, show x = 123 from u8_eq (by assumption), tokC123, nrOf_drop _ _ _ (by omega)]; (first | done | rfl)), hB313⟩
                              | exact ⟨ret_val (by rw [hN, hT, show x = 125 from u8_eq (by assumption), tokC125, nrOf_drop _ _ _ (by omega)]; (first | done | rfl)), hB313⟩
                              | exact ⟨ret_val (by rw [hN, hT, show x = 91 from u8_eq (by assumption), tokC91, nrOf_drop _ _ _ (by omega)]; (first | done | rfl)), hB313⟩
                              | exact ⟨ret_val (by rw [hN, hT, show x = 93 from u8_eq (by assumption), tokC93, nrOf_drop _ _ _ (by omega)]; (first | done | rfl)), hB313⟩
                              | exact ⟨ret_val (by rw [hN, hT, show x = 60 from u8_eq (by assumption), tokC60, angle_eq (by decide) hy, if_pos (show y = 60 from u8_eq (by assumption)), nrOf_drop _ _ _ (by omega)]; (first | done | rfl)), hB313⟩
                              | exact ⟨ret_val (by rw [hN, hT, show x = 62 from u8_eq (by assumption), tokC62, angle_eq (by decide) hy, if_pos (show y = 62 from u8_eq (by assumption)), nrOf_drop _ _ _ (by omega)]; (first | done | rfl)), hB313⟩
                              | exact ⟨ret_val (by rw [hN, hT, show x = 62 from u8_eq (by assumption), tokC62, angle_eq (by decide) hy, if_neg (u8_ne (d := 62) (show ¬ (y.toNat : Int) = 62 from by omega)), if_neg (by decide)]; (first | done | rfl)), hB313⟩
                              | exact ⟨ret_val (by rw [hN, hT, show x = 47 from u8_eq (by assumption), tokC47, slash_eq hy, if_pos (show y = 47 from u8_eq (by assumption)), nameS_at _ _ _ (by omega)]; (first | done | rfl)), hB313⟩
                              | exact ⟨ret_val (by rw [hN, hT, show x = 47 from u8_eq (by assumption), tokC47, slash_eq hy, if_neg (u8_ne (d := 47) (show ¬ (y.toNat : Int) = 47 from by omega)), nameS_at _ _ _ (by omega)]; (first | done | rfl)), hB313⟩
                              | exact ⟨ret_val (by rw [hX, if_pos (by assumption)]; (first | done | rfl)), hB313⟩
                              | exact ⟨ret_val (by rw [hX, if_neg (fun h => h (by assumption)), if_pos (by assumption)]; (first | done | rfl)), hB313⟩
                              | exact ⟨ret_val (by rw [hX, if_neg (fun h => by simp_all), if_neg (bF (by assumption))]; (first | done | rfl)), hB313⟩
                              | (exfalso; omega)
                            · have h304' := ndF h304
                              refine W.skip ?_
                              refine W.seq ?_
                              refine W.seq ?_
                              refine W.reg ?_ -- 47
                              refine WL.p (.mv rfl) rfl <| WL.nil <| ?_
                              refine W.condT rfl g303 ?_
                              refine W.seq ?_
                              refine W.reg ?_ -- 48
                              refine WL.r (Rd.ldA rfl hkw299 Tryz.underlying143 rfl isz143) rfl <| WL.p (.mv rfl) rfl <| WL.stL rfl rfl hk300 isz143 rfl rfl (fun w314 hkw314 huw314 hsw314 => ?_)
                              have hk315 := hkw299.upd huw314 (by ((try simp only) <;> omega))
                              have hv316 := BytesAt.upd hv301 huw314 (fun h0 => Nat.ne_of_lt (hvl3 h0))
                              have hB317 := Upd.below hB302 (by omega) huw314
                              refine WL.p (.as rfl) rfl <| WL.p (.as rfl) rfl <| WL.nil <| ?_
                              refine W.ret (W.retc3 rfl rfl (ldRow hkw314 Tryz.underlying143 rfl isz143) rfl rfl ?_)
                              first
                              | exact ⟨ret_val (by unfold nextR; rw [if_pos (by omega)]; (first | done | rfl)), hB317⟩
                              | exact ⟨ret_val (by rw [hN, tokS_end hsd (by omega)]; (first | done | rfl)), hB317⟩
                              | exact ⟨ret_val (by rw [hX, ho]; (first | done | rfl)), hB317⟩
                              | exact ⟨ret_val (by rw [hX, ho]; simp only [textS]; rw [if_pos (by omega)]; (first | done | rfl)), hB317⟩
                              | exact ⟨ret_val (by rw [hX, ho]; simp only [textS]; rw [if_neg (by omega), nrOf_drop _ _ _ hk]; (first | done | rfl)), hB317⟩
                              | exact ⟨ret_val (by rw [hN, hT, show x = 41 from u8_eq (by assumption), tokC41]; (first | done | rfl)), hB317⟩
                              | exact ⟨ret_val (by rw [hN, hT, show x = 123 from u8_eq (by assumption), tokC123, nrOf_drop _ _ _ (by omega)]; (first | done | rfl)), hB317⟩
                              | exact ⟨ret_val (by rw [hN, hT, show x = 125 from u8_eq (by assumption), tokC125, nrOf_drop _ _ _ (by omega)]; (first | done | rfl)), hB317⟩
                              | exact ⟨ret_val (by rw [hN, hT, show x = 91 from u8_eq (by assumption), tokC91, nrOf_drop _ _ _ (by omega)]; (first | done | rfl)), hB317⟩
                              | exact ⟨ret_val (by rw [hN, hT, show x = 93 from u8_eq (by assumption), tokC93, nrOf_drop _ _ _ (by omega)]; (first | done | rfl)), hB317⟩
                              | exact ⟨ret_val (by rw [hN, hT, show x = 60 from u8_eq (by assumption), tokC60, angle_eq (by decide) hy, if_pos (show y = 60 from u8_eq (by assumption)), nrOf_drop _ _ _ (by omega)]; (first | done | rfl)), hB317⟩
                              | exact ⟨ret_val (by rw [hN, hT, show x = 62 from u8_eq (by assumption), tokC62, angle_eq (by decide) hy, if_pos (show y = 62 from u8_eq (by assumption)), nrOf_drop _ _ _ (by omega)]; (first | done | rfl)), hB317⟩
                              | exact ⟨ret_val (by rw [hN, hT, show x = 62 from u8_eq (by assumption), tokC62, angle_eq (by decide) hy, if_neg (u8_ne (d := 62) (show ¬ (y.toNat : Int) = 62 from by omega)), if_neg (by decide)]; (first | done | rfl)), hB317⟩
                              | exact ⟨ret_val (by rw [hN, hT, show x = 47 from u8_eq (by assumption), tokC47, slash_eq hy, if_pos (show y = 47 from u8_eq (by assumption)), nameS_at _ _ _ (by omega)]; (first | done | rfl)), hB317⟩
                              | exact ⟨ret_val (by rw [hN, hT, show x = 47 from u8_eq (by assumption), tokC47, slash_eq hy, if_neg (u8_ne (d := 47) (show ¬ (y.toNat : Int) = 47 from by omega)), nameS_at _ _ _ (by omega)]; (first | done | rfl)), hB317⟩
                              | exact ⟨ret_val (by rw [hX, if_pos (by assumption)]; (first | done | rfl)), hB317⟩
                              | exact ⟨ret_val (by rw [hX, if_neg (fun h => h (by assumption)), if_pos (by assumption)]; (first | done | rfl)), hB317⟩
                              | exact ⟨ret_val (by rw [hX, if_neg (fun h => by simp_all), if_neg (bF (by assumption))]; (first | done | rfl)), hB317⟩
                              | (exfalso; omega)
                          · have g303' := g303
                            refine WL.gn rfl rfl rfl g303 <| WL.p (.pkF rfl g303 rfl) rfl <| WL.nil <| ?_
                            refine W.condF rfl rfl ?_
                            refine W.skip ?_
                            refine W.seq ?_
                            refine W.seq ?_
                            refine W.reg ?_ -- 47
                            refine WL.p (.mv rfl) rfl <| WL.nil <| ?_
                            refine W.condF rfl g303 ?_
                            refine W.skip ?_
                            refine W.seq ?_
                            refine W.reg ?_ -- 49
                            refine WL.p (.mv rfl) rfl <| WL.p (.mv rfl) rfl <| WL.p (.mv rfl) rfl <| WL.c1 hb157 rfl rfl ((ref_name 3 p l c s (wordAt l s) _ hv301 (wordAt_le l s (by omega)).1 (wordAt_le l s (by omega)).2 hc hl)) (fun w318 hw318 => ?_)
                            have hk319 := hk300.below hw318 hk300.lt
                            have hk320 := hkw299.below hw318 hkw299.lt
                            have hv321 := BytesAt.below hv301 hw318 (fun h0 => hv301.lt h0)
                            have hB322 := btr hB302 hw318
                            refine WL.p (.ext rfl rfl) rfl <| WL.p (.ext rfl rfl) rfl <| WL.p (.ext rfl rfl) rfl <| WL.stL rfl rfl hk319 isz143 rfl rfl (fun w323 hkw323 huw323 hsw323 => ?_)
                            have hk324 := hk320.upd huw323 (by ((try simp only) <;> omega))
                            have hv325 := BytesAt.upd hv321 huw323 (fun h0 => Nat.ne_of_lt (hvl3 h0))
                            have hB326 := Upd.below hB322 (by omega) huw323
                            refine WL.p (.as rfl) rfl <| WL.p (.as rfl) rfl <| WL.nil <| ?_
                            refine W.ret (W.retc3 rfl rfl (ldRow hkw323 Tryz.underlying143 rfl isz143) rfl rfl ?_)
                            first
                            | exact ⟨ret_val (by unfold nextR; rw [if_pos (by omega)]; (first | done | rfl)), hB326⟩
                            | exact ⟨ret_val (by rw [hN, tokS_end hsd (by omega)]; (first | done | rfl)), hB326⟩
                            | exact ⟨ret_val (by rw [hX, ho]; (first | done | rfl)), hB326⟩
                            | exact ⟨ret_val (by rw [hX, ho]; simp only [textS]; rw [if_pos (by omega)]; (first | done | rfl)), hB326⟩
                            | exact ⟨ret_val (by rw [hX, ho]; simp only [textS]; rw [if_neg (by omega), nrOf_drop _ _ _ hk]; (first | done | rfl)), hB326⟩
                            | exact ⟨ret_val (by rw [hN, hT, show x = 41 from u8_eq (by assumption), tokC41]; (first | done | rfl)), hB326⟩
                            | exact ⟨ret_val (by rw [hN, hT, show x = 123 from u8_eq (by assumption), tokC123, nrOf_drop _ _ _ (by omega)]; (first | done | rfl)), hB326⟩
                            | exact ⟨ret_val (by rw [hN, hT, show x = 125 from u8_eq (by assumption), tokC125, nrOf_drop _ _ _ (by omega)]; (first | done | rfl)), hB326⟩
                            | exact ⟨ret_val (by rw [hN, hT, show x = 91 from u8_eq (by assumption), tokC91, nrOf_drop _ _ _ (by omega)]; (first | done | rfl)), hB326⟩
                            | exact ⟨ret_val (by rw [hN, hT, show x = 93 from u8_eq (by assumption), tokC93, nrOf_drop _ _ _ (by omega)]; (first | done | rfl)), hB326⟩
                            | exact ⟨ret_val (by rw [hN, hT, show x = 60 from u8_eq (by assumption), tokC60, angle_eq (by decide) hy, if_pos (show y = 60 from u8_eq (by assumption)), nrOf_drop _ _ _ (by omega)]; (first | done | rfl)), hB326⟩
                            | exact ⟨ret_val (by rw [hN, hT, show x = 62 from u8_eq (by assumption), tokC62, angle_eq (by decide) hy, if_pos (show y = 62 from u8_eq (by assumption)), nrOf_drop _ _ _ (by omega)]; (first | done | rfl)), hB326⟩
                            | exact ⟨ret_val (by rw [hN, hT, show x = 62 from u8_eq (by assumption), tokC62, angle_eq (by decide) hy, if_neg (u8_ne (d := 62) (show ¬ (y.toNat : Int) = 62 from by omega)), if_neg (by decide)]; (first | done | rfl)), hB326⟩
                            | exact ⟨ret_val (by rw [hN, hT, show x = 47 from u8_eq (by assumption), tokC47, slash_eq hy, if_pos (show y = 47 from u8_eq (by assumption)), nameS_at _ _ _ (by omega)]; (first | done | rfl)), hB326⟩
                            | exact ⟨ret_val (by rw [hN, hT, show x = 47 from u8_eq (by assumption), tokC47, slash_eq hy, if_neg (u8_ne (d := 47) (show ¬ (y.toNat : Int) = 47 from by omega)), nameS_at _ _ _ (by omega)]; (first | done | rfl)), hB326⟩
                            | exact ⟨ret_val (by rw [hX, if_pos (by assumption)]; (first | done | rfl)), hB326⟩
                            | exact ⟨ret_val (by rw [hX, if_neg (fun h => h (by assumption)), if_pos (by assumption)]; (first | done | rfl)), hB326⟩
                            | exact ⟨ret_val (by rw [hX, if_neg (fun h => by simp_all), if_neg (bF (by assumption))]; (first | done | rfl)), hB326⟩
                            | (exfalso; omega)
  · have g5' := of_decide_eq_true g5
    refine WL.gn rfl rfl rfl g5 <| WL.gn rfl rfl rfl g5 <| WL.gn rfl rfl rfl g5 <| WL.p (.pkT rfl g5 rfl) rfl <| WL.nil <| ?_
    refine W.condT rfl rfl ?_
    refine W.seq ?_
    refine W.reg ?_ -- 2
    refine WL.c1 hb154 rfl rfl ((ref_none _ _)) (fun w327 hw327 => ?_)
    have hk328 := hkb1.below hw327 hkb1.lt
    have hv329 := BytesAt.below hv2 hw327 (fun h0 => hv2.lt h0)
    have hB330 := btr hB4 hw327
    refine WL.p (.ext rfl rfl) rfl <| WL.p (.ext rfl rfl) rfl <| WL.p (.ext rfl rfl) rfl <| WL.stL rfl rfl hk328 isz143 rfl rfl (fun w331 hkw331 huw331 hsw331 => ?_)
    have hv332 := BytesAt.upd hv329 huw331 (fun h0 => Nat.ne_of_lt (hvl3 h0))
    have hB333 := Upd.below hB330 (by omega) huw331
    refine WL.p (.as rfl) rfl <| WL.p (.as rfl) rfl <| WL.nil <| ?_
    refine W.ret (W.retc3 rfl rfl (ldRow hkw331 Tryz.underlying143 rfl isz143) rfl rfl ?_)
    first
    | exact ⟨ret_val (by unfold nextR; rw [if_pos (by omega)]; (first | done | rfl)), hB333⟩
    | exact ⟨ret_val (by rw [hN, tokS_end hsd (by omega)]; (first | done | rfl)), hB333⟩
    | exact ⟨ret_val (by rw [hX, ho]; (first | done | rfl)), hB333⟩
    | exact ⟨ret_val (by rw [hX, ho]; simp only [textS]; rw [if_pos (by omega)]; (first | done | rfl)), hB333⟩
    | exact ⟨ret_val (by rw [hX, ho]; simp only [textS]; rw [if_neg (by omega), nrOf_drop _ _ _ hk]; (first | done | rfl)), hB333⟩
    | exact ⟨ret_val (by rw [hN, hT, show x = 41 from u8_eq (by assumption), tokC41]; (first | done | rfl)), hB333⟩
    | exact ⟨ret_val (by rw [hN, hT, show x = 123 from u8_eq (by assumption), tokC123, nrOf_drop _ _ _ (by omega)]; (first | done | rfl)), hB333⟩
    | exact ⟨ret_val (by rw [hN, hT, show x = 125 from u8_eq (by assumption), tokC125, nrOf_drop _ _ _ (by omega)]; (first | done | rfl)), hB333⟩
    | exact ⟨ret_val (by rw [hN, hT, show x = 91 from u8_eq (by assumption), tokC91, nrOf_drop _ _ _ (by omega)]; (first | done | rfl)), hB333⟩
    | exact ⟨ret_val (by rw [hN, hT, show x = 93 from u8_eq (by assumption), tokC93, nrOf_drop _ _ _ (by omega)]; (first | done | rfl)), hB333⟩
    | exact ⟨ret_val (by rw [hN, hT, show x = 60 from u8_eq (by assumption), tokC60, angle_eq (by decide) hy, if_pos (show y = 60 from u8_eq (by assumption)), nrOf_drop _ _ _ (by omega)]; (first | done | rfl)), hB333⟩
    | exact ⟨ret_val (by rw [hN, hT, show x = 62 from u8_eq (by assumption), tokC62, angle_eq (by decide) hy, if_pos (show y = 62 from u8_eq (by assumption)), nrOf_drop _ _ _ (by omega)]; (first | done | rfl)), hB333⟩
    | exact ⟨ret_val (by rw [hN, hT, show x = 62 from u8_eq (by assumption), tokC62, angle_eq (by decide) hy, if_neg (u8_ne (d := 62) (show ¬ (y.toNat : Int) = 62 from by omega)), if_neg (by decide)]; (first | done | rfl)), hB333⟩
    | exact ⟨ret_val (by rw [hN, hT, show x = 47 from u8_eq (by assumption), tokC47, slash_eq hy, if_pos (show y = 47 from u8_eq (by assumption)), nameS_at _ _ _ (by omega)]; (first | done | rfl)), hB333⟩
    | exact ⟨ret_val (by rw [hN, hT, show x = 47 from u8_eq (by assumption), tokC47, slash_eq hy, if_neg (u8_ne (d := 47) (show ¬ (y.toNat : Int) = 47 from by omega)), nameS_at _ _ _ (by omega)]; (first | done | rfl)), hB333⟩
    | exact ⟨ret_val (by rw [hX, if_pos (by assumption)]; (first | done | rfl)), hB333⟩
    | exact ⟨ret_val (by rw [hX, if_neg (fun h => h (by assumption)), if_pos (by assumption)]; (first | done | rfl)), hB333⟩
    | exact ⟨ret_val (by rw [hX, if_neg (fun h => by simp_all), if_neg (bF (by assumption))]; (first | done | rfl)), hB333⟩
    | (exfalso; omega)

end Go.Proofs.YtjghbcjnplcleaaGreatDoor
