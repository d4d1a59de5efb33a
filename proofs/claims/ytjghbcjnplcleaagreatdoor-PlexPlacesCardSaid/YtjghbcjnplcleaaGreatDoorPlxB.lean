/-
  Plex: the program's numbers, references, words.
-/
import Derived.Test.YtjghbcjnplcleaaGreatDoorPlxA
import Derived.Test.YtjghbcjnplcleaaGreatDoorFwN
import Derived.Test.YtjghbcjnplcleaaGreatDoorDecX0
namespace Go.Proofs.YtjghbcjnplcleaaGreatDoor
open Go.RowKit

/-- an object without parts, as cells -/
def pobj (k n : Int) (s : List UInt8) : List Value := [.int .i64 k, .int .i64 n, .string (bs s), .slice none 0 0, .slice none 0 0, .slice none 0 0]
def pmDig (c : UInt8) : Bool := isDig c || c == 43 || c == 45
theorem trim_pm (l : List UInt8) : (decide (Lib.trimS l [43, 45, 48, 49, 50, 51, 52, 53, 54, 55, 56, 57] = [])) = l.all pmDig := by
  have : (fun x => ([43, 45, 48, 49, 50, 51, 52, 53, 54, 55, 56, 57] : List UInt8).contains x) = pmDig := by
    funext x
    have key : ∀ n : Fin 256, ([43, 45, 48, 49, 50, 51, 52, 53, 54, 55, 56, 57] : List UInt8).contains (UInt8.ofNat n.1) = pmDig (UInt8.ofNat n.1) := by decide +kernel
    have := key ⟨x.toNat, UInt8.toNat_lt x⟩
    simpa using this
  rw [Bool.eq_iff_iff, decide_eq_true_eq, trimS_nil_iff, this]
theorem idx_dot (l : List UInt8) : decide (0 ≤ Lib.indexByte l 46) = l.contains 46 := by
  exact (Lib.contains_iff_indexByte l 46).symm
/-- a word as a number: kind, number, is it one -/
def numR (s : List UInt8) : Int × Int × Bool :=
  if s.contains 46 then (3, (parseP s).1, (parseP s).2)
  else if (tokenL s).ok && decide ((tokenL s).e = 0) && decide ((tokenL s).kind = 1) && s.all pmDig then (2, (tokenL s).n, true) else (0, 0, false)
theorem plex_number (s : List UInt8) (w : World) (hl : s.length ≤ 1000000) :
    Calls Tryz.prog 78 #[.string (bs s)] w fun e w' => e = .returned (.tuple #[.agg (pobj (numR s).1 (numR s).2.1 []).toArray, .bool (numR s).2.2]) ∧ Below w.heap.size w w' := by
  obtain ⟨T, hT⟩ : ∃ T, T = tokenL s := ⟨_, rfl⟩
  have hTc : ∀ w, Calls Tryz.prog 115 #[.string (bs s)] w fun e w' => e = .returned T.val ∧ Below w.heap.size w w' := fun w => by rw [hT]; exact dec_Token _ w
  obtain ⟨D, hD⟩ : ∃ D, D = s.contains 46 := ⟨_, rfl⟩
  have hN : numR s = if D then (3, (parseP s).1, (parseP s).2) else if T.ok && decide (T.e = 0) && decide (T.kind = 1) && s.all pmDig then (2, T.n, true) else (0, 0, false) := by rw [hT, hD]; rfl
  refine W.enter Tryz.func78 rfl Tryz.ntmps78 (Nat.le_of_ble_eq_true rfl) ?_
  have hB0 := Below.refl (w.heap.size) w
  refine W.seq ?_
  refine W.reg ?_ -- 0
  refine WL.alloc Tryz.zeroValue31 rfl (fun b1 wb1 eb1 hkb1 hub1 hsb1 => ?_)
  have hB2 := Upd.below hB0 (by rw [eb1]; exact hB0.size) hub1
  have hgeb1 : w.heap.size ≤ b1 := by rw [eb1]; exact hB0.size
  refine WL.p (.as rfl) rfl <| WL.nil <| ?_
  refine W.seq ?_
  refine W.seq ?_
  refine W.reg ?_ -- 1
  refine WL.p (.mv rfl) rfl <| WL.c1 hb60 rfl rfl ((lib_ib s 46 _)) (fun w3 hw3 => ?_)
  obtain rfl := hw3
  refine WL.p (.bis (D) (.geq rfl rfl) (by rw [hD]; exact idx_dot s)) rfl <| WL.nil <| ?_
  refine W.cond rfl (fun h4 => ?_) (fun h4 => ?_) -- slot 11
  · have h4' := h4
    refine W.seq ?_
    refine W.reg ?_ -- 2
    refine WL.p (.mv rfl) rfl <| WL.c1 hb114 rfl rfl ((dec_Parse s _)) (fun w5 hw5 => ?_)
    have hk6 := hkb1.below hw5 hkb1.lt
    have hB7 := btr hB2 hw5
    refine WL.p (.mv rfl) rfl <| WL.p (.ext rfl rfl) rfl <| WL.p (.ext rfl rfl) rfl <| WL.p (.as rfl) rfl <| WL.p (.as rfl) rfl <| WL.nil <| ?_
    refine W.seq ?_
    refine W.reg ?_ -- 3
    refine WL.p (.mv rfl) rfl <| ?_
    refine WL.p (.buildL (ps := _) blt31 rfl rfl rfl (by simp only [put1, List.map, List.zip, List.zipWith, List.set] <;> rfl)) rfl ?_
    refine WL.p (.mv rfl) rfl <| WL.stL rfl rfl hk6 isz31 rfl rfl (fun w8 hkw8 huw8 hsw8 => ?_)
    have hB9 := Upd.below hB7 (by omega) huw8
    refine WL.p (.as rfl) rfl <| WL.nil <| ?_
    refine W.ret (W.retc2 rfl rfl (ldRow hkw8 Tryz.underlying31 rfl isz31) rfl ?_)
    first
    | exact ⟨ret_val (by rw [hN, if_pos (by assumption)]; rfl), hB9⟩
    | exact ⟨ret_val (by rw [hN, if_neg (bF (by assumption)), if_neg (by intro hx; simp only [Bool.and_eq_true, decide_eq_true_eq] at hx; obtain ⟨⟨⟨hx1, hx2⟩, hx3⟩, hx4⟩ := hx; clear hN hT hTc; simp_all)]; rfl), hB9⟩
    | exact ⟨ret_val (by rw [hN, if_neg (bF (by assumption)), if_pos (by simp only [Bool.and_eq_true, decide_eq_true_eq]; clear hN hT hTc; simp_all)]; rfl), hB9⟩
  · have h4' := h4
    refine W.skip ?_
    refine W.seq ?_
    refine W.reg ?_ -- 4
    refine WL.p (.mv rfl) rfl <| WL.c1 hb115 rfl rfl ((hTc _)) (fun w10 hw10 => ?_)
    have hk11 := hkb1.below hw10 hkb1.lt
    have hB12 := btr hB2 hw10
    refine WL.p (.mv rfl) rfl <| WL.p (.ext rfl rfl) rfl <| WL.p (.ext rfl rfl) rfl <| WL.p (.ext rfl rfl) rfl <| WL.alloc Tryz.zeroValue143 rfl (fun b13 wb13 eb13 hkb13 hub13 hsb13 => ?_)
    have hl15 : b1 < b13 := by rw [eb13]; exact hk11.lt
    have hk14 := hk11.upd hub13 (Nat.ne_of_lt hl15)
    have hB16 := Upd.below hB12 (by rw [eb13]; exact hB12.size) hub13
    have hgeb13 : w.heap.size ≤ b13 := by rw [eb13]; exact hB12.size
    refine WL.stL rfl rfl hkb13 isz143 rfl rfl (fun w17 hkw17 huw17 hsw17 => ?_)
    have hk18 := hk14.upd huw17 (by ((try simp only) <;> omega))
    have hB19 := Upd.below hB16 (by omega) huw17
    refine WL.p (.as rfl) rfl <| WL.p (.as rfl) rfl <| WL.nil <| ?_
    refine W.seq ?_
    refine W.seq ?_
    refine W.reg ?_ -- 5
    refine WL.p (.mv rfl) rfl <| WL.p (.not rfl) rfl <| WL.p (.mv rfl) rfl <| WL.gd rfl rfl rfl (fun g20 => ?_) (fun g20 => ?_)
    · have g20' := (nF g20)
      refine WL.p (.mv rfl) rfl <| WL.gy rfl rfl rfl (by rw [(nF g20)] <;> rfl) <| WL.p (.neq rfl rfl) rfl <| WL.p (.pkF rfl (by rw [(nF g20)] <;> rfl) rfl) rfl <| WL.p (.mv rfl) rfl <| WL.gd rfl rfl rfl (fun g21 => ?_) (fun g21 => ?_)
      · have g21' := ndF g21
        refine WL.p (.fa Tryz.underlying143 rfl Tryz.sizeOf3 (by decide) rfl) rfl <| WL.gy rfl rfl rfl g21 <| WL.r (Rd.ld (Tryz.isAgg3 _) rfl hkw17 rfl) rfl <| WL.gy rfl rfl rfl g21 <| WL.p (.neq rfl rfl) rfl <| WL.p (.pkF rfl g21 rfl) rfl <| WL.p (.mv rfl) rfl <| WL.gd rfl rfl rfl (fun g22 => ?_) (fun g22 => ?_)
        · have g22' := ndF g22
          refine WL.p (.mv rfl) rfl <| WL.gy rfl rfl rfl g22 <| WL.c1 hb116 rfl rfl ((lib_trim s [43, 45, 48, 49, 50, 51, 52, 53, 54, 55, 56, 57] _ hl (by decide) (by decide))) (fun w23 hw23 => ?_)
          have hk24 := hk18.below hw23 hk18.lt
          have hk25 := hkw17.below hw23 hkw17.lt
          have hB26 := btr hB19 hw23
          refine WL.gy rfl rfl rfl g22 <| WL.p (.bis (!s.all pmDig) (.nes rfl rfl) (by rw [trim_pm])) rfl <| WL.p (.pkF rfl g22 rfl) rfl <| WL.nil <| ?_
          refine W.cond rfl (fun h27 => ?_) (fun h27 => ?_) -- slot 41
          · have h27' := h27
            refine W.seq ?_
            refine W.reg ?_ -- 6
            refine WL.p (.buildL (ps := _) blt31 rfl rfl rfl (by simp only [put1, List.map, List.zip, List.zipWith] <;> rfl)) rfl ?_
            refine WL.stL rfl rfl hk24 isz31 rfl rfl (fun w28 hkw28 huw28 hsw28 => ?_)
            have hk29 := hk25.upd huw28 (by ((try simp only) <;> omega))
            have hB30 := Upd.below hB26 (by omega) huw28
            refine WL.p (.as rfl) rfl <| WL.nil <| ?_
            refine W.ret (W.retc2 rfl rfl (ldRow hkw28 Tryz.underlying31 rfl isz31) rfl ?_)
            first
            | exact ⟨ret_val (by rw [hN, if_pos (by assumption)]; rfl), hB30⟩
            | exact ⟨ret_val (by rw [hN, if_neg (bF (by assumption)), if_neg (by intro hx; simp only [Bool.and_eq_true, decide_eq_true_eq] at hx; obtain ⟨⟨⟨hx1, hx2⟩, hx3⟩, hx4⟩ := hx; clear hN hT hTc; simp_all)]; rfl), hB30⟩
            | exact ⟨ret_val (by rw [hN, if_neg (bF (by assumption)), if_pos (by simp only [Bool.and_eq_true, decide_eq_true_eq]; clear hN hT hTc; simp_all)]; rfl), hB30⟩
          · have h27' := h27
            refine W.skip ?_
            refine W.seq ?_
            refine W.reg ?_ -- 7
            refine WL.p (.fa Tryz.underlying143 rfl Tryz.sizeOf3 (by decide) rfl) rfl <| WL.r (Rd.ld (Tryz.isAgg3 _) rfl hk25 rfl) rfl <| ?_
            refine WL.p (.buildL (ps := _) blt31 rfl rfl rfl (by simp only [put1, List.map, List.zip, List.zipWith, List.set] <;> rfl)) rfl ?_
            refine WL.stL rfl rfl hk24 isz31 rfl rfl (fun w31 hkw31 huw31 hsw31 => ?_)
            have hk32 := hk25.upd huw31 (by ((try simp only) <;> omega))
            have hB33 := Upd.below hB26 (by omega) huw31
            refine WL.p (.as rfl) rfl <| WL.nil <| ?_
            refine W.ret (W.retc2 rfl rfl (ldRow hkw31 Tryz.underlying31 rfl isz31) rfl ?_)
            first
            | exact ⟨ret_val (by rw [hN, if_pos (by assumption)]; rfl), hB33⟩
            | exact ⟨ret_val (by rw [hN, if_neg (bF (by assumption)), if_neg (by intro hx; simp only [Bool.and_eq_true, decide_eq_true_eq] at hx; obtain ⟨⟨⟨hx1, hx2⟩, hx3⟩, hx4⟩ := hx; clear hN hT hTc; simp_all)]; rfl), hB33⟩
            | exact ⟨ret_val (by rw [hN, if_neg (bF (by assumption)), if_pos (by simp only [Bool.and_eq_true, decide_eq_true_eq]; clear hN hT hTc; simp_all)]; rfl), hB33⟩
        · have g22' := ndT g22
          refine WL.gn rfl rfl rfl g22 <| WL.gn rfl rfl rfl g22 <| WL.p (.pkT rfl g22 rfl) rfl <| WL.nil <| ?_
          refine W.condT rfl rfl ?_
          refine W.seq ?_
          refine W.reg ?_ -- 6
          refine WL.p (.buildL (ps := _) blt31 rfl rfl rfl (by simp only [put1, List.map, List.zip, List.zipWith] <;> rfl)) rfl ?_
          refine WL.stL rfl rfl hk18 isz31 rfl rfl (fun w34 hkw34 huw34 hsw34 => ?_)
          have hk35 := hkw17.upd huw34 (by ((try simp only) <;> omega))
          have hB36 := Upd.below hB19 (by omega) huw34
          refine WL.p (.as rfl) rfl <| WL.nil <| ?_
          refine W.ret (W.retc2 rfl rfl (ldRow hkw34 Tryz.underlying31 rfl isz31) rfl ?_)
          first
          | exact ⟨ret_val (by rw [hN, if_pos (by assumption)]; rfl), hB36⟩
          | exact ⟨ret_val (by rw [hN, if_neg (bF (by assumption)), if_neg (by intro hx; simp only [Bool.and_eq_true, decide_eq_true_eq] at hx; obtain ⟨⟨⟨hx1, hx2⟩, hx3⟩, hx4⟩ := hx; clear hN hT hTc; simp_all)]; rfl), hB36⟩
          | exact ⟨ret_val (by rw [hN, if_neg (bF (by assumption)), if_pos (by simp only [Bool.and_eq_true, decide_eq_true_eq]; clear hN hT hTc; simp_all)]; rfl), hB36⟩
      · have g21' := ndT g21
        refine WL.gn rfl rfl rfl g21 <| WL.gn rfl rfl rfl g21 <| WL.p (.pkT rfl g21 rfl) rfl <| WL.p (.mv rfl) rfl <| WL.gn rfl rfl rfl rfl <| WL.gn rfl rfl rfl rfl <| WL.gn rfl rfl rfl rfl <| WL.p (.pkT rfl rfl rfl) rfl <| WL.nil <| ?_
        refine W.condT rfl rfl ?_
        refine W.seq ?_
        refine W.reg ?_ -- 6
        refine WL.p (.buildL (ps := _) blt31 rfl rfl rfl (by simp only [put1, List.map, List.zip, List.zipWith] <;> rfl)) rfl ?_
        refine WL.stL rfl rfl hk18 isz31 rfl rfl (fun w37 hkw37 huw37 hsw37 => ?_)
        have hk38 := hkw17.upd huw37 (by ((try simp only) <;> omega))
        have hB39 := Upd.below hB19 (by omega) huw37
        refine WL.p (.as rfl) rfl <| WL.nil <| ?_
        refine W.ret (W.retc2 rfl rfl (ldRow hkw37 Tryz.underlying31 rfl isz31) rfl ?_)
        first
        | exact ⟨ret_val (by rw [hN, if_pos (by assumption)]; rfl), hB39⟩
        | exact ⟨ret_val (by rw [hN, if_neg (bF (by assumption)), if_neg (by intro hx; simp only [Bool.and_eq_true, decide_eq_true_eq] at hx; obtain ⟨⟨⟨hx1, hx2⟩, hx3⟩, hx4⟩ := hx; clear hN hT hTc; simp_all)]; rfl), hB39⟩
        | exact ⟨ret_val (by rw [hN, if_neg (bF (by assumption)), if_pos (by simp only [Bool.and_eq_true, decide_eq_true_eq]; clear hN hT hTc; simp_all)]; rfl), hB39⟩
    · have g20' := (nT g20)
      refine WL.gn rfl rfl rfl (by rw [(nT g20)] <;> rfl) <| WL.p (.pkT rfl (by rw [(nT g20)] <;> rfl) rfl) rfl <| WL.p (.mv rfl) rfl <| WL.gn rfl rfl rfl rfl <| WL.gn rfl rfl rfl rfl <| WL.gn rfl rfl rfl rfl <| WL.p (.pkT rfl rfl rfl) rfl <| WL.p (.mv rfl) rfl <| WL.gn rfl rfl rfl rfl <| WL.gn rfl rfl rfl rfl <| WL.gn rfl rfl rfl rfl <| WL.p (.pkT rfl rfl rfl) rfl <| WL.nil <| ?_
      refine W.condT rfl rfl ?_
      refine W.seq ?_
      refine W.reg ?_ -- 6
      refine WL.p (.buildL (ps := _) blt31 rfl rfl rfl (by simp only [put1, List.map, List.zip, List.zipWith] <;> rfl)) rfl ?_
      refine WL.stL rfl rfl hk18 isz31 rfl rfl (fun w40 hkw40 huw40 hsw40 => ?_)
      have hk41 := hkw17.upd huw40 (by ((try simp only) <;> omega))
      have hB42 := Upd.below hB19 (by omega) huw40
      refine WL.p (.as rfl) rfl <| WL.nil <| ?_
      refine W.ret (W.retc2 rfl rfl (ldRow hkw40 Tryz.underlying31 rfl isz31) rfl ?_)
      first
      | exact ⟨ret_val (by rw [hN, if_pos (by assumption)]; rfl), hB42⟩
      | exact ⟨ret_val (by rw [hN, if_neg (bF (by assumption)), if_neg (by intro hx; simp only [Bool.and_eq_true, decide_eq_true_eq] at hx; obtain ⟨⟨⟨hx1, hx2⟩, hx3⟩, hx4⟩ := hx; clear hN hT hTc; simp_all)]; rfl), hB42⟩
      | exact ⟨ret_val (by rw [hN, if_neg (bF (by assumption)), if_pos (by simp only [Bool.and_eq_true, decide_eq_true_eq]; clear hN hT hTc; simp_all)]; rfl), hB42⟩

/-- a reader in memory: block r, the bytes l, at place t -/
def PRd (w : World) (r : Nat) (p : Option Addr) (l : List UInt8) (c t : Nat) (refs : Bool) : Prop := Blk w r #[.slice p l.length c, .int .i64 (t : Int), .bool refs] 63 ∧ BytesAt w p l
theorem skip_q (p : Option Addr) (l : List UInt8) (c a : Nat) (w : World) (hb : BytesAt w p l) (ha : a ≤ l.length) (hl : l.length ≤ 1000000) (d : Nat) (hd : d = skipAt false l a) (m : Nat) :
    Calls Tryz.prog 13 #[.slice p l.length c, .int .i64 (a : Int)] (w.drewN m) fun e w' => e = .returned (.int .i64 (d : Int)) ∧ ∃ k, w' = w.drewN k :=
  (plex_Skip p l c a (w.drewN m) (hb.drewN m) hl).mono fun e w' h => ⟨by rw [h.1, insA_nat l a ha, hd], m, h.2.symm⟩
theorem word_q (p : Option Addr) (l : List UInt8) (c a : Nat) (w : World) (hb : BytesAt w p l) (hc : l.length ≤ c) (ha : a ≤ l.length) (hl : l.length ≤ 1000000) (m : Nat) :
    Calls Tryz.prog 11 #[.slice p l.length c, .int .i64 (a : Int)] (w.drewN m) fun e w' => e = .returned (.tuple #[.string (bs (wordL l a)), .int .i64 (wordAt l a : Int)]) ∧ ∃ k, w' = w.drewN k :=
  (plex_Word p l c a (w.drewN m) (hb.drewN m) hc hl).mono fun e w' h => ⟨by rw [h.1, insA_nat l a ha], m, h.2.symm⟩

/-- a reference that begins with the word s: its number, and the place behind it -/
def refR (refs : Bool) (l : List UInt8) (s : List UInt8) (t : Nat) : Option (Int × Nat) :=
  if refs && (wholeV s 4096).2 && decide (1 ≤ (wholeV s 4096).1) then
    (if wordL l (skipAt false l t) = [48] then
      (if wordL l (skipAt false l (wordAt l (skipAt false l t))) = [82] then some ((wholeV s 4096).1, wordAt l (skipAt false l (wordAt l (skipAt false l t)))) else none)
    else none)
  else none
def refK (o : Option (Int × Nat)) : Int × Int := match o with | some (n, _) => (8, n) | none => (0, 0)
def refV (o : Option (Int × Nat)) : Value := .tuple #[.agg (pobj (refK o).1 (refK o).2 []).toArray, .bool o.isSome]
def refT (o : Option (Int × Nat)) (t : Nat) : Nat := match o with | some (_, b) => b | none => t
theorem plex_ref (r : Nat) (p : Option Addr) (l : List UInt8) (c t : Nat) (refs : Bool) (s : List UInt8) (w : World) (h : PRd w r p l c t refs) (hne : 0 < l.length → (pA p).block ≠ r) (hc : l.length ≤ c) (hl : l.length ≤ 1000000) (ht : t ≤ l.length) (hs : s.length ≤ 1000000) :
    Calls Tryz.prog 77 #[.pointer (some ⟨r, 0, none⟩), .string (bs s)] w fun e w' => e = .returned (refV (refR refs l s t)) ∧ PRd w' r p l c (refT (refR refs l s t) t) refs ∧ Touch w.heap.size r w w' := by
  have hr := h.1
  have hb := h.2
  obtain ⟨a, ha⟩ : ∃ a, a = skipAt false l t := ⟨_, rfl⟩
  obtain ⟨b, hbb⟩ : ∃ b, b = skipAt false l (wordAt l a) := ⟨_, rfl⟩
  have hal : a ≤ l.length := by rw [ha]; exact skipAt_le _ _ _
  have hbl : b ≤ l.length := by rw [hbb]; exact skipAt_le _ _ _
  have hwa := wordAt_le l a hal
  have hwb := wordAt_le l b hbl
  have hR : refR refs l s t = if refs && (wholeV s 4096).2 && decide (1 ≤ (wholeV s 4096).1) then (if wordL l a = [48] then (if wordL l b = [82] then some ((wholeV s 4096).1, wordAt l b) else none) else none) else none := by rw [hbb, ha]; rfl
  obtain ⟨N, hN⟩ : ∃ N, N = wholeV s 4096 := ⟨_, rfl⟩
  have hW : ∀ w, Calls Tryz.prog 113 #[.string (bs s), .int .i64 4096] w fun e w' => e = .returned (.tuple #[.int .i64 N.1, .bool N.2]) ∧ Below w.heap.size w w' := fun w => by rw [hN]; exact plex_whole s 4096 w hs
  rw [← hN] at hR
  generalize refR refs l s t = R at hR ⊢
  refine W.enter Tryz.func77 rfl Tryz.ntmps77 (Nat.le_of_ble_eq_true rfl) ?_
  have hB0 := Touch.refl (w.heap.size) r w
  refine W.seq ?_
  refine W.reg ?_ -- 0
  refine WL.alloc Tryz.zeroValue31 rfl (fun b1 wb1 eb1 hkb1 hub1 hsb1 => ?_)
  have hl3 : r < b1 := by rw [eb1]; exact hr.lt
  have hk2 := hr.upd hub1 (Nat.ne_of_lt hl3)
  have hvl5 := fun h0 => eb1 ▸ hb.lt h0
  have hv4 := BytesAt.upd hb hub1 (fun h0 => Nat.ne_of_lt (hvl5 h0))
  have hgeb1 : w.heap.size ≤ b1 := by rw [eb1]; exact hB0.size
  have hB6 := Touch.trans hB0 (Touch.of_new hub1 hgeb1)
  refine WL.p (.as rfl) rfl <| WL.nil <| ?_
  refine W.seq ?_
  have hrB : r < b1 := by have := hr.lt; omega
  refine W.reg ?_ -- 1
  refine WL.p (.mv rfl) rfl <| WL.c1 hb113 rfl rfl ((hW _)) (fun w7 hw7 => ?_)
  have hk8 := hk2.below hw7 hk2.lt
  have hk9 := hkb1.below hw7 hkb1.lt
  have hv10 := BytesAt.below hv4 hw7 (fun h0 => hv4.lt h0)
  have hB11 := Touch.trans hB6 (Touch.mono (Touch.of_below hw7) hB6.size)
  refine WL.p (.mv rfl) rfl <| WL.p (.ext rfl rfl) rfl <| WL.p (.ext rfl rfl) rfl <| WL.p (.as rfl) rfl <| WL.p (.as rfl) rfl <| WL.nil <| ?_
  refine W.seq ?_
  refine W.cutB 28 (!(refs && N.2 && decide (1 ≤ N.1))) ?_ ?_
  · skip
    refine W.reg ?_ -- 2
    refine WL.p (.mv rfl) rfl <| WL.p (.nck rfl) rfl <| WL.p (.fa Tryz.underlying63 rfl Tryz.sizeOf4 (by decide) rfl) rfl <| WL.r (Rd.ld (Tryz.isAgg4 _) rfl hk8 rfl) rfl <| WL.p (.not rfl) rfl <| WL.p (.mv rfl) rfl <| WL.gd rfl rfl rfl (fun g12 => ?_) (fun g12 => ?_)
    · have g12' := (nF g12)
      refine WL.p (.mv rfl) rfl <| WL.gy rfl rfl rfl (by rw [(nF g12)] <;> rfl) <| WL.p (.not rfl) rfl <| WL.p (.pkF rfl (by rw [(nF g12)] <;> rfl) rfl) rfl <| WL.p (.mv rfl) rfl <| WL.gd rfl rfl rfl (fun g13 => ?_) (fun g13 => ?_)
      · have g13' := (nF g13)
        refine WL.p (.mv rfl) rfl <| WL.gy rfl rfl rfl (by rw [(nF g13)] <;> rfl) <| WL.p (.lss rfl rfl) rfl <| WL.p (.pkF rfl (by rw [(nF g13)] <;> rfl) rfl) rfl <| WL.nil <| ?_
        exact ⟨⟨lk_b rfl (by cases refs <;> cases h2 : N.2 <;> by_cases h3 : 1 ≤ N.1 <;> simp_all <;> omega), by repeat (first | exact Le.refl _ | refine Le.cons rfl ?_)⟩, rfl⟩
      · have g13' := (nT g13)
        refine WL.gn rfl rfl rfl (by rw [(nT g13)] <;> rfl) <| WL.p (.pkT rfl (by rw [(nT g13)] <;> rfl) rfl) rfl <| WL.nil <| ?_
        exact ⟨⟨lk_b rfl (by cases refs <;> cases h2 : N.2 <;> by_cases h3 : 1 ≤ N.1 <;> simp_all <;> omega), by repeat (first | exact Le.refl _ | refine Le.cons rfl ?_)⟩, rfl⟩
    · have g12' := (nT g12)
      refine WL.gn rfl rfl rfl (by rw [(nT g12)] <;> rfl) <| WL.p (.pkT rfl (by rw [(nT g12)] <;> rfl) rfl) rfl <| WL.p (.mv rfl) rfl <| WL.gn rfl rfl rfl rfl <| WL.gn rfl rfl rfl rfl <| WL.p (.pkT rfl rfl rfl) rfl <| WL.nil <| ?_
      exact ⟨⟨lk_b rfl (by cases refs <;> cases h2 : N.2 <;> by_cases h3 : 1 ≤ N.1 <;> simp_all <;> omega), by repeat (first | exact Le.refl _ | refine Le.cons rfl ?_)⟩, rfl⟩
  refine W.cond rfl (fun h14 => ?_) (fun h14 => ?_) -- slot 28
  · have h14' := h14
    refine W.seq ?_
    refine W.reg ?_ -- 3
    refine WL.p (.buildL (ps := _) blt31 rfl rfl rfl (by simp only [put1, List.map, List.zip, List.zipWith] <;> rfl)) rfl ?_
    refine WL.stL rfl rfl hk9 isz31 rfl rfl (fun w15 hkw15 huw15 hsw15 => ?_)
    have hk16 := hk8.upd huw15 (by ((try simp only) <;> omega))
    have hv17 := BytesAt.upd hv10 huw15 (fun h0 => Nat.ne_of_lt (hvl5 h0))
    have hB18 := Touch.trans hB11 (Touch.of_new huw15 (by omega))
    refine WL.p (.as rfl) rfl <| WL.nil <| ?_
    refine W.ret (W.retc2 rfl rfl (ldRow hkw15 Tryz.underlying31 rfl isz31) rfl ?_)
    first
    | exact ⟨ret_val (by rw [hR, if_pos (nF (by assumption)), if_neg (by assumption)]; rfl), by rw [hR, if_pos (nF (by assumption)), if_neg (by assumption)]; exact ⟨hk16, hv17⟩, hB18⟩
    | exact ⟨ret_val (by rw [hR, if_pos (nF (by assumption)), if_pos (by assumption), if_neg (by assumption)]; rfl), by rw [hR, if_pos (nF (by assumption)), if_pos (by assumption), if_neg (by assumption)]; exact ⟨hk16, hv17⟩, hB18⟩
    | exact ⟨ret_val (by rw [hR, if_pos (nF (by assumption)), if_pos (by assumption), if_pos (by assumption)]; rfl), by rw [hR, if_pos (nF (by assumption)), if_pos (by assumption), if_pos (by assumption)]; exact ⟨hk16, hv17⟩, hB18⟩
    | exact ⟨ret_val (by rw [hR, if_neg (bF (nT (by assumption)))]; rfl), by rw [hR, if_neg (bF (nT (by assumption)))]; exact ⟨hk16, hv17⟩, hB18⟩
  · have h14' := h14
    refine W.skip ?_
    refine W.seq ?_
    refine W.regQ mixed (by kernel_rfl) ?_ -- 4
    refine WQ.p (.mv rfl) rfl <| WQ.p (.nck rfl) rfl <| WQ.p (.fa Tryz.underlying63 rfl Tryz.sizeOf22 (by decide) rfl) rfl <| WQ.r (fun m => Rd.ld (Tryz.isAgg22 _) rfl hk8 rfl) rfl <| WQ.p (.mv rfl) rfl <| WQ.p (.nck rfl) rfl <| WQ.p (.fa Tryz.underlying63 rfl Tryz.sizeOf22 (by decide) rfl) rfl <| WQ.r (fun m => Rd.ld (Tryz.isAgg22 _) rfl hk8 rfl) rfl <| WQ.p (.mv rfl) rfl <| WQ.p (.nck rfl) rfl <| WQ.p (.fa Tryz.underlying63 rfl Tryz.sizeOf3 (by decide) rfl) rfl <| WQ.r (fun m => Rd.ld (Tryz.isAgg3 _) rfl hk8 rfl) rfl <| WQ.c1 hb13 rfl rfl (fun m => (skip_q p l c t _ hv10 ht hl a ha m)) <| WQ.c1 hb11 rfl rfl (fun m => (word_q p l c a _ hv10 hc hal hl m)) <| WQ.p (.mv rfl) rfl <| WQ.p (.ext rfl rfl) rfl <| WQ.p (.ext rfl rfl) rfl <| WQ.p (.as rfl) rfl <| WQ.p (.as rfl) rfl <| WQ.nil (fun w19 dw19 => ?_)
    have hk20 := hk8.drew dw19
    have hk21 := hk9.drew dw19
    have hv22 := hv10.drew dw19
    have hB23 := Touch.trans hB11 (Touch.of_drew dw19)
    refine W.seq ?_
    refine W.seq ?_
    refine W.reg ?_ -- 5
    refine WL.p (.mv rfl) rfl <| WL.p (.nes rfl rfl) rfl <| WL.nil <| ?_
    refine W.cond rfl (fun h24 => ?_) (fun h24 => ?_) -- slot 48
    · have h24' := ndT h24
      refine W.seq ?_
      refine W.reg ?_ -- 6
      refine WL.p (.buildL (ps := _) blt31 rfl rfl rfl (by simp only [put1, List.map, List.zip, List.zipWith] <;> rfl)) rfl ?_
      refine WL.stL rfl rfl hk21 isz31 rfl rfl (fun w25 hkw25 huw25 hsw25 => ?_)
      have hk26 := hk20.upd huw25 (by ((try simp only) <;> omega))
      have hv27 := BytesAt.upd hv22 huw25 (fun h0 => Nat.ne_of_lt (hvl5 h0))
      have hB28 := Touch.trans hB23 (Touch.of_new huw25 (by omega))
      refine WL.p (.as rfl) rfl <| WL.nil <| ?_
      refine W.ret (W.retc2 rfl rfl (ldRow hkw25 Tryz.underlying31 rfl isz31) rfl ?_)
      first
      | exact ⟨ret_val (by rw [hR, if_pos (nF (by assumption)), if_neg (by assumption)]; rfl), by rw [hR, if_pos (nF (by assumption)), if_neg (by assumption)]; exact ⟨hk26, hv27⟩, hB28⟩
      | exact ⟨ret_val (by rw [hR, if_pos (nF (by assumption)), if_pos (by assumption), if_neg (by assumption)]; rfl), by rw [hR, if_pos (nF (by assumption)), if_pos (by assumption), if_neg (by assumption)]; exact ⟨hk26, hv27⟩, hB28⟩
      | exact ⟨ret_val (by rw [hR, if_pos (nF (by assumption)), if_pos (by assumption), if_pos (by assumption)]; rfl), by rw [hR, if_pos (nF (by assumption)), if_pos (by assumption), if_pos (by assumption)]; exact ⟨hk26, hv27⟩, hB28⟩
      | exact ⟨ret_val (by rw [hR, if_neg (bF (nT (by assumption)))]; rfl), by rw [hR, if_neg (bF (nT (by assumption)))]; exact ⟨hk26, hv27⟩, hB28⟩
    · have h24' := ndF h24
      refine W.skip ?_
      refine W.seq ?_
      refine W.regQ mixed (by kernel_rfl) ?_ -- 7
      refine WQ.p (.mv rfl) rfl <| WQ.p (.nck rfl) rfl <| WQ.p (.fa Tryz.underlying63 rfl Tryz.sizeOf22 (by decide) rfl) rfl <| WQ.r (fun m => Rd.ld (Tryz.isAgg22 _) rfl hk20 rfl) rfl <| WQ.p (.mv rfl) rfl <| WQ.p (.nck rfl) rfl <| WQ.p (.fa Tryz.underlying63 rfl Tryz.sizeOf22 (by decide) rfl) rfl <| WQ.r (fun m => Rd.ld (Tryz.isAgg22 _) rfl hk20 rfl) rfl <| WQ.p (.mv rfl) rfl <| WQ.c1 hb13 rfl rfl (fun m => (skip_q p l c (wordAt l a) _ hv22 hwa.2 hl b hbb m)) <| WQ.c1 hb11 rfl rfl (fun m => (word_q p l c b _ hv22 hc hbl hl m)) <| WQ.p (.mv rfl) rfl <| WQ.p (.ext rfl rfl) rfl <| WQ.p (.ext rfl rfl) rfl <| WQ.p (.as rfl) rfl <| WQ.p (.as rfl) rfl <| WQ.nil (fun w29 dw29 => ?_)
      have hk30 := hk20.drew dw29
      have hk31 := hk21.drew dw29
      have hv32 := hv22.drew dw29
      have hB33 := Touch.trans hB23 (Touch.of_drew dw29)
      refine W.seq ?_
      refine W.seq ?_
      refine W.reg ?_ -- 8
      refine WL.p (.mv rfl) rfl <| WL.p (.nes rfl rfl) rfl <| WL.nil <| ?_
      refine W.cond rfl (fun h34 => ?_) (fun h34 => ?_) -- slot 65
      · have h34' := ndT h34
        refine W.seq ?_
        refine W.reg ?_ -- 9
        refine WL.p (.buildL (ps := _) blt31 rfl rfl rfl (by simp only [put1, List.map, List.zip, List.zipWith] <;> rfl)) rfl ?_
        refine WL.stL rfl rfl hk31 isz31 rfl rfl (fun w35 hkw35 huw35 hsw35 => ?_)
        have hk36 := hk30.upd huw35 (by ((try simp only) <;> omega))
        have hv37 := BytesAt.upd hv32 huw35 (fun h0 => Nat.ne_of_lt (hvl5 h0))
        have hB38 := Touch.trans hB33 (Touch.of_new huw35 (by omega))
        refine WL.p (.as rfl) rfl <| WL.nil <| ?_
        refine W.ret (W.retc2 rfl rfl (ldRow hkw35 Tryz.underlying31 rfl isz31) rfl ?_)
        first
        | exact ⟨ret_val (by rw [hR, if_pos (nF (by assumption)), if_neg (by assumption)]; rfl), by rw [hR, if_pos (nF (by assumption)), if_neg (by assumption)]; exact ⟨hk36, hv37⟩, hB38⟩
        | exact ⟨ret_val (by rw [hR, if_pos (nF (by assumption)), if_pos (by assumption), if_neg (by assumption)]; rfl), by rw [hR, if_pos (nF (by assumption)), if_pos (by assumption), if_neg (by assumption)]; exact ⟨hk36, hv37⟩, hB38⟩
        | exact ⟨ret_val (by rw [hR, if_pos (nF (by assumption)), if_pos (by assumption), if_pos (by assumption)]; rfl), by rw [hR, if_pos (nF (by assumption)), if_pos (by assumption), if_pos (by assumption)]; exact ⟨hk36, hv37⟩, hB38⟩
        | exact ⟨ret_val (by rw [hR, if_neg (bF (nT (by assumption)))]; rfl), by rw [hR, if_neg (bF (nT (by assumption)))]; exact ⟨hk36, hv37⟩, hB38⟩
      · have h34' := ndF h34
        refine W.skip ?_
        refine W.seq ?_
        refine W.reg ?_ -- 10
        refine WL.p (.mv rfl) rfl <| WL.p (.iis ((wordAt l b : Int)) (.mv rfl) (by rfl)) rfl <| WL.p (.nck rfl) rfl <| WL.p (.fa Tryz.underlying63 rfl Tryz.sizeOf3 (by decide) rfl) rfl <| WL.st Tryz.sizeOf3 rfl rfl rfl hk30 (by first | decide | exact Nat.le_of_ble_eq_true rfl) (fun w39 hkw39 huw39 hsw39 => ?_)
        have hk40 := hk31.upd huw39 (by ((try simp only) <;> omega))
        have hv41 := BytesAt.upd hv32 huw39 hne
        have hB42 := Touch.trans hB33 (Touch.of_upd huw39)
        refine WL.nil <| ?_
        refine W.seq ?_
        refine W.reg ?_ -- 11
        refine WL.p (.mv rfl) rfl <| ?_
        refine WL.p (.buildL (ps := _) blt31 rfl rfl rfl (by simp only [put1, List.map, List.zip, List.zipWith, List.set] <;> rfl)) rfl ?_
        refine WL.stL rfl rfl hk40 isz31 rfl rfl (fun w43 hkw43 huw43 hsw43 => ?_)
        have hk44 := hkw39.upd huw43 (by ((try simp only) <;> omega))
        have hv45 := BytesAt.upd hv41 huw43 (fun h0 => Nat.ne_of_lt (hvl5 h0))
        have hB46 := Touch.trans hB42 (Touch.of_new huw43 (by omega))
        refine WL.p (.as rfl) rfl <| WL.nil <| ?_
        refine W.ret (W.retc2 rfl rfl (ldRow hkw43 Tryz.underlying31 rfl isz31) rfl ?_)
        first
        | exact ⟨ret_val (by rw [hR, if_pos (nF (by assumption)), if_neg (by assumption)]; rfl), by rw [hR, if_pos (nF (by assumption)), if_neg (by assumption)]; exact ⟨hk44, hv45⟩, hB46⟩
        | exact ⟨ret_val (by rw [hR, if_pos (nF (by assumption)), if_pos (by assumption), if_neg (by assumption)]; rfl), by rw [hR, if_pos (nF (by assumption)), if_pos (by assumption), if_neg (by assumption)]; exact ⟨hk44, hv45⟩, hB46⟩
        | exact ⟨ret_val (by rw [hR, if_pos (nF (by assumption)), if_pos (by assumption), if_pos (by assumption)]; rfl), by rw [hR, if_pos (nF (by assumption)), if_pos (by assumption), if_pos (by assumption)]; exact ⟨hk44, hv45⟩, hB46⟩
        | exact ⟨ret_val (by rw [hR, if_neg (bF (nT (by assumption)))]; rfl), by rw [hR, if_neg (bF (nT (by assumption)))]; exact ⟨hk44, hv45⟩, hB46⟩

/-- what a word is -/
structure WR where
  kind : Int
  n : Int
  word : List UInt8
  ok : Bool
  np : Nat
def plexW (refs : Bool) (l : List UInt8) (t : Nat) : WR :=
  if wordL l t = [110, 117, 108, 108] then ⟨0, 0, wordL l t, true, wordAt l t⟩
  else if wordL l t = [116, 114, 117, 101] then ⟨1, 1, wordL l t, true, wordAt l t⟩
  else if wordL l t = [102, 97, 108, 115, 101] then ⟨1, 0, wordL l t, true, wordAt l t⟩
  else if (refR refs l (wordL l t) (wordAt l t)).isSome then ⟨(refK (refR refs l (wordL l t) (wordAt l t))).1, (refK (refR refs l (wordL l t) (wordAt l t))).2, wordL l t, true, refT (refR refs l (wordL l t) (wordAt l t)) (wordAt l t)⟩
  else if (numR (wordL l t)).2.2 then ⟨(numR (wordL l t)).1, (numR (wordL l t)).2.1, wordL l t, true, wordAt l t⟩
  else ⟨0, 0, wordL l t, false, wordAt l t⟩
def WR.val (x : WR) : Value := .tuple #[.agg (pobj x.kind x.n []).toArray, .string (bs x.word), .bool x.ok]
theorem wordL_len (l : List UInt8) (t : Nat) : (wordL l t).length ≤ l.length := by unfold wordL; rw [List.length_take, List.length_drop]; omega
theorem refT_none {o : Option (Int × Nat)} {t : Nat} (h : o.isSome = false) : refT o t = t := by cases o with | none => rfl | some x => cases h
theorem plex_word (r : Nat) (p : Option Addr) (l : List UInt8) (c t : Nat) (refs : Bool) (w : World) (h : PRd w r p l c t refs) (hne : 0 < l.length → (pA p).block ≠ r) (hc : l.length ≤ c) (hl : l.length ≤ 1000000) (ht : t ≤ l.length) :
    Calls Tryz.prog 48 #[.pointer (some ⟨r, 0, none⟩)] w fun e w' => e = .returned (plexW refs l t).val ∧ PRd w' r p l c (plexW refs l t).np refs ∧ Touch w.heap.size r w w' := by
  have hr := h.1
  have hb := h.2
  have hX : ∃ X, X = plexW refs l t := ⟨_, rfl⟩
  obtain ⟨X, hX⟩ := hX
  rw [← hX]
  unfold plexW at hX
  have hwt := wordAt_le l t ht
  have hsl := wordL_len l t
  have hWq : ∀ w1, BytesAt w1 p l → ∀ m, Calls Tryz.prog 11 #[.slice p l.length c, .int .i64 (t : Int)] (w1.drewN m) fun e w' => e = .returned (.tuple #[.string (bs (wordL l t)), .int .i64 (wordAt l t : Int)]) ∧ ∃ k, w' = w1.drewN k := fun w1 h1 m => word_q p l c t w1 h1 hc ht hl m
  generalize wordL l t = s at hX hsl hWq
  generalize wordAt l t = t1 at hX hwt hWq
  refine W.enter Tryz.func48 rfl Tryz.ntmps48 (Nat.le_of_ble_eq_true rfl) ?_
  have hB0 := Touch.refl (w.heap.size) r w
  refine W.seq ?_
  refine W.reg ?_ -- 0
  refine WL.alloc Tryz.zeroValue31 rfl (fun b1 wb1 eb1 hkb1 hub1 hsb1 => ?_)
  have hl3 : r < b1 := by rw [eb1]; exact hr.lt
  have hk2 := hr.upd hub1 (Nat.ne_of_lt hl3)
  have hvl5 := fun h0 => eb1 ▸ hb.lt h0
  have hv4 := BytesAt.upd hb hub1 (fun h0 => Nat.ne_of_lt (hvl5 h0))
  have hgeb1 : w.heap.size ≤ b1 := by rw [eb1]; exact hB0.size
  have hB6 := Touch.trans hB0 (Touch.of_new hub1 hgeb1)
  refine WL.p (.as rfl) rfl <| WL.p (.as rfl) rfl <| WL.nil <| ?_
  refine W.seq ?_
  have hrB : r < b1 := by have := hr.lt; omega
  refine W.regQ mixed (by kernel_rfl) ?_ -- 1
  refine WQ.p (.mv rfl) rfl <| WQ.p (.nck rfl) rfl <| WQ.p (.fa Tryz.underlying63 rfl Tryz.sizeOf22 (by decide) rfl) rfl <| WQ.r (fun m => Rd.ld (Tryz.isAgg22 _) rfl hk2 rfl) rfl <| WQ.p (.mv rfl) rfl <| WQ.p (.nck rfl) rfl <| WQ.p (.fa Tryz.underlying63 rfl Tryz.sizeOf3 (by decide) rfl) rfl <| WQ.r (fun m => Rd.ld (Tryz.isAgg3 _) rfl hk2 rfl) rfl <| WQ.c1 hb11 rfl rfl (fun m => (hWq _ hv4 m)) <| WQ.p (.mv rfl) rfl <| WQ.p (.ext rfl rfl) rfl <| WQ.p (.ext rfl rfl) rfl <| WQ.p (.as rfl) rfl <| WQ.p (.as rfl) rfl <| WQ.nil (fun w7 dw7 => ?_)
  have hk8 := hk2.drew dw7
  have hk9 := hkb1.drew dw7
  have hv10 := hv4.drew dw7
  have hB11 := Touch.trans hB6 (Touch.of_drew dw7)
  refine W.seq ?_
  refine W.reg ?_ -- 2
  refine WL.p (.mv rfl) rfl <| WL.p (.mv rfl) rfl <| WL.p (.nck rfl) rfl <| WL.p (.fa Tryz.underlying63 rfl Tryz.sizeOf3 (by decide) rfl) rfl <| WL.st Tryz.sizeOf3 rfl rfl rfl hk8 (by first | decide | exact Nat.le_of_ble_eq_true rfl) (fun w12 hkw12 huw12 hsw12 => ?_)
  have hk13 := hk9.upd huw12 (by ((try simp only) <;> omega))
  have hv14 := BytesAt.upd hv10 huw12 hne
  have hB15 := Touch.trans hB11 (Touch.of_upd huw12)
  refine WL.nil <| ?_
  refine W.seq ?_
  refine W.seq ?_
  refine W.reg ?_ -- 3
  refine WL.p (.mv rfl) rfl <| WL.nil <| ?_
  refine W.block ?_
  refine W.seq ?_
  refine W.reg ?_ -- 4
  refine WL.p (.eqs rfl rfl) rfl <| WL.p (.as rfl) rfl <| WL.nil <| ?_
  refine W.cond rfl (fun h16 => ?_) (fun h16 => ?_) -- slot 28
  · have h16' := of_decide_eq_true h16
    refine W.seq ?_
    refine W.reg ?_ -- 5
    refine WL.p (.buildL (ps := _) blt31 rfl rfl rfl (by simp only [put1, List.map, List.zip, List.zipWith] <;> rfl)) rfl ?_
    refine WL.p (.mv rfl) rfl <| WL.stL rfl rfl hk13 isz31 rfl rfl (fun w17 hkw17 huw17 hsw17 => ?_)
    have hk18 := hkw12.upd huw17 (by ((try simp only) <;> omega))
    have hv19 := BytesAt.upd hv14 huw17 (fun h0 => Nat.ne_of_lt (hvl5 h0))
    have hB20 := Touch.trans hB15 (Touch.of_new huw17 (by omega))
    refine WL.p (.as rfl) rfl <| WL.p (.as rfl) rfl <| WL.nil <| ?_
    refine W.ret (W.retc3 rfl rfl (ldRow hkw17 Tryz.underlying31 rfl isz31) rfl rfl ?_)
    first
    | (rw [if_pos (by assumption)] at hX; subst hX; exact ⟨rfl, ⟨hk18, hv19⟩, hB20⟩)
    | (rw [if_neg (by assumption), if_pos (by assumption)] at hX; subst hX; exact ⟨rfl, ⟨hk18, hv19⟩, hB20⟩)
    | (rw [if_neg (by assumption), if_neg (by assumption), if_pos (by assumption)] at hX; subst hX; exact ⟨rfl, ⟨hk18, hv19⟩, hB20⟩)
    | (rw [if_neg (by assumption), if_neg (by assumption), if_neg (by assumption), if_pos (by assumption)] at hX; subst hX; exact ⟨rfl, ⟨hk18, hv19⟩, hB20⟩)
    | (rw [if_neg (by assumption), if_neg (by assumption), if_neg (by assumption), if_neg (bF (by assumption)), if_pos (by assumption)] at hX; subst hX; exact ⟨ret_val (by rw [show (numR s).2.2 = true by assumption]; rfl), ⟨by rw [← refT_none (t := t1) (show (refR refs l s t1).isSome = false by assumption)]; exact hk18, hv19⟩, hB20⟩)
    | (rw [if_neg (by assumption), if_neg (by assumption), if_neg (by assumption), if_neg (bF (by assumption)), if_neg (bF (by assumption))] at hX; subst hX; exact ⟨ret_val (by rw [show (numR s).2.2 = false by assumption]; rfl), ⟨by rw [← refT_none (t := t1) (show (refR refs l s t1).isSome = false by assumption)]; exact hk18, hv19⟩, hB20⟩)
  · have h16' := of_decide_eq_false h16
    refine W.seq ?_
    refine W.reg ?_ -- 6
    refine WL.p (.eqs rfl rfl) rfl <| WL.p (.as rfl) rfl <| WL.nil <| ?_
    refine W.cond rfl (fun h21 => ?_) (fun h21 => ?_) -- slot 32
    · have h21' := of_decide_eq_true h21
      refine W.seq ?_
      refine W.reg ?_ -- 7
      refine WL.p (.buildL (ps := _) blt31 rfl rfl rfl (by simp only [put1, List.map, List.zip, List.zipWith, List.set] <;> rfl)) rfl ?_
      refine WL.p (.mv rfl) rfl <| WL.stL rfl rfl hk13 isz31 rfl rfl (fun w22 hkw22 huw22 hsw22 => ?_)
      have hk23 := hkw12.upd huw22 (by ((try simp only) <;> omega))
      have hv24 := BytesAt.upd hv14 huw22 (fun h0 => Nat.ne_of_lt (hvl5 h0))
      have hB25 := Touch.trans hB15 (Touch.of_new huw22 (by omega))
      refine WL.p (.as rfl) rfl <| WL.p (.as rfl) rfl <| WL.nil <| ?_
      refine W.ret (W.retc3 rfl rfl (ldRow hkw22 Tryz.underlying31 rfl isz31) rfl rfl ?_)
      first
      | (rw [if_pos (by assumption)] at hX; subst hX; exact ⟨rfl, ⟨hk23, hv24⟩, hB25⟩)
      | (rw [if_neg (by assumption), if_pos (by assumption)] at hX; subst hX; exact ⟨rfl, ⟨hk23, hv24⟩, hB25⟩)
      | (rw [if_neg (by assumption), if_neg (by assumption), if_pos (by assumption)] at hX; subst hX; exact ⟨rfl, ⟨hk23, hv24⟩, hB25⟩)
      | (rw [if_neg (by assumption), if_neg (by assumption), if_neg (by assumption), if_pos (by assumption)] at hX; subst hX; exact ⟨rfl, ⟨hk23, hv24⟩, hB25⟩)
      | (rw [if_neg (by assumption), if_neg (by assumption), if_neg (by assumption), if_neg (bF (by assumption)), if_pos (by assumption)] at hX; subst hX; exact ⟨ret_val (by rw [show (numR s).2.2 = true by assumption]; rfl), ⟨by rw [← refT_none (t := t1) (show (refR refs l s t1).isSome = false by assumption)]; exact hk23, hv24⟩, hB25⟩)
      | (rw [if_neg (by assumption), if_neg (by assumption), if_neg (by assumption), if_neg (bF (by assumption)), if_neg (bF (by assumption))] at hX; subst hX; exact ⟨ret_val (by rw [show (numR s).2.2 = false by assumption]; rfl), ⟨by rw [← refT_none (t := t1) (show (refR refs l s t1).isSome = false by assumption)]; exact hk23, hv24⟩, hB25⟩)
    · have h21' := of_decide_eq_false h21
      refine W.seq ?_
      refine W.reg ?_ -- 8
      refine WL.p (.eqs rfl rfl) rfl <| WL.p (.as rfl) rfl <| WL.nil <| ?_
      refine W.cond rfl (fun h26 => ?_) (fun h26 => ?_) -- slot 36
      · have h26' := of_decide_eq_true h26
        refine W.seq ?_
        refine W.reg ?_ -- 9
        refine WL.p (.buildL (ps := _) blt31 rfl rfl rfl (by simp only [put1, List.map, List.zip, List.zipWith, List.set] <;> rfl)) rfl ?_
        refine WL.p (.mv rfl) rfl <| WL.stL rfl rfl hk13 isz31 rfl rfl (fun w27 hkw27 huw27 hsw27 => ?_)
        have hk28 := hkw12.upd huw27 (by ((try simp only) <;> omega))
        have hv29 := BytesAt.upd hv14 huw27 (fun h0 => Nat.ne_of_lt (hvl5 h0))
        have hB30 := Touch.trans hB15 (Touch.of_new huw27 (by omega))
        refine WL.p (.as rfl) rfl <| WL.p (.as rfl) rfl <| WL.nil <| ?_
        refine W.ret (W.retc3 rfl rfl (ldRow hkw27 Tryz.underlying31 rfl isz31) rfl rfl ?_)
        first
        | (rw [if_pos (by assumption)] at hX; subst hX; exact ⟨rfl, ⟨hk28, hv29⟩, hB30⟩)
        | (rw [if_neg (by assumption), if_pos (by assumption)] at hX; subst hX; exact ⟨rfl, ⟨hk28, hv29⟩, hB30⟩)
        | (rw [if_neg (by assumption), if_neg (by assumption), if_pos (by assumption)] at hX; subst hX; exact ⟨rfl, ⟨hk28, hv29⟩, hB30⟩)
        | (rw [if_neg (by assumption), if_neg (by assumption), if_neg (by assumption), if_pos (by assumption)] at hX; subst hX; exact ⟨rfl, ⟨hk28, hv29⟩, hB30⟩)
        | (rw [if_neg (by assumption), if_neg (by assumption), if_neg (by assumption), if_neg (bF (by assumption)), if_pos (by assumption)] at hX; subst hX; exact ⟨ret_val (by rw [show (numR s).2.2 = true by assumption]; rfl), ⟨by rw [← refT_none (t := t1) (show (refR refs l s t1).isSome = false by assumption)]; exact hk28, hv29⟩, hB30⟩)
        | (rw [if_neg (by assumption), if_neg (by assumption), if_neg (by assumption), if_neg (bF (by assumption)), if_neg (bF (by assumption))] at hX; subst hX; exact ⟨ret_val (by rw [show (numR s).2.2 = false by assumption]; rfl), ⟨by rw [← refT_none (t := t1) (show (refR refs l s t1).isSome = false by assumption)]; exact hk28, hv29⟩, hB30⟩)
      · have h26' := of_decide_eq_false h26
        refine W.skip ?_
        refine W.seq ?_
        refine W.seq ?_
        refine W.reg ?_ -- 10
        refine WL.p (.mv rfl) rfl <| WL.p (.mv rfl) rfl <| WL.c1 hb77 rfl rfl ((plex_ref r p l c t1 refs s _ ⟨hkw12, hv14⟩ hne hc hl (by omega) (by omega))) (fun w31 hw31 => ?_)
        have hk32 := hw31.1.1
        have hk33 := Blk.touch hk13 hw31.2 hk13.lt (by omega)
        have hv34 := hw31.1.2
        have hB35 := Touch.trans hB15 (Touch.mono hw31.2 hB15.size)
        refine WL.p (.mv rfl) rfl <| WL.p (.ext rfl rfl) rfl <| WL.p (.ext rfl rfl) rfl <| WL.alloc Tryz.zeroValue31 rfl (fun b36 wb36 eb36 hkb36 hub36 hsb36 => ?_)
        have hl38 : r < b36 := by rw [eb36]; exact hk32.lt
        have hk37 := hk32.upd hub36 (Nat.ne_of_lt hl38)
        have hl40 : b1 < b36 := by rw [eb36]; exact hk33.lt
        have hk39 := hk33.upd hub36 (Nat.ne_of_lt hl40)
        have hvl42 := fun h0 => eb36 ▸ hv34.lt h0
        have hv41 := BytesAt.upd hv34 hub36 (fun h0 => Nat.ne_of_lt (hvl42 h0))
        have hgeb36 : w.heap.size ≤ b36 := by rw [eb36]; exact hB35.size
        have hB43 := Touch.trans hB35 (Touch.of_new hub36 hgeb36)
        refine WL.stL rfl rfl hkb36 isz31 rfl rfl (fun w44 hkw44 huw44 hsw44 => ?_)
        have hk45 := hk37.upd huw44 (by ((try simp only) <;> omega))
        have hk46 := hk39.upd huw44 (by ((try simp only) <;> omega))
        have hv47 := BytesAt.upd hv41 huw44 (fun h0 => Nat.ne_of_lt (hvl42 h0))
        have hB48 := Touch.trans hB43 (Touch.of_new huw44 (by omega))
        refine WL.p (.as rfl) rfl <| WL.nil <| ?_
        refine W.seq ?_
        refine W.reg ?_ -- 11
        refine WL.p (.mv rfl) rfl <| WL.nil <| ?_
        refine W.cond rfl (fun h49 => ?_) (fun h49 => ?_) -- slot 46
        · have h49' := h49
          refine W.seq ?_
          refine W.reg ?_ -- 12
          refine WL.r (Rd.ldA rfl hkw44 Tryz.underlying31 rfl isz31) rfl <| WL.p (.mv rfl) rfl <| WL.stL rfl rfl hk46 isz31 rfl rfl (fun w50 hkw50 huw50 hsw50 => ?_)
          have hk51 := hk45.upd huw50 (by ((try simp only) <;> omega))
          have hk52 := hkw44.upd huw50 (by ((try simp only) <;> omega))
          have hv53 := BytesAt.upd hv47 huw50 (fun h0 => Nat.ne_of_lt (hvl5 h0))
          have hB54 := Touch.trans hB48 (Touch.of_new huw50 (by omega))
          refine WL.p (.as rfl) rfl <| WL.p (.as rfl) rfl <| WL.nil <| ?_
          refine W.ret (W.retc3 rfl rfl (ldRow hkw50 Tryz.underlying31 rfl isz31) rfl rfl ?_)
          first
          | (rw [if_pos (by assumption)] at hX; subst hX; exact ⟨rfl, ⟨hk51, hv53⟩, hB54⟩)
          | (rw [if_neg (by assumption), if_pos (by assumption)] at hX; subst hX; exact ⟨rfl, ⟨hk51, hv53⟩, hB54⟩)
          | (rw [if_neg (by assumption), if_neg (by assumption), if_pos (by assumption)] at hX; subst hX; exact ⟨rfl, ⟨hk51, hv53⟩, hB54⟩)
          | (rw [if_neg (by assumption), if_neg (by assumption), if_neg (by assumption), if_pos (by assumption)] at hX; subst hX; exact ⟨rfl, ⟨hk51, hv53⟩, hB54⟩)
          | (rw [if_neg (by assumption), if_neg (by assumption), if_neg (by assumption), if_neg (bF (by assumption)), if_pos (by assumption)] at hX; subst hX; exact ⟨ret_val (by rw [show (numR s).2.2 = true by assumption]; rfl), ⟨by rw [← refT_none (t := t1) (show (refR refs l s t1).isSome = false by assumption)]; exact hk51, hv53⟩, hB54⟩)
          | (rw [if_neg (by assumption), if_neg (by assumption), if_neg (by assumption), if_neg (bF (by assumption)), if_neg (bF (by assumption))] at hX; subst hX; exact ⟨ret_val (by rw [show (numR s).2.2 = false by assumption]; rfl), ⟨by rw [← refT_none (t := t1) (show (refR refs l s t1).isSome = false by assumption)]; exact hk51, hv53⟩, hB54⟩)
        · have h49' := h49
          refine W.skip ?_
          refine W.seq ?_
          refine W.reg ?_ -- 13
          refine WL.p (.mv rfl) rfl <| WL.c1 hb78 rfl rfl ((plex_number s _ (by omega))) (fun w55 hw55 => ?_)
          have hk56 := hk45.below hw55 hk45.lt
          have hk57 := hk46.below hw55 hk46.lt
          have hk58 := hkw44.below hw55 hkw44.lt
          have hv59 := BytesAt.below hv47 hw55 (fun h0 => hv47.lt h0)
          have hB60 := Touch.trans hB48 (Touch.mono (Touch.of_below hw55) hB48.size)
          refine WL.p (.mv rfl) rfl <| WL.p (.ext rfl rfl) rfl <| WL.p (.ext rfl rfl) rfl <| WL.alloc Tryz.zeroValue31 rfl (fun b61 wb61 eb61 hkb61 hub61 hsb61 => ?_)
          have hl63 : r < b61 := by rw [eb61]; exact hk56.lt
          have hk62 := hk56.upd hub61 (Nat.ne_of_lt hl63)
          have hl65 : b1 < b61 := by rw [eb61]; exact hk57.lt
          have hk64 := hk57.upd hub61 (Nat.ne_of_lt hl65)
          have hl67 : b36 < b61 := by rw [eb61]; exact hk58.lt
          have hk66 := hk58.upd hub61 (Nat.ne_of_lt hl67)
          have hvl69 := fun h0 => eb61 ▸ hv59.lt h0
          have hv68 := BytesAt.upd hv59 hub61 (fun h0 => Nat.ne_of_lt (hvl69 h0))
          have hgeb61 : w.heap.size ≤ b61 := by rw [eb61]; exact hB60.size
          have hB70 := Touch.trans hB60 (Touch.of_new hub61 hgeb61)
          refine WL.stL rfl rfl hkb61 isz31 rfl rfl (fun w71 hkw71 huw71 hsw71 => ?_)
          have hk72 := hk62.upd huw71 (by ((try simp only) <;> omega))
          have hk73 := hk64.upd huw71 (by ((try simp only) <;> omega))
          have hk74 := hk66.upd huw71 (by ((try simp only) <;> omega))
          have hv75 := BytesAt.upd hv68 huw71 (fun h0 => Nat.ne_of_lt (hvl69 h0))
          have hB76 := Touch.trans hB70 (Touch.of_new huw71 (by omega))
          refine WL.p (.as rfl) rfl <| WL.nil <| ?_
          refine W.seq ?_
          refine W.seq ?_
          refine W.reg ?_ -- 14
          refine WL.p (.mv rfl) rfl <| WL.p (.not rfl) rfl <| WL.nil <| ?_
          refine W.cond rfl (fun h77 => ?_) (fun h77 => ?_) -- slot 55
          · have h77' := (nT h77)
            refine W.reg ?_ -- 15
            refine WL.p (.buildL (ps := _) blt31 rfl rfl rfl (by simp only [put1, List.map, List.zip, List.zipWith] <;> rfl)) rfl ?_
            refine WL.stL rfl rfl hkw71 isz31 rfl rfl (fun w78 hkw78 huw78 hsw78 => ?_)
            have hk79 := hk72.upd huw78 (by ((try simp only) <;> omega))
            have hk80 := hk73.upd huw78 (by ((try simp only) <;> omega))
            have hk81 := hk74.upd huw78 (by ((try simp only) <;> omega))
            have hv82 := BytesAt.upd hv75 huw78 (fun h0 => Nat.ne_of_lt (hvl69 h0))
            have hB83 := Touch.trans hB76 (Touch.of_new huw78 (by omega))
            refine WL.nil <| ?_
            refine W.seq ?_
            refine W.reg ?_ -- 16
            refine WL.r (Rd.ldA rfl hkw78 Tryz.underlying31 rfl isz31) rfl <| WL.p (.mv rfl) rfl <| WL.p (.mv rfl) rfl <| WL.stL rfl rfl hk80 isz31 rfl rfl (fun w84 hkw84 huw84 hsw84 => ?_)
            have hk85 := hk79.upd huw84 (by ((try simp only) <;> omega))
            have hk86 := hk81.upd huw84 (by ((try simp only) <;> omega))
            have hk87 := hkw78.upd huw84 (by ((try simp only) <;> omega))
            have hv88 := BytesAt.upd hv82 huw84 (fun h0 => Nat.ne_of_lt (hvl5 h0))
            have hB89 := Touch.trans hB83 (Touch.of_new huw84 (by omega))
            refine WL.p (.as rfl) rfl <| WL.p (.as rfl) rfl <| WL.nil <| ?_
            refine W.ret (W.retc3 rfl rfl (ldRow hkw84 Tryz.underlying31 rfl isz31) rfl rfl ?_)
            first
            | (rw [if_pos (by assumption)] at hX; subst hX; exact ⟨rfl, ⟨hk85, hv88⟩, hB89⟩)
            | (rw [if_neg (by assumption), if_pos (by assumption)] at hX; subst hX; exact ⟨rfl, ⟨hk85, hv88⟩, hB89⟩)
            | (rw [if_neg (by assumption), if_neg (by assumption), if_pos (by assumption)] at hX; subst hX; exact ⟨rfl, ⟨hk85, hv88⟩, hB89⟩)
            | (rw [if_neg (by assumption), if_neg (by assumption), if_neg (by assumption), if_pos (by assumption)] at hX; subst hX; exact ⟨rfl, ⟨hk85, hv88⟩, hB89⟩)
            | (rw [if_neg (by assumption), if_neg (by assumption), if_neg (by assumption), if_neg (bF (by assumption)), if_pos (by assumption)] at hX; subst hX; exact ⟨ret_val (by rw [show (numR s).2.2 = true by assumption]; rfl), ⟨by rw [← refT_none (t := t1) (show (refR refs l s t1).isSome = false by assumption)]; exact hk85, hv88⟩, hB89⟩)
            | (rw [if_neg (by assumption), if_neg (by assumption), if_neg (by assumption), if_neg (bF (by assumption)), if_neg (bF (by assumption))] at hX; subst hX; exact ⟨ret_val (by rw [show (numR s).2.2 = false by assumption]; rfl), ⟨by rw [← refT_none (t := t1) (show (refR refs l s t1).isSome = false by assumption)]; exact hk85, hv88⟩, hB89⟩)
          · have h77' := (nF h77)
            refine W.skip ?_
            refine W.seq ?_
            refine W.reg ?_ -- 16
            refine WL.r (Rd.ldA rfl hkw71 Tryz.underlying31 rfl isz31) rfl <| WL.p (.mv rfl) rfl <| WL.p (.mv rfl) rfl <| WL.stL rfl rfl hk73 isz31 rfl rfl (fun w90 hkw90 huw90 hsw90 => ?_)
            have hk91 := hk72.upd huw90 (by ((try simp only) <;> omega))
            have hk92 := hk74.upd huw90 (by ((try simp only) <;> omega))
            have hk93 := hkw71.upd huw90 (by ((try simp only) <;> omega))
            have hv94 := BytesAt.upd hv75 huw90 (fun h0 => Nat.ne_of_lt (hvl5 h0))
            have hB95 := Touch.trans hB76 (Touch.of_new huw90 (by omega))
            refine WL.p (.as rfl) rfl <| WL.p (.as rfl) rfl <| WL.nil <| ?_
            refine W.ret (W.retc3 rfl rfl (ldRow hkw90 Tryz.underlying31 rfl isz31) rfl rfl ?_)
            first
            | (rw [if_pos (by assumption)] at hX; subst hX; exact ⟨rfl, ⟨hk91, hv94⟩, hB95⟩)
            | (rw [if_neg (by assumption), if_pos (by assumption)] at hX; subst hX; exact ⟨rfl, ⟨hk91, hv94⟩, hB95⟩)
            | (rw [if_neg (by assumption), if_neg (by assumption), if_pos (by assumption)] at hX; subst hX; exact ⟨rfl, ⟨hk91, hv94⟩, hB95⟩)
            | (rw [if_neg (by assumption), if_neg (by assumption), if_neg (by assumption), if_pos (by assumption)] at hX; subst hX; exact ⟨rfl, ⟨hk91, hv94⟩, hB95⟩)
            | (rw [if_neg (by assumption), if_neg (by assumption), if_neg (by assumption), if_neg (bF (by assumption)), if_pos (by assumption)] at hX; subst hX; exact ⟨ret_val (by rw [show (numR s).2.2 = true by assumption]; rfl), ⟨by rw [← refT_none (t := t1) (show (refR refs l s t1).isSome = false by assumption)]; exact hk91, hv94⟩, hB95⟩)
            | (rw [if_neg (by assumption), if_neg (by assumption), if_neg (by assumption), if_neg (bF (by assumption)), if_neg (bF (by assumption))] at hX; subst hX; exact ⟨ret_val (by rw [show (numR s).2.2 = false by assumption]; rfl), ⟨by rw [← refT_none (t := t1) (show (refR refs l s t1).isSome = false by assumption)]; exact hk91, hv94⟩, hB95⟩)

end Go.Proofs.YtjghbcjnplcleaaGreatDoor
