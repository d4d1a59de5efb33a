/-
  Tokens: ref.Token at a text without a base.
-/
import Derived.Test.YtjghbcjnplcleaaGreatDoorTokP
import Derived.Test.YtjghbcjnplcleaaGreatDoorFwHb
namespace Go.Proofs.YtjghbcjnplcleaaGreatDoor
open Go.RowKit

theorem ref_whole' (l : List UInt8) (w : World) (hl : l.length ≤ 1000) :
    Calls Tryz.prog 176 #[.string (bs l)] w fun e w' => ∃ v : Int, e = .returned (.tuple #[.int .i64 v, .bool (wholeT l).2]) ∧ (((wholeT l).2 = true → v = (wholeT l).1) ∧ Below w.heap.size w w') :=
  (ref_whole l w hl).mono fun _ _ ⟨⟨v, h1, h2⟩, h3⟩ => ⟨v, h1, h2, h3⟩

theorem isE_1 {c : UInt8} (h : (c.toNat : Int) = 101) : true = isE c := by
  obtain rfl : c = 101 := UInt8.toNat_inj.1 (by show c.toNat = 101; omega)
  rfl
theorem isE_2 {c : UInt8} (h : ¬ (c.toNat : Int) = 101) : decide ((c.toNat : Int) = 69) = isE c := by
  have h1 : (c == 101) = false := by rw [beq_eq_false_iff_ne]; rintro rfl; exact h rfl
  unfold isE
  rw [h1, Bool.false_or]
  by_cases h2 : c = 69
  · subst h2; rfl
  · rw [beq_false_of_ne h2]; exact decide_eq_false fun e => h2 (UInt8.toNat_inj.1 (by show c.toNat = 69; omega))
theorem sign_0 {q : List UInt8} (h : ¬ (0 : Int) < (q.length : Int)) : false = signQ q := by
  cases q with
  | nil => rfl
  | cons c r => exact absurd (by simp only [List.length_cons]; omega) h
theorem sign_1 {q : List UInt8} (h0 : 0 < q.length) (h : (q[0].toNat : Int) = 45) : true = signQ q := by
  cases q with
  | nil => cases h0
  | cons c r =>
    have h' : (c.toNat : Int) = 45 := h
    obtain rfl : c = 45 := UInt8.toNat_inj.1 (by show c.toNat = 45; omega)
    rfl
theorem sign_2 {q : List UInt8} (h0 : 0 < q.length) (h : ¬ (q[0].toNat : Int) = 45) : decide ((q[0].toNat : Int) = 43) = signQ q := by
  cases q with
  | nil => cases h0
  | cons c r =>
    have h1 : (c == 45) = false := by rw [beq_eq_false_iff_ne]; rintro rfl; exact h rfl
    show decide ((c.toNat : Int) = 43) = (c == 45 || c == 43)
    rw [h1, Bool.false_or]
    by_cases h2 : c = 43
    · subst h2; rfl
    · rw [beq_false_of_ne h2]; exact decide_eq_false fun e => h2 (UInt8.toNat_inj.1 (by show c.toNat = 43; omega))
theorem signQ_pos {q : List UInt8} (h : signQ q = true) : 0 < q.length := by
  cases q with
  | nil => cases h
  | cons c r => simp
theorem signed_T {q : List UInt8} (h : signQ q = true) : q.drop 1 = (signedL q).2 ∧ decide ((q[0]'(signQ_pos h)).toNat = (45 : Int)) = (signedL q).1 := by
  cases q with
  | nil => cases h
  | cons c r =>
    simp only [signQ, Bool.or_eq_true, beq_iff_eq] at h
    rcases h with rfl | rfl <;> exact ⟨rfl, rfl⟩
theorem signed_F {q : List UInt8} (h : signQ q = false) : signedL q = (false, q) := by
  cases q with
  | nil => rfl
  | cons c r =>
    simp only [signQ, Bool.or_eq_false_iff, beq_eq_false_iff_ne] at h
    simp [signedL, h.1, h.2]

/-- may a power not be read -/
def badPow (r : List UInt8) : Bool := decide (r.length < 1) || decide (3 < r.length) || !decide (digN r = r.length)
theorem badPow_1 {r : List UInt8} (h : (r.length : Int) < 1) : true = badPow r := by
  unfold badPow; rw [decide_eq_true (show r.length < 1 by omega)]; rfl
theorem badPow_2 {r : List UInt8} (h : (3 : Int) < (r.length : Int)) : true = badPow r := by
  unfold badPow; rw [decide_eq_true (show 3 < r.length by omega), Bool.or_true]; rfl
theorem badPow_3 {r : List UInt8} (h : ¬ (r.length : Int) < 1) (h2 : ¬ (3 : Int) < (r.length : Int)) : (!decide ((digN r : Int) = (r.length : Int))) = badPow r := by
  unfold badPow; rw [decide_eq_false (show ¬ r.length < 1 by omega), decide_eq_false (show ¬ 3 < r.length by omega)]
  simp only [Bool.false_or]
  congr 1
  by_cases e : digN r = r.length
  · rw [decide_eq_true e]; exact decide_eq_true (by omega)
  · rw [decide_eq_false e]; exact decide_eq_false (by omega)
theorem badPow_digits {r : List UInt8} (h : badPow r = false) : 1 ≤ r.length ∧ r.length ≤ 3 ∧ r.all isDig = true := by
  unfold badPow at h
  simp only [Bool.or_eq_false_iff, decide_eq_false_iff_not, Bool.not_eq_false', decide_eq_true_eq] at h
  exact ⟨by omega, by omega, (digN_iff r).1 h.2⟩
theorem powerL_bad {q : List UInt8} (h : badPow (signedL q).2 = true) : powerL q = (0, false) := by
  unfold powerL
  rw [if_pos]
  unfold badPow at h
  simp only [Bool.or_eq_true, decide_eq_true_eq, Bool.not_eq_true', decide_eq_false_iff_not] at h ⊢
  rcases h with (h | h) | h
  · left; left; rw [List.length_eq_zero_iff.1 (show (signedL q).2.length = 0 by omega)]; rfl
  · left; right; exact h
  · right
    cases ha : (signedL q).2.all isDig with
    | false => rfl
    | true => exact absurd ((digN_iff _).2 ha) h
theorem powerL_good {q : List UInt8} (h : badPow (signedL q).2 = false) : powerL q = (if (signedL q).1 then -(natOf (signedL q).2 : Int) else natOf (signedL q).2, true) := by
  obtain ⟨h1, h2, h3⟩ := badPow_digits h
  unfold powerL
  rw [h3, if_neg]
  simp only [Bool.not_true, Bool.or_false, Bool.or_eq_true, decide_eq_true_eq, List.isEmpty_iff, not_or]
  exact ⟨fun e => by rw [e] at h1; simp at h1, by omega⟩
theorem natOf_small {r : List UInt8} (h : badPow r = false) (k : Nat) : natOf (r.take k) < 1000 := by
  obtain ⟨-, h2, h3⟩ := badPow_digits h
  have h4 := natOf_take_le r k
  have h5 := natOf_lt r (List.all_eq_true.1 h3)
  have h6 : 10 ^ r.length ≤ 10 ^ 3 := Nat.pow_le_pow_right (by decide) h2
  omega

/-- a number out of its parts -/
theorem finL_none {m : Bool} {r : List UInt8} {k : Int} (h : mantOk r = false) : finL m r k = tokNone := by unfold finL; rw [h]; rfl
theorem finL_raw {m : Bool} {r : List UInt8} {k : Int} (h : mantOk r = true) : finL m r k =
    match rawL (wholeD ((cutDot r).1 ++ (cutDot r).2.1) ((cutDot r).1.length + k)) (restD ((cutDot r).1 ++ (cutDot r).2.1) ((cutDot r).1.length + k)) with
    | none => tokGreat
    | some n => if fitsB (if m then -n else n) then tokReal (if m then -n else n) else tokGreat := by
  unfold finL
  rw [h, if_pos rfl]
  unfold valueL
  cases rawL (wholeD ((cutDot r).1 ++ (cutDot r).2.1) ((cutDot r).1.length + k)) (restD ((cutDot r).1 ++ (cutDot r).2.1) ((cutDot r).1.length + k)) with
  | none => rfl
  | some n => rfl

set_option maxRecDepth 10000 in
theorem ref_Token_plain (l : List UInt8) (w : World) (hl : l.length ≤ 64) (hR : radixOk l = false) :
    Calls Tryz.prog 118 #[.string (bs l)] w fun e w' => e = .returned (if (wholeT l).2 then tokInt (wholeT l).1 else realR l).val ∧ Below w.heap.size w w' := by
  have hno : ∀ h : digN l < l.length, (1 : Int) ≤ digN l → (digN l : Int) ≤ 2 → (digN l : Int) + 1 < l.length → ¬ ((l[digN l].toNat : Int) = 35) := by
    intro h h1 h2 h3 e
    exact radixOk_not l hR (by omega) (by omega) (by omega) h (UInt8.toNat_inj.1 (by show l[digN l].toNat = 35; omega))
  have hdl := digN_le l
  obtain ⟨R, hRe⟩ : ∃ R, R = (if (wholeT l).2 then tokInt (wholeT l).1 else realR l) := ⟨_, rfl⟩
  rw [← hRe]
  have hAt := cutE_at l
  have hNo : (∀ c ∈ l, isE c = false) → (cutE l).1.length = l.length := fun h => by rw [cutE_no l h]
  have hle := cutE_len l
  have hyes := cutE_yes_join l
  have hnoj := cutE_no_join l
  have hReal : (wholeT l).2 = false → R = realR l := fun h => by rw [hRe, h]; rfl
  unfold realR at hReal
  generalize cutE l = cc at *
  obtain ⟨p, q, f⟩ := cc
  simp only at hAt hNo hle hyes hnoj hReal
  have hf1 : (p.length : Int) < (l.length : Int) → f = true := fun h => by
    cases f with
    | true => rfl
    | false => rw [(hnoj rfl).1] at h; omega
  have hf2 : ¬ (p.length : Int) < (l.length : Int) → f = false := fun h => by
    cases f with
    | false => rfl
    | true => obtain ⟨c, -, e⟩ := hyes rfl; rw [e] at h; simp at h; omega
  have hlq : f = true → l.drop (p.length + 1) = q := fun h => by
    obtain ⟨c, -, e⟩ := hyes h
    rw [e, List.append_cons, List.drop_left' (by simp)]
  have hlp : l.take p.length = p := by
    cases f with
    | true => obtain ⟨c, -, e⟩ := hyes rfl; rw [e]; simp
    | false => rw [(hnoj rfl).1]; simp
  obtain ⟨pw, hpw⟩ : ∃ pw, pw = (if f then (powerL q).1 else 0) := ⟨_, rfl⟩
  have hpb : -1000 ≤ pw ∧ pw ≤ 1000 := by
    have := powerL_bound q
    rw [hpw]; split
    · exact this
    · omega
  have hPl : ∀ w, Calls Tryz.prog 173 #[.string (bs (l.take p.length))] w _ := fun w => by rw [hlp]; exact ref_plain p w (by omega)
  have hsl := signedL_len p
  have hql := signedL_len q
  refine W.enter Tryz.func118 rfl Tryz.ntmps118 (Nat.le_of_ble_eq_true rfl) ?_
  have hB0 := Below.refl (w.heap.size) w
  refine W.seq ?_
  refine W.reg ?_ -- 0
  refine WL.alloc Tryz.zeroValue143 rfl (fun b1 wb1 eb1 hkb1 hub1 hsb1 => ?_)
  have hB2 := Upd.below hB0 (by rw [eb1]; exact hB0.size) hub1
  have hgeb1 : w.heap.size ≤ b1 := by rw [eb1]; exact hB0.size
  refine WL.p (.as rfl) rfl <| WL.p (.as rfl) rfl <| WL.nil <| ?_
  refine W.seq ?_
  refine W.seq ?_
  refine W.reg ?_ -- 1
  refine WL.p (.mv rfl) rfl <| WL.p (.len Tryz.underlying9 rfl) rfl <| WL.p (.gtr rfl rfl) rfl <| WL.nil <| ?_
  refine W.cond rfl (fun h3 => ?_) (fun h3 => ?_) -- slot 29
  · have h3' := of_decide_eq_true h3
    omega
  · have h3' := of_decide_eq_false h3
    refine W.skip ?_
    refine W.seq ?_
    refine W.reg ?_ -- 3
    refine WL.p (.mv rfl) rfl <| WL.c1 hb80 rfl rfl ((ref_Digits l _ (by omega))) (fun w4 hw4 => ?_)
    obtain rfl := hw4
    refine WL.p (.as rfl) rfl <| WL.nil <| ?_
    refine W.seq ?_
    refine W.cutB 51 (false) ?_ ?_
    · skip
      refine W.reg ?_ -- 4
      refine WL.p (.mv rfl) rfl <| WL.p (.geq rfl rfl) rfl <| WL.p (.mv rfl) rfl <| WL.gd rfl rfl rfl (fun g5 => ?_) (fun g5 => ?_)
      · have g5' := of_decide_eq_true g5
        refine WL.p (.mv rfl) rfl <| WL.gy rfl rfl rfl g5 <| WL.p (.leq rfl rfl) rfl <| WL.p (.pkT rfl g5 rfl) rfl <| WL.p (.mv rfl) rfl <| WL.gd rfl rfl rfl (fun g6 => ?_) (fun g6 => ?_)
        · have g6' := of_decide_eq_true g6
          refine WL.p (.mv rfl) rfl <| WL.gy rfl rfl rfl g6 <| WL.p (.add rfl rfl (i64w (by omega))) rfl <| WL.gy rfl rfl rfl g6 <| WL.p (.mv rfl) rfl <| WL.gy rfl rfl rfl g6 <| WL.p (.len Tryz.underlying9 rfl) rfl <| WL.gy rfl rfl rfl g6 <| WL.p (.lss rfl rfl) rfl <| WL.p (.pkT rfl g6 rfl) rfl <| WL.p (.mv rfl) rfl <| WL.gd rfl rfl rfl (fun g7 => ?_) (fun g7 => ?_)
          · have g7' := of_decide_eq_true g7
            refine WL.p (.mv rfl) rfl <| WL.gy rfl rfl rfl g7 <| WL.p (.mv rfl) rfl <| WL.gy rfl rfl rfl g7 <| WL.p (.ix Tryz.underlying9 rfl rfl _ rfl (by omega)) rfl <| WL.gy rfl rfl rfl g7 <| WL.p (.eql rfl rfl) rfl <| WL.p (.pkT rfl g7 rfl) rfl <| WL.nil <| ?_
            exact ⟨⟨lk_b rfl (by first | rfl | exact decide_eq_false (hno _ (by assumption) (by assumption) (by assumption))), by repeat (first | exact Le.refl _ | refine Le.cons rfl ?_)⟩, rfl⟩
          · have g7' := of_decide_eq_false g7
            refine WL.gn rfl rfl rfl g7 <| WL.gn rfl rfl rfl g7 <| WL.gn rfl rfl rfl g7 <| WL.p (.pkF rfl g7 rfl) rfl <| WL.nil <| ?_
            exact ⟨⟨lk_b rfl (by first | rfl | exact decide_eq_false (hno _ (by assumption) (by assumption) (by assumption))), by repeat (first | exact Le.refl _ | refine Le.cons rfl ?_)⟩, rfl⟩
        · have g6' := of_decide_eq_false g6
          refine WL.gn rfl rfl rfl g6 <| WL.gn rfl rfl rfl g6 <| WL.gn rfl rfl rfl g6 <| WL.gn rfl rfl rfl g6 <| WL.p (.pkF rfl g6 rfl) rfl <| WL.p (.mv rfl) rfl <| WL.gn rfl rfl rfl rfl <| WL.gn rfl rfl rfl rfl <| WL.gn rfl rfl rfl rfl <| WL.gn rfl rfl rfl rfl <| WL.p (.pkF rfl rfl rfl) rfl <| WL.nil <| ?_
          exact ⟨⟨lk_b rfl (by first | rfl | exact decide_eq_false (hno _ (by assumption) (by assumption) (by assumption))), by repeat (first | exact Le.refl _ | refine Le.cons rfl ?_)⟩, rfl⟩
      · have g5' := of_decide_eq_false g5
        refine WL.gn rfl rfl rfl g5 <| WL.p (.pkF rfl g5 rfl) rfl <| WL.p (.mv rfl) rfl <| WL.gn rfl rfl rfl rfl <| WL.gn rfl rfl rfl rfl <| WL.gn rfl rfl rfl rfl <| WL.gn rfl rfl rfl rfl <| WL.gn rfl rfl rfl rfl <| WL.p (.pkF rfl rfl rfl) rfl <| WL.p (.mv rfl) rfl <| WL.gn rfl rfl rfl rfl <| WL.gn rfl rfl rfl rfl <| WL.gn rfl rfl rfl rfl <| WL.gn rfl rfl rfl rfl <| WL.p (.pkF rfl rfl rfl) rfl <| WL.nil <| ?_
        exact ⟨⟨lk_b rfl (by first | rfl | exact decide_eq_false (hno _ (by assumption) (by assumption) (by assumption))), by repeat (first | exact Le.refl _ | refine Le.cons rfl ?_)⟩, rfl⟩
    refine W.condF rfl rfl ?_
    refine W.skip ?_
    refine W.seq ?_
    refine W.reg ?_ -- 27
    refine WL.p (.mv rfl) rfl <| WL.call hb176 rfl rfl ((ref_whole' l _ (by omega))) (fun v w8 hw8 => ?_)
    have hk9 := hkb1.below hw8.2 hkb1.lt
    have hB10 := btr hB2 hw8.2
    have hv := hw8.1
    refine WL.p (.mv rfl) rfl <| WL.p (.ext rfl rfl) rfl <| WL.p (.ext rfl rfl) rfl <| WL.p (.as rfl) rfl <| WL.p (.as rfl) rfl <| WL.nil <| ?_
    refine W.seq ?_
    refine W.seq ?_
    refine W.reg ?_ -- 28
    refine WL.p (.mv rfl) rfl <| WL.nil <| ?_
    refine W.cond rfl (fun h11 => ?_) (fun h11 => ?_) -- slot 117
    · have h11' := h11
      refine W.seq ?_
      refine W.reg ?_ -- 29
      refine WL.p (.mv rfl) rfl <| ?_
      refine WL.p (.buildL (ps := _) blt143 rfl rfl rfl (by simp only [put1, List.map, List.zip, List.zipWith, List.set] <;> rfl)) rfl ?_
      refine WL.stL rfl rfl hk9 isz143 rfl rfl (fun w12 hkw12 huw12 hsw12 => ?_)
      have hB13 := Upd.below hB10 (by omega) huw12
      refine WL.p (.as rfl) rfl <| WL.p (.as rfl) rfl <| WL.nil <| ?_
      refine W.ret (W.retc3 rfl rfl (ldRow hkw12 Tryz.underlying143 rfl isz143) rfl rfl ?_)
      exact ⟨by rw [hRe, if_pos ‹_›, ← hv ‹_›]; rfl, hB13⟩
    · have h11' := h11
      have hReal := hReal ‹_›
      refine W.skip ?_
      refine W.seq ?_
      refine W.reg ?_ -- 30
      refine WL.p (.mv rfl) rfl <| WL.p (.len Tryz.underlying9 rfl) rfl <| WL.p (.as rfl) rfl <| WL.nil <| ?_
      refine W.cut (α := Unit) (fun t => [(0, .string (bs l)), (2, .pointer (some ⟨b1, 0, none⟩)), (14, .int .i64 (p.length : Int))]) (fun t w' => w8 = w') ?_ (fun t w1 hR => ?_)
      · skip
        refine W.seq ?_
        refine W.reg ?_ -- 31
        refine WL.p (.as rfl) rfl <| WL.nil <| ?_
        refine W.block ?_
        -- loop 1: writes [14, 15, 122, 123, 124, 125, 126, 127, 128, 129, 130, 131, 132, 133, 134, 135, 136, 137, 138]; reads from outside [0, 15]
        refine W.loop (α := Nat) (fun t => [(0, .string (bs l)), (2, .pointer (some ⟨b1, 0, none⟩)), (14, .int .i64 (l.length : Int)), (15, .int .i64 (t : Int))]) (fun t w' => w8 = w' ∧ t ≤ l.length ∧ ∀ c ∈ l.take t, isE c = false) (fun t => l.length - t) (0) ⟨rfl, rfl, rfl, rfl, trivial⟩ (⟨rfl, Nat.zero_le _, by simp⟩) (fun t w1 hR => ?_)
        obtain ⟨rfl, ht, hE⟩ := hR
        refine W.seq ?_
        refine W.seq ?_
        refine W.reg ?_ -- 32
        refine WL.p (.mv rfl) rfl <| WL.p (.mv rfl) rfl <| WL.p (.len Tryz.underlying9 rfl) rfl <| WL.p (.lss rfl rfl) rfl <| WL.nil <| ?_
        refine W.cond rfl (fun h14 => ?_) (fun h14 => ?_) -- slot 125
        · have h14' := of_decide_eq_true h14
          refine W.skip ?_
          refine W.seq ?_
          refine W.block ?_
          refine W.cutB 137 (isE (l[t]'(by omega))) ?_ ?_
          · skip
            refine W.reg ?_ -- 34
            refine WL.p (.mv rfl) rfl <| WL.p (.mv rfl) rfl <| WL.p (.ix Tryz.underlying9 rfl rfl _ rfl (by omega)) rfl <| WL.p (.eql rfl rfl) rfl <| WL.p (.mv rfl) rfl <| WL.gd rfl rfl rfl (fun g15 => ?_) (fun g15 => ?_)
            · have g15' := of_decide_eq_false g15
              refine WL.p (.mv rfl) rfl <| WL.gy rfl rfl rfl g15 <| WL.p (.mv rfl) rfl <| WL.gy rfl rfl rfl g15 <| WL.p (.ix Tryz.underlying9 rfl rfl _ rfl (by omega)) rfl <| WL.gy rfl rfl rfl g15 <| WL.p (.eql rfl rfl) rfl <| WL.p (.pkF rfl g15 rfl) rfl <| WL.nil <| ?_
              exact ⟨⟨lk_b rfl (by first | exact isE_1 (by assumption) | exact isE_2 (by assumption)), by repeat (first | exact Le.refl _ | refine Le.cons rfl ?_)⟩, rfl⟩
            · have g15' := of_decide_eq_true g15
              refine WL.gn rfl rfl rfl g15 <| WL.gn rfl rfl rfl g15 <| WL.gn rfl rfl rfl g15 <| WL.p (.pkT rfl g15 rfl) rfl <| WL.nil <| ?_
              exact ⟨⟨lk_b rfl (by first | exact isE_1 (by assumption) | exact isE_2 (by assumption)), by repeat (first | exact Le.refl _ | refine Le.cons rfl ?_)⟩, rfl⟩
          refine W.cond rfl (fun h16 => ?_) (fun h16 => ?_) -- slot 137
          · have h16' := h16
            refine W.seq ?_
            refine W.reg ?_ -- 35
            refine WL.p (.mv rfl) rfl <| WL.p (.as rfl) rfl <| WL.nil <| ?_
            refine W.exit ?_ -- 2
            -- join b2.meet/1
            refine ⟨(), ⟨rfl, rfl, lk_i rfl ?_, trivial⟩, rfl⟩
            first
            | exact congrArg Int.ofNat (hAt t (by omega) hE (by assumption)).symm
            | exact congrArg Int.ofNat (hNo (by rw [← List.take_of_length_le (show l.length ≤ t by omega)]; exact hE)).symm
            -- met
          · have h16' := h16
            refine W.skip ?_
            refine W.reg ?_ -- 33
            refine WL.p (.mv rfl) rfl <| WL.p (.add rfl rfl (i64w (by omega))) rfl <| WL.p (.as rfl) rfl <| WL.nil <| ?_
            exact ⟨t + 1, ⟨rfl, rfl, rfl, lk_i rfl (by omega), trivial⟩, ⟨rfl, by omega, isE_take l t (by omega) hE ‹_›⟩, by omega⟩
        · have h14' := of_decide_eq_false h14
          refine W.exit ?_ -- 2
          -- join b2.meet/2
          refine ⟨(), ⟨rfl, rfl, lk_i rfl ?_, trivial⟩, rfl⟩
          first
          | exact congrArg Int.ofNat (hAt t (by omega) hE (by assumption)).symm
          | exact congrArg Int.ofNat (hNo (by rw [← List.take_of_length_le (show l.length ≤ t by omega)]; exact hE)).symm
          -- met
      obtain rfl := hR
      refine W.seq ?_
      refine W.reg ?_ -- 36
      refine WL.p (.as rfl) rfl <| WL.nil <| ?_
      refine W.cut (α := Unit) (fun t => [(0, .string (bs l)), (2, .pointer (some ⟨b1, 0, none⟩)), (14, .int .i64 (p.length : Int)), (16, .int .i64 pw)]) (fun t w' => w8 = w' ∧ (f = true → (powerL q).2 = true)) ?_ (fun t w1 hR => ?_)
      · skip
        refine W.seq ?_
        refine W.reg ?_ -- 37
        refine WL.p (.mv rfl) rfl <| WL.p (.mv rfl) rfl <| WL.p (.len Tryz.underlying9 rfl) rfl <| WL.p (.lss rfl rfl) rfl <| WL.nil <| ?_
        refine W.cond rfl (fun h17 => ?_) (fun h17 => ?_) -- slot 142
        · have h17' := of_decide_eq_true h17
          have hf := hf1 ‹_›
          refine W.cut (α := Unit) (fun t => [(0, .string (bs l)), (2, .pointer (some ⟨b1, 0, none⟩)), (14, .int .i64 (p.length : Int)), (16, .int .i64 0), (17, .string (bs q))]) (fun t w' => w8 = w') ?_ (fun t w1 hR => ?_)
          · skip
            refine W.reg ?_ -- 38
            refine WL.p (.mv rfl) rfl <| WL.p (.mv rfl) rfl <| WL.p (.add rfl rfl (i64w (by omega))) rfl <| WL.p (.slF Tryz.underlying9 rfl rfl (p.length + 1) (by omega) (by omega)) rfl <| WL.p (.as rfl) rfl <| WL.nil <| ?_
            -- join r38.meet/1
            exact ⟨(), ⟨rfl, rfl, rfl, rfl, lk_s rfl (hlq hf), trivial⟩, rfl⟩
            -- met
          obtain rfl := hR
          refine W.seq ?_
          refine W.reg ?_ -- 39
          refine WL.p (.as rfl) rfl <| WL.nil <| ?_
          refine W.cut (α := Unit) (fun t => [(0, .string (bs l)), (2, .pointer (some ⟨b1, 0, none⟩)), (14, .int .i64 (p.length : Int)), (16, .int .i64 0), (17, .string (bs (signedL q).2)), (18, .bool (signedL q).1)]) (fun t w' => w8 = w') ?_ (fun t w1 hR => ?_)
          · skip
            refine W.cutB 159 (signQ q) ?_ ?_
            · skip
              refine W.reg ?_ -- 40
              refine WL.p (.mv rfl) rfl <| WL.p (.len Tryz.underlying9 rfl) rfl <| WL.p (.gtr rfl rfl) rfl <| WL.p (.mv rfl) rfl <| WL.gd rfl rfl rfl (fun g18 => ?_) (fun g18 => ?_)
              · have g18' := of_decide_eq_true g18
                refine WL.p (.mv rfl) rfl <| WL.gy rfl rfl rfl g18 <| WL.p (.ix Tryz.underlying9 rfl rfl 0 rfl (by omega)) rfl <| WL.gy rfl rfl rfl g18 <| WL.p (.eql rfl rfl) rfl <| WL.gy rfl rfl rfl g18 <| WL.p (.mv rfl) rfl <| WL.gd rfl rfl rfl (fun g19 => ?_) (fun g19 => ?_)
                · have g19' := of_decide_eq_false g19
                  refine WL.p (.mv rfl) rfl <| WL.gy rfl rfl rfl g19 <| WL.p (.ix Tryz.underlying9 rfl rfl 0 rfl (by omega)) rfl <| WL.gy rfl rfl rfl g19 <| WL.p (.eql rfl rfl) rfl <| WL.gy rfl rfl rfl g18 <| WL.p (.pkF rfl g19 rfl) rfl <| WL.p (.pkT rfl g18 rfl) rfl <| WL.nil <| ?_
                  exact ⟨⟨lk_b rfl (by first | exact sign_0 (by assumption) | exact sign_1 (by omega) (by assumption) | exact sign_2 (by omega) (by assumption)), by repeat (first | exact Le.refl _ | refine Le.cons rfl ?_)⟩, rfl⟩
                · have g19' := of_decide_eq_true g19
                  refine WL.gn rfl rfl rfl g19 <| WL.gn rfl rfl rfl g19 <| WL.gy rfl rfl rfl g18 <| WL.p (.pkT rfl g19 rfl) rfl <| WL.p (.pkT rfl g18 rfl) rfl <| WL.nil <| ?_
                  exact ⟨⟨lk_b rfl (by first | exact sign_0 (by assumption) | exact sign_1 (by omega) (by assumption) | exact sign_2 (by omega) (by assumption)), by repeat (first | exact Le.refl _ | refine Le.cons rfl ?_)⟩, rfl⟩
              · have g18' := of_decide_eq_false g18
                refine WL.gn rfl rfl rfl g18 <| WL.gn rfl rfl rfl g18 <| WL.gn rfl rfl rfl g18 <| WL.gu rfl rfl rfl <| WL.gu rfl rfl rfl <| WL.gu rfl rfl rfl <| WL.gn rfl rfl rfl g18 <| WL.p (.pkF rfl g18 rfl) rfl <| WL.nil <| ?_
                exact ⟨⟨lk_b rfl (by first | exact sign_0 (by assumption) | exact sign_1 (by omega) (by assumption) | exact sign_2 (by omega) (by assumption)), by repeat (first | exact Le.refl _ | refine Le.cons rfl ?_)⟩, rfl⟩
            refine W.cond rfl (fun h20 => ?_) (fun h20 => ?_) -- slot 159
            · have h20' := h20
              have hq0 := signQ_pos ‹_›
              refine W.seq ?_
              refine W.reg ?_ -- 41
              refine WL.p (.mv rfl) rfl <| WL.p (.ix Tryz.underlying9 rfl rfl 0 rfl (by omega)) rfl <| WL.p (.eql rfl rfl) rfl <| WL.p (.as rfl) rfl <| WL.nil <| ?_
              refine W.reg ?_ -- 42
              refine WL.p (.mv rfl) rfl <| WL.p (.slF Tryz.underlying9 rfl rfl 1 rfl (by omega)) rfl <| WL.p (.as rfl) rfl <| WL.nil <| ?_
              -- join 159.meet/1
              first
              | exact ⟨(), ⟨rfl, rfl, rfl, rfl, lk_s rfl (signed_T (by assumption)).1, lk_b rfl (signed_T (by assumption)).2, trivial⟩, rfl⟩
              | exact ⟨(), ⟨rfl, rfl, rfl, rfl, lk_s rfl (by rw [signed_F ‹_›]), lk_b rfl (by rw [signed_F ‹_›]), trivial⟩, rfl⟩
              -- met
            · have h20' := h20
              refine W.skip ?_
              -- join 159.meet/2
              first
              | exact ⟨(), ⟨rfl, rfl, rfl, rfl, lk_s rfl (signed_T (by assumption)).1, lk_b rfl (signed_T (by assumption)).2, trivial⟩, rfl⟩
              | exact ⟨(), ⟨rfl, rfl, rfl, rfl, lk_s rfl (by rw [signed_F ‹_›]), lk_b rfl (by rw [signed_F ‹_›]), trivial⟩, rfl⟩
              -- met
          obtain rfl := hR
          refine W.seq ?_
          refine W.cutB 179 (badPow (signedL q).2) ?_ ?_
          · skip
            refine W.reg ?_ -- 43
            refine WL.p (.mv rfl) rfl <| WL.p (.len Tryz.underlying9 rfl) rfl <| WL.p (.lss rfl rfl) rfl <| WL.p (.mv rfl) rfl <| WL.gd rfl rfl rfl (fun g21 => ?_) (fun g21 => ?_)
            · have g21' := of_decide_eq_false g21
              refine WL.p (.mv rfl) rfl <| WL.gy rfl rfl rfl g21 <| WL.p (.len Tryz.underlying9 rfl) rfl <| WL.gy rfl rfl rfl g21 <| WL.p (.gtr rfl rfl) rfl <| WL.p (.pkF rfl g21 rfl) rfl <| WL.p (.mv rfl) rfl <| WL.gd rfl rfl rfl (fun g22 => ?_) (fun g22 => ?_)
              · have g22' := of_decide_eq_false g22
                refine WL.p (.mv rfl) rfl <| WL.gy rfl rfl rfl g22 <| WL.c1 hb80 rfl rfl ((ref_Digits (signedL q).2 _ (by omega))) (fun w23 hw23 => ?_)
                obtain rfl := hw23
                refine WL.gy rfl rfl rfl g22 <| WL.p (.mv rfl) rfl <| WL.gy rfl rfl rfl g22 <| WL.p (.len Tryz.underlying9 rfl) rfl <| WL.gy rfl rfl rfl g22 <| WL.p (.neq rfl rfl) rfl <| WL.p (.pkF rfl g22 rfl) rfl <| WL.nil <| ?_
                exact ⟨⟨lk_b rfl (by first | exact badPow_1 (by assumption) | exact badPow_2 (by assumption) | exact badPow_3 (by assumption) (by assumption)), by repeat (first | exact Le.refl _ | refine Le.cons rfl ?_)⟩, rfl⟩
              · have g22' := of_decide_eq_true g22
                refine WL.gn rfl rfl rfl g22 <| WL.gn rfl rfl rfl g22 <| WL.gn rfl rfl rfl g22 <| WL.gn rfl rfl rfl g22 <| WL.p (.pkT rfl g22 rfl) rfl <| WL.nil <| ?_
                exact ⟨⟨lk_b rfl (by first | exact badPow_1 (by assumption) | exact badPow_2 (by assumption) | exact badPow_3 (by assumption) (by assumption)), by repeat (first | exact Le.refl _ | refine Le.cons rfl ?_)⟩, rfl⟩
            · have g21' := of_decide_eq_true g21
              refine WL.gn rfl rfl rfl g21 <| WL.gn rfl rfl rfl g21 <| WL.p (.pkT rfl g21 rfl) rfl <| WL.p (.mv rfl) rfl <| WL.gn rfl rfl rfl rfl <| WL.gn rfl rfl rfl rfl <| WL.gn rfl rfl rfl rfl <| WL.gn rfl rfl rfl rfl <| WL.gn rfl rfl rfl rfl <| WL.p (.pkT rfl rfl rfl) rfl <| WL.nil <| ?_
              exact ⟨⟨lk_b rfl (by first | exact badPow_1 (by assumption) | exact badPow_2 (by assumption) | exact badPow_3 (by assumption) (by assumption)), by repeat (first | exact Le.refl _ | refine Le.cons rfl ?_)⟩, rfl⟩
          refine W.cond rfl (fun h24 => ?_) (fun h24 => ?_) -- slot 179
          · have h24' := h24
            refine W.seq ?_
            refine W.reg ?_ -- 44
            refine WL.p (.buildL (ps := _) blt143 rfl rfl rfl (by simp only [put1, List.map, List.zip, List.zipWith] <;> rfl)) rfl ?_
            refine WL.stL rfl rfl hk9 isz143 rfl rfl (fun w25 hkw25 huw25 hsw25 => ?_)
            have hB26 := Upd.below hB10 (by omega) huw25
            refine WL.p (.as rfl) rfl <| WL.p (.as rfl) rfl <| WL.nil <| ?_
            refine W.ret (W.retc3 rfl rfl (ldRow hkw25 Tryz.underlying143 rfl isz143) rfl rfl ?_)
            exact ⟨by rw [hReal, hf, if_pos rfl, powerL_bad ‹_›]; rfl, hB26⟩
          · have h24' := h24
            have hbad : badPow (signedL q).2 = false := ‹_›
            refine W.skip ?_
            refine W.seq ?_
            refine W.seq ?_
            refine W.reg ?_ -- 45
            refine WL.p (.as rfl) rfl <| WL.nil <| ?_
            refine W.block ?_
            have hdig := List.all_eq_true.1 (badPow_digits hbad).2.2
            -- loop 2: writes [16, 19, 181, 182, 183, 184, 185, 186, 187, 188, 189, 190, 191, 192, 193, 194]; reads from outside [16, 17, 19]
            refine W.loop (α := Nat) (fun t => [(0, .string (bs l)), (2, .pointer (some ⟨b1, 0, none⟩)), (14, .int .i64 (p.length : Int)), (17, .string (bs (signedL q).2)), (18, .bool (signedL q).1), (16, .int .i64 (natOf ((signedL q).2.take t) : Int)), (19, .int .i64 (t : Int))]) (fun t w' => w8 = w' ∧ t ≤ (signedL q).2.length) (fun t => (signedL q).2.length - t) (0) ⟨rfl, rfl, rfl, rfl, rfl, rfl, rfl, trivial⟩ (⟨rfl, Nat.zero_le _⟩) (fun t w1 hR => ?_)
            obtain ⟨rfl, ht⟩ := hR
            have hns := natOf_small hbad t
            refine W.seq ?_
            refine W.seq ?_
            refine W.reg ?_ -- 46
            refine WL.p (.mv rfl) rfl <| WL.p (.mv rfl) rfl <| WL.p (.len Tryz.underlying9 rfl) rfl <| WL.p (.lss rfl rfl) rfl <| WL.nil <| ?_
            refine W.cond rfl (fun h27 => ?_) (fun h27 => ?_) -- slot 184
            · have h27' := of_decide_eq_true h27
              have hd := isDig_bounds (hdig ((signedL q).2[t]'(by omega)) (by simp))
              have hst := natOf_take (signedL q).2 t (by omega)
              refine W.skip ?_
              refine W.seq ?_
              refine W.block ?_
              refine W.reg ?_ -- 48
              refine WL.p (.mv rfl) rfl <| WL.p (.mul rfl rfl (i64w (by omega))) rfl <| WL.p (.mv rfl) rfl <| WL.p (.mv rfl) rfl <| WL.p (.ix Tryz.underlying9 rfl rfl _ rfl (by omega)) rfl <| WL.p (.sub rfl rfl (u8w (by omega))) rfl <| WL.p (.cvt Tryz.underlying5 Tryz.underlying3 rfl (i64w (by omega))) rfl <| WL.p (.add rfl rfl (i64w (by omega))) rfl <| WL.p (.as rfl) rfl <| WL.nil <| ?_
              refine W.reg ?_ -- 47
              refine WL.p (.mv rfl) rfl <| WL.p (.add rfl rfl (i64w (by omega))) rfl <| WL.p (.as rfl) rfl <| WL.nil <| ?_
              exact ⟨t + 1, ⟨rfl, rfl, rfl, rfl, rfl, lk_i rfl (by rw [hst]; omega), lk_i rfl (by omega), trivial⟩, ⟨rfl, by omega⟩, by omega⟩
            · have h27' := of_decide_eq_false h27
              obtain rfl : t = (signedL q).2.length := by omega
              rw [List.take_length] at hns ⊢
              refine W.exit ?_ -- 4
              refine W.seq ?_
              refine W.reg ?_ -- 49
              refine WL.p (.mv rfl) rfl <| WL.nil <| ?_
              refine W.cond rfl (fun h28 => ?_) (fun h28 => ?_) -- slot 195
              · skip
                have hm : (signedL q).1 = true := ‹_›
                refine W.reg ?_ -- 50
                refine WL.p (.mv rfl) rfl <| WL.p (.neg rfl (i64w (by omega))) rfl <| WL.p (.as rfl) rfl <| WL.nil <| ?_
                -- join 142.meet/1
                first
                | exact ⟨(), ⟨rfl, rfl, rfl, lk_i rfl (by rw [hpw, hf2 ‹_›]; rfl), trivial⟩, rfl, fun h => by rw [hf2 ‹_›] at h; cases h⟩
                | exact ⟨(), ⟨rfl, rfl, rfl, lk_i rfl (by rw [hpw, hf, if_pos rfl, powerL_good hbad, hm]; rfl), trivial⟩, rfl, fun _ => by rw [powerL_good hbad]⟩
                -- met
              · skip
                have hm : (signedL q).1 = false := ‹_›
                refine W.skip ?_
                -- join 142.meet/2
                first
                | exact ⟨(), ⟨rfl, rfl, rfl, lk_i rfl (by rw [hpw, hf2 ‹_›]; rfl), trivial⟩, rfl, fun h => by rw [hf2 ‹_›] at h; cases h⟩
                | exact ⟨(), ⟨rfl, rfl, rfl, lk_i rfl (by rw [hpw, hf, if_pos rfl, powerL_good hbad, hm]; rfl), trivial⟩, rfl, fun _ => by rw [powerL_good hbad]⟩
                -- met
        · have h17' := of_decide_eq_false h17
          refine W.skip ?_
          -- join 142.meet/3
          first
          | exact ⟨(), ⟨rfl, rfl, rfl, lk_i rfl (by rw [hpw, hf2 ‹_›]; rfl), trivial⟩, rfl, fun h => by rw [hf2 ‹_›] at h; cases h⟩
          | exact ⟨(), ⟨rfl, rfl, rfl, lk_i rfl (by rw [hpw, hf, if_pos rfl, powerL_good hbad, hm]; rfl), trivial⟩, rfl, fun _ => by rw [powerL_good hbad]⟩
          -- met
      obtain ⟨rfl, hP⟩ := hR
      have hFin : R = finL (signedL p).1 (signedL p).2 pw := by
        rw [hReal, hpw]
        cases f with
        | true => rw [if_pos rfl, if_pos (hP rfl), if_pos rfl]
        | false => rfl
      refine W.seq ?_
      refine W.reg ?_ -- 51
      refine WL.p (.mv rfl) rfl <| WL.p (.mv rfl) rfl <| WL.p (.slT Tryz.underlying9 rfl rfl _ rfl (by omega)) rfl <| WL.c1 hb173 rfl rfl ((hPl _)) (fun w29 hw29 => ?_)
      have hk30 := hk9.below hw29 hk9.lt
      have hB31 := btr hB10 hw29
      refine WL.p (.mv rfl) rfl <| WL.p (.ext rfl rfl) rfl <| WL.p (.ext rfl rfl) rfl <| WL.p (.ext rfl rfl) rfl <| WL.p (.ext rfl rfl) rfl <| WL.p (.ext rfl rfl) rfl <| WL.p (.as rfl) rfl <| WL.p (.as rfl) rfl <| WL.p (.as rfl) rfl <| WL.p (.as rfl) rfl <| WL.p (.as rfl) rfl <| WL.nil <| ?_
      refine W.cut (α := Unit) (fun t => [(2, .pointer (some ⟨b1, 0, none⟩)), (16, .int .i64 pw), (20, .bool (signedL p).1), (21, .string (bs ((cutDot (signedL p).2).1 ++ (cutDot (signedL p).2).2.1))), (22, .int .i64 ((cutDot (signedL p).2).1.length : Int))]) (fun t w' => w29 = w' ∧ mantOk (signedL p).2 = true) ?_ (fun t w1 hR => ?_)
      · skip
        refine W.seq ?_
        refine W.reg ?_ -- 52
        refine WL.p (.mv rfl) rfl <| WL.p (.not rfl) rfl <| WL.nil <| ?_
        refine W.cond rfl (fun h32 => ?_) (fun h32 => ?_) -- slot 209
        · have h32' := (nT h32)
          have hm0 : mantOk (signedL p).2 = false := by rw [← (plain_mant _).1]; assumption
          refine W.seq ?_
          refine W.reg ?_ -- 53
          refine WL.p (.buildL (ps := _) blt143 rfl rfl rfl (by simp only [put1, List.map, List.zip, List.zipWith] <;> rfl)) rfl ?_
          refine WL.stL rfl rfl hk30 isz143 rfl rfl (fun w33 hkw33 huw33 hsw33 => ?_)
          have hB34 := Upd.below hB31 (by omega) huw33
          refine WL.p (.as rfl) rfl <| WL.p (.as rfl) rfl <| WL.nil <| ?_
          refine W.ret (W.retc3 rfl rfl (ldRow hkw33 Tryz.underlying143 rfl isz143) rfl rfl ?_)
          exact ⟨by rw [hFin, finL_none hm0]; rfl, hB34⟩
        · have h32' := (nF h32)
          have hm1 : mantOk (signedL p).2 = true := by rw [← (plain_mant _).1]; assumption
          have hq := (plain_mant _).2 hm1
          refine W.skip ?_
          -- join 209.meet/1
          exact ⟨(), ⟨rfl, rfl, rfl, lk_s rfl (by rw [hq]), lk_i rfl (by rw [hq]), trivial⟩, rfl, hm1⟩
          -- met
      obtain ⟨rfl, hm1⟩ := hR
      have hcl := cutDot_len (signedL p).2
      obtain ⟨hA, hB⟩ := mantOk_digits _ hm1
      have hAB : ∀ c ∈ (cutDot (signedL p).2).1 ++ (cutDot (signedL p).2).2.1, isDig c = true := fun c hc => (List.mem_append.1 hc).elim (hA c) (hB c)
      refine W.seq ?_
      refine W.reg ?_ -- 54
      refine WL.p (.mv rfl) rfl <| WL.p (.mv rfl) rfl <| WL.p (.mv rfl) rfl <| WL.p (.add rfl rfl (i64w (by omega))) rfl <| WL.c1 hb174 rfl rfl ((ref_scaled _ _ _ (by rw [List.length_append]; omega) (by omega) (by omega) hAB)) (fun w35 hw35 => ?_)
      have hk36 := hk30.below hw35 hk30.lt
      have hB37 := btr hB31 hw35
      refine WL.p (.mv rfl) rfl <| WL.p (.ext rfl rfl) rfl <| WL.p (.ext rfl rfl) rfl <| WL.p (.as rfl) rfl <| WL.p (.as rfl) rfl <| WL.nil <| ?_
      refine W.seq ?_
      refine W.seq ?_
      refine W.reg ?_ -- 55
      refine WL.p (.mv rfl) rfl <| WL.nil <| ?_
      refine W.cond rfl (fun h38 => ?_) (fun h38 => ?_) -- slot 219
      · have h38' := h38
        obtain ⟨N, hN⟩ : ∃ N, rawL (wholeD ((cutDot (signedL p).2).1 ++ (cutDot (signedL p).2).2.1) ((cutDot (signedL p).2).1.length + pw)) (restD ((cutDot (signedL p).2).1 ++ (cutDot (signedL p).2).2.1) ((cutDot (signedL p).2).1.length + pw)) = some N := Option.isSome_iff_exists.1 (by assumption)
        have hnb := rawL_bound _ _ (wholeD_digits _ _ hAB) (restD_digits _ _ hAB) N hN
        have hN2 : (rawL (wholeD ((cutDot (signedL p).2).1 ++ (cutDot (signedL p).2).2.1) ((cutDot (signedL p).2).1.length + pw)) (restD ((cutDot (signedL p).2).1 ++ (cutDot (signedL p).2).2.1) ((cutDot (signedL p).2).1.length + pw))).getD 0 = N := by rw [hN]; rfl
        have hR3 : R = if fitsB (if (signedL p).1 then -N else N) then tokReal (if (signedL p).1 then -N else N) else tokGreat := by rw [hFin, finL_raw hm1, hN]
        refine W.reg ?_ -- 56
        refine WL.p (.mv rfl) rfl <| WL.p (.mv rfl) rfl <| WL.c1 hb175 rfl rfl ((by rw [hN2]; exact ref_signed N _ _ (by omega) (by omega))) (fun w39 hw39 => ?_)
        obtain rfl := hw39
        refine WL.p (.mv rfl) rfl <| WL.p (.ext rfl rfl) rfl <| WL.p (.ext rfl rfl) rfl <| WL.p (.as rfl) rfl <| WL.p (.as rfl) rfl <| WL.nil <| ?_
        refine W.seq ?_
        refine W.seq ?_
        refine W.reg ?_ -- 57
        refine WL.p (.mv rfl) rfl <| WL.p (.not rfl) rfl <| WL.nil <| ?_
        refine W.cond rfl (fun h40 => ?_) (fun h40 => ?_) -- slot 227
        · have h40' := (nT h40)
          refine W.seq ?_
          refine W.reg ?_ -- 58
          refine WL.p (.buildL (ps := _) blt143 rfl rfl rfl (by simp only [put1, List.map, List.zip, List.zipWith] <;> rfl)) rfl ?_
          refine WL.stL rfl rfl hk36 isz143 rfl rfl (fun w41 hkw41 huw41 hsw41 => ?_)
          have hB42 := Upd.below hB37 (by omega) huw41
          refine WL.p (.as rfl) rfl <| WL.p (.as rfl) rfl <| WL.nil <| ?_
          refine W.ret (W.retc3 rfl rfl (ldRow hkw41 Tryz.underlying143 rfl isz143) rfl rfl ?_)
          exact ⟨by rw [hR3, show fitsB _ = false from ‹_›]; rfl, hB42⟩
        · have h40' := (nF h40)
          refine W.skip ?_
          refine W.seq ?_
          refine W.reg ?_ -- 59
          refine WL.p (.mv rfl) rfl <| ?_
          refine WL.p (.buildL (ps := _) blt143 rfl rfl rfl (by simp only [put1, List.map, List.zip, List.zipWith, List.set] <;> rfl)) rfl ?_
          refine WL.stL rfl rfl hk36 isz143 rfl rfl (fun w43 hkw43 huw43 hsw43 => ?_)
          have hB44 := Upd.below hB37 (by omega) huw43
          refine WL.p (.as rfl) rfl <| WL.p (.as rfl) rfl <| WL.nil <| ?_
          refine W.ret (W.retc3 rfl rfl (ldRow hkw43 Tryz.underlying143 rfl isz143) rfl rfl ?_)
          exact ⟨by rw [hR3, show fitsB _ = true from ‹_›]; rfl, hB44⟩
      · have h38' := h38
        refine W.skip ?_
        refine W.seq ?_
        refine W.seq ?_
        refine W.reg ?_ -- 57
        refine WL.p (.mv rfl) rfl <| WL.p (.not rfl) rfl <| WL.nil <| ?_
        refine W.condT rfl (by rw [h38] <;> rfl) ?_
        refine W.seq ?_
        refine W.reg ?_ -- 58
        refine WL.p (.buildL (ps := _) blt143 rfl rfl rfl (by simp only [put1, List.map, List.zip, List.zipWith] <;> rfl)) rfl ?_
        refine WL.stL rfl rfl hk36 isz143 rfl rfl (fun w45 hkw45 huw45 hsw45 => ?_)
        have hB46 := Upd.below hB37 (by omega) huw45
        refine WL.p (.as rfl) rfl <| WL.p (.as rfl) rfl <| WL.nil <| ?_
        refine W.ret (W.retc3 rfl rfl (ldRow hkw45 Tryz.underlying143 rfl isz143) rfl rfl ?_)
        refine ⟨?_, hB46⟩
        rw [hFin, finL_raw hm1]
        rw [Option.isSome_eq_false_iff, Option.isNone_iff_eq_none] at *
        simp_all; rfl

end Go.Proofs.YtjghbcjnplcleaaGreatDoor
