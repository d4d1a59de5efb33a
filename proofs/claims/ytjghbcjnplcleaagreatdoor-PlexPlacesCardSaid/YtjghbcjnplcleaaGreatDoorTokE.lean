/-
  Tokens: ref.whole.
-/
import Derived.Test.YtjghbcjnplcleaaGreatDoorTokD
namespace Go.Proofs.YtjghbcjnplcleaaGreatDoor
open Go.RowKit

theorem ref_Small (n : Int) (w : World) :
    Calls Tryz.prog 219 #[.int .i64 n] w fun e w' => e = .returned (.bool (fitsB n)) ∧ w = w' := by
  have hF := fun w => ref_Fits n w
  generalize fitsB n = f at *
  go_enter Tryz.func219, Tryz.ntmps219
  go_wp2_with (go_at_call 62; go_must (refine (hF _).mono ?_); rintro e w1 ⟨rfl, rfl⟩)
  go_ret
  exact ⟨rfl, rfl⟩

theorem cutDot_none (r : List UInt8) (h : ∀ c ∈ r, isDig c = true) : cutDot r = (r, [], false) :=
  cutDot_no r fun hm => absurd (h 46 hm) (by decide)
theorem mant_none (r : List UInt8) (h : ∀ c ∈ r, isDig c = true) (hr : r ≠ []) : mantOk r = true := by
  have hl : 0 < r.length := List.length_pos_iff.2 hr
  simp [mantOk, cutDot_none r h, hl]
  exact h

theorem plainR_whole (r : List UInt8) (h : ∀ c ∈ r, isDig c = true) (hr : r ≠ []) : plainR r = (r, r.length, false, true) := by
  rw [(plain_mant r).2 (mant_none r h hr), cutDot_none r h]
  simp
theorem plainR_other (r : List UInt8) (h : (r.isEmpty || !r.all isDig) = true) : (plainR r).2.2.2 = false ∨ (plainR r).2.2.1 = true := by
  obtain ⟨h1, h2⟩ := plain_mant r
  cases hm : mantOk r with
  | false => left; rw [h1, hm]
  | true =>
    right
    rw [h2 hm]
    simp only
    cases hf : (cutDot r).2.2 with
    | true => rfl
    | false =>
      exfalso
      have hA : 46 ∉ r := by
        intro hin
        obtain ⟨A, B, rfl, hA⟩ := split_at 46 r hin
        rw [cutDot_yes B A hA] at hf
        cases hf
      have e := cutDot_no r hA
      obtain ⟨d1, -⟩ := mantOk_digits r hm
      rw [e] at d1
      simp only at d1
      rw [List.all_eq_true.2 d1] at h
      have hr : r = [] := by simpa using h
      subst hr
      exact absurd hm (by decide)

theorem wholeL_some (l : List UInt8) (h : ∀ c ∈ (signedL l).2, isDig c = true) (hr : (signedL l).2 ≠ []) (hn : natOf (signedL l).2 ≤ 4294967296) :
    wholeT l = (if (signedL l).1 then -(natOf (signedL l).2 : Int) else natOf (signedL l).2, fitsB (if (signedL l).1 then -(natOf (signedL l).2 : Int) else natOf (signedL l).2)) := by
  have e1 : (signedL l).2.isEmpty = false := by simpa using hr
  have e2 : (signedL l).2.all isDig = true := List.all_eq_true.2 h
  have e3 : satOf (signedL l).2 = natOf (signedL l).2 := by rw [satOf_eq]; omega
  unfold wholeT
  rw [e1, e2, if_neg (by decide), e3]
  rfl
theorem wholeL_great (l : List UInt8) (hn : 4294967296 < natOf (signedL l).2) : (wholeT l).2 = false := by
  have e3 : 4294967296 < satOf (signedL l).2 := by rw [satOf_eq]; omega
  unfold wholeT
  split
  · rfl
  · simp only
    generalize satOf (signedL l).2 = N at *
    split
    · have : decide (-2147483648 ≤ -(N : Int)) = false := decide_eq_false (by omega)
      rw [this]; rfl
    · have : decide ((N : Int) ≤ 2147483647) = false := decide_eq_false (by omega)
      rw [this, Bool.and_false]

set_option maxRecDepth 100000 in
set_option maxHeartbeats 2000000 in
theorem ref_whole (l : List UInt8) (w : World) (hl : l.length ≤ 1000) :
    Calls Tryz.prog 176 #[.string (bs l)] w fun e w' => (∃ v : Int, e = .returned (.tuple #[.int .i64 v, .bool (wholeT l).2]) ∧ ((wholeT l).2 = true → v = (wholeT l).1)) ∧ Below w.heap.size w w' := by
  have hP := fun w => ref_plain l w (by omega)
  have hlen := signedL_len l
  cases ho : (signedL l).2.isEmpty || !(signedL l).2.all isDig with
  | true =>
    have hW : wholeT l = (0, false) := by unfold wholeT; rw [ho]; rfl
    rw [hW]
    obtain h | h := plainR_other (signedL l).2 ho
    all_goals
      generalize signedL l = sr at *
      generalize plainR sr.2 = q at *
      obtain ⟨m, r⟩ := sr
      obtain ⟨D, a, g, o⟩ := q
      simp only at h hP
      subst h
    · go_enter Tryz.func176, Tryz.ntmps176
      go_wp2_with (go_at_call 173; go_must (refine (hP _).mono ?_); rintro e w1 ⟨rfl, hb1⟩)
      go_ret2
      exact ⟨⟨0, rfl, fun _ => rfl⟩, hb1⟩
    · cases o
      all_goals
        go_enter Tryz.func176, Tryz.ntmps176
        go_wp2_with (go_at_call 173; go_must (refine (hP _).mono ?_); rintro e w1 ⟨rfl, hb1⟩)
        go_ret2
        exact ⟨⟨0, rfl, fun _ => rfl⟩, hb1⟩
  | false =>
    simp only [Bool.or_eq_false_iff, Bool.not_eq_false', List.isEmpty_eq_false_iff] at ho
    have hdig : ∀ c ∈ (signedL l).2, isDig c = true := List.all_eq_true.1 ho.2
    rw [plainR_whole _ hdig ho.1] at hP
    have hWs := wholeL_some l hdig ho.1
    have hWg := wholeL_great l
    clear ho
    generalize wholeT l = WL at *
    generalize signedL l = sr at *
    obtain ⟨m, r⟩ := sr
    simp only at hP hWs hWg hdig hlen
    have hs := bs_size r
    have HWs := hid hWs; have HWg := hid hWg; have Hdig := hid hdig; clear hWs hWg hdig
    go_enter Tryz.func176, Tryz.ntmps176
    go_wp2_with (go_at_call 173; go_must (refine (hP _).mono ?_); rintro e w1 ⟨rfl, hb1⟩)
    go_loop [9, 10] (fun n i => ∃ (k N : Nat), k ≤ r.length ∧ i = .int .i64 k ∧ n = .int .i64 N ∧ N = natOf (r.take k) ∧ Hid (N ≤ 4294967296)) (fun _ i => r.length - (intOf i).toNat)
    case atStart => exact ⟨0, 0, Nat.zero_le _, rfl, rfl, rfl, hid (by decide)⟩
    case round =>
      obtain ⟨k, N, hk, rfl, rfl, hN, hle⟩ := hrel
      by_cases hkl : k < r.length
      · have hstep := natOf_take r k hkl
        have hd := isDig_bounds (Hdig.out r[k] (by simp))
        rw [← hN] at hstep
        obtain ⟨c, hc⟩ : ∃ c, c = r[k] := ⟨_, rfl⟩
        have hget : ∀ h, (bs r)[k]'h = c := fun _ => hc.symm
        rw [← hc] at hstep hd
        have hN2 : 10 * N ≤ 42949672960 := by have := hle.out; omega
        have hmono := natOf_take_le r (k + 1)
        obtain ⟨M, hM⟩ : ∃ M, M = natOf (r.take (k + 1)) := ⟨_, rfl⟩
        rw [← hM] at hstep hmono
        have Hstep := hid hstep; have HM := hid hM; have Hmono := hid hmono; have HN := hid hN
        clear hstep hM hmono hN hc
        by_cases hbig : 4294967296 < M
        · have hd2 : decide ((4294967296 : Int) < (N : Int) * 10 + ((c.toNat : Int) - 48)) = true := decide_eq_true (by have := Hstep.out; omega)
          have hd3 : (4294967296 : Int) < (N : Int) * 10 + ((c.toNat : Int) - 48) := by have := Hstep.out; omega
          have Hbig := hid hbig; clear hbig
          go_wp2
          go_ret2
          have hf := HWg.out (Nat.lt_of_lt_of_le Hbig.out Hmono.out)
          exact ⟨⟨0, by rw [hf]; rfl, fun h => by rw [hf] at h; cases h⟩, hb1⟩
        · have hd2 : decide ((4294967296 : Int) < (N : Int) * 10 + ((c.toNat : Int) - 48)) = false := decide_eq_false (by have := Hstep.out; omega)
          have hd3 : ¬ ((4294967296 : Int) < (N : Int) * 10 + ((c.toNat : Int) - 48)) := by have := Hstep.out; omega
          have Hbig := hid hbig; clear hbig
          go_wp2
          go_round
          case rel => exact ⟨k + 1, M, by omega, by go_num, by rw [Hstep.out]; go_num, HM.out, hid (by have := Hbig.out; omega)⟩
          case measure => simp [intOf]; omega
      · obtain rfl : k = r.length := by omega
        rw [List.take_length] at hN
        have hws := HWs.out (hN ▸ hle.out)
        have HN := hid hN; clear hN
        have hSm := fun n w => ref_Small n w
        have hNb := hle.out
        have Hws := hid hws; clear hws HWs HWg Hdig
        cases m
        · go_wp2_with (go_at_call 219; go_must (refine (hSm _ _).mono ?_); rintro e w2 ⟨rfl, rfl⟩)
          go_ret2
          exact ⟨⟨(N : Int), by rw [Hws.out, ← HN.out]; rfl, fun _ => by rw [Hws.out, ← HN.out]; rfl⟩, hb1⟩
        · go_wp2_with (go_at_call 219; go_must (refine (hSm _ _).mono ?_); rintro e w2 ⟨rfl, rfl⟩)
          go_ret2
          exact ⟨⟨-(N : Int), by rw [Hws.out, ← HN.out]; rfl, fun _ => by rw [Hws.out, ← HN.out]; rfl⟩, hb1⟩

end Go.Proofs.YtjghbcjnplcleaaGreatDoor
