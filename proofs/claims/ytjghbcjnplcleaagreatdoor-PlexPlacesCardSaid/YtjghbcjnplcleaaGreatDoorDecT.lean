/-
  The walk of the reference's scaled.
-/
import Derived.Test.YtjghbcjnplcleaaGreatDoorDecS
namespace Go.Proofs.YtjghbcjnplcleaaGreatDoor
open Go.RowKit

theorem infoInt : (Tryz.prog.info? 3).map (fun i => (i.zero, i.size, i.bytes)) = some (some (.int .i64 0), 1, 8) := by kernel_rfl

def i64s (l : List Nat) : List Value := l.map fun (x : Nat) => Value.int .i64 (x : Int)
theorem i64s_len (l : List Nat) : (i64s l).length = l.length := by simp [i64s]
theorem i64s_append (a b : List Nat) : i64s (a ++ b) = i64s a ++ i64s b := by simp [i64s]

/-- an owned row as cells -/
theorem owned_cells {w : World} {B : Nat} {e : TypeId} {v : Value} {n : Nat} {xs : List Value} (h : w.ownsRow B e 1 v n xs) :
    ∃ ao cap, v = .slice ao n cap ∧ (0 < n → ∃ g, ao = some ⟨g, 0, none⟩ ∧ B ≤ g ∧ BRow w g xs) := by
  obtain ⟨hl, h⟩ := h
  rcases h with ⟨rfl, rfl⟩ | ⟨g, cap, cur, rfl, hB, hg, hnc, hcm, hcs, htake⟩
  · exact ⟨none, 0, rfl, fun h => absurd h (by omega)⟩
  · refine ⟨_, cap, rfl, fun _ => ⟨g, rfl, hB, ?_⟩⟩
    intro j u hj
    have hc := Lib.cell_of_heap hg j
    have hf := Lib.frozen_of_heap hg j
    refine ⟨?_, hf⟩
    rw [hc, ← Array.getElem?_toList]
    rw [← htake, List.getElem?_take] at hj
    split at hj
    · exact hj
    · cases hj

set_option maxRecDepth 100000 in
set_option maxHeartbeats 2000000 in
/-- the whole part is too great -/
theorem ref_scaled_big (digits : List UInt8) (p : Int) (w : World) (hp : p ≤ 2000) (hdig : ∀ c ∈ digits, isDig c = true) (hbig : 99999 < natOf (wholeD digits p)) :
    Calls Tryz.prog 174 #[.string (bs digits), .int .i64 p] w fun e w' => e = .returned (.tuple #[.int .i64 0, .bool false]) ∧ w = w' := by
  have hs := bs_size digits
  have hW := wholeD_len digits p
  have hWd : ∀ (k : Nat) (h : k < (wholeD digits p).length), isDig ((wholeD digits p)[k]) = true := by
    intro k h
    rw [wholeD_at]
    split
    · exact hdig _ (List.getElem_mem _)
    · rfl
  have hat := wholeD_at digits p
  have Hat := hid hat; have HWd := hid hWd; clear hat hWd
  generalize wholeD digits p = W at *
  go_enter Tryz.func174, Tryz.ntmps174
  go_wp2
  go_loop [6, 7, 8] (fun n i _ => ∃ k : Nat, k ≤ W.length ∧ i = .int .i64 k ∧ n = .int .i64 (natOf (W.take k) : Int) ∧ natOf (W.take k) ≤ 99999) (fun _ i _ => W.length - (intOf i).toNat)
  case atStart => exact ⟨0, Nat.zero_le _, rfl, rfl, by simp [natOf]⟩
  case round =>
    obtain ⟨k, hk, rfl, rfl, hle⟩ := hrel
    by_cases hkl : k < W.length
    · have hkp : (k : Int) < p := by omega
      have hstep := natOf_take W k hkl
      have hd := isDig_bounds (HWd.out k hkl)
      have hwk := Hat.out k hkl
      by_cases hkd : k < digits.length
      · rw [dif_pos hkd] at hwk
        obtain ⟨c, hc⟩ : ∃ c, c = digits[k] := ⟨_, rfl⟩
        have hget : ∀ h, (bs digits)[k]'h = c := fun _ => hc.symm
        rw [hwk, ← hc] at hstep hd
        clear hc hwk
        have Hstep := hid hstep; clear hstep
        by_cases hnext : 10 * natOf (W.take k) + (c.toNat - 48) ≤ 99999
        all_goals
          generalize natOf (W.take k) = N at *
          go_wp2
          first
            | (go_ret2; exact ⟨rfl, rfl⟩)
            | (go_round
               case rel => exact ⟨k + 1, by omega, by go_num, by rw [Hstep.out]; go_num, by rw [Hstep.out]; exact hnext⟩
               case measure => simp [intOf]; omega)
      · rw [dif_neg hkd] at hwk
        rw [hwk] at hstep hd
        clear hwk
        have e48 : (48 : UInt8).toNat - 48 = 0 := rfl
        rw [e48, Nat.add_zero] at hstep
        have Hstep := hid hstep; clear hstep e48
        by_cases hnext : 10 * natOf (W.take k) ≤ 99999
        all_goals
          generalize natOf (W.take k) = N at *
          go_wp2
          first
            | (go_ret2; exact ⟨rfl, rfl⟩)
            | (go_round
               case rel => exact ⟨k + 1, by omega, by go_num, by rw [Hstep.out]; go_num, by rw [Hstep.out]; exact hnext⟩
               case measure => simp [intOf]; omega)
    · obtain rfl : k = W.length := by omega
      rw [List.take_length] at hle
      omega

theorem restD_snoc (digits : List UInt8) (P k : Nat) (hk : k < digits.length) : (digits.take (k + 1)).drop P = if P ≤ k then (digits.take k).drop P ++ [digits[k]] else (digits.take k).drop P := by
  rw [List.take_succ_eq_append_getElem hk, List.drop_append]
  have e : (digits.take k).length = k := by simp; omega
  rw [e]
  split
  · next h => rw [show P - k = 0 from by omega]; rfl
  · next h =>
    have : ([digits[k]] : List UInt8).drop (P - k) = [] := List.drop_eq_nil_of_le (by simp; omega)
    rw [this, List.append_nil]

set_option maxRecDepth 100000 in
set_option maxHeartbeats 8000000 in
theorem ref_scaled_fit (digits : List UInt8) (p : Int) (w : World) (hl : digits.length ≤ 1000) (hp0 : -2000 ≤ p) (hp : p ≤ 2000) (hdig : ∀ c ∈ digits, isDig c = true) (hfit : natOf (wholeD digits p) ≤ 99999) :
    Calls Tryz.prog 174 #[.string (bs digits), .int .i64 p] w fun e w' => e = .returned (.tuple #[.int .i64 ((natOf (wholeD digits p) : Int) * 65536 + ((rounds 17 0 (digitsOf (restD digits p))).1 + 1) / 2), .bool true]) ∧ Below w.heap.size w w' := by
  obtain ⟨i0, hi, hz0, hz1, hz2⟩ := info_parts infoInt
  have hs := bs_size digits
  have hW := wholeD_len digits p
  have hWd : ∀ (k : Nat) (h : k < (wholeD digits p).length), isDig ((wholeD digits p)[k]) = true := by
    intro k h
    rw [wholeD_at]
    split
    · exact hdig _ (List.getElem_mem _)
    · rfl
  have hat := wholeD_at digits p
  have hmono := fun k => Nat.le_trans (natOf_take_le (wholeD digits p) k) hfit
  have Hat := hid hat; have HWd := hid hWd; have Hmono := hid hmono; have Hdig := hid hdig; clear hat hWd hmono hdig
  have Hi := hid hi; have Hz0 := hid hz0; have Hz1 := hid hz1; have Hz2 := hid hz2; clear hi hz0 hz1 hz2
  have hR : restD digits p = List.replicate (-p).toNat 48 ++ (digits.take digits.length).drop p.toNat := by rw [List.take_length]; rfl
  have HR := hid hR; clear hR
  generalize wholeD digits p = W at *
  go_enter Tryz.func174, Tryz.ntmps174
  go_wp2
  go_loop [6, 7, 8] (fun n i _ => ∃ k : Nat, k ≤ W.length ∧ i = .int .i64 k ∧ n = .int .i64 (natOf (W.take k) : Int)) (fun _ i _ => W.length - (intOf i).toNat)
  case atStart => exact ⟨0, Nat.zero_le _, rfl, rfl⟩
  case round =>
    obtain ⟨k, hk, rfl, rfl⟩ := hrel
    by_cases hkl : k < W.length
    · have hkp : (k : Int) < p := by omega
      have hstep := natOf_take W k hkl
      have hd := isDig_bounds (HWd.out k hkl)
      have hwk := Hat.out k hkl
      have hm1 := Hmono.out k
      have hm2 := Hmono.out (k + 1)
      by_cases hkd : k < digits.length
      · rw [dif_pos hkd] at hwk
        obtain ⟨c, hc⟩ : ∃ c, c = digits[k] := ⟨_, rfl⟩
        have hget : ∀ h, (bs digits)[k]'h = c := fun _ => hc.symm
        rw [hwk, ← hc] at hstep hd
        rw [hstep] at hm2
        clear hc hwk
        have Hstep := hid hstep; clear hstep
        generalize natOf (W.take k) = N at *
        go_wp2
        go_round
        case rel => exact ⟨k + 1, by omega, by go_num, by rw [Hstep.out]; go_num⟩
        case measure => simp [intOf]; omega
      · rw [dif_neg hkd] at hwk
        rw [hwk] at hstep hd
        clear hwk
        have e48 : (48 : UInt8).toNat - 48 = 0 := rfl
        rw [e48, Nat.add_zero] at hstep
        rw [hstep] at hm2
        have Hstep := hid hstep; clear hstep e48
        generalize natOf (W.take k) = N at *
        go_wp2
        go_round
        case rel => exact ⟨k + 1, by omega, by go_num, by rw [Hstep.out]; go_num⟩
        case measure => simp [intOf]; omega
    · obtain rfl : k = W.length := by omega
      rw [List.take_length]
      clear Hat HWd Hmono hkl
      generalize hgw : natOf W = nW at *
      have Hgw := hid hgw; clear hgw
      generalize W.length = lW at *
      go_wp2
      -- zeros
      go_loopw [9, 10] (fun v i wr => ∃ k : Nat, k ≤ (-p).toNat ∧ i = .int .i64 (p + (k : Int)) ∧ wr.ownsRow w.heap.size 3 1 v k (i64s (digitsOf (List.replicate k 48))) ∧ Below w.heap.size w wr) (fun _ i _ => (-(intOf i)).toNat)
      case atStart => exact ⟨0, Nat.zero_le _, by go_num, World.ownsRow_nil _ _ _ _, Below.refl _ _⟩
      case round =>
        obtain ⟨k, hk, rfl, hown, hbel⟩ := hrel
        have hsz := hbel.size
        by_cases hneg : p + (k : Int) < 0
        · go_wp2_with (at_builtin; go_must (refine wpList_append_own _ rfl _ _ 82 rfl w.heap.size 3 i0 (.int .i64 0) 1 8 Tryz.underlying82 Hi.out Hz0.out Hz1.out Hz2.out rfl (by decide) _ _ _ rfl (hown.alloc _) ⟨wr.heap.size, 0, none⟩ 1 1 [.int .i64 0] rfl rfl ?c1 ?c2 ?c3 ?c4 ?c5 ?_))
          case c1 =>
            intro j u hj
            match j, hj with
            | 0, hj => simp at hj; subst hj; simp [Addr.add]
          case c2 => intro u hu; simp at hu; subst hu; rfl
          case c3 => unfold maxLen; omega
          case c4 => omega
          case c5 => simp; omega
          intro v' w2 hown' hgrow _
          have hb2 : Below w.heap.size w w2 := (hbel.alloc hsz _).grown hgrow (by simp; omega) (fun j hj => (hown.lt j hj).1)
          have Hown := hid hown'; clear hown' hgrow
          go_wp2
          go_roundw
          case rel =>
            refine ⟨k + 1, by omega, by go_num, ?_, hb2⟩
            have e : i64s (digitsOf (List.replicate (k + 1) 48)) = i64s (digitsOf (List.replicate k 48)) ++ [.int .i64 0] := by
              rw [List.replicate_succ']; simp [i64s, digitsOf]
            rw [e]; exact Hown.out
          case measure => simp [intOf]; omega
        · have hkz : k = (-p).toNat := by omega
          have Hkz := hid hkz
          clear hkz
          obtain ⟨wo, rfl⟩ : ∃ wo : World, wo = wr := ⟨_, rfl⟩
          go_wp2
          go_loopw [9, 11] (fun v i wr => ∃ j : Nat, j ≤ digits.length ∧ i = .int .i64 j ∧ wr.ownsRow w.heap.size 3 1 v (List.replicate k 48 ++ (digits.take j).drop p.toNat).length (i64s (digitsOf (List.replicate k 48 ++ (digits.take j).drop p.toNat))) ∧ Below w.heap.size w wr) (fun _ i _ => digits.length - (intOf i).toNat)
          case atStart => exact ⟨0, Nat.zero_le _, rfl, by simpa using hown, hbel⟩
          case round =>
            obtain ⟨j, hj, rfl, hown2, hbel2⟩ := hrel
            clear hown hbel hsz
            have hsz := hbel2.size
            have hLl : (List.replicate k (48 : UInt8) ++ (digits.take j).drop p.toNat).length ≤ 3000 := by simp; omega
            by_cases hjl : j < digits.length
            · have hsn := restD_snoc digits p.toNat j hjl
              have hd := isDig_bounds (Hdig.out digits[j] (List.getElem_mem _))
              obtain ⟨c, hc⟩ : ∃ c, c = digits[j] := ⟨_, rfl⟩
              have hget : ∀ h, (bs digits)[j]'h = c := fun _ => hc.symm
              rw [← hc] at hsn hd
              clear hc
              by_cases hjp : p ≤ (j : Int)
              · rw [if_pos (by omega)] at hsn
                have hsn2 : List.replicate k (48 : UInt8) ++ (digits.take (j + 1)).drop p.toNat = (List.replicate k 48 ++ (digits.take j).drop p.toNat) ++ [c] := by rw [hsn, List.append_assoc]
                have Hsn := hid hsn2; clear hsn hsn2
                generalize List.replicate k (48 : UInt8) ++ (digits.take j).drop p.toNat = L at *
                go_wp2_with (at_builtin; go_must (refine wpList_append_own _ rfl _ _ 82 rfl w.heap.size 3 i0 (.int .i64 0) 1 8 Tryz.underlying82 Hi.out Hz0.out Hz1.out Hz2.out rfl (by decide) _ _ _ rfl (hown2.alloc _) ⟨wr.heap.size, 0, none⟩ 1 1 [.int .i64 ((c.toNat : Int) - 48)] rfl rfl ?c1 ?c2 ?c3 ?c4 ?c5 ?_))
                case c1 =>
                  intro j u hj
                  match j, hj with
                  | 0, hj => simp at hj; subst hj; simp [Addr.add]
                case c2 => intro u hu; simp at hu; subst hu; rfl
                case c3 => unfold maxLen; omega
                case c4 => omega
                case c5 => simp; omega
                intro v' w2 hown' hgrow _
                have hb2 : Below w.heap.size w w2 := (hbel2.alloc hsz _).grown hgrow (by simp; omega) (fun j hj => (hown2.lt j hj).1)
                have Hown := hid hown'; clear hown' hgrow hown2
                go_wp2
                go_roundw
                case rel =>
                  refine ⟨j + 1, by omega, by go_num, ?_, hb2⟩
                  rw [Hsn.out]
                  have e : i64s (digitsOf (L ++ [c])) = i64s (digitsOf L) ++ [.int .i64 ((c.toNat : Int) - 48)] := by
                    have e3 : ((c.toNat - 48 : Nat) : Int) = (c.toNat : Int) - 48 := by omega
                    simp [i64s, digitsOf, e3]
                  rw [e, List.length_append]; exact Hown.out
                case measure => simp [intOf]; omega
              · rw [if_neg (by omega)] at hsn
                have Hsn := hid hsn; clear hsn
                generalize hgL : List.replicate k (48 : UInt8) ++ (digits.take j).drop p.toNat = L at *
                have HgL := hid hgL; clear hgL
                have Hown := hid hown2; clear hown2
                go_wp2
                go_roundw
                case rel =>
                  refine ⟨j + 1, by omega, by go_num, ?_, hbel2⟩
                  rw [Hsn.out, HgL.out]; exact Hown.out
                case measure => simp [intOf]; omega
            · obtain rfl : j = digits.length := by omega
              rw [Hkz.out, ← HR.out] at hown2 hLl
              clear HR hjl
              have hRd : ∀ c ∈ restD digits p, isDig c = true := by
                intro c hc
                rw [restD, List.mem_append] at hc
                rcases hc with hc | hc
                · rw [List.mem_replicate] at hc; rw [hc.2]; rfl
                · exact Hdig.out c (List.mem_of_mem_drop hc)
              have hdl := digitsOf_len (restD digits p)
              have hdd := digitsOf_lt (restD digits p) hRd
              obtain ⟨ao, cap, rfl, hcells⟩ := owned_cells hown2
              have Hdl := hid hdl; have Hdd := hid hdd; have Hcells := hid hcells; clear hdl hdd hcells hRd hown2
              generalize hgd : digitsOf (restD digits p) = d0 at *
              have Hgd := hid hgd; clear hgd
              generalize (restD digits p).length = n at *
              obtain ⟨wq, rfl⟩ : ∃ wq : World, wq = wr := ⟨_, rfl⟩
              obtain ⟨g, hgao, hrow0⟩ : ∃ g, (0 < n → ao = some ⟨g, 0, none⟩ ∧ w.heap.size ≤ g) ∧ BRow wq g (i64s d0) := by
                rcases Nat.eq_zero_or_pos n with h0 | h0
                · refine ⟨0, fun h => absurd h (by omega), ?_⟩
                  have : d0 = [] := List.eq_nil_of_length_eq_zero (by rw [Hdl.out]; exact h0)
                  rw [this]; intro j v hj; simp [i64s] at hj
                · obtain ⟨g, h1, h2, h3⟩ := Hcells.out h0
                  exact ⟨g, fun _ => ⟨h1, h2⟩, h3⟩
              have Hgao := hid hgao; have Hrow0 := hid hrow0
              clear Hkz Hdig Hi Hz0 Hz1 Hz2 Hcells hgao hrow0
              have hn3 : n ≤ 3000 := by omega
              clear hLl
              go_wp2
              go_loopw [12, 13] (fun b kk wr => ∃ (k : Nat) (N : Int) (d : List Nat), k ≤ 17 ∧ kk = .int .i64 k ∧ b = .int .i64 N ∧ 0 ≤ N ∧ N + 1 ≤ 2 ^ k ∧ d.length = n ∧ (∀ x ∈ d, x < 10) ∧ BRow wr g (i64s d) ∧ Below w.heap.size w wr ∧ rounds (17 - k) N d = rounds 17 0 d0) (fun _ i _ => 17 - (intOf i).toNat)
              case atStart => exact ⟨0, 0, d0, by omega, rfl, rfl, by omega, by simp, Hdl.out, Hdd.out, Hrow0.out, hbel2, rfl⟩
              case round =>
                obtain ⟨kk, N, d, hkk, rfl, rfl, hN0, hN1, hdl, hdd, hrow, hbel3, hrr⟩ := hrel
                clear hbel2 Hrow0 Hdl Hdd
                have hpow : (2 : Int) ^ kk ≤ 131072 := by
                  have h := Nat.pow_le_pow_right (show 0 < 2 by decide) hkk
                  have h2 : ((2 ^ kk : Nat) : Int) ≤ ((2 ^ 17 : Nat) : Int) := by exact_mod_cast h
                  simpa using h2
                have hN2 : N < 131072 := by omega
                have Hrr := hid hrr; have Hdl := hid hdl; have Hdd := hid hdd; have HN1 := hid hN1; have Hrow := hid hrow
                clear hrr hdl hdd hN1 hpow hrow
                obtain ⟨wp, rfl⟩ : ∃ wp : World, wp = wr := ⟨_, rfl⟩
                by_cases hk17 : kk < 17
                · go_wp2
                  go_loopw [14, 15] (fun c i wr => ∃ (q : Nat) (i0 : Int), q ≤ n ∧ i0 = (q : Int) - 1 ∧ i = .int .i64 i0 ∧ c = .int .i64 ((dbl (d.drop q)).2 : Int) ∧ BRow wr g (i64s (d.take q ++ (dbl (d.drop q)).1)) ∧ Below w.heap.size w wr) (fun _ i _ => (intOf i + 1).toNat)
                  case atStart =>
                    have e1 : d.drop n = [] := List.drop_eq_nil_of_le (by rw [Hdl.out]; omega)
                    have e2 : d.take n = d := List.take_of_length_le (by rw [Hdl.out]; omega)
                    exact ⟨n, _, Nat.le_refl _, rfl, rfl, by rw [e1]; rfl, by rw [e1, e2]; simpa [dbl] using Hrow.out, hbel3⟩
                  case round =>
                    obtain ⟨q, i0, hq, hi0, rfl, rfl, hrow4, hbel4⟩ := hrel
                    clear Hrow hbel3
                    cases q with
                    | zero =>
                      obtain rfl : i0 = -1 := by omega
                      clear hi0
                      have hc := dbl_carry d Hdd.out
                      have e0 : d.drop 0 = d := by simp
                      rw [e0] at hrow4 ⊢
                      have Hrow4 := hid hrow4; clear hrow4 e0
                      go_wp2
                      go_roundw
                      case rel =>
                        refine ⟨kk + 1, 2 * N + (dbl d).2, (dbl d).1, by omega, by go_num, by go_num, by omega, ?_, by rw [dbl_len]; exact Hdl.out, dbl_digits d, by simpa using Hrow4.out, hbel4, ?_⟩
                        · have := HN1.out
                          rw [Int.pow_succ]; omega
                        · rw [← Hrr.out, show 17 - kk = (17 - (kk + 1)) + 1 from by omega]; rfl
                      case measure => simp [intOf]; omega
                    | succ j =>
                      obtain rfl : i0 = (j : Int) := by omega
                      clear hi0
                      have hjn : j < n := by omega
                      obtain ⟨rfl, hB⟩ := Hgao.out (by omega)
                      have hj : j < d.length := by rw [Hdl.out]; exact hjn
                      have hc := dbl_carry (d.drop (j + 1)) (fun x hx => Hdd.out x (List.mem_of_mem_drop hx))
                      have hx := Hdd.out d[j] (by simp)
                      have hst := dbl_step d j hj
                      obtain ⟨hcell, hfz⟩ := hrow4 j (.int .i64 (d[j] : Int)) (by
                        have hl1 : j < (d.take (j + 1)).length := by simp; omega
                        rw [i64s, List.getElem?_map, List.getElem?_append_left hl1, List.getElem?_take, if_pos (by omega), List.getElem?_eq_getElem hj]; rfl)
                      have hset := hrow4.set j (.int .i64 (((d[j] : Int) * 2 + ((dbl (d.drop (j + 1))).2 : Int)) % 10)) (by simp [i64s]; omega)
                      have Hset := hid hset; have Hst := hid hst; clear hset hst hrow4
                      generalize hgc : (dbl (d.drop (j + 1))).2 = c at *
                      generalize hgx : d[j] = x at *
                      have Hgc := hid hgc; have Hgx := hid hgx; clear hgc hgx
                      go_wp2
                      go_roundw
                      case rel =>
                        refine ⟨j, _, by omega, rfl, rfl, ?_, ?_, hbel4.setCell hB _⟩
                        · rw [Hst.out]; go_num
                        · have e : (i64s (d.take (j + 1) ++ (dbl (d.drop (j + 1))).fst)).set j (Value.int IntKind.i64 (((x : Int) * 2 + (c : Int)) % 10)) = i64s (d.take j ++ (dbl (d.drop j)).fst) := by
                            rw [Hst.out]
                            rw [List.take_succ_eq_append_getElem hj]
                            have hl1 : (List.map (fun (x : Nat) => Value.int .i64 (x : Int)) (d.take j)).length = j := by simp; omega
                            have e5 : (((2 * x + c) % 10 : Nat) : Int) = ((x : Int) * 2 + (c : Int)) % 10 := by omega
                            simp only [i64s, List.map_append, List.append_assoc, List.map_cons, e5]
                            rw [List.set_append_right _ _ (by omega), hl1, Nat.sub_self]
                            simp
                          rw [← e]; exact Hset.out
                      case measure => simp [intOf]
                · obtain rfl : kk = 17 := by omega
                  have hrd : (rounds 17 0 d0) = (N, d) := by rw [← Hrr.out]; rfl
                  have Hrd := hid hrd; clear hrd
                  go_wp2
                  go_ret2
                  refine ⟨?_, hbel3⟩
                  rw [Hgw.out, Hgd.out, Hrd.out]; rfl

end Go.Proofs.YtjghbcjnplcleaaGreatDoor
