/-
  dec.double: the digits behind a point, twice.
-/
import Derived.Test.YtjghbcjnplcleaaGreatDoorDecP
import Derived.Test.YtjghbcjnplcleaaGreatDoorLibs
namespace Go.Proofs.YtjghbcjnplcleaaGreatDoor
open Go.RowKit

def dbl : List Nat → List Nat × Nat
  | [] => ([], 0)
  | x :: r => ((2 * x + (dbl r).2) % 10 :: (dbl r).1, (2 * x + (dbl r).2) / 10)

theorem dbl_len (l : List Nat) : (dbl l).1.length = l.length := by
  induction l with
  | nil => rfl
  | cons x r ih => simp [dbl, ih]
theorem dbl_carry (l : List Nat) (h : ∀ x ∈ l, x < 10) : (dbl l).2 ≤ 1 := by
  induction l with
  | nil => simp [dbl]
  | cons x r ih =>
    have h1 := h x (by simp)
    have h2 := ih (fun y hy => h y (by simp [hy]))
    simp [dbl]; omega
theorem dbl_digits (l : List Nat) : ∀ x ∈ (dbl l).1, x < 10 := by
  induction l with
  | nil => simp [dbl]
  | cons x r ih =>
    intro y hy
    simp [dbl] at hy
    rcases hy with rfl | hy
    · omega
    · exact ih y hy

def u8s (l : List Nat) : List Value := l.map fun (x : Nat) => Value.int .u8 (x : Int)
theorem u8s_len (l : List Nat) : (u8s l).length = l.length := by simp [u8s]

theorem dbl_step (ds : List Nat) (j : Nat) (hj : j < ds.length) :
    dbl (ds.drop j) = ((2 * ds[j] + (dbl (ds.drop (j + 1))).2) % 10 :: (dbl (ds.drop (j + 1))).1, (2 * ds[j] + (dbl (ds.drop (j + 1))).2) / 10) := by
  rw [List.drop_eq_getElem_cons hj]; rfl

set_option maxHeartbeats 400000 in
theorem dec_double (b : Nat) (cap : Nat) (ds : List Nat) (w : World) (hr : BRow w b (u8s ds)) (hd : ∀ x ∈ ds, x < 10) (hl : ds.length ≤ maxLen) (B : Nat) (hB : B ≤ b) :
    Calls Tryz.prog 211 #[.slice (some ⟨b, 0, none⟩) ds.length cap] w fun e w' => e = .returned (.int .i64 (dbl ds).2) ∧ BRow w' b (u8s (dbl ds).1) ∧ Below B w w' := by
  unfold maxLen at hl
  go_enter Tryz.func211, Tryz.ntmps211
  go_wp2_with fail
  go_loopw [3, 4] (fun c i wr => ∃ (k : Nat) (i0 : Int), k ≤ ds.length ∧ i0 = (k : Int) - 1 ∧ i = .int .i64 i0 ∧ c = .int .u8 ((dbl (ds.drop k)).2 : Int) ∧ BRow wr b (u8s (ds.take k ++ (dbl (ds.drop k)).1)) ∧ Below B w wr) (fun _ i _ => (intOf i + 1).toNat)
  case atStart => exact ⟨ds.length, _, Nat.le_refl _, rfl, rfl, by simp [dbl], by simpa [dbl] using hr, Below.refl _ _⟩
  case round =>
    obtain ⟨k, i0, hk, hi0, rfl, rfl, hrow, hbel⟩ := hrel
    cases k with
    | zero =>
      obtain rfl : i0 = -1 := by omega
      clear hi0
      have hc := dbl_carry ds hd
      have e0 : ds.drop 0 = ds := by simp
      rw [e0] at hrow ⊢
      have Hrow := hid hrow; clear hrow
      go_wp2
      go_ret
      exact ⟨rfl, by simpa using Hrow.out, hbel⟩
    | succ j =>
      obtain rfl : i0 = (j : Int) := by omega
      clear hi0
      have hj : j < ds.length := by omega
      have hc := dbl_carry (ds.drop (j + 1)) (fun x hx => hd x (List.mem_of_mem_drop hx))
      have hx := hd ds[j] (by simp)
      have hst := dbl_step ds j hj
      have hsz := hbel.size
      obtain ⟨hcell, hfz⟩ := hrow j (.int .u8 (ds[j] : Int)) (by
        have hl1 : j < (ds.take (j + 1)).length := by simp; omega
        rw [u8s, List.getElem?_map, List.getElem?_append_left hl1, List.getElem?_take, if_pos (by omega), List.getElem?_eq_getElem hj]; rfl)
      have hset := hrow.set j (.int .u8 ((2 * (ds[j] : Int) + ((dbl (ds.drop (j + 1))).2 : Int)) % 10)) (by simp [u8s]; omega)
      have Hset := hid hset; have Hst := hid hst; clear hset hst hrow hr
      generalize hgc : (dbl (ds.drop (j + 1))).2 = c at *
      generalize hgx : ds[j] = x at *
      have Hgc := hid hgc; have Hgx := hid hgx; clear hgc hgx
      go_wp2
      refine ⟨⟨j, _, by omega, rfl, rfl, ?_, ?_, hbel.setCell hB _⟩, by simp [intOf]⟩
      · rw [Hst.out]; go_num
      · have e : (u8s (List.take (j + 1) ds ++ (dbl (List.drop (j + 1) ds)).fst)).set j (Value.int IntKind.u8 ((2 * (x : Int) + (c : Int)) % 10)) = u8s (List.take j ds ++ (dbl (List.drop j ds)).fst) := by
          rw [Hst.out]
          rw [List.take_succ_eq_append_getElem hj]
          have hl1 : (List.map (fun (x : Nat) => Value.int .u8 (x : Int)) (List.take j ds)).length = j := by simp; omega
          simp only [u8s, List.map_append, List.append_assoc]
          rw [List.set_append_right _ _ (by omega), hl1, Nat.sub_self]
          simp
        rw [← e]; exact Hset.out

/-- k rounds: the whole part doubled, what goes over added -/
def rounds : Nat → Int → List Nat → Int × List Nat
  | 0, n, d => (n, d)
  | k + 1, n, d => rounds k (2 * n + (dbl d).2) (dbl d).1

def digitsOf (l : List UInt8) : List Nat := l.map fun c => c.toNat - 48
def natOf (l : List UInt8) : Nat := l.foldl (fun n c => 10 * n + (c.toNat - 48)) 0

/-- a number by its digits ahead of and behind the point, without its sign; none: too great -/
def rawL (whole rest : List UInt8) : Option Int :=
  if 5 < (whole.dropWhile (· == 48)).length then none
  else some ((rounds 16 (natOf (whole.dropWhile (· == 48))) (digitsOf rest)).1 + (dbl (rounds 16 (natOf (whole.dropWhile (· == 48))) (digitsOf rest)).2).2)
def valueL (minus : Bool) (whole rest : List UInt8) : Int × Bool :=
  match rawL whole rest with
  | none => (0, false)
  | some n => let m := if minus then -n else n; (m, fitsB m)

theorem natOf_snoc (l : List UInt8) (c : UInt8) : natOf (l ++ [c]) = 10 * natOf l + (c.toNat - 48) := by simp [natOf]
theorem natOf_from (l : List UInt8) (h : ∀ c ∈ l, isDig c = true) : ∀ n, l.foldl (fun n c => 10 * n + (c.toNat - 48)) n < (n + 1) * 10 ^ l.length := by
  induction l with
  | nil => intro n; simp
  | cons c r ih =>
    intro n
    have h1 := ih (fun x hx => h x (by simp [hx])) (10 * n + (c.toNat - 48))
    have h2 := h c (by simp)
    simp [isDig] at h2
    rw [List.foldl_cons, List.length_cons, Nat.pow_succ]
    have h3 : (10 * n + (c.toNat - 48) + 1) * 10 ^ r.length ≤ (n + 1) * (10 ^ r.length * 10) := by
      rw [Nat.mul_comm (10 ^ r.length) 10, ← Nat.mul_assoc]
      exact Nat.mul_le_mul_right _ (by omega)
    omega
theorem natOf_lt (l : List UInt8) (h : ∀ c ∈ l, isDig c = true) : natOf l < 10 ^ l.length := by
  have := natOf_from l h 0
  rw [Nat.zero_add, Nat.one_mul] at this
  exact this
theorem digitsOf_lt (l : List UInt8) (h : ∀ c ∈ l, isDig c = true) : ∀ x ∈ digitsOf l, x < 10 := by
  intro x hx
  simp [digitsOf] at hx
  obtain ⟨c, hc, rfl⟩ := hx
  have h2 := h c hc
  simp [isDig] at h2
  omega

theorem dec_value_big (minus : Bool) (whole rest : List UInt8) (w : World) (hb : 5 < (whole.dropWhile (· == 48)).length) :
    Calls Tryz.prog 160 #[.bool minus, .string (bs whole), .string (bs rest)] w fun e w' => e = .returned (.tuple #[.int .i64 0, .bool false]) ∧ Below w.heap.size w w' := by
  have hs := bs_size (whole.dropWhile (· == 48))
  have hT := fun w => trimLeft0 whole w
  generalize whole.dropWhile (· == 48) = t at *
  go_enter Tryz.func160, Tryz.ntmps160
  go_wp2_with (go_at_call 210; go_must (refine (hT _).mono ?_); rintro e w1 ⟨rfl, rfl⟩)
  go_ret2
  exact ⟨rfl, Below.refl _ _⟩

theorem byteVals_at (l : List UInt8) (k : Nat) (h : k < l.length) : (byteVals l)[k]? = some (.int .u8 (l[k].toNat : Int)) := by
  unfold byteVals
  rw [List.getElem?_map, List.getElem?_eq_getElem h]; rfl
theorem natOf_take (l : List UInt8) (k : Nat) (h : k < l.length) : natOf (l.take (k + 1)) = 10 * natOf (l.take k) + (l[k].toNat - 48) := by
  rw [List.take_succ_eq_append_getElem h, natOf_snoc]
theorem natOf_take_lt (l : List UInt8) (k : Nat) (hl : l.length ≤ 5) (h : ∀ c ∈ l, isDig c = true) : natOf (l.take k) < 100000 := by
  have h1 := natOf_lt (l.take k) (fun c hc => h c (List.mem_of_mem_take hc))
  have h2 : 10 ^ (l.take k).length ≤ 10 ^ 5 := Nat.pow_le_pow_right (by decide) (by simp; omega)
  omega
theorem isDig_bounds {c : UInt8} (h : isDig c = true) : 48 ≤ c.toNat ∧ c.toNat ≤ 57 := by
  simpa [isDig] using h

theorem dec_double' (b : Nat) (cap n : Nat) (ds : List Nat) (w : World) (hn : ds.length = n) (hr : BRow w b (u8s ds)) (hd : ∀ x ∈ ds, x < 10) (hl : n ≤ 3000) (B : Nat) (hB : B ≤ b) :
    Calls Tryz.prog 211 #[.slice (some ⟨b, 0, none⟩) n cap] w fun e w' => e = .returned (.int .i64 (dbl ds).2) ∧ BRow w' b (u8s (dbl ds).1) ∧ Below B w w' := by
  subst hn
  exact dec_double b cap ds w hr hd (by unfold maxLen; omega) B hB
theorem u8s_append (a b : List Nat) : u8s (a ++ b) = u8s a ++ u8s b := by simp [u8s]
theorem digitsOf_len (l : List UInt8) : (digitsOf l).length = l.length := by simp [digitsOf]
theorem mix_at (l : List UInt8) (k : Nat) (h : k < l.length) : (u8s ((digitsOf l).take k) ++ byteVals (l.drop k))[k]? = some (.int .u8 (l[k].toNat : Int)) := by
  have e : (u8s ((digitsOf l).take k)).length = k := by rw [u8s_len, List.length_take, digitsOf_len]; omega
  rw [List.getElem?_append_right (by omega), e, Nat.sub_self, List.drop_eq_getElem_cons h]; rfl
theorem mix_set (l : List UInt8) (k : Nat) (h : k < l.length) (h1 : 48 ≤ l[k].toNat) : (u8s ((digitsOf l).take k) ++ byteVals (l.drop k)).set k (.int .u8 ((l[k].toNat : Int) - 48)) = u8s ((digitsOf l).take (k + 1)) ++ byteVals (l.drop (k + 1)) := by
  have e : (u8s ((digitsOf l).take k)).length = k := by rw [u8s_len, List.length_take, digitsOf_len]; omega
  rw [List.set_append_right _ _ (by omega), e, Nat.sub_self, List.drop_eq_getElem_cons h, List.take_succ_eq_append_getElem (by rw [digitsOf_len]; exact h), u8s_append, List.append_assoc]
  congr 1
  have e2 : (digitsOf l)[k]'(by rw [digitsOf_len]; exact h) = l[k].toNat - 48 := by simp [digitsOf]
  have e3 : ((l[k].toNat - 48 : Nat) : Int) = (l[k].toNat : Int) - 48 := by omega
  rw [e2]
  simp only [u8s, List.map_cons, List.map_nil, e3]
  rfl
theorem ret_ib {a b : Int} {c d : Bool} (h : a = b) (h' : c = d) : Ending.returned (.tuple #[.int .i64 a, .bool c]) = Ending.returned (.tuple #[.int .i64 b, .bool d]) := by rw [h, h']

set_option maxRecDepth 100000 in
set_option maxHeartbeats 2000000 in
theorem dec_value_fit (minus : Bool) (whole rest : List UInt8) (w : World) (h1 : (whole.dropWhile (· == 48)).length ≤ 5) (h2 : rest.length ≤ 3000) (h3 : ∀ c ∈ whole, isDig c = true) (h4 : ∀ c ∈ rest, isDig c = true) :
    Calls Tryz.prog 160 #[.bool minus, .string (bs whole), .string (bs rest)] w fun e w' => e = .returned (.tuple #[.int .i64 (valueL minus whole rest).1, .bool (valueL minus whole rest).2]) ∧ Below w.heap.size w w' := by
  have hT := fun w => trimLeft0 whole w
  have hv : valueL minus whole rest = (let m := if minus then -((rounds 16 (natOf (whole.dropWhile (· == 48))) (digitsOf rest)).1 + (dbl (rounds 16 (natOf (whole.dropWhile (· == 48))) (digitsOf rest)).2).2) else ((rounds 16 (natOf (whole.dropWhile (· == 48))) (digitsOf rest)).1 + (dbl (rounds 16 (natOf (whole.dropWhile (· == 48))) (digitsOf rest)).2).2); (m, fitsB m)) := by
    unfold valueL rawL
    rw [if_neg (by omega)]
  have ht : ∀ c ∈ whole.dropWhile (· == 48), isDig c = true := fun c hc => h3 c (List.dropWhile_sublist _ |>.subset hc)
  clear h3
  generalize whole.dropWhile (· == 48) = t at *
  have hs := bs_size t
  have hs2 := bs_size rest
  have Hv := hid hv; have Ht := hid ht; have H4 := hid h4; clear hv ht h4
  go_enter Tryz.func160, Tryz.ntmps160
  go_wp2_with first | (go_at_call 210; go_must (refine (hT _).mono ?_); rintro e w1 ⟨rfl, rfl⟩) | (refine wpList_conv_bytes rfl _ _ _ _ rfl Tryz.underlying9 Tryz.underlying22 Tryz.underlying5 _ rfl ?_; intro cap w1 hcap hrow hg hsz)
  have hb1 := below_of_grown hg
  have Hrow := hid hrow; clear hrow hg hT
  go_loop [8, 10, 21] (fun n _ i => ∃ k : Nat, k ≤ t.length ∧ i = .int .i64 k ∧ n = .int .i64 (natOf (t.take k) : Int)) (fun _ _ i => t.length - (intOf i).toNat)
  case atStart => exact ⟨0, Nat.zero_le _, rfl, rfl⟩
  case round =>
    obtain ⟨k, hk, rfl, rfl⟩ := hrel
    have hlt := natOf_take_lt t k h1 Ht.out
    by_cases hkl : k < t.length
    · have hstep := natOf_take t k hkl
      have hd := isDig_bounds (Ht.out t[k] (by simp))
      have hc := (Hrow.out k _ (byteVals_at t k hkl)).1
      have Hstep := hid hstep; clear hstep
      generalize natOf (t.take k) = N at *
      generalize t[k].toNat = c at *
      go_wp2
      go_round
      case rel => exact ⟨k + 1, by omega, by go_num, by rw [Hstep.out]; go_num⟩
      case measure => simp [intOf]; omega
    · obtain rfl : k = t.length := by omega
      rw [List.take_length] at hlt
      rw [List.take_length]
      clear Hrow
      go_wp2_with (refine wpList_conv_bytes rfl _ _ _ _ rfl Tryz.underlying9 Tryz.underlying22 Tryz.underlying5 _ rfl ?_; intro cap2 w2 hcap2 hrow hg hsz2)
      have hb2 := btr hb1 (below_of_grown hg)
      rw [hsz] at hrow
      have hB : w.heap.size ≤ w.heap.size + 1 := by omega
      clear hcap hg hb1
      go_loopw [12, 36] (fun _ i wr => ∃ k : Nat, k ≤ rest.length ∧ i = .int .i64 k ∧ BRow wr (w.heap.size + 1) (u8s ((digitsOf rest).take k) ++ byteVals (rest.drop k)) ∧ Below w.heap.size w wr) (fun _ i _ => rest.length - (intOf i).toNat)
      case atStart => exact ⟨0, Nat.zero_le _, rfl, by simpa [u8s] using (show BRow w2 (w.heap.size + 1) (byteVals rest) from hrow), hb2⟩
      case round =>
        obtain ⟨k, hk, rfl, hrow2, hbel⟩ := hrel
        clear hrow hb2 hsz hsz2 hcap2
        by_cases hkl : k < rest.length
        · have hd := isDig_bounds (H4.out rest[k] (by simp))
          obtain ⟨hc, hfz⟩ := hrow2 k _ (mix_at rest k hkl)
          have hset := hrow2.set k (.int .u8 ((rest[k].toNat : Int) - 48)) (by
            have := (List.getElem?_eq_some_iff.1 (mix_at rest k hkl)).1; exact this)
          rw [mix_set rest k hkl hd.1] at hset
          have Hset := hid hset; clear hset hrow2
          generalize rest[k].toNat = c at *
          go_wp2
          go_roundw
          case rel => exact ⟨k + 1, by omega, by go_num, Hset.out, hbel.setCell hB _⟩
          case measure => simp [intOf]; omega
        · obtain rfl : k = rest.length := by omega
          have hrow3 : BRow wr (w.heap.size + 1) (u8s (digitsOf rest)) := by
            have e1 : (digitsOf rest).take rest.length = digitsOf rest := List.take_of_length_le (by rw [digitsOf_len]; omega)
            have e2 : rest.drop rest.length = [] := by simp
            rw [e1, e2] at hrow2
            simpa [byteVals] using hrow2
          have Hrow3 := hid hrow3; clear hrow2 hrow3
          have hdl := digitsOf_len rest
          have hdd := digitsOf_lt rest H4.out
          have Hdl := hid hdl; have Hdd := hid hdd; clear hdl hdd
          generalize digitsOf rest = d0 at *
          generalize natOf t = n0 at *
          obtain ⟨wo, rfl⟩ : ∃ wo : World, wo = wr := ⟨_, rfl⟩
          go_wp2
          go_loopw [8, 46] (fun n i wr => ∃ (k : Nat) (N : Int) (d : List Nat), k ≤ 16 ∧ i = .int .i64 k ∧ n = .int .i64 N ∧ 0 ≤ N ∧ N + 1 ≤ 100000 * 2 ^ k ∧ d.length = rest.length ∧ (∀ x ∈ d, x < 10) ∧ BRow wr (w.heap.size + 1) (u8s d) ∧ Below w.heap.size w wr ∧ rounds (16 - k) N d = rounds 16 n0 d0) (fun _ i _ => 16 - (intOf i).toNat)
          case atStart => exact ⟨0, n0, d0, by omega, rfl, rfl, by omega, by simp; omega, Hdl.out, Hdd.out, Hrow3.out, hbel, rfl⟩
          case round =>
            obtain ⟨k, N, d, hk, rfl, rfl, hN0, hN1, hdl, hdd, hrow, hbel2, hrr⟩ := hrel
            have hpow : (2 : Int) ^ k ≤ 65536 := by
              have h := Nat.pow_le_pow_right (show 0 < 2 by decide) hk
              have h2 : ((2 ^ k : Nat) : Int) ≤ ((2 ^ 16 : Nat) : Int) := by exact_mod_cast h
              simpa using h2
            have hN2 : N < 6553600000 := by omega
            have hcy := dbl_carry d hdd
            have hsz3 := hbel2.size
            have Hrr := hid hrr; have Hdl2 := hid hdl; have Hdd2 := hid hdd; have HN1 := hid hN1
            have Hrow := hid hrow
            clear hrr hdl hdd hN1 hrow hbel hpow
            by_cases hk16 : k < 16
            · go_wp2_with (go_at_call 211; go_must (refine (dec_double' _ _ _ d _ Hdl2.out Hrow.out Hdd2.out h2 w.heap.size hB).mono ?_); rintro e w4 ⟨rfl, hrow4, hb4⟩)
              go_roundw
              case rel =>
                refine ⟨k + 1, 2 * N + (dbl d).2, (dbl d).1, by omega, by go_num, by go_num, by omega, ?_, by rw [dbl_len]; exact Hdl2.out, dbl_digits d, hrow4, hbel2.trans hb4, ?_⟩
                · have := HN1.out
                  rw [Int.pow_succ]; omega
                · rw [← Hrr.out, show 16 - k = (16 - (k + 1)) + 1 from by omega]; rfl
              case measure => simp [intOf]; omega
            · obtain rfl : k = 16 := by omega
              have hrd : (rounds 16 n0 d0) = (N, d) := by rw [← Hrr.out]; rfl
              have Hrd := hid hrd; clear hrd
              cases minus with
              | true =>
                go_wp2_with first | (go_at_call 211; go_must (refine (dec_double' _ _ _ d _ Hdl2.out Hrow.out Hdd2.out h2 w.heap.size hB).mono ?_); rintro e w4 ⟨rfl, hrow4, hb4⟩) | (go_at_call 195; go_must (refine (fix_Fits _ _).mono ?_); rintro e w5 ⟨rfl, rfl⟩)
                go_ret2
                refine ⟨?_, hbel2.trans hb4⟩
                rw [Hv.out, Hrd.out]; rfl
              | false =>
                go_wp2_with first | (go_at_call 211; go_must (refine (dec_double' _ _ _ d _ Hdl2.out Hrow.out Hdd2.out h2 w.heap.size hB).mono ?_); rintro e w4 ⟨rfl, hrow4, hb4⟩) | (go_at_call 195; go_must (refine (fix_Fits _ _).mono ?_); rintro e w5 ⟨rfl, rfl⟩)
                go_ret2
                refine ⟨?_, hbel2.trans hb4⟩
                rw [Hv.out, Hrd.out]; rfl

end Go.Proofs.YtjghbcjnplcleaaGreatDoor
