/-
  Tokens: dec.radix.
-/
import Derived.Test.YtjghbcjnplcleaaGreatDoorTokA
namespace Go.Proofs.YtjghbcjnplcleaaGreatDoor
open Go.RowKit

/-- what a call that only makes memory leaves alone, cell by cell -/
theorem bcell {W w1 : World} (hb : Below W.heap.size W w1) : (∀ b o, b < W.heap.size → w1.cell? ⟨b, o, none⟩ = W.cell? ⟨b, o, none⟩) ∧ (∀ b o, b < W.heap.size → w1.frozen? ⟨b, o, none⟩ = W.frozen? ⟨b, o, none⟩) :=
  ⟨fun b o h => hb.cell (p := ⟨b, o, none⟩) h, fun b o h => hb.frozen (p := ⟨b, o, none⟩) h⟩

theorem balloc {w w1 : World} {o : Obj} (hb : Below (w.alloc o).heap.size (w.alloc o) w1) : Below w.heap.size w w1 :=
  ((Below.refl _ _).alloc (Nat.le_refl _) o).trans (hb.mono (by simp))
theorem bset3 {w w1 : World} (hb : Below w.heap.size w w1) (a b c : Value) : Below w.heap.size w (((w1.setCell ⟨w.heap.size, 0, none⟩ a).setCell ⟨w.heap.size, 1, none⟩ b).setCell ⟨w.heap.size, 2, none⟩ c) :=
  ((hb.setCell (p := ⟨w.heap.size, 0, none⟩) (Nat.le_refl _) _).setCell (p := ⟨w.heap.size, 1, none⟩) (Nat.le_refl _) _).setCell (p := ⟨w.heap.size, 2, none⟩) (Nat.le_refl _) _

/-- what is ahead of a byte, what is behind it, is it there -/
def cutC (x : UInt8) : List UInt8 → List UInt8 × List UInt8 × Bool
  | [] => ([], [], false)
  | c :: r => if c = x then ([], r, true) else (c :: (cutC x r).1, (cutC x r).2)
theorem cutC_yes (x : UInt8) (B : List UInt8) : ∀ A : List UInt8, x ∉ A → cutC x (A ++ x :: B) = (A, B, true)
  | [], _ => by simp [cutC]
  | c :: A, h => by
    simp only [List.mem_cons, not_or] at h
    have ih := cutC_yes x B A h.2
    simp [cutC, ih, Ne.symm h.1]
theorem cutC_no (x : UInt8) : ∀ l : List UInt8, x ∉ l → cutC x l = (l, [], false)
  | [], _ => rfl
  | c :: l, h => by
    simp only [List.mem_cons, not_or] at h
    have ih := cutC_no x l h.2
    simp [cutC, ih, Ne.symm h.1]
theorem cutC_len (x : UInt8) (l : List UInt8) : (cutC x l).1.length + (cutC x l).2.1.length ≤ l.length := by
  induction l with
  | nil => simp [cutC]
  | cons c r ih => unfold cutC; split <;> simp; omega
theorem lib_cut (x : UInt8) (l : List UInt8) (w : World) (hl : l.length ≤ 1000000) :
    Calls Tryz.prog 208 #[.string (bs l), .string ⟨#[x]⟩] w fun e w' => e = .returned (.tuple #[.string (bs (cutC x l).1), .string (bs (cutC x l).2.1), .bool (cutC x l).2.2]) ∧ Below w.heap.size w w' := by
  by_cases h : x ∈ l
  · obtain ⟨A, B, rfl, hA⟩ := split_at x l h
    rw [cutC_yes x B A hA]; exact cut1_yes A B x w hl hA
  · rw [cutC_no x l h]; exact cut1_no l x w h

/-- a token that is a number: its kind, its number, is it one, the error -/
structure TokR where
  kind : Int
  n : Int
  ok : Bool
  e : Int
def TokR.val (t : TokR) : Value := .tuple #[.agg #[.int .i64 t.kind, .int .i64 t.n, .string ⟨#[]⟩], .bool t.ok, .int .i64 t.e]
def tokNone : TokR := ⟨0, 0, false, 0⟩
def tokGreat : TokR := ⟨0, 0, true, 9⟩
def tokInt (n : Int) : TokR := ⟨1, n, true, 0⟩
def tokReal (n : Int) : TokR := ⟨2, n, true, 0⟩

def radixLoop (base : Nat) : List UInt8 → Nat → Bool → Option (Nat × Bool)
  | [], n, over => some (n, over)
  | c :: r, n, over => if base ≤ hexN c then none else if 4294967296 ≤ n * base + hexN c then radixLoop base r 0 true else radixLoop base r (n * base + hexN c) over
def radixRes : Option (Nat × Bool) → TokR
  | none => tokNone
  | some (n, over) => if over then tokGreat else tokInt (if 2147483648 ≤ n then (n : Int) - 4294967296 else n)
def radixOk (l : List UInt8) : Bool := (cutC 35 l).2.2 && !(cutC 35 l).1.isEmpty && decide ((cutC 35 l).1.length ≤ 2) && (cutC 35 l).1.all isDig && !(cutC 35 l).2.1.isEmpty
set_option maxRecDepth 100000 in
set_option maxHeartbeats 2000000 in
theorem dec_radix_not (l : List UInt8) (w : World) (hl : l.length ≤ 1000) (hno : radixOk l = false) :
    Calls Tryz.prog 161 #[.string (bs l)] w fun e w' => e = .returned tokNone.val ∧ Below w.heap.size w w' := by
  have hC := fun w => lib_cut 35 l w (by omega)
  have hcl := cutC_len 35 l
  unfold radixOk at hno
  generalize cutC 35 l = p at *
  obtain ⟨A, B, f⟩ := p
  simp only at hno hC hcl
  have sA := bs_size A
  cases f with
  | false =>
    clear hno
    go_enter Tryz.func161, Tryz.ntmps161
    go_wp2_with (go_at_call 208; go_must (refine (hC _).mono ?_); rintro e w1 ⟨rfl, hb1⟩; obtain ⟨hc1, hf1⟩ := bcell hb1; have hz1 := hb1.size; simp at hz1; replace hz1 := Nat.lt_of_succ_le hz1)
    exact bodyPost_ret (v := tokNone.val) (by simp [results, Tryz.results161, go_sem, hc1, TokR.val, tokNone]) rfl ⟨rfl, bset3 (balloc hb1) _ _ _⟩
  | true =>
    simp only [Bool.true_and] at hno
    have sB := bs_size B
    have hT := bs_toList
    by_cases hA0 : A.isEmpty = true
    · obtain rfl : A = [] := by simpa using hA0
      clear hno hA0
      go_enter Tryz.func161, Tryz.ntmps161
      go_wp2_with (go_at_call 208; go_must (refine (hC _).mono ?_); rintro e w1 ⟨rfl, hb1⟩; obtain ⟨hc1, hf1⟩ := bcell hb1; have hz1 := hb1.size; simp at hz1; replace hz1 := Nat.lt_of_succ_le hz1)
      exact bodyPost_ret (v := tokNone.val) (by simp [results, Tryz.results161, go_sem, hc1, TokR.val, tokNone]) rfl ⟨rfl, bset3 (balloc hb1) _ _ _⟩
    · have hA1 : A.isEmpty = false := by simpa using hA0
      have hAe : (bs A).toList.isEmpty = false := by rw [bs_toList]; exact hA1
      rw [hA1] at hno
      by_cases hA2 : 2 < A.length
      · clear hno hA0 hA1 hT
        go_enter Tryz.func161, Tryz.ntmps161
        go_wp2_with (go_at_call 208; go_must (refine (hC _).mono ?_); rintro e w1 ⟨rfl, hb1⟩; obtain ⟨hc1, hf1⟩ := bcell hb1; have hz1 := hb1.size; simp at hz1; replace hz1 := Nat.lt_of_succ_le hz1)
        exact bodyPost_ret (v := tokNone.val) (by simp [results, Tryz.results161, go_sem, hc1, TokR.val, tokNone]) rfl ⟨rfl, bset3 (balloc hb1) _ _ _⟩
      · have hPl := fun w => dec_plain A w (by omega)
        cases hall : A.all isDig with
        | false =>
          rw [hall] at hPl
          clear hno hA0 hA1 hall hT
          go_enter Tryz.func161, Tryz.ntmps161
          go_wp2_with first | (go_at_call 208; go_must (refine (hC _).mono ?_); rintro e w1 ⟨rfl, hb1⟩; obtain ⟨hc1, hf1⟩ := bcell hb1; have hz1 := hb1.size; simp at hz1; replace hz1 := Nat.lt_of_succ_le hz1) | (go_at_call 209; go_must (refine (hPl _).mono ?_); rintro e w2 ⟨rfl, hb2⟩; obtain ⟨hc2, hf2⟩ := bcell hb2; have hz2 := hb2.size)
          exact bodyPost_ret (v := tokNone.val) (by simp [results, Tryz.results161, go_sem, hc1, hc2, hz1, TokR.val, tokNone]) rfl ⟨rfl, bset3 (btr (balloc hb1) hb2) _ _ _⟩
        | true =>
          rw [hall] at hPl hno
          have hle : decide (A.length ≤ 2) = true := by simp; omega
          rw [hle] at hno
          obtain rfl : B = [] := by simpa using hno
          have hBe : (bs []).toList.isEmpty = true := by rw [bs_toList]; rfl
          clear hno hA0 hA1 hall hle hT
          go_enter Tryz.func161, Tryz.ntmps161
          go_wp2_with first | (go_at_call 208; go_must (refine (hC _).mono ?_); rintro e w1 ⟨rfl, hb1⟩; obtain ⟨hc1, hf1⟩ := bcell hb1; have hz1 := hb1.size; simp at hz1; replace hz1 := Nat.lt_of_succ_le hz1) | (go_at_call 209; go_must (refine (hPl _).mono ?_); rintro e w2 ⟨rfl, hb2⟩; obtain ⟨hc2, hf2⟩ := bcell hb2; have hz2 := hb2.size)
          exact bodyPost_ret (v := tokNone.val) (by simp [results, Tryz.results161, go_sem, hc1, hc2, hz1, TokR.val, tokNone]) rfl ⟨rfl, bset3 (btr (balloc hb1) hb2) _ _ _⟩

theorem tokCells {w w' : World} {a b c : Value} {t : TypeId} (hb : Below (w.alloc (.cells #[a, b, c] t)).heap.size (w.alloc (.cells #[a, b, c] t)) w') :
    w'.cell? ⟨w.heap.size, 0, none⟩ = some a ∧ w'.cell? ⟨w.heap.size, 1, none⟩ = some b ∧ w'.cell? ⟨w.heap.size, 2, none⟩ = some c ∧
    w'.frozen? ⟨w.heap.size, 0, none⟩ = false ∧ w'.frozen? ⟨w.heap.size, 1, none⟩ = false ∧ w'.frozen? ⟨w.heap.size, 2, none⟩ = false := by
  have hlt : w.heap.size < (w.alloc (.cells #[a, b, c] t)).heap.size := by simp
  rw [hb.cell (p := ⟨w.heap.size, 0, none⟩) hlt, hb.cell (p := ⟨w.heap.size, 1, none⟩) hlt, hb.cell (p := ⟨w.heap.size, 2, none⟩) hlt, hb.frozen (p := ⟨w.heap.size, 0, none⟩) hlt, hb.frozen (p := ⟨w.heap.size, 1, none⟩) hlt, hb.frozen (p := ⟨w.heap.size, 2, none⟩) hlt]
  refine ⟨?_, ?_, ?_, ?_, ?_, ?_⟩ <;> go_simp

theorem radixLoop_drop (base : Nat) (B : List UInt8) (k n : Nat) (over : Bool) (h : k < B.length) :
    radixLoop base (B.drop k) n over = if base ≤ hexN B[k] then none else if 4294967296 ≤ n * base + hexN B[k] then radixLoop base (B.drop (k + 1)) 0 true else radixLoop base (B.drop (k + 1)) (n * base + hexN B[k]) over := by
  rw [List.drop_eq_getElem_cons h]; rfl

def radixV (A B : List UInt8) : TokR := if natOf A < 2 ∨ 36 < natOf A then tokNone else radixRes (radixLoop (natOf A) B 0 false)

set_option maxRecDepth 100000 in
set_option maxHeartbeats 4000000 in
theorem dec_radix_yes (l A B : List UInt8) (w : World) (hl : l.length ≤ 1000) (hcut : cutC 35 l = (A, B, true)) (hA0 : A ≠ []) (hA2 : A.length ≤ 2) (hall : A.all isDig = true) (hB0 : B ≠ []) :
    Calls Tryz.prog 161 #[.string (bs l)] w fun e w' => e = .returned (radixV A B).val ∧ Below w.heap.size w w' := by
  have hC := fun w => lib_cut 35 l w (by omega)
  have hcl := cutC_len 35 l
  rw [hcut] at hC hcl
  simp only at hC hcl
  clear hcut
  have sA := bs_size A
  have sB := bs_size B
  have hAe : (bs A).toList.isEmpty = false := by rw [bs_toList]; cases A <;> simp at *
  have hBe : (bs B).toList.isEmpty = false := by rw [bs_toList]; cases B <;> simp at *
  have hPl := fun w => dec_plain A w (by omega)
  rw [hall] at hPl
  have hdig : ∀ c ∈ A, isDig c = true := List.all_eq_true.1 hall
  have hnat : ∀ k, natOf (A.take k) < 100 := by
    intro k
    have h1 := natOf_take_le A k
    have h2 := natOf_lt A hdig
    have h4 : 10 ^ A.length ≤ 10 ^ 2 := Nat.pow_le_pow_right (by decide) hA2
    omega
  have Hdig := hid hdig; have Hnat := hid hnat
  clear hA0 hB0 hall hdig hnat
  go_enter Tryz.func161, Tryz.ntmps161
  go_wp2_with first | (go_at_call 208; go_must (refine (hC _).mono ?_); rintro e w1 ⟨rfl, hb1⟩; obtain ⟨hc1, hf1⟩ := bcell hb1; have hz1 := hb1.size; simp at hz1; replace hz1 := Nat.lt_of_succ_le hz1) | (go_at_call 209; go_must (refine (hPl _).mono ?_); rintro e w2 ⟨rfl, hb2⟩; obtain ⟨hc2, hf2⟩ := bcell hb2; have hz2 := hb2.size) | (refine wpList_conv_bytes rfl _ _ _ _ rfl Tryz.underlying9 Tryz.underlying22 Tryz.underlying5 _ rfl ?_; intro cap w3 hcap hrow hg hsz)
  have hbw : Below (w.alloc (Obj.cells #[Value.int .i64 0, Value.int .i64 0, Value.string ⟨#[]⟩] 143)).heap.size (w.alloc (Obj.cells #[Value.int .i64 0, Value.int .i64 0, Value.string ⟨#[]⟩] 143)) w3 := btr (btr hb1 hb2) (below_of_grown hg)
  have Hrow := hid hrow
  clear hc1 hf1 hc2 hf2 hb1 hb2 hz2 hrow hg hC hPl hAe hBe hcap hsz hz1
  go_loop [8, 46] (fun n i => ∃ k : Nat, k ≤ A.length ∧ i = .int .i64 k ∧ n = .int .i64 (natOf (A.take k) : Int)) (fun _ i => A.length - (intOf i).toNat)
  case atStart => exact ⟨0, Nat.zero_le _, rfl, rfl⟩
  case round =>
    obtain ⟨k, hk, rfl, rfl⟩ := hrel
    have hle := Hnat.out k
    by_cases hkl : k < A.length
    · have hstep := natOf_take A k hkl
      have hd := isDig_bounds (Hdig.out A[k] (by simp))
      have hc := (Hrow.out k _ (byteVals_at A k hkl)).1
      have Hstep := hid hstep; clear hstep
      generalize natOf (A.take k) = N at *
      generalize A[k].toNat = c at *
      go_wp2
      go_round
      case rel => exact ⟨k + 1, by omega, by go_num, by rw [Hstep.out]; go_num⟩
      case measure => simp [intOf]; omega
    · obtain rfl : k = A.length := by omega
      rw [List.take_length] at hle ⊢
      clear Hrow Hnat hkl
      generalize hgN : natOf A = N at *
      have HgN := hid hgN; clear hgN
      by_cases hbad : N < 2 ∨ 36 < N
      · have Hbad := hid hbad
        obtain ⟨c0, c1, c2, f0, f1, f2⟩ := tokCells hbw
        go_wp2
        all_goals exact bodyPost_ret (v := tokNone.val) (by simp [results, Tryz.results161, go_sem, c0, c1, c2, TokR.val, tokNone]) rfl ⟨by rw [radixV, HgN.out, if_pos Hbad.out], bset3 (balloc hbw) _ _ _⟩
      · have hb2 : 2 ≤ N := by omega
        have hb36 : N ≤ 36 := by omega
        have Hbad := hid hbad; clear hbad
        go_wp2_with (refine wpList_conv_bytes rfl _ _ _ _ rfl Tryz.underlying9 Tryz.underlying22 Tryz.underlying5 _ rfl ?_; intro cap2 w4 hcap2 hrow hg hsz2)
        have hbw4 := hbw.trans ((below_of_grown hg).mono hbw.size)
        obtain ⟨c0, c1, c2, f0, f1, f2⟩ := tokCells hbw4
        have Hrow := hid hrow
        clear hrow hg hcap2 hsz2 hbw
        have hfin : (if N < 2 ∨ 36 < N then tokNone else radixRes (radixLoop N B 0 false)) = radixRes (radixLoop N B 0 false) := if_neg Hbad.out
        have Hfin := hid hfin; clear hfin
        go_loop [11, 12, 67] (fun n o i => ∃ (k : Nat) (n0 : Nat) (ov : Bool), k ≤ B.length ∧ i = .int .i64 k ∧ n = .int .i64 n0 ∧ o = .bool ov ∧ n0 < 4294967296 ∧ radixLoop N (B.drop k) n0 ov = radixLoop N B 0 false) (fun _ _ i => B.length - (intOf i).toNat)
        case atStart => exact ⟨0, 0, false, Nat.zero_le _, rfl, rfl, rfl, by omega, rfl⟩
        case round =>
          obtain ⟨k, n0, ov, hk, rfl, rfl, rfl, hn0, hrr⟩ := hrel
          have Hrr := hid hrr; clear hrr
          by_cases hkl : k < B.length
          · have hstep := radixLoop_drop N B k n0 ov hkl
            have hc := (Hrow.out k _ (byteVals_at B k hkl)).1
            have hx := hexN_le B[k]
            have hD := fun w => dec_digit B[k] w
            generalize hexN B[k] = d at *
            generalize B[k] = c at *
            obtain ⟨P, hP⟩ : ∃ P : Nat, P = n0 * N := ⟨_, rfl⟩
            have hPi : (n0 : Int) * (N : Int) = (P : Int) := by rw [hP, Int.natCast_mul]
            have hP2 : P ≤ 154618822656 := by
              have h := Nat.mul_le_mul (show n0 ≤ 4294967296 by omega) hb36
              rw [← hP] at h; omega
            rw [← hP] at hstep
            have Hstep := hid hstep; clear hstep hP
            by_cases hdN : N ≤ d
            · go_wp2_with (go_at_call 212; go_must (refine (hD _).mono ?_); rintro e w5 ⟨rfl, rfl⟩)
              refine bodyPost_ret (v := tokNone.val) (by simp [results, Tryz.results161, go_sem, c0, c1, c2, TokR.val, tokNone]) rfl ⟨?_, bset3 (balloc hbw4) _ _ _⟩
              rw [radixV, HgN.out, Hfin.out, ← Hrr.out, Hstep.out, if_pos hdN]; rfl
            · by_cases hov : 4294967296 ≤ P + d
              · have hov2 : (4294967296 : Int) ≤ (P : Int) + (d : Int) := by omega
                have Hov := hid hov; clear hov
                go_wp2_with (go_at_call 212; go_must (refine (hD _).mono ?_); rintro e w5 ⟨rfl, rfl⟩)
                go_round
                case rel => exact ⟨k + 1, 0, true, by omega, by go_num, rfl, rfl, by omega, by rw [← Hrr.out, Hstep.out, if_neg hdN, if_pos Hov.out]⟩
                case measure => simp [intOf]; omega
              · have hov2 : decide ((4294967296 : Int) ≤ (P : Int) + (d : Int)) = false := decide_eq_false (by omega)
                have hPd : P + d < 4294967296 := by omega
                have Hov := hid hov; have HPd := hid hPd; clear hov hPd
                go_wp2_with (go_at_call 212; go_must (refine (hD _).mono ?_); rintro e w5 ⟨rfl, rfl⟩)
                go_round
                case rel => exact ⟨k + 1, P + d, ov, by omega, by go_num, by go_num, rfl, HPd.out, by rw [← Hrr.out, Hstep.out, if_neg hdN, if_neg Hov.out]⟩
                case measure => simp [intOf]; omega
          · obtain rfl : k = B.length := by omega
            have hend : radixLoop N B 0 false = some (n0, ov) := by
              rw [← Hrr.out, List.drop_length]; rfl
            have Hend := hid hend; clear hend Hrow hkl
            cases ov with
            | true =>
              go_wp2
              refine bodyPost_ret (v := tokGreat.val) (by simp [results, Tryz.results161, go_sem, c0, c1, c2, TokR.val, tokGreat]) rfl ⟨?_, bset3 (balloc hbw4) _ _ _⟩
              rw [radixV, HgN.out, Hfin.out, Hend.out]; rfl
            | false =>
              by_cases hbig : 2147483648 ≤ n0
              · have hbd : decide ((2147483648 : Int) ≤ (n0 : Int)) = true := decide_eq_true (by omega)
                have Hbig := hid hbig; clear hbig
                go_wp2
                have hbig := Hbig.out
                refine bodyPost_ret (v := (tokInt ((n0 : Int) - 4294967296)).val) (by simp [results, Tryz.results161, go_sem, c0, c1, c2, TokR.val, tokInt]) rfl ⟨?_, bset3 (balloc hbw4) _ _ _⟩
                rw [radixV, HgN.out, Hfin.out, Hend.out]
                rw [radixRes]; simp only [Bool.false_eq_true, if_false, hbig]; rfl
              · have hbd : decide ((2147483648 : Int) ≤ (n0 : Int)) = false := decide_eq_false (by omega)
                have Hbig := hid hbig; clear hbig
                go_wp2
                have hbig := Hbig.out
                refine bodyPost_ret (v := (tokInt (n0 : Int)).val) (by simp [results, Tryz.results161, go_sem, c0, c1, c2, TokR.val, tokInt]) rfl ⟨?_, bset3 (balloc hbw4) _ _ _⟩
                rw [radixV, HgN.out, Hfin.out, Hend.out]
                rw [radixRes]; simp only [Bool.false_eq_true, if_false, hbig]

def radixL (l : List UInt8) : TokR := if radixOk l then radixV (cutC 35 l).1 (cutC 35 l).2.1 else tokNone
theorem dec_radix (l : List UInt8) (w : World) (hl : l.length ≤ 1000) :
    Calls Tryz.prog 161 #[.string (bs l)] w fun e w' => e = .returned (radixL l).val ∧ Below w.heap.size w w' := by
  unfold radixL
  cases hok : radixOk l with
  | false => exact dec_radix_not l w hl hok
  | true =>
    unfold radixOk at hok
    simp only [Bool.and_eq_true, decide_eq_true_eq, Bool.not_eq_true', List.isEmpty_eq_false_iff] at hok
    obtain ⟨⟨⟨⟨h1, h2⟩, h3⟩, h4⟩, h5⟩ := hok
    have hc : cutC 35 l = ((cutC 35 l).1, (cutC 35 l).2.1, true) := by rw [← h1]
    exact dec_radix_yes l _ _ w hl hc h2 h3 h4 h5

end Go.Proofs.YtjghbcjnplcleaaGreatDoor
