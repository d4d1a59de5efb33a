/-
  strings.IndexAny(s, "eE") at whatever bytes: where the first e or E is.
-/
import Derived.Test.YtjghbcjnplcleaaGreatDoorTokB
namespace Go.Proofs.YtjghbcjnplcleaaGreatDoor
open Go.RowKit

def eE : ByteArray := ⟨#[101, 69]⟩
theorem eE_size : eE.size = 2 := rfl
theorem eE_1 (h : 1 < eE.size) : eE[1]'h = 69 := rfl
theorem eE_tail : eE.extract 2 2 = bs [] := rfl
theorem eE_asc : ∀ i (h : i < eE.size), (eE[i]'h).toNat < 128 := by
  intro i h
  have h2 : i < 2 := h
  obtain rfl | rfl : i = 0 ∨ i = 1 := by omega
  · show (101 : UInt8).toNat < 128; decide
  · show (69 : UInt8).toNat < 128; decide
def isE (c : UInt8) : Bool := c == 101 || c == 69

theorem encode_two (r : Nat) (h : 128 ≤ r) (h2 : r < 2048) : Utf8.encode (r : Int) = ⟨#[UInt8.ofNat (192 + r / 64), UInt8.ofNat (128 + r % 64)]⟩ := by
  have hv : Utf8.valid (r : Int) = true := by simp [Utf8.valid]; omega
  unfold Utf8.encode
  simp only [hv, if_true, Int.toNat_natCast]
  rw [if_neg (by omega), if_pos (by omega)]
theorem encode_more (r : Nat) (h2 : 2048 ≤ r) (h3 : Utf8.valid (r : Int) = true) : 3 ≤ (Utf8.encode (r : Int)).size ∧ (Utf8.encode (r : Int)).size ≤ 4 := by
  unfold Utf8.encode
  simp only [h3, if_true, Int.toNat_natCast]
  rw [if_neg (by omega), if_neg (by omega)]
  split <;> simp [ByteArray.size]

/-- a quiet callee behind a quiet region -/
theorem quiet_add_same {P : Program} {f : FuncId} {args : Array Value} {w : World} {a n : Nat} {v : Value}
    (h : Calls P f args (w.drewN (a + n)) fun e w' => e = .returned v ∧ w' = w.drewN (a + n)) :
    Calls P f args (w.drewN (a + n)) fun e w'' => e = .returned v ∧ ∃ m, w'' = w.drewN (a + m) :=
  h.mono fun _ _ ⟨he, hm⟩ => ⟨he, n, hm⟩
theorem indexByte_nil (c : Int) (w : World) :
    Calls Tryz.prog 60 #[.string ByteArray.empty, .int .u8 c] w fun e w' => e = .returned (.int .i64 (-1)) ∧ w' = w :=
  Tryz.strings_IndexByte ByteArray.empty c w

set_option maxRecDepth 100000 in
set_option maxHeartbeats 4000000 in
theorem indexRune_two (r : Nat) (w : World) (h : 128 ≤ r) (h2 : r < 2048) :
    Calls Tryz.prog 213 #[.string eE, .int .i32 (r : Int)] w fun e w' => e = .returned (.int .i64 (-1)) ∧ Below w.heap.size w w' := by
  have hV := fun w => (Tryz.utf8_ValidRune (r : Int) w)
  have hvr : Lib.validRune (r : Int) = true := by simp [Lib.validRune]; omega
  rw [hvr] at hV
  have henc := encode_two r h h2
  have hs : (Utf8.encode (r : Int)).size = 2 := by rw [henc]; rfl
  obtain ⟨c, hc⟩ : ∃ c : UInt8, c = UInt8.ofNat (128 + r % 64) := ⟨_, rfl⟩
  have hc1 : c.toNat = 128 + r % 64 := by rw [hc, UInt8.toNat_ofNat']; omega
  have hget : ∀ h, (Utf8.encode (r : Int))[1]'h = c := by rw [henc, hc]; intro _; rfl
  have hne : ((69 : Int) != (c.toNat : Int)) = true := by rw [bne_iff_ne]; omega
  have e1 := eE_size
  have e2 := eE_1
  have e3 := eE_tail
  have hne3 : ((r : Int) == 65533) = false := by rw [beq_eq_false_iff_ne]; omega
  have hlt : decide ((r : Int) < 128) = false := decide_eq_false (by omega)
  have hlt2 : ¬ ((r : Int) < 128) := by omega
  have hget1 : (Utf8.encode (r : Int))[1]'(by rw [hs]; omega) = c := hget _
  have Hget := hid hget1
  clear hc hc1 henc hvr hget hget1
  generalize eE = s at *
  go_enter Tryz.func213, Tryz.ntmps213
  go_wp2_with (go_at_call 242; go_must (refine (hV _).mono ?_); rintro e w1 ⟨rfl, rfl⟩)
  go_step3
  go_wp2_with fail
  go_loopw [9] (fun v wr => v = .int .i64 1 ∧ wr = w1) (fun _ _ => 0)
  case atStart => exact ⟨rfl, rfl⟩
  case round =>
    obtain ⟨rfl, rfl⟩ := hrel
    go_wp2
    go_step3
    go_wp2_with fail
    have hget := Hget.out
    go_quiet (fail)
    go_wp2_with fail
    have hwr : IntKind.i64.wrap 2 = 2 := rfl
    go_quiet ((go_at_call 60; exact quiet_add_same (indexByte_nil _ _)))
    go_wp2_with fail
    rw [Exit.noGoto_ret]
    simp (config := {zetaDelta := true}) only [Exit.inBlock, Exit.then, Exit.noGoto]
    go_ret
    exact ⟨rfl, by simpa using bdrewN _ _⟩

set_option maxRecDepth 100000 in
set_option maxHeartbeats 4000000 in
theorem indexRune_more (r : Nat) (w : World) (h2 : 2048 ≤ r) (hv : Utf8.valid (r : Int) = true) (h3 : r ≠ 65533) :
    Calls Tryz.prog 213 #[.string eE, .int .i32 (r : Int)] w fun e w' => e = .returned (.int .i64 (-1)) ∧ Below w.heap.size w w' := by
  have hV := fun w => (Tryz.utf8_ValidRune (r : Int) w)
  have hvr : Lib.validRune (r : Int) = true := by rw [← hv, Bool.eq_iff_iff]; simp [Lib.validRune, Utf8.valid]; omega
  rw [hvr] at hV
  have hrl : r < 1114112 := by simp [Utf8.valid] at hv; omega
  obtain ⟨hm1, hm2⟩ := encode_more r h2 hv
  obtain ⟨z, hz⟩ : ∃ z : Nat, (Utf8.encode (r : Int)).size = z := ⟨_, rfl⟩
  have e1 := eE_size
  have hne3 : ((r : Int) == 65533) = false := by rw [beq_eq_false_iff_ne]; omega
  have hlt : decide ((r : Int) < 128) = false := decide_eq_false (by omega)
  have hlt2 : ¬ ((r : Int) < 128) := by omega
  rw [hz] at hm1 hm2
  clear hvr hv
  generalize eE = s at *
  go_enter Tryz.func213, Tryz.ntmps213
  go_wp2_with (go_at_call 242; go_must (refine (hV _).mono ?_); rintro e w1 ⟨rfl, rfl⟩)
  go_step3
  go_wp2_with fail
  go_loopw [9] (fun v wr => v = .int .i64 ((z : Int) - 1) ∧ wr = w1) (fun _ _ => 0)
  case atStart => exact ⟨rfl, rfl⟩
  case round =>
    obtain ⟨rfl, rfl⟩ := hrel
    have hz2 : decide ((z : Int) - 1 < 2) = false := decide_eq_false (by omega)
    have hz3 : ¬ ((z : Int) - 1 < 2) := by omega
    go_wp2
    go_ret
    exact ⟨rfl, Below.refl _ _⟩

set_option maxRecDepth 100000 in
set_option maxHeartbeats 4000000 in
theorem indexRune_err (w : World) :
    Calls Tryz.prog 213 #[.string eE, .int .i32 65533] w fun e w' => e = .returned (.int .i64 (-1)) ∧ Below w.heap.size w w' := by
  have e1 := eE_size
  have hasc := eE_asc
  have Hasc := hid hasc; clear hasc
  generalize eE = s at *
  go_enter Tryz.func213, Tryz.ntmps213
  go_wp2
  go_loopg [5, 6] 2 (fun g _ _ wx => ∃ i : Nat, i + g = 2 ∧ wx = w.iter s i)
  case atStart => exact ⟨0, by omega, rfl⟩
  case round =>
    obtain ⟨i, hig, rfl⟩ := hrel
    cases gk with
    | zero =>
      obtain rfl : i = 2 := by omega
      have hnx := run_next_end (P := Tryz.prog) w s 2
      go_wp2
      go_ret
      exact ⟨rfl, by simpa [World.iter] using (Below.refl w.heap.size w).alloc (Nat.le_refl _) _⟩
    | succ g =>
      have hi : i < s.size := by omega
      have hx128 := Hasc.out i hi
      have hnx := fun ty => run_next_ascii (P := Tryz.prog) w s i ty hi hx128
      generalize s[i].toNat = c at *
      have hne : ((c : Int) == 65533) = false := by rw [beq_eq_false_iff_ne]; omega
      go_wp2
      go_roundg g
      case measure => omega
      case rel => exact ⟨i + 1, by omega, rfl⟩

theorem decode_skip (s : ByteArray) (pos : Nat) (h : pos < s.size) (ha : 128 ≤ (s[pos]'h).toNat) :
    128 ≤ (Utf8.decode s pos).1 ∧ Utf8.valid ((Utf8.decode s pos).1 : Int) = true ∧ 1 ≤ (Utf8.decode s pos).2 ∧ pos + (Utf8.decode s pos).2 ≤ s.size ∧ ∀ j, pos < j → j < pos + (Utf8.decode s pos).2 → ∀ hj : j < s.size, 128 ≤ (s[j]'hj).toNat := by
  have hn : ¬ (s[pos]'h).toNat < 128 := by omega
  have hb := (s[pos]'h).toNat_lt
  have hg : ∀ k (hk : pos + k < s.size), s.get! (pos + k) = s[pos + k]'hk := fun k hk => get_at s (pos + k) hk
  have one : ∀ j, pos < j → j < pos + 1 → ∀ hj : j < s.size, 128 ≤ (s[j]'hj).toNat := fun j _ _ _ => by omega
  have herr : Utf8.valid ((Utf8.runeError : Nat) : Int) = true := by decide
  have herr2 : 128 ≤ Utf8.runeError := by decide
  simp only [Utf8.decode, get_at s pos h, hn, if_false]
  split
  · rename_i h2
    simp only [Bool.and_eq_true, decide_eq_true_eq, beq_iff_eq] at h2
    obtain ⟨h2a, h2b, h2c⟩ := h2
    split
    · rename_i h3
      refine ⟨h3, ?_, by omega, by omega, ?_⟩
      · simp [Utf8.valid]; omega
      · intro j hj1 hj2 hj
        obtain rfl : j = pos + 1 := by omega
        rw [hg 1 hj] at h2c; omega
    · exact ⟨herr2, herr, by omega, by omega, one⟩
  · split
    · rename_i h2
      simp only [Bool.and_eq_true, decide_eq_true_eq, beq_iff_eq] at h2
      obtain ⟨⟨h2a, h2b, h2c⟩, h2d, h2e⟩ := h2
      split
      · rename_i h3
        simp only [ge_iff_le, Bool.and_eq_true, decide_eq_true_eq] at h3
        refine ⟨by omega, h3.2, by omega, by omega, ?_⟩
        intro j hj1 hj2 hj
        obtain rfl | rfl : j = pos + 1 ∨ j = pos + 2 := by omega
        · rw [hg 1 hj] at h2c; omega
        · rw [hg 2 hj] at h2e; omega
      · exact ⟨herr2, herr, by omega, by omega, one⟩
    · split
      · rename_i h2
        simp only [Bool.and_eq_true, decide_eq_true_eq, beq_iff_eq] at h2
        obtain ⟨⟨⟨h2a, h2b, h2c⟩, h2d, h2e⟩, h2f, h2g⟩ := h2
        split
        · rename_i h3
          simp only [ge_iff_le, Bool.and_eq_true, decide_eq_true_eq] at h3
          refine ⟨by omega, h3.2, by omega, by omega, ?_⟩
          intro j hj1 hj2 hj
          obtain rfl | rfl | rfl : j = pos + 1 ∨ j = pos + 2 ∨ j = pos + 3 := by omega
          · rw [hg 1 hj] at h2c; omega
          · rw [hg 2 hj] at h2e; omega
          · rw [hg 3 hj] at h2g; omega
        · exact ⟨herr2, herr, by omega, by omega, one⟩
      · exact ⟨herr2, herr, by omega, by omega, one⟩

theorem indexRune_high (r : Nat) (w : World) (h : 128 ≤ r) (hv : Utf8.valid (r : Int) = true) :
    Calls Tryz.prog 213 #[.string eE, .int .i32 (r : Int)] w fun e w' => e = .returned (.int .i64 (-1)) ∧ Below w.heap.size w w' := by
  by_cases h2 : r < 2048
  · exact indexRune_two r w h h2
  · by_cases h3 : r = 65533
    · subst h3; exact indexRune_err w
    · exact indexRune_more r w (by omega) hv h3

/-- what is ahead of the first e, what is behind it, is there one -/
def cutE : List UInt8 → List UInt8 × List UInt8 × Bool
  | [] => ([], [], false)
  | c :: r => if isE c then ([], r, true) else (c :: (cutE r).1, (cutE r).2)
theorem cutE_len (l : List UInt8) : (cutE l).1.length + (cutE l).2.1.length ≤ l.length := by
  induction l with
  | nil => simp [cutE]
  | cons c r ih => unfold cutE; split <;> simp; omega
theorem cutE_yes_join (l : List UInt8) (h : (cutE l).2.2 = true) : ∃ c, isE c = true ∧ l = (cutE l).1 ++ c :: (cutE l).2.1 := by
  induction l with
  | nil => simp [cutE] at h
  | cons c r ih =>
    unfold cutE at h ⊢
    by_cases hc : isE c = true
    · simp only [hc, if_true]; exact ⟨c, hc, rfl⟩
    · simp only [hc] at h ⊢
      obtain ⟨d, hd, e⟩ := ih h
      refine ⟨d, hd, ?_⟩
      show c :: r = c :: ((cutE r).1 ++ d :: (cutE r).2.1)
      rw [← e]
theorem cutE_no_join (l : List UInt8) (h : (cutE l).2.2 = false) : (cutE l).1 = l ∧ (cutE l).2.1 = [] := by
  induction l with
  | nil => simp [cutE]
  | cons c r ih =>
    unfold cutE at h ⊢
    by_cases hc : isE c = true
    · simp [hc] at h
    · simp only [hc] at h ⊢
      obtain ⟨h1, h2⟩ := ih h
      exact ⟨by show c :: (cutE r).1 = c :: r; rw [h1], h2⟩
def idxE (l : List UInt8) : Int := if (cutE l).2.2 then ((cutE l).1.length : Int) else -1
theorem idxE_any (l : List UInt8) : Lib.indexAny l eE.data.toList = idxE l := by
  induction l with
  | nil => rfl
  | cons c r ih =>
    have hin : eE.data.toList.contains c = isE c := by
      show List.contains [101, 69] c = (c == 101 || c == 69)
      by_cases h1 : c = 101
      · subst h1; rfl
      · by_cases h2 : c = 69
        · subst h2; rfl
        · rw [beq_false_of_ne h1, beq_false_of_ne h2, List.contains, List.elem, beq_false_of_ne h1]
          show List.elem c [69] = _
          rw [List.elem, beq_false_of_ne h2]; rfl
    rw [Lib.indexAny, hin, ih]
    unfold idxE
    rw [cutE]
    by_cases hc : isE c = true
    · simp [hc]
    · simp only [hc]
      by_cases h2 : (cutE r).2.2 = true
      · simp [h2]
        try omega
      · simp [h2]

theorem eE_contains : ∀ x : UInt8, 128 ≤ x.toNat → eE.data.toList.contains x = false := by
  intro x hx
  show List.contains [101, 69] x = false
  have h1 : x ≠ 101 := by rintro rfl; exact absurd hx (by decide)
  have h2 : x ≠ 69 := by rintro rfl; exact absurd hx (by decide)
  rw [List.contains, List.elem, beq_false_of_ne h1]
  show List.elem x [69] = _
  rw [List.elem, beq_false_of_ne h2]; rfl

set_option maxRecDepth 100000 in
set_option maxHeartbeats 4000000 in
theorem lib_IndexAny_short (s : ByteArray) (w : World) (h8 : s.size ≤ 8) :
    Calls Tryz.prog 163 #[.string s, .string eE] w fun e w' => e = .returned (.int .i64 (Lib.indexAny s.data.toList eE.data.toList)) ∧ Below w.heap.size w w' := by
  have hemp : eE.toList.isEmpty = false := by rw [show eE = bs [101, 69] from rfl, bs_toList]; rfl
  have e1 := eE_size
  have h8z : decide ((8 : Int) < (s.size : Int)) = false := decide_eq_false (by omega)
  have hU := fun n w => Tryz.strings_shouldUseASCIISet n w
  have hR := fun c (hc : c < 128) w => Tryz.strings_IndexRune_ascii eE (c : Nat) w (by omega) (by omega)
  have hH := fun r w h hv => indexRune_high r w h hv
  have hci := fun x => Lib.contains_iff_indexByte eE.data.toList x
  have HC := hid eE_contains
  generalize eE = ch at *
  go_enter Tryz.func163, Tryz.ntmps163
  go_wp2_with (go_at_call 214; go_must (refine (hU _ _).mono ?_); rintro e w1 ⟨rfl, rfl⟩; rw [h8z])
  obtain ⟨B, hB⟩ : ∃ B, w1.heap.size = B := ⟨_, rfl⟩
  have hit : (w1.iter s 0).heap[B]? = some (.stringIter s 0) := by rw [← hB]; exact World.iter_heap _ _ _
  have hbi : Below B w1 (w1.iter s 0) := by rw [← hB]; exact (Below.refl w1.heap.size w1).alloc (Nat.le_refl _) _
  generalize w1.iter s 0 = wi at *
  rw [hB]
  have HB := hid (show w1.heap.size ≤ B by omega)
  clear hB
  go_loopg [9, 10] s.size (fun g _ _ wx => ∃ i : Nat, i + g = s.size ∧ wx.heap[B]? = some (.stringIter s i) ∧ Below B w1 wx ∧ Lib.NoAny s.data.toList ch.data.toList i)
  case atStart => exact ⟨0, by omega, hit, hbi, Lib.NoAny.zero _ _⟩
  case round =>
    obtain ⟨i, hig, hit, hbx, hno⟩ := hrel
    have HN := hid hno
    clear hno
    cases gk with
    | zero =>
      obtain rfl : i = s.size := by omega
      have hnx := fun ty => Lib.run_next_end_at (P := Tryz.prog) wr B s s.size ty hit (by omega)
      go_wp2
      go_ret
      exact ⟨by rw [Lib.indexAny_none (by rw [← Lib.size_eq]; exact HN.out)]; rfl, hbx.mono HB.out⟩
    | succ g =>
      have hi : i < s.size := by omega
      obtain ⟨x, hx⟩ : ∃ x : UInt8, s[i]'hi = x := ⟨_, rfl⟩
      have hxl : s.data.toList[i]? = some x := by rw [← hx]; exact Lib.data_getElem? s i hi
      by_cases hx128 : x.toNat < 128
      · have hnx := fun ty => Lib.run_next_ascii_at (P := Tryz.prog) wr B s i ty hit hi (by rw [hx]; exact hx128)
        rw [hx] at hnx
        have Hx := hid hxl
        have Hit := hid (Lib.iterAt_heap wr B s i (i + 1) hit)
        have Hb2 := hid (Lib.below_iterAt hbx (Nat.le_refl B) s (i + 1))
        clear hxl hx hit
        have hcon := hci x
        have hback : ((x.toNat : Int)).toNat.toUInt8 = x := by simp
        have hR1 := fun w => hR x.toNat hx128 w
        rw [hback] at hR1
        clear hback hR hH hci hU
        cases hin : ch.data.toList.contains x
        · rw [hin] at hcon
          have hlt : ¬ ((0 : Int) ≤ Lib.indexByte ch.data.toList x) := of_decide_eq_false hcon.symm
          clear hcon
          go_wp2_with (go_at_call 213; go_must (refine (hR1 _).mono ?_); rintro e w2 ⟨rfl, rfl⟩)
          go_roundg g
          case measure => omega
          case rel => exact ⟨i + 1, by omega, Hit.out, Hb2.out, HN.out.succ Hx.out hin⟩
        · rw [hin] at hcon
          have hge : (0 : Int) ≤ Lib.indexByte ch.data.toList x := of_decide_eq_true hcon.symm
          clear hcon
          go_wp2_with (go_at_call 213; go_must (refine (hR1 _).mono ?_); rintro e w2 ⟨rfl, rfl⟩)
          go_ret
          exact ⟨by rw [Lib.indexAny_hit HN.out Hx.out hin]; rfl, Hb2.out.mono HB.out⟩
      · obtain ⟨hd1, hd2, hd3, hd4, hd5⟩ := decode_skip s i hi (by rw [hx]; omega)
        have hnx := fun ty => Lib.run_next_any_at (P := Tryz.prog) wr B s i ty hit hi
        have hno2 : Lib.NoAny s.data.toList ch.data.toList (i + (Utf8.decode s i).2) := by
          intro j b hj hb
          by_cases hji : j < i
          · exact HN.out j b hji hb
          · have hjs : j < s.size := by omega
            rw [Lib.data_getElem? s j hjs] at hb
            have hb2 : s[j] = b := Option.some.inj hb
            have h128 : 128 ≤ b.toNat := by
              by_cases hje : j = i
              · subst hje; rw [← hb2, hx]; omega
              · rw [← hb2]; exact hd5 j (by omega) hj hjs
            exact HC.out b h128
        have Hno2 := hid hno2
        clear hno2 hd5 hxl hx hR hci hU
        have hR1 := fun w => hH _ w hd1 hd2
        generalize (Utf8.decode s i).1 = r at *
        generalize (Utf8.decode s i).2 = n at *
        have Hit := hid (Lib.iterAt_heap wr B s i (i + n) hit)
        have Hb2 := hid (Lib.below_iterAt hbx (Nat.le_refl B) s (i + n))
        clear hit hH hd2
        go_wp2_with (go_at_call 213; go_must (refine (hR1 _).mono ?_); rintro e w2 ⟨rfl, hb3⟩)
        go_roundg (s.size - (i + n))
        case measure => omega
        case rel => exact ⟨i + n, by omega, (hb3.block B (Array.getElem?_eq_some_iff.1 Hit.out).1).trans Hit.out, Hb2.out.trans (hb3.mono (Nat.le_of_lt (Array.getElem?_eq_some_iff.1 Hit.out).1)), Hno2.out⟩

theorem lib_IndexAny (l : List UInt8) (w : World) (hl : l.length ≤ 1000) :
    Calls Tryz.prog 163 #[.string (bs l), .string eE] w fun e w' => e = .returned (.int .i64 (idxE l)) ∧ Below w.heap.size w w' := by
  have hd : (bs l).data.toList = l := by rw [← Lib.toList_data, bs_toList]
  rw [← idxE_any]
  by_cases h8 : l.length ≤ 8
  · have h := lib_IndexAny_short (bs l) w (by rw [bs_size]; exact h8)
    rw [hd] at h; exact h
  · have hz := zero_of_info (P := Tryz.prog) (t := 201) (v := .agg (Array.replicate 256 (.bool false))) (n := 256) (by kernel_rfl)
    have h := Tryz.strings_IndexAny_long hz.1 (bs l) eE w (by rw [eE_size]; omega) (by rw [bs_size]; omega) (by rw [bs_size]; omega) (by rw [eE_size]; omega) (by
      intro j b hj
      have h0 : eE.data.toList = [101, 69] := rfl
      rw [h0] at hj
      have hm := List.mem_of_getElem? hj
      simp only [List.mem_cons, List.not_mem_nil, or_false] at hm
      rcases hm with rfl | rfl <;> decide)
    rw [hd] at h
    refine h.mono fun e w' ⟨h1, h2⟩ => ⟨h1, ?_⟩
    rw [h2]
    exact ((Below.refl w.heap.size w).alloc (Nat.le_refl _) _).alloc (by simp) _

end Go.Proofs.YtjghbcjnplcleaaGreatDoor
