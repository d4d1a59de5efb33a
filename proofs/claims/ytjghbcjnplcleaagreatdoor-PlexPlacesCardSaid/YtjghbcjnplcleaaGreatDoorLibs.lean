/-
  Library contracts at this dump in my own words: strings.TrimLeft(s, "0"), strings.Cut(s, one byte), dec.plain, dec.signed.
-/
import Derived.Test.YtjghbcjnplcleaaGreatDoorDecA
import Derived.Test.YtjghbcjnplcleaaGreatDoorShelf
import Derived.Shelf.Strings.SlTrimAscii
import Derived.Deep.QuietTactic
import Derived.BigQuiet
namespace Go.Proofs.YtjghbcjnplcleaaGreatDoor
open Go.RowKit

theorem bs_toList (l : List UInt8) : (bs l).toList = l := by simp [bs]

theorem trimLeft0 (l : List UInt8) (w : World) :
    Calls Tryz.prog 210 #[.string (bs l), .string ⟨#[48]⟩] w fun e w' => e = .returned (.string (bs (l.dropWhile (· == 48)))) ∧ w = w' :=
  (Tryz.strings_TrimLeft_one (bs l) 48 (by decide) w).mono fun _ _ ⟨h1, h2⟩ => ⟨h1, h2.symm⟩

theorem bs_extract (l : List UInt8) (a b : Nat) : (bs l).extract a b = bs ((l.drop a).take (b - a)) := by
  apply ByteArray.ext
  simp [bs, ByteArray.data_extract]

theorem indexByte_yes (c : UInt8) (B : List UInt8) : ∀ A : List UInt8, c ∉ A → Lib.indexByte (A ++ c :: B) c = (A.length : Int)
  | [], _ => by simp [Lib.indexByte]
  | b :: A, h => by
    simp only [List.mem_cons, not_or] at h
    have ih := indexByte_yes c B A h.2
    have e3 : (b == c) = false := by rw [beq_eq_false_iff_ne]; exact fun e => h.1 e.symm
    have e4 : ((A.length : Int) == -1) = false := by rw [beq_eq_false_iff_ne]; omega
    simp [Lib.indexByte, e3, ih]
theorem indexByte_no (c : UInt8) : ∀ l : List UInt8, c ∉ l → Lib.indexByte l c = -1
  | [], _ => rfl
  | b :: l, h => by
    simp only [List.mem_cons, not_or] at h
    have ih := indexByte_no c l h.2
    have e3 : (b == c) = false := by rw [beq_eq_false_iff_ne]; exact fun e => h.1 e.symm
    simp [Lib.indexByte, e3, ih]
/-- where a byte is, and what is ahead of it and behind it -/
theorem split_at (c : UInt8) : ∀ l : List UInt8, c ∈ l → ∃ A B, l = A ++ c :: B ∧ c ∉ A
  | [], h => by cases h
  | b :: l, h => by
    by_cases e : c = b
    · exact ⟨[], l, by rw [e]; rfl, by simp⟩
    · rcases List.mem_cons.1 h with h | h
      · exact absurd h e
      · obtain ⟨A, B, h1, h2⟩ := split_at c l h
        exact ⟨b :: A, B, by rw [h1]; rfl, by simp [e, h2]⟩

theorem index1_yes (A B : List UInt8) (c : UInt8) (w : World) (h : c ∉ A) :
    Calls Tryz.prog 186 #[.string (bs (A ++ c :: B)), .string ⟨#[c]⟩] w fun e w' => e = .returned (.int .i64 (A.length : Int)) ∧ w = w' := by
  rw [← indexByte_yes c B A h]
  exact (Tryz.stringslite_Index_one (bs _) c w).mono fun _ _ ⟨h1, h2⟩ => ⟨h1, h2.symm⟩
theorem index1_no (l : List UInt8) (c : UInt8) (w : World) (h : c ∉ l) :
    Calls Tryz.prog 186 #[.string (bs l), .string ⟨#[c]⟩] w fun e w' => e = .returned (.int .i64 (-1)) ∧ w = w' := by
  rw [← indexByte_no c l h]
  exact (Tryz.stringslite_Index_one (bs _) c w).mono fun _ _ ⟨h1, h2⟩ => ⟨h1, h2.symm⟩

theorem ret_bool {a b : Bool} (h : a = b) : Ending.returned (.bool a) = Ending.returned (.bool b) := by rw [h]
theorem ret_ssb {a b a' b' : ByteArray} {c : Bool} (h1 : a = a') (h2 : b = b') : Ending.returned (.tuple #[.string a, .string b, .bool c]) = Ending.returned (.tuple #[.string a', .string b', .bool c]) := by
  rw [h1, h2]

set_option maxHeartbeats 400000 in
theorem slCut1_yes (A B : List UInt8) (c : UInt8) (w : World) (hl : (A ++ c :: B).length ≤ 1000000) (hc : c ∉ A) :
    Calls Tryz.prog 241 #[.string (bs (A ++ c :: B)), .string ⟨#[c]⟩] w fun e w' => e = .returned (.tuple #[.string (bs A), .string (bs B), .bool true]) ∧ Below w.heap.size w w' := by
  have hk : A.length < (A ++ c :: B).length := by simp
  have hA : (bs (A ++ c :: B)).extract 0 A.length = bs A := by
    rw [bs_extract]; simp
  have hB : (bs (A ++ c :: B)).extract (A.length + 1) (A ++ c :: B).length = bs B := by
    rw [bs_extract]
    have e : (A ++ c :: B).drop (A.length + 1) = B := by
      rw [← List.drop_drop]; simp
    rw [e, List.take_of_length_le (by simp; omega)]
  have hI := fun w => index1_yes A B c w hc
  have hs : (bs (A ++ c :: B)).size = (A ++ c :: B).length := bs_size _
  generalize A ++ c :: B = l at *
  generalize hkk : A.length = k at *
  clear hkk
  have hA' := hid hA; have hB' := hid hB; clear hA hB hc
  go_enter Tryz.func241, Tryz.ntmps241
  go_wp2_with (go_at_call 186; go_must (refine (hI _).mono ?_); rintro e w' ⟨rfl, rfl⟩)
  go_quiet (fail)
  go_wp2
  go_ret3
  exact ⟨ret_ssb hA'.out hB'.out, bdrewN _ _⟩

theorem slCut1_no (l : List UInt8) (c : UInt8) (w : World) (hc : c ∉ l) :
    Calls Tryz.prog 241 #[.string (bs l), .string ⟨#[c]⟩] w fun e w' => e = .returned (.tuple #[.string (bs l), .string (bs []), .bool false]) ∧ Below w.heap.size w w' := by
  have hI := fun w => index1_no l c w hc
  clear hc
  go_enter Tryz.func241, Tryz.ntmps241
  go_wp2_with (go_at_call 186; go_must (refine (hI _).mono ?_); rintro e w' ⟨rfl, rfl⟩)
  go_ret3
  exact ⟨rfl, Below.refl _ _⟩

theorem cut1_yes (A B : List UInt8) (c : UInt8) (w : World) (hl : (A ++ c :: B).length ≤ 1000000) (hc : c ∉ A) :
    Calls Tryz.prog 208 #[.string (bs (A ++ c :: B)), .string ⟨#[c]⟩] w fun e w' => e = .returned (.tuple #[.string (bs A), .string (bs B), .bool true]) ∧ Below w.heap.size w w' := by
  have hI := fun w => slCut1_yes A B c w hl hc
  clear hc hl
  go_enter Tryz.func208, Tryz.ntmps208
  go_wp2_with (go_at_call 241; go_must (refine (hI _).mono ?_); rintro e w' ⟨rfl, hb⟩)
  go_ret3
  exact ⟨rfl, hb⟩
theorem cut1_no (l : List UInt8) (c : UInt8) (w : World) (hc : c ∉ l) :
    Calls Tryz.prog 208 #[.string (bs l), .string ⟨#[c]⟩] w fun e w' => e = .returned (.tuple #[.string (bs l), .string (bs []), .bool false]) ∧ Below w.heap.size w w' := by
  have hI := fun w => slCut1_no l c w hc
  clear hc
  go_enter Tryz.func208, Tryz.ntmps208
  go_wp2_with (go_at_call 241; go_must (refine (hI _).mono ?_); rintro e w' ⟨rfl, hb⟩)
  go_ret3
  exact ⟨rfl, hb⟩

def isDig (b : UInt8) : Bool := decide (48 ≤ b.toNat) && decide (b.toNat ≤ 57)
theorem digs_contains (b : UInt8) : ([48, 49, 50, 51, 52, 53, 54, 55, 56, 57] : List UInt8).contains b = isDig b := by
  unfold isDig
  rw [Bool.eq_iff_iff]
  simp [← UInt8.toNat_inj]
  omega

theorem dropWhile_nil_iff (p : UInt8 → Bool) : ∀ l : List UInt8, l.dropWhile p = [] ↔ l.all p = true
  | [] => by simp
  | b :: l => by
    cases h : p b with
    | true => simp [h, dropWhile_nil_iff p l]
    | false => simp [h]
theorem trimS_nil_iff (l cs : List UInt8) : Lib.trimS l cs = [] ↔ l.all (cs.contains ·) = true := by
  unfold Lib.trimS Lib.trimLeftS Lib.trimRightS
  rw [dropWhile_nil_iff]
  constructor
  · intro h
    cases hd : l.reverse.dropWhile (cs.contains ·) with
    | nil =>
      rw [dropWhile_nil_iff] at hd
      simpa using hd
    | cons x r =>
      exfalso
      rw [hd] at h
      have hx : cs.contains x = true := by
        simp at h
        simpa using h.2
      have := List.head_dropWhile_not (p := (cs.contains ·)) (l := l.reverse) (by rw [hd]; simp)
      simp only [hd, List.head_cons] at this
      rw [hx] at this; cases this
  · intro h
    have : l.reverse.dropWhile (cs.contains ·) = [] := by
      rw [dropWhile_nil_iff]; simpa using h
    rw [this]; rfl

set_option maxHeartbeats 400000 in
theorem dec_plain (l : List UInt8) (w : World) (hl : l.length ≤ 1000000) :
    Calls Tryz.prog 209 #[.string (bs l)] w fun e w' => e = .returned (.bool (l.all isDig)) ∧ Below w.heap.size w w' := by
  have hT := fun w => Any.strings_Trim_laid Tryz.lays160 (by kernel_rfl) (bs l) ⟨#[48, 49, 50, 51, 52, 53, 54, 55, 56, 57]⟩ w (by rw [bs_size]; omega) (by decide) (ascii_of_all (by decide))
  have hN : Lib.trimS l [48, 49, 50, 51, 52, 53, 54, 55, 56, 57] = [] ↔ l.all isDig = true := by
    rw [trimS_nil_iff]
    have : (fun x => ([48, 49, 50, 51, 52, 53, 54, 55, 56, 57] : List UInt8).contains x) = isDig := funext digs_contains
    rw [this]
  have HN := hid hN; clear hN
  go_enter Tryz.func209, Tryz.ntmps209
  go_wp2_with (go_at_call 116; go_must (refine (hT _).mono ?_); rintro e w' ⟨rfl, hb⟩)
  go_ret
  exact ⟨ret_bool (by rw [Bool.eq_iff_iff, List.isEmpty_iff]; exact HN.out), hb⟩

theorem ret_bs {m : Bool} {a b : ByteArray} (h : a = b) : Ending.returned (.tuple #[.bool m, .string a]) = Ending.returned (.tuple #[.bool m, .string b]) := by rw [h]

theorem bs_get0 (c : UInt8) (r : List UInt8) (h : 0 < (bs (c :: r)).size) : (bs (c :: r))[0]'h = c := rfl
theorem bs_tail (c : UInt8) (r : List UInt8) : (bs (c :: r)).extract 1 (r.length + 1) = bs r := by
  rw [bs_extract]; simp
theorem bs_ne (c : UInt8) (r : List UInt8) : (bs (c :: r)).toList.isEmpty = false := by simp [bs]

/-- an optional sign -/
def signedL : List UInt8 → Bool × List UInt8
  | [] => (false, [])
  | c :: r => if c = 45 then (true, r) else if c = 43 then (false, r) else (false, c :: r)

set_option maxHeartbeats 400000 in
theorem dec_signed (l : List UInt8) (w : World) (hl : l.length ≤ 1000000) :
    Calls Tryz.prog 158 #[.string (bs l)] w fun e w' => e = .returned (.tuple #[.bool (signedL l).1, .string (bs (signedL l).2)]) ∧ Below w.heap.size w w' := by
  cases l with
  | nil =>
    have hT := bs_toList
    go_enter Tryz.func158, Tryz.ntmps158
    go_wp2
    go_ret2
    exact ⟨rfl, Below.refl _ _⟩
  | cons c r =>
    have h0 := bs_get0 c r
    have hs : (bs (c :: r)).size = r.length + 1 := by rw [bs_size]; rfl
    have he := bs_ne c r
    have hb := bs_tail c r
    have Hb := hid hb
    simp only [List.length_cons] at hl
    by_cases h1 : c = 45
    · subst h1
      generalize bs (45 :: r) = s at *
      clear hb
      go_enter Tryz.func158, Tryz.ntmps158
      go_wp2
      go_quiet (fail)
      go_wp2
      go_ret2
      exact ⟨ret_bs Hb.out, bdrewN _ _⟩
    · by_cases h2 : c = 43
      · subst h2
        generalize bs (43 :: r) = s at *
        clear hb
        go_enter Tryz.func158, Tryz.ntmps158
        go_wp2
        go_quiet (fail)
        go_wp2
        go_ret2
        exact ⟨ret_bs Hb.out, bdrewN _ _⟩
      · have e1 : ((c.toNat : Int) == 45) = false := by
          rw [beq_eq_false_iff_ne]; intro h; exact h1 (UInt8.toNat_inj.1 (by show c.toNat = 45; omega))
        have e2 : ((c.toNat : Int) == 43) = false := by
          rw [beq_eq_false_iff_ne]; intro h; exact h2 (UInt8.toNat_inj.1 (by show c.toNat = 43; omega))
        have e3 : signedL (c :: r) = (false, c :: r) := by simp [signedL, h1, h2]
        rw [e3]
        generalize bs (c :: r) = s at *
        clear hb e3 h1 h2
        go_enter Tryz.func158, Tryz.ntmps158
        go_wp2
        go_ret2
        exact ⟨rfl, Below.refl _ _⟩

theorem results4 {fn : Func} {t u v x : Tmp} (h : fn.results = #[.tmp t, .tmp u, .tmp v, .tmp x]) (tmps : Array Value) (P : Program) (w : World) :
    (results fn tmps).run P w = .ok (.tuple #[tmps.getD t undef, tmps.getD u undef, tmps.getD v undef, tmps.getD x undef]) w := by
  simp [results, h]
theorem ret_ssbb {a b a' b' : ByteArray} {c d d' : Bool} (h1 : a = a') (h2 : b = b') (h3 : d = d') : Ending.returned (.tuple #[.string a, .string b, .bool c, .bool d]) = Ending.returned (.tuple #[.string a', .string b', .bool c, .bool d']) := by
  rw [h1, h2, h3]

/-- the whole part, what is behind the point, is there a point -/
def cutDot : List UInt8 → List UInt8 × List UInt8 × Bool
  | [] => ([], [], false)
  | c :: r => if c = 46 then ([], r, true) else (c :: (cutDot r).1, (cutDot r).2)
theorem cutDot_yes (B : List UInt8) : ∀ A : List UInt8, 46 ∉ A → cutDot (A ++ 46 :: B) = (A, B, true)
  | [], _ => by simp [cutDot]
  | c :: A, h => by
    simp only [List.mem_cons, not_or] at h
    have ih := cutDot_yes B A h.2
    simp [cutDot, ih, Ne.symm h.1]
theorem cutDot_no : ∀ l : List UInt8, 46 ∉ l → cutDot l = (l, [], false)
  | [], _ => rfl
  | c :: l, h => by
    simp only [List.mem_cons, not_or] at h
    have ih := cutDot_no l h.2
    simp [cutDot, ih, Ne.symm h.1]
theorem cutDot_len (l : List UInt8) : (cutDot l).1.length + (cutDot l).2.1.length ≤ l.length := by
  induction l with
  | nil => simp [cutDot]
  | cons c r ih => unfold cutDot; split <;> simp; omega
theorem dec_cut (l : List UInt8) (w : World) (hl : l.length ≤ 1000000) :
    Calls Tryz.prog 208 #[.string (bs l), .string ⟨#[46]⟩] w fun e w' => e = .returned (.tuple #[.string (bs (cutDot l).1), .string (bs (cutDot l).2.1), .bool (cutDot l).2.2]) ∧ Below w.heap.size w w' := by
  by_cases h : 46 ∈ l
  · obtain ⟨A, B, rfl, hA⟩ := split_at 46 l h
    rw [cutDot_yes B A hA]; exact cut1_yes A B 46 w hl hA
  · rw [cutDot_no l h]; exact cut1_no l 46 w h

def mantOk (l : List UInt8) : Bool := (cutDot l).1.all isDig && (cutDot l).2.1.all isDig && decide (0 < (cutDot l).1.length + (cutDot l).2.1.length)

set_option maxHeartbeats 400000 in
theorem dec_mantissa (l : List UInt8) (w : World) (hl : l.length ≤ 1000000) :
    Calls Tryz.prog 159 #[.string (bs l)] w fun e w' => e = .returned (.tuple #[.string (bs (cutDot l).1), .string (bs (cutDot l).2.1), .bool (cutDot l).2.2, .bool (mantOk l)]) ∧ Below w.heap.size w w' := by
  have hlen := cutDot_len l
  have hm : mantOk l = ((cutDot l).1.all isDig && (cutDot l).2.1.all isDig && decide (0 < (cutDot l).1.length + (cutDot l).2.1.length)) := rfl
  have hcut := fun w => dec_cut l w hl
  generalize mantOk l = ok at *
  generalize cutDot l = p at *
  obtain ⟨A, B, f⟩ := p
  simp only at hlen hm hcut
  have Hm := hid hm; clear hm
  have s1 : (bs A).size = A.length := bs_size A
  have s2 : (bs B).size = B.length := bs_size B
  by_cases hA : A.all isDig = true
  · by_cases hB : B.all isDig = true
    · have hok : ok = decide (0 < A.length + B.length) := by rw [Hm.out, hA, hB]; rfl
      have HA := hid hA; have HB := hid hB; have Hok := hid hok; clear hok hA hB
      go_enter Tryz.func159, Tryz.ntmps159
      go_wp2_with first | (go_at_call 208; go_must (refine (hcut _).mono ?_); rintro e w1 ⟨rfl, hb1⟩) | (go_at_call_of 209 (Value.string (bs A)); go_must (refine (dec_plain A _ (by omega)).mono ?_); rintro e w2 ⟨rfl, hb2⟩; rw [HA.out]) | (go_at_call_of 209 (Value.string (bs B)); go_must (refine (dec_plain B _ (by omega)).mono ?_); rintro e w3 ⟨rfl, hb3⟩; rw [HB.out])
      refine bodyPost_ret (results4 rfl _ _ _) rfl ?_
      refine ⟨ret_ssbb rfl rfl ?_, btr (btr hb1 hb2) hb3⟩
      rw [Hok.out, Bool.eq_iff_iff]; simp; omega
    · have hB' : B.all isDig = false := by simpa using hB
      have hok : ok = false := by rw [Hm.out, hA, hB']; rfl
      have HA := hid hA; have HB := hid hB'; have Hok := hid hok; clear hok hA hB hB'
      go_enter Tryz.func159, Tryz.ntmps159
      go_wp2_with first | (go_at_call 208; go_must (refine (hcut _).mono ?_); rintro e w1 ⟨rfl, hb1⟩) | (go_at_call_of 209 (Value.string (bs A)); go_must (refine (dec_plain A _ (by omega)).mono ?_); rintro e w2 ⟨rfl, hb2⟩; rw [HA.out]) | (go_at_call_of 209 (Value.string (bs B)); go_must (refine (dec_plain B _ (by omega)).mono ?_); rintro e w3 ⟨rfl, hb3⟩; rw [HB.out])
      refine bodyPost_ret (results4 rfl _ _ _) rfl ?_
      exact ⟨ret_ssbb rfl rfl Hok.out.symm, btr (btr hb1 hb2) hb3⟩
  · have hA' : A.all isDig = false := by simpa using hA
    have hok : ok = false := by rw [Hm.out, hA']; rfl
    have HA := hid hA'; have Hok := hid hok; clear hok hA hA'
    go_enter Tryz.func159, Tryz.ntmps159
    go_wp2_with first | (go_at_call 208; go_must (refine (hcut _).mono ?_); rintro e w1 ⟨rfl, hb1⟩) | (go_at_call_of 209 (Value.string (bs A)); go_must (refine (dec_plain A _ (by omega)).mono ?_); rintro e w2 ⟨rfl, hb2⟩; rw [HA.out])
    refine bodyPost_ret (results4 rfl _ _ _) rfl ?_
    exact ⟨ret_ssbb rfl rfl Hok.out.symm, btr hb1 hb2⟩

end Go.Proofs.YtjghbcjnplcleaaGreatDoor
