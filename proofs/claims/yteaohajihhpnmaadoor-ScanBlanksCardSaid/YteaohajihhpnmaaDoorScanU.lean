/-
  Plain: nested brackets; bytes written as strings.
-/
import Derived.Test.YteaohajihhpnmaaDoorScanS
namespace Go.Proofs.YteaohajihhpnmaaDoor

theorem roundS_40 (d : Nat) (o r : List UInt8) : roundS d o (40 :: r) = roundS (d + 1) (o ++ [40]) r := by rw [roundS.eq_def]; rfl
theorem roundS_41 (d : Nat) (o r : List UInt8) : roundS d o (41 :: r) = if d = 1 then some (o, r) else roundS (d - 1) (o ++ [41]) r := by rw [roundS.eq_def]; rfl
theorem roundS_92 (d : Nat) (o r : List UInt8) (e : UInt8) : roundS d o (92 :: e :: r) = roundS d (o ++ (escS e r).1) (escS e r).2 := by rw [roundS.eq_def]; rfl
theorem roundS_nil (d : Nat) (o : List UInt8) : roundS d o [] = none := by rw [roundS.eq_def]
theorem roundS_plain (d : Nat) (o r : List UInt8) (c : UInt8) (h1 : c ≠ 40) (h2 : c ≠ 41) (h3 : c ≠ 92) (h4 : c ≠ 13) : roundS d o (c :: r) = roundS d (o ++ [c]) r := by
  rw [roundS.eq_def]; simp only; rw [if_neg h1, if_neg h2, if_neg h3, if_neg h4]
/-- k pairs of brackets, one in the other, an x behind each -/
def nest : Nat → List UInt8
  | 0 => []
  | k + 1 => 40 :: (nest k ++ [41, 120])
theorem nest_len : ∀ k, (nest k).length = 3 * k
  | 0 => rfl
  | k + 1 => by simp [nest, nest_len k]; omega
theorem roundS_nest : ∀ (k d : Nat) (o r : List UInt8), 1 ≤ d → roundS d o (nest k ++ r) = roundS d (o ++ nest k) r
  | 0, d, o, r, _ => by simp [nest]
  | k + 1, d, o, r, hd => by
    have e : nest (k + 1) ++ r = 40 :: (nest k ++ 41 :: 120 :: r) := by simp [nest]
    rw [e, roundS_40, roundS_nest k _ _ _ (by omega), roundS_41, if_neg (by omega), roundS_plain _ _ _ _ (by decide) (by decide) (by decide) (by decide)]
    simp [nest]
theorem tokS_40 (r : List UInt8) : tokS (40 :: r) = textS (roundS 1 [] r) := rfl
theorem tokS_60 (r : List UInt8) : tokS (60 :: r) = angleS 60 r := rfl
theorem nextR_0 (l : List UInt8) : nextR l 0 = nrOf l (tokS l) := by unfold nextR; rw [if_neg (by omega)]; rfl
theorem nested_ok (k : Nat) (hk : k ≤ 255) : nextR (40 :: (nest k ++ [41])) 0 = ⟨6, 0, nest k, (3 * k + 2 : Nat), 0⟩ := by
  have hn := nest_len k
  rw [nextR_0, tokS_40, roundS_nest k 1 [] [41] (Nat.le_refl _), roundS_41, if_pos rfl]
  simp only [textS, List.nil_append]
  rw [if_neg (by omega)]
  simp [nrOf, hn]
  omega
theorem nested_open (k : Nat) : nextR (40 :: 40 :: (nest k ++ [41])) 0 = ⟨0, 0, [], 0, 14⟩ := by
  rw [nextR_0, tokS_40, roundS_40, roundS_nest k 2 _ [41] (by omega), roundS_41, if_neg (by omega), roundS_nil]
  rfl

/-- a byte, by its number in octal digits -/
def octE (c : UInt8) : List UInt8 := [92, ch (48 + (c.toNat : Int) / 64), ch (48 + (c.toNat : Int) / 8 % 8), ch (48 + (c.toNat : Int) % 8)]
def plainB (c : UInt8) : Bool := !decide ((c.toNat : Int) = 40) && !decide ((c.toNat : Int) = 41) && !decide ((c.toNat : Int) = 92) && !decide ((c.toNat : Int) = 13)
def escE (p : Bool) (c : UInt8) : List UInt8 := if p && plainB c then [c] else octE c
def escT (p : Bool) (s : List UInt8) : List UInt8 := s.flatMap (escE p)
theorem esc_octE : ∀ (c : UInt8) (r : List UInt8), escS (ch (48 + (c.toNat : Int) / 64)) (ch (48 + (c.toNat : Int) / 8 % 8) :: ch (48 + (c.toNat : Int) % 8) :: r) = ([c], r) := by
  intro c r
  have hc : c.toNat < 256 := UInt8.toNat_lt c
  have v1 : ((ch (48 + (c.toNat : Int) / 64)).toNat : Int) = 48 + (c.toNat : Int) / 64 := ch_val _ (by omega) (by omega)
  have v2 : ((ch (48 + (c.toNat : Int) / 8 % 8)).toNat : Int) = 48 + (c.toNat : Int) / 8 % 8 := ch_val _ (by omega) (by omega)
  have v3 : ((ch (48 + (c.toNat : Int) % 8)).toNat : Int) = 48 + (c.toNat : Int) % 8 := ch_val _ (by omega) (by omega)
  rw [esc_oct _ (by omega) (by omega)]
  have o2 : octB (ch (48 + (c.toNat : Int) / 8 % 8)) = true := by simp only [octB, Bool.and_eq_true, decide_eq_true_eq]; omega
  have o3 : octB (ch (48 + (c.toNat : Int) % 8)) = true := by simp only [octB, Bool.and_eq_true, decide_eq_true_eq]; omega
  simp only [octS, o2, o3, if_true]
  have e : ((8 * (8 * ((ch (48 + (c.toNat : Int) / 64)).toNat - 48) + ((ch (48 + (c.toNat : Int) / 8 % 8)).toNat - 48)) + ((ch (48 + (c.toNat : Int) % 8)).toNat - 48)) % 256 : Nat) = c.toNat := by omega
  rw [e]
  simp only [Prod.mk.injEq, and_true, List.cons.injEq]
  exact UInt8.toNat_inj.1 (by have := ch_val (c.toNat : Int) (by omega) (by omega); omega)
theorem roundS_escE (p : Bool) (c : UInt8) (o r : List UInt8) : roundS 1 o (escE p c ++ r) = roundS 1 (o ++ [c]) r := by
  unfold escE
  split
  · next h =>
    simp only [plainB, Bool.and_eq_true, Bool.not_eq_true', decide_eq_false_iff_not] at h
    exact roundS_plain _ _ _ _ (u8_ne (d := 40) h.2.1.1.1) (u8_ne (d := 41) h.2.1.1.2) (u8_ne (d := 92) h.2.1.2) (u8_ne (d := 13) h.2.2)
  · show roundS 1 o (92 :: ch (48 + (c.toNat : Int) / 64) :: ch (48 + (c.toNat : Int) / 8 % 8) :: ch (48 + (c.toNat : Int) % 8) :: r) = _
    rw [roundS_92, esc_octE]
theorem roundS_escT (p : Bool) : ∀ (s o r : List UInt8), roundS 1 o (escT p s ++ r) = roundS 1 (o ++ s) r
  | [], o, r => by simp [escT]
  | c :: s, o, r => by
    have e : escT p (c :: s) ++ r = escE p c ++ (escT p s ++ r) := by simp [escT]
    rw [e, roundS_escE, roundS_escT p s]
    simp
theorem escE_len (p : Bool) (c : UInt8) : (escE p c).length ≤ 4 := by unfold escE octE; split <;> simp
theorem escT_len (p : Bool) : ∀ s, (escT p s).length ≤ 4 * s.length
  | [] => by simp [escT]
  | c :: s => by
    have h1 := escE_len p c; have h2 := escT_len p s
    have e : escT p (c :: s) = escE p c ++ escT p s := by simp [escT]
    rw [e]; simp only [List.length_append, List.length_cons]; omega
theorem escT_snoc (p : Bool) (s : List UInt8) (c : UInt8) : escT p (s ++ [c]) = escT p s ++ escE p c := by simp [escT]
/-- the whole, in round brackets -/
def roundT (p : Bool) (s : List UInt8) : List UInt8 := 40 :: (escT p s ++ [41])
theorem roundT_ok (p : Bool) (s m : List UInt8) (hs : s.length ≤ 10000) : nextR (roundT p s ++ m) 0 = ⟨6, 0, s, (roundT p s).length, 0⟩ := by
  have e : roundT p s ++ m = 40 :: (escT p s ++ (41 :: m)) := by simp [roundT]
  rw [nextR_0, e, tokS_40, roundS_escT, roundS_41, if_pos rfl]
  simp only [textS, List.nil_append]
  rw [if_neg (by omega)]
  simp [nrOf, roundT]
  omega
theorem roundT_cut (p : Bool) (s : List UInt8) : nextR ((roundT p s).dropLast) 0 = ⟨0, 0, [], 0, 14⟩ := by
  have e : (roundT p s).dropLast = 40 :: (escT p s ++ []) := by
    rw [List.append_nil]
    show (40 :: (escT p s ++ [41])).dropLast = _
    rw [← List.cons_append, List.dropLast_concat]
  rw [nextR_0, e, tokS_40, roundS_escT, roundS_nil]
  rfl
/-- hexadecimal digits -/
def hexDigits : List UInt8 := [48, 49, 50, 51, 52, 53, 54, 55, 56, 57, 97, 98, 99, 100, 101, 102, 65, 66, 67, 68, 69, 70]
def hexE (i : Nat) (c : UInt8) : List UInt8 := [hexDigits[c.toNat / 16]!, hexDigits[c.toNat % 16]!] ++ (if i % 7 = 3 then [10] else [])
/-- from place i on -/
def hexB : Nat → List UInt8 → List UInt8
  | _, [] => []
  | i, c :: s => hexE i c ++ hexB (i + 1) s
theorem hexB_snoc (c : UInt8) : ∀ (s : List UInt8) (i : Nat), hexB i (s ++ [c]) = hexB i s ++ hexE (i + s.length) c
  | [], i => by simp [hexB]
  | x :: s, i => by
    have := hexB_snoc c s (i + 1)
    simp only [List.cons_append, hexB, this, List.append_assoc, List.length_cons]
    rw [show i + 1 + s.length = i + (s.length + 1) by omega]
theorem hexE_len (i : Nat) (c : UInt8) : (hexE i c).length ≤ 3 := by unfold hexE; split <;> simp
theorem hexB_len : ∀ (s : List UInt8) (i : Nat), (hexB i s).length ≤ 3 * s.length
  | [], i => by simp [hexB]
  | x :: s, i => by
    have h1 := hexE_len i x; have h2 := hexB_len s (i + 1)
    simp only [hexB, List.length_append, List.length_cons]; omega
theorem hexDig_at : ∀ k : Nat, k < 16 → blankB hexDigits[k]! = false ∧ hexDigits[k]! ≠ 62 ∧ hexDigits[k]! ≠ 60 ∧ hexD hexDigits[k]! = some k := by
  have key : ∀ k : Fin 16, blankB hexDigits[k.1]! = false ∧ hexDigits[k.1]! ≠ 62 ∧ hexDigits[k.1]! ≠ 60 ∧ hexD hexDigits[k.1]! = some k.1 := by decide +kernel
  intro k hk
  exact key ⟨k, hk⟩
theorem hexS_hexE (i : Nat) (c : UInt8) (o r : List UInt8) : hexS none o (hexE i c ++ r) = hexS none (o ++ [c]) r := by
  have hc : c.toNat < 256 := UInt8.toNat_lt c
  obtain ⟨a1, a2, -, a4⟩ := hexDig_at (c.toNat / 16) (by omega)
  obtain ⟨b1, b2, -, b4⟩ := hexDig_at (c.toNat % 16) (by omega)
  have ev : ch ((c.toNat / 16 * 16 + c.toNat % 16 : Nat) : Int) = c := UInt8.toNat_inj.1 (by have := ch_val ((c.toNat / 16 * 16 + c.toNat % 16 : Nat) : Int) (by omega) (by omega); omega)
  have e2 : ∀ t, hexS none o (hexDigits[c.toNat / 16]! :: hexDigits[c.toNat % 16]! :: t) = hexS none (o ++ [c]) t := by
    intro t
    simp only [hexS, a1, b1, a2, b2, a4, b4, if_false, Bool.false_eq_true]
    rw [ev]
  unfold hexE
  split
  · show hexS none o (hexDigits[c.toNat / 16]! :: hexDigits[c.toNat % 16]! :: 10 :: r) = _
    rw [e2]
    simp [hexS, blankB]
  · exact e2 r
theorem hexS_hexB : ∀ (s : List UInt8) (i : Nat) (o r : List UInt8), hexS none o (hexB i s ++ r) = hexS none (o ++ s) r
  | [], i, o, r => by simp [hexB]
  | c :: s, i, o, r => by
    simp only [hexB, List.append_assoc]
    rw [hexS_hexE, hexS_hexB s]
    simp
def hexT (s : List UInt8) : List UInt8 := 60 :: (hexB 0 s ++ [62])
theorem angle_hex (s r : List UInt8) : angleS 60 (hexB 0 s ++ 62 :: r) = textS (some (s, r)) := by
  have hx : hexS none [] (hexB 0 s ++ 62 :: r) = some (s, r) := by
    rw [hexS_hexB]; simp [hexS, blankB]
  cases s with
  | nil =>
    simp only [hexB, List.nil_append] at hx ⊢
    simp only [angleS]
    rw [if_neg (by decide), if_pos trivial, hx]
  | cons c s =>
    obtain ⟨-, -, a3, -⟩ := hexDig_at (c.toNat / 16) (by have : c.toNat < 256 := UInt8.toNat_lt c; omega)
    have e : hexB 0 (c :: s) ++ 62 :: r = hexDigits[c.toNat / 16]! :: (([hexDigits[c.toNat % 16]!] ++ (if 0 % 7 = 3 then [10] else []) ++ hexB 1 s) ++ 62 :: r) := by simp [hexB, hexE]
    rw [e] at hx ⊢
    simp only [angleS]
    rw [if_neg a3, if_pos trivial, hx]
theorem angle_cut (s : List UInt8) : angleS 60 (hexB 0 s) = .error 14 := by
  have hx : hexS none [] (hexB 0 s) = none := by
    have := hexS_hexB s 0 [] []
    rw [List.append_nil] at this
    rw [this]; rfl
  cases s with
  | nil => rfl
  | cons c s =>
    obtain ⟨-, -, a3, -⟩ := hexDig_at (c.toNat / 16) (by have : c.toNat < 256 := UInt8.toNat_lt c; omega)
    have e : hexB 0 (c :: s) = hexDigits[c.toNat / 16]! :: ([hexDigits[c.toNat % 16]!] ++ (if 0 % 7 = 3 then [10] else []) ++ hexB 1 s) := by simp [hexB, hexE]
    rw [e] at hx ⊢
    simp only [angleS]
    rw [if_neg a3, if_pos trivial, hx]; rfl
theorem hexT_ok (s m : List UInt8) (hs : s.length ≤ 10000) : nextR (hexT s ++ m) 0 = ⟨6, 0, s, (hexT s).length, 0⟩ := by
  have e : hexT s ++ m = 60 :: (hexB 0 s ++ (62 :: m)) := by simp [hexT]
  rw [nextR_0, e, tokS_60, angle_hex]
  simp only [textS]
  rw [if_neg (by omega)]
  simp [nrOf, hexT]
  omega
theorem hexT_cut (s : List UInt8) : nextR ((hexT s).dropLast) 0 = ⟨0, 0, [], 0, 14⟩ := by
  have e : (hexT s).dropLast = 60 :: hexB 0 s := by
    show (60 :: (hexB 0 s ++ [62])).dropLast = _
    rw [← List.cons_append, List.dropLast_concat]
  rw [nextR_0, e, tokS_60, angle_cut]; rfl

end Go.Proofs.YteaohajihhpnmaaDoor
