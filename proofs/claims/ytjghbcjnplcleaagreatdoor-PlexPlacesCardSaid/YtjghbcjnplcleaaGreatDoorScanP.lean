/-
  Plain: the tokens of bytes.
-/
import Derived.Test.YtjghbcjnplcleaaGreatDoorTokP
namespace Go.Proofs.YtjghbcjnplcleaaGreatDoor

def blankB (c : UInt8) : Bool := c == 0 || c == 9 || c == 10 || c == 12 || c == 13 || c == 32
def endB (c : UInt8) : Bool := c == 10 || c == 12 || c == 13
def delimB (c : UInt8) : Bool := c == 40 || c == 41 || c == 60 || c == 62 || c == 91 || c == 93 || c == 123 || c == 125 || c == 47 || c == 37
def regB (c : UInt8) : Bool := !blankB c && !delimB c
theorem endB_blank {c : UInt8} (h : endB c = true) : blankB c = true := by
  simp only [endB, Bool.or_eq_true, beq_iff_eq] at h
  rcases h with (rfl | rfl) | rfl <;> rfl

/-- what is behind blanks and comments; true: in a comment -/
def skipS : Bool → List UInt8 → List UInt8
  | _, [] => []
  | false, c :: r => if c = 37 then skipS true r else if blankB c then skipS false r else c :: r
  | true, c :: r => if endB c then skipS false (r) else skipS true r
theorem skipS_len : ∀ (l : List UInt8) (m : Bool), (skipS m l).length ≤ l.length
  | [], m => by cases m <;> simp [skipS]
  | c :: r, false => by
    have h1 := skipS_len r true; have h2 := skipS_len r false
    simp only [skipS]; split
    · simp; omega
    · split <;> simp <;> omega
  | c :: r, true => by
    have h1 := skipS_len r true; have h2 := skipS_len r false
    simp only [skipS]; split <;> simp <;> omega
theorem skipS_suffix : ∀ (l : List UInt8) (m : Bool), ∃ k, k ≤ l.length ∧ skipS m l = l.drop k
  | [], m => ⟨0, Nat.le_refl _, by cases m <;> rfl⟩
  | c :: r, false => by
    obtain ⟨k1, a1, b1⟩ := skipS_suffix r true; obtain ⟨k2, a2, b2⟩ := skipS_suffix r false
    simp only [skipS]; split
    · exact ⟨k1 + 1, by simp; omega, by rw [b1]; rfl⟩
    · split
      · exact ⟨k2 + 1, by simp; omega, by rw [b2]; rfl⟩
      · exact ⟨0, Nat.zero_le _, rfl⟩
  | c :: r, true => by
    obtain ⟨k1, a1, b1⟩ := skipS_suffix r true; obtain ⟨k2, a2, b2⟩ := skipS_suffix r false
    simp only [skipS]; split
    · exact ⟨k2 + 1, by simp; omega, by rw [b2]; rfl⟩
    · exact ⟨k1 + 1, by simp; omega, by rw [b1]; rfl⟩

/-- without a line feed ahead -/
def dropLF : List UInt8 → List UInt8
  | c :: r => if c = 10 then r else c :: r
  | [] => []
theorem dropLF_len (l : List UInt8) : (dropLF l).length ≤ l.length := by
  cases l with
  | nil => simp [dropLF]
  | cons c r => simp only [dropLF]; split <;> simp
def octB (c : UInt8) : Bool := decide (48 ≤ c.toNat) && decide (c.toNat ≤ 55)
/-- up to k more octal digits: the number, what is left -/
def octS : Nat → Nat → List UInt8 → Nat × List UInt8
  | 0, n, l => (n, l)
  | _ + 1, n, [] => (n, [])
  | k + 1, n, c :: r => if octB c then octS k (8 * n + (c.toNat - 48)) r else (n, c :: r)
theorem octS_len : ∀ (k n : Nat) (l : List UInt8), (octS k n l).2.length ≤ l.length
  | 0, n, l => Nat.le_refl _
  | _ + 1, n, [] => Nat.le_refl _
  | k + 1, n, c :: r => by
    have := octS_len k (8 * n + (c.toNat - 48)) r
    simp only [octS]; split <;> simp <;> omega
theorem octS_val : ∀ (k n : Nat) (l : List UInt8), (octS k n l).1 < (n + 1) * 8 ^ k
  | 0, n, l => by simp [octS]
  | k + 1, n, [] => by
    have h : 1 ≤ 8 ^ (k + 1) := Nat.one_le_pow _ _ (by decide)
    have := Nat.mul_le_mul_left (n + 1) h
    simp only [octS]; omega
  | k + 1, n, c :: r => by
    simp only [octS]; split
    · next h =>
      have := octS_val k (8 * n + (c.toNat - 48)) r
      have hc : c.toNat - 48 ≤ 7 := by simp [octB] at h; omega
      have h2 : (8 * n + (c.toNat - 48) + 1) * 8 ^ k ≤ (n + 1) * 8 * 8 ^ k := Nat.mul_le_mul_right _ (by omega)
      rw [Nat.pow_succ, Nat.mul_comm (8 ^ k) 8, ← Nat.mul_assoc]; omega
    · have h : 1 ≤ 8 ^ (k + 1) := Nat.one_le_pow _ _ (by decide)
      have := Nat.mul_le_mul_left (n + 1) h
      simp only; omega
/-- what stands behind a \ and the byte c: the bytes, what is left -/
def escS (c : UInt8) (r : List UInt8) : List UInt8 × List UInt8 :=
  if c = 110 then ([10], r) else if c = 114 then ([13], r) else if c = 116 then ([9], r) else if c = 98 then ([8], r) else if c = 102 then ([12], r)
  else if c = 10 then ([], r) else if c = 13 then ([], dropLF r)
  else if octB c then ([ch ((octS 2 (c.toNat - 48) r).1 % 256 : Nat)], (octS 2 (c.toNat - 48) r).2) else ([c], r)
theorem escS_len (c : UInt8) (r : List UInt8) : (escS c r).2.length ≤ r.length := by
  have h1 := dropLF_len r
  have h2 := octS_len 2 (c.toNat - 48) r
  unfold escS
  repeat' split
  all_goals first | exact Nat.le_refl _ | assumption

/-- a string in round brackets -/
def roundS (d : Nat) (o : List UInt8) (l : List UInt8) : Option (List UInt8 × List UInt8) :=
  match l with
  | [] => none
  | c :: r =>
    if c = 40 then roundS (d + 1) (o ++ [c]) r
    else if c = 41 then (if d = 1 then some (o, r) else roundS (d - 1) (o ++ [c]) r)
    else if c = 92 then
      match r with
      | [] => none
      | e :: r' => roundS d (o ++ (escS e r').1) (escS e r').2
    else if c = 13 then roundS d (o ++ [10]) (dropLF r)
    else roundS d (o ++ [c]) r
termination_by l.length
decreasing_by
  all_goals simp_wf
  · have := escS_len e r'; omega
  · have := dropLF_len r; omega

/-- a hexadecimal digit, or none -/
def hexD (c : UInt8) : Option Nat := if hexN c < 16 then some (hexN c) else none
/-- a string in pointed brackets -/
def hexS : Option Nat → List UInt8 → List UInt8 → Option (List UInt8 × List UInt8)
  | _, _, [] => none
  | h, o, c :: r =>
    if blankB c then hexS h o r
    else if c = 62 then some (match h with | none => o | some x => o ++ [ch (x * 16 : Nat)], r)
    else match hexD c with
      | none => none
      | some d => match h with
        | none => hexS (some d) o r
        | some x => hexS none (o ++ [ch (x * 16 + d : Nat)]) r

/-- a token: its kind, number and text -/
structure TokV where
  kind : Int
  n : Int
  text : List UInt8
def TokV.val (t : TokV) : Value := .agg #[.int .i64 t.kind, .int .i64 t.n, .string (bs t.text)]
/-- a token and what is left, or an error's number -/
abbrev TokE := Except Int (TokV × List UInt8)
def textS (o : Option (List UInt8 × List UInt8)) : TokE :=
  match o with
  | none => .error 14
  | some (s, r) => if 65535 < s.length then .error 9 else .ok (⟨6, 0, s⟩, r)
def nameS (k : Int) (l : List UInt8) : TokE :=
  if 127 < (l.takeWhile regB).length then .error 9 else .ok (⟨k, 0, l.takeWhile regB⟩, l.dropWhile regB)
def angleS (c : UInt8) (r : List UInt8) : TokE :=
  match r with
  | d :: r' => if d = c then .ok (⟨3, 0, [c, c]⟩, r') else if c = 60 then textS (hexS none [] (d :: r')) else .error 14
  | [] => if c = 60 then textS (hexS none [] []) else .error 14
def slashS (r : List UInt8) : TokE :=
  match r with
  | d :: r' => if d = 47 then nameS 5 r' else nameS 4 (d :: r')
  | [] => nameS 4 []
def wordS (l : List UInt8) : TokE :=
  let t := tokenL (l.takeWhile regB)
  if t.e ≠ 0 then .error t.e else if t.ok then .ok (⟨t.kind, t.n, []⟩, l.dropWhile regB) else nameS 3 l
def tokS (l : List UInt8) : TokE :=
  match skipS false l with
  | [] => .ok (⟨0, 0, []⟩, [])
  | c :: r =>
    if c = 40 then textS (roundS 1 [] r)
    else if c = 41 then .error 14
    else if c = 60 ∨ c = 62 then angleS c r
    else if c = 123 then .ok (⟨7, 0, []⟩, r)
    else if c = 125 then .ok (⟨8, 0, []⟩, r)
    else if c = 91 ∨ c = 93 then .ok (⟨3, 0, [c]⟩, r)
    else if c = 47 then slashS r
    else wordS (c :: r)

end Go.Proofs.YtjghbcjnplcleaaGreatDoor
