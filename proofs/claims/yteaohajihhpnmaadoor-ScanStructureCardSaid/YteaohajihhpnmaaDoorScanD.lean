/-
  Plain: the lines that tell of a document.
-/
import Derived.Test.YteaohajihhpnmaaDoorScanS
import Derived.Lib.FieldsP
namespace Go.Proofs.YteaohajihhpnmaaDoor

def lineEnd (c : UInt8) : Bool := decide (c.toNat = 10) || decide (c.toNat = 13)
/-- the pieces between line ends that hold anything; cur: what is read of the one at hand -/
def fieldsS : List UInt8 → List UInt8 → List (List UInt8)
  | [], cur => if cur = [] then [] else [cur]
  | c :: r, cur => if lineEnd c then (if cur = [] then fieldsS r [] else cur :: fieldsS r []) else fieldsS r (cur ++ [c])
theorem fieldsS_run : ∀ (xs r cur : List UInt8), (∀ x ∈ xs, lineEnd x = false) → fieldsS (xs ++ r) cur = fieldsS r (cur ++ xs)
  | [], r, cur, _ => by simp
  | x :: xs, r, cur, h => by
    have h1 := h x (by simp)
    rw [List.cons_append, fieldsS, h1, if_neg (by simp), fieldsS_run xs r _ (fun y hy => h y (by simp [hy]))]
    simp
theorem fieldsS_end {c : UInt8} (r cur : List UInt8) (h : lineEnd c = true) : fieldsS (c :: r) cur = (if cur = [] then [] else [cur]) ++ fieldsS r [] := by
  rw [fieldsS, if_pos h]
  split <;> simp_all
/-- the decoder's facts -/
theorem dec_small (n b0 b1 b2 b3 : Nat) (h : b0 < 128) : Lib.decodeN n b0 b1 b2 b3 = (b0, 1) := by unfold Lib.decodeN; rw [if_pos h]
theorem dec_big (n b0 b1 b2 b3 : Nat) (h : ¬ b0 < 128) (hn : 1 ≤ n) : 128 ≤ (Lib.decodeN n b0 b1 b2 b3).1 ∧ 1 ≤ (Lib.decodeN n b0 b1 b2 b3).2 ∧ (Lib.decodeN n b0 b1 b2 b3).2 ≤ n ∧ (Lib.decodeN n b0 b1 b2 b3).2 ≤ 4 ∧
    (2 ≤ (Lib.decodeN n b0 b1 b2 b3).2 → 128 ≤ b1) ∧ (3 ≤ (Lib.decodeN n b0 b1 b2 b3).2 → 128 ≤ b2) ∧ (4 ≤ (Lib.decodeN n b0 b1 b2 b3).2 → 128 ≤ b3) := by
  unfold Lib.decodeN
  rw [if_neg h]
  split
  · split <;> (simp only; omega)
  · split
    · split <;> (simp only; omega)
    · split
      · split <;> (simp only; omega)
      · simp only; omega
theorem bs_get (l : List UInt8) (i : Nat) (h : i < l.length) : (bs l).get! i = l[i] := by
  show (l.toArray)[i]! = _
  rw [getElem!_pos l.toArray i (by simpa using h)]; simp
def curOf (l : List UInt8) : Option Nat → Nat → List UInt8
  | some a, pos => (l.drop a).take (pos - a)
  | none, _ => []
theorem curOf_grow (l : List UInt8) (st : Option Nat) (pos k : Nat) (h : ∀ a, st = some a → a < pos) : curOf l (some (st.getD pos)) (pos + k) = curOf l st pos ++ (l.drop pos).take k := by
  cases st with
  | none => simp [curOf]
  | some a =>
    have := h a rfl
    simp only [curOf, Option.getD_some]
    rw [show pos + k - a = (pos - a) + k by omega, List.take_add, List.drop_drop, show a + (pos - a) = pos by omega]
theorem curOf_ne (l : List UInt8) (a pos : Nat) (h : a < pos) (hp : pos ≤ l.length) : curOf l (some a) pos ≠ [] := by
  intro e
  have : (curOf l (some a) pos).length = 0 := by rw [e]; rfl
  simp only [curOf, List.length_take, List.length_drop] at this
  omega
def isEndR (n : Nat) : Bool := decide (n = 10) || decide (n = 13)
theorem big_end {x : UInt8} (h : 128 ≤ x.toNat) : lineEnd x = false := by
  simp only [lineEnd, Bool.or_eq_false_iff, decide_eq_false_iff_not]; omega
theorem spans_bytes (l : List UInt8) : ∀ (f pos : Nat) (st : Option Nat) (acc : List (Nat × Nat)), l.length ≤ pos + f → pos ≤ l.length → (∀ a, st = some a → a < pos) →
    (Lib.closeSpans (bs l) (Lib.spansFromP isEndR (bs l) f pos st acc)).map (fun x => (l.drop x.1).take (x.2 - x.1)) = acc.map (fun x => (l.drop x.1).take (x.2 - x.1)) ++ fieldsS (l.drop pos) (curOf l st pos) := by
  have hsz : (bs l).size = l.length := by simp [bs, ByteArray.size]
  intro f
  induction f with
  | zero =>
    intro pos st acc hf hp hst
    have : pos = l.length := by omega
    subst this
    rw [List.drop_length]
    unfold Lib.spansFromP Lib.closeSpans
    cases st with
    | none => simp [fieldsS, curOf]
    | some a =>
      have := curOf_ne l a l.length (hst a rfl) (Nat.le_refl _)
      simp only [fieldsS, if_neg this, List.map_append, List.map_cons, List.map_nil, hsz]
      rfl
  | succ f ih =>
    intro pos st acc hf hp hst
    unfold Lib.spansFromP
    by_cases hlt : pos < l.length
    · rw [if_pos (by rw [hsz]; exact hlt)]
      have hdec := Lib.decode_at (bs l) pos
      rw [hsz] at hdec
      have hb0 := bs_get l pos hlt
      -- k bytes, none of which ends a line
      have go : ∀ k, 1 ≤ k → pos + k ≤ l.length → (∀ x ∈ (l.drop pos).take k, lineEnd x = false) →
          (Lib.closeSpans (bs l) (Lib.spansFromP isEndR (bs l) f (pos + k) (some (st.getD pos)) acc)).map (fun x => (l.drop x.1).take (x.2 - x.1)) =
            acc.map (fun x => (l.drop x.1).take (x.2 - x.1)) ++ fieldsS (l.drop pos) (curOf l st pos) := by
        intro k hk hkl hrun
        have e1 : fieldsS (l.drop pos) (curOf l st pos) = fieldsS (l.drop (pos + k)) (curOf l (some (st.getD pos)) (pos + k)) := by
          rw [curOf_grow l st pos k hst, ← fieldsS_run _ _ _ hrun]
          congr 1
          rw [← List.drop_drop, List.take_append_drop]
        rw [e1]
        cases st with
        | none => exact ih (pos + k) (some pos) acc (by omega) hkl (fun a ha => by cases ha; omega)
        | some a => exact ih (pos + k) (some a) acc (by omega) hkl (fun b hb => by cases hb; have := hst a rfl; omega)
      by_cases hs : (l[pos]).toNat < 128
      · rw [hdec, hb0, dec_small _ _ _ _ _ hs]
        by_cases he : isEndR (l[pos]).toNat = true
        · rw [if_pos he]
          have hle : lineEnd l[pos] = true := he
          have e2 : fieldsS (l.drop pos) (curOf l st pos) = (if curOf l st pos = [] then [] else [curOf l st pos]) ++ fieldsS (l.drop (pos + 1)) [] := by
            rw [List.drop_eq_getElem_cons hlt, fieldsS_end _ _ hle]
          rw [e2]
          cases st with
          | none =>
            rw [if_pos (by rfl)]
            exact ih (pos + 1) none acc (by omega) (by omega) (fun a ha => by cases ha)
          | some a =>
            rw [if_neg (curOf_ne l a pos (hst a rfl) hp)]
            have := ih (pos + 1) none (acc ++ [(a, pos)]) (by omega) (by omega) (fun a ha => by cases ha)
            simp only [this, List.map_append, List.map_cons, List.map_nil, List.append_assoc]
            rfl
        · rw [if_neg he]
          have g1 := go 1 (Nat.le_refl _) (by omega) (fun x hx => by
            rw [List.drop_eq_getElem_cons hlt] at hx
            simp only [List.take_succ_cons, List.take_zero, List.mem_singleton] at hx
            subst hx
            exact eq_false_of_ne_true he)
          cases st with
          | none => exact g1
          | some a => exact g1
      · obtain ⟨h1, h2, h3, h4, h5, h6, h7⟩ := dec_big (l.length - pos) (l[pos]).toNat ((bs l).get! (pos + 1)).toNat ((bs l).get! (pos + 2)).toNat ((bs l).get! (pos + 3)).toNat hs (by omega)
        rw [hdec, hb0]
        have hne : isEndR (Lib.decodeN (l.length - pos) (l[pos]).toNat ((bs l).get! (pos + 1)).toNat ((bs l).get! (pos + 2)).toNat ((bs l).get! (pos + 3)).toNat).1 = false := by
          simp only [isEndR, Bool.or_eq_false_iff, decide_eq_false_iff_not]; omega
        rw [if_neg (by rw [hne]; simp)]
        generalize Lib.decodeN (l.length - pos) (l[pos]).toNat ((bs l).get! (pos + 1)).toNat ((bs l).get! (pos + 2)).toNat ((bs l).get! (pos + 3)).toNat = D at *
        have g1 := go D.2 h2 (by omega) (fun x hx => by
          obtain ⟨j, hj, hjx⟩ := List.mem_iff_getElem.1 hx
          rw [List.length_take, List.length_drop] at hj
          rw [List.getElem_take, List.getElem_drop] at hjx
          subst hjx
          refine big_end ?_
          match j, hj with
          | 0, _ => simp only [Nat.add_zero]; omega
          | 1, hj => have := h5 (by omega); rw [bs_get l (pos + 1) (by omega)] at this; exact this
          | 2, hj => have := h6 (by omega); rw [bs_get l (pos + 2) (by omega)] at this; exact this
          | 3, hj => have := h7 (by omega); rw [bs_get l (pos + 3) (by omega)] at this; exact this
          | j + 4, hj => omega)
        cases st with
        | none => exact g1
        | some a => exact g1
    · rw [if_neg (by rw [hsz]; exact hlt)]
      have : pos = l.length := by omega
      subst this
      rw [List.drop_length]
      unfold Lib.closeSpans
      cases st with
      | none => simp [fieldsS, curOf]
      | some a =>
        have := curOf_ne l a l.length (hst a rfl) (Nat.le_refl _)
        simp only [fieldsS, if_neg this, List.map_append, List.map_cons, List.map_nil, hsz]
        rfl
theorem goFields_bytes (l : List UInt8) : Lib.goFieldsP isEndR (bs l) = (fieldsS l []).map bs := by
  have hsz : (bs l).size = l.length := by simp [bs, ByteArray.size]
  have h := spans_bytes l (bs l).size 0 none [] (by rw [hsz]; omega) (Nat.zero_le _) (fun a ha => by cases ha)
  simp only [List.map_nil, List.nil_append, List.drop_zero, curOf] at h
  unfold Lib.goFieldsP Lib.spansOfP
  rw [← h, List.map_map]
  apply List.map_congr_left
  intro x _
  exact bs_extract l x.1 x.2
/-- a line that tells: what stands behind its two signs -/
def lineT (x : List UInt8) : Option (List UInt8) := if Lib.hasPrefix x [37, 37] || Lib.hasPrefix x [37, 33] then some (x.drop 2) else none
def structS (l : List UInt8) : List (List UInt8) := (fieldsS l []).filterMap lineT
theorem lineT_iff (x : List UInt8) : lineT x = if h : 2 ≤ x.length then (if (x[0] = 37 ∧ (x[1] = 37 ∨ x[1] = 33)) then some (x.drop 2) else none) else none := by
  match x with
  | [] => rfl
  | [a] => simp [lineT, Lib.hasPrefix]
  | a :: b :: r =>
    simp only [lineT, Lib.hasPrefix, List.isPrefixOf_cons_cons, List.isPrefixOf_nil_left, Bool.and_true, List.length_cons, List.getElem_cons_zero, List.getElem_cons_succ]
    rw [dif_pos (by omega)]
    congr 1
    simp only [Bool.or_eq_true, Bool.and_eq_true, beq_iff_eq, eq_iff_iff]
    constructor
    · rintro (⟨h1, h2⟩ | ⟨h1, h2⟩)
      · exact ⟨h1.symm, Or.inl h2.symm⟩
      · exact ⟨h1.symm, Or.inr h2.symm⟩
    · rintro ⟨h1, h2 | h2⟩
      · exact Or.inl ⟨h1.symm, h2.symm⟩
      · exact Or.inr ⟨h1.symm, h2.symm⟩

theorem fieldsS_count : ∀ (l cur : List UInt8), (fieldsS l cur).length ≤ l.length + (if cur = [] then 0 else 1)
  | [], cur => by simp only [fieldsS]; split <;> simp
  | c :: r, cur => by
    have h1 := fieldsS_count r []
    have h2 := fieldsS_count r (cur ++ [c])
    rw [if_pos rfl] at h1
    rw [if_neg (by simp)] at h2
    simp only [fieldsS, List.length_cons]
    split
    · split
      · omega
      · simp only [List.length_cons]; omega
    · split <;> omega
/-- what is read of the line at hand -/
def curA (l : List UInt8) (f i : Nat) : List UInt8 := (l.drop f).take (i - f)
theorem seg_end {l : List UInt8} {f i : Nat} (h : i = l.length ∨ ∃ hi : i < l.length, lineEnd l[i] = true) :
    (fieldsS (l.drop i) (curA l f i)).filterMap lineT = (lineT (curA l f i)).toList ++ (fieldsS (l.drop (i + 1)) []).filterMap lineT := by
  have key : ∀ (cur : List UInt8) (t : List (List UInt8)), ((if cur = [] then [] else [cur]) ++ t).filterMap lineT = (lineT cur).toList ++ t.filterMap lineT := by
    intro cur t
    split
    · next h => subst h; rfl
    · rw [List.filterMap_append]
      cases hx : lineT cur <;> simp [hx]
  rcases h with rfl | ⟨hi, he⟩
  · rw [List.drop_length, List.drop_eq_nil_of_le (by omega), ← key]
    simp [fieldsS]
  · rw [List.drop_eq_getElem_cons hi, fieldsS_end _ _ he, key]
theorem seg_go {l : List UInt8} {f i : Nat} (hf : f ≤ i) (hi : i < l.length) (he : lineEnd l[i] = false) : fieldsS (l.drop i) (curA l f i) = fieldsS (l.drop (i + 1)) (curA l f (i + 1)) := by
  rw [List.drop_eq_getElem_cons hi, fieldsS, he, if_neg (by simp)]
  congr 1
  unfold curA
  rw [show i + 1 - f = (i - f) + 1 by omega, List.take_add_one, List.getElem?_drop, show f + (i - f) = i by omega, List.getElem?_eq_getElem hi]; rfl
/-- the byte at i goes on with the line -/
def contB (l : List UInt8) (i : Nat) : Bool := decide (i < l.length) && !lineEnd l[i]!
theorem contB_t {l : List UInt8} {i : Nat} (h : contB l i = true) : ∃ hi : i < l.length, lineEnd l[i] = false := by
  unfold contB at h
  simp only [Bool.and_eq_true, decide_eq_true_eq, Bool.not_eq_true'] at h
  exact ⟨h.1, by rw [getElem!_pos l i h.1] at h; exact h.2⟩
theorem contB_f {l : List UInt8} {i : Nat} (h : contB l i = false) (hi : i ≤ l.length) : i = l.length ∨ ∃ hi : i < l.length, lineEnd l[i] = true := by
  by_cases hq : i < l.length
  · right
    unfold contB at h
    rw [decide_eq_true hq, Bool.true_and, getElem!_pos l i hq] at h
    exact ⟨hq, by simpa using h⟩
  · exact Or.inl (by omega)
/-- the line from f to i tells of the document -/
def segB (l : List UInt8) (f i : Nat) : Bool := decide (f + 2 ≤ i) && (decide ((l[f]!).toNat = 37) && (decide ((l[f + 1]!).toNat = 37) || decide ((l[f + 1]!).toNat = 33)))
theorem curA_line {l : List UInt8} {f i : Nat} (hi : i ≤ l.length) : lineT (curA l f i) = if segB l f i then some ((l.drop (f + 2)).take (i - (f + 2))) else none := by
  have hlen : (curA l f i).length = i - f := by unfold curA; rw [List.length_take, List.length_drop]; omega
  rw [lineT_iff]
  by_cases h : f + 2 ≤ i
  · rw [dif_pos (by omega)]
    have e0 : (curA l f i)[0]'(by omega) = l[f]'(by omega) := by simp [curA]
    have e1 : (curA l f i)[1]'(by omega) = l[f + 1]'(by omega) := by simp [curA]
    have e2 : (curA l f i).drop 2 = (l.drop (f + 2)).take (i - (f + 2)) := by
      unfold curA
      rw [List.drop_take, List.drop_drop, show i - f - 2 = i - (f + 2) by omega]
    rw [e0, e1, e2]
    unfold segB
    rw [decide_eq_true h, Bool.true_and, getElem!_pos l f (by omega), getElem!_pos l (f + 1) (by omega)]
    have q : ∀ (x : UInt8) (n : UInt8), x = n ↔ x.toNat = n.toNat := fun x n => UInt8.toNat_inj.symm
    simp only [q, Bool.and_eq_true, Bool.or_eq_true, decide_eq_true_eq]
    rfl
  · rw [dif_neg (by omega)]
    unfold segB
    rw [decide_eq_false h]; rfl

end Go.Proofs.YteaohajihhpnmaaDoor
