/-
  Stacks: the rolling of the law StackActs, as lists: plain.
-/
import Derived.Test.YtnjalolknhepdaaStkC
namespace Go.Proofs.Ytnjalolknhepdaa

/-- the list after k places have been written -/
def rollX (L : List ObjV) (b N j : Nat) : Nat → List ObjV
  | 0 => L
  | k + 1 => (rollX L b N j k).set (b + (k + j) % N) (L.getD (b + k) ⟨0, false, 0, 0, [], 0, 0, 0⟩)
theorem rollX_len (L : List ObjV) (b N j : Nat) : ∀ k, (rollX L b N j k).length = L.length
  | 0 => rfl
  | k + 1 => by unfold rollX; rw [List.length_set, rollX_len L b N j k]
theorem mod_fwd (k j N : Nat) (hk : k < N) (hj : j < N) : (k + j) % N = if k + j < N then k + j else k + j - N := by
  split
  · exact Nat.mod_eq_of_lt (by assumption)
  · rw [Nat.mod_eq_sub_mod (by omega), Nat.mod_eq_of_lt (by omega)]
def rollI (N j q : Nat) : Nat := if j ≤ q then q - j else q + N - j
theorem rollX_get (L : List ObjV) (b N j : Nat) (hb : b + N = L.length) (hj : j < N) : ∀ k, k ≤ N → ∀ i, i < L.length →
    (rollX L b N j k)[i]? = if b ≤ i ∧ rollI N j (i - b) < k then L[b + rollI N j (i - b)]? else L[i]?
  | 0, _, i, _ => by unfold rollX; rw [if_neg (by omega)]
  | k + 1, hk, i, hi => by
    have ih := rollX_get L b N j hb hj k (by omega) i hi
    have hl := rollX_len L b N j k
    unfold rollX
    rw [mod_fwd k j N (by omega) hj, List.getElem?_set]
    by_cases he : b + (if k + j < N then k + j else k + j - N) = i
    · have hI : b ≤ i ∧ rollI N j (i - b) = k := by
        unfold rollI
        split at he <;> split <;> omega
      rw [if_pos he, if_pos (by rw [he, hl]; exact hi), if_pos ⟨hI.1, by omega⟩, hI.2, List.getD_eq_getElem?_getD, List.getElem?_eq_getElem (by omega)]
      rfl
    · rw [if_neg he, ih]
      have hI : b ≤ i → rollI N j (i - b) ≠ k := fun h1 h2 => he (by
        unfold rollI at h2
        split at h2 <;> split <;> omega)
      by_cases h1 : b ≤ i ∧ rollI N j (i - b) < k
      · rw [if_pos h1, if_pos ⟨h1.1, by omega⟩]
      · rw [if_neg h1, if_neg (fun h => h1 ⟨h.1, by have := hI h.1; omega⟩)]
theorem rollX_eq (L : List ObjV) (N : Nat) (J : Int) (h0 : 0 < N) (hN : N ≤ L.length) : rollX L (L.length - N) N (J % N).toNat N = rollL N J L := by
  have hj1 := Int.emod_nonneg J (show (N : Int) ≠ 0 by omega)
  have hj2 := Int.emod_lt_of_pos J (show (0 : Int) < (N : Int) by omega)
  obtain ⟨a, ha⟩ : ∃ a, a = (J % (N : Int)).toNat := ⟨_, rfl⟩
  have haN : a < N := by omega
  unfold rollL rotL
  rw [← ha]
  refine List.ext_getElem? fun i => ?_
  rcases Nat.lt_or_ge i L.length with hi | hi
  · rw [rollX_get L (L.length - N) N a (by omega) haN N (Nat.le_refl _) i hi]
    have hd : (L.drop (L.length - N)).length = N := by rw [List.length_drop]; omega
    rw [hd]
    by_cases h1 : L.length - N ≤ i
    · have hI : rollI N a (i - (L.length - N)) < N := by unfold rollI; split <;> omega
      rw [if_pos ⟨h1, hI⟩, List.getElem?_append_right (by rw [List.length_take]; omega), List.length_take, Nat.min_eq_left (by omega)]
      by_cases h2 : i - (L.length - N) < a
      · rw [List.getElem?_append_left (by rw [List.length_drop, hd]; omega), List.getElem?_drop, List.getElem?_drop]
        congr 1
        unfold rollI
        rw [if_neg (by omega)]; omega
      · rw [List.getElem?_append_right (by rw [List.length_drop, hd]; omega), List.length_drop, hd, List.getElem?_take, if_pos (by omega), List.getElem?_drop]
        congr 1
        unfold rollI
        rw [if_pos (by omega)]; omega
    · rw [if_neg (fun h => h1 h.1), List.getElem?_append_left (by rw [List.length_take]; omega), List.getElem?_take, if_pos (by omega)]
  · rw [List.getElem?_eq_none (by rw [rollX_len]; exact hi), List.getElem?_eq_none]
    simp only [List.length_append, List.length_take, List.length_drop]
    omega

end Go.Proofs.Ytnjalolknhepdaa
