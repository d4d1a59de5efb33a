/-
  Stacks: rolling, as lists.
-/
import Derived.Test.YtnjalolknhepdaaStkC
namespace Go.Proofs.Ytnjalolknhepdaa

theorem mod3 (x m : Nat) (_hm : 0 < m) (h : x < 3 * m) : x % m = if x < m then x else if x < 2 * m then x - m else x - 2 * m := by
  split
  · exact Nat.mod_eq_of_lt (by assumption)
  · rw [Nat.mod_eq_sub_mod (by omega)]
    split
    · exact Nat.mod_eq_of_lt (by omega)
    · rw [Nat.mod_eq_sub_mod (by omega), Nat.mod_eq_of_lt (by omega)]; omega
theorem rotL_len (k : Nat) (l : List ObjV) : (rotL k l).length = l.length := by
  unfold rotL; rw [List.length_append, List.length_drop, List.length_take]; omega
theorem rotL_get (k : Nat) (l : List ObjV) (hk : k ≤ l.length) (i : Nat) (hi : i < l.length) : (rotL k l)[i]? = l[(i + (l.length - k)) % l.length]? := by
  unfold rotL
  rw [mod3 _ _ (by omega) (by omega), List.getElem?_append, List.length_drop]
  split
  · rw [List.getElem?_drop, if_pos (by omega), Nat.add_comm]
  · rw [List.getElem?_take, if_pos (by omega)]
    split
    · have : k = 0 := by omega
      subst this
      omega
    · rw [if_pos (by omega)]; congr 1; omega
theorem rotL_comp (a b : Nat) (l : List ObjV) (ha : a < l.length) (hb : b < l.length) : rotL b (rotL a l) = rotL ((a + b) % l.length) l := by
  have hm : 0 < l.length := by omega
  have hk : (a + b) % l.length < l.length := Nat.mod_lt _ hm
  refine List.ext_getElem? fun i => ?_
  rcases Nat.lt_or_ge i l.length with hi | hi
  · rw [rotL_get b _ (by rw [rotL_len]; omega) i (by rw [rotL_len]; exact hi), rotL_len, rotL_get a l (by omega) _ (Nat.mod_lt _ hm), rotL_get _ l (by omega) i hi]
    congr 1
    rw [mod3 (a + b) _ hm (by omega), mod3 (i + (l.length - b)) _ hm (by omega)]
    rw [mod3 _ _ hm (by (repeat' split) <;> omega), mod3 _ _ hm (by (repeat' split) <;> omega)]
    repeat' split
    all_goals omega
  · rw [List.getElem?_eq_none (by rw [rotL_len, rotL_len]; exact hi), List.getElem?_eq_none (by rw [rotL_len]; exact hi)]
theorem rotL_zero (l : List ObjV) : rotL 0 l = l := by unfold rotL; simp
theorem rollL_len (j : Nat) (r : Int) (l : List ObjV) : (rollL j r l).length = l.length := by
  unfold rollL; rw [List.length_append, rotL_len, List.length_take, List.length_drop]; omega
theorem rollL_zero (j : Nat) (l : List ObjV) : rollL j 0 l = l := by
  unfold rollL; rw [Int.zero_emod, Int.toNat_zero, rotL_zero, List.take_append_drop]
theorem rollL_self (j : Nat) (l : List ObjV) : rollL j j l = l := by
  unfold rollL; rw [Int.emod_self, Int.toNat_zero, rotL_zero, List.take_append_drop]
theorem rollL_comp (j : Nat) (r s : Int) (l : List ObjV) (hj : j ≤ l.length) : rollL j s (rollL j r l) = rollL j (r + s) l := by
  have hL := rollL_len j r l
  have e1 : (rollL j r l).take (l.length - j) = l.take (l.length - j) := by
    unfold rollL
    rw [List.take_append_of_le_length (by rw [List.length_take]; omega), List.take_take, Nat.min_self]
  have e2 : (rollL j r l).drop (l.length - j) = rotL (r % j).toNat (l.drop (l.length - j)) := by
    unfold rollL
    rw [List.drop_append_of_le_length (by rw [List.length_take]; omega), List.drop_eq_nil_of_le (by rw [List.length_take]; omega), List.nil_append]
  rw [show rollL j s (rollL j r l) = (rollL j r l).take ((rollL j r l).length - j) ++ rotL (s % (j : Int)).toNat ((rollL j r l).drop ((rollL j r l).length - j)) from rfl, hL, e1, e2]
  unfold rollL
  congr 1
  rcases Nat.eq_zero_or_pos j with rfl | h0
  · rw [Nat.sub_zero, List.drop_length]; simp [rotL]
  · have hd : (l.drop (l.length - j)).length = j := by rw [List.length_drop]; omega
    have hr0 := Int.emod_nonneg r (show (j : Int) ≠ 0 by omega)
    have hr1 := Int.emod_lt_of_pos r (show (0 : Int) < j by omega)
    have hs0 := Int.emod_nonneg s (show (j : Int) ≠ 0 by omega)
    have hs1 := Int.emod_lt_of_pos s (show (0 : Int) < j by omega)
    rw [rotL_comp _ _ _ (by rw [hd]; omega) (by rw [hd]; omega), hd]
    congr 1
    have : (((r % j).toNat + (s % j).toNat) % j : Nat) = ((r + s) % (j : Int)).toNat := by
      rw [Int.add_emod]
      obtain ⟨x, hx⟩ := Int.eq_ofNat_of_zero_le hr0
      obtain ⟨y, hy⟩ := Int.eq_ofNat_of_zero_le hs0
      rw [hx, hy, Int.toNat_natCast, Int.toNat_natCast, ← Int.natCast_add, ← Int.natCast_emod, Int.toNat_natCast]
    exact this

end Go.Proofs.Ytnjalolknhepdaa
