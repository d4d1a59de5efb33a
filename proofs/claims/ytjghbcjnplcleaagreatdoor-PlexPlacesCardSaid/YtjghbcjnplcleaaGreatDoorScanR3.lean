/-
  Scan: the reference's functions on bytes, third part: round brackets.
-/
import Derived.Test.YtjghbcjnplcleaaGreatDoorScanR2
namespace Go.Proofs.YtjghbcjnplcleaaGreatDoor
open Go.RowKit

/-- a line feed stands there -/
def lfB (l : List UInt8) (t : Nat) : Bool := decide (t < l.length) && decide (((l[t]!).toNat : Int) = 10)
theorem lfB_t {l : List UInt8} {t : Nat} (h : lfB l t = true) : t < l.length ∧ dropLF (l.drop t) = l.drop (t + 1) := by
  unfold lfB at h
  simp only [Bool.and_eq_true, decide_eq_true_eq] at h
  obtain ⟨h1, h2⟩ := h
  rw [getElem!_pos l t h1] at h2
  have h3 : l[t] = 10 := u8_eq h2
  refine ⟨h1, ?_⟩
  rw [List.drop_eq_getElem_cons h1]
  simp [dropLF, h3]
theorem lfB_f {l : List UInt8} {t : Nat} (h : lfB l t = false) : dropLF (l.drop t) = l.drop t := by
  by_cases h1 : t < l.length
  · unfold lfB at h
    rw [decide_eq_true h1, Bool.true_and, getElem!_pos l t h1] at h
    have h3 : l[t] ≠ 10 := u8_ne (of_decide_eq_false h)
    rw [List.drop_eq_getElem_cons h1]
    simp [dropLF, h3]
  · rw [List.drop_eq_nil_of_le (by omega)]; rfl
/-- one more octal digit -/
def octT (l : List UInt8) (k t : Nat) : Bool := decide (k < 2) && (decide (t < l.length) && (decide (48 ≤ ((l[t]!).toNat : Int)) && decide (((l[t]!).toNat : Int) ≤ 55)))
theorem octT_t {l : List UInt8} {k t : Nat} (h : octT l k t = true) : k < 2 ∧ ∃ ht : t < l.length, 48 ≤ (l[t]'ht).toNat ∧ (l[t]'ht).toNat ≤ 55 ∧ ∀ n, octS (2 - k) n (l.drop t) = octS (2 - (k + 1)) (8 * n + ((l[t]'ht).toNat - 48)) (l.drop (t + 1)) := by
  unfold octT at h
  simp only [Bool.and_eq_true, decide_eq_true_eq] at h
  obtain ⟨h0, h1, h2, h3⟩ := h
  rw [getElem!_pos l t h1] at h2 h3
  refine ⟨h0, h1, by omega, by omega, fun n => ?_⟩
  rw [List.drop_eq_getElem_cons h1, show 2 - k = (2 - (k + 1)) + 1 by omega]
  have : octB l[t] = true := by simp [octB]; omega
  simp only [octS]
  rw [if_pos this]
theorem octT_f {l : List UInt8} {k t : Nat} (h : octT l k t = false) (n : Nat) : octS (2 - k) n (l.drop t) = (n, l.drop t) := by
  by_cases h0 : k < 2
  · rw [show 2 - k = (2 - (k + 1)) + 1 by omega]
    by_cases h1 : t < l.length
    · rw [List.drop_eq_getElem_cons h1]
      unfold octT at h
      rw [decide_eq_true h0, Bool.true_and, decide_eq_true h1, Bool.true_and, getElem!_pos l t h1] at h
      have : octB l[t] = false := by
        unfold octB
        rw [← h]; congr 1 <;> exact decide_eq_decide.2 (by omega)
      simp only [octS]
      rw [if_neg (by rw [this]; simp)]
    · rw [List.drop_eq_nil_of_le (by omega)]; rfl
  · rw [show 2 - k = 0 by omega]; rfl
theorem roundS_at (d : Nat) (o l : List UInt8) (s : Nat) (h : s < l.length) : roundS d o (l.drop s) =
    if l[s] = 40 then roundS (d + 1) (o ++ [l[s]]) (l.drop (s + 1))
    else if l[s] = 41 then (if d = 1 then some (o, l.drop (s + 1)) else roundS (d - 1) (o ++ [l[s]]) (l.drop (s + 1)))
    else if l[s] = 92 then
      match l.drop (s + 1) with
      | [] => none
      | e :: r' => roundS d (o ++ (escS e r').1) (escS e r').2
    else if l[s] = 13 then roundS d (o ++ [10]) (dropLF (l.drop (s + 1)))
    else roundS d (o ++ [l[s]]) (l.drop (s + 1)) := by
  rw [List.drop_eq_getElem_cons h]
  exact roundS.eq_def d o (l[s] :: l.drop (s + 1))
theorem round_step {d d1 d2 s t : Nat} {o l : List UInt8} {x c : UInt8} (h : s < l.length) (hx : x = l[s]) (h1 : d1 = (if x = 40 then d + 1 else d)) (h2 : x = 41 ∧ d1 = d2 + 1 ∧ 1 ≤ d2 ∨ x ≠ 41 ∧ d2 = d1)
    (h3 : x = 13 ∧ c = 10 ∧ l.drop t = dropLF (l.drop (s + 1)) ∨ x ≠ 13 ∧ c = x ∧ t = s + 1) (hc : c ≠ 92) : roundS d o (l.drop s) = roundS d2 (o ++ [c]) (l.drop t) := by
  rw [roundS_at d o l s h, ← hx]
  by_cases h40 : x = 40
  · subst h40
    rw [if_pos rfl] at h1 ⊢
    obtain ⟨-, rfl⟩ := h2.resolve_left (fun h => by cases h.1)
    obtain ⟨-, rfl, rfl⟩ := h3.resolve_left (fun h => by cases h.1)
    rw [h1]
  · rw [if_neg h40] at h1 ⊢
    subst h1
    by_cases h41 : x = 41
    · subst h41
      rw [if_pos rfl]
      obtain ⟨-, hd, h12⟩ := h2.resolve_right (fun h => h.1 rfl)
      obtain ⟨-, rfl, rfl⟩ := h3.resolve_left (fun h => by cases h.1)
      rw [if_neg (by omega), show d1 - 1 = d2 by omega]
    · rw [if_neg h41]
      obtain ⟨-, rfl⟩ := h2.resolve_left (fun h => h41 h.1)
      by_cases h13 : x = 13
      · subst h13
        obtain ⟨-, rfl, ht⟩ := h3.resolve_right (fun h => h.1 rfl)
        rw [if_neg (by decide), if_pos rfl, ht]
      · obtain ⟨-, rfl, rfl⟩ := h3.resolve_left (fun h => h13 h.1)
        rw [if_neg hc, if_neg h13]
theorem round_esc {d d1 d2 s t : Nat} {l : List UInt8} {x c : UInt8} (h : s < l.length) (hx : x = l[s]) (h1 : d1 = (if x = 40 then d + 1 else d)) (h2 : x = 41 ∧ d1 = d2 + 1 ∧ 1 ≤ d2 ∨ x ≠ 41 ∧ d2 = d1)
    (h3 : x = 13 ∧ c = 10 ∧ l.drop t = dropLF (l.drop (s + 1)) ∨ x ≠ 13 ∧ c = x ∧ t = s + 1) (hc : c = 92) : d2 = d ∧ t = s + 1 ∧ (∀ ht : s + 1 < l.length, ∀ o, roundS d o (l.drop s) = roundS d (o ++ (escS (l[s + 1]'ht) (l.drop (s + 2))).1) (escS (l[s + 1]'ht) (l.drop (s + 2))).2) ∧ (l.length ≤ s + 1 → ∀ o, roundS d o (l.drop s) = none) := by
  have hx2 : x = 92 := by
    rcases h3 with ⟨_, rfl, _⟩ | ⟨_, rfl, _⟩
    · cases hc
    · exact hc
  have ht : t = s + 1 := by
    rcases h3 with ⟨_, rfl, _⟩ | ⟨_, _, ht⟩
    · cases hc
    · exact ht
  subst hx2
  rw [if_neg (by decide)] at h1
  obtain ⟨-, rfl⟩ := h2.resolve_left (fun h => by cases h.1)
  refine ⟨h1, ht, fun hl o => ?_, fun hl o => ?_⟩
  · rw [roundS_at d o l s h, ← hx, if_neg (by decide), if_neg (by decide), if_pos rfl, List.drop_eq_getElem_cons hl]
  · rw [roundS_at d o l s h, ← hx, if_neg (by decide), if_neg (by decide), if_pos rfl, List.drop_eq_nil_of_le hl]

theorem esc110 (r : List UInt8) : escS 110 r = ([10], r) := rfl
theorem esc114 (r : List UInt8) : escS 114 r = ([13], r) := rfl
theorem esc116 (r : List UInt8) : escS 116 r = ([9], r) := rfl
theorem esc98 (r : List UInt8) : escS 98 r = ([8], r) := rfl
theorem esc102 (r : List UInt8) : escS 102 r = ([12], r) := rfl
theorem esc10 (r : List UInt8) : escS 10 r = ([], r) := rfl
theorem esc13 (r : List UInt8) : escS 13 r = ([], dropLF r) := rfl
theorem esc_oct {y : UInt8} (r : List UInt8) (h1 : 48 ≤ (y.toNat : Int)) (h2 : (y.toNat : Int) ≤ 55) : escS y r = ([ch ((octS 2 (y.toNat - 48) r).1 % 256 : Nat)], (octS 2 (y.toNat - 48) r).2) := by
  have ne : ∀ c : UInt8, (c.toNat < 48 ∨ 55 < c.toNat) → y ≠ c := fun c hc e => by subst e; omega
  unfold escS
  rw [if_neg (ne 110 (by decide)), if_neg (ne 114 (by decide)), if_neg (ne 116 (by decide)), if_neg (ne 98 (by decide)), if_neg (ne 102 (by decide)), if_neg (ne 10 (by decide)), if_neg (ne 13 (by decide)),
    if_pos (by simp only [octB, Bool.and_eq_true, decide_eq_true_eq]; omega)]
theorem esc_else {y : UInt8} (r : List UInt8) (h1 : ¬ (y.toNat : Int) = 110) (h2 : ¬ (y.toNat : Int) = 114) (h3 : ¬ (y.toNat : Int) = 116) (h4 : ¬ (y.toNat : Int) = 98) (h5 : ¬ (y.toNat : Int) = 102) (h6 : ¬ (y.toNat : Int) = 10) (h7 : ¬ (y.toNat : Int) = 13)
    (h8 : ¬ (48 ≤ (y.toNat : Int) ∧ (y.toNat : Int) ≤ 55)) : escS y r = ([y], r) := by
  unfold escS
  rw [if_neg (u8_ne (d := 110) h1), if_neg (u8_ne (d := 114) h2), if_neg (u8_ne (d := 116) h3), if_neg (u8_ne (d := 98) h4), if_neg (u8_ne (d := 102) h5), if_neg (u8_ne (d := 10) h6), if_neg (u8_ne (d := 13) h7),
    if_neg (by simp only [octB, Bool.and_eq_true, decide_eq_true_eq]; omega)]

theorem ref_Round (p : Option Addr) (l : List UInt8) (c a : Nat) (w : World) (hb : BytesAt w p l) (ha : a ≤ l.length) (hl : l.length ≤ 1000000) :
    Calls Tryz.prog 155 #[.slice p l.length c, .int .i64 (a : Int)] w fun e w' => ∃ v, e = .returned v ∧ Below w.heap.size w w' ∧ ∃ u at' err, v = .tuple #[u, .int .i64 at', .int .i64 err] ∧ StrOk w' w.heap.size l (roundS 1 [] (l.drop (a + 1))) u at' err := by
  obtain ⟨R, hR⟩ : ∃ R, R = roundS 1 [] (l.drop (a + 1)) := ⟨_, rfl⟩
  rw [← hR]
  have hvB : 0 < l.length → (pA p).block < w.heap.size := hb.lt
  refine W.enter Tryz.func155 rfl Tryz.ntmps155 (Nat.le_of_ble_eq_true rfl) ?_
  have hB0 := Below.refl (w.heap.size) w
  refine W.seq ?_
  refine W.reg ?_ -- 0
  refine WL.p (.as rfl) rfl <| WL.p (.as rfl) rfl <| WL.p (.as rfl) rfl <| WL.nil <| ?_
  refine W.seq ?_
  refine W.reg ?_ -- 1
  refine WL.p (.as rfl) rfl <| WL.nil <| ?_
  refine W.seq ?_
  refine W.reg ?_ -- 2
  refine WL.p (.as rfl) rfl <| WL.nil <| ?_
  refine W.seq ?_
  refine W.reg ?_ -- 3
  refine WL.p (.mv rfl) rfl <| WL.p (.add rfl rfl (i64w (by omega))) rfl <| WL.p (.as rfl) rfl <| WL.nil <| ?_
  refine W.block ?_
  -- loop 1: writes [4, 5, 6, 7, 8, 9, 10, 11, 12, 15, 16, 17, 18, 19, 20, 21, 22, 23, 24, 25, 26, 27, 28, 29, 30, 31, 32, 33, 34, 35, 36, 37, 38, 39, 40, 41, 42, 43, 44, 45, 46, 47, 48, 49, 50, 51, 52, 53, 54, 55, 56, 57, 58, 59, 60, 61, 62, 63, 64, 65, 66, 67, 68, 69, 70, 71, 72, 73, 74, 75, 76, 77, 78, 79, 80, 81, 82, 83, 84, 85, 86, 87, 88, 89, 90, 91, 92, 93, 94, 95, 96, 97, 98, 99, 100, 101, 102, 103, 104, 105, 106, 107, 108, 109, 110, 111, 112, 113, 114, 115, 116, 117, 118, 119, 120, 121, 122, 123, 124, 125, 126, 127, 128, 129, 130, 131, 132, 133, 134, 135, 136, 137, 138, 139, 140, 141, 142, 143, 144, 145, 146, 147, 148, 149, 150, 151, 152, 153, 154, 155, 156, 157, 158, 159, 160, 161, 162, 163, 164, 165, 166, 167, 168, 169, 170, 171]; reads from outside [0, 7, 8, 9]
  refine W.loop (α := Value × List UInt8 × Nat × Nat) (fun t => [(0, .slice p l.length c), (7, t.1), (8, .int .i64 (t.2.2.1 : Int)), (9, .int .i64 (t.2.2.2 : Int))]) (fun t w' => Below w.heap.size w w' ∧ BytesAt w' p l ∧ Own 5 w.heap.size w' t.1 (byteVals t.2.1) ∧ roundS t.2.2.1 t.2.1 (l.drop t.2.2.2) = R ∧ 1 ≤ t.2.2.1 ∧ t.2.2.1 ≤ t.2.2.2 ∧ t.2.1.length ≤ t.2.2.2 ∧ t.2.2.2 ≤ l.length + 1) (fun t => l.length + 1 - t.2.2.2) ((.slice none 0 0, [], 1, a + 1)) ⟨rfl, rfl, rfl, lk_i rfl (by ((try simp only) <;> omega)), trivial⟩ (⟨Below.refl _ _, hb, Own.nil _ _ _, hR.symm, Nat.le_refl _, by ((try simp only) <;> omega), Nat.zero_le _, by ((try simp only) <;> omega)⟩) (fun t w1 hR => ?_)
  obtain ⟨v, o, d, s⟩ := t
  obtain ⟨hB', hbv, hown, hw, hd1, hds, hol, ht⟩ := hR
  simp only at hB' hbv hown hw hd1 hds hol ht ⊢
  refine W.block ?_
  refine W.seq ?_
  refine W.seq ?_
  refine W.reg ?_ -- 4
  refine WL.p (.mv rfl) rfl <| WL.p (.mv rfl) rfl <| WL.p (.lenS Tryz.underlying22 rfl) rfl <| WL.p (.geq rfl rfl) rfl <| WL.nil <| ?_
  refine W.cond rfl (fun h1 => ?_) (fun h1 => ?_) -- slot 18
  · have h1' := of_decide_eq_true h1
    refine W.seq ?_
    refine W.reg ?_ -- 5
    refine WL.p (.as rfl) rfl <| WL.p (.as rfl) rfl <| WL.p (.as rfl) rfl <| WL.nil <| ?_
    refine W.ret (W.ret3 rfl rfl rfl rfl ?_)
    first
    | exact ⟨_, rfl, hB', _, _, _, rfl, by rw [← hw, roundS_at d o l s hlt, ← hx, if_neg (by rintro rfl; cases u8_eq (c := 40) (d := 41) (by assumption)), if_pos (u8_eq (by assumption)), if_pos (by omega)]; exact ⟨rfl, hown, by omega, s + 1, by omega, by omega, rfl⟩⟩
    | exact ⟨_, rfl, hB', _, _, _, rfl, by rw [← hw, hend (by omega)]; exact rfl⟩
    | exact ⟨_, rfl, hB', _, _, _, rfl, by rw [← hw, List.drop_eq_nil_of_le (by omega), roundS.eq_def]; exact rfl⟩
  · have h1' := of_decide_eq_false h1
    refine W.skip ?_
    refine W.seq ?_
    have hlt : s < l.length := by omega
    obtain ⟨x, hx⟩ : ∃ x, x = l[s]'hlt := ⟨_, rfl⟩
    refine W.reg ?_ -- 6
    refine WL.p (.mv rfl) rfl <| WL.p (.mv rfl) rfl <| WL.p (.ixb Tryz.underlying22 Tryz.sizeOf5 rfl rfl (hbv.isp (by omega)) _ rfl (by omega)) rfl <| WL.r (Rd.ldc (Tryz.isAgg5 _) rfl (hbv.cells _ (by omega))) rfl <| WL.p (.as rfl) rfl <| WL.nil <| ?_
    refine W.seq ?_
    refine W.reg ?_ -- 7
    refine WL.p (.mv rfl) rfl <| WL.p (.add rfl rfl (i64w (by omega))) rfl <| WL.p (.as rfl) rfl <| WL.nil <| ?_
    refine W.cut (α := Nat) (fun t => [(0, .slice p l.length c), (7, v), (8, .int .i64 (t : Int)), (9, .int .i64 ((s + 1 : Nat) : Int)), (10, .int .u8 (x.toNat : Int))]) (fun t w' => w1 = w' ∧ t = (if x = 40 then d + 1 else d)) ?_ (fun t w1 hR => ?_)
    · skip
      refine W.seq ?_
      refine W.reg ?_ -- 8
      refine WL.p (.mv rfl) rfl <| WL.p (.eql rfl rfl) rfl <| WL.nil <| ?_
      refine W.cond rfl (fun h2 => ?_) (fun h2 => ?_) -- slot 26
      · have h2' := of_decide_eq_true h2
        refine W.reg ?_ -- 9
        refine WL.p (.mv rfl) rfl <| WL.p (.add rfl rfl (i64w (by omega))) rfl <| WL.p (.as rfl) rfl <| WL.nil <| ?_
        -- join 26.meet/1
        first
        | exact ⟨d + 1, ⟨rfl, rfl, lk_i rfl (by ((try simp only) <;> omega)), lk_i rfl (by ((try simp only) <;> omega)), lk_i rfl (by rw [hx]), trivial⟩, rfl, by rw [if_pos (u8_eq (by rw [hx]; assumption))]⟩
        | exact ⟨d, ⟨rfl, rfl, lk_i rfl (by ((try simp only) <;> omega)), lk_i rfl (by ((try simp only) <;> omega)), lk_i rfl (by rw [hx]), trivial⟩, rfl, by rw [if_neg (u8_ne (by rw [hx]; assumption))]⟩
        -- met
      · have h2' := of_decide_eq_false h2
        refine W.skip ?_
        -- join 26.meet/2
        first
        | exact ⟨d + 1, ⟨rfl, rfl, lk_i rfl (by ((try simp only) <;> omega)), lk_i rfl (by ((try simp only) <;> omega)), lk_i rfl (by rw [hx]), trivial⟩, rfl, by rw [if_pos (u8_eq (by rw [hx]; assumption))]⟩
        | exact ⟨d, ⟨rfl, rfl, lk_i rfl (by ((try simp only) <;> omega)), lk_i rfl (by ((try simp only) <;> omega)), lk_i rfl (by rw [hx]), trivial⟩, rfl, by rw [if_neg (u8_ne (by rw [hx]; assumption))]⟩
        -- met
    obtain ⟨d1, rfl⟩ : ∃ d1, d1 = t := ⟨t, rfl⟩
    obtain ⟨rfl, hj1⟩ := hR
    have hj1' : d ≤ d1 ∧ d1 ≤ d + 1 := by rw [hj1]; split <;> omega
    refine W.cut (α := Nat) (fun t => [(0, .slice p l.length c), (7, v), (8, .int .i64 (t : Int)), (9, .int .i64 ((s + 1 : Nat) : Int)), (10, .int .u8 (x.toNat : Int))]) (fun t w' => w1 = w' ∧ t ≤ d1 ∧ 1 ≤ t ∧ (x = 41 ∧ d1 = t + 1 ∧ 1 ≤ t ∨ x ≠ 41 ∧ t = d1)) ?_ (fun t w1 hR => ?_)
    · skip
      refine W.seq ?_
      refine W.reg ?_ -- 10
      refine WL.p (.mv rfl) rfl <| WL.p (.eql rfl rfl) rfl <| WL.nil <| ?_
      refine W.cond rfl (fun h3 => ?_) (fun h3 => ?_) -- slot 30
      · have h3' := of_decide_eq_true h3
        refine W.seq ?_
        refine W.reg ?_ -- 11
        refine WL.p (.mv rfl) rfl <| WL.p (.sub rfl rfl (i64w (by omega))) rfl <| WL.p (.as rfl) rfl <| WL.nil <| ?_
        refine W.seq ?_
        refine W.reg ?_ -- 12
        refine WL.p (.mv rfl) rfl <| WL.p (.eql rfl rfl) rfl <| WL.nil <| ?_
        refine W.cond rfl (fun h4 => ?_) (fun h4 => ?_) -- slot 34
        · have h4' := of_decide_eq_true h4
          refine W.seq ?_
          refine W.reg ?_ -- 13
          refine WL.p (.mv rfl) rfl <| WL.p (.mv rfl) rfl <| WL.p (.as rfl) rfl <| WL.p (.as rfl) rfl <| WL.p (.as rfl) rfl <| WL.nil <| ?_
          refine W.ret (W.ret3 rfl rfl rfl rfl ?_)
          first
          | exact ⟨_, rfl, hB', _, _, _, rfl, by rw [← hw, roundS_at d o l s hlt, ← hx, if_neg (by rintro rfl; cases u8_eq (c := 40) (d := 41) (by assumption)), if_pos (u8_eq (by assumption)), if_pos (by omega)]; exact ⟨rfl, hown, by omega, s + 1, by omega, by omega, rfl⟩⟩
          | exact ⟨_, rfl, hB', _, _, _, rfl, by rw [← hw, hend (by omega)]; exact rfl⟩
          | exact ⟨_, rfl, hB', _, _, _, rfl, by rw [← hw, List.drop_eq_nil_of_le (by omega), roundS.eq_def]; exact rfl⟩
        · have h4' := of_decide_eq_false h4
          refine W.skip ?_
          -- join 30.meet/1
          first
          | exact ⟨d1 - 1, ⟨rfl, rfl, lk_i rfl (by ((try simp only) <;> omega)), lk_i rfl (by ((try simp only) <;> omega)), rfl, trivial⟩, rfl, by omega, by omega, Or.inl ⟨u8_eq (by assumption), by omega, by omega⟩⟩
          | exact ⟨d1, ⟨rfl, rfl, lk_i rfl (by ((try simp only) <;> omega)), lk_i rfl (by ((try simp only) <;> omega)), rfl, trivial⟩, rfl, by omega, by omega, Or.inr ⟨u8_ne (by assumption), rfl⟩⟩
          -- met
      · have h3' := of_decide_eq_false h3
        refine W.skip ?_
        -- join 30.meet/2
        first
        | exact ⟨d1 - 1, ⟨rfl, rfl, lk_i rfl (by ((try simp only) <;> omega)), lk_i rfl (by ((try simp only) <;> omega)), rfl, trivial⟩, rfl, by omega, by omega, Or.inl ⟨u8_eq (by assumption), by omega, by omega⟩⟩
        | exact ⟨d1, ⟨rfl, rfl, lk_i rfl (by ((try simp only) <;> omega)), lk_i rfl (by ((try simp only) <;> omega)), rfl, trivial⟩, rfl, by omega, by omega, Or.inr ⟨u8_ne (by assumption), rfl⟩⟩
        -- met
    obtain ⟨d2, rfl⟩ : ∃ d2, d2 = t := ⟨t, rfl⟩
    obtain ⟨rfl, hj2', hj2'', hj2⟩ := hR
    refine W.cut (α := Nat × UInt8) (fun t => [(0, .slice p l.length c), (7, v), (8, .int .i64 (d2 : Int)), (9, .int .i64 (t.1 : Int)), (10, .int .u8 (t.2.toNat : Int))]) (fun t w' => w1 = w' ∧ s + 1 ≤ t.1 ∧ t.1 ≤ l.length ∧ (x = 13 ∧ t.2 = 10 ∧ l.drop t.1 = dropLF (l.drop (s + 1)) ∨ x ≠ 13 ∧ t.2 = x ∧ t.1 = s + 1)) ?_ (fun t w1 hR => ?_)
    · skip
      refine W.seq ?_
      refine W.reg ?_ -- 14
      refine WL.p (.mv rfl) rfl <| WL.p (.eql rfl rfl) rfl <| WL.nil <| ?_
      refine W.cond rfl (fun h5 => ?_) (fun h5 => ?_) -- slot 38
      · have h5' := of_decide_eq_true h5
        refine W.seq ?_
        refine W.cutB 49 (lfB l (s + 1)) ?_ ?_
        · skip
          refine W.reg ?_ -- 15
          refine WL.p (.mv rfl) rfl <| WL.p (.mv rfl) rfl <| WL.p (.lenS Tryz.underlying22 rfl) rfl <| WL.p (.lss rfl rfl) rfl <| WL.p (.mv rfl) rfl <| WL.gd rfl rfl rfl (fun g6 => ?_) (fun g6 => ?_)
          · have g6' := of_decide_eq_true g6
            refine WL.p (.mv rfl) rfl <| WL.gy rfl rfl rfl g6 <| WL.p (.mv rfl) rfl <| WL.gy rfl rfl rfl g6 <| WL.p (.ixb Tryz.underlying22 Tryz.sizeOf5 rfl rfl (hbv.isp (by omega)) _ rfl (by omega)) rfl <| WL.gy rfl rfl rfl g6 <| WL.r (Rd.ldc (Tryz.isAgg5 _) rfl (hbv.cells _ (by omega))) rfl <| WL.gy rfl rfl rfl g6 <| WL.p (.eql rfl rfl) rfl <| WL.p (.pkT rfl g6 rfl) rfl <| WL.nil <| ?_
            exact ⟨⟨lk_b rfl (by (by_cases hq : s + 1 < l.length) <;> (unfold lfB; first | (exfalso; omega) | (rw [getElem!_pos l (s + 1) hq]; simp_all; done) | (rw [decide_eq_false hq]; simp_all; done))), by repeat (first | exact Le.refl _ | refine Le.cons rfl ?_)⟩, rfl⟩
          · have g6' := of_decide_eq_false g6
            refine WL.gn rfl rfl rfl g6 <| WL.gn rfl rfl rfl g6 <| WL.gn rfl rfl rfl g6 <| WL.gn rfl rfl rfl g6 <| WL.p (.pkF rfl g6 rfl) rfl <| WL.nil <| ?_
            exact ⟨⟨lk_b rfl (by (by_cases hq : s + 1 < l.length) <;> (unfold lfB; first | (exfalso; omega) | (rw [getElem!_pos l (s + 1) hq]; simp_all; done) | (rw [decide_eq_false hq]; simp_all; done))), by repeat (first | exact Le.refl _ | refine Le.cons rfl ?_)⟩, rfl⟩
        refine W.cond rfl (fun h7 => ?_) (fun h7 => ?_) -- slot 49
        · have h7' := h7
          refine W.reg ?_ -- 16
          refine WL.p (.mv rfl) rfl <| WL.p (.add rfl rfl (i64w (by omega))) rfl <| WL.p (.as rfl) rfl <| WL.nil <| ?_
          refine W.reg ?_ -- 17
          refine WL.p (.as rfl) rfl <| WL.nil <| ?_
          -- join 38.meet/1
          first
          | exact ⟨(s + 2, 10), ⟨rfl, rfl, rfl, lk_i rfl (by ((try simp only) <;> omega)), rfl, trivial⟩, rfl, by ((try simp only) <;> omega), (by have := (lfB_t (by assumption)).1; ((try simp only) <;> omega)), Or.inl ⟨u8_eq (by assumption), rfl, ((lfB_t (by assumption)).2).symm⟩⟩
          | exact ⟨(s + 1, 10), ⟨rfl, rfl, rfl, lk_i rfl (by ((try simp only) <;> omega)), rfl, trivial⟩, rfl, by ((try simp only) <;> omega), by ((try simp only) <;> omega), Or.inl ⟨u8_eq (by assumption), rfl, (lfB_f (by assumption)).symm⟩⟩
          | exact ⟨(s + 1, x), ⟨rfl, rfl, rfl, lk_i rfl (by ((try simp only) <;> omega)), rfl, trivial⟩, rfl, by ((try simp only) <;> omega), by ((try simp only) <;> omega), Or.inr ⟨u8_ne (by assumption), rfl, rfl⟩⟩
          -- met
        · have h7' := h7
          refine W.skip ?_
          refine W.reg ?_ -- 17
          refine WL.p (.as rfl) rfl <| WL.nil <| ?_
          -- join 38.meet/2
          first
          | exact ⟨(s + 2, 10), ⟨rfl, rfl, rfl, lk_i rfl (by ((try simp only) <;> omega)), rfl, trivial⟩, rfl, by ((try simp only) <;> omega), (by have := (lfB_t (by assumption)).1; ((try simp only) <;> omega)), Or.inl ⟨u8_eq (by assumption), rfl, ((lfB_t (by assumption)).2).symm⟩⟩
          | exact ⟨(s + 1, 10), ⟨rfl, rfl, rfl, lk_i rfl (by ((try simp only) <;> omega)), rfl, trivial⟩, rfl, by ((try simp only) <;> omega), by ((try simp only) <;> omega), Or.inl ⟨u8_eq (by assumption), rfl, (lfB_f (by assumption)).symm⟩⟩
          | exact ⟨(s + 1, x), ⟨rfl, rfl, rfl, lk_i rfl (by ((try simp only) <;> omega)), rfl, trivial⟩, rfl, by ((try simp only) <;> omega), by ((try simp only) <;> omega), Or.inr ⟨u8_ne (by assumption), rfl, rfl⟩⟩
          -- met
      · have h5' := of_decide_eq_false h5
        refine W.skip ?_
        -- join 38.meet/3
        first
        | exact ⟨(s + 2, 10), ⟨rfl, rfl, rfl, lk_i rfl (by ((try simp only) <;> omega)), rfl, trivial⟩, rfl, by ((try simp only) <;> omega), (by have := (lfB_t (by assumption)).1; ((try simp only) <;> omega)), Or.inl ⟨u8_eq (by assumption), rfl, ((lfB_t (by assumption)).2).symm⟩⟩
        | exact ⟨(s + 1, 10), ⟨rfl, rfl, rfl, lk_i rfl (by ((try simp only) <;> omega)), rfl, trivial⟩, rfl, by ((try simp only) <;> omega), by ((try simp only) <;> omega), Or.inl ⟨u8_eq (by assumption), rfl, (lfB_f (by assumption)).symm⟩⟩
        | exact ⟨(s + 1, x), ⟨rfl, rfl, rfl, lk_i rfl (by ((try simp only) <;> omega)), rfl, trivial⟩, rfl, by ((try simp only) <;> omega), by ((try simp only) <;> omega), Or.inr ⟨u8_ne (by assumption), rfl, rfl⟩⟩
        -- met
    obtain ⟨s1, x1⟩ := t
    obtain ⟨rfl, hj3', hj3'', hj3⟩ := hR
    simp only at hj3' hj3'' hj3 ⊢
    refine W.seq ?_
    refine W.seq ?_
    refine W.reg ?_ -- 18
    refine WL.p (.mv rfl) rfl <| WL.p (.neq rfl rfl) rfl <| WL.nil <| ?_
    refine W.cond rfl (fun h8 => ?_) (fun h8 => ?_) -- slot 53
    · have h8' := ndT h8
      have hstep := fun o => round_step (o := o) hlt hx hj1 hj2 hj3 (u8_ne (by assumption))
      refine W.seq ?_
      refine W.reg ?_ -- 19
      refine WL.p (.mv rfl) rfl <| WL.p (.mv rfl) rfl <| WL.bsl (ps := _) Tryz.underlying22 Tryz.sizeOf5 Tryz.zeroValue5 rfl rfl rfl rfl rfl (by simp only [put1, List.map, List.zip, List.zipWith, List.set, List.replicate] <;> rfl) rfl (fun b9 wb9 eb9 hkb9 hub9 hsb9 => ?_)
      have ho10 := Own.new hown eb9 hub9
      have hvl12 := fun h0 => eb9 ▸ hbv.lt h0
      have hv11 := BytesAt.upd hbv hub9 (fun h0 => Nat.ne_of_lt (hvl12 h0))
      have hB13 := Upd.below hB' (by rw [eb9]; exact hB'.size) hub9
      have hgeb9 : w.heap.size ≤ b9 := by rw [eb9]; exact hB'.size
      refine WL.appm Tryz.underlying22 inf5 rfl rfl rfl ho10 rfl hkb9 rfl (by rw [byteVals_len]; omega) (hB13.size) rfl (fun v14 w15 how15 hbw15 hgw15 => ?_)
      have hv16 := BytesAt.below hv11 hbw15 hvB
      have hB17 := Below.trans hB13 (hbw15.mono (Nat.le_refl _))
      have ho18 := Own.snoc how15 (x1) (rfl)
      refine WL.p (.as rfl) rfl <| WL.nil <| ?_
      refine W.exit ?_ -- 1
      first
      | exact ⟨(_, o ++ [x1], d2, s1), ⟨rfl, rfl, rfl, lk_i rfl (by ((try simp only) <;> omega)), trivial⟩, ⟨hB17, hv16, ho18, (by rw [← hw, hstep o]), by ((try simp only) <;> omega), by ((try simp only) <;> omega), by (simp only [List.length_append, List.length_cons, List.length_nil]; omega), by ((try simp only) <;> omega)⟩, by ((try simp only) <;> omega)⟩
      | exact ⟨(_, o ++ [ch ((m % 256 : Nat) : Int)], d2, u), ⟨rfl, rfl, rfl, lk_i rfl (by ((try simp only) <;> omega)), trivial⟩, ⟨hB17, hv16, ho18, (by rw [← hw, he, esc_oct _ (by assumption) (by assumption), hoct]), by ((try simp only) <;> omega), by ((try simp only) <;> omega), by (simp only [List.length_append, List.length_cons, List.length_nil]; omega), by ((try simp only) <;> omega)⟩, by ((try simp only) <;> omega)⟩
      | exact ⟨(_, o ++ [10], d2, s + 2), ⟨rfl, rfl, rfl, lk_i rfl (by ((try simp only) <;> omega)), trivial⟩, ⟨hB17, hv16, ho18, (by rw [← hw, he, show y = 110 from u8_eq (by assumption), esc110]), by ((try simp only) <;> omega), by ((try simp only) <;> omega), by (simp only [List.length_append, List.length_cons, List.length_nil]; omega), by ((try simp only) <;> omega)⟩, by ((try simp only) <;> omega)⟩
      | exact ⟨(_, o ++ [13], d2, s + 2), ⟨rfl, rfl, rfl, lk_i rfl (by ((try simp only) <;> omega)), trivial⟩, ⟨hB17, hv16, ho18, (by rw [← hw, he, show y = 114 from u8_eq (by assumption), esc114]), by ((try simp only) <;> omega), by ((try simp only) <;> omega), by (simp only [List.length_append, List.length_cons, List.length_nil]; omega), by ((try simp only) <;> omega)⟩, by ((try simp only) <;> omega)⟩
      | exact ⟨(_, o ++ [9], d2, s + 2), ⟨rfl, rfl, rfl, lk_i rfl (by ((try simp only) <;> omega)), trivial⟩, ⟨hB17, hv16, ho18, (by rw [← hw, he, show y = 116 from u8_eq (by assumption), esc116]), by ((try simp only) <;> omega), by ((try simp only) <;> omega), by (simp only [List.length_append, List.length_cons, List.length_nil]; omega), by ((try simp only) <;> omega)⟩, by ((try simp only) <;> omega)⟩
      | exact ⟨(_, o ++ [8], d2, s + 2), ⟨rfl, rfl, rfl, lk_i rfl (by ((try simp only) <;> omega)), trivial⟩, ⟨hB17, hv16, ho18, (by rw [← hw, he, show y = 98 from u8_eq (by assumption), esc98]), by ((try simp only) <;> omega), by ((try simp only) <;> omega), by (simp only [List.length_append, List.length_cons, List.length_nil]; omega), by ((try simp only) <;> omega)⟩, by ((try simp only) <;> omega)⟩
      | exact ⟨(_, o ++ [12], d2, s + 2), ⟨rfl, rfl, rfl, lk_i rfl (by ((try simp only) <;> omega)), trivial⟩, ⟨hB17, hv16, ho18, (by rw [← hw, he, show y = 102 from u8_eq (by assumption), esc102]), by ((try simp only) <;> omega), by ((try simp only) <;> omega), by (simp only [List.length_append, List.length_cons, List.length_nil]; omega), by ((try simp only) <;> omega)⟩, by ((try simp only) <;> omega)⟩
      | exact ⟨(_, o, d2, s + 2), ⟨rfl, rfl, rfl, lk_i rfl (by ((try simp only) <;> omega)), trivial⟩, ⟨hB17, hv16, ho18, (by rw [← hw, he, show y = 10 from u8_eq (by assumption), esc10, List.append_nil]), by ((try simp only) <;> omega), by ((try simp only) <;> omega), by ((try simp only) <;> omega), by ((try simp only) <;> omega)⟩, by ((try simp only) <;> omega)⟩
      | exact ⟨(_, o, d2, s + 2), ⟨rfl, rfl, rfl, lk_i rfl (by ((try simp only) <;> omega)), trivial⟩, ⟨hB17, hv16, ho18, (by rw [← hw, he, show y = 13 from u8_eq (by assumption), esc13, List.append_nil, lfB_f (l := l) (t := s + 2) (by assumption)]), by ((try simp only) <;> omega), by ((try simp only) <;> omega), by ((try simp only) <;> omega), by ((try simp only) <;> omega)⟩, by ((try simp only) <;> omega)⟩
      | (have hlf := lfB_t (l := l) (t := s + 2) (by assumption); exact ⟨(_, o, d2, s + 3), ⟨rfl, rfl, rfl, lk_i rfl (by ((try simp only) <;> omega)), trivial⟩, ⟨hB17, hv16, ho18, (by rw [← hw, he, show y = 13 from u8_eq (by assumption), esc13, List.append_nil, hlf.2]), by ((try simp only) <;> omega), by ((try simp only) <;> omega), by ((try simp only) <;> omega), by ((try simp only) <;> omega)⟩, by ((try simp only) <;> omega)⟩)
      | exact ⟨(_, o ++ [y], d2, s + 2), ⟨rfl, rfl, rfl, lk_i rfl (by ((try simp only) <;> omega)), trivial⟩, ⟨hB17, hv16, ho18, (by rw [← hw, he, esc_else _ (by omega) (by omega) (by omega) (by omega) (by omega) (by omega) (by omega) (by omega)]), by ((try simp only) <;> omega), by ((try simp only) <;> omega), by (simp only [List.length_append, List.length_cons, List.length_nil]; omega), by ((try simp only) <;> omega)⟩, by ((try simp only) <;> omega)⟩
    · have h8' := ndF h8
      obtain ⟨rfl, rfl, hesc, hend⟩ := round_esc hlt hx hj1 hj2 hj3 (u8_eq (by assumption))
      refine W.skip ?_
      refine W.seq ?_
      refine W.seq ?_
      refine W.reg ?_ -- 20
      refine WL.p (.mv rfl) rfl <| WL.p (.mv rfl) rfl <| WL.p (.lenS Tryz.underlying22 rfl) rfl <| WL.p (.geq rfl rfl) rfl <| WL.nil <| ?_
      refine W.cond rfl (fun h19 => ?_) (fun h19 => ?_) -- slot 61
      · have h19' := of_decide_eq_true h19
        refine W.seq ?_
        refine W.reg ?_ -- 21
        refine WL.p (.as rfl) rfl <| WL.p (.as rfl) rfl <| WL.p (.as rfl) rfl <| WL.nil <| ?_
        refine W.ret (W.ret3 rfl rfl rfl rfl ?_)
        first
        | exact ⟨_, rfl, hB', _, _, _, rfl, by rw [← hw, roundS_at d o l s hlt, ← hx, if_neg (by rintro rfl; cases u8_eq (c := 40) (d := 41) (by assumption)), if_pos (u8_eq (by assumption)), if_pos (by omega)]; exact ⟨rfl, hown, by omega, s + 1, by omega, by omega, rfl⟩⟩
        | exact ⟨_, rfl, hB', _, _, _, rfl, by rw [← hw, hend (by omega)]; exact rfl⟩
        | exact ⟨_, rfl, hB', _, _, _, rfl, by rw [← hw, List.drop_eq_nil_of_le (by omega), roundS.eq_def]; exact rfl⟩
      · have h19' := of_decide_eq_false h19
        refine W.skip ?_
        refine W.seq ?_
        have hl1 : s + 1 < l.length := by omega
        obtain ⟨y, hy⟩ : ∃ y, y = l[s + 1]'hl1 := ⟨_, rfl⟩
        have he : roundS d2 o (l.drop s) = roundS d2 (o ++ (escS y (l.drop (s + 2))).1) (escS y (l.drop (s + 2))).2 := by rw [hy]; exact hesc hl1 o
        refine W.reg ?_ -- 22
        refine WL.p (.mv rfl) rfl <| WL.p (.mv rfl) rfl <| WL.p (.ixb Tryz.underlying22 Tryz.sizeOf5 rfl rfl (hbv.isp (by omega)) _ rfl (by omega)) rfl <| WL.r (Rd.iis ((y.toNat : Int)) (Rd.ldc (Tryz.isAgg5 _) rfl (hbv.cells _ (by omega))) (by rw [hy])) rfl <| WL.p (.as rfl) rfl <| WL.nil <| ?_
        refine W.seq ?_
        refine W.reg ?_ -- 23
        refine WL.p (.mv rfl) rfl <| WL.p (.add rfl rfl (i64w (by omega))) rfl <| WL.p (.as rfl) rfl <| WL.nil <| ?_
        refine W.block ?_
        refine W.seq ?_
        refine W.reg ?_ -- 25
        refine WL.p (.mv rfl) rfl <| WL.p (.eql rfl rfl) rfl <| WL.p (.as rfl) rfl <| WL.nil <| ?_
        refine W.cond rfl (fun h20 => ?_) (fun h20 => ?_) -- slot 72
        · have h20' := of_decide_eq_true h20
          refine W.reg ?_ -- 26
          refine WL.p (.mv rfl) rfl <| WL.bsl (ps := _) Tryz.underlying22 Tryz.sizeOf5 Tryz.zeroValue5 rfl rfl rfl rfl rfl (by simp only [put1, List.map, List.zip, List.zipWith, List.set, List.replicate] <;> rfl) rfl (fun b21 wb21 eb21 hkb21 hub21 hsb21 => ?_)
          have ho22 := Own.new hown eb21 hub21
          have hvl24 := fun h0 => eb21 ▸ hbv.lt h0
          have hv23 := BytesAt.upd hbv hub21 (fun h0 => Nat.ne_of_lt (hvl24 h0))
          have hB25 := Upd.below hB' (by rw [eb21]; exact hB'.size) hub21
          have hgeb21 : w.heap.size ≤ b21 := by rw [eb21]; exact hB'.size
          refine WL.appm Tryz.underlying22 inf5 rfl rfl rfl ho22 rfl hkb21 rfl (by rw [byteVals_len]; omega) (hB25.size) rfl (fun v26 w27 how27 hbw27 hgw27 => ?_)
          have hv28 := BytesAt.below hv23 hbw27 hvB
          have hB29 := Below.trans hB25 (hbw27.mono (Nat.le_refl _))
          have ho30 := Own.snoc how27 (10) (rfl)
          refine WL.p (.as rfl) rfl <| WL.nil <| ?_
          first
          | exact ⟨(_, o ++ [x1], d2, s1), ⟨rfl, rfl, rfl, lk_i rfl (by ((try simp only) <;> omega)), trivial⟩, ⟨hB29, hv28, ho30, (by rw [← hw, hstep o]), by ((try simp only) <;> omega), by ((try simp only) <;> omega), by (simp only [List.length_append, List.length_cons, List.length_nil]; omega), by ((try simp only) <;> omega)⟩, by ((try simp only) <;> omega)⟩
          | exact ⟨(_, o ++ [ch ((m % 256 : Nat) : Int)], d2, u), ⟨rfl, rfl, rfl, lk_i rfl (by ((try simp only) <;> omega)), trivial⟩, ⟨hB29, hv28, ho30, (by rw [← hw, he, esc_oct _ (by assumption) (by assumption), hoct]), by ((try simp only) <;> omega), by ((try simp only) <;> omega), by (simp only [List.length_append, List.length_cons, List.length_nil]; omega), by ((try simp only) <;> omega)⟩, by ((try simp only) <;> omega)⟩
          | exact ⟨(_, o ++ [10], d2, s + 2), ⟨rfl, rfl, rfl, lk_i rfl (by ((try simp only) <;> omega)), trivial⟩, ⟨hB29, hv28, ho30, (by rw [← hw, he, show y = 110 from u8_eq (by assumption), esc110]), by ((try simp only) <;> omega), by ((try simp only) <;> omega), by (simp only [List.length_append, List.length_cons, List.length_nil]; omega), by ((try simp only) <;> omega)⟩, by ((try simp only) <;> omega)⟩
          | exact ⟨(_, o ++ [13], d2, s + 2), ⟨rfl, rfl, rfl, lk_i rfl (by ((try simp only) <;> omega)), trivial⟩, ⟨hB29, hv28, ho30, (by rw [← hw, he, show y = 114 from u8_eq (by assumption), esc114]), by ((try simp only) <;> omega), by ((try simp only) <;> omega), by (simp only [List.length_append, List.length_cons, List.length_nil]; omega), by ((try simp only) <;> omega)⟩, by ((try simp only) <;> omega)⟩
          | exact ⟨(_, o ++ [9], d2, s + 2), ⟨rfl, rfl, rfl, lk_i rfl (by ((try simp only) <;> omega)), trivial⟩, ⟨hB29, hv28, ho30, (by rw [← hw, he, show y = 116 from u8_eq (by assumption), esc116]), by ((try simp only) <;> omega), by ((try simp only) <;> omega), by (simp only [List.length_append, List.length_cons, List.length_nil]; omega), by ((try simp only) <;> omega)⟩, by ((try simp only) <;> omega)⟩
          | exact ⟨(_, o ++ [8], d2, s + 2), ⟨rfl, rfl, rfl, lk_i rfl (by ((try simp only) <;> omega)), trivial⟩, ⟨hB29, hv28, ho30, (by rw [← hw, he, show y = 98 from u8_eq (by assumption), esc98]), by ((try simp only) <;> omega), by ((try simp only) <;> omega), by (simp only [List.length_append, List.length_cons, List.length_nil]; omega), by ((try simp only) <;> omega)⟩, by ((try simp only) <;> omega)⟩
          | exact ⟨(_, o ++ [12], d2, s + 2), ⟨rfl, rfl, rfl, lk_i rfl (by ((try simp only) <;> omega)), trivial⟩, ⟨hB29, hv28, ho30, (by rw [← hw, he, show y = 102 from u8_eq (by assumption), esc102]), by ((try simp only) <;> omega), by ((try simp only) <;> omega), by (simp only [List.length_append, List.length_cons, List.length_nil]; omega), by ((try simp only) <;> omega)⟩, by ((try simp only) <;> omega)⟩
          | exact ⟨(_, o, d2, s + 2), ⟨rfl, rfl, rfl, lk_i rfl (by ((try simp only) <;> omega)), trivial⟩, ⟨hB29, hv28, ho30, (by rw [← hw, he, show y = 10 from u8_eq (by assumption), esc10, List.append_nil]), by ((try simp only) <;> omega), by ((try simp only) <;> omega), by ((try simp only) <;> omega), by ((try simp only) <;> omega)⟩, by ((try simp only) <;> omega)⟩
          | exact ⟨(_, o, d2, s + 2), ⟨rfl, rfl, rfl, lk_i rfl (by ((try simp only) <;> omega)), trivial⟩, ⟨hB29, hv28, ho30, (by rw [← hw, he, show y = 13 from u8_eq (by assumption), esc13, List.append_nil, lfB_f (l := l) (t := s + 2) (by assumption)]), by ((try simp only) <;> omega), by ((try simp only) <;> omega), by ((try simp only) <;> omega), by ((try simp only) <;> omega)⟩, by ((try simp only) <;> omega)⟩
          | (have hlf := lfB_t (l := l) (t := s + 2) (by assumption); exact ⟨(_, o, d2, s + 3), ⟨rfl, rfl, rfl, lk_i rfl (by ((try simp only) <;> omega)), trivial⟩, ⟨hB29, hv28, ho30, (by rw [← hw, he, show y = 13 from u8_eq (by assumption), esc13, List.append_nil, hlf.2]), by ((try simp only) <;> omega), by ((try simp only) <;> omega), by ((try simp only) <;> omega), by ((try simp only) <;> omega)⟩, by ((try simp only) <;> omega)⟩)
          | exact ⟨(_, o ++ [y], d2, s + 2), ⟨rfl, rfl, rfl, lk_i rfl (by ((try simp only) <;> omega)), trivial⟩, ⟨hB29, hv28, ho30, (by rw [← hw, he, esc_else _ (by omega) (by omega) (by omega) (by omega) (by omega) (by omega) (by omega) (by omega)]), by ((try simp only) <;> omega), by ((try simp only) <;> omega), by (simp only [List.length_append, List.length_cons, List.length_nil]; omega), by ((try simp only) <;> omega)⟩, by ((try simp only) <;> omega)⟩
        · have h20' := of_decide_eq_false h20
          refine W.seq ?_
          refine W.reg ?_ -- 27
          refine WL.p (.mv rfl) rfl <| WL.p (.eql rfl rfl) rfl <| WL.p (.as rfl) rfl <| WL.nil <| ?_
          refine W.cond rfl (fun h31 => ?_) (fun h31 => ?_) -- slot 78
          · have h31' := of_decide_eq_true h31
            refine W.reg ?_ -- 28
            refine WL.p (.mv rfl) rfl <| WL.bsl (ps := _) Tryz.underlying22 Tryz.sizeOf5 Tryz.zeroValue5 rfl rfl rfl rfl rfl (by simp only [put1, List.map, List.zip, List.zipWith, List.set, List.replicate] <;> rfl) rfl (fun b32 wb32 eb32 hkb32 hub32 hsb32 => ?_)
            have ho33 := Own.new hown eb32 hub32
            have hvl35 := fun h0 => eb32 ▸ hbv.lt h0
            have hv34 := BytesAt.upd hbv hub32 (fun h0 => Nat.ne_of_lt (hvl35 h0))
            have hB36 := Upd.below hB' (by rw [eb32]; exact hB'.size) hub32
            have hgeb32 : w.heap.size ≤ b32 := by rw [eb32]; exact hB'.size
            refine WL.appm Tryz.underlying22 inf5 rfl rfl rfl ho33 rfl hkb32 rfl (by rw [byteVals_len]; omega) (hB36.size) rfl (fun v37 w38 how38 hbw38 hgw38 => ?_)
            have hv39 := BytesAt.below hv34 hbw38 hvB
            have hB40 := Below.trans hB36 (hbw38.mono (Nat.le_refl _))
            have ho41 := Own.snoc how38 (13) (rfl)
            refine WL.p (.as rfl) rfl <| WL.nil <| ?_
            first
            | exact ⟨(_, o ++ [x1], d2, s1), ⟨rfl, rfl, rfl, lk_i rfl (by ((try simp only) <;> omega)), trivial⟩, ⟨hB40, hv39, ho41, (by rw [← hw, hstep o]), by ((try simp only) <;> omega), by ((try simp only) <;> omega), by (simp only [List.length_append, List.length_cons, List.length_nil]; omega), by ((try simp only) <;> omega)⟩, by ((try simp only) <;> omega)⟩
            | exact ⟨(_, o ++ [ch ((m % 256 : Nat) : Int)], d2, u), ⟨rfl, rfl, rfl, lk_i rfl (by ((try simp only) <;> omega)), trivial⟩, ⟨hB40, hv39, ho41, (by rw [← hw, he, esc_oct _ (by assumption) (by assumption), hoct]), by ((try simp only) <;> omega), by ((try simp only) <;> omega), by (simp only [List.length_append, List.length_cons, List.length_nil]; omega), by ((try simp only) <;> omega)⟩, by ((try simp only) <;> omega)⟩
            | exact ⟨(_, o ++ [10], d2, s + 2), ⟨rfl, rfl, rfl, lk_i rfl (by ((try simp only) <;> omega)), trivial⟩, ⟨hB40, hv39, ho41, (by rw [← hw, he, show y = 110 from u8_eq (by assumption), esc110]), by ((try simp only) <;> omega), by ((try simp only) <;> omega), by (simp only [List.length_append, List.length_cons, List.length_nil]; omega), by ((try simp only) <;> omega)⟩, by ((try simp only) <;> omega)⟩
            | exact ⟨(_, o ++ [13], d2, s + 2), ⟨rfl, rfl, rfl, lk_i rfl (by ((try simp only) <;> omega)), trivial⟩, ⟨hB40, hv39, ho41, (by rw [← hw, he, show y = 114 from u8_eq (by assumption), esc114]), by ((try simp only) <;> omega), by ((try simp only) <;> omega), by (simp only [List.length_append, List.length_cons, List.length_nil]; omega), by ((try simp only) <;> omega)⟩, by ((try simp only) <;> omega)⟩
            | exact ⟨(_, o ++ [9], d2, s + 2), ⟨rfl, rfl, rfl, lk_i rfl (by ((try simp only) <;> omega)), trivial⟩, ⟨hB40, hv39, ho41, (by rw [← hw, he, show y = 116 from u8_eq (by assumption), esc116]), by ((try simp only) <;> omega), by ((try simp only) <;> omega), by (simp only [List.length_append, List.length_cons, List.length_nil]; omega), by ((try simp only) <;> omega)⟩, by ((try simp only) <;> omega)⟩
            | exact ⟨(_, o ++ [8], d2, s + 2), ⟨rfl, rfl, rfl, lk_i rfl (by ((try simp only) <;> omega)), trivial⟩, ⟨hB40, hv39, ho41, (by rw [← hw, he, show y = 98 from u8_eq (by assumption), esc98]), by ((try simp only) <;> omega), by ((try simp only) <;> omega), by (simp only [List.length_append, List.length_cons, List.length_nil]; omega), by ((try simp only) <;> omega)⟩, by ((try simp only) <;> omega)⟩
            | exact ⟨(_, o ++ [12], d2, s + 2), ⟨rfl, rfl, rfl, lk_i rfl (by ((try simp only) <;> omega)), trivial⟩, ⟨hB40, hv39, ho41, (by rw [← hw, he, show y = 102 from u8_eq (by assumption), esc102]), by ((try simp only) <;> omega), by ((try simp only) <;> omega), by (simp only [List.length_append, List.length_cons, List.length_nil]; omega), by ((try simp only) <;> omega)⟩, by ((try simp only) <;> omega)⟩
            | exact ⟨(_, o, d2, s + 2), ⟨rfl, rfl, rfl, lk_i rfl (by ((try simp only) <;> omega)), trivial⟩, ⟨hB40, hv39, ho41, (by rw [← hw, he, show y = 10 from u8_eq (by assumption), esc10, List.append_nil]), by ((try simp only) <;> omega), by ((try simp only) <;> omega), by ((try simp only) <;> omega), by ((try simp only) <;> omega)⟩, by ((try simp only) <;> omega)⟩
            | exact ⟨(_, o, d2, s + 2), ⟨rfl, rfl, rfl, lk_i rfl (by ((try simp only) <;> omega)), trivial⟩, ⟨hB40, hv39, ho41, (by rw [← hw, he, show y = 13 from u8_eq (by assumption), esc13, List.append_nil, lfB_f (l := l) (t := s + 2) (by assumption)]), by ((try simp only) <;> omega), by ((try simp only) <;> omega), by ((try simp only) <;> omega), by ((try simp only) <;> omega)⟩, by ((try simp only) <;> omega)⟩
            | (have hlf := lfB_t (l := l) (t := s + 2) (by assumption); exact ⟨(_, o, d2, s + 3), ⟨rfl, rfl, rfl, lk_i rfl (by ((try simp only) <;> omega)), trivial⟩, ⟨hB40, hv39, ho41, (by rw [← hw, he, show y = 13 from u8_eq (by assumption), esc13, List.append_nil, hlf.2]), by ((try simp only) <;> omega), by ((try simp only) <;> omega), by ((try simp only) <;> omega), by ((try simp only) <;> omega)⟩, by ((try simp only) <;> omega)⟩)
            | exact ⟨(_, o ++ [y], d2, s + 2), ⟨rfl, rfl, rfl, lk_i rfl (by ((try simp only) <;> omega)), trivial⟩, ⟨hB40, hv39, ho41, (by rw [← hw, he, esc_else _ (by omega) (by omega) (by omega) (by omega) (by omega) (by omega) (by omega) (by omega)]), by ((try simp only) <;> omega), by ((try simp only) <;> omega), by (simp only [List.length_append, List.length_cons, List.length_nil]; omega), by ((try simp only) <;> omega)⟩, by ((try simp only) <;> omega)⟩
          · have h31' := of_decide_eq_false h31
            refine W.seq ?_
            refine W.reg ?_ -- 29
            refine WL.p (.mv rfl) rfl <| WL.p (.eql rfl rfl) rfl <| WL.p (.as rfl) rfl <| WL.nil <| ?_
            refine W.cond rfl (fun h42 => ?_) (fun h42 => ?_) -- slot 84
            · have h42' := of_decide_eq_true h42
              refine W.reg ?_ -- 30
              refine WL.p (.mv rfl) rfl <| WL.bsl (ps := _) Tryz.underlying22 Tryz.sizeOf5 Tryz.zeroValue5 rfl rfl rfl rfl rfl (by simp only [put1, List.map, List.zip, List.zipWith, List.set, List.replicate] <;> rfl) rfl (fun b43 wb43 eb43 hkb43 hub43 hsb43 => ?_)
              have ho44 := Own.new hown eb43 hub43
              have hvl46 := fun h0 => eb43 ▸ hbv.lt h0
              have hv45 := BytesAt.upd hbv hub43 (fun h0 => Nat.ne_of_lt (hvl46 h0))
              have hB47 := Upd.below hB' (by rw [eb43]; exact hB'.size) hub43
              have hgeb43 : w.heap.size ≤ b43 := by rw [eb43]; exact hB'.size
              refine WL.appm Tryz.underlying22 inf5 rfl rfl rfl ho44 rfl hkb43 rfl (by rw [byteVals_len]; omega) (hB47.size) rfl (fun v48 w49 how49 hbw49 hgw49 => ?_)
              have hv50 := BytesAt.below hv45 hbw49 hvB
              have hB51 := Below.trans hB47 (hbw49.mono (Nat.le_refl _))
              have ho52 := Own.snoc how49 (9) (rfl)
              refine WL.p (.as rfl) rfl <| WL.nil <| ?_
              first
              | exact ⟨(_, o ++ [x1], d2, s1), ⟨rfl, rfl, rfl, lk_i rfl (by ((try simp only) <;> omega)), trivial⟩, ⟨hB51, hv50, ho52, (by rw [← hw, hstep o]), by ((try simp only) <;> omega), by ((try simp only) <;> omega), by (simp only [List.length_append, List.length_cons, List.length_nil]; omega), by ((try simp only) <;> omega)⟩, by ((try simp only) <;> omega)⟩
              | exact ⟨(_, o ++ [ch ((m % 256 : Nat) : Int)], d2, u), ⟨rfl, rfl, rfl, lk_i rfl (by ((try simp only) <;> omega)), trivial⟩, ⟨hB51, hv50, ho52, (by rw [← hw, he, esc_oct _ (by assumption) (by assumption), hoct]), by ((try simp only) <;> omega), by ((try simp only) <;> omega), by (simp only [List.length_append, List.length_cons, List.length_nil]; omega), by ((try simp only) <;> omega)⟩, by ((try simp only) <;> omega)⟩
              | exact ⟨(_, o ++ [10], d2, s + 2), ⟨rfl, rfl, rfl, lk_i rfl (by ((try simp only) <;> omega)), trivial⟩, ⟨hB51, hv50, ho52, (by rw [← hw, he, show y = 110 from u8_eq (by assumption), esc110]), by ((try simp only) <;> omega), by ((try simp only) <;> omega), by (simp only [List.length_append, List.length_cons, List.length_nil]; omega), by ((try simp only) <;> omega)⟩, by ((try simp only) <;> omega)⟩
              | exact ⟨(_, o ++ [13], d2, s + 2), ⟨rfl, rfl, rfl, lk_i rfl (by ((try simp only) <;> omega)), trivial⟩, ⟨hB51, hv50, ho52, (by rw [← hw, he, show y = 114 from u8_eq (by assumption), esc114]), by ((try simp only) <;> omega), by ((try simp only) <;> omega), by (simp only [List.length_append, List.length_cons, List.length_nil]; omega), by ((try simp only) <;> omega)⟩, by ((try simp only) <;> omega)⟩
              | exact ⟨(_, o ++ [9], d2, s + 2), ⟨rfl, rfl, rfl, lk_i rfl (by ((try simp only) <;> omega)), trivial⟩, ⟨hB51, hv50, ho52, (by rw [← hw, he, show y = 116 from u8_eq (by assumption), esc116]), by ((try simp only) <;> omega), by ((try simp only) <;> omega), by (simp only [List.length_append, List.length_cons, List.length_nil]; omega), by ((try simp only) <;> omega)⟩, by ((try simp only) <;> omega)⟩
              | exact ⟨(_, o ++ [8], d2, s + 2), ⟨rfl, rfl, rfl, lk_i rfl (by ((try simp only) <;> omega)), trivial⟩, ⟨hB51, hv50, ho52, (by rw [← hw, he, show y = 98 from u8_eq (by assumption), esc98]), by ((try simp only) <;> omega), by ((try simp only) <;> omega), by (simp only [List.length_append, List.length_cons, List.length_nil]; omega), by ((try simp only) <;> omega)⟩, by ((try simp only) <;> omega)⟩
              | exact ⟨(_, o ++ [12], d2, s + 2), ⟨rfl, rfl, rfl, lk_i rfl (by ((try simp only) <;> omega)), trivial⟩, ⟨hB51, hv50, ho52, (by rw [← hw, he, show y = 102 from u8_eq (by assumption), esc102]), by ((try simp only) <;> omega), by ((try simp only) <;> omega), by (simp only [List.length_append, List.length_cons, List.length_nil]; omega), by ((try simp only) <;> omega)⟩, by ((try simp only) <;> omega)⟩
              | exact ⟨(_, o, d2, s + 2), ⟨rfl, rfl, rfl, lk_i rfl (by ((try simp only) <;> omega)), trivial⟩, ⟨hB51, hv50, ho52, (by rw [← hw, he, show y = 10 from u8_eq (by assumption), esc10, List.append_nil]), by ((try simp only) <;> omega), by ((try simp only) <;> omega), by ((try simp only) <;> omega), by ((try simp only) <;> omega)⟩, by ((try simp only) <;> omega)⟩
              | exact ⟨(_, o, d2, s + 2), ⟨rfl, rfl, rfl, lk_i rfl (by ((try simp only) <;> omega)), trivial⟩, ⟨hB51, hv50, ho52, (by rw [← hw, he, show y = 13 from u8_eq (by assumption), esc13, List.append_nil, lfB_f (l := l) (t := s + 2) (by assumption)]), by ((try simp only) <;> omega), by ((try simp only) <;> omega), by ((try simp only) <;> omega), by ((try simp only) <;> omega)⟩, by ((try simp only) <;> omega)⟩
              | (have hlf := lfB_t (l := l) (t := s + 2) (by assumption); exact ⟨(_, o, d2, s + 3), ⟨rfl, rfl, rfl, lk_i rfl (by ((try simp only) <;> omega)), trivial⟩, ⟨hB51, hv50, ho52, (by rw [← hw, he, show y = 13 from u8_eq (by assumption), esc13, List.append_nil, hlf.2]), by ((try simp only) <;> omega), by ((try simp only) <;> omega), by ((try simp only) <;> omega), by ((try simp only) <;> omega)⟩, by ((try simp only) <;> omega)⟩)
              | exact ⟨(_, o ++ [y], d2, s + 2), ⟨rfl, rfl, rfl, lk_i rfl (by ((try simp only) <;> omega)), trivial⟩, ⟨hB51, hv50, ho52, (by rw [← hw, he, esc_else _ (by omega) (by omega) (by omega) (by omega) (by omega) (by omega) (by omega) (by omega)]), by ((try simp only) <;> omega), by ((try simp only) <;> omega), by (simp only [List.length_append, List.length_cons, List.length_nil]; omega), by ((try simp only) <;> omega)⟩, by ((try simp only) <;> omega)⟩
            · have h42' := of_decide_eq_false h42
              refine W.seq ?_
              refine W.reg ?_ -- 31
              refine WL.p (.mv rfl) rfl <| WL.p (.eql rfl rfl) rfl <| WL.p (.as rfl) rfl <| WL.nil <| ?_
              refine W.cond rfl (fun h53 => ?_) (fun h53 => ?_) -- slot 90
              · have h53' := of_decide_eq_true h53
                refine W.reg ?_ -- 32
                refine WL.p (.mv rfl) rfl <| WL.bsl (ps := _) Tryz.underlying22 Tryz.sizeOf5 Tryz.zeroValue5 rfl rfl rfl rfl rfl (by simp only [put1, List.map, List.zip, List.zipWith, List.set, List.replicate] <;> rfl) rfl (fun b54 wb54 eb54 hkb54 hub54 hsb54 => ?_)
                have ho55 := Own.new hown eb54 hub54
                have hvl57 := fun h0 => eb54 ▸ hbv.lt h0
                have hv56 := BytesAt.upd hbv hub54 (fun h0 => Nat.ne_of_lt (hvl57 h0))
                have hB58 := Upd.below hB' (by rw [eb54]; exact hB'.size) hub54
                have hgeb54 : w.heap.size ≤ b54 := by rw [eb54]; exact hB'.size
                refine WL.appm Tryz.underlying22 inf5 rfl rfl rfl ho55 rfl hkb54 rfl (by rw [byteVals_len]; omega) (hB58.size) rfl (fun v59 w60 how60 hbw60 hgw60 => ?_)
                have hv61 := BytesAt.below hv56 hbw60 hvB
                have hB62 := Below.trans hB58 (hbw60.mono (Nat.le_refl _))
                have ho63 := Own.snoc how60 (8) (rfl)
                refine WL.p (.as rfl) rfl <| WL.nil <| ?_
                first
                | exact ⟨(_, o ++ [x1], d2, s1), ⟨rfl, rfl, rfl, lk_i rfl (by ((try simp only) <;> omega)), trivial⟩, ⟨hB62, hv61, ho63, (by rw [← hw, hstep o]), by ((try simp only) <;> omega), by ((try simp only) <;> omega), by (simp only [List.length_append, List.length_cons, List.length_nil]; omega), by ((try simp only) <;> omega)⟩, by ((try simp only) <;> omega)⟩
                | exact ⟨(_, o ++ [ch ((m % 256 : Nat) : Int)], d2, u), ⟨rfl, rfl, rfl, lk_i rfl (by ((try simp only) <;> omega)), trivial⟩, ⟨hB62, hv61, ho63, (by rw [← hw, he, esc_oct _ (by assumption) (by assumption), hoct]), by ((try simp only) <;> omega), by ((try simp only) <;> omega), by (simp only [List.length_append, List.length_cons, List.length_nil]; omega), by ((try simp only) <;> omega)⟩, by ((try simp only) <;> omega)⟩
                | exact ⟨(_, o ++ [10], d2, s + 2), ⟨rfl, rfl, rfl, lk_i rfl (by ((try simp only) <;> omega)), trivial⟩, ⟨hB62, hv61, ho63, (by rw [← hw, he, show y = 110 from u8_eq (by assumption), esc110]), by ((try simp only) <;> omega), by ((try simp only) <;> omega), by (simp only [List.length_append, List.length_cons, List.length_nil]; omega), by ((try simp only) <;> omega)⟩, by ((try simp only) <;> omega)⟩
                | exact ⟨(_, o ++ [13], d2, s + 2), ⟨rfl, rfl, rfl, lk_i rfl (by ((try simp only) <;> omega)), trivial⟩, ⟨hB62, hv61, ho63, (by rw [← hw, he, show y = 114 from u8_eq (by assumption), esc114]), by ((try simp only) <;> omega), by ((try simp only) <;> omega), by (simp only [List.length_append, List.length_cons, List.length_nil]; omega), by ((try simp only) <;> omega)⟩, by ((try simp only) <;> omega)⟩
                | exact ⟨(_, o ++ [9], d2, s + 2), ⟨rfl, rfl, rfl, lk_i rfl (by ((try simp only) <;> omega)), trivial⟩, ⟨hB62, hv61, ho63, (by rw [← hw, he, show y = 116 from u8_eq (by assumption), esc116]), by ((try simp only) <;> omega), by ((try simp only) <;> omega), by (simp only [List.length_append, List.length_cons, List.length_nil]; omega), by ((try simp only) <;> omega)⟩, by ((try simp only) <;> omega)⟩
                | exact ⟨(_, o ++ [8], d2, s + 2), ⟨rfl, rfl, rfl, lk_i rfl (by ((try simp only) <;> omega)), trivial⟩, ⟨hB62, hv61, ho63, (by rw [← hw, he, show y = 98 from u8_eq (by assumption), esc98]), by ((try simp only) <;> omega), by ((try simp only) <;> omega), by (simp only [List.length_append, List.length_cons, List.length_nil]; omega), by ((try simp only) <;> omega)⟩, by ((try simp only) <;> omega)⟩
                | exact ⟨(_, o ++ [12], d2, s + 2), ⟨rfl, rfl, rfl, lk_i rfl (by ((try simp only) <;> omega)), trivial⟩, ⟨hB62, hv61, ho63, (by rw [← hw, he, show y = 102 from u8_eq (by assumption), esc102]), by ((try simp only) <;> omega), by ((try simp only) <;> omega), by (simp only [List.length_append, List.length_cons, List.length_nil]; omega), by ((try simp only) <;> omega)⟩, by ((try simp only) <;> omega)⟩
                | exact ⟨(_, o, d2, s + 2), ⟨rfl, rfl, rfl, lk_i rfl (by ((try simp only) <;> omega)), trivial⟩, ⟨hB62, hv61, ho63, (by rw [← hw, he, show y = 10 from u8_eq (by assumption), esc10, List.append_nil]), by ((try simp only) <;> omega), by ((try simp only) <;> omega), by ((try simp only) <;> omega), by ((try simp only) <;> omega)⟩, by ((try simp only) <;> omega)⟩
                | exact ⟨(_, o, d2, s + 2), ⟨rfl, rfl, rfl, lk_i rfl (by ((try simp only) <;> omega)), trivial⟩, ⟨hB62, hv61, ho63, (by rw [← hw, he, show y = 13 from u8_eq (by assumption), esc13, List.append_nil, lfB_f (l := l) (t := s + 2) (by assumption)]), by ((try simp only) <;> omega), by ((try simp only) <;> omega), by ((try simp only) <;> omega), by ((try simp only) <;> omega)⟩, by ((try simp only) <;> omega)⟩
                | (have hlf := lfB_t (l := l) (t := s + 2) (by assumption); exact ⟨(_, o, d2, s + 3), ⟨rfl, rfl, rfl, lk_i rfl (by ((try simp only) <;> omega)), trivial⟩, ⟨hB62, hv61, ho63, (by rw [← hw, he, show y = 13 from u8_eq (by assumption), esc13, List.append_nil, hlf.2]), by ((try simp only) <;> omega), by ((try simp only) <;> omega), by ((try simp only) <;> omega), by ((try simp only) <;> omega)⟩, by ((try simp only) <;> omega)⟩)
                | exact ⟨(_, o ++ [y], d2, s + 2), ⟨rfl, rfl, rfl, lk_i rfl (by ((try simp only) <;> omega)), trivial⟩, ⟨hB62, hv61, ho63, (by rw [← hw, he, esc_else _ (by omega) (by omega) (by omega) (by omega) (by omega) (by omega) (by omega) (by omega)]), by ((try simp only) <;> omega), by ((try simp only) <;> omega), by (simp only [List.length_append, List.length_cons, List.length_nil]; omega), by ((try simp only) <;> omega)⟩, by ((try simp only) <;> omega)⟩
              · have h53' := of_decide_eq_false h53
                refine W.seq ?_
                refine W.reg ?_ -- 33
                refine WL.p (.mv rfl) rfl <| WL.p (.eql rfl rfl) rfl <| WL.p (.as rfl) rfl <| WL.nil <| ?_
                refine W.cond rfl (fun h64 => ?_) (fun h64 => ?_) -- slot 96
                · have h64' := of_decide_eq_true h64
                  refine W.reg ?_ -- 34
                  refine WL.p (.mv rfl) rfl <| WL.bsl (ps := _) Tryz.underlying22 Tryz.sizeOf5 Tryz.zeroValue5 rfl rfl rfl rfl rfl (by simp only [put1, List.map, List.zip, List.zipWith, List.set, List.replicate] <;> rfl) rfl (fun b65 wb65 eb65 hkb65 hub65 hsb65 => ?_)
                  have ho66 := Own.new hown eb65 hub65
                  have hvl68 := fun h0 => eb65 ▸ hbv.lt h0
                  have hv67 := BytesAt.upd hbv hub65 (fun h0 => Nat.ne_of_lt (hvl68 h0))
                  have hB69 := Upd.below hB' (by rw [eb65]; exact hB'.size) hub65
                  have hgeb65 : w.heap.size ≤ b65 := by rw [eb65]; exact hB'.size
                  refine WL.appm Tryz.underlying22 inf5 rfl rfl rfl ho66 rfl hkb65 rfl (by rw [byteVals_len]; omega) (hB69.size) rfl (fun v70 w71 how71 hbw71 hgw71 => ?_)
                  have hv72 := BytesAt.below hv67 hbw71 hvB
                  have hB73 := Below.trans hB69 (hbw71.mono (Nat.le_refl _))
                  have ho74 := Own.snoc how71 (12) (rfl)
                  refine WL.p (.as rfl) rfl <| WL.nil <| ?_
                  first
                  | exact ⟨(_, o ++ [x1], d2, s1), ⟨rfl, rfl, rfl, lk_i rfl (by ((try simp only) <;> omega)), trivial⟩, ⟨hB73, hv72, ho74, (by rw [← hw, hstep o]), by ((try simp only) <;> omega), by ((try simp only) <;> omega), by (simp only [List.length_append, List.length_cons, List.length_nil]; omega), by ((try simp only) <;> omega)⟩, by ((try simp only) <;> omega)⟩
                  | exact ⟨(_, o ++ [ch ((m % 256 : Nat) : Int)], d2, u), ⟨rfl, rfl, rfl, lk_i rfl (by ((try simp only) <;> omega)), trivial⟩, ⟨hB73, hv72, ho74, (by rw [← hw, he, esc_oct _ (by assumption) (by assumption), hoct]), by ((try simp only) <;> omega), by ((try simp only) <;> omega), by (simp only [List.length_append, List.length_cons, List.length_nil]; omega), by ((try simp only) <;> omega)⟩, by ((try simp only) <;> omega)⟩
                  | exact ⟨(_, o ++ [10], d2, s + 2), ⟨rfl, rfl, rfl, lk_i rfl (by ((try simp only) <;> omega)), trivial⟩, ⟨hB73, hv72, ho74, (by rw [← hw, he, show y = 110 from u8_eq (by assumption), esc110]), by ((try simp only) <;> omega), by ((try simp only) <;> omega), by (simp only [List.length_append, List.length_cons, List.length_nil]; omega), by ((try simp only) <;> omega)⟩, by ((try simp only) <;> omega)⟩
                  | exact ⟨(_, o ++ [13], d2, s + 2), ⟨rfl, rfl, rfl, lk_i rfl (by ((try simp only) <;> omega)), trivial⟩, ⟨hB73, hv72, ho74, (by rw [← hw, he, show y = 114 from u8_eq (by assumption), esc114]), by ((try simp only) <;> omega), by ((try simp only) <;> omega), by (simp only [List.length_append, List.length_cons, List.length_nil]; omega), by ((try simp only) <;> omega)⟩, by ((try simp only) <;> omega)⟩
                  | exact ⟨(_, o ++ [9], d2, s + 2), ⟨rfl, rfl, rfl, lk_i rfl (by ((try simp only) <;> omega)), trivial⟩, ⟨hB73, hv72, ho74, (by rw [← hw, he, show y = 116 from u8_eq (by assumption), esc116]), by ((try simp only) <;> omega), by ((try simp only) <;> omega), by (simp only [List.length_append, List.length_cons, List.length_nil]; omega), by ((try simp only) <;> omega)⟩, by ((try simp only) <;> omega)⟩
                  | exact ⟨(_, o ++ [8], d2, s + 2), ⟨rfl, rfl, rfl, lk_i rfl (by ((try simp only) <;> omega)), trivial⟩, ⟨hB73, hv72, ho74, (by rw [← hw, he, show y = 98 from u8_eq (by assumption), esc98]), by ((try simp only) <;> omega), by ((try simp only) <;> omega), by (simp only [List.length_append, List.length_cons, List.length_nil]; omega), by ((try simp only) <;> omega)⟩, by ((try simp only) <;> omega)⟩
                  | exact ⟨(_, o ++ [12], d2, s + 2), ⟨rfl, rfl, rfl, lk_i rfl (by ((try simp only) <;> omega)), trivial⟩, ⟨hB73, hv72, ho74, (by rw [← hw, he, show y = 102 from u8_eq (by assumption), esc102]), by ((try simp only) <;> omega), by ((try simp only) <;> omega), by (simp only [List.length_append, List.length_cons, List.length_nil]; omega), by ((try simp only) <;> omega)⟩, by ((try simp only) <;> omega)⟩
                  | exact ⟨(_, o, d2, s + 2), ⟨rfl, rfl, rfl, lk_i rfl (by ((try simp only) <;> omega)), trivial⟩, ⟨hB73, hv72, ho74, (by rw [← hw, he, show y = 10 from u8_eq (by assumption), esc10, List.append_nil]), by ((try simp only) <;> omega), by ((try simp only) <;> omega), by ((try simp only) <;> omega), by ((try simp only) <;> omega)⟩, by ((try simp only) <;> omega)⟩
                  | exact ⟨(_, o, d2, s + 2), ⟨rfl, rfl, rfl, lk_i rfl (by ((try simp only) <;> omega)), trivial⟩, ⟨hB73, hv72, ho74, (by rw [← hw, he, show y = 13 from u8_eq (by assumption), esc13, List.append_nil, lfB_f (l := l) (t := s + 2) (by assumption)]), by ((try simp only) <;> omega), by ((try simp only) <;> omega), by ((try simp only) <;> omega), by ((try simp only) <;> omega)⟩, by ((try simp only) <;> omega)⟩
                  | (have hlf := lfB_t (l := l) (t := s + 2) (by assumption); exact ⟨(_, o, d2, s + 3), ⟨rfl, rfl, rfl, lk_i rfl (by ((try simp only) <;> omega)), trivial⟩, ⟨hB73, hv72, ho74, (by rw [← hw, he, show y = 13 from u8_eq (by assumption), esc13, List.append_nil, hlf.2]), by ((try simp only) <;> omega), by ((try simp only) <;> omega), by ((try simp only) <;> omega), by ((try simp only) <;> omega)⟩, by ((try simp only) <;> omega)⟩)
                  | exact ⟨(_, o ++ [y], d2, s + 2), ⟨rfl, rfl, rfl, lk_i rfl (by ((try simp only) <;> omega)), trivial⟩, ⟨hB73, hv72, ho74, (by rw [← hw, he, esc_else _ (by omega) (by omega) (by omega) (by omega) (by omega) (by omega) (by omega) (by omega)]), by ((try simp only) <;> omega), by ((try simp only) <;> omega), by (simp only [List.length_append, List.length_cons, List.length_nil]; omega), by ((try simp only) <;> omega)⟩, by ((try simp only) <;> omega)⟩
                · have h64' := of_decide_eq_false h64
                  refine W.seq ?_
                  refine W.reg ?_ -- 35
                  refine WL.p (.mv rfl) rfl <| WL.p (.eql rfl rfl) rfl <| WL.p (.as rfl) rfl <| WL.nil <| ?_
                  refine W.cond rfl (fun h75 => ?_) (fun h75 => ?_) -- slot 102
                  · have h75' := of_decide_eq_true h75
                    refine W.skip ?_
                    first
                    | exact ⟨(_, o ++ [x1], d2, s1), ⟨rfl, rfl, rfl, lk_i rfl (by ((try simp only) <;> omega)), trivial⟩, ⟨hB', hbv, hown, (by rw [← hw, hstep o]), by ((try simp only) <;> omega), by ((try simp only) <;> omega), by (simp only [List.length_append, List.length_cons, List.length_nil]; omega), by ((try simp only) <;> omega)⟩, by ((try simp only) <;> omega)⟩
                    | exact ⟨(_, o ++ [ch ((m % 256 : Nat) : Int)], d2, u), ⟨rfl, rfl, rfl, lk_i rfl (by ((try simp only) <;> omega)), trivial⟩, ⟨hB', hbv, hown, (by rw [← hw, he, esc_oct _ (by assumption) (by assumption), hoct]), by ((try simp only) <;> omega), by ((try simp only) <;> omega), by (simp only [List.length_append, List.length_cons, List.length_nil]; omega), by ((try simp only) <;> omega)⟩, by ((try simp only) <;> omega)⟩
                    | exact ⟨(_, o ++ [10], d2, s + 2), ⟨rfl, rfl, rfl, lk_i rfl (by ((try simp only) <;> omega)), trivial⟩, ⟨hB', hbv, hown, (by rw [← hw, he, show y = 110 from u8_eq (by assumption), esc110]), by ((try simp only) <;> omega), by ((try simp only) <;> omega), by (simp only [List.length_append, List.length_cons, List.length_nil]; omega), by ((try simp only) <;> omega)⟩, by ((try simp only) <;> omega)⟩
                    | exact ⟨(_, o ++ [13], d2, s + 2), ⟨rfl, rfl, rfl, lk_i rfl (by ((try simp only) <;> omega)), trivial⟩, ⟨hB', hbv, hown, (by rw [← hw, he, show y = 114 from u8_eq (by assumption), esc114]), by ((try simp only) <;> omega), by ((try simp only) <;> omega), by (simp only [List.length_append, List.length_cons, List.length_nil]; omega), by ((try simp only) <;> omega)⟩, by ((try simp only) <;> omega)⟩
                    | exact ⟨(_, o ++ [9], d2, s + 2), ⟨rfl, rfl, rfl, lk_i rfl (by ((try simp only) <;> omega)), trivial⟩, ⟨hB', hbv, hown, (by rw [← hw, he, show y = 116 from u8_eq (by assumption), esc116]), by ((try simp only) <;> omega), by ((try simp only) <;> omega), by (simp only [List.length_append, List.length_cons, List.length_nil]; omega), by ((try simp only) <;> omega)⟩, by ((try simp only) <;> omega)⟩
                    | exact ⟨(_, o ++ [8], d2, s + 2), ⟨rfl, rfl, rfl, lk_i rfl (by ((try simp only) <;> omega)), trivial⟩, ⟨hB', hbv, hown, (by rw [← hw, he, show y = 98 from u8_eq (by assumption), esc98]), by ((try simp only) <;> omega), by ((try simp only) <;> omega), by (simp only [List.length_append, List.length_cons, List.length_nil]; omega), by ((try simp only) <;> omega)⟩, by ((try simp only) <;> omega)⟩
                    | exact ⟨(_, o ++ [12], d2, s + 2), ⟨rfl, rfl, rfl, lk_i rfl (by ((try simp only) <;> omega)), trivial⟩, ⟨hB', hbv, hown, (by rw [← hw, he, show y = 102 from u8_eq (by assumption), esc102]), by ((try simp only) <;> omega), by ((try simp only) <;> omega), by (simp only [List.length_append, List.length_cons, List.length_nil]; omega), by ((try simp only) <;> omega)⟩, by ((try simp only) <;> omega)⟩
                    | exact ⟨(_, o, d2, s + 2), ⟨rfl, rfl, rfl, lk_i rfl (by ((try simp only) <;> omega)), trivial⟩, ⟨hB', hbv, hown, (by rw [← hw, he, show y = 10 from u8_eq (by assumption), esc10, List.append_nil]), by ((try simp only) <;> omega), by ((try simp only) <;> omega), by ((try simp only) <;> omega), by ((try simp only) <;> omega)⟩, by ((try simp only) <;> omega)⟩
                    | exact ⟨(_, o, d2, s + 2), ⟨rfl, rfl, rfl, lk_i rfl (by ((try simp only) <;> omega)), trivial⟩, ⟨hB', hbv, hown, (by rw [← hw, he, show y = 13 from u8_eq (by assumption), esc13, List.append_nil, lfB_f (l := l) (t := s + 2) (by assumption)]), by ((try simp only) <;> omega), by ((try simp only) <;> omega), by ((try simp only) <;> omega), by ((try simp only) <;> omega)⟩, by ((try simp only) <;> omega)⟩
                    | (have hlf := lfB_t (l := l) (t := s + 2) (by assumption); exact ⟨(_, o, d2, s + 3), ⟨rfl, rfl, rfl, lk_i rfl (by ((try simp only) <;> omega)), trivial⟩, ⟨hB', hbv, hown, (by rw [← hw, he, show y = 13 from u8_eq (by assumption), esc13, List.append_nil, hlf.2]), by ((try simp only) <;> omega), by ((try simp only) <;> omega), by ((try simp only) <;> omega), by ((try simp only) <;> omega)⟩, by ((try simp only) <;> omega)⟩)
                    | exact ⟨(_, o ++ [y], d2, s + 2), ⟨rfl, rfl, rfl, lk_i rfl (by ((try simp only) <;> omega)), trivial⟩, ⟨hB', hbv, hown, (by rw [← hw, he, esc_else _ (by omega) (by omega) (by omega) (by omega) (by omega) (by omega) (by omega) (by omega)]), by ((try simp only) <;> omega), by ((try simp only) <;> omega), by (simp only [List.length_append, List.length_cons, List.length_nil]; omega), by ((try simp only) <;> omega)⟩, by ((try simp only) <;> omega)⟩
                  · have h75' := of_decide_eq_false h75
                    refine W.seq ?_
                    refine W.reg ?_ -- 36
                    refine WL.p (.mv rfl) rfl <| WL.p (.eql rfl rfl) rfl <| WL.p (.as rfl) rfl <| WL.nil <| ?_
                    refine W.cond rfl (fun h76 => ?_) (fun h76 => ?_) -- slot 105
                    · have h76' := of_decide_eq_true h76
                      refine W.cutB 118 (lfB l (s + 2)) ?_ ?_
                      · skip
                        refine W.reg ?_ -- 37
                        refine WL.p (.mv rfl) rfl <| WL.p (.mv rfl) rfl <| WL.p (.lenS Tryz.underlying22 rfl) rfl <| WL.p (.lss rfl rfl) rfl <| WL.p (.mv rfl) rfl <| WL.gd rfl rfl rfl (fun g77 => ?_) (fun g77 => ?_)
                        · have g77' := of_decide_eq_true g77
                          refine WL.p (.mv rfl) rfl <| WL.gy rfl rfl rfl g77 <| WL.p (.mv rfl) rfl <| WL.gy rfl rfl rfl g77 <| WL.p (.ixb Tryz.underlying22 Tryz.sizeOf5 rfl rfl (hbv.isp (by omega)) (s + 2) (by omega) (by omega)) rfl <| WL.gy rfl rfl rfl g77 <| WL.r (Rd.ldc (Tryz.isAgg5 _) rfl (hbv.cells (s + 2) (by omega))) rfl <| WL.gy rfl rfl rfl g77 <| WL.p (.eql rfl rfl) rfl <| WL.p (.pkT rfl g77 rfl) rfl <| WL.nil <| ?_
                          exact ⟨⟨lk_b rfl (by (by_cases hq : s + 2 < l.length) <;> (unfold lfB; first | (exfalso; omega) | (rw [getElem!_pos l (s + 2) hq]; simp_all; done) | (rw [decide_eq_false hq]; simp_all; done))), by repeat (first | exact Le.refl _ | refine Le.cons rfl ?_)⟩, rfl⟩
                        · have g77' := of_decide_eq_false g77
                          refine WL.gn rfl rfl rfl g77 <| WL.gn rfl rfl rfl g77 <| WL.gn rfl rfl rfl g77 <| WL.gn rfl rfl rfl g77 <| WL.p (.pkF rfl g77 rfl) rfl <| WL.nil <| ?_
                          exact ⟨⟨lk_b rfl (by (by_cases hq : s + 2 < l.length) <;> (unfold lfB; first | (exfalso; omega) | (rw [getElem!_pos l (s + 2) hq]; simp_all; done) | (rw [decide_eq_false hq]; simp_all; done))), by repeat (first | exact Le.refl _ | refine Le.cons rfl ?_)⟩, rfl⟩
                      refine W.cond rfl (fun h78 => ?_) (fun h78 => ?_) -- slot 118
                      · have h78' := h78
                        refine W.reg ?_ -- 38
                        refine WL.p (.mv rfl) rfl <| WL.p (.add rfl rfl (i64w (by omega))) rfl <| WL.p (.as rfl) rfl <| WL.nil <| ?_
                        first
                        | exact ⟨(_, o ++ [x1], d2, s1), ⟨rfl, rfl, rfl, lk_i rfl (by ((try simp only) <;> omega)), trivial⟩, ⟨hB', hbv, hown, (by rw [← hw, hstep o]), by ((try simp only) <;> omega), by ((try simp only) <;> omega), by (simp only [List.length_append, List.length_cons, List.length_nil]; omega), by ((try simp only) <;> omega)⟩, by ((try simp only) <;> omega)⟩
                        | exact ⟨(_, o ++ [ch ((m % 256 : Nat) : Int)], d2, u), ⟨rfl, rfl, rfl, lk_i rfl (by ((try simp only) <;> omega)), trivial⟩, ⟨hB', hbv, hown, (by rw [← hw, he, esc_oct _ (by assumption) (by assumption), hoct]), by ((try simp only) <;> omega), by ((try simp only) <;> omega), by (simp only [List.length_append, List.length_cons, List.length_nil]; omega), by ((try simp only) <;> omega)⟩, by ((try simp only) <;> omega)⟩
                        | exact ⟨(_, o ++ [10], d2, s + 2), ⟨rfl, rfl, rfl, lk_i rfl (by ((try simp only) <;> omega)), trivial⟩, ⟨hB', hbv, hown, (by rw [← hw, he, show y = 110 from u8_eq (by assumption), esc110]), by ((try simp only) <;> omega), by ((try simp only) <;> omega), by (simp only [List.length_append, List.length_cons, List.length_nil]; omega), by ((try simp only) <;> omega)⟩, by ((try simp only) <;> omega)⟩
                        | exact ⟨(_, o ++ [13], d2, s + 2), ⟨rfl, rfl, rfl, lk_i rfl (by ((try simp only) <;> omega)), trivial⟩, ⟨hB', hbv, hown, (by rw [← hw, he, show y = 114 from u8_eq (by assumption), esc114]), by ((try simp only) <;> omega), by ((try simp only) <;> omega), by (simp only [List.length_append, List.length_cons, List.length_nil]; omega), by ((try simp only) <;> omega)⟩, by ((try simp only) <;> omega)⟩
                        | exact ⟨(_, o ++ [9], d2, s + 2), ⟨rfl, rfl, rfl, lk_i rfl (by ((try simp only) <;> omega)), trivial⟩, ⟨hB', hbv, hown, (by rw [← hw, he, show y = 116 from u8_eq (by assumption), esc116]), by ((try simp only) <;> omega), by ((try simp only) <;> omega), by (simp only [List.length_append, List.length_cons, List.length_nil]; omega), by ((try simp only) <;> omega)⟩, by ((try simp only) <;> omega)⟩
                        | exact ⟨(_, o ++ [8], d2, s + 2), ⟨rfl, rfl, rfl, lk_i rfl (by ((try simp only) <;> omega)), trivial⟩, ⟨hB', hbv, hown, (by rw [← hw, he, show y = 98 from u8_eq (by assumption), esc98]), by ((try simp only) <;> omega), by ((try simp only) <;> omega), by (simp only [List.length_append, List.length_cons, List.length_nil]; omega), by ((try simp only) <;> omega)⟩, by ((try simp only) <;> omega)⟩
                        | exact ⟨(_, o ++ [12], d2, s + 2), ⟨rfl, rfl, rfl, lk_i rfl (by ((try simp only) <;> omega)), trivial⟩, ⟨hB', hbv, hown, (by rw [← hw, he, show y = 102 from u8_eq (by assumption), esc102]), by ((try simp only) <;> omega), by ((try simp only) <;> omega), by (simp only [List.length_append, List.length_cons, List.length_nil]; omega), by ((try simp only) <;> omega)⟩, by ((try simp only) <;> omega)⟩
                        | exact ⟨(_, o, d2, s + 2), ⟨rfl, rfl, rfl, lk_i rfl (by ((try simp only) <;> omega)), trivial⟩, ⟨hB', hbv, hown, (by rw [← hw, he, show y = 10 from u8_eq (by assumption), esc10, List.append_nil]), by ((try simp only) <;> omega), by ((try simp only) <;> omega), by ((try simp only) <;> omega), by ((try simp only) <;> omega)⟩, by ((try simp only) <;> omega)⟩
                        | exact ⟨(_, o, d2, s + 2), ⟨rfl, rfl, rfl, lk_i rfl (by ((try simp only) <;> omega)), trivial⟩, ⟨hB', hbv, hown, (by rw [← hw, he, show y = 13 from u8_eq (by assumption), esc13, List.append_nil, lfB_f (l := l) (t := s + 2) (by assumption)]), by ((try simp only) <;> omega), by ((try simp only) <;> omega), by ((try simp only) <;> omega), by ((try simp only) <;> omega)⟩, by ((try simp only) <;> omega)⟩
                        | (have hlf := lfB_t (l := l) (t := s + 2) (by assumption); exact ⟨(_, o, d2, s + 3), ⟨rfl, rfl, rfl, lk_i rfl (by ((try simp only) <;> omega)), trivial⟩, ⟨hB', hbv, hown, (by rw [← hw, he, show y = 13 from u8_eq (by assumption), esc13, List.append_nil, hlf.2]), by ((try simp only) <;> omega), by ((try simp only) <;> omega), by ((try simp only) <;> omega), by ((try simp only) <;> omega)⟩, by ((try simp only) <;> omega)⟩)
                        | exact ⟨(_, o ++ [y], d2, s + 2), ⟨rfl, rfl, rfl, lk_i rfl (by ((try simp only) <;> omega)), trivial⟩, ⟨hB', hbv, hown, (by rw [← hw, he, esc_else _ (by omega) (by omega) (by omega) (by omega) (by omega) (by omega) (by omega) (by omega)]), by ((try simp only) <;> omega), by ((try simp only) <;> omega), by (simp only [List.length_append, List.length_cons, List.length_nil]; omega), by ((try simp only) <;> omega)⟩, by ((try simp only) <;> omega)⟩
                      · have h78' := h78
                        refine W.skip ?_
                        first
                        | exact ⟨(_, o ++ [x1], d2, s1), ⟨rfl, rfl, rfl, lk_i rfl (by ((try simp only) <;> omega)), trivial⟩, ⟨hB', hbv, hown, (by rw [← hw, hstep o]), by ((try simp only) <;> omega), by ((try simp only) <;> omega), by (simp only [List.length_append, List.length_cons, List.length_nil]; omega), by ((try simp only) <;> omega)⟩, by ((try simp only) <;> omega)⟩
                        | exact ⟨(_, o ++ [ch ((m % 256 : Nat) : Int)], d2, u), ⟨rfl, rfl, rfl, lk_i rfl (by ((try simp only) <;> omega)), trivial⟩, ⟨hB', hbv, hown, (by rw [← hw, he, esc_oct _ (by assumption) (by assumption), hoct]), by ((try simp only) <;> omega), by ((try simp only) <;> omega), by (simp only [List.length_append, List.length_cons, List.length_nil]; omega), by ((try simp only) <;> omega)⟩, by ((try simp only) <;> omega)⟩
                        | exact ⟨(_, o ++ [10], d2, s + 2), ⟨rfl, rfl, rfl, lk_i rfl (by ((try simp only) <;> omega)), trivial⟩, ⟨hB', hbv, hown, (by rw [← hw, he, show y = 110 from u8_eq (by assumption), esc110]), by ((try simp only) <;> omega), by ((try simp only) <;> omega), by (simp only [List.length_append, List.length_cons, List.length_nil]; omega), by ((try simp only) <;> omega)⟩, by ((try simp only) <;> omega)⟩
                        | exact ⟨(_, o ++ [13], d2, s + 2), ⟨rfl, rfl, rfl, lk_i rfl (by ((try simp only) <;> omega)), trivial⟩, ⟨hB', hbv, hown, (by rw [← hw, he, show y = 114 from u8_eq (by assumption), esc114]), by ((try simp only) <;> omega), by ((try simp only) <;> omega), by (simp only [List.length_append, List.length_cons, List.length_nil]; omega), by ((try simp only) <;> omega)⟩, by ((try simp only) <;> omega)⟩
                        | exact ⟨(_, o ++ [9], d2, s + 2), ⟨rfl, rfl, rfl, lk_i rfl (by ((try simp only) <;> omega)), trivial⟩, ⟨hB', hbv, hown, (by rw [← hw, he, show y = 116 from u8_eq (by assumption), esc116]), by ((try simp only) <;> omega), by ((try simp only) <;> omega), by (simp only [List.length_append, List.length_cons, List.length_nil]; omega), by ((try simp only) <;> omega)⟩, by ((try simp only) <;> omega)⟩
                        | exact ⟨(_, o ++ [8], d2, s + 2), ⟨rfl, rfl, rfl, lk_i rfl (by ((try simp only) <;> omega)), trivial⟩, ⟨hB', hbv, hown, (by rw [← hw, he, show y = 98 from u8_eq (by assumption), esc98]), by ((try simp only) <;> omega), by ((try simp only) <;> omega), by (simp only [List.length_append, List.length_cons, List.length_nil]; omega), by ((try simp only) <;> omega)⟩, by ((try simp only) <;> omega)⟩
                        | exact ⟨(_, o ++ [12], d2, s + 2), ⟨rfl, rfl, rfl, lk_i rfl (by ((try simp only) <;> omega)), trivial⟩, ⟨hB', hbv, hown, (by rw [← hw, he, show y = 102 from u8_eq (by assumption), esc102]), by ((try simp only) <;> omega), by ((try simp only) <;> omega), by (simp only [List.length_append, List.length_cons, List.length_nil]; omega), by ((try simp only) <;> omega)⟩, by ((try simp only) <;> omega)⟩
                        | exact ⟨(_, o, d2, s + 2), ⟨rfl, rfl, rfl, lk_i rfl (by ((try simp only) <;> omega)), trivial⟩, ⟨hB', hbv, hown, (by rw [← hw, he, show y = 10 from u8_eq (by assumption), esc10, List.append_nil]), by ((try simp only) <;> omega), by ((try simp only) <;> omega), by ((try simp only) <;> omega), by ((try simp only) <;> omega)⟩, by ((try simp only) <;> omega)⟩
                        | exact ⟨(_, o, d2, s + 2), ⟨rfl, rfl, rfl, lk_i rfl (by ((try simp only) <;> omega)), trivial⟩, ⟨hB', hbv, hown, (by rw [← hw, he, show y = 13 from u8_eq (by assumption), esc13, List.append_nil, lfB_f (l := l) (t := s + 2) (by assumption)]), by ((try simp only) <;> omega), by ((try simp only) <;> omega), by ((try simp only) <;> omega), by ((try simp only) <;> omega)⟩, by ((try simp only) <;> omega)⟩
                        | (have hlf := lfB_t (l := l) (t := s + 2) (by assumption); exact ⟨(_, o, d2, s + 3), ⟨rfl, rfl, rfl, lk_i rfl (by ((try simp only) <;> omega)), trivial⟩, ⟨hB', hbv, hown, (by rw [← hw, he, show y = 13 from u8_eq (by assumption), esc13, List.append_nil, hlf.2]), by ((try simp only) <;> omega), by ((try simp only) <;> omega), by ((try simp only) <;> omega), by ((try simp only) <;> omega)⟩, by ((try simp only) <;> omega)⟩)
                        | exact ⟨(_, o ++ [y], d2, s + 2), ⟨rfl, rfl, rfl, lk_i rfl (by ((try simp only) <;> omega)), trivial⟩, ⟨hB', hbv, hown, (by rw [← hw, he, esc_else _ (by omega) (by omega) (by omega) (by omega) (by omega) (by omega) (by omega) (by omega)]), by ((try simp only) <;> omega), by ((try simp only) <;> omega), by (simp only [List.length_append, List.length_cons, List.length_nil]; omega), by ((try simp only) <;> omega)⟩, by ((try simp only) <;> omega)⟩
                    · have h76' := of_decide_eq_false h76
                      refine W.seq ?_
                      refine W.reg ?_ -- 39
                      refine WL.p (.mv rfl) rfl <| WL.p (.geq rfl rfl) rfl <| WL.p (.mv rfl) rfl <| WL.gd rfl rfl rfl (fun g79 => ?_) (fun g79 => ?_)
                      · have g79' := of_decide_eq_true g79
                        refine WL.p (.mv rfl) rfl <| WL.gy rfl rfl rfl g79 <| WL.p (.leq rfl rfl) rfl <| WL.p (.pkT rfl g79 rfl) rfl <| WL.p (.as rfl) rfl <| WL.nil <| ?_
                        refine W.cond rfl (fun h80 => ?_) (fun h80 => ?_) -- slot 121
                        · have h80' := of_decide_eq_true h80
                          refine W.seq ?_
                          refine W.reg ?_ -- 40
                          refine WL.p (.mv rfl) rfl <| WL.p (.sub rfl rfl (u8w (by omega))) rfl <| WL.p (.cvt Tryz.underlying5 Tryz.underlying3 rfl (i64w (by omega))) rfl <| WL.p (.as rfl) rfl <| WL.nil <| ?_
                          refine W.seq ?_
                          refine W.seq ?_
                          refine W.reg ?_ -- 41
                          refine WL.p (.as rfl) rfl <| WL.nil <| ?_
                          refine W.block ?_
                          -- loop 2: writes [9, 11, 12, 131, 132, 133, 134, 135, 136, 137, 138, 139, 140, 141, 142, 143, 144, 145, 146, 147, 148, 149, 150, 151, 152, 153, 154, 155, 156, 157, 158, 159, 160, 161, 162, 163, 164, 165]; reads from outside [0, 9, 11, 12]
                          refine W.loop (α := Nat × Nat × Nat) (fun t => [(0, .slice p l.length c), (7, v), (8, .int .i64 (d2 : Int)), (9, .int .i64 (t.2.2 : Int)), (11, .int .i64 (t.1 : Int)), (12, .int .i64 (t.2.1 : Int))]) (fun t w' => w1 = w' ∧ s + 2 ≤ t.2.2 ∧ t.2.2 ≤ l.length ∧ (t.2.1 = 0 ∧ t.1 ≤ 7 ∨ t.2.1 = 1 ∧ t.1 ≤ 63 ∨ t.2.1 = 2 ∧ t.1 ≤ 511) ∧ octS (2 - t.2.1) t.1 (l.drop t.2.2) = octS 2 (y.toNat - 48) (l.drop (s + 2))) (fun t => 2 - t.2.1) ((y.toNat - 48, 0, s + 2)) ⟨rfl, rfl, rfl, lk_i rfl (by ((try simp only) <;> omega)), lk_i rfl (by ((try simp only) <;> omega)), rfl, trivial⟩ (⟨rfl, by ((try simp only) <;> omega), by ((try simp only) <;> omega), Or.inl ⟨rfl, by ((try simp only) <;> omega)⟩, rfl⟩) (fun t w1 hR => ?_)
                          obtain ⟨m, k, u⟩ := t
                          obtain ⟨rfl, hu1, hu2, hm, hoc⟩ := hR
                          simp only at hu1 hu2 hm hoc ⊢
                          refine W.seq ?_
                          refine W.cutB 152 (octT l k u) ?_ ?_
                          · skip
                            refine W.reg ?_ -- 42
                            refine WL.p (.mv rfl) rfl <| WL.p (.lss rfl rfl) rfl <| WL.p (.mv rfl) rfl <| WL.gd rfl rfl rfl (fun g81 => ?_) (fun g81 => ?_)
                            · have g81' := of_decide_eq_true g81
                              refine WL.p (.mv rfl) rfl <| WL.gy rfl rfl rfl g81 <| WL.p (.mv rfl) rfl <| WL.gy rfl rfl rfl g81 <| WL.p (.lenS Tryz.underlying22 rfl) rfl <| WL.gy rfl rfl rfl g81 <| WL.p (.lss rfl rfl) rfl <| WL.p (.pkT rfl g81 rfl) rfl <| WL.p (.mv rfl) rfl <| WL.gd rfl rfl rfl (fun g82 => ?_) (fun g82 => ?_)
                              · have g82' := of_decide_eq_true g82
                                refine WL.p (.mv rfl) rfl <| WL.gy rfl rfl rfl g82 <| WL.p (.mv rfl) rfl <| WL.gy rfl rfl rfl g82 <| WL.p (.ixb Tryz.underlying22 Tryz.sizeOf5 rfl rfl (hbv.isp (by omega)) _ rfl (by omega)) rfl <| WL.gy rfl rfl rfl g82 <| WL.r (Rd.ldc (Tryz.isAgg5 _) rfl (hbv.cells _ (by omega))) rfl <| WL.gy rfl rfl rfl g82 <| WL.p (.geq rfl rfl) rfl <| WL.p (.pkT rfl g82 rfl) rfl <| WL.p (.mv rfl) rfl <| WL.gd rfl rfl rfl (fun g83 => ?_) (fun g83 => ?_)
                                · have g83' := of_decide_eq_true g83
                                  refine WL.p (.mv rfl) rfl <| WL.gy rfl rfl rfl g83 <| WL.p (.mv rfl) rfl <| WL.gy rfl rfl rfl g83 <| WL.p (.ixb Tryz.underlying22 Tryz.sizeOf5 rfl rfl (hbv.isp (by omega)) _ rfl (by omega)) rfl <| WL.gy rfl rfl rfl g83 <| WL.r (Rd.ldc (Tryz.isAgg5 _) rfl (hbv.cells _ (by omega))) rfl <| WL.gy rfl rfl rfl g83 <| WL.p (.leq rfl rfl) rfl <| WL.p (.pkT rfl g83 rfl) rfl <| WL.nil <| ?_
                                  exact ⟨⟨lk_b rfl (by (by_cases hq : u < l.length) <;> (unfold octT; first | (exfalso; omega) | (rw [getElem!_pos l u hq]; (apply Bool.eq_iff_iff.2; (try simp only [Bool.and_eq_true, Bool.or_eq_true, Bool.not_eq_true', decide_eq_true_eq, decide_eq_false_iff_not, Bool.false_eq_true, Bool.not_eq_false', false_iff, iff_false, true_iff, iff_true]); omega)) | (apply Bool.eq_iff_iff.2; (try simp only [Bool.and_eq_true, Bool.or_eq_true, Bool.not_eq_true', decide_eq_true_eq, decide_eq_false_iff_not, Bool.false_eq_true, Bool.not_eq_false', false_iff, iff_false, true_iff, iff_true]); omega))), by repeat (first | exact Le.refl _ | refine Le.cons rfl ?_)⟩, rfl⟩
                                · have g83' := of_decide_eq_false g83
                                  refine WL.gn rfl rfl rfl g83 <| WL.gn rfl rfl rfl g83 <| WL.gn rfl rfl rfl g83 <| WL.gn rfl rfl rfl g83 <| WL.p (.pkF rfl g83 rfl) rfl <| WL.nil <| ?_
                                  exact ⟨⟨lk_b rfl (by (by_cases hq : u < l.length) <;> (unfold octT; first | (exfalso; omega) | (rw [getElem!_pos l u hq]; (apply Bool.eq_iff_iff.2; (try simp only [Bool.and_eq_true, Bool.or_eq_true, Bool.not_eq_true', decide_eq_true_eq, decide_eq_false_iff_not, Bool.false_eq_true, Bool.not_eq_false', false_iff, iff_false, true_iff, iff_true]); omega)) | (apply Bool.eq_iff_iff.2; (try simp only [Bool.and_eq_true, Bool.or_eq_true, Bool.not_eq_true', decide_eq_true_eq, decide_eq_false_iff_not, Bool.false_eq_true, Bool.not_eq_false', false_iff, iff_false, true_iff, iff_true]); omega))), by repeat (first | exact Le.refl _ | refine Le.cons rfl ?_)⟩, rfl⟩
                              · have g82' := of_decide_eq_false g82
                                refine WL.gn rfl rfl rfl g82 <| WL.gn rfl rfl rfl g82 <| WL.gn rfl rfl rfl g82 <| WL.gn rfl rfl rfl g82 <| WL.p (.pkF rfl g82 rfl) rfl <| WL.p (.mv rfl) rfl <| WL.gn rfl rfl rfl rfl <| WL.gn rfl rfl rfl rfl <| WL.gn rfl rfl rfl rfl <| WL.gn rfl rfl rfl rfl <| WL.gn rfl rfl rfl rfl <| WL.p (.pkF rfl rfl rfl) rfl <| WL.nil <| ?_
                                exact ⟨⟨lk_b rfl (by (by_cases hq : u < l.length) <;> (unfold octT; first | (exfalso; omega) | (rw [getElem!_pos l u hq]; (apply Bool.eq_iff_iff.2; (try simp only [Bool.and_eq_true, Bool.or_eq_true, Bool.not_eq_true', decide_eq_true_eq, decide_eq_false_iff_not, Bool.false_eq_true, Bool.not_eq_false', false_iff, iff_false, true_iff, iff_true]); omega)) | (apply Bool.eq_iff_iff.2; (try simp only [Bool.and_eq_true, Bool.or_eq_true, Bool.not_eq_true', decide_eq_true_eq, decide_eq_false_iff_not, Bool.false_eq_true, Bool.not_eq_false', false_iff, iff_false, true_iff, iff_true]); omega))), by repeat (first | exact Le.refl _ | refine Le.cons rfl ?_)⟩, rfl⟩
                            · have g81' := of_decide_eq_false g81
                              refine WL.gn rfl rfl rfl g81 <| WL.gn rfl rfl rfl g81 <| WL.gn rfl rfl rfl g81 <| WL.p (.pkF rfl g81 rfl) rfl <| WL.p (.mv rfl) rfl <| WL.gn rfl rfl rfl rfl <| WL.gn rfl rfl rfl rfl <| WL.gn rfl rfl rfl rfl <| WL.gn rfl rfl rfl rfl <| WL.gn rfl rfl rfl rfl <| WL.p (.pkF rfl rfl rfl) rfl <| WL.p (.mv rfl) rfl <| WL.gn rfl rfl rfl rfl <| WL.gn rfl rfl rfl rfl <| WL.gn rfl rfl rfl rfl <| WL.gn rfl rfl rfl rfl <| WL.gn rfl rfl rfl rfl <| WL.p (.pkF rfl rfl rfl) rfl <| WL.nil <| ?_
                              exact ⟨⟨lk_b rfl (by (by_cases hq : u < l.length) <;> (unfold octT; first | (exfalso; omega) | (rw [getElem!_pos l u hq]; (apply Bool.eq_iff_iff.2; (try simp only [Bool.and_eq_true, Bool.or_eq_true, Bool.not_eq_true', decide_eq_true_eq, decide_eq_false_iff_not, Bool.false_eq_true, Bool.not_eq_false', false_iff, iff_false, true_iff, iff_true]); omega)) | (apply Bool.eq_iff_iff.2; (try simp only [Bool.and_eq_true, Bool.or_eq_true, Bool.not_eq_true', decide_eq_true_eq, decide_eq_false_iff_not, Bool.false_eq_true, Bool.not_eq_false', false_iff, iff_false, true_iff, iff_true]); omega))), by repeat (first | exact Le.refl _ | refine Le.cons rfl ?_)⟩, rfl⟩
                          refine W.cond rfl (fun h84 => ?_) (fun h84 => ?_) -- slot 152
                          · have h84' := h84
                            obtain ⟨hk2, hul, h48, h55, hoct⟩ := octT_t (by assumption)
                            refine W.skip ?_
                            refine W.seq ?_
                            refine W.block ?_
                            refine W.seq ?_
                            refine W.reg ?_ -- 44
                            refine WL.p (.mv rfl) rfl <| WL.p (.mul rfl rfl (i64w (by omega))) rfl <| WL.p (.mv rfl) rfl <| WL.p (.mv rfl) rfl <| WL.p (.ixb Tryz.underlying22 Tryz.sizeOf5 rfl rfl (hbv.isp (by omega)) _ rfl (by omega)) rfl <| WL.r (Rd.ldc (Tryz.isAgg5 _) rfl (hbv.cells _ (by omega))) rfl <| WL.p (.sub rfl rfl (u8w (by omega))) rfl <| WL.p (.cvt Tryz.underlying5 Tryz.underlying3 rfl (i64w (by omega))) rfl <| WL.p (.add rfl rfl (i64w (by omega))) rfl <| WL.p (.as rfl) rfl <| WL.nil <| ?_
                            refine W.reg ?_ -- 45
                            refine WL.p (.mv rfl) rfl <| WL.p (.add rfl rfl (i64w (by omega))) rfl <| WL.p (.as rfl) rfl <| WL.nil <| ?_
                            refine W.reg ?_ -- 43
                            refine WL.p (.mv rfl) rfl <| WL.p (.add rfl rfl (i64w (by omega))) rfl <| WL.p (.as rfl) rfl <| WL.nil <| ?_
                            exact ⟨(8 * m + ((l[u]'hul).toNat - 48), k + 1, u + 1), ⟨rfl, rfl, rfl, lk_i rfl (by ((try simp only) <;> omega)), lk_i rfl (by ((try simp only) <;> omega)), lk_i rfl (by ((try simp only) <;> omega)), trivial⟩, ⟨rfl, by ((try simp only) <;> omega), by ((try simp only) <;> omega), by ((try simp only) <;> omega), by rw [← hoc, hoct m]⟩, by ((try simp only) <;> omega)⟩
                          · have h84' := h84
                            have hoct := octT_f (by assumption) m
                            rw [hoc] at hoct
                            refine W.exit ?_ -- 3
                            refine W.reg ?_ -- 46
                            refine WL.p (.mv rfl) rfl <| WL.p (.mv rfl) rfl <| WL.p (.rem rfl rfl (by omega) (Int.tmod_eq_emod_of_nonneg (by omega))) rfl <| WL.p (.cvt Tryz.underlying3 Tryz.underlying5 rfl (u8w (by omega))) rfl <| WL.bsl (ps := _) Tryz.underlying22 Tryz.sizeOf5 Tryz.zeroValue5 rfl rfl rfl rfl rfl (by simp only [put1, List.map, List.zip, List.zipWith, List.set, List.replicate] <;> rfl) rfl (fun b85 wb85 eb85 hkb85 hub85 hsb85 => ?_)
                            have ho86 := Own.new hown eb85 hub85
                            have hvl88 := fun h0 => eb85 ▸ hbv.lt h0
                            have hv87 := BytesAt.upd hbv hub85 (fun h0 => Nat.ne_of_lt (hvl88 h0))
                            have hB89 := Upd.below hB' (by rw [eb85]; exact hB'.size) hub85
                            have hgeb85 : w.heap.size ≤ b85 := by rw [eb85]; exact hB'.size
                            refine WL.appm Tryz.underlying22 inf5 rfl rfl rfl ho86 rfl hkb85 rfl (by rw [byteVals_len]; omega) (hB89.size) rfl (fun v90 w91 how91 hbw91 hgw91 => ?_)
                            have hv92 := BytesAt.below hv87 hbw91 hvB
                            have hB93 := Below.trans hB89 (hbw91.mono (Nat.le_refl _))
                            have ho94 := Own.snoc how91 (ch ((m % 256 : Nat) : Int)) (by rw [ch_val _ (by omega) (by omega)]; omega)
                            refine WL.p (.as rfl) rfl <| WL.nil <| ?_
                            first
                            | exact ⟨(_, o ++ [x1], d2, s1), ⟨rfl, rfl, rfl, lk_i rfl (by ((try simp only) <;> omega)), trivial⟩, ⟨hB93, hv92, ho94, (by rw [← hw, hstep o]), by ((try simp only) <;> omega), by ((try simp only) <;> omega), by (simp only [List.length_append, List.length_cons, List.length_nil]; omega), by ((try simp only) <;> omega)⟩, by ((try simp only) <;> omega)⟩
                            | exact ⟨(_, o ++ [ch ((m % 256 : Nat) : Int)], d2, u), ⟨rfl, rfl, rfl, lk_i rfl (by ((try simp only) <;> omega)), trivial⟩, ⟨hB93, hv92, ho94, (by rw [← hw, he, esc_oct _ (by assumption) (by assumption), hoct]), by ((try simp only) <;> omega), by ((try simp only) <;> omega), by (simp only [List.length_append, List.length_cons, List.length_nil]; omega), by ((try simp only) <;> omega)⟩, by ((try simp only) <;> omega)⟩
                            | exact ⟨(_, o ++ [10], d2, s + 2), ⟨rfl, rfl, rfl, lk_i rfl (by ((try simp only) <;> omega)), trivial⟩, ⟨hB93, hv92, ho94, (by rw [← hw, he, show y = 110 from u8_eq (by assumption), esc110]), by ((try simp only) <;> omega), by ((try simp only) <;> omega), by (simp only [List.length_append, List.length_cons, List.length_nil]; omega), by ((try simp only) <;> omega)⟩, by ((try simp only) <;> omega)⟩
                            | exact ⟨(_, o ++ [13], d2, s + 2), ⟨rfl, rfl, rfl, lk_i rfl (by ((try simp only) <;> omega)), trivial⟩, ⟨hB93, hv92, ho94, (by rw [← hw, he, show y = 114 from u8_eq (by assumption), esc114]), by ((try simp only) <;> omega), by ((try simp only) <;> omega), by (simp only [List.length_append, List.length_cons, List.length_nil]; omega), by ((try simp only) <;> omega)⟩, by ((try simp only) <;> omega)⟩
                            | exact ⟨(_, o ++ [9], d2, s + 2), ⟨rfl, rfl, rfl, lk_i rfl (by ((try simp only) <;> omega)), trivial⟩, ⟨hB93, hv92, ho94, (by rw [← hw, he, show y = 116 from u8_eq (by assumption), esc116]), by ((try simp only) <;> omega), by ((try simp only) <;> omega), by (simp only [List.length_append, List.length_cons, List.length_nil]; omega), by ((try simp only) <;> omega)⟩, by ((try simp only) <;> omega)⟩
                            | exact ⟨(_, o ++ [8], d2, s + 2), ⟨rfl, rfl, rfl, lk_i rfl (by ((try simp only) <;> omega)), trivial⟩, ⟨hB93, hv92, ho94, (by rw [← hw, he, show y = 98 from u8_eq (by assumption), esc98]), by ((try simp only) <;> omega), by ((try simp only) <;> omega), by (simp only [List.length_append, List.length_cons, List.length_nil]; omega), by ((try simp only) <;> omega)⟩, by ((try simp only) <;> omega)⟩
                            | exact ⟨(_, o ++ [12], d2, s + 2), ⟨rfl, rfl, rfl, lk_i rfl (by ((try simp only) <;> omega)), trivial⟩, ⟨hB93, hv92, ho94, (by rw [← hw, he, show y = 102 from u8_eq (by assumption), esc102]), by ((try simp only) <;> omega), by ((try simp only) <;> omega), by (simp only [List.length_append, List.length_cons, List.length_nil]; omega), by ((try simp only) <;> omega)⟩, by ((try simp only) <;> omega)⟩
                            | exact ⟨(_, o, d2, s + 2), ⟨rfl, rfl, rfl, lk_i rfl (by ((try simp only) <;> omega)), trivial⟩, ⟨hB93, hv92, ho94, (by rw [← hw, he, show y = 10 from u8_eq (by assumption), esc10, List.append_nil]), by ((try simp only) <;> omega), by ((try simp only) <;> omega), by ((try simp only) <;> omega), by ((try simp only) <;> omega)⟩, by ((try simp only) <;> omega)⟩
                            | exact ⟨(_, o, d2, s + 2), ⟨rfl, rfl, rfl, lk_i rfl (by ((try simp only) <;> omega)), trivial⟩, ⟨hB93, hv92, ho94, (by rw [← hw, he, show y = 13 from u8_eq (by assumption), esc13, List.append_nil, lfB_f (l := l) (t := s + 2) (by assumption)]), by ((try simp only) <;> omega), by ((try simp only) <;> omega), by ((try simp only) <;> omega), by ((try simp only) <;> omega)⟩, by ((try simp only) <;> omega)⟩
                            | (have hlf := lfB_t (l := l) (t := s + 2) (by assumption); exact ⟨(_, o, d2, s + 3), ⟨rfl, rfl, rfl, lk_i rfl (by ((try simp only) <;> omega)), trivial⟩, ⟨hB93, hv92, ho94, (by rw [← hw, he, show y = 13 from u8_eq (by assumption), esc13, List.append_nil, hlf.2]), by ((try simp only) <;> omega), by ((try simp only) <;> omega), by ((try simp only) <;> omega), by ((try simp only) <;> omega)⟩, by ((try simp only) <;> omega)⟩)
                            | exact ⟨(_, o ++ [y], d2, s + 2), ⟨rfl, rfl, rfl, lk_i rfl (by ((try simp only) <;> omega)), trivial⟩, ⟨hB93, hv92, ho94, (by rw [← hw, he, esc_else _ (by omega) (by omega) (by omega) (by omega) (by omega) (by omega) (by omega) (by omega)]), by ((try simp only) <;> omega), by ((try simp only) <;> omega), by (simp only [List.length_append, List.length_cons, List.length_nil]; omega), by ((try simp only) <;> omega)⟩, by ((try simp only) <;> omega)⟩
                        · have h80' := of_decide_eq_false h80
                          refine W.reg ?_ -- 24
                          refine WL.p (.mv rfl) rfl <| WL.p (.mv rfl) rfl <| WL.bsl (ps := _) Tryz.underlying22 Tryz.sizeOf5 Tryz.zeroValue5 rfl rfl rfl rfl rfl (by simp only [put1, List.map, List.zip, List.zipWith, List.set, List.replicate] <;> rfl) rfl (fun b95 wb95 eb95 hkb95 hub95 hsb95 => ?_)
                          have ho96 := Own.new hown eb95 hub95
                          have hvl98 := fun h0 => eb95 ▸ hbv.lt h0
                          have hv97 := BytesAt.upd hbv hub95 (fun h0 => Nat.ne_of_lt (hvl98 h0))
                          have hB99 := Upd.below hB' (by rw [eb95]; exact hB'.size) hub95
                          have hgeb95 : w.heap.size ≤ b95 := by rw [eb95]; exact hB'.size
                          refine WL.appm Tryz.underlying22 inf5 rfl rfl rfl ho96 rfl hkb95 rfl (by rw [byteVals_len]; omega) (hB99.size) rfl (fun v100 w101 how101 hbw101 hgw101 => ?_)
                          have hv102 := BytesAt.below hv97 hbw101 hvB
                          have hB103 := Below.trans hB99 (hbw101.mono (Nat.le_refl _))
                          have ho104 := Own.snoc how101 (y) (rfl)
                          refine WL.p (.as rfl) rfl <| WL.nil <| ?_
                          first
                          | exact ⟨(_, o ++ [x1], d2, s1), ⟨rfl, rfl, rfl, lk_i rfl (by ((try simp only) <;> omega)), trivial⟩, ⟨hB103, hv102, ho104, (by rw [← hw, hstep o]), by ((try simp only) <;> omega), by ((try simp only) <;> omega), by (simp only [List.length_append, List.length_cons, List.length_nil]; omega), by ((try simp only) <;> omega)⟩, by ((try simp only) <;> omega)⟩
                          | exact ⟨(_, o ++ [ch ((m % 256 : Nat) : Int)], d2, u), ⟨rfl, rfl, rfl, lk_i rfl (by ((try simp only) <;> omega)), trivial⟩, ⟨hB103, hv102, ho104, (by rw [← hw, he, esc_oct _ (by assumption) (by assumption), hoct]), by ((try simp only) <;> omega), by ((try simp only) <;> omega), by (simp only [List.length_append, List.length_cons, List.length_nil]; omega), by ((try simp only) <;> omega)⟩, by ((try simp only) <;> omega)⟩
                          | exact ⟨(_, o ++ [10], d2, s + 2), ⟨rfl, rfl, rfl, lk_i rfl (by ((try simp only) <;> omega)), trivial⟩, ⟨hB103, hv102, ho104, (by rw [← hw, he, show y = 110 from u8_eq (by assumption), esc110]), by ((try simp only) <;> omega), by ((try simp only) <;> omega), by (simp only [List.length_append, List.length_cons, List.length_nil]; omega), by ((try simp only) <;> omega)⟩, by ((try simp only) <;> omega)⟩
                          | exact ⟨(_, o ++ [13], d2, s + 2), ⟨rfl, rfl, rfl, lk_i rfl (by ((try simp only) <;> omega)), trivial⟩, ⟨hB103, hv102, ho104, (by rw [← hw, he, show y = 114 from u8_eq (by assumption), esc114]), by ((try simp only) <;> omega), by ((try simp only) <;> omega), by (simp only [List.length_append, List.length_cons, List.length_nil]; omega), by ((try simp only) <;> omega)⟩, by ((try simp only) <;> omega)⟩
                          | exact ⟨(_, o ++ [9], d2, s + 2), ⟨rfl, rfl, rfl, lk_i rfl (by ((try simp only) <;> omega)), trivial⟩, ⟨hB103, hv102, ho104, (by rw [← hw, he, show y = 116 from u8_eq (by assumption), esc116]), by ((try simp only) <;> omega), by ((try simp only) <;> omega), by (simp only [List.length_append, List.length_cons, List.length_nil]; omega), by ((try simp only) <;> omega)⟩, by ((try simp only) <;> omega)⟩
                          | exact ⟨(_, o ++ [8], d2, s + 2), ⟨rfl, rfl, rfl, lk_i rfl (by ((try simp only) <;> omega)), trivial⟩, ⟨hB103, hv102, ho104, (by rw [← hw, he, show y = 98 from u8_eq (by assumption), esc98]), by ((try simp only) <;> omega), by ((try simp only) <;> omega), by (simp only [List.length_append, List.length_cons, List.length_nil]; omega), by ((try simp only) <;> omega)⟩, by ((try simp only) <;> omega)⟩
                          | exact ⟨(_, o ++ [12], d2, s + 2), ⟨rfl, rfl, rfl, lk_i rfl (by ((try simp only) <;> omega)), trivial⟩, ⟨hB103, hv102, ho104, (by rw [← hw, he, show y = 102 from u8_eq (by assumption), esc102]), by ((try simp only) <;> omega), by ((try simp only) <;> omega), by (simp only [List.length_append, List.length_cons, List.length_nil]; omega), by ((try simp only) <;> omega)⟩, by ((try simp only) <;> omega)⟩
                          | exact ⟨(_, o, d2, s + 2), ⟨rfl, rfl, rfl, lk_i rfl (by ((try simp only) <;> omega)), trivial⟩, ⟨hB103, hv102, ho104, (by rw [← hw, he, show y = 10 from u8_eq (by assumption), esc10, List.append_nil]), by ((try simp only) <;> omega), by ((try simp only) <;> omega), by ((try simp only) <;> omega), by ((try simp only) <;> omega)⟩, by ((try simp only) <;> omega)⟩
                          | exact ⟨(_, o, d2, s + 2), ⟨rfl, rfl, rfl, lk_i rfl (by ((try simp only) <;> omega)), trivial⟩, ⟨hB103, hv102, ho104, (by rw [← hw, he, show y = 13 from u8_eq (by assumption), esc13, List.append_nil, lfB_f (l := l) (t := s + 2) (by assumption)]), by ((try simp only) <;> omega), by ((try simp only) <;> omega), by ((try simp only) <;> omega), by ((try simp only) <;> omega)⟩, by ((try simp only) <;> omega)⟩
                          | (have hlf := lfB_t (l := l) (t := s + 2) (by assumption); exact ⟨(_, o, d2, s + 3), ⟨rfl, rfl, rfl, lk_i rfl (by ((try simp only) <;> omega)), trivial⟩, ⟨hB103, hv102, ho104, (by rw [← hw, he, show y = 13 from u8_eq (by assumption), esc13, List.append_nil, hlf.2]), by ((try simp only) <;> omega), by ((try simp only) <;> omega), by ((try simp only) <;> omega), by ((try simp only) <;> omega)⟩, by ((try simp only) <;> omega)⟩)
                          | exact ⟨(_, o ++ [y], d2, s + 2), ⟨rfl, rfl, rfl, lk_i rfl (by ((try simp only) <;> omega)), trivial⟩, ⟨hB103, hv102, ho104, (by rw [← hw, he, esc_else _ (by omega) (by omega) (by omega) (by omega) (by omega) (by omega) (by omega) (by omega)]), by ((try simp only) <;> omega), by ((try simp only) <;> omega), by (simp only [List.length_append, List.length_cons, List.length_nil]; omega), by ((try simp only) <;> omega)⟩, by ((try simp only) <;> omega)⟩
                      · have g79' := of_decide_eq_false g79
                        refine WL.gn rfl rfl rfl g79 <| WL.p (.pkF rfl g79 rfl) rfl <| WL.p (.as rfl) rfl <| WL.nil <| ?_
                        refine W.condF rfl rfl ?_
                        refine W.reg ?_ -- 24
                        refine WL.p (.mv rfl) rfl <| WL.p (.mv rfl) rfl <| WL.bsl (ps := _) Tryz.underlying22 Tryz.sizeOf5 Tryz.zeroValue5 rfl rfl rfl rfl rfl (by simp only [put1, List.map, List.zip, List.zipWith, List.set, List.replicate] <;> rfl) rfl (fun b105 wb105 eb105 hkb105 hub105 hsb105 => ?_)
                        have ho106 := Own.new hown eb105 hub105
                        have hvl108 := fun h0 => eb105 ▸ hbv.lt h0
                        have hv107 := BytesAt.upd hbv hub105 (fun h0 => Nat.ne_of_lt (hvl108 h0))
                        have hB109 := Upd.below hB' (by rw [eb105]; exact hB'.size) hub105
                        have hgeb105 : w.heap.size ≤ b105 := by rw [eb105]; exact hB'.size
                        refine WL.appm Tryz.underlying22 inf5 rfl rfl rfl ho106 rfl hkb105 rfl (by rw [byteVals_len]; omega) (hB109.size) rfl (fun v110 w111 how111 hbw111 hgw111 => ?_)
                        have hv112 := BytesAt.below hv107 hbw111 hvB
                        have hB113 := Below.trans hB109 (hbw111.mono (Nat.le_refl _))
                        have ho114 := Own.snoc how111 (y) (rfl)
                        refine WL.p (.as rfl) rfl <| WL.nil <| ?_
                        first
                        | exact ⟨(_, o ++ [x1], d2, s1), ⟨rfl, rfl, rfl, lk_i rfl (by ((try simp only) <;> omega)), trivial⟩, ⟨hB113, hv112, ho114, (by rw [← hw, hstep o]), by ((try simp only) <;> omega), by ((try simp only) <;> omega), by (simp only [List.length_append, List.length_cons, List.length_nil]; omega), by ((try simp only) <;> omega)⟩, by ((try simp only) <;> omega)⟩
                        | exact ⟨(_, o ++ [ch ((m % 256 : Nat) : Int)], d2, u), ⟨rfl, rfl, rfl, lk_i rfl (by ((try simp only) <;> omega)), trivial⟩, ⟨hB113, hv112, ho114, (by rw [← hw, he, esc_oct _ (by assumption) (by assumption), hoct]), by ((try simp only) <;> omega), by ((try simp only) <;> omega), by (simp only [List.length_append, List.length_cons, List.length_nil]; omega), by ((try simp only) <;> omega)⟩, by ((try simp only) <;> omega)⟩
                        | exact ⟨(_, o ++ [10], d2, s + 2), ⟨rfl, rfl, rfl, lk_i rfl (by ((try simp only) <;> omega)), trivial⟩, ⟨hB113, hv112, ho114, (by rw [← hw, he, show y = 110 from u8_eq (by assumption), esc110]), by ((try simp only) <;> omega), by ((try simp only) <;> omega), by (simp only [List.length_append, List.length_cons, List.length_nil]; omega), by ((try simp only) <;> omega)⟩, by ((try simp only) <;> omega)⟩
                        | exact ⟨(_, o ++ [13], d2, s + 2), ⟨rfl, rfl, rfl, lk_i rfl (by ((try simp only) <;> omega)), trivial⟩, ⟨hB113, hv112, ho114, (by rw [← hw, he, show y = 114 from u8_eq (by assumption), esc114]), by ((try simp only) <;> omega), by ((try simp only) <;> omega), by (simp only [List.length_append, List.length_cons, List.length_nil]; omega), by ((try simp only) <;> omega)⟩, by ((try simp only) <;> omega)⟩
                        | exact ⟨(_, o ++ [9], d2, s + 2), ⟨rfl, rfl, rfl, lk_i rfl (by ((try simp only) <;> omega)), trivial⟩, ⟨hB113, hv112, ho114, (by rw [← hw, he, show y = 116 from u8_eq (by assumption), esc116]), by ((try simp only) <;> omega), by ((try simp only) <;> omega), by (simp only [List.length_append, List.length_cons, List.length_nil]; omega), by ((try simp only) <;> omega)⟩, by ((try simp only) <;> omega)⟩
                        | exact ⟨(_, o ++ [8], d2, s + 2), ⟨rfl, rfl, rfl, lk_i rfl (by ((try simp only) <;> omega)), trivial⟩, ⟨hB113, hv112, ho114, (by rw [← hw, he, show y = 98 from u8_eq (by assumption), esc98]), by ((try simp only) <;> omega), by ((try simp only) <;> omega), by (simp only [List.length_append, List.length_cons, List.length_nil]; omega), by ((try simp only) <;> omega)⟩, by ((try simp only) <;> omega)⟩
                        | exact ⟨(_, o ++ [12], d2, s + 2), ⟨rfl, rfl, rfl, lk_i rfl (by ((try simp only) <;> omega)), trivial⟩, ⟨hB113, hv112, ho114, (by rw [← hw, he, show y = 102 from u8_eq (by assumption), esc102]), by ((try simp only) <;> omega), by ((try simp only) <;> omega), by (simp only [List.length_append, List.length_cons, List.length_nil]; omega), by ((try simp only) <;> omega)⟩, by ((try simp only) <;> omega)⟩
                        | exact ⟨(_, o, d2, s + 2), ⟨rfl, rfl, rfl, lk_i rfl (by ((try simp only) <;> omega)), trivial⟩, ⟨hB113, hv112, ho114, (by rw [← hw, he, show y = 10 from u8_eq (by assumption), esc10, List.append_nil]), by ((try simp only) <;> omega), by ((try simp only) <;> omega), by ((try simp only) <;> omega), by ((try simp only) <;> omega)⟩, by ((try simp only) <;> omega)⟩
                        | exact ⟨(_, o, d2, s + 2), ⟨rfl, rfl, rfl, lk_i rfl (by ((try simp only) <;> omega)), trivial⟩, ⟨hB113, hv112, ho114, (by rw [← hw, he, show y = 13 from u8_eq (by assumption), esc13, List.append_nil, lfB_f (l := l) (t := s + 2) (by assumption)]), by ((try simp only) <;> omega), by ((try simp only) <;> omega), by ((try simp only) <;> omega), by ((try simp only) <;> omega)⟩, by ((try simp only) <;> omega)⟩
                        | (have hlf := lfB_t (l := l) (t := s + 2) (by assumption); exact ⟨(_, o, d2, s + 3), ⟨rfl, rfl, rfl, lk_i rfl (by ((try simp only) <;> omega)), trivial⟩, ⟨hB113, hv112, ho114, (by rw [← hw, he, show y = 13 from u8_eq (by assumption), esc13, List.append_nil, hlf.2]), by ((try simp only) <;> omega), by ((try simp only) <;> omega), by ((try simp only) <;> omega), by ((try simp only) <;> omega)⟩, by ((try simp only) <;> omega)⟩)
                        | exact ⟨(_, o ++ [y], d2, s + 2), ⟨rfl, rfl, rfl, lk_i rfl (by ((try simp only) <;> omega)), trivial⟩, ⟨hB113, hv112, ho114, (by rw [← hw, he, esc_else _ (by omega) (by omega) (by omega) (by omega) (by omega) (by omega) (by omega) (by omega)]), by ((try simp only) <;> omega), by ((try simp only) <;> omega), by (simp only [List.length_append, List.length_cons, List.length_nil]; omega), by ((try simp only) <;> omega)⟩, by ((try simp only) <;> omega)⟩

end Go.Proofs.YtjghbcjnplcleaaGreatDoor
