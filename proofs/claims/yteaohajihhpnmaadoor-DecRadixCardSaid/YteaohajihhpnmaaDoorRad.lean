/-
  The law DecRadix, walked.
-/
import Derived.Test.YteaohajihhpnmaaDoorBackP
import Derived.Test.YteaohajihhpnmaaDoorAns
import Derived.Test.YteaohajihhpnmaaDoorFwHb
import Derived.Test.YteaohajihhpnmaaDoorFwB
namespace Go.Proofs.YteaohajihhpnmaaDoor
open Go.RowKit

/-- a digit of a base, in either case of letters -/
def dgc (small : Bool) (d : Nat) : UInt8 := if d ≤ 9 then ch (48 + (d : Int)) else if small then ch (87 + (d : Int)) else ch (55 + (d : Int))
theorem ch_nat (x : Int) (h0 : 0 ≤ x) (h : x < 256) : ((ch x).toNat : Int) = x := by
  unfold ch
  rw [UInt8.toNat_ofNat']; omega
theorem hexN_dgc (small : Bool) (d : Nat) (h : d < 36) : hexN (dgc small d) = d := by
  unfold dgc
  split
  · have := ch_nat (48 + (d : Int)) (by omega) (by omega)
    unfold hexN; rw [if_pos (by omega)]; omega
  · split
    · have := ch_nat (87 + (d : Int)) (by omega) (by omega)
      unfold hexN; rw [if_neg (by omega), if_pos (by omega)]; omega
    · have := ch_nat (55 + (d : Int)) (by omega) (by omega)
      unfold hexN; rw [if_neg (by omega), if_neg (by omega), if_pos (by omega)]; omega
/-- the number that digits of a base write behind another -/
def radE (b : Nat) (u : Nat) (s : List UInt8) : Nat := s.foldl (fun a c => a * b + hexN c) u
theorem radE_ge (b : Nat) (hb : 1 ≤ b) : ∀ (s : List UInt8) (u : Nat), u ≤ radE b u s
  | [], u => Nat.le_refl _
  | c :: r, u => by
    have h1 := radE_ge b hb r (u * b + hexN c)
    have h2 : u * 1 ≤ u * b := Nat.mul_le_mul_left u hb
    show u ≤ radE b (u * b + hexN c) r
    omega
theorem radixLoop_radE (b : Nat) (hb : 1 ≤ b) : ∀ (s : List UInt8) (u : Nat), (∀ c ∈ s, hexN c < b) → radE b u s < 4294967296 → radixLoop b s u false = some (radE b u s, false)
  | [], u, _, _ => rfl
  | c :: r, u, h, hlt => by
    have hc := h c (by simp)
    have hge := radE_ge b hb r (u * b + hexN c)
    have hlt' : radE b (u * b + hexN c) r < 4294967296 := hlt
    rw [radixLoop, if_neg (by omega), if_neg (by omega)]
    exact radixLoop_radE b hb r _ (fun x hx => h x (by simp [hx])) hlt'
theorem tokenL_base (b : Nat) (hb : 2 ≤ b) (hb2 : b ≤ 36) (s : List UInt8) (h0 : s ≠ []) (hl : s.length ≤ 32) (hd : ∀ c ∈ s, hexN c < b) (n : Nat) (hn : radE b 0 s = n) (hlt : n < 4294967296) :
    tokenL (digitsL b ++ 35 :: s) = tokInt (if 2147483648 ≤ n then (n : Int) - 4294967296 else n) := by
  obtain ⟨d1, d2, d3⟩ := digitsL_val b
  have d4 : (digitsL b).length ≤ 2 := digitsL_len 1 b (by omega)
  have hc : cutC 35 (digitsL b ++ 35 :: s) = (digitsL b, s, true) := cutC_yes 35 s _ fun h => absurd (d1 35 h) (by decide)
  have hok : radixOk (digitsL b ++ 35 :: s) = true := by
    unfold radixOk
    rw [hc]
    simp only [Bool.and_eq_true, decide_eq_true_eq, Bool.not_eq_true', List.isEmpty_eq_false_iff]
    exact ⟨⟨⟨⟨trivial, d3⟩, d4⟩, List.all_eq_true.2 d1⟩, h0⟩
  rw [tokenL_radix _ _ _ (by simp only [List.length_append, List.length_cons]; omega) hok hc]
  unfold radixV
  rw [d2, if_neg (by omega), radixLoop_radE b (by omega) s 0 hd (by omega), hn]
  rfl

theorem token_int (l : List UInt8) (n : Int) (w : World) (ht : tokenL l = tokInt n) :
    Calls Tryd.prog 17 #[.string (bs l)] w fun e w' => e = .returned (.tuple #[.agg #[.int .i64 1, .int .i64 n, .string ⟨#[]⟩], .bool true, .int .i64 0]) ∧ Below w.heap.size w w' := by
  have := dec_Token l w
  rw [ht] at this; exact this
theorem dec_is (n : Nat) (w : World) (h : n ≤ 1000000) :
    Calls Tryd.prog 19 #[.int .i64 (n : Int)] w fun e w' => e = .returned (.string (bs (digitsL n))) ∧ Below w.heap.size w w' := by
  have := ref_Dec (n : Int) w (by omega) (by omega)
  unfold decL at this
  rw [if_neg (by omega), Int.natAbs_natCast] at this; exact this

set_option maxRecDepth 10000 in
theorem law_DecRadix (n a : Int) (sm : Bool) (w : World) (hn : (Lit.int .u32 n).wf = true) (ha : (Lit.int .u8 a).wf = true) :
    Calls Tryd.prog 5 #[.int .u32 n, .int .u8 a, .bool sm] w fun e w' => e = .returned (.bool true) ∧ Below w.heap.size w w' := by
  have hn2 : 0 ≤ n ∧ n ≤ 4294967295 := by simpa [Lit.wf, IntKind.min, IntKind.max, IntKind.bits, IntKind.signed] using hn
  have ha2 : 0 ≤ a ∧ a ≤ 255 := by simpa [Lit.wf, IntKind.min, IntKind.max, IntKind.bits, IntKind.signed] using ha
  clear hn ha
  obtain ⟨N, rfl⟩ : ∃ N : Nat, n = N := ⟨n.toNat, by omega⟩
  obtain ⟨B, hB⟩ : ∃ B : Nat, (B : Int) = a % 35 + 2 := ⟨(a % 35 + 2).toNat, by omega⟩
  have hB2 : 2 ≤ B ∧ B ≤ 36 := by omega
  obtain ⟨hB2, hB36⟩ := hB2
  refine W.enter Tryd.func5 rfl Tryd.ntmps5 (Nat.le_of_ble_eq_true rfl) ?_
  have hB0 := Below.refl w.heap.size w
  refine W.seq ?_
  refine W.reg ?_ -- 0
  refine WL.p (.as rfl) rfl <| WL.nil <| ?_
  refine W.seq ?_
  refine W.reg ?_ -- 1
  refine WL.p (.mv rfl) rfl <| WL.p (.rem rfl rfl (by omega) (Int.tmod_eq_emod_of_nonneg (by omega))) rfl <| WL.p (.cvt Tryd.underlying5 Tryd.underlying3 rfl (i64w (by omega))) rfl <| WL.p (.iis ((B : Int)) (.add rfl rfl (i64w (by omega))) (by omega)) rfl <| WL.p (.as rfl) rfl <| WL.nil <| ?_
  refine W.seq ?_
  refine W.reg ?_ -- 2
  refine WL.p (.mv rfl) rfl <| WL.p (.cvt Tryd.underlying31 Tryd.underlying3 rfl (i64w (by omega))) rfl <| WL.p (.as rfl) rfl <| WL.nil <| ?_
  refine W.seq ?_
  refine W.reg ?_ -- 3
  refine WL.p (.as rfl) rfl <| WL.nil <| ?_
  refine W.cut (α := List UInt8) (fun t => [(0, .int .u32 (N : Int)), (7, .int .i64 (B : Int)), (9, .string (bs t))]) (fun t w' => Below w.heap.size w w' ∧ radE B 0 t = N ∧ (∀ c ∈ t, hexN c < B) ∧ t ≠ [] ∧ t.length ≤ 32) ?_ (fun t w1 hR => ?_)
  · skip
    refine W.block ?_
    -- loop 1: writes [8, 9, 10, 11, 21, 22, 23, 24, 25, 26, 27, 28, 29, 30, 31, 32, 33, 34, 35, 36, 37, 38, 39, 40, 41, 42, 43, 44, 45, 46, 47, 48, 49, 50, 51]; reads from outside [2, 7, 8, 9]
    refine W.loop (α := Nat × List UInt8) (fun t => [(0, .int .u32 (N : Int)), (2, .bool sm), (7, .int .i64 (B : Int)), (8, .int .i64 (t.1 : Int)), (9, .string (bs t.2))]) (fun t w' => Below w.heap.size w w' ∧ radE B t.1 t.2 = N ∧ (∀ c ∈ t.2, hexN c < B) ∧ t.1 * 2 ^ t.2.length ≤ N ∧ (t.2 = [] ∨ 1 ≤ t.1)) (fun t => t.1) ((N, [])) ⟨rfl, rfl, rfl, rfl, rfl, trivial⟩ (⟨hB0, rfl, by simp, by simp, Or.inl rfl⟩) (fun t w1 hR => ?_)
    obtain ⟨u, s⟩ := t
    obtain ⟨hW, hE, hd, hp, hu1⟩ := hR
    simp only at hE hd hp hu1
    have hge := radE_ge B (by omega) s u
    have hmd := Nat.mod_lt u (show 0 < B by omega)
    have hsl : s.length ≤ 31 := by
      rcases hu1 with h | h
      · rw [h]; simp
      · have h1 : 1 * 2 ^ s.length ≤ u * 2 ^ s.length := Nat.mul_le_mul_right _ h
        by_cases h2 : s.length ≤ 31
        · exact h2
        · have : 2 ^ 32 ≤ 2 ^ s.length := Nat.pow_le_pow_right (by decide) (by omega)
          omega
    refine W.block ?_
    refine W.seq ?_
    refine W.reg ?_ -- 4
    refine WL.p (.mv rfl) rfl <| WL.p (.mv rfl) rfl <| WL.p (.iis (((u % B : Nat) : Int)) (.rem rfl rfl (by omega) (Int.tmod_eq_emod_of_nonneg (by omega))) (by rw [Int.natCast_emod])) rfl <| WL.p (.as rfl) rfl <| WL.nil <| ?_
    refine W.seq ?_
    refine W.reg ?_ -- 5
    refine WL.p (.mv rfl) rfl <| WL.p (.add rfl rfl (i64w (by omega))) rfl <| WL.p (.cvt Tryd.underlying3 Tryd.underlying5 rfl (u8w (by omega))) rfl <| WL.p (.as rfl) rfl <| WL.nil <| ?_
    refine W.cut (α := Unit) (fun t => [(0, .int .u32 (N : Int)), (2, .bool sm), (7, .int .i64 (B : Int)), (8, .int .i64 (u : Int)), (9, .string (bs s)), (11, .int .u8 ((dgc sm (u % B)).toNat : Int))]) (fun t w' => w1 = w') ?_ (fun t w1 hR => ?_)
    · skip
      refine W.cutB 31 (decide (9 < u % B) && sm) ?_ ?_
      · skip
        refine W.reg ?_ -- 6
        refine WL.p (.mv rfl) rfl <| WL.p (.gtr rfl rfl) rfl <| WL.p (.mv rfl) rfl <| WL.gd rfl rfl rfl (fun g1 => ?_) (fun g1 => ?_)
        · have g1' := of_decide_eq_true g1
          refine WL.p (.mv rfl) rfl <| WL.p (.pkT rfl g1 rfl) rfl <| WL.nil <| ?_
          exact ⟨⟨lk_b rfl (by first | (rw [decide_eq_true (show 9 < u % B by omega)]; rfl) | (rw [decide_eq_false (show ¬ 9 < u % B by omega)]; rfl)), by repeat (first | exact Le.refl _ | refine Le.cons rfl ?_)⟩, rfl⟩
        · have g1' := of_decide_eq_false g1
          refine WL.p (.pkF rfl g1 rfl) rfl <| WL.nil <| ?_
          exact ⟨⟨lk_b rfl (by first | (rw [decide_eq_true (show 9 < u % B by omega)]; rfl) | (rw [decide_eq_false (show ¬ 9 < u % B by omega)]; rfl)), by repeat (first | exact Le.refl _ | refine Le.cons rfl ?_)⟩, rfl⟩
      refine W.cond rfl (fun h2 => ?_) (fun h2 => ?_) -- slot 31
      · have h2' := h2
        have ht31 : 9 < u % B ∧ sm = true := by
          have h : (decide (9 < u % B) && sm) = true := ‹_›
          simpa using h
        refine W.reg ?_ -- 7
        refine WL.p (.mv rfl) rfl <| WL.p (.add rfl rfl (i64w (by omega))) rfl <| WL.p (.sub rfl rfl (i64w (by omega))) rfl <| WL.p (.cvt Tryd.underlying3 Tryd.underlying5 rfl (u8w (by omega))) rfl <| WL.p (.as rfl) rfl <| WL.nil <| ?_
        refine ⟨(), ⟨rfl, rfl, rfl, rfl, rfl, lk_i rfl ?_, trivial⟩, rfl⟩
        unfold dgc
        first
        | (rw [if_neg (by omega), if_pos ht31.2, ch_nat _ (by omega) (by omega)]; omega)
        | (rw [if_neg (by omega), hs31 (by omega), if_neg (by decide), ch_nat _ (by omega) (by omega)]; omega)
        | (rw [if_pos (by omega), ch_nat _ (by omega) (by omega)])
      · have h2' := h2
        have hs31 : 9 < u % B → sm = false := fun h9 => by
          have h : (decide (9 < u % B) && sm) = false := ‹_›
          simpa [h9] using h
        refine W.seq ?_
        refine W.reg ?_ -- 8
        refine WL.p (.mv rfl) rfl <| WL.p (.gtr rfl rfl) rfl <| WL.nil <| ?_
        refine W.cond rfl (fun h3 => ?_) (fun h3 => ?_) -- slot 37
        · have h3' := of_decide_eq_true h3
          refine W.reg ?_ -- 9
          refine WL.p (.mv rfl) rfl <| WL.p (.add rfl rfl (i64w (by omega))) rfl <| WL.p (.sub rfl rfl (i64w (by omega))) rfl <| WL.p (.cvt Tryd.underlying3 Tryd.underlying5 rfl (u8w (by omega))) rfl <| WL.p (.as rfl) rfl <| WL.nil <| ?_
          refine ⟨(), ⟨rfl, rfl, rfl, rfl, rfl, lk_i rfl ?_, trivial⟩, rfl⟩
          unfold dgc
          first
          | (rw [if_neg (by omega), if_pos ht31.2, ch_nat _ (by omega) (by omega)]; omega)
          | (rw [if_neg (by omega), hs31 (by omega), if_neg (by decide), ch_nat _ (by omega) (by omega)]; omega)
          | (rw [if_pos (by omega), ch_nat _ (by omega) (by omega)])
        · have h3' := of_decide_eq_false h3
          refine W.skip ?_
          refine ⟨(), ⟨rfl, rfl, rfl, rfl, rfl, lk_i rfl ?_, trivial⟩, rfl⟩
          unfold dgc
          first
          | (rw [if_neg (by omega), if_pos ht31.2, ch_nat _ (by omega) (by omega)]; omega)
          | (rw [if_neg (by omega), hs31 (by omega), if_neg (by decide), ch_nat _ (by omega) (by omega)]; omega)
          | (rw [if_pos (by omega), ch_nat _ (by omega) (by omega)])
    obtain rfl := hR
    refine W.seq ?_
    refine W.reg ?_ -- 10
    refine WL.p (.mv rfl) rfl <| WL.bsl (ps := _) Tryd.underlying32 Tryd.sizeOf5 Tryd.zeroValue5 rfl rfl rfl rfl rfl (by simp only [put1, List.map, List.zip, List.zipWith, List.set, List.replicate] <;> rfl) rfl (fun b4 wb4 eb4 hkb4 hub4 hsb4 => ?_)
    have hB5 := Upd.below hW (by rw [eb4]; exact hW.size) hub4
    have hgeb4 : w.heap.size ≤ b4 := by rw [eb4]; exact hW.size
    refine WL.r (Rd.b2s (l := [dgc sm (u % B)]) Tryd.underlying32 Tryd.underlying5 Tryd.underlying9 rfl (BytesAt.one hkb4 rfl)) rfl <| WL.p (.mv rfl) rfl <| WL.p (.cat rfl rfl (by simp only [List.length_cons, List.length_nil] <;> omega)) rfl <| WL.p (.as rfl) rfl <| WL.nil <| ?_
    refine W.seq ?_
    refine W.reg ?_ -- 11
    refine WL.p (.mv rfl) rfl <| WL.p (.mv rfl) rfl <| WL.p (.iis (((u / B : Nat) : Int)) (.quo rfl rfl (by omega) (i64q (by omega) (by omega) (by omega))) (by exact (Int.natCast_ediv u B).symm)) rfl <| WL.p (.as rfl) rfl <| WL.nil <| ?_
    refine W.seq ?_
    refine W.reg ?_ -- 12
    refine WL.p (.mv rfl) rfl <| ?_
    have hx := hexN_dgc sm (u % B) (by omega)
    have hstep : radE B (u / B) (dgc sm (u % B) :: s) = N := by
      show radE B (u / B * B + hexN (dgc sm (u % B))) s = N
      rw [hx, Nat.mul_comm, Nat.div_add_mod]; exact hE
    have hd2 : ∀ c ∈ dgc sm (u % B) :: s, hexN c < B := fun c hc => (List.mem_cons.1 hc).elim (fun e => by rw [e, hx]; omega) (hd c)
    have hdiv := Nat.div_mul_le_self u B
    refine WL.p (.eql rfl rfl) rfl <| WL.nil <| ?_
    refine W.cond rfl (fun h6 => ?_) (fun h6 => ?_) -- slot 51
    · have h6' := of_decide_eq_true h6
      refine W.exit ?_ -- 0
      exact ⟨dgc sm (u % B) :: s, ⟨rfl, rfl, lk_s rfl rfl, trivial⟩, hB5, by have := hstep; rwa [show u / B = 0 by omega] at this, hd2, by simp, by simp only [List.length_cons]; omega⟩
    · have h6' := of_decide_eq_false h6
      have hne : ¬ ((u / B : Nat) : Int) = 0 := ‹_›
      have hne1 : 1 ≤ u / B := Nat.one_le_iff_ne_zero.2 fun e => hne (by rw [e]; rfl)
      have hu0 : 0 < u := Nat.pos_of_ne_zero fun e => by rw [e, Nat.zero_div] at hne1; omega
      refine W.skip ?_
      exact ⟨(u / B, dgc sm (u % B) :: s), ⟨rfl, rfl, rfl, rfl, lk_s rfl rfl, trivial⟩, ⟨hB5, hstep, hd2, by
        show u / B * 2 ^ (s.length + 1) ≤ N
        have h2 : u / B * 2 ≤ u := Nat.le_trans (Nat.mul_le_mul_left _ hB2) hdiv
        have h3 : u / B * 2 * 2 ^ s.length ≤ u * 2 ^ s.length := Nat.mul_le_mul_right _ h2
        rw [Nat.pow_succ, Nat.mul_comm (2 ^ s.length) 2, ← Nat.mul_assoc]; omega, Or.inr hne1⟩, Nat.div_lt_self hu0 (by omega)⟩
  obtain ⟨hW, hE, hd, h0, hl⟩ := hR
  refine W.seq ?_
  refine W.reg ?_ -- 13
  refine WL.p (.mv rfl) rfl <| WL.c1 hb19 rfl rfl ((dec_is B _ (by omega))) (fun w7 hw7 => ?_)
  have hB8 := btr hW hw7
  have hdl : (digitsL B).length ≤ 2 := digitsL_len 1 B (by omega)
  refine WL.p (.cat rfl rfl (by simp only [List.length_append, List.length_cons, List.length_nil] <;> omega)) rfl <| WL.p (.mv rfl) rfl <| WL.p (.cat rfl rfl (by simp only [List.length_append, List.length_cons, List.length_nil] <;> omega)) rfl <| WL.c1 hb17 rfl rfl ((token_int _ _ _ (by rw [List.append_assoc]; exact tokenL_base B hB2 hB36 t h0 hl hd N hE (by omega)))) (fun w9 hw9 => ?_)
  have hB10 := btr hB8 hw9
  refine WL.p (.mv rfl) rfl <| WL.p (.ext rfl rfl) rfl <| WL.p (.ext rfl rfl) rfl <| WL.p (.ext rfl rfl) rfl <| WL.alloc Tryd.zeroValue27 rfl (fun b11 wb11 eb11 hkb11 hub11 hsb11 => ?_)
  have hB12 := Upd.below hB10 (by rw [eb11]; exact hB10.size) hub11
  have hgeb11 : w.heap.size ≤ b11 := by rw [eb11]; exact hB10.size
  refine WL.stL rfl rfl hkb11 isz27 rfl rfl (fun w13 hkw13 huw13 hsw13 => ?_)
  have hB14 := Upd.below hB12 (by omega) huw13
  refine WL.p (.as rfl) rfl <| WL.p (.as rfl) rfl <| WL.nil <| ?_
  refine W.seq ?_
  refine W.reg ?_ -- 14
  refine WL.c1 hb14 rfl rfl ((answers02 _)) (fun w15 hw15 => ?_)
  have hk16 := hkw13.below hw15 hkw13.lt
  have hB17 := btr hB14 hw15
  refine WL.p (.mv rfl) rfl <| WL.gy rfl rfl rfl rfl <| WL.p (.mv rfl) rfl <| WL.p (.pkT rfl rfl rfl) rfl <| WL.p (.mv rfl) rfl <| WL.gy rfl rfl rfl rfl <| WL.p (.mv rfl) rfl <| WL.gy rfl rfl rfl rfl <| WL.p (.bis (true) (.eql rfl rfl) (by rfl)) rfl <| WL.p (.pkT rfl rfl rfl) rfl <| WL.p (.mv rfl) rfl <| WL.gy rfl rfl rfl rfl <| WL.p (.fa Tryd.underlying27 rfl Tryd.sizeOf3 (by decide) rfl) rfl <| WL.gy rfl rfl rfl rfl <| WL.r (Rd.ld (Tryd.isAgg3 _) rfl hk16 rfl) rfl <| WL.gy rfl rfl rfl rfl <| WL.p (.bis (true) (.eql rfl rfl) (by rfl)) rfl <| WL.p (.pkT rfl rfl rfl) rfl <| WL.p (.mv rfl) rfl <| WL.gy rfl rfl rfl rfl <| WL.p (.fa Tryd.underlying27 rfl Tryd.sizeOf3 (by decide) rfl) rfl <| WL.gy rfl rfl rfl rfl <| WL.r (Rd.ld (Tryd.isAgg3 _) rfl hk16 rfl) rfl <| WL.gy rfl rfl rfl rfl <| WL.p (.mv rfl) rfl <| WL.gy rfl rfl rfl rfl <| WL.p (.cvt Tryd.underlying31 Tryd.underlying21 rfl (r := if 2147483648 ≤ N then (N : Int) - 4294967296 else N) (by rw [IntKind.wrap_i32]; split <;> omega)) rfl <| WL.gy rfl rfl rfl rfl <| WL.p (.cvt Tryd.underlying21 Tryd.underlying3 rfl (i64w (by split <;> omega))) rfl <| WL.gy rfl rfl rfl rfl <| WL.p (.bis (true) (.eql rfl rfl) (by simp)) rfl <| WL.p (.pkT rfl rfl rfl) rfl <| WL.p (.as rfl) rfl <| WL.nil <| ?_
  refine W.ret (W.ret1 rfl rfl ?_)
  exact ⟨rfl, hB17⟩

end Go.Proofs.YteaohajihhpnmaaDoor
