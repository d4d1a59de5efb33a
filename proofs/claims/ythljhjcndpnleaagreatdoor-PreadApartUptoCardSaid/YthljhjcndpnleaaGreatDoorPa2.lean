/-
  What the claim leans on, part 2: pruned and joined by my own tool out of the texts that stand in wip/ as templates.
-/
import Derived.Test.YthljhjcndpnleaaGreatDoorPa1
namespace Go.Proofs.YthljhjcndpnleaaGreatDoor
open Go.RowKit
open Go.Proofs.Tryz
section
theorem roundS_len : ∀ (n : Nat) (d : Nat) (o l : List UInt8) (s r : List UInt8), l.length ≤ n → roundS d o l = some (s, r) → r.length ≤ l.length
 | n, d, o, [], s, r, _, h => by rw [roundS.eq_def] at h; cases h
 | 0, d, o, c :: t, s, r, hn, h => by simp at hn
 | n + 1, d, o, c :: t, s, r, hn, h => by
  simp only [List.length_cons] at hn ⊢
  rw [roundS.eq_def] at h
  simp only at h
  split at h
  ·
   have := roundS_len n _ _ t s r oO h; omega
  ·
   split at h
   ·
    split at h
    ·
     simp only [Option.some.injEq, Prod.mk.injEq] at h; rw [h.2]; omega
    ·
     have := roundS_len n _ _ t s r oO h; omega
   ·
    split at h
    ·
     split at h
     ·
      cases h
     ·
      next e r' =>
      have h2 := escS_len e r'
      simp only [List.length_cons] at hn
      have := roundS_len n _ _ _ s r oO h
      simp only [List.length_cons]; omega
    ·
     split at h
     ·
      have h2 := dropLF_len t
      have := roundS_len n _ _ _ s r oO h; omega
     ·
      have := roundS_len n _ _ t s r oO h; omega
theorem hexS_len : ∀ (l : List UInt8) (h : Option Nat) (o : List UInt8) (s r : List UInt8), hexS h o l = some (s, r) → r.length ≤ l.length
 | [], h, o, s, r, e => by simp [hexS] at e
 | c :: t, h, o, s, r, e => by
  simp only [List.length_cons]
  unfold hexS at e
  split at e
  ·
   have := hexS_len t _ _ s r e; omega
  ·
   split at e
   ·
    simp only [Option.some.injEq, Prod.mk.injEq] at e; rw [← e.2]; omega
   ·
    split at e
    ·
     cases e
    ·
     split at e
     ·
      have := hexS_len t _ _ s r e; omega
     ·
      have := hexS_len t _ _ s r e; omega
theorem textS_ok2 {o : Option (List UInt8 × List UInt8)} {t : TokV} {r : List UInt8} (h : textS o = .ok (t, r)) : ∃ s, o = some (s, r) ∧ t = ⟨6, 0, s⟩ ∧ s.length ≤ 65535 := by
 unfold textS at h
 split at h
 ·
  cases h
 ·
  next s r' =>
  split at h
  ·
   cases h
  ·
   simp only [Except.ok.injEq, Prod.mk.injEq] at h
   obtain ⟨rfl, rfl⟩ := h
   exact ⟨s, rfl, rfl, by omega⟩
theorem nameS_ok2 {k : Int} {l : List UInt8} {t : TokV} {r : List UInt8} (h : nameS k l = .ok (t, r)) : r = l.dropWhile regB ∧ t = ⟨k, 0, l.takeWhile regB⟩ ∧ (l.takeWhile regB).length ≤ 127 := by
 unfold nameS at h
 split at h
 ·
  cases h
 ·
  simp only [Except.ok.injEq, Prod.mk.injEq] at h
  exact ⟨h.2.symm, h.1.symm, by omega⟩
theorem dropWhile_len (l : List UInt8) : (l.dropWhile regB).length ≤ l.length := (List.dropWhile_sublist regB).length_le
theorem radixRes_kind (o : Option (Nat × Bool)) : (radixRes o).ok = true → (radixRes o).e = 0 → (radixRes o).kind = 1 ∨ (radixRes o).kind = 2 := by
 unfold radixRes
 split
 ·
  simp [tokNone]
 ·
  split <;> simp [tokGreat, tokInt]
theorem radixL_kind (l : List UInt8) : (radixL l).ok = true → (radixL l).e = 0 → (radixL l).kind = 1 ∨ (radixL l).kind = 2 := by
 unfold radixL
 split
 ·
  unfold radixV
  repeat' split
  all_goals first | exact radixRes_kind _ | simp [tokNone]
 ·
  simp [tokNone]
theorem tokenL_kind (l : List UInt8) (h : (tokenL l).ok = true) (he : (tokenL l).e = 0) : (tokenL l).kind = 1 ∨ (tokenL l).kind = 2 := by
 have hf : ∀ a b c, (finL a b c).ok = true → (finL a b c).e = 0 → (finL a b c).kind = 1 ∨ (finL a b c).kind = 2 := by
  intro a b c; unfold finL; repeat' split
  all_goals simp [tokNone, tokGreat, tokInt, tokReal]
 revert h he
 unfold tokenL
 split
 ·
  simp [tokNone]
 ·
  split
  ·
   exact radixL_kind l
  ·
   split
   ·
    simp [tokInt]
   ·
    unfold realL2
    split
    ·
     split
     ·
      exact hf _ _ _
     ·
      simp [tokNone]
    ·
     exact hf _ _ _
theorem reg_of_tokC {c : UInt8} (h1 : blankB c = false) (h2 : c ≠ 37) (h40 : c ≠ 40) (h41 : c ≠ 41) (h60 : ¬ (c = 60 ∨ c = 62)) (h123 : c ≠ 123) (h125 : c ≠ 125) (h91 : ¬ (c = 91 ∨ c = 93)) (h47 : c ≠ 47) : regB c = true := by
 unfold regB delimB
 rw [h1]
 simp only [not_or] at h60 h91
 simp [h2, h40, h41, h60.1, h60.2, h123, h125, h91.1, h91.2, h47]
/-- a token takes no more than there is, and it has a kind -/
theorem tokC_len {c : UInt8} {r : List UInt8} (h1 : blankB c = false) (h2 : c ≠ 37) {t : TokV} {s : List UInt8} (h : tokC c r = .ok (t, s)) : s.length ≤ r.length ∧ t.kind ≠ 0 := by
  unfold tokC at h
  split at h
  · obtain ⟨s', ho, rfl, -⟩ := textS_ok2 h
    exact ⟨roundS_len _ _ _ _ _ _ (Nat.le_refl _) ho, by simp⟩
  · split at h
    · cases h
    · split at h
      · unfold angleS at h
        split at h
        · split at h
          · simp only [Except.ok.injEq, Prod.mk.injEq] at h
            obtain ⟨rfl, rfl⟩ := h
            exact ⟨by simp, by simp⟩
          · split at h
            · obtain ⟨s', ho, rfl, -⟩ := textS_ok2 h
              exact ⟨hexS_len _ _ _ _ _ ho, by simp⟩
            · cases h
        · split at h
          · obtain ⟨s', ho, rfl, -⟩ := textS_ok2 h
            exact ⟨hexS_len _ _ _ _ _ ho, by simp⟩
          · cases h
      · split at h
        · simp only [Except.ok.injEq, Prod.mk.injEq] at h
          obtain ⟨rfl, rfl⟩ := h
          exact ⟨Nat.le_refl _, by simp⟩
        · split at h
          · simp only [Except.ok.injEq, Prod.mk.injEq] at h
            obtain ⟨rfl, rfl⟩ := h
            exact ⟨Nat.le_refl _, by simp⟩
          · split at h
            · simp only [Except.ok.injEq, Prod.mk.injEq] at h
              obtain ⟨rfl, rfl⟩ := h
              exact ⟨Nat.le_refl _, by simp⟩
            · split at h
              · unfold slashS at h
                split at h
                · split at h
                  · next d r' _ =>
                    obtain ⟨rfl, rfl, -⟩ := nameS_ok2 h
                    have := dropWhile_len r'
                    exact ⟨by simp only [List.length_cons]; omega, by simp⟩
                  · obtain ⟨rfl, rfl, -⟩ := nameS_ok2 h
                    exact ⟨dropWhile_len _, by simp⟩
                · obtain ⟨rfl, rfl, -⟩ := nameS_ok2 h
                  exact ⟨dropWhile_len _, by simp⟩
              · have hreg := reg_of_tokC h1 h2 aS aS aS aS aS aS aS
                have hdw : (c :: r).dropWhile regB = r.dropWhile regB := by simp [List.dropWhile_cons, hreg]
                have hdl := dropWhile_len r
                unfold wordS at h
                simp only at h
                split at h
                · cases h
                · next he =>
                  split at h
                  · next hk =>
                    simp only [Except.ok.injEq, Prod.mk.injEq] at h
                    obtain ⟨rfl, rfl⟩ := h
                    rw [hdw]
                    refine ⟨hdl, ?_⟩
                    have := tokenL_kind _ hk (by simpa using he)
                    intro h0
                    simp only at h0
                    omega
                  · obtain ⟨rfl, rfl, -⟩ := nameS_ok2 h
                    rw [hdw]
                    exact ⟨hdl, by simp⟩
theorem skipS_head : ∀ (l : List UInt8) (m : Bool) {c : UInt8} {r : List UInt8}, skipS m l = c :: r → blankB c = false ∧ c ≠ 37
 | [], m, c, r, h => by cases m <;> simp [skipS] at h
 | x :: t, false, c, r, h => by
  unfold skipS at h
  split at h
  ·
   exact skipS_head t true h
  ·
   split at h
   ·
    exact skipS_head t false h
   ·
    simp only [List.cons.injEq] at h
    obtain ⟨rfl, rfl⟩ := h
    exact ⟨by simp_all, by assumption⟩
 | x :: t, true, c, r, h => by
  unfold skipS at h
  split at h
  ·
   exact skipS_head t false h
  ·
   exact skipS_head t true h
/-- a step goes on: no kind at the end alone, else a byte at least is taken -/
theorem tokS_step {l : List UInt8} {t : TokV} {s : List UInt8} (h : tokS l = .ok (t, s)) : (t.kind = 0 ∧ s = []) ∨ (t.kind ≠ 0 ∧ s.length < l.length) := by
 unfold tokS at h
 split at h
 ·
  simp only [Except.ok.injEq, Prod.mk.injEq] at h
  obtain ⟨rfl, rfl⟩ := h
  exact Or.inl ⟨rfl, rfl⟩
 ·
  next c r hs =>
  have hh := skipS_head l false hs
  obtain ⟨h1, h2⟩ := tokC_len (t := t) (s := s) hh.1 hh.2 h
  have h3 := skipS_len l false
  rw [hs] at h3
  simp only [List.length_cons] at h3
  exact Or.inr ⟨h2, by omega⟩
theorem textS_err0 {o : Option (List UInt8 × List UInt8)} {k : Int} (h : textS o = .error k) : k = 14 ∨ k = 9 := by
 unfold textS at h
 split at h
 ·
  cases h; exact Or.inl rfl
 ·
  split at h
  ·
   cases h; exact Or.inr rfl
  ·
   cases h
theorem nameS_err0 {i : Int} {l : List UInt8} {k : Int} (h : nameS i l = .error k) : k = 9 := by
 unfold nameS at h
 split at h
 ·
  cases h; rfl
 ·
  cases h
theorem tokC_err0 {c : UInt8} {r : List UInt8} {k : Int} (h : tokC c r = .error k) : k ≠ 0 := by
 have ht : ∀ {o : Option (List UInt8 × List UInt8)}, textS o = .error k → k ≠ 0 := fun h => by rcases textS_err0 h with rfl | rfl <;> decide
 have hn : ∀ {i : Int} {l : List UInt8}, nameS i l = .error k → k ≠ 0 := fun h => by rw [nameS_err0 h]; decide
 unfold tokC at h
 split at h
 ·
  exact ht h
 ·
  split at h
  ·
   cases h; decide
  ·
   split at h
   ·
    unfold angleS at h
    split at h
    ·
     split at h
     ·
      cases h
     ·
      split at h
      ·
       exact ht h
      ·
       cases h; decide
    ·
     split at h
     ·
      exact ht h
     ·
      cases h; decide
   ·
    split at h
    ·
     cases h
    ·
     split at h
     ·
      cases h
     ·
      split at h
      ·
       cases h
      ·
       split at h
       ·
        unfold slashS at h
        split at h
        ·
         split at h
         ·
          exact hn h
         ·
          exact hn h
        ·
         exact hn h
       ·
        unfold wordS at h
        simp only at h
        split at h
        ·
         next he => cases h; exact he
        ·
         split at h
         ·
          cases h
         ·
          exact hn h
theorem tokS_err0 {l : List UInt8} (h : tokS l = .error 0) : False := by
 unfold tokS at h
 split at h
 ·
  cases h
 ·
  exact tokC_err0 (k := 0) h rfl
theorem nextR_step (l : List UInt8) (a : Nat) (ha : a ≤ l.length) : (nextR l a).e ≠ 0 ∨ ((nextR l a).k = 0 ∧ (nextR l a).at' = l.length) ∨ ((nextR l a).k ≠ 0 ∧ (a : Int) < (nextR l a).at' ∧ (nextR l a).at' ≤ l.length) := by
 have e : nextR l a = nrOf l (tokS (l.drop a)) := by unfold nextR; rw [if_neg oO]; rfl
 rw [e]
 cases h : tokS (l.drop a) with
 | error k =>
  by_cases hk : k = 0
  ·
   exfalso; subst hk; exact tokS_err0 h
  ·
   exact Or.inl hk
 | ok p =>
  obtain ⟨t, s⟩ := p
  right
  simp only [nrOf]
  rcases tokS_step h with ⟨h1, rfl⟩ | ⟨h1, h2⟩
  ·
   exact Or.inl ⟨h1, by simp⟩
  ·
   rw [List.length_drop] at h2
   exact Or.inr ⟨h1, by omega, by omega⟩
end
section
theorem roundS_41 (d : Nat) (o r : List UInt8) : roundS d o (41 :: r) = if d = 1 then some (o, r) else roundS (d - 1) (o ++ [41]) r := by rw [roundS.eq_def]; rfl
theorem roundS_92 (d : Nat) (o r : List UInt8) (e : UInt8) : roundS d o (92 :: e :: r) = roundS d (o ++ (escS e r).1) (escS e r).2 := by rw [roundS.eq_def]; rfl
theorem roundS_plain (d : Nat) (o r : List UInt8) (c : UInt8) (h1 : c ≠ 40) (h2 : c ≠ 41) (h3 : c ≠ 92) (h4 : c ≠ 13) : roundS d o (c :: r) = roundS d (o ++ [c]) r := by
 rw [roundS.eq_def]; simp only; rw [if_neg h1, if_neg h2, if_neg h3, if_neg h4]
theorem tokS_40 (r : List UInt8) : tokS (40 :: r) = textS (roundS 1 [] r) := rfl
/-- a byte, by its number in octal digits -/
def octE (c : UInt8) : List UInt8 := [92, ch (48 + (c.toNat : Int) / 64), ch (48 + (c.toNat : Int) / 8 % 8), ch (48 + (c.toNat : Int) % 8)]
theorem esc_octE : ∀ (c : UInt8) (r : List UInt8), escS (ch (48 + (c.toNat : Int) / 64)) (ch (48 + (c.toNat : Int) / 8 % 8) :: ch (48 + (c.toNat : Int) % 8) :: r) = ([c], r) := by
 intro c r
 have hc : c.toNat < 256 := UInt8.toNat_lt c
 have v1 : ((ch (48 + (c.toNat : Int) / 64)).toNat : Int) = 48 + (c.toNat : Int) / 64 := ch_val _ oO oO
 have v2 : ((ch (48 + (c.toNat : Int) / 8 % 8)).toNat : Int) = 48 + (c.toNat : Int) / 8 % 8 := ch_val _ oO oO
 have v3 : ((ch (48 + (c.toNat : Int) % 8)).toNat : Int) = 48 + (c.toNat : Int) % 8 := ch_val _ oO oO
 rw [esc_oct _ oO oO]
 have o2 : octB (ch (48 + (c.toNat : Int) / 8 % 8)) = true := by simp only [octB, Bool.and_eq_true, decide_eq_true_eq]; omega
 have o3 : octB (ch (48 + (c.toNat : Int) % 8)) = true := by simp only [octB, Bool.and_eq_true, decide_eq_true_eq]; omega
 simp only [octS, o2, o3, if_true]
 have e : ((8 * (8 * ((ch (48 + (c.toNat : Int) / 64)).toNat - 48) + ((ch (48 + (c.toNat : Int) / 8 % 8)).toNat - 48)) + ((ch (48 + (c.toNat : Int) % 8)).toNat - 48)) % 256 : Nat) = c.toNat := by omega
 rw [e]
 simp only [Prod.mk.injEq, and_true, List.cons.injEq]
 exact UInt8.toNat_inj.1 (by have := ch_val (c.toNat : Int) oO oO; omega)
/-- hexadecimal digits -/
def hexDigits : List UInt8 := [48, 49, 50, 51, 52, 53, 54, 55, 56, 57, 97, 98, 99, 100, 101, 102, 65, 66, 67, 68, 69, 70]
end
section
theorem idx_blank : ∀ c : UInt8, decide (0 ≤ Lib.indexByte [0, 9, 10, 12, 13, 32] c) = blankB c := by
 intro c
 have key : ∀ n : Fin 256, decide (0 ≤ Lib.indexByte [0, 9, 10, 12, 13, 32] (UInt8.ofNat n.1)) = blankB (UInt8.ofNat n.1) := by decide +kernel
 have := key ⟨c.toNat, UInt8.toNat_lt c⟩
 simpa using this
theorem idx_delim : ∀ c : UInt8, decide (Lib.indexByte [40, 41, 60, 62, 91, 93, 123, 125, 47, 37] c < 0) = !delimB c := by
 intro c
 have key : ∀ n : Fin 256, decide (Lib.indexByte [40, 41, 60, 62, 91, 93, 123, 125, 47, 37] (UInt8.ofNat n.1) < 0) = !delimB (UInt8.ofNat n.1) := by decide +kernel
 have := key ⟨c.toNat, UInt8.toNat_lt c⟩
 simpa using this
theorem idx_end : ∀ c : UInt8, decide (Lib.indexByte [10, 12, 13] c < 0) = !endB c := by
 intro c
 have key : ∀ n : Fin 256, decide (Lib.indexByte [10, 12, 13] (UInt8.ofNat n.1) < 0) = !endB (UInt8.ofNat n.1) := by decide +kernel
 have := key ⟨c.toNat, UInt8.toNat_lt c⟩
 simpa using this
theorem lib_ib (l : List UInt8) (c : UInt8) (w : World) : Calls Tryz.prog 48 #[.string (bs l), .int .u8 (c.toNat : Int)] w fun e w' => e = .returned (.int .i64 (Lib.indexByte l c)) ∧ w = w' := by
 refine (Tryz.strings_IndexByte (bs l) (c.toNat : Int) w).mono fun e w' h => ⟨?_, h.2.symm⟩
 rw [h.1]
 have : (bs l).data.toList = l := by simp [bs]
 rw [this]
 have : ((c.toNat : Int).toNat).toUInt8 = c := by rw [Int.toNat_natCast]; exact UInt8.ofNat_toNat
 rw [this]
theorem scan_blank (c : UInt8) (w : World) :
  Calls Tryz.prog 126 #[.int .u8 (c.toNat : Int)] w fun e w' => e = .returned (.bool (blankB c)) ∧ w = w' := by
 refine W.enter func126 rfl ntmps126 (Nat.le_of_ble_eq_true rfl) ?_
 refine W.sr <| WL.z rfl rfl ?_
 refine W.sr <| WL.m rfl rfl <| WL.c1 hb48 rfl rfl ((lib_ib [0, 9, 10, 12, 13, 32] c _)) (fun w1 hw1 => ?_)
 obtain rfl := hw1
 refine WL.p (.bis (blankB c) (.geq rfl rfl) (by exact idx_blank c)) rfl <| WL.z rfl rfl ?_
 refine W.ret (W.ret1 rfl rfl ?_)
 exact ⟨rfl, rfl⟩
theorem scan_regular (c : UInt8) (w : World) :
  Calls Tryz.prog 132 #[.int .u8 (c.toNat : Int)] w fun e w' => e = .returned (.bool (regB c)) ∧ w = w' := by
 refine W.enter func132 rfl ntmps132 (Nat.le_of_ble_eq_true rfl) ?_
 refine W.sr <| WL.z rfl rfl ?_
 refine W.sr <| WL.m rfl rfl <| WL.c1 hb126 rfl rfl ((scan_blank c _)) (fun w1 hw1 => ?_)
 obtain rfl := hw1
 refine WL.p (.not rfl) rfl <| WL.m rfl rfl <| WL.gd rfl rfl rfl (fun g2 => ?_) (fun g2 => ?_)
 have g2' := (nT g2)
 refine WL.m rfl rfl <| WL.gy rfl rfl rfl (by rw [(nT g2)] <;> rfl) <| WL.c1 hb48 rfl rfl ((lib_ib [40, 41, 60, 62, 91, 93, 123, 125, 47, 37] c _)) (fun w3 hw3 => ?_)
 obtain rfl := hw3
 refine WL.gy rfl rfl rfl (by rw [(nT g2)] <;> rfl) <| WL.p (.bis (!delimB c) (.lss rfl rfl) (by exact idx_delim c)) rfl <| WL.p (.pkT rfl (by rw [(nT g2)] <;> rfl) rfl) rfl <| WL.z rfl rfl ?_
 refine W.ret (W.ret1 rfl rfl ?_)
 exact ⟨ret_bool (by unfold regB; simp_all), rfl⟩
 have g2' := (nF g2)
 refine WL.gn rfl rfl rfl (by rw [(nF g2)] <;> rfl) <| WL.gn rfl rfl rfl (by rw [(nF g2)] <;> rfl) <| WL.p (.pkF rfl (by rw [(nF g2)] <;> rfl) rfl) rfl <| WL.z rfl rfl ?_
 refine W.ret (W.ret1 rfl rfl ?_)
 exact ⟨ret_bool (by unfold regB; simp_all), rfl⟩
/-- a reader in memory: block r, the bytes l, at place t -/
def RdOk (w : World) (r : Nat) (p : Option Addr) (l : List UInt8) (c t : Nat) : Prop := Blk w r #[.slice p l.length c, .int .i64 (t : Int)] 128 ∧ BytesAt w p l
theorem scan_more (r : Nat) (p : Option Addr) (l : List UInt8) (c t : Nat) (w : World) (h : RdOk w r p l c t) :
  Calls Tryz.prog 112 #[.pointer (some ⟨r, 0, none⟩)] w fun e w' => e = .returned (.bool (decide (t < l.length))) ∧ Drew w w' := by
 have hr := h.1
 refine W.enter func112 rfl ntmps112 (Nat.le_of_ble_eq_true rfl) ?_
 refine W.sr <| WL.z rfl rfl ?_
 refine W.seq <| W.regQ mixed kR ?_
 refine WQ.p (.mv rfl) rfl <| WQ.p (.nck rfl) rfl <| WQ.p (.fa underlying128 rfl sizeOf3 dD rfl) rfl <| WQ.r (fun m => Rd.ld (isAgg3 _) rfl hr rfl) rfl <| WQ.p (.mv rfl) rfl <| WQ.p (.nck rfl) rfl <| WQ.p (.fa underlying128 rfl sizeOf26 dD rfl) rfl <| WQ.r (fun m => Rd.ld (isAgg26 _) rfl hr rfl) rfl <| WQ.p (.lenS underlying26 rfl) rfl <| WQ.p (.lss rfl rfl) rfl <| WQ.p (.as rfl) rfl <| WQ.nil (fun w1 dw1 => ?_)
 refine W.ret (W.ret1 rfl rfl ?_)
 exact ⟨ret_bool (by (apply Bool.eq_iff_iff.2; (try simp only [Bool.and_eq_true, Bool.or_eq_true, Bool.not_eq_true', decide_eq_true_eq, decide_eq_false_iff_not, Bool.false_eq_true, Bool.not_eq_false', false_iff, iff_false, true_iff, iff_true]); omega)), by assumption⟩
theorem more_q (r : Nat) (p : Option Addr) (l : List UInt8) (c t : Nat) (w : World) (h : RdOk w r p l c t) (m : Nat) :
  Calls Tryz.prog 112 #[.pointer (some ⟨r, 0, none⟩)] (w.drewN m) fun e w' => e = .returned (.bool (decide (t < l.length))) ∧ ∃ k, w' = w.drewN k :=
 (scan_more r p l c t (w.drewN m) ⟨h.1, h.2.drewN m⟩).mono fun e w' h => ⟨h.1, Drew.trans ⟨m, rfl⟩ h.2⟩
/-- the byte there -/
def takeS (l : List UInt8) (t : Nat) : Except Int UInt8 := match l[t]? with | some x => .ok x | none => .error 14
theorem scan_take (r : Nat) (p : Option Addr) (l : List UInt8) (c t : Nat) (w : World) (h : RdOk w r p l c t) (hne : 0 < l.length → (pA p).block ≠ r) (hl : l.length ≤ 100000000) :
  Calls Tryz.prog 127 #[.pointer (some ⟨r, 0, none⟩)] w (Ends 29 (takeS l t) (fun x => .int .u8 (x.toNat : Int)) (fun _ w' => RdOk w' r p l c (t + 1) ∧ Touch w.heap.size r w w') (fun w' => Touch w.heap.size r w w')) := by
 have hr := h.1
 have hb := h.2
 refine W.enter func127 rfl ntmps127 (Nat.le_of_ble_eq_true rfl) ?_
 have hB0 := Touch.refl (w.heap.size) r w
 refine W.sr <| WL.z rfl rfl ?_
 refine W.seq <| W.sr <| WL.m rfl rfl <| WL.c1 hb112 rfl rfl ((scan_more r p l c t _ ⟨hr, hb⟩)) (fun w1 hw1 => ?_)
 have hk2 := hr.drew hw1
 have hv3 := hb.drew hw1
 have hB4 := Touch.trans hB0 (Touch.of_drew hw1)
 refine WL.p (.not rfl) rfl <| WL.nil <| ?_
 refine W.cond rfl (fun h5 => ?_) (fun h5 => ?_)
 have h5' := (nT h5)
 refine W.reg <| WL.p (.mkI underlying29 rfl) rfl <| WL.panic rfl (pn_is ?_)
 exact Ends.err 14 (by unfold takeS; rw [List.getElem?_eq_none (by simp_all)]) hB4
 have h5' := (nF h5)
 have hlt : t < l.length := by simp_all
 refine W.skip <| W.sr <| WL.m rfl rfl <| WL.p (.nck rfl) rfl <| WL.p (.fa underlying128 rfl sizeOf3 dD rfl) rfl <| WL.r (Rd.ld (isAgg3 _) rfl hk2 rfl) rfl <| WL.p (.iis (((t + 1 : Nat) : Int)) (.add rfl rfl (i64w oO)) oO) rfl <| WL.p (.nck rfl) rfl <| WL.p (.fa underlying128 rfl sizeOf3 dD rfl) rfl <| WL.st sizeOf3 rfl rfl rfl hk2 oD (fun w6 hkw6 huw6 hsw6 => ?_)
 have hkw6 : Blk w6 r _ _ := hkw6
 have huw6 : Upd r _ _ := huw6
 have hv7 := BytesAt.upd hv3 huw6 hne
 have hB8 := Touch.trans hB4 (Touch.of_upd huw6)
 refine WL.nil <| ?_
 refine W.seq <| W.regQ mixed kR ?_
 refine WQ.p (.mv rfl) rfl <| WQ.p (.nck rfl) rfl <| WQ.p (.fa underlying128 rfl sizeOf26 dD rfl) rfl <| WQ.r (fun m => Rd.ld (isAgg26 _) rfl hkw6 rfl) rfl <| WQ.p (.mv rfl) rfl <| WQ.p (.nck rfl) rfl <| WQ.p (.fa underlying128 rfl sizeOf3 dD rfl) rfl <| WQ.r (fun m => Rd.ld (isAgg3 _) rfl hkw6 rfl) rfl <| WQ.p (.iis ((t : Int)) (.sub rfl rfl (i64w oO)) oO) rfl <| WQ.p (.ixb underlying26 sizeOf5 rfl rfl (hv7.isp oO) (t) oO oO) rfl <| WQ.r (fun m => Rd.ldc (isAgg5 _) rfl ((hv7.drewN m).cells (t) oO)) rfl <| WQ.p (.as rfl) rfl <| WQ.nil (fun w9 dw9 => ?_)
 have hk10 := hkw6.drew dw9
 have hv11 := hv7.drew dw9
 have hB12 := Touch.trans hB8 (Touch.of_drew dw9)
 refine W.ret (W.ret1 rfl rfl ?_)
 exact Ends.ok (l[t]'hlt) (by unfold takeS; rw [List.getElem?_eq_getElem hlt]) rfl ⟨⟨hk10, hv11⟩, hB12⟩
/-- this byte stands there -/
def nextB (l : List UInt8) (t : Nat) (x : UInt8) : Bool := decide (t < l.length) && decide (((l[t]!).toNat : Int) = (x.toNat : Int))
theorem nextB_t {l : List UInt8} {t : Nat} {x : UInt8} (h : nextB l t x = true) : ∃ ht : t < l.length, l[t]'ht = x := by
 unfold nextB at h
 simp only [Bool.and_eq_true, decide_eq_true_eq] at h
 obtain ⟨h1, h2⟩ := h
 rw [getElem!_pos l t h1] at h2
 exact ⟨h1, u8_eq h2⟩
theorem nextB_f {l : List UInt8} {t : Nat} {x : UInt8} (h : nextB l t x = false) (ht : t < l.length) : l[t] ≠ x := by
 unfold nextB at h
 rw [decide_eq_true ht, Bool.true_and, getElem!_pos l t ht] at h
 exact u8_ne (dF h)
theorem scan_next (r : Nat) (p : Option Addr) (l : List UInt8) (c t : Nat) (x : UInt8) (w : World) (h : RdOk w r p l c t) (hne : 0 < l.length → (pA p).block ≠ r) (hl : l.length ≤ 100000000) (ht : t ≤ l.length) :
  Calls Tryz.prog 129 #[.pointer (some ⟨r, 0, none⟩), .int .u8 (x.toNat : Int)] w fun e w' => e = .returned (.bool (nextB l t x)) ∧ RdOk w' r p l c (if nextB l t x then t + 1 else t) ∧ Touch w.heap.size r w w' := by
 have hr := h.1
 have hb := h.2
 refine W.enter func129 rfl ntmps129 (Nat.le_of_ble_eq_true rfl) ?_
 have hB0 := Touch.refl (w.heap.size) r w
 refine W.sr <| WL.z rfl rfl ?_
 refine W.seq ?_
 refine W.cutBQ 20 (nextB l t x) ?_ (fun w1 dw1 => ?_)
 refine W.regQ mixed kR ?_
 refine WQ.p (.mv rfl) rfl <| WQ.c1 hb112 rfl rfl (fun m => (more_q r p l c t _ ⟨hr, hb⟩ m)) <| WQ.p (.mv rfl) rfl <| WQ.gd rfl rfl rfl (fun g2 => ?_) (fun g2 => ?_)
 have g2' := dT g2
 refine WQ.p (.mv rfl) rfl <| WQ.gy rfl rfl rfl g2 <| WQ.p (.nck rfl) rfl <| WQ.gy rfl rfl rfl g2 <| WQ.p (.fa underlying128 rfl sizeOf26 dD rfl) rfl <| WQ.gy rfl rfl rfl g2 <| WQ.r (fun m => Rd.ld (isAgg26 _) rfl hr rfl) rfl <| WQ.gy rfl rfl rfl g2 <| WQ.p (.mv rfl) rfl <| WQ.gy rfl rfl rfl g2 <| WQ.p (.nck rfl) rfl <| WQ.gy rfl rfl rfl g2 <| WQ.p (.fa underlying128 rfl sizeOf3 dD rfl) rfl <| WQ.gy rfl rfl rfl g2 <| WQ.r (fun m => Rd.ld (isAgg3 _) rfl hr rfl) rfl <| WQ.gy rfl rfl rfl g2 <| WQ.p (.ixb underlying26 sizeOf5 rfl rfl (hb.isp oO) (t) oO oO) rfl <| WQ.gy rfl rfl rfl g2 <| WQ.r (fun m => Rd.ldc (isAgg5 _) rfl ((hb.drewN m).cells (t) oO)) rfl <| WQ.gy rfl rfl rfl g2 <| WQ.p (.mv rfl) rfl <| WQ.gy rfl rfl rfl g2 <| WQ.p (.eql rfl rfl) rfl <| WQ.p (.pkT rfl g2 rfl) rfl <| WQ.nil (fun w3 dw3 => ?_)
 exact ⟨leE (lk_b rfl (by (by_cases hq : t < l.length) <;> (unfold nextB; first | (exfalso; simp_all; done) | (rw [getElem!_pos l t hq]; simp_all; done) | (rw [decide_eq_false hq]; simp_all; done)))), dw3⟩
 have g2' := dF g2
 refine WQ.gn rfl rfl rfl g2 <| WQ.gn rfl rfl rfl g2 <| WQ.gn rfl rfl rfl g2 <| WQ.gn rfl rfl rfl g2 <| WQ.gn rfl rfl rfl g2 <| WQ.gn rfl rfl rfl g2 <| WQ.gn rfl rfl rfl g2 <| WQ.gn rfl rfl rfl g2 <| WQ.gn rfl rfl rfl g2 <| WQ.gn rfl rfl rfl g2 <| WQ.gn rfl rfl rfl g2 <| WQ.p (.pkF rfl g2 rfl) rfl <| WQ.nil (fun w7 dw7 => ?_)
 exact ⟨leE (lk_b rfl (by (by_cases hq : t < l.length) <;> (unfold nextB; first | (exfalso; simp_all; done) | (rw [getElem!_pos l t hq]; simp_all; done) | (rw [decide_eq_false hq]; simp_all; done)))), dw7⟩
 have hk11 := hr.drew dw1
 have hv12 := hb.drew dw1
 have hB13 := Touch.trans hB0 (Touch.of_drew dw1)
 refine W.cond rfl (fun h14 => ?_) (fun h14 => ?_)
 refine W.sr <| WL.m rfl rfl <| WL.p (.nck rfl) rfl <| WL.p (.fa underlying128 rfl sizeOf3 dD rfl) rfl <| WL.r (Rd.ld (isAgg3 _) rfl hk11 rfl) rfl <| WL.p (.iis (((t + 1 : Nat) : Int)) (.add rfl rfl (i64w oO)) oO) rfl <| WL.p (.nck rfl) rfl <| WL.p (.fa underlying128 rfl sizeOf3 dD rfl) rfl <| WL.st sizeOf3 rfl rfl rfl hk11 oD (fun w15 hkw15 huw15 hsw15 => ?_)
 have hkw15 : Blk w15 r _ _ := hkw15
 have huw15 : Upd r _ _ := huw15
 have hv16 := BytesAt.upd hv12 huw15 hne
 have hB17 := Touch.trans hB13 (Touch.of_upd huw15)
 refine WL.nil <| ?_
 refine W.sr <| WL.z rfl rfl ?_
 refine W.ret (W.ret1 rfl rfl ?_)
 exact ⟨ret_bool (by simp_all), by rw [if_pos aS]; exact ⟨hkw15, hv16⟩, hB17⟩
 refine W.skip <| W.sr <| WL.z rfl rfl ?_
 refine W.ret (W.ret1 rfl rfl ?_)
 exact ⟨ret_bool (by simp_all), by rw [if_neg (bF aS)]; exact ⟨hk11, hv12⟩, hB13⟩
theorem ib_q (l : List UInt8) (c : UInt8) (w : World) (m : Nat) : Calls Tryz.prog 48 #[.string (bs l), .int .u8 (c.toNat : Int)] (w.drewN m) fun e w' => e = .returned (.int .i64 (Lib.indexByte l c)) ∧ ∃ k, w' = w.drewN k :=
 (lib_ib l c (w.drewN m)).mono fun e w' h => ⟨h.1, m, h.2.symm⟩
theorem scan_skip (r : Nat) (p : Option Addr) (l : List UInt8) (c a : Nat) (w : World) (h : RdOk w r p l c a) (hne : 0 < l.length → (pA p).block ≠ r) (hl : l.length ≤ 100000000) (ha : a ≤ l.length) :
  Calls Tryz.prog 111 #[.pointer (some ⟨r, 0, none⟩)] w fun e w' => e = .returned (.tuple #[]) ∧ RdOk w' r p l c (skipAt false l a) ∧ Touch w.heap.size r w w' := by
 have hr := h.1
 have hb := h.2
 obtain ⟨R, hR⟩ : ∃ R, R = skipAt false l a := ⟨_, rfl⟩
 rw [← hR]
 refine W.enter func111 rfl ntmps111 (Nat.le_of_ble_eq_true rfl) ?_
 refine W.block ?_
 refine W.loop (α := Nat) (fun t => [(0, .pointer (some ⟨r, 0, none⟩))]) (fun t w' => RdOk w' r p l c t ∧ Touch w.heap.size r w w' ∧ t ≤ l.length ∧ skipAt false l t = R) (fun t => l.length - t) (a) ⟨rfl, trivial⟩ (⟨h, Touch.refl _ _ _, ha, hR.symm⟩) (fun t w1 hR => ?_)
 obtain ⟨hrd, hT, ht, hw⟩ := hR
 obtain ⟨s, rfl⟩ : ∃ s, s = t := ⟨t, rfl⟩
 refine W.seq <| W.sr <| WL.m rfl rfl <| WL.c1 hb112 rfl rfl ((scan_more r p l c s _ ⟨hrd.1, hrd.2⟩)) (fun w1 hw1 => ?_)
 have hk2 := hrd.1.drew hw1
 have hv3 := hrd.2.drew hw1
 have hB4 := Touch.trans hT (Touch.of_drew hw1)
 refine WL.nil <| ?_
 refine W.cond rfl (fun h5 => ?_) (fun h5 => ?_)
 have h5' := dT h5
 have hs := skipAt_f l s oO
 refine W.skip <| W.block <| W.seq <| W.regQ mixed kR ?_
 refine WQ.p (.mv rfl) rfl <| WQ.p (.nck rfl) rfl <| WQ.p (.fa underlying128 rfl sizeOf26 dD rfl) rfl <| WQ.r (fun m => Rd.ld (isAgg26 _) rfl hk2 rfl) rfl <| WQ.p (.mv rfl) rfl <| WQ.p (.nck rfl) rfl <| WQ.p (.fa underlying128 rfl sizeOf3 dD rfl) rfl <| WQ.r (fun m => Rd.ld (isAgg3 _) rfl hk2 rfl) rfl <| WQ.p (.ixb underlying26 sizeOf5 rfl rfl (hv3.isp oO) (s) oO oO) rfl <| WQ.r (fun m => Rd.ldc (isAgg5 _) rfl ((hv3.drewN m).cells (s) oO)) rfl <| WQ.p (.as rfl) rfl <| WQ.nil (fun w6 dw6 => ?_)
 have hk7 := hk2.drew dw6
 have hv8 := hv3.drew dw6
 have hB9 := Touch.trans hB4 (Touch.of_drew dw6)
 refine W.block <| W.sr <| WL.m rfl rfl <| WL.c1 hb126 rfl rfl ((scan_blank _ _)) (fun w10 hw10 => ?_)
 obtain rfl := hw10
 refine WL.z rfl rfl ?_
 refine W.cond rfl (fun h11 => ?_) (fun h11 => ?_)
 refine W.reg <| WL.m rfl rfl <| WL.p (.nck rfl) rfl <| WL.p (.fa underlying128 rfl sizeOf3 dD rfl) rfl <| WL.r (Rd.ld (isAgg3 _) rfl hk7 rfl) rfl <| WL.p (.iis (((s + 1 : Nat) : Int)) (.add rfl rfl (i64w oO)) oO) rfl <| WL.p (.nck rfl) rfl <| WL.p (.fa underlying128 rfl sizeOf3 dD rfl) rfl <| WL.st sizeOf3 rfl rfl rfl hk7 oD (fun w12 hkw12 huw12 hsw12 => ?_)
 have hkw12 : Blk w12 r _ _ := hkw12
 have huw12 : Upd r _ _ := huw12
 have hv13 := BytesAt.upd hv8 huw12 hne
 have hB14 := Touch.trans hB9 (Touch.of_upd huw12)
 refine WL.nil <| ?_
 exact ⟨s + 1, ⟨rfl, trivial⟩, ⟨⟨hkw12, hv13⟩, hB14, by omega, by rw [← hw, hs, if_neg (fun e => absurd (show blankB (l[s]'oO) = true by assumption) (by rw [e]; decide)), if_pos aS]⟩, by omega⟩
 refine W.sr <| WL.m rfl rfl <| WL.p (.eql rfl rfl) rfl <| WL.z rfl rfl ?_
 refine W.cond rfl (fun h15 => ?_) (fun h15 => ?_)
 have h15' := dT h15
 refine W.block ?_
 refine W.loop (α := Nat) (fun t => [(0, .pointer (some ⟨r, 0, none⟩))]) (fun t w' => RdOk w' r p l c t ∧ Touch w.heap.size r w w' ∧ s ≤ t ∧ t ≤ l.length ∧ skipAt true l t = R ∧ (t = s → l[s]'oO = 37)) (fun t => l.length - t) (s) ⟨rfl, trivial⟩ (⟨⟨hk7, hv8⟩, hB9, by omega, by omega, by rw [skipAt_t l s oO, if_neg (by rw [show l[s] = 37 from u8_eq aS]; decide), ← hw, hs, if_pos (u8_eq aS)], fun _ => u8_eq aS⟩) (fun t w1 hR => ?_)
 obtain ⟨hrd2, hT2, hst, ht2, hw2, h37⟩ := hR
 refine W.seq ?_
 refine W.cutBQ 43 (cmtB l t) ?_ (fun w16 dw16 => ?_)
 refine W.regQ mixed kR ?_
 refine WQ.p (.mv rfl) rfl <| WQ.c1 hb112 rfl rfl (fun m => (more_q r p l c t _ ⟨hrd2.1, hrd2.2⟩ m)) <| WQ.p (.mv rfl) rfl <| WQ.gd rfl rfl rfl (fun g17 => ?_) (fun g17 => ?_)
 have g17' := dT g17
 refine WQ.p (.mv rfl) rfl <| WQ.gy rfl rfl rfl g17 <| WQ.p (.nck rfl) rfl <| WQ.gy rfl rfl rfl g17 <| WQ.p (.fa underlying128 rfl sizeOf26 dD rfl) rfl <| WQ.gy rfl rfl rfl g17 <| WQ.r (fun m => Rd.ld (isAgg26 _) rfl hrd2.1 rfl) rfl <| WQ.gy rfl rfl rfl g17 <| WQ.p (.mv rfl) rfl <| WQ.gy rfl rfl rfl g17 <| WQ.p (.nck rfl) rfl <| WQ.gy rfl rfl rfl g17 <| WQ.p (.fa underlying128 rfl sizeOf3 dD rfl) rfl <| WQ.gy rfl rfl rfl g17 <| WQ.r (fun m => Rd.ld (isAgg3 _) rfl hrd2.1 rfl) rfl <| WQ.gy rfl rfl rfl g17 <| WQ.p (.ixb underlying26 sizeOf5 rfl rfl (hrd2.2.isp oO) (t) oO oO) rfl <| WQ.gy rfl rfl rfl g17 <| WQ.r (fun m => Rd.ldc (isAgg5 _) rfl ((hrd2.2.drewN m).cells (t) oO)) rfl <| WQ.gy rfl rfl rfl g17 <| WQ.c1 hb48 rfl rfl (fun m => (ib_q [10, 12, 13] _ _ m)) <| WQ.gy rfl rfl rfl g17 <| WQ.p (.bis (!endB (l[t]'oO)) (.lss rfl rfl) (by exact idx_end _)) rfl <| WQ.p (.pkT rfl g17 rfl) rfl <| WQ.nil (fun w18 dw18 => ?_)
 exact ⟨leE (lk_b rfl (by rw [cmtB_eq]; (by_cases hq : t < l.length) <;> (first | (exfalso; omega) | (rw [getElem!_pos l t hq, decide_eq_true hq]; rfl) | (rw [decide_eq_false hq]; simp_all; done)))), dw18⟩
 have g17' := dF g17
 refine WQ.gn rfl rfl rfl g17 <| WQ.gn rfl rfl rfl g17 <| WQ.gn rfl rfl rfl g17 <| WQ.gn rfl rfl rfl g17 <| WQ.gn rfl rfl rfl g17 <| WQ.gn rfl rfl rfl g17 <| WQ.gn rfl rfl rfl g17 <| WQ.gn rfl rfl rfl g17 <| WQ.gn rfl rfl rfl g17 <| WQ.gn rfl rfl rfl g17 <| WQ.gn rfl rfl rfl g17 <| WQ.p (.pkF rfl g17 rfl) rfl <| WQ.nil (fun w22 dw22 => ?_)
 exact ⟨leE (lk_b rfl (by rw [cmtB_eq]; (by_cases hq : t < l.length) <;> (first | (exfalso; omega) | (rw [getElem!_pos l t hq, decide_eq_true hq]; rfl) | (rw [decide_eq_false hq]; simp_all; done)))), dw22⟩
 have hk26 := hrd2.1.drew dw16
 have hv27 := hrd2.2.drew dw16
 have hB28 := Touch.trans hT2 (Touch.of_drew dw16)
 refine W.cond rfl (fun h29 => ?_) (fun h29 => ?_)
 obtain ⟨hc1, hc2⟩ := cmtB_t aS
 rw [skipAt_t l t hc1, hc2, if_neg (by simp)] at hw2
 refine W.skip <| W.block <| W.reg <| WL.m rfl rfl <| WL.p (.nck rfl) rfl <| WL.p (.fa underlying128 rfl sizeOf3 dD rfl) rfl <| WL.r (Rd.ld (isAgg3 _) rfl hk26 rfl) rfl <| WL.p (.iis (((t + 1 : Nat) : Int)) (.add rfl rfl (i64w oO)) oO) rfl <| WL.p (.nck rfl) rfl <| WL.p (.fa underlying128 rfl sizeOf3 dD rfl) rfl <| WL.st sizeOf3 rfl rfl rfl hk26 oD (fun w30 hkw30 huw30 hsw30 => ?_)
 have hkw30 : Blk w30 r _ _ := hkw30
 have huw30 : Upd r _ _ := huw30
 have hv31 := BytesAt.upd hv27 huw30 hne
 have hB32 := Touch.trans hB28 (Touch.of_upd huw30)
 refine WL.nil <| ?_
 exact ⟨t + 1, ⟨rfl, trivial⟩, ⟨⟨hkw30, hv31⟩, hB32, by omega, by omega, by omega, fun h => by omega⟩, by omega⟩
 obtain ⟨hc1, hc2⟩ := cmtB_f aS
 have hc3 : t ≠ s := fun e => by subst e; exact hc2 oO (h37 rfl)
 refine W.exit ?_
 exact ⟨t, ⟨rfl, trivial⟩, ⟨⟨hk26, hv27⟩, hB28, by omega, by omega⟩, by omega⟩
 have h15' := dF h15
 refine W.ret (W.ret0 rfl  ?_)
 exact ⟨rfl, ⟨by rw [← hw, hs, if_neg (u8_ne aS), if_neg (bF aS)]; exact hk7, hv8⟩, hB9⟩
 have h5' := dF h5
 refine W.exit ?_
 refine W.norm (W.ret0 rfl ?_)
 exact ⟨rfl, ⟨by rw [show R = s by rw [← hw, skipAt_end false l s oO]; omega]; exact hk2, hv3⟩, hB4⟩
end
section
open Go.RowKit Go.WideShapes Go.ChangeShapes
section
variable {P : Program} {n : Sh} {f : Fr}
/-- an empty slice -/
theorem WL.bsl0 {ops : Array Oper} {Q : Exit → Fr → World → Prop} {w : World} {rest : List Oper} {d ty : Nat} {pos : String} {aft : Array Edge} {t e : TypeId} {sz : Nat}
  (hu : P.underlying t = some (.slice e)) (hs : ∀ w, (sizeOf e).run P w = .ok sz w) (hd : Nat.blt d n.n = true)
  (k : ∀ b w1, b = w.heap.size → (∀ B, B ≤ b → w1.ownsRow B e sz (.slice (some ⟨b, 0, none⟩) 0 0) 0 []) → Upd b w w1 → w1.heap.size = b + 1 → WL P n ops Q rest ((d, .slice (some ⟨b, 0, none⟩) 0 0) :: f) w1) :
  WL P n ops Q (⟨some d, .buildSlice t 0 [].toArray, ty, pos, aft, none⟩ :: rest) f w := by
 refine WL.run hd (w' := w.alloc (.cells #[] e)) (v := .slice (some ⟨w.heap.size, 0, none⟩) 0 0) (fun ρ hρ => ?_)
  (k _ _ rfl (fun B hB => ⟨by simp, .inr ⟨w.heap.size, 0, #[], rfl, hB, Blk.alloc _ _ _, Nat.le_refl _, by unfold maxLen; omega, by simp, by simp⟩⟩) (Upd.alloc _ _) (by simp))
 unfold execOp
 have h0 : Array.map (fun _ => (default : Value)) (Array.range 0) = #[] := by simp
 simp [Instr.buildSlice, run_underlying hu, hs, Instr.fill, h0, newRow]
/-- bytes put behind a row of the call's own -/
theorem WL.appB {ops : Array Oper} {Q : Exit → Fr → World → Prop} {w : World} {rest : List Oper} {d ty : Nat} {pos : String} {aft : Array Edge} {s x : Operand} {t e : TypeId} {B : Nat} {z v : Value} {xs : List Value} {p : Option Addr} {l : List UInt8} {c by' : Nat}
    (ht : P.underlying t = some (.slice e)) (hi : (P.info? e).map (fun i => (i.zero, i.size, i.bytes)) = some (some z, 1, by')) (hby2 : Nat.ble by' 16 = true) (hzs : z.cells.size = 1)
    (hs : evo f s = some v) (hown : Own e B w v xs) (hx : evo f x = some (.slice p l.length c)) (hb : BytesAt w p l)
    (hn : xs.length + l.length ≤ 1000000000) (hB : B ≤ w.heap.size) (hd : Nat.blt d n.n = true) (hc : l = [] → c = 0 ∨ p ≠ none)
    (k : ∀ v' w', Own e B w' v' (xs ++ byteVals l) → Below B w w' → w.grownBy w' v.ownBlock → WL P n ops Q rest ((d, v') :: f) w') :
    WL P n ops Q (⟨some d, .call ⟨.builtin .append, #[s, x], #[t, t]⟩, ty, pos, aft, none⟩ :: rest) f w := by
  cases hh : P.info? e with
  | none => rw [hh] at hi; cases hi
  | some i =>
    rw [hh] at hi
    simp only [Option.map_some, Option.some.injEq, Prod.mk.injEq] at hi
    obtain ⟨hz, hsize, hby⟩ := hi
    have hby2' : by' ≤ 16 := by simpa using hby2
    cases hp : p with
    | none =>
      have hl : l = [] := by
        cases l with
        | nil => rfl
        | cons a r => have := hb.isp (by simp); rw [hp] at this; cases this
      have hc0 : c = 0 := (hc hl).resolve_right (fun h => h hp)
      subst hp; subst hl; subst hc0
      have h2 := run_append_owned_none (P := P) (w := w) B t ty e i 1 ht hh v xs.length xs hown
      refine WL.run hd (w' := w) (v := v) (fun ρ hρ => ?_) (k v w (by simpa [byteVals] using hown) (Below.refl _ _) ⟨rfl, rfl, rfl, Nat.le_refl _, fun _ _ _ => rfl⟩)
      unfold execOp
      simp only [resolve, invoke, builtin, Sem.run_bind, Sem.run_pure, Result.andThen_ok, List.map_toArray, List.map_cons, List.map_nil, hρ _ _ hs, hρ _ _ hx, List.length_nil, h2]
    | some a =>
      subst hp
      obtain ⟨v', w', h2, h3, h4, -⟩ := run_append_own (P := P) (w := w) B t ty e i z 1 by' ht hh hz hsize hby hzs dD v xs.length xs hown a l.length c (byteVals l) (by simp [byteVals])
        (fun j y hj => by
          have hj' : j < l.length := by
            rcases Nat.lt_or_ge j l.length with h | h
            · exact h
            · rw [List.getElem?_eq_none (by rw [byteVals_len]; omega)] at hj; cases hj
          have := hb.cells j hj'
          rw [show pA (some a) = a from rfl] at this
          rw [this]
          rw [← hj]; simp [byteVals, hj'])
        (fun u hu => by simp only [byteVals, List.mem_map] at hu; obtain ⟨y, -, rfl⟩ := hu; rfl) (by unfold maxLen; omega) (by
          have : (xs.length + l.length) * by' ≤ (xs.length + l.length) * 16 := Nat.mul_le_mul_left _ hby2'
          omega) hB
      refine WL.run hd (w' := w') (v := v') (fun ρ hρ => ?_) (k v' w' ?_ ((Below.refl _ _).grown h4 hB fun k hk => (hown.lt k hk).1) h4)
      · unfold execOp
        simp only [resolve, invoke, builtin, Sem.run_bind, Sem.run_pure, Result.andThen_ok, List.map_toArray, List.map_cons, List.map_nil, hρ _ _ hs, hρ _ _ hx, h2]
      · have e1 : (xs ++ byteVals l).length = xs.length + l.length := by simp [byteVals]
        unfold Own
        rw [e1]; exact h3
/-- an own row of bytes reads as bytes; its room -/
theorem Own.bytesC {e : TypeId} {B : Nat} {w : World} {v : Value} {l : List UInt8} (h : Own e B w v (byteVals l)) : ∃ p c, v = .slice p l.length c ∧ BytesAt w p l ∧ (0 < l.length → B ≤ (pA p).block) ∧ l.length ≤ c ∧ (l = [] → c = 0 ∨ p ≠ none) := by
 obtain ⟨p, c, hv, hb, hB⟩ := h.bytes
 have hbl : (byteVals l).length = l.length := by simp [byteVals]
 obtain ⟨hl, h⟩ := h
 rcases h with ⟨rfl, h0⟩ | ⟨g, cap, cur, rfl, -, -, hnc, -⟩
 ·
  simp only [Value.slice.injEq] at hv
  obtain ⟨rfl, h1, rfl⟩ := hv
  exact ⟨none, 0, by rw [← h1], hb, hB, by omega, fun _ => .inl rfl⟩
 ·
  simp only [Value.slice.injEq] at hv
  obtain ⟨rfl, h1, rfl⟩ := hv
  exact ⟨_, _, by rw [h1], hb, hB, by omega, fun _ => .inr (by simp)⟩
end
theorem Drew.le {w w1 : World} {B : Nat} (h : B ≤ w.heap.size) (d : Drew w w1) : B ≤ w1.heap.size := by rw [d.size]; exact h
/-- a block of bytes, written out -/
theorem BytesAt.lit {w : World} {b : Nat} {cs : Array Value} {t : TypeId} {l : List UInt8} (h : Blk w b cs t) (e : cs = (byteVals l).toArray) : BytesAt w (some ⟨b, 0, none⟩) l := by
 subst e
 refine ⟨fun _ => rfl, fun j hj => ?_⟩
 have e1 : (pA (some ⟨b, 0, none⟩)).add j = ⟨b, j, none⟩ := by
  show (⟨b, 0, none⟩ : Addr).add j = _
  unfold Addr.add; split
  ·
   next h => subst h; rfl
  ·
   simp
 rw [e1, h.cell j]
 simp [byteVals, hj]
/-- bytes written out, as a conversion of a constant lays them -/
theorem WL.cvB {P : Program} {n : Sh} {f : Fr} {ops : Array Oper} {Q : Exit → Fr → World → Prop} {w : World} {rest : List Oper} {d ty : Nat} {pos : String} {aft : Array Edge} {x : Operand} {t e tb : TypeId} {b len cap : Nat} {cs : Array Value} (l : List UInt8)
  (ht : P.underlying t = some (.slice e)) (he : P.underlying e = some (.int .u8)) (hx : evo f x = some (.slice (some ⟨b, 0, none⟩) len cap)) (hb : Blk w b cs tb) (hl : cs = (byteVals l).toArray) (hd : Nat.blt d n.n = true)
  (k : ∀ w1, BytesAt w1 (some ⟨b, 0, none⟩) l → Upd b w w1 → w1.heap.size = w.heap.size → WL P n ops Q rest ((d, .slice (some ⟨b, 0, none⟩) len cap) :: f) w1) :
  WL P n ops Q (⟨some d, .convert t t x, ty, pos, aft, none⟩ :: rest) f w := by
 have hsh : w.shape? b = some (tb, cs.size) := by unfold World.shape?; rw [show w.heap[b]? = _ from hb]
 have hlt := hb.lt
 have hheap : (w.freeze ⟨b, cs.size, none⟩ 1).heap = w.heap.modify b fun
   | .cells c elem (lo, hi) => .cells c elem (if lo == hi then (cs.size, cs.size + 1) else (min lo cs.size, max hi (cs.size + 1)))
   | o => o := rfl
 have hat : (w.freeze ⟨b, cs.size, none⟩ 1).heap[b]? = some (.cells cs tb (cs.size, cs.size + 1)) := by
  rw [hheap, Array.getElem?_modify, if_pos rfl, show w.heap[b]? = _ from hb]; rfl
 have hu : Upd b w (w.freeze ⟨b, cs.size, none⟩ 1) := ⟨rfl, rfl, rfl, by rw [hheap]; simp, fun k hk => by rw [hheap, Array.getElem?_modify, if_neg (Ne.symm hk)]⟩
 refine WL.run hd (w' := w.freeze ⟨b, cs.size, none⟩ 1) (v := .slice (some ⟨b, 0, none⟩) len cap) (fun ρ hρ => ?_) (k _ ?_ hu (by rw [hheap]; simp))
 ·
  unfold execOp
  simp [hρ _ _ hx, convert, run_underlying ht, run_underlying he, markStringish, hsh]
 ·
  subst hl
  refine ⟨fun _ => rfl, fun j hj => ?_⟩
  have e1 : (pA (some ⟨b, 0, none⟩)).add j = ⟨b, j, none⟩ := by
   show (⟨b, 0, none⟩ : Addr).add j = _
   unfold Addr.add; split
   ·
    next h => subst h; rfl
   ·
    simp
  rw [e1, Lib.cell_of_heap hat j]
  simp [byteVals, hj]
/-- a reading of an argument stands behind a call that only lays new blocks -/
theorem trod_keep {H : Type} {enc : TypeId × Value → H} {P : Program} {t : TypeId} (hl : laidOutB P = true) (hr : P.readableRec t = true) (hrow : decide (t < P.types.size) = true) {W W' : World} {v : Value} {d : DataW H} {ps : List MemPlace}
  (h : DataW.Trod enc P W 0 (fun _ => true) true t v d ps) (hb : Below W.heap.size W W') (hlt : ∀ x ∈ ps, x.block < W.heap.size) :
  DataW.Trod enc P W' 0 (fun b => decide (b < W.heap.size)) true t v d ps := Below.trod hl hr (dT hrow) h hb hlt
end
section
open Go.RowKit Go.WideShapes Go.ChangeShapes
section
variable {P : Program} {n : Sh} {f : Fr}
/-- a string's bytes in a block of their own -/
theorem WL.s2b {ops : Array Oper} {Q : Exit → Fr → World → Prop} {w : World} {rest : List Oper} {d ty : Nat} {pos : String} {aft : Array Edge} {x : Operand} {src dst e : TypeId} {l : List UInt8}
  (hs : P.underlying src = some .string) (hd' : P.underlying dst = some (.slice e)) (he : P.underlying e = some (.int .u8)) (hx : evo f x = some (.string (bs l))) (hd : Nat.blt d n.n = true)
  (k : ∀ b w1 c, b = w.heap.size → BytesAt w1 (some ⟨b, 0, none⟩) l → l.length ≤ c → Upd b w w1 → w1.heap.size = b + 1 → WL P n ops Q rest ((d, .slice (some ⟨b, 0, none⟩) l.length c) :: f) w1) :
  WL P n ops Q (⟨some d, .convert src dst x, ty, pos, aft, none⟩ :: rest) f w := by
 have hrun := Lib.run_convert_string_bytes (P := P) w src dst e (bs l) hs hd' he
 have hsz : (bs l).size = l.length := by simp [bs, ByteArray.size]
 have hu : Upd w.heap.size w (Lib.bytesWorld w e (bs l)) := ⟨rfl, rfl, rfl, by rw [Lib.bytesWorld_size]; omega, fun j hj => by
  rcases Nat.lt_or_ge j w.heap.size with h | h
  ·
   exact Lib.bytesWorld_at_old w e (bs l) j h
  ·
   rw [Array.getElem?_eq_none (by rw [Lib.bytesWorld_size]; omega), Array.getElem?_eq_none h]⟩
 refine WL.run hd (w' := Lib.bytesWorld w e (bs l)) (v := .slice (some ⟨w.heap.size, 0, none⟩) l.length (grownCap w l.length 0 e)) (fun ρ hρ => ?_)
  (k _ _ _ rfl ⟨fun _ => rfl, fun j hj => ?_⟩ (grownCap_ge w l.length 0 e) hu (Lib.bytesWorld_size w e (bs l)))
 ·
  unfold execOp
  simp only [hρ _ _ hx, Sem.run_bind, hrun, Result.andThen_ok, Sem.run_pure, hsz]
 ·
  have e1 : (pA (some ⟨w.heap.size, 0, none⟩)).add j = ⟨w.heap.size, j, none⟩ := by
   show (⟨w.heap.size, 0, none⟩ : Addr).add j = _
   unfold Addr.add; split
   ·
    next h => rw [h]
   ·
    simp
  rw [e1, Lib.bytesWorld_cell w e (bs l) j (by rw [hsz]; exact hj)]
  simp [bs, List.getD, hj]
/-- a literal as a row of the call's own -/
theorem Own.lit {w : World} {b m : Nat} {cs : Array Value} {e : TypeId} (h : Blk w b cs e) (hm : cs.size = m) (hl : m ≤ maxLen) : Own e b w (.slice (some ⟨b, 0, none⟩) m m) cs.toList := by
 subst hm
 refine ⟨by simp, .inr ⟨b, cs.size, cs, ?_, Nat.le_refl _, h, by simp, hl, by simp, by rw [List.take_of_length_le (by simp)]⟩⟩
 simp
end
/-- elements of one cell each in memory -/
structure RowAt {α : Type} (V : α → Value) (w : World) (p : Option Addr) (l : List α) : Prop where
 isp : 0 < l.length → p = some (pA p)
 cells : ∀ j (h : j < l.length), w.cell? ((pA p).add j) = some (V l[j])
section
variable {α : Type} {V : α → Value}
theorem RowAt.lt {w : World} {p : Option Addr} {l : List α} (h : RowAt V w p l) (h0 : 0 < l.length) : (pA p).block < w.heap.size := by
 have := h.cells 0 h0
 rcases Nat.lt_or_ge (pA p).block w.heap.size with h' | h'
 ·
  exact h'
 ·
  exfalso
  have hb : ((pA p).add 0).block = (pA p).block := add_block _ _
  unfold World.cell? at this
  rw [hb, Array.getElem?_eq_none h'] at this
  cases this
theorem RowAt.below {w w1 : World} {B : Nat} {p : Option Addr} {l : List α} (h : RowAt V w p l) (hb : Below B w w1) (hp : 0 < l.length → (pA p).block < B) : RowAt V w1 p l :=
 ⟨h.isp, fun j hj => by rw [World.cell?_of_block (w := w) (hb.block _ (by rw [add_block]; exact hp oO))]; exact h.cells j hj⟩
theorem RowAt.upd {w w1 : World} {b : Nat} {p : Option Addr} {l : List α} (h : RowAt V w p l) (hu : Upd b w w1) (hp : 0 < l.length → (pA p).block ≠ b) : RowAt V w1 p l :=
 ⟨h.isp, fun j hj => by rw [World.cell?_of_block (w := w) (hu.other _ (by rw [add_block]; exact hp oO))]; exact h.cells j hj⟩
theorem RowAt.drewN {w : World} {p : Option Addr} {l : List α} (h : RowAt V w p l) (m : Nat) : RowAt V (w.drewN m) p l := ⟨h.isp, h.cells⟩
theorem RowAt.drew {w w1 : World} {p : Option Addr} {l : List α} (h : RowAt V w p l) (d : Drew w w1) : RowAt V w1 p l := by obtain ⟨m, rfl⟩ := d; exact h.drewN m
theorem RowAt.nil (w : World) : RowAt V w none [] := ⟨fun h => by simp at h, fun j h => by simp at h⟩
theorem RowAt.lit {w : World} {b : Nat} {cs : Array Value} {t : TypeId} {l : List α} (h : Blk w b cs t) (e : cs = (l.map V).toArray) : RowAt V w (some ⟨b, 0, none⟩) l := by
 subst e
 refine ⟨fun _ => rfl, fun j hj => ?_⟩
 have e1 : (pA (some ⟨b, 0, none⟩)).add j = ⟨b, j, none⟩ := by
  show (⟨b, 0, none⟩ : Addr).add j = _
  unfold Addr.add; split
  ·
   next h => subst h; rfl
  ·
   simp
 rw [e1, h.cell j]
 simp [hj]
/-- an own row read as elements -/
theorem Own.row {e : TypeId} {B : Nat} {w : World} {v : Value} {l : List α} (h : Own e B w v (l.map V)) : ∃ p c, v = .slice p l.length c ∧ RowAt V w p l ∧ (0 < l.length → B ≤ (pA p).block) ∧ l.length ≤ c ∧ (l = [] → c = 0 ∨ p ≠ none) := by
  have hbl : (l.map V).length = l.length := by simp
  obtain ⟨hl, h⟩ := h
  rcases h with ⟨rfl, h0⟩ | ⟨g, cap, cur, rfl, hB, hg, hnc, hcm, hcs, htake⟩
  · obtain rfl : l = [] := by rw [hbl] at h0; exact List.length_eq_zero_iff.1 h0
    exact ⟨none, 0, rfl, RowAt.nil w, fun h => by simp at h, Nat.le_refl _, fun _ => .inl rfl⟩
  · rw [hbl] at hnc htake ⊢
    refine ⟨_, cap, rfl, ⟨fun _ => rfl, fun j hj => ?_⟩, fun _ => hB, hnc, fun _ => .inr (by simp)⟩
    have e1 : (pA (some ⟨g, 0, none⟩)).add j = ⟨g, j, none⟩ := by
      show (⟨g, 0, none⟩ : Addr).add j = _
      unfold Addr.add; split
      · next h => subst h; rfl
      · simp
    have hc := Lib.cell_of_heap hg j
    rw [e1, hc, ← Array.getElem?_toList]
    have h2 : (cur.toList.take (l.length * 1))[j]? = (l.map V)[j]? := by rw [htake]
    rw [List.getElem?_take, if_pos oO] at h2
    rw [h2]
    simp [hj]
end
/-- strings -/
abbrev strV (s : List UInt8) : Value := .string (bs s)
end
section
theorem plex_blank (c : UInt8) (w : World) :
  Calls Tryz.prog 56 #[.int .u8 (c.toNat : Int)] w fun e w' => e = .returned (.bool (blankB c)) ∧ w = w' := by
 refine W.enter func56 rfl ntmps56 (Nat.le_of_ble_eq_true rfl) ?_
 refine W.sr <| WL.z rfl rfl ?_
 refine W.sr <| WL.m rfl rfl <| WL.c1 hb48 rfl rfl ((lib_ib [0, 9, 10, 12, 13, 32] c _)) (fun w1 hw1 => ?_)
 obtain rfl := hw1
 refine WL.p (.bis (blankB c) (.geq rfl rfl) (by exact idx_blank c)) rfl <| WL.z rfl rfl ?_
 refine W.ret (W.ret1 rfl rfl ?_)
 exact ⟨rfl, rfl⟩
theorem plex_regular (c : UInt8) (w : World) :
  Calls Tryz.prog 55 #[.int .u8 (c.toNat : Int)] w fun e w' => e = .returned (.bool (regB c)) ∧ w = w' := by
 refine W.enter func55 rfl ntmps55 (Nat.le_of_ble_eq_true rfl) ?_
 refine W.sr <| WL.z rfl rfl ?_
 refine W.sr <| WL.m rfl rfl <| WL.c1 hb56 rfl rfl ((plex_blank c _)) (fun w1 hw1 => ?_)
 obtain rfl := hw1
 refine WL.p (.not rfl) rfl <| WL.m rfl rfl <| WL.gd rfl rfl rfl (fun g2 => ?_) (fun g2 => ?_)
 have g2' := (nT g2)
 refine WL.m rfl rfl <| WL.gy rfl rfl rfl (by rw [(nT g2)] <;> rfl) <| WL.c1 hb48 rfl rfl ((lib_ib [40, 41, 60, 62, 91, 93, 123, 125, 47, 37] c _)) (fun w3 hw3 => ?_)
 obtain rfl := hw3
 refine WL.gy rfl rfl rfl (by rw [(nT g2)] <;> rfl) <| WL.p (.bis (!delimB c) (.lss rfl rfl) (by exact idx_delim c)) rfl <| WL.p (.pkT rfl (by rw [(nT g2)] <;> rfl) rfl) rfl <| WL.z rfl rfl ?_
 refine W.ret (W.ret1 rfl rfl ?_)
 exact ⟨ret_bool (by unfold regB; simp_all), rfl⟩
 have g2' := (nF g2)
 refine WL.gn rfl rfl rfl (by rw [(nF g2)] <;> rfl) <| WL.gn rfl rfl rfl (by rw [(nF g2)] <;> rfl) <| WL.p (.pkF rfl (by rw [(nF g2)] <;> rfl) rfl) rfl <| WL.z rfl rfl ?_
 refine W.ret (W.ret1 rfl rfl ?_)
 exact ⟨ret_bool (by unfold regB; simp_all), rfl⟩
/-- a place of bytes -/
def insA (l : List UInt8) (a : Int) : Nat := if a < 0 ∨ (l.length : Int) < a then l.length else a.toNat
theorem insA_le (l : List UInt8) (a : Int) : insA l a ≤ l.length := by unfold insA; split <;> omega
theorem insA_nat (l : List UInt8) (a : Nat) (h : a ≤ l.length) : insA l a = a := by unfold insA; rw [if_neg oO]; omega
theorem plex_inside (p : Option Addr) (l : List UInt8) (c : Nat) (a : Int) (w : World) :
  Calls Tryz.prog 54 #[.slice p l.length c, .int .i64 a] w fun e w' => e = .returned (.int .i64 (insA l a : Int)) ∧ w = w' := by
 refine W.enter func54 rfl ntmps54 (Nat.le_of_ble_eq_true rfl) ?_
 refine W.sr <| WL.z rfl rfl ?_
 refine W.seq ?_
 refine W.cutB 12 (decide (a < 0 ∨ (l.length : Int) < a)) ?_ ?_
 refine W.reg <| WL.m rfl rfl <| WL.p (.lss rfl rfl) rfl <| WL.m rfl rfl <| WL.gd rfl rfl rfl (fun g1 => ?_) (fun g1 => ?_)
 have g1' := dF g1
 refine WL.m rfl rfl <| WL.gy rfl rfl rfl g1 <| WL.m rfl rfl <| WL.gy rfl rfl rfl g1 <| WL.p (.lenS underlying26 rfl) rfl <| WL.gy rfl rfl rfl g1 <| WL.p (.gtr rfl rfl) rfl <| WL.p (.pkF rfl g1 rfl) rfl <| WL.nil <| ?_
 exact ⟨leE (lk_b rfl (by (apply Bool.eq_iff_iff.2; (try simp) <;> omega))), rfl⟩
 have g1' := dT g1
 refine WL.gn rfl rfl rfl g1 <| WL.gn rfl rfl rfl g1 <| WL.gn rfl rfl rfl g1 <| WL.p (.pkT rfl g1 rfl) rfl <| WL.nil <| ?_
 exact ⟨leE (lk_b rfl (by (apply Bool.eq_iff_iff.2; (try simp) <;> omega))), rfl⟩
 refine W.cond rfl (fun h2 => ?_) (fun h2 => ?_)
 have h2' := dT h2
 refine W.sr <| WL.m rfl rfl <| WL.p (.lenS underlying26 rfl) rfl <| WL.z rfl rfl ?_
 refine W.ret (W.ret1 rfl rfl ?_)
 exact ⟨ret_int (by unfold insA; rw [if_pos aS]), rfl⟩
 have h2' := dF h2
 refine W.skip <| W.sr <| WL.m rfl rfl <| WL.z rfl rfl ?_
 refine W.ret (W.ret1 rfl rfl ?_)
 exact ⟨ret_int (by unfold insA; rw [if_neg aS]; omega), rfl⟩
theorem plex_Skip (p : Option Addr) (l : List UInt8) (c : Nat) (a : Int) (w : World) (hb : BytesAt w p l) (hl : l.length ≤ 100000000) :
  Calls Tryz.prog 34 #[.slice p l.length c, .int .i64 a] w fun e w' => e = .returned (.int .i64 (skipAt false l (insA l a) : Int)) ∧ w = w' := by
 obtain ⟨R, hR⟩ : ∃ R, R = skipAt false l (insA l a) := ⟨_, rfl⟩
 have ha := insA_le l a
 rw [← hR]
 refine W.enter func34 rfl ntmps34 (Nat.le_of_ble_eq_true rfl) ?_
 refine W.sr <| WL.z rfl rfl ?_
 refine W.sr <| WL.m rfl rfl <| WL.m rfl rfl <| WL.c1 hb54 rfl rfl ((plex_inside p l c a _)) (fun w1 hw1 => ?_)
 obtain rfl := hw1
 refine WL.z rfl rfl ?_
 refine W.seq <| W.block ?_
 refine W.loop (α := Nat) (fun t => [(0, .slice p l.length c), (1, .int .i64 (t : Int))]) (fun t w' => w = w' ∧ t ≤ l.length ∧ skipAt false l t = R) (fun t => l.length - t) (insA l a) ⟨rfl, rfl, trivial⟩ (⟨rfl, ha, hR.symm⟩) (fun t w1 hR => ?_)
 obtain ⟨rfl, ht, hw⟩ := hR
 obtain ⟨s, rfl⟩ : ∃ s, s = t := ⟨t, rfl⟩
 refine W.seq <| W.sr <| WL.m rfl rfl <| WL.m rfl rfl <| WL.p (.lenS underlying26 rfl) rfl <| WL.p (.lss rfl rfl) rfl <| WL.nil <| ?_
 refine W.cond rfl (fun h2 => ?_) (fun h2 => ?_)
 have h2' := dT h2
 refine W.skip <| W.block <| W.seq <| W.reg ?_
 have hs := skipAt_f l s oO
 have hs' : l[s]! = l[s]'oO := getElem!_pos l s oO
 refine WL.m rfl rfl <| WL.m rfl rfl <| WL.p (.ixb underlying26 sizeOf5 rfl rfl (hb.isp oO) (s) (rfl) oO) rfl <| WL.r (Rd.ldc (isAgg5 _) rfl (hb.cells (s) oO)) rfl <| WL.z rfl rfl ?_
 refine W.block <| W.sr <| WL.m rfl rfl <| WL.c1 hb56 rfl rfl ((plex_blank _ _)) (fun w3 hw3 => ?_)
 obtain rfl := hw3
 refine WL.z rfl rfl ?_
 refine W.cond rfl (fun h4 => ?_) (fun h4 => ?_)
 refine W.reg <| WL.m rfl rfl <| WL.p (.add rfl rfl (i64w oO)) rfl <| WL.z rfl rfl ?_
 exact ⟨s + 1, ⟨rfl, lk_i rfl oO, trivial⟩, ⟨rfl, by omega, by rw [← hw, hs, if_neg (by rintro e; simp_all [blankB]), if_pos (by simp_all)]⟩, by omega⟩
 refine W.sr <| WL.m rfl rfl <| WL.p (.eql rfl rfl) rfl <| WL.z rfl rfl ?_
 refine W.cond rfl (fun h5 => ?_) (fun h5 => ?_)
 have h5' := dT h5
 refine W.block ?_
 refine W.loop (α := Nat) (fun t => [(0, .slice p l.length c), (1, .int .i64 (t : Int))]) (fun t w' => w = w' ∧ s ≤ t ∧ t ≤ l.length ∧ skipAt true l t = R ∧ (t = s → l[s]'oO = 37)) (fun t => l.length - t) (s) ⟨rfl, rfl, trivial⟩ (⟨rfl, by omega, by omega, by rw [skipAt_t l s oO, if_neg (by rw [show l[s] = 37 from u8_eq aS]; decide), ← hw, hs, if_pos (u8_eq aS)], fun _ => u8_eq aS⟩) (fun t w1 hR => ?_)
 obtain ⟨rfl, hst, ht2, hw2, h37⟩ := hR
 refine W.seq ?_
 refine W.cutB 50 (cmtB l t) ?_ ?_
 refine W.reg <| WL.m rfl rfl <| WL.m rfl rfl <| WL.p (.lenS underlying26 rfl) rfl <| WL.p (.lss rfl rfl) rfl <| WL.m rfl rfl <| WL.gd rfl rfl rfl (fun g6 => ?_) (fun g6 => ?_)
 have g6' := dT g6
 refine WL.m rfl rfl <| WL.gy rfl rfl rfl g6 <| WL.m rfl rfl <| WL.gy rfl rfl rfl g6 <| WL.p (.ixb underlying26 sizeOf5 rfl rfl (hb.isp oO) (t) (rfl) oO) rfl <| WL.gy rfl rfl rfl g6 <| WL.r (Rd.ldc (isAgg5 _) rfl (hb.cells (t) oO)) rfl <| WL.gy rfl rfl rfl g6 <| WL.p (.neq rfl rfl) rfl <| WL.p (.pkT rfl g6 rfl) rfl <| WL.m rfl rfl <| WL.gd rfl rfl rfl (fun g7 => ?_) (fun g7 => ?_)
 have g7' := ndT g7
 refine WL.m rfl rfl <| WL.gy rfl rfl rfl g7 <| WL.m rfl rfl <| WL.gy rfl rfl rfl g7 <| WL.p (.ixb underlying26 sizeOf5 rfl rfl (hb.isp oO) (t) (rfl) oO) rfl <| WL.gy rfl rfl rfl g7 <| WL.r (Rd.ldc (isAgg5 _) rfl (hb.cells (t) oO)) rfl <| WL.gy rfl rfl rfl g7 <| WL.p (.neq rfl rfl) rfl <| WL.p (.pkT rfl g7 rfl) rfl <| WL.m rfl rfl <| WL.gd rfl rfl rfl (fun g8 => ?_) (fun g8 => ?_)
 have g8' := ndT g8
 refine WL.m rfl rfl <| WL.gy rfl rfl rfl g8 <| WL.m rfl rfl <| WL.gy rfl rfl rfl g8 <| WL.p (.ixb underlying26 sizeOf5 rfl rfl (hb.isp oO) (t) (rfl) oO) rfl <| WL.gy rfl rfl rfl g8 <| WL.r (Rd.ldc (isAgg5 _) rfl (hb.cells (t) oO)) rfl <| WL.gy rfl rfl rfl g8 <| WL.p (.neq rfl rfl) rfl <| WL.p (.pkT rfl g8 rfl) rfl <| WL.nil <| ?_
 exact ⟨leE (lk_b rfl (by (by_cases hq : t < l.length) <;> (unfold cmtB; first | (exfalso; omega) | (rw [getElem!_pos l t hq]; simp_all; done) | (rw [decide_eq_false hq]; simp_all; done)))), rfl⟩
 have g8' := ndF g8
 refine WL.gn rfl rfl rfl g8 <| WL.gn rfl rfl rfl g8 <| WL.gn rfl rfl rfl g8 <| WL.gn rfl rfl rfl g8 <| WL.p (.pkF rfl g8 rfl) rfl <| WL.nil <| ?_
 exact ⟨leE (lk_b rfl (by (by_cases hq : t < l.length) <;> (unfold cmtB; first | (exfalso; omega) | (rw [getElem!_pos l t hq]; simp_all; done) | (rw [decide_eq_false hq]; simp_all; done)))), rfl⟩
 have g7' := ndF g7
 refine WL.gn rfl rfl rfl g7 <| WL.gn rfl rfl rfl g7 <| WL.gn rfl rfl rfl g7 <| WL.gn rfl rfl rfl g7 <| WL.p (.pkF rfl g7 rfl) rfl <| WL.m rfl rfl <| WL.gn rfl rfl rfl rfl <| WL.gn rfl rfl rfl rfl <| WL.gn rfl rfl rfl rfl <| WL.gn rfl rfl rfl rfl <| WL.gn rfl rfl rfl rfl <| WL.p (.pkF rfl rfl rfl) rfl <| WL.nil <| ?_
 exact ⟨leE (lk_b rfl (by (by_cases hq : t < l.length) <;> (unfold cmtB; first | (exfalso; omega) | (rw [getElem!_pos l t hq]; simp_all; done) | (rw [decide_eq_false hq]; simp_all; done)))), rfl⟩
 have g6' := dF g6
 refine WL.gn rfl rfl rfl g6 <| WL.gn rfl rfl rfl g6 <| WL.gn rfl rfl rfl g6 <| WL.gn rfl rfl rfl g6 <| WL.p (.pkF rfl g6 rfl) rfl <| WL.m rfl rfl <| WL.gn rfl rfl rfl rfl <| WL.gn rfl rfl rfl rfl <| WL.gn rfl rfl rfl rfl <| WL.gn rfl rfl rfl rfl <| WL.gn rfl rfl rfl rfl <| WL.p (.pkF rfl rfl rfl) rfl <| WL.m rfl rfl <| WL.gn rfl rfl rfl rfl <| WL.gn rfl rfl rfl rfl <| WL.gn rfl rfl rfl rfl <| WL.gn rfl rfl rfl rfl <| WL.gn rfl rfl rfl rfl <| WL.p (.pkF rfl rfl rfl) rfl <| WL.nil <| ?_
 exact ⟨leE (lk_b rfl (by (by_cases hq : t < l.length) <;> (unfold cmtB; first | (exfalso; omega) | (rw [getElem!_pos l t hq]; simp_all; done) | (rw [decide_eq_false hq]; simp_all; done)))), rfl⟩
 refine W.cond rfl (fun h9 => ?_) (fun h9 => ?_)
 obtain ⟨hk1, hk2⟩ := cmtB_t aS
 rw [skipAt_t l t hk1, hk2, if_neg (by simp)] at hw2
 refine W.skip <| W.block <| W.reg <| WL.m rfl rfl <| WL.p (.add rfl rfl (i64w oO)) rfl <| WL.z rfl rfl ?_
 exact ⟨t + 1, ⟨rfl, lk_i rfl oO, trivial⟩, ⟨rfl, by omega, by omega, by omega, fun h => by omega⟩, by omega⟩
 obtain ⟨hk1, hk2⟩ := cmtB_f aS
 have hk3 : t ≠ s := fun e => by subst e; exact hk2 oO (h37 rfl)
 refine W.exit ?_
 exact ⟨t, ⟨rfl, lk_i rfl oO, trivial⟩, ⟨rfl, by omega, by omega⟩, by omega⟩
 have h5' := dF h5
 refine W.sr <| WL.m rfl rfl <| WL.z rfl rfl ?_
 refine W.ret (W.ret1 rfl rfl ?_)
 exact ⟨ret_int (by rw [← hw, hs, if_neg (u8_ne aS), if_neg (by simp_all)]), rfl⟩
 have h2' := dF h2
 refine W.exit <| W.sr <| WL.m rfl rfl <| WL.z rfl rfl ?_
 refine W.ret (W.ret1 rfl rfl ?_)
 exact ⟨ret_int (by rw [skipAt_end false l s oO] at hw; omega), rfl⟩
/-- the regular bytes at a place -/
def wordL (l : List UInt8) (a : Nat) : List UInt8 := (l.drop a).take (wordAt l a - a)
theorem wordL_eq (l : List UInt8) (a : Nat) : wordL l a = (l.drop a).takeWhile regB := word_take l a
theorem plex_Word (p : Option Addr) (l : List UInt8) (c : Nat) (a : Int) (w : World) (hb : BytesAt w p l) (hc : l.length ≤ c) (hl : l.length ≤ 100000000) :
  Calls Tryz.prog 33 #[.slice p l.length c, .int .i64 a] w fun e w' => e = .returned (.tuple #[.string (bs (wordL l (insA l a))), .int .i64 (wordAt l (insA l a) : Int)]) ∧ w = w' := by
 obtain ⟨R, hR⟩ : ∃ R, R = wordAt l (insA l a) := ⟨_, rfl⟩
 have ha := insA_le l a
 have hwl := wordAt_le l (insA l a) ha
 unfold wordL
 rw [← hR] at hwl ⊢
 refine W.enter func33 rfl ntmps33 (Nat.le_of_ble_eq_true rfl) ?_
 refine W.sr <| WL.a rfl rfl <| WL.z rfl rfl ?_
 refine W.sr <| WL.m rfl rfl <| WL.m rfl rfl <| WL.c1 hb54 rfl rfl ((plex_inside p l c a _)) (fun w1 hw1 => ?_)
 obtain rfl := hw1
 refine WL.z rfl rfl ?_
 refine W.sr <| WL.m rfl rfl <| WL.z rfl rfl ?_
 refine W.seq <| W.block ?_
 refine W.loop (α := Nat) (fun t => [(0, .slice p l.length c), (1, .int .i64 (insA l a : Int)), (5, .int .i64 (t : Int))]) (fun t w' => w = w' ∧ t ≤ l.length ∧ wordAt l t = R) (fun t => l.length - t) (insA l a) ⟨rfl, rfl, rfl, trivial⟩ (⟨rfl, ha, hR.symm⟩) (fun t w1 hR => ?_)
 obtain ⟨rfl, ht, hw⟩ := hR
 refine W.seq <| W.sr <| WL.m rfl rfl <| WL.m rfl rfl <| WL.p (.lenS underlying26 rfl) rfl <| WL.p (.lss rfl rfl) rfl <| WL.m rfl rfl <| WL.gd rfl rfl rfl (fun g2 => ?_) (fun g2 => ?_)
 have g2' := dT g2
 have hs := takeWhile_drop regB l t oO
 refine WL.m rfl rfl <| WL.gy rfl rfl rfl g2 <| WL.m rfl rfl <| WL.gy rfl rfl rfl g2 <| WL.p (.ixb underlying26 sizeOf5 rfl rfl (hb.isp oO) (t) (rfl) oO) rfl <| WL.gy rfl rfl rfl g2 <| WL.r (Rd.ldc (isAgg5 _) rfl (hb.cells (t) oO)) rfl <| WL.gy rfl rfl rfl g2 <| WL.c1 hb55 rfl rfl ((plex_regular _ _)) (fun w3 hw3 => ?_)
 obtain rfl := hw3
 refine WL.p (.pkT rfl g2 rfl) rfl <| WL.nil <| ?_
 refine W.cond rfl (fun h4 => ?_) (fun h4 => ?_)
 refine W.skip <| W.block <| W.reg <| WL.m rfl rfl <| WL.p (.add rfl rfl (i64w oO)) rfl <| WL.z rfl rfl ?_
 exact ⟨t + 1, ⟨rfl, rfl, lk_i rfl oO, trivial⟩, ⟨rfl, by omega, by unfold wordAt at hw ⊢; rw [hs, if_pos aS, List.length_cons] at hw; omega⟩, by omega⟩
 refine W.exit <| W.seq ?_
 have htR : t = R := by
  by_cases hq : t < l.length
  have hs := takeWhile_drop regB l t hq
  unfold wordAt at hw; rw [hs, if_neg (by simp_all), List.length_nil] at hw; omega
  unfold wordAt at hw; rw [List.drop_eq_nil_of_le oO] at hw; simp at hw; omega
 refine W.reg <| WL.m rfl rfl <| WL.m rfl rfl <| WL.m rfl rfl <| WL.p (.slb underlying26 sizeOf5 rfl rfl rfl  (insA l a) (R) (rfl) oO oO oO) rfl <| WL.r (Rd.b2sPart underlying26 underlying5 underlying9 rfl rfl hb oO oO oO) rfl <| WL.m rfl rfl <| WL.a rfl rfl <| WL.z rfl rfl ?_
 refine W.ret (W.ret2 rfl rfl rfl ?_)
 exact ⟨ret_val (by subst htR; rfl), rfl⟩
 have g2' := dF g2
 refine WL.gn rfl rfl rfl g2 <| WL.gn rfl rfl rfl g2 <| WL.gn rfl rfl rfl g2 <| WL.gn rfl rfl rfl g2 <| WL.p (.pkF rfl g2 rfl) rfl <| WL.nil <| ?_
 refine W.condF rfl rfl ?_
 refine W.exit <| W.seq ?_
 have htR : t = R := by
  by_cases hq : t < l.length
  have hs := takeWhile_drop regB l t hq
  unfold wordAt at hw; rw [hs, if_neg (by simp_all), List.length_nil] at hw; omega
  unfold wordAt at hw; rw [List.drop_eq_nil_of_le oO] at hw; simp at hw; omega
 refine W.reg <| WL.m rfl rfl <| WL.m rfl rfl <| WL.m rfl rfl <| WL.p (.slb underlying26 sizeOf5 rfl rfl rfl  (insA l a) (R) (rfl) oO oO oO) rfl <| WL.r (Rd.b2sPart underlying26 underlying5 underlying9 rfl rfl hb oO oO oO) rfl <| WL.m rfl rfl <| WL.a rfl rfl <| WL.z rfl rfl ?_
 refine W.ret (W.ret2 rfl rfl rfl ?_)
 exact ⟨ret_val (by subst htR; rfl), rfl⟩
theorem lib_trim (l cs : List UInt8) (w : World) (hl : l.length ≤ 100000000) (hc : cs.length ≤ 1000) (ha : ∀ b ∈ cs, b.toNat < 128) :
  Calls Tryz.prog 67 #[.string (bs l), .string (bs cs)] w fun e w' => e = .returned (.string (bs (Lib.trimS l cs))) ∧ Below w.heap.size w w' := by
 refine (Any.strings_Trim_laid Tryz.lays160 kR (bs l) (bs cs) w (by rw [bs_size]; omega) (by rw [bs_size]; omega) ?_).mono fun e w' h => ⟨?_, h.2⟩
 ·
  intro j b hb
  have : (bs cs).data.toList = cs := by simp [bs]
  rw [this] at hb
  exact ha b (List.mem_of_getElem? hb)
 ·
  rw [h.1]
  have h1 : (bs l).data.toList = l := by simp [bs]
  have h2 : (bs cs).data.toList = cs := by simp [bs]
  rw [h1, h2]; rfl
theorem trim_dig (l : List UInt8) : (decide (Lib.trimS l [48, 49, 50, 51, 52, 53, 54, 55, 56, 57] = [])) = l.all isDig := by
 have : (fun x => ([48, 49, 50, 51, 52, 53, 54, 55, 56, 57] : List UInt8).contains x) = isDig := funext digs_contains
 rw [Bool.eq_iff_iff, decide_eq_true_eq, trimS_nil_iff, this]
/-- a number of digits alone -/
def wholeOk (s : List UInt8) : Bool := !decide (s = []) && decide (s.length ≤ 10) && s.all isDig
def wholeV (s : List UInt8) (most : Int) : Int × Bool := if wholeOk s then ((natOf s : Int), decide ((natOf s : Int) ≤ most)) else (0, false)
theorem plex_whole (s : List UInt8) (most : Int) (w : World) (hl : s.length ≤ 100000000) :
  Calls Tryz.prog 105 #[.string (bs s), .int .i64 most] w fun e w' => e = .returned (.tuple #[.int .i64 (wholeV s most).1, .bool (wholeV s most).2]) ∧ Below w.heap.size w w' := by
 refine W.enter func105 rfl ntmps105 (Nat.le_of_ble_eq_true rfl) ?_
 have hB0 := Below.refl (w.heap.size) w
 refine W.sr <| WL.a rfl rfl <| WL.z rfl rfl ?_
 refine W.seq ?_
 refine W.cut (α := Unit) (fun t => [(0, .string (bs s)), (1, .int .i64 most), (4, .int .i64 0), (5, .bool false), (20, .bool (!wholeOk s))]) (fun t w' => Below w.heap.size w w') ?_ (fun t w1 hR => ?_)
 refine W.reg <| WL.m rfl rfl <| WL.p (.eqs rfl rfl) rfl <| WL.m rfl rfl <| WL.gd rfl rfl rfl (fun g1 => ?_) (fun g1 => ?_)
 have g1' := dF g1
 refine WL.m rfl rfl <| WL.gy rfl rfl rfl g1 <| WL.p (.len underlying9 rfl) rfl <| WL.gy rfl rfl rfl g1 <| WL.p (.gtr rfl rfl) rfl <| WL.p (.pkF rfl g1 rfl) rfl <| WL.m rfl rfl <| WL.gd rfl rfl rfl (fun g2 => ?_) (fun g2 => ?_)
 have g2' := dF g2
 refine WL.m rfl rfl <| WL.gy rfl rfl rfl g2 <| WL.c1 hb67 rfl rfl ((lib_trim s [48, 49, 50, 51, 52, 53, 54, 55, 56, 57] _ hl dD dD)) (fun w3 hw3 => ?_)
 have hB4 := btr hB0 hw3
 refine WL.gy rfl rfl rfl g2 <| WL.p (.bis (!s.all isDig) (.nes rfl rfl) (by rw [trim_dig])) rfl <| WL.p (.pkF rfl g2 rfl) rfl <| WL.nil <| ?_
 exact ⟨(), ⟨rfl, rfl, rfl, rfl, lk_b rfl (by unfold wholeOk; first | (simp_all; done) | (simp_all; omega)), trivial⟩, hB4⟩
 have g2' := dT g2
 refine WL.gn rfl rfl rfl g2 <| WL.gn rfl rfl rfl g2 <| WL.p (.pkT rfl g2 rfl) rfl <| WL.nil <| ?_
 exact ⟨(), ⟨rfl, rfl, rfl, rfl, lk_b rfl (by unfold wholeOk; first | (simp_all; done) | (simp_all; omega)), trivial⟩, hB0⟩
 have g1' := dT g1
 refine WL.gn rfl rfl rfl g1 <| WL.gn rfl rfl rfl g1 <| WL.p (.pkT rfl g1 rfl) rfl <| WL.m rfl rfl <| WL.gn rfl rfl rfl rfl <| WL.gn rfl rfl rfl rfl <| WL.gn rfl rfl rfl rfl <| WL.p (.pkT rfl rfl rfl) rfl <| WL.nil <| ?_
 exact ⟨(), ⟨rfl, rfl, rfl, rfl, lk_b rfl (by unfold wholeOk; first | (simp_all; done) | (simp_all; omega)), trivial⟩, hB0⟩
 have hBj := hR
 refine W.cond rfl (fun h5 => ?_) (fun h5 => ?_)
 have hno : wholeOk s = false := by simp_all
 refine W.sr <| WL.a rfl rfl <| WL.z rfl rfl ?_
 refine W.ret (W.ret2 rfl rfl rfl ?_)
 exact ⟨ret_ib (by unfold wholeV; rw [hno]; rfl) (by unfold wholeV; rw [hno]; rfl), hBj⟩
 have hok : wholeOk s = true := by simp_all
 have hok' := hok
 unfold wholeOk at hok'
 simp only [Bool.and_eq_true, decide_eq_true_eq, Bool.not_eq_true', decide_eq_false_iff_not] at hok'
 have hdig := List.all_eq_true.1 hok'.2
 refine W.skip <| W.sr <| WL.z rfl rfl ?_
 refine W.seq <| W.sr <| WL.m rfl rfl <| WL.s2b underlying9 underlying26 underlying5 rfl rfl (fun b6 wb6 cz eb6 hz hcz hub6 hsb6 => ?_)
 have hB7 := Upd.below hBj (by rw [eb6]; exact hBj.size) hub6
 have hgeb6 : w.heap.size ≤ b6 := by rw [eb6]; exact hBj.size
 refine WL.p (.lenS underlying26 rfl) rfl <| WL.m rfl rfl <| WL.nil <| ?_
 refine W.block ?_
 refine W.loop (α := Nat) (fun t => [(0, .string (bs s)), (1, .int .i64 most), (6, .int .i64 (natOf (s.take t) : Int)), (22, .slice (some ⟨b6, 0, none⟩) s.length cz), (23, .int .i64 (s.length : Int)), (24, .int .i64 (t : Int))]) (fun t w' => wb6 = w' ∧ t ≤ s.length) (fun t => s.length - t) (0) ⟨rfl, rfl, rfl, rfl, rfl, rfl, trivial⟩ (⟨rfl, Nat.zero_le _⟩) (fun t w1 hR => ?_)
 obtain ⟨i, rfl⟩ : ∃ i, i = t := ⟨t, rfl⟩
 obtain ⟨rfl, hi⟩ := hR
 refine W.sr <| WL.p (.lss rfl rfl) rfl <| WL.nil <| ?_
 refine W.seq <| W.cond rfl (fun h8 => ?_) (fun h8 => ?_)
 have h8' := dT h8
 refine W.skip <| W.seq <| W.block <| W.sr <| WL.p (.ixb underlying26 sizeOf5 rfl rfl (hz.isp oO) (i) (rfl) oO) rfl <| WL.r (Rd.ldc (isAgg5 _) rfl (hz.cells (i) oO)) rfl <| WL.z rfl rfl ?_
 have hst := natOf_take s i oO
 have hbd := isDig_bounds (hdig _ (List.getElem_mem (show i < s.length by omega)))
 have hlt := natOf_lt (s.take i) (fun c hc => hdig c (List.mem_of_mem_take hc))
 have hpw : 10 ^ (s.take i).length ≤ 10 ^ 9 := Nat.pow_le_pow_right oO (by rw [List.length_take]; omega)
 refine W.reg <| WL.m rfl rfl <| WL.p (.mul rfl rfl (i64w oO)) rfl <| WL.m rfl rfl <| WL.p (.sub rfl rfl (u8w oO)) rfl <| WL.p (.cvt underlying5 underlying3 rfl (i64w oO)) rfl <| WL.p (.iis ((natOf (s.take (i + 1)) : Int)) (.add rfl rfl (i64w oO)) oO) rfl <| WL.z rfl rfl ?_
 refine W.reg <| WL.p (.iis (((i + 1 : Nat) : Int)) (.add rfl rfl (i64w oO)) oO) rfl <| WL.m rfl rfl <| WL.nil <| ?_
 exact ⟨i + 1, ⟨rfl, rfl, rfl, rfl, rfl, rfl, trivial⟩, ⟨rfl, by ((try simp only) <;> omega)⟩, by ((try simp only) <;> omega)⟩
 have h8' := dF h8
 refine W.exit <| W.seq ?_
 obtain rfl : i = s.length := by omega
 rw [List.take_length]
 refine W.reg <| WL.m rfl rfl <| WL.m rfl rfl <| WL.m rfl rfl <| WL.p (.leq rfl rfl) rfl <| WL.a rfl rfl <| WL.z rfl rfl ?_
 refine W.ret (W.ret2 rfl rfl rfl ?_)
 exact ⟨ret_ib (by unfold wholeV; rw [hok]; rfl) (by unfold wholeV; rw [hok]; rfl), hB7⟩
end
section
open Go.RowKit Go.WideShapes Go.ChangeShapes
theorem add_lit (b o j : Nat) : (⟨b, o, none⟩ : Addr).add j = ⟨b, o + j, none⟩ := by
 unfold Addr.add; split <;> simp_all
/-- how an element is laid: m cells, each of one value -/
structure Lay (α : Type) where
 m : Nat
 V : α → List Value
 pos : 0 < m
 len : ∀ x, (V x).length = m
 one : ∀ x, ∀ v ∈ V x, v.oneCell' = true
variable {α : Type}
def Lay.flat (L : Lay α) (l : List α) : List Value := l.flatMap L.V
theorem Lay.flat_len (L : Lay α) : ∀ l : List α, (L.flat l).length = l.length * L.m
 | [] => by simp [Lay.flat]
 | x :: l => by
  have := L.flat_len l
  unfold Lay.flat at this ⊢
  simp only [List.flatMap_cons, List.length_append, L.len, this, List.length_cons, Nat.succ_mul]; omega
theorem Lay.flat_append (L : Lay α) (l k : List α) : L.flat (l ++ k) = L.flat l ++ L.flat k := by simp [Lay.flat]
theorem Lay.flat_one (L : Lay α) (l : List α) : ∀ v ∈ L.flat l, v.oneCell' = true := by
 intro v hv
 simp only [Lay.flat, List.mem_flatMap] at hv
 obtain ⟨x, -, h⟩ := hv
 exact L.one x v h
theorem Lay.flat_at (L : Lay α) : ∀ (l : List α) (j : Nat) (h : j < l.length) (i : Nat), i < L.m → (L.flat l)[j * L.m + i]? = (L.V l[j])[i]?
 | x :: l, 0, h, i, hi => by
  simp only [Lay.flat, List.flatMap_cons, Nat.zero_mul, Nat.zero_add, List.getElem_cons_zero]
  rw [List.getElem?_append_left (by rw [L.len]; exact hi)]
 | x :: l, j + 1, h, i, hi => by
  have ih := L.flat_at l j (by simpa using h) i hi
  simp only [Lay.flat, List.flatMap_cons, List.getElem_cons_succ] at ih ⊢
  rw [List.getElem?_append_right (by rw [L.len, Nat.succ_mul]; omega), L.len, ← ih]
  congr 1
  rw [Nat.succ_mul]; omega
theorem Lay.flat_take (L : Lay α) (l : List α) (k : Nat) : (L.flat l).take (k * L.m) = L.flat (l.take k) := by
 induction l generalizing k with
 | nil => simp [Lay.flat]
 | cons x l ih =>
  cases k with
  | zero => simp [Lay.flat]
  | succ k =>
   have := ih k
   simp only [Lay.flat, List.flatMap_cons, List.take_succ_cons] at this ⊢
   rw [List.take_append, L.len, List.take_of_length_le (by rw [L.len, Nat.succ_mul]; omega), ← this]
   congr 2
   rw [Nat.succ_mul]; omega
theorem Lay.flat_drop (L : Lay α) (l : List α) (k : Nat) : (L.flat l).drop (k * L.m) = L.flat (l.drop k) := by
 induction l generalizing k with
 | nil => simp [Lay.flat]
 | cons x l ih =>
  cases k with
  | zero => simp [Lay.flat]
  | succ k =>
   have := ih k
   simp only [Lay.flat, List.flatMap_cons, List.drop_succ_cons] at this ⊢
   rw [List.drop_append, L.len, List.drop_of_length_le (by rw [L.len, Nat.succ_mul]; omega), List.nil_append, ← this]
   congr 1
   rw [Nat.succ_mul]; omega
/-- elements of several cells each in memory -/
structure RowM (L : Lay α) (w : World) (p : Option Addr) (l : List α) : Prop where
 isp : 0 < l.length → p = some (pA p)
 cells : ∀ j (h : j < l.length) i, i < L.m → w.cell? ((pA p).add (j * L.m + i)) = (L.V l[j])[i]?
section
variable {L : Lay α}
theorem RowM.flat {w : World} {p : Option Addr} {l : List α} (h : RowM L w p l) : ∀ k v, (L.flat l)[k]? = some v → w.cell? ((pA p).add k) = some v := by
 intro k v hk
 have hlt : k < (L.flat l).length := by
  rcases Nat.lt_or_ge k (L.flat l).length with h | h
  ·
   exact h
  ·
   rw [List.getElem?_eq_none h] at hk; cases hk
 rw [L.flat_len] at hlt
 have hj : k / L.m < l.length := (Nat.div_lt_iff_lt_mul L.pos).2 hlt
 have hi := Nat.mod_lt k L.pos
 have e : k / L.m * L.m + k % L.m = k := Nat.div_add_mod' k L.m
 have h1 := L.flat_at l (k / L.m) hj (k % L.m) hi
 have h2 := h.cells (k / L.m) hj (k % L.m) hi
 rw [e] at h1 h2
 rw [h2, ← h1, hk]
theorem RowM.of_flat {w : World} {p : Option Addr} {l : List α} (hp : 0 < l.length → p = some (pA p)) (h : ∀ k v, (L.flat l)[k]? = some v → w.cell? ((pA p).add k) = some v) : RowM L w p l :=
 ⟨hp, fun j hj i hi => by
  have h1 := L.flat_at l j hj i hi
  have h2 : i < (L.V l[j]).length := by rw [L.len]; exact hi
  rw [List.getElem?_eq_getElem h2] at h1 ⊢
  exact h _ _ h1⟩
theorem RowM.lt {w : World} {p : Option Addr} {l : List α} (h : RowM L w p l) (h0 : 0 < l.length) : (pA p).block < w.heap.size := by
 have hc := h.cells 0 h0 0 L.pos
 rw [List.getElem?_eq_getElem (by rw [L.len]; exact L.pos)] at hc
 rcases Nat.lt_or_ge (pA p).block w.heap.size with h' | h'
 ·
  exact h'
 ·
  exfalso
  have hb : ((pA p).add (0 * L.m + 0)).block = (pA p).block := add_block _ _
  unfold World.cell? at hc
  rw [hb, Array.getElem?_eq_none h'] at hc
  cases hc
theorem RowM.same {w w1 : World} {p : Option Addr} {l : List α} (h : RowM L w p l) (hb : 0 < l.length → w1.heap[(pA p).block]? = w.heap[(pA p).block]?) : RowM L w1 p l :=
 ⟨h.isp, fun j hj i hi => by rw [World.cell?_of_block (w := w) (by rw [add_block]; exact hb oO)]; exact h.cells j hj i hi⟩
theorem RowM.below {w w1 : World} {B : Nat} {p : Option Addr} {l : List α} (h : RowM L w p l) (hb : Below B w w1) (hp : 0 < l.length → (pA p).block < B) : RowM L w1 p l := h.same fun h0 => hb.block _ (hp h0)
theorem RowM.upd {w w1 : World} {b : Nat} {p : Option Addr} {l : List α} (h : RowM L w p l) (hu : Upd b w w1) (hp : 0 < l.length → (pA p).block ≠ b) : RowM L w1 p l := h.same fun h0 => hu.other _ (hp h0)
theorem RowM.drewN {w : World} {p : Option Addr} {l : List α} (h : RowM L w p l) (m : Nat) : RowM L (w.drewN m) p l := ⟨h.isp, h.cells⟩
theorem RowM.drew {w w1 : World} {p : Option Addr} {l : List α} (h : RowM L w p l) (d : Drew w w1) : RowM L w1 p l := by obtain ⟨m, rfl⟩ := d; exact h.drewN m
theorem RowM.nil (w : World) : RowM L w none [] := ⟨fun h => by simp at h, fun j h => by simp at h⟩
/-- a part of it -/
def pPartM (m : Nat) (p : Option Addr) (c a : Nat) : Option Addr := if c = a then p else p.map (·.add (a * m))
theorem RowM.part {w : World} {p : Option Addr} {l : List α} {c a b : Nat} (h : RowM L w p l) (hab : a ≤ b) (hb : b ≤ l.length) (hc : l.length ≤ c) : RowM L w (pPartM L.m p c a) ((l.drop a).take (b - a)) := by
  have hlen : ((l.drop a).take (b - a)).length = b - a := by rw [List.length_take, List.length_drop]; omega
  by_cases h0 : a = b
  · refine ⟨fun h => ?_, fun j hj => ?_⟩ <;> rw [hlen] at * <;> omega
  · have hp := h.isp oO
    have e1 : pPartM L.m p c a = some ((pA p).add (a * L.m)) := by unfold pPartM; rw [if_neg oO]; rw [hp]; rfl
    rw [e1]
    refine ⟨fun _ => rfl, fun j hj i hi => ?_⟩
    rw [hlen] at hj
    show w.cell? (((pA p).add (a * L.m)).add (j * L.m + i)) = _
    rw [add_add, show a * L.m + (j * L.m + i) = (a + j) * L.m + i by rw [Nat.add_mul]; omega, h.cells (a + j) oO i hi]
    simp
/-- such a row of the call's own: from block B on; the row may go on behind the slice's room -/
def OwnM (L : Lay α) (e : TypeId) (B : Nat) (w : World) (v : Value) (l : List α) : Prop :=
 (v = .slice none 0 0 ∧ l = []) ∨ ∃ g cap cur, v = .slice (some ⟨g, 0, none⟩) l.length cap ∧ B ≤ g ∧ w.heap[g]? = some (.cells cur e (0, 0)) ∧ l.length ≤ cap ∧ cap ≤ maxLen ∧ cap * L.m ≤ cur.size ∧ cur.toList.take (l.length * L.m) = L.flat l
theorem OwnM.nil (L : Lay α) (e : TypeId) (B : Nat) (w : World) : OwnM L e B w (.slice none 0 0) [] := .inl ⟨rfl, rfl⟩
theorem OwnM.of {e : TypeId} {B : Nat} {w : World} {v : Value} {l : List α} (h : w.ownsRow B e L.m v l.length (L.flat l)) : OwnM L e B w v l := by
 obtain ⟨hl, h⟩ := h
 rcases h with ⟨rfl, h0⟩ | ⟨g, cap, cur, h1, h2, h3, h4, h5, h6, h7⟩
 ·
  exact .inl ⟨rfl, List.length_eq_zero_iff.1 h0⟩
 ·
  exact .inr ⟨g, cap, cur, h1, h2, h3, h4, h5, by omega, h7⟩
theorem OwnM.row {e : TypeId} {B : Nat} {w : World} {v : Value} {l : List α} (h : OwnM L e B w v l) : ∃ p c, v = .slice p l.length c ∧ RowM L w p l ∧ (∀ a, p = some a → B ≤ a.block) ∧ l.length ≤ c ∧ (l = [] → c = 0 ∨ p ≠ none) ∧ v.ownBlock = p.map (·.block) ∧ c ≤ maxLen ∧ (p = none ∨ ∃ g, p = some ⟨g, 0, none⟩) := by
  rcases h with ⟨rfl, rfl⟩ | ⟨g, cap, cur, rfl, hB, hg, hnc, hcm, hcs, htake⟩
  · exact ⟨none, 0, rfl, RowM.nil w, fun a h => (by cases h), Nat.le_refl _, fun _ => .inl rfl, rfl, (by unfold maxLen; omega), .inl rfl⟩
  · refine ⟨_, cap, rfl, RowM.of_flat (fun _ => rfl) fun k v hk => ?_, fun a h => (by cases h; exact hB), hnc, fun _ => .inr (by simp), rfl, hcm, .inr ⟨g, rfl⟩⟩
    show w.cell? ((⟨g, 0, none⟩ : Addr).add k) = _
    rw [add_lit, Nat.zero_add, Lib.cell_of_heap hg k, ← Array.getElem?_toList]
    have h2 : (cur.toList.take (l.length * L.m))[k]? = (L.flat l)[k]? := by rw [htake]
    have hk2 : k < (L.flat l).length := by
      rcases Nat.lt_or_ge k (L.flat l).length with h | h
      · exact h
      · rw [List.getElem?_eq_none h] at hk; cases hk
    rw [L.flat_len] at hk2
    rw [List.getElem?_take, if_pos hk2] at h2
    rw [h2, hk]
theorem OwnM.same {e : TypeId} {B : Nat} {w w1 : World} {v : Value} {l : List α} (h : OwnM L e B w v l) (hb : ∀ g, v.ownBlock = some g → w1.heap[g]? = w.heap[g]?) : OwnM L e B w1 v l := by
 refine h.imp id fun ⟨g, cap, cur, h1, h2, h3, h4⟩ => ⟨g, cap, cur, h1, h2, ?_, h4⟩
 rw [hb g (by rw [h1]; rfl)]; exact h3
theorem OwnM.lt {e : TypeId} {B : Nat} {w : World} {v : Value} {l : List α} (h : OwnM L e B w v l) : ∀ g, v.ownBlock = some g → B ≤ g ∧ g < w.heap.size := by
 intro g hg
 rcases h with ⟨rfl, rfl⟩ | ⟨g', cap, cur, rfl, hB, h3, h4⟩
 ·
  cases hg
 ·
  cases hg
  exact ⟨hB, (Array.getElem?_eq_some_iff.1 h3).1⟩
theorem OwnM.base {e : TypeId} {B C : Nat} {w : World} {v : Value} {l : List α} (h : OwnM L e B w v l) (hC : ∀ g, v.ownBlock = some g → C ≤ g) : OwnM L e C w v l :=
 h.imp id fun ⟨g, cap, cur, h1, h2, h3⟩ => ⟨g, cap, cur, h1, hC g (by rw [h1]; rfl), h3⟩
theorem OwnM.drew {e : TypeId} {B : Nat} {w w1 : World} {v : Value} {l : List α} (h : OwnM L e B w v l) (d : Drew w w1) : OwnM L e B w1 v l := by obtain ⟨m, rfl⟩ := d; exact h
theorem OwnM.below {e : TypeId} {B : Nat} {w w1 : World} {v : Value} {l : List α} (h : OwnM L e B w v l) (hb : Below w.heap.size w w1) : OwnM L e B w1 v l := h.same fun g hg => hb.block g (h.lt g hg).2
theorem OwnM.new {e : TypeId} {B b : Nat} {w w1 : World} {v : Value} {l : List α} (h : OwnM L e B w v l) (eb : b = w.heap.size) (hu : Upd b w w1) : OwnM L e B w1 v l := h.same fun g hg => hu.other g (by have := (h.lt g hg).2; omega)
theorem OwnM.upd {e : TypeId} {B r : Nat} {w w1 : World} {v : Value} {l : List α} (h : OwnM L e B w v l) (hu : Upd r w w1) (hr : ∀ g, v.ownBlock = some g → g ≠ r) : OwnM L e B w1 v l := h.same fun g hg => hu.other g (hr g hg)
theorem OwnM.touch {e : TypeId} {B r : Nat} {w w1 : World} {v : Value} {l : List α} (h : OwnM L e B w v l) (hu : Upd r w w1) (hr : r < B) : OwnM L e B w1 v l := h.same fun g hg => hu.other g (by have := (h.lt g hg).1; omega)
theorem OwnM.one {e : TypeId} {B : Nat} {w : World} {v : Value} {l : List α} (h : OwnM L e B w v l) : v.oneCell' = true := by
 rcases h with ⟨rfl, -⟩ | ⟨g, cap, cur, rfl, -⟩ <;> rfl
/-- the first k alone -/
theorem OwnM.cut {e : TypeId} {B : Nat} {w : World} {p : Option Addr} {n c : Nat} {l : List α} (h : OwnM L e B w (.slice p n c) l) (k : Nat) (hk : k ≤ l.length) : OwnM L e B w (.slice p k k) (l.take k) := by
 rcases h with ⟨h1, rfl⟩ | ⟨g, cap, cur, h1, hB, hg, hnc, hcm, hcs, htake⟩
 ·
  cases h1
  obtain rfl : k = 0 := by simpa using hk
  exact .inl ⟨rfl, by simp⟩
 ·
  cases h1
  have hlen : (l.take k).length = k := by rw [List.length_take]; omega
  refine .inr ⟨g, k, cur, by rw [hlen], hB, hg, by rw [hlen]; exact Nat.le_refl _, by omega, Nat.le_trans (Nat.mul_le_mul_right _ oO) hcs, ?_⟩
  rw [hlen, ← L.flat_take, ← htake, List.take_take, Nat.min_eq_left (Nat.mul_le_mul_right _ hk)]
end
/-- a stretch of what may have turned: only these blocks of the old ones -/
structure Keep (S : List Nat) (w w1 : World) : Prop where
 os : w1.os = w.os
 tape : w1.tape = w.tape
 output : w1.output = w.output
 size : w.heap.size ≤ w1.heap.size
 block : ∀ k, k < w.heap.size → k ∉ S → w1.heap[k]? = w.heap[k]?
theorem Keep.refl (S : List Nat) (w : World) : Keep S w w := ⟨rfl, rfl, rfl, Nat.le_refl _, fun _ _ _ => rfl⟩
theorem Keep.below {S : List Nat} {w w1 : World} (h : Keep S w w1) {B : Nat} (hB : B ≤ w.heap.size) (hS : ∀ k ∈ S, B ≤ k) : Below B w w1 :=
 ⟨h.os, h.tape, h.output, h.size, fun k hk => h.block k oO fun hm => by have := hS k hm; omega⟩
/-- .. from an older world on -/
structure KeepB (B : Nat) (S : List Nat) (w w1 : World) : Prop where
 os : w1.os = w.os
 tape : w1.tape = w.tape
 output : w1.output = w.output
 size : w.heap.size ≤ w1.heap.size
 block : ∀ k, k < B → k ∉ S → w1.heap[k]? = w.heap[k]?
theorem KeepB.trans {B : Nat} {S : List Nat} {a b c : World} (h : KeepB B S a b) (k : KeepB B S b c) : KeepB B S a c :=
 ⟨k.os.trans h.os, k.tape.trans h.tape, k.output.trans h.output, Nat.le_trans h.size k.size, fun i hi hr => (k.block i hi hr).trans (h.block i hi hr)⟩
theorem KeepB.mono {B B' : Nat} {S : List Nat} {a b : World} (h : KeepB B' S a b) (hB : B ≤ B') : KeepB B S a b := ⟨h.os, h.tape, h.output, h.size, fun i hi hS => h.block i oO hS⟩
theorem Blk.keepB {B c : Nat} {S : List Nat} {w w1 : World} {cs : Array Value} {t : TypeId} (h : Blk w c cs t) (hT : KeepB B S w w1) (hc : c < B) (hS : c ∉ S) : Blk w1 c cs t := (hT.block c hc hS).trans h
theorem RowM.keepB {L : Lay α} {B : Nat} {S : List Nat} {w w1 : World} {p : Option Addr} {l : List α} (h : RowM L w p l) (hT : KeepB B S w w1) (hp : 0 < l.length → (pA p).block < B ∧ (pA p).block ∉ S) : RowM L w1 p l := h.same fun h0 => hT.block _ (hp h0).1 (hp h0).2
theorem OwnM.keepB {L : Lay α} {e : TypeId} {B C : Nat} {S : List Nat} {w w1 : World} {v : Value} {l : List α} (h : OwnM L e C w v l) (hT : KeepB B S w w1) (hp : ∀ g, v.ownBlock = some g → g < B ∧ g ∉ S) : OwnM L e C w1 v l := h.same fun g hg => hT.block g (hp g hg).1 (hp g hg).2
theorem KeepB.of_below {B B' : Nat} {S : List Nat} {a b : World} (h : Below B' a b) (hB : B ≤ B') : KeepB B S a b := ⟨h.os, h.tape, h.output, h.size, fun i hi _ => h.block i oO⟩
theorem KeepB.of_drew {B : Nat} {S : List Nat} {a b : World} (h : Drew a b) : KeepB B S a b := KeepB.of_below (h.below (Below.refl B _)) (Nat.le_refl _)
theorem KeepB.of_new {B c : Nat} {S : List Nat} {a b : World} (h : Upd c a b) (hc : B ≤ c) : KeepB B S a b := ⟨h.os, h.tape, h.output, h.size, fun i hi _ => h.other i oO⟩
theorem KeepB.of_mem {B c : Nat} {S : List Nat} {a b : World} (h : Upd c a b) (hc : c ∈ S) : KeepB B S a b := ⟨h.os, h.tape, h.output, h.size, fun i _ hS => h.other i (fun e => hS (e ▸ hc))⟩
theorem KeepB.of_grown {B : Nat} {S : List Nat} {a b : World} {row : Option Nat} (h : a.grownBy b row) (hr : ∀ g, row = some g → g ∈ S ∨ B ≤ g) (hB : B ≤ a.heap.size) : KeepB B S a b :=
 ⟨h.os, h.tape, h.output, h.size, fun i hi hS => h.block i oO fun e => by rcases hr i e.symm with h | h <;> first | exact hS h | omega⟩
theorem KeepB.below {B C : Nat} {S : List Nat} {w w1 : World} (h : KeepB B S w w1) (hB : C ≤ B) (hS : ∀ k ∈ S, C ≤ k) : Below C w w1 :=
 ⟨h.os, h.tape, h.output, h.size, fun k hk => h.block k oO fun hm => by have := hS k hm; omega⟩
theorem KeepB.refl (B : Nat) (S : List Nat) (w : World) : KeepB B S w w := ⟨rfl, rfl, rfl, Nat.le_refl _, fun _ _ _ => rfl⟩
section
variable {P : Program} {n : Sh} {f : Fr} {L : Lay α}
/-- elements put behind a row of the call's own -/
theorem WL.appMb {ops : Array Oper} {Q : Exit → Fr → World → Prop} {w : World} {rest : List Oper} {d ty : Nat} {pos : String} {aft : Array Edge} {s x : Operand} {t e : TypeId} {B : Nat} {z v : Value} {xs l : List α} {p : Option Addr} {c by' : Nat}
  (ht : P.underlying t = some (.slice e)) (hi : (P.info? e).map (fun i => (i.zero, i.size, i.bytes)) = some (some z, L.m, by')) (hby2 : Nat.ble by' 1000 = true) (hzs : z.cells.size = L.m)
  (hs : evo f s = some v) (hown : OwnM L e B w v xs) (hx : evo f x = some (.slice p l.length c)) (hb : RowM L w p l)
  (hn : xs.length + l.length ≤ 4611686018427387904) (hbt : (xs.length + l.length) * by' ≤ 140737488355328) (hB : B ≤ w.heap.size) (hd : Nat.blt d n.n = true) (hc : l = [] → c = 0 ∨ p ≠ none)
  (k : ∀ v' w', OwnM L e B w' v' (xs ++ l) → Below B w w' → w.grownBy w' v.ownBlock → (∀ g, v'.ownBlock = some g → v.ownBlock = some g ∨ w.heap.size ≤ g) → WL P n ops Q rest ((d, v') :: f) w') :
  WL P n ops Q (⟨some d, .call ⟨.builtin .append, #[s, x], #[t, t]⟩, ty, pos, aft, none⟩ :: rest) f w := by
 cases hh : P.info? e with
 | none => rw [hh] at hi; cases hi
 | some i =>
  rw [hh] at hi
  simp only [Option.map_some, Option.some.injEq, Prod.mk.injEq] at hi
  obtain ⟨hz, hsize, hby⟩ := hi
  have hby2' : by' ≤ 1000 := by simpa using hby2
  have hlx := L.flat_len xs
  have hll := L.flat_len l
  have e1 : (xs ++ l).length = xs.length + l.length := by simp
  have fin : ∀ (w' : World) (g cap : Nat) (cur : Array Value), B ≤ g → w'.heap[g]? = some (.cells cur e (0, 0)) → xs.length + l.length ≤ cap → cap ≤ maxLen → cap * L.m ≤ cur.size → cur.toList.take ((xs.length + l.length) * L.m) = L.flat xs ++ L.flat l →
    OwnM L e B w' (.slice (some ⟨g, 0, none⟩) (xs.length + l.length) cap) (xs ++ l) := fun w' g cap cur h1 h2 h3 h4 h5 h6 =>
   .inr ⟨g, cap, cur, by rw [e1], h1, h2, by rw [e1]; exact h3, h4, h5, by rw [e1, h6, L.flat_append]⟩
  have run : ∀ (v' : Value) (w' : World), (Builtin.append_ #[t, t] ty #[v, .slice p l.length c]).run P w = .ok v' w' → OwnM L e B w' v' (xs ++ l) → w.grownBy w' v.ownBlock → (∀ g, v'.ownBlock = some g → v.ownBlock = some g ∨ w.heap.size ≤ g) →
    WL P n ops Q (⟨some d, .call ⟨.builtin .append, #[s, x], #[t, t]⟩, ty, pos, aft, none⟩ :: rest) f w := fun v' w' h2 h3 h4 h5 => by
   refine WL.run hd (w' := w') (v := v') (fun ρ hρ => ?_) (k v' w' h3 ((Below.refl _ _).grown h4 hB fun k hk => (hown.lt k hk).1) h4 h5)
   unfold execOp
   simp only [resolve, invoke, builtin, Sem.run_bind, Sem.run_pure, Result.andThen_ok, List.map_toArray, List.map_cons, List.map_nil, hρ _ _ hs, hρ _ _ hx, h2]
  cases hp : p with
  | none =>
   have hl : l = [] := by
    cases l with
    | nil => rfl
    | cons a r => have := hb.isp (by simp); rw [hp] at this; cases this
   have hc0 : c = 0 := (hc hl).resolve_right (fun h => h hp)
   subst hp; subst hl; subst hc0
   refine run v w ?_ (by rw [List.append_nil]; exact hown) ⟨rfl, rfl, rfl, Nat.le_refl _, fun _ _ _ => rfl⟩ fun g hg => .inl hg
   rcases hown with ⟨rfl, rfl⟩ | ⟨g, cap, cur, rfl, -, -, hnc, -⟩
   ·
    simp [Builtin.append_, run_underlying ht, sizeOf, typeInfo, hh, Builtin.lenOf, Builtin.firstCells]
   ·
    simp [Builtin.append_, run_underlying ht, sizeOf, typeInfo, hh, Builtin.lenOf, Builtin.firstCells, hnc, storeCells]
  | some a =>
   subst hp
   have hbytes : (xs.length + l.length) * i.bytes ≤ 140737488355328 := by rw [hby]; exact hbt
   rcases hown with ⟨rfl, rfl⟩ | ⟨g, cap, cur, rfl, hBg, hg, hnc, hcm, hcs, htk⟩
   ·
    obtain ⟨v', w', h2, h3, h4, -⟩ := run_append_own (P := P) (w := w) w.heap.size t ty e i z L.m by' ht hh hz hsize hby hzs L.pos (.slice none 0 0) 0 [] (World.ownsRow_nil w w.heap.size e L.m) a l.length c (L.flat l) hll
     (fun j y hj => hb.flat j y hj) (L.flat_one l) (by unfold maxLen; omega) (by simp only [List.length_nil] at hbytes; rw [hby] at hbytes; exact hbytes) (Nat.le_refl _)
    have h3' : OwnM L e w.heap.size w' v' ([] ++ l) := OwnM.of (by rw [List.nil_append]; simpa using h3)
    exact run v' w' h2 (h3'.base fun g hg => Nat.le_trans hB (h3'.lt g hg).1) h4 fun g hg => .inr (h3'.lt g hg).1
   ·
    by_cases hroom : xs.length + l.length ≤ cap
    ·
     have hfit : xs.length * i.size + (L.flat l).length ≤ cur.size := by
      rw [hsize, hll, ← Nat.add_mul]; exact Nat.le_trans (Nat.mul_le_mul_right _ hroom) hcs
     have h2 := run_append_room (P := P) w t ty e i ht hh g xs.length cap cur hg a l.length c (L.flat l) (by rw [hsize]; exact hll) (fun j y hj => hb.flat j y hj) (L.flat_one l) hroom hfit
     refine run _ _ h2 (fin _ g cap _ hBg (setRow_heap w g cur _ e _ hg) hroom hcm ?_ ?_) ⟨rfl, rfl, rfl, by simp, fun k _ hk => setRow_other w g k _ (fun e => hk (by simp [Value.ownBlock, e]))⟩ fun g hg => .inl hg
     ·
      simp only [List.size_toArray, List.length_append, List.length_take, List.length_drop, Array.length_toList]
      omega
     ·
      show (cur.toList.take (xs.length * i.size) ++ L.flat l ++ _).take _ = _
      rw [hsize, htk, List.take_append_of_le_length (by rw [List.length_append, hlx, hll, Nat.add_mul]; omega), List.take_of_length_le (by rw [List.length_append, hlx, hll, Nat.add_mul]; omega)]
    ·
     have holds : ∀ j u, (L.flat xs)[j]? = some u → w.cell? ((⟨g, 0, none⟩ : Addr).add j) = some u := fun j u hj => by
      have hj2 : j < (L.flat xs).length := by
       rcases Nat.lt_or_ge j (L.flat xs).length with h | h
       ·
        exact h
       ·
        rw [List.getElem?_eq_none h] at hj; cases hj
      rw [add_lit, Nat.zero_add, Lib.cell_of_heap hg j, ← Array.getElem?_toList]
      have h2 : (cur.toList.take (xs.length * L.m))[j]? = (L.flat xs)[j]? := by rw [htk]
      rw [List.getElem?_take, if_pos (by rw [← hlx]; exact hj2)] at h2
      rw [h2, hj]
     have hr2 := run_append_grow (P := P) w t ty e i z ht hh hz ⟨g, 0, none⟩ xs.length cap (L.flat xs) (by rw [hsize]; exact hlx) holds a l.length c (L.flat l) (by rw [hsize]; exact hll) (fun j y hj => hb.flat j y hj) oO oO (growslice_fits oO hbytes)
     have hge := grownCap_ge w (xs.length + l.length) cap e
     have hcm2 : grownCap w (xs.length + l.length) cap e ≤ maxLen := grownCap_le_maxLen w (xs.length + l.length) cap e (by unfold maxLen; omega)
     refine run _ _ hr2 (fin _ w.heap.size _ _ hB (heap_alloc_new w.drew _) hge hcm2 ?_ ?_) ⟨rfl, rfl, rfl, by simp, fun k hk _ => (Upd.alloc w.drew _).other k (by show k ≠ w.heap.size; omega)⟩ fun g hg => .inr (by simp only [Value.ownBlock, Option.some.injEq] at hg; omega)
     ·
      simp only [Array.size_append, List.size_toArray, size_zeroCells, hzs, hlx, hll, ← Nat.add_mul]
      exact Nat.le_of_eq (congrArg (· * L.m) oO)
     ·
      simp only [Array.toList_append, List.append_assoc]
      rw [← List.append_assoc, List.take_append_of_le_length (by rw [List.length_append, hlx, hll, Nat.add_mul]; omega), List.take_of_length_le (by rw [List.length_append, hlx, hll, Nat.add_mul]; omega)]
theorem WL.appM {ops : Array Oper} {Q : Exit → Fr → World → Prop} {w : World} {rest : List Oper} {d ty : Nat} {pos : String} {aft : Array Edge} {s x : Operand} {t e : TypeId} {B : Nat} {z v : Value} {xs l : List α} {p : Option Addr} {c by' : Nat}
  (ht : P.underlying t = some (.slice e)) (hi : (P.info? e).map (fun i => (i.zero, i.size, i.bytes)) = some (some z, L.m, by')) (hby2 : Nat.ble by' 1000 = true) (hzs : z.cells.size = L.m)
  (hs : evo f s = some v) (hown : OwnM L e B w v xs) (hx : evo f x = some (.slice p l.length c)) (hb : RowM L w p l)
  (hn : xs.length + l.length ≤ 10000000) (hB : B ≤ w.heap.size) (hd : Nat.blt d n.n = true) (hc : l = [] → c = 0 ∨ p ≠ none)
  (k : ∀ v' w', OwnM L e B w' v' (xs ++ l) → Below B w w' → w.grownBy w' v.ownBlock → (∀ g, v'.ownBlock = some g → v.ownBlock = some g ∨ w.heap.size ≤ g) → WL P n ops Q rest ((d, v') :: f) w') :
  WL P n ops Q (⟨some d, .call ⟨.builtin .append, #[s, x], #[t, t]⟩, ty, pos, aft, none⟩ :: rest) f w := by
 refine WL.appMb ht hi hby2 hzs hs hown hx hb oO ?_ hB hd hc k
 have h1 : by' ≤ 1000 := by simpa using hby2
 have : (xs.length + l.length) * by' ≤ (xs.length + l.length) * 1000 := Nat.mul_le_mul_left _ h1
 omega
/-- a struct of such a row is read -/
theorem Rd.ldS {t : TypeId} {x : Operand} {p : Option Addr} {l : List α} {w : World} {dd : TypeDesc} (hu : P.underlying t = some dd) (hdd : dd.isRow = true) (hi : (P.info? t).map (·.size) = some L.m) (hb : RowM L w p l) (k : Nat) (hk : k < l.length)
  (hx : evo f x = some (.pointer (some ((pA p).add (k * L.m))))) : Rd P (.load t x) f w (.agg (L.V l[k]).toArray) := fun ρ hρ d ty pos aft g => by
 have hl : (loadCells ((pA p).add (k * L.m)) (L.V l[k]).length).run P w = .ok (L.V l[k]).toArray w :=
  run_loadCells_list (P := P) w ((pA p).add (k * L.m)) (L.V l[k]) (fun j v hv => by
   have hj : j < L.m := by
    rcases Nat.lt_or_ge j L.m with h | h
    ·
     exact h
    ·
     rw [List.getElem?_eq_none (by rw [L.len]; exact h)] at hv; cases hv
   rw [add_add, hb.cells k hk j hj, hv])
 cases hq : P.info? t with
 | none => simp [hq] at hi
 | some i =>
  have hs : i.size = (L.V l[k]).length := by rw [L.len]; simpa [hq] using hi
  have hagg : (isAgg t).run P w = .ok true w := by
   unfold isAgg
   rw [Sem.run_bind, run_underlying hu w]
   cases dd <;> simp_all
  unfold execOp
  simp [hρ _ _ hx, Instr.loadAt, Instr.sureAddr, loadVar, Sem.run_bind, hagg, sizeOf, typeInfo, hq, hs, hl]
/-- a struct of such a row is written -/
theorem list_set_flat (L : Lay α) (l : List α) (k : Nat) (hk : k < l.length) (x : α) : (L.flat l).take (k * L.m) ++ L.V x ++ (L.flat l).drop (k * L.m + L.m) = L.flat (l.set k x) := by
 rw [L.flat_take, show k * L.m + L.m = (k + 1) * L.m by rw [Nat.succ_mul], L.flat_drop, List.set_eq_take_append_cons_drop, if_pos hk]
 simp [Lay.flat]
end
end
section
open Go.RowKit Go.WideShapes Go.ChangeShapes
/-- results, respelt -/
theorem rvE {a b : Value} (h : a = b) : Ending.returned a = .returned b := by rw [h]
theorem rbE {a b : Bool} (h : a = b) : Ending.returned (.bool a) = .returned (.bool b) := by rw [h]
/-- two results, the first of which lies in memory -/
theorem W.retc2 {P : Program} {fn : Func} {R : Ending → World → Prop} {f : Fr} {w : World} {t u : Tmp} {ty : TypeId} {b : Addr} {v x : Value} (hr : fn.results = #[.cell t ty, .tmp u])
  (ht : look f t = some (.pointer (some b))) (hv : (loadVar ty b).run P w = .ok v w) (hx : look f u = some x) (h : R (.returned (.tuple #[v, x])) w) : Post P fn R .ret f w := by
 unfold Post
 exact ⟨_, fun tmps hh => by
  have e1 := hh _ _ ht; have e2 := hh _ _ hx
  simp only [Array.getD_eq_getD_getElem?] at e1 e2
  simp [results, hr, e1, e2, asAddr, hv], h⟩
section
variable {P : Program} {n : Sh} {f : Fr}
theorem Pure.eqSN {x : Operand} {tx ty e : TypeId} {p : Option Addr} {m c : Nat} (hu : P.underlying tx = some (.slice e)) (hx : evo f x = some (.slice p m c)) : Pure P (.binOp .eql tx x (.const (.slice none 0 0)) ty) f (.bool p.isNone) := fun ρ hρ d ty' pos aft g w => by
 have h4 : ρ (.const (.slice none 0 0)) = .slice none 0 0 := hρ _ _ rfl
 simp [execOp, hρ _ _ hx, h4, eqGuard, Lib.run_eql_slice_nil w tx e p m c 0 0 hu]
/-- the address of an element of several cells -/
theorem Pure.ixm {tx e : TypeId} {x y : Operand} {p : Option Addr} {l c sz : Nat} {i : Int} {k : IntKind} (hu : P.underlying tx = some (.slice e)) (hs : ∀ w, (sizeOf e).run P w = .ok sz w) (hx : evo f x = some (.slice p l c))
  (hi : evo f y = some (.int k i)) (hp : p = some (pA p)) (j : Nat) (e' : i = j) (hj : j < l) : Pure P (.indexAddr tx x y) f (.pointer (some ((pA p).add (j * sz)))) :=
 Pure.ixa hu hs (by rw [hx]; rw [← hp]) hi j e' hj
theorem RowM.field {α : Type} {L : Lay α} {w : World} {p : Option Addr} {l : List α} (h : RowM L w p l) (k : Nat) (hk : k < l.length) (i : Nat) (hi : i < L.m) : w.cell? (((pA p).add (k * L.m)).add i) = (L.V l[k])[i]? := by
 rw [add_add]; exact h.cells k hk i hi
theorem run_equalIn_ptr_nil (w : World) (d : Nat) (t e : TypeId) (a : Option Addr) (h : P.underlying t = some (.pointer e)) :
  (Op.equalIn (d + 1) t (.pointer a) (.pointer none)).run P w = .ok a.isNone w := by
 cases a <;> simp [Op.equalIn, run_underlying h]
theorem Pure.eqP {x : Operand} {tx ty e : TypeId} {a : Option Addr} (hu : P.underlying tx = some (.pointer e)) (hx : evo f x = some (.pointer a)) : Pure P (.binOp .eql tx x (.const (.pointer none)) ty) f (.bool a.isNone) := fun ρ hρ d ty' pos aft g w => by
 have h4 : ρ (.const (.pointer none)) = .pointer none := hρ _ _ rfl
 have h5 : (binOp .eql tx (.pointer a) (.pointer none)).run P w = .ok (.bool a.isNone) w := by
  simp only [binOp]
  simp [Op.equal, Op.maxDepth, run_equalIn_ptr_nil w 9999 tx e a hu]
 simp [execOp, hρ _ _ hx, h4, eqGuard, h5]
end
end
section
def parseP (l : List UInt8) : Int × Bool := if 64 < l.length then (0, false) else parseL l
theorem dec_Parse (l : List UInt8) (w : World) :
  Calls Tryz.prog 106 #[.string (bs l)] w fun e w' => e = .returned (.tuple #[.int .i64 (parseP l).1, .bool (parseP l).2]) ∧ Below w.heap.size w w' := by
 unfold parseP
 split
 ·
  exact (dec_Parse_long l w aS).mono fun e w' h => ⟨h.1, h.2 ▸ Below.refl _ _⟩
 ·
  exact dec_Parse_short l w oO
end
section
/-- an object without parts, as cells -/
def pobj (k n : Int) (s : List UInt8) : List Value := [.int .i64 k, .int .i64 n, .string (bs s), .slice none 0 0, .slice none 0 0, .slice none 0 0]
def pmDig (c : UInt8) : Bool := isDig c || c == 43 || c == 45
theorem trim_pm (l : List UInt8) : (decide (Lib.trimS l [43, 45, 48, 49, 50, 51, 52, 53, 54, 55, 56, 57] = [])) = l.all pmDig := by
 have : (fun x => ([43, 45, 48, 49, 50, 51, 52, 53, 54, 55, 56, 57] : List UInt8).contains x) = pmDig := by
  funext x
  have key : ∀ n : Fin 256, ([43, 45, 48, 49, 50, 51, 52, 53, 54, 55, 56, 57] : List UInt8).contains (UInt8.ofNat n.1) = pmDig (UInt8.ofNat n.1) := by decide +kernel
  have := key ⟨x.toNat, UInt8.toNat_lt x⟩
  simpa using this
 rw [Bool.eq_iff_iff, decide_eq_true_eq, trimS_nil_iff, this]
theorem idx_dot (l : List UInt8) : decide (0 ≤ Lib.indexByte l 46) = l.contains 46 := by
 exact (Lib.contains_iff_indexByte l 46).symm
/-- a word as a number: kind, number, is it one -/
def numR (s : List UInt8) : Int × Int × Bool :=
 if s.contains 46 then (3, (parseP s).1, (parseP s).2)
 else if (tokenL s).ok && decide ((tokenL s).e = 0) && decide ((tokenL s).kind = 1) && s.all pmDig then (2, (tokenL s).n, true) else (0, 0, false)
theorem plex_number (s : List UInt8) (w : World) (hl : s.length ≤ 100000000) :
  Calls Tryz.prog 98 #[.string (bs s)] w fun e w' => e = .returned (.tuple #[.agg (pobj (numR s).1 (numR s).2.1 []).toArray, .bool (numR s).2.2]) ∧ Below w.heap.size w w' := by
 obtain ⟨T, hT⟩ : ∃ T, T = tokenL s := ⟨_, rfl⟩
 have hTc : ∀ w, Calls Tryz.prog 107 #[.string (bs s)] w fun e w' => e = .returned T.val ∧ Below w.heap.size w w' := fun w => by rw [hT]; exact dec_Token _ w
 obtain ⟨D, hD⟩ : ∃ D, D = s.contains 46 := ⟨_, rfl⟩
 have hN : numR s = if D then (3, (parseP s).1, (parseP s).2) else if T.ok && decide (T.e = 0) && decide (T.kind = 1) && s.all pmDig then (2, T.n, true) else (0, 0, false) := by rw [hT, hD]; rfl
 refine W.enter func98 rfl ntmps98 (Nat.le_of_ble_eq_true rfl) ?_
 have hB0 := Below.refl (w.heap.size) w
 refine W.sr <| WL.alloc zeroValue28 rfl (fun b1 wb1 eb1 hkb1 hub1 hsb1 => ?_)
 have hB2 := Upd.below hB0 (by rw [eb1]; exact hB0.size) hub1
 have hgeb1 : w.heap.size ≤ b1 := by rw [eb1]; exact hB0.size
 refine WL.z rfl rfl ?_
 refine W.seq <| W.sr <| WL.m rfl rfl <| WL.c1 hb48 rfl rfl ((lib_ib s 46 _)) (fun w3 hw3 => ?_)
 obtain rfl := hw3
 refine WL.p (.bis (D) (.geq rfl rfl) (by rw [hD]; exact idx_dot s)) rfl <| WL.nil <| ?_
 refine W.cond rfl (fun h4 => ?_) (fun h4 => ?_)
 refine W.sr <| WL.m rfl rfl <| WL.c1 hb106 rfl rfl ((dec_Parse s _)) (fun w5 hw5 => ?_)
 have hk6 := hkb1.below hw5 hkb1.lt
 have hB7 := btr hB2 hw5
 refine WL.m rfl rfl <| WL.p (.ext rfl rfl) rfl <| WL.p (.ext rfl rfl) rfl <| WL.a rfl rfl <| WL.z rfl rfl ?_
 refine W.sr <| WL.m rfl rfl <| ?_
 refine WL.p (.buildL (ps := _) blt28 rfl rfl rfl pS) rfl ?_
 refine WL.m rfl rfl <| WL.stL rfl rfl hk6 isz28 rfl rfl (fun w8 hkw8 huw8 hsw8 => ?_)
 have hB9 := Upd.below hB7 oO huw8
 refine WL.z rfl rfl ?_
 refine W.ret (W.retc2 rfl rfl (ldRow hkw8 underlying28 rfl isz28) rfl ?_)
 exact ⟨ret_val (by rw [hN, if_pos aS]; rfl), hB9⟩
 refine W.skip <| W.sr <| WL.m rfl rfl <| WL.c1 hb107 rfl rfl ((hTc _)) (fun w10 hw10 => ?_)
 have hk11 := hkb1.below hw10 hkb1.lt
 have hB12 := btr hB2 hw10
 refine WL.m rfl rfl <| WL.p (.ext rfl rfl) rfl <| WL.p (.ext rfl rfl) rfl <| WL.p (.ext rfl rfl) rfl <| WL.alloc zeroValue120 rfl (fun b13 wb13 eb13 hkb13 hub13 hsb13 => ?_)
 have hl15 : b1 < b13 := by rw [eb13]; exact hk11.lt
 have hk14 := hk11.upd hub13 (Nat.ne_of_lt hl15)
 have hB16 := Upd.below hB12 (by rw [eb13]; exact hB12.size) hub13
 have hgeb13 : w.heap.size ≤ b13 := by rw [eb13]; exact hB12.size
 refine WL.stL rfl rfl hkb13 isz120 rfl rfl (fun w17 hkw17 huw17 hsw17 => ?_)
 have hk18 := hk14.up huw17
 have hB19 := Upd.below hB16 oO huw17
 refine WL.a rfl rfl <| WL.z rfl rfl ?_
 refine W.seq <| W.sr <| WL.m rfl rfl <| WL.p (.not rfl) rfl <| WL.m rfl rfl <| WL.gd rfl rfl rfl (fun g20 => ?_) (fun g20 => ?_)
 have g20' := (nF g20)
 refine WL.m rfl rfl <| WL.gy rfl rfl rfl (by rw [(nF g20)] <;> rfl) <| WL.p (.neq rfl rfl) rfl <| WL.p (.pkF rfl (by rw [(nF g20)] <;> rfl) rfl) rfl <| WL.m rfl rfl <| WL.gd rfl rfl rfl (fun g21 => ?_) (fun g21 => ?_)
 have g21' := ndF g21
 refine WL.p (.fa underlying120 rfl sizeOf3 dD rfl) rfl <| WL.gy rfl rfl rfl g21 <| WL.r (Rd.ld (isAgg3 _) rfl hkw17 rfl) rfl <| WL.gy rfl rfl rfl g21 <| WL.p (.neq rfl rfl) rfl <| WL.p (.pkF rfl g21 rfl) rfl <| WL.m rfl rfl <| WL.gd rfl rfl rfl (fun g22 => ?_) (fun g22 => ?_)
 have g22' := ndF g22
 refine WL.m rfl rfl <| WL.gy rfl rfl rfl g22 <| WL.c1 hb67 rfl rfl ((lib_trim s [43, 45, 48, 49, 50, 51, 52, 53, 54, 55, 56, 57] _ hl dD dD)) (fun w23 hw23 => ?_)
 have hk24 := hk18.below hw23 hk18.lt
 have hk25 := hkw17.below hw23 hkw17.lt
 have hB26 := btr hB19 hw23
 refine WL.gy rfl rfl rfl g22 <| WL.p (.bis (!s.all pmDig) (.nes rfl rfl) (by rw [trim_pm])) rfl <| WL.p (.pkF rfl g22 rfl) rfl <| WL.nil <| ?_
 refine W.cond rfl (fun h27 => ?_) (fun h27 => ?_)
 refine W.sr <| WL.p (.buildL (ps := _) blt28 rfl rfl rfl pZ) rfl ?_
 refine WL.stL rfl rfl hk24 isz28 rfl rfl (fun w28 hkw28 huw28 hsw28 => ?_)
 have hB30 := Upd.below hB26 oO huw28
 refine WL.z rfl rfl ?_
 refine W.ret (W.retc2 rfl rfl (ldRow hkw28 underlying28 rfl isz28) rfl ?_)
 exact ⟨ret_val (by rw [hN, if_neg (bF aS), if_neg (by intro hx; simp only [Bool.and_eq_true, decide_eq_true_eq] at hx; obtain ⟨⟨⟨hx1, hx2⟩, hx3⟩, hx4⟩ := hx; clear hN hT hTc; simp_all)]; rfl), hB30⟩
 refine W.skip <| W.sr <| WL.p (.fa underlying120 rfl sizeOf3 dD rfl) rfl <| WL.r (Rd.ld (isAgg3 _) rfl hk25 rfl) rfl <| ?_
 refine WL.p (.buildL (ps := _) blt28 rfl rfl rfl pS) rfl ?_
 refine WL.stL rfl rfl hk24 isz28 rfl rfl (fun w31 hkw31 huw31 hsw31 => ?_)
 have hB33 := Upd.below hB26 oO huw31
 refine WL.z rfl rfl ?_
 refine W.ret (W.retc2 rfl rfl (ldRow hkw31 underlying28 rfl isz28) rfl ?_)
 exact ⟨ret_val (by rw [hN, if_neg (bF aS), if_pos (by simp only [Bool.and_eq_true, decide_eq_true_eq]; clear hN hT hTc; simp_all)]; rfl), hB33⟩
 have g22' := ndT g22
 refine WL.gn rfl rfl rfl g22 <| WL.gn rfl rfl rfl g22 <| WL.p (.pkT rfl g22 rfl) rfl <| WL.nil <| ?_
 refine W.condT rfl rfl ?_
 refine W.sr <| WL.p (.buildL (ps := _) blt28 rfl rfl rfl pZ) rfl ?_
 refine WL.stL rfl rfl hk18 isz28 rfl rfl (fun w34 hkw34 huw34 hsw34 => ?_)
 have hB36 := Upd.below hB19 oO huw34
 refine WL.z rfl rfl ?_
 refine W.ret (W.retc2 rfl rfl (ldRow hkw34 underlying28 rfl isz28) rfl ?_)
 exact ⟨ret_val (by rw [hN, if_neg (bF aS), if_neg (by intro hx; simp only [Bool.and_eq_true, decide_eq_true_eq] at hx; obtain ⟨⟨⟨hx1, hx2⟩, hx3⟩, hx4⟩ := hx; clear hN hT hTc; simp_all)]; rfl), hB36⟩
 have g21' := ndT g21
 refine WL.gn rfl rfl rfl g21 <| WL.gn rfl rfl rfl g21 <| WL.p (.pkT rfl g21 rfl) rfl <| WL.m rfl rfl <| WL.gn rfl rfl rfl rfl <| WL.gn rfl rfl rfl rfl <| WL.gn rfl rfl rfl rfl <| WL.p (.pkT rfl rfl rfl) rfl <| WL.nil <| ?_
 refine W.condT rfl rfl ?_
 refine W.sr <| WL.p (.buildL (ps := _) blt28 rfl rfl rfl pZ) rfl ?_
 refine WL.stL rfl rfl hk18 isz28 rfl rfl (fun w37 hkw37 huw37 hsw37 => ?_)
 have hB39 := Upd.below hB19 oO huw37
 refine WL.z rfl rfl ?_
 refine W.ret (W.retc2 rfl rfl (ldRow hkw37 underlying28 rfl isz28) rfl ?_)
 exact ⟨ret_val (by rw [hN, if_neg (bF aS), if_neg (by intro hx; simp only [Bool.and_eq_true, decide_eq_true_eq] at hx; obtain ⟨⟨⟨hx1, hx2⟩, hx3⟩, hx4⟩ := hx; clear hN hT hTc; simp_all)]; rfl), hB39⟩
 have g20' := (nT g20)
 refine WL.gn rfl rfl rfl (by rw [(nT g20)] <;> rfl) <| WL.p (.pkT rfl (by rw [(nT g20)] <;> rfl) rfl) rfl <| WL.m rfl rfl <| WL.gn rfl rfl rfl rfl <| WL.gn rfl rfl rfl rfl <| WL.gn rfl rfl rfl rfl <| WL.p (.pkT rfl rfl rfl) rfl <| WL.m rfl rfl <| WL.gn rfl rfl rfl rfl <| WL.gn rfl rfl rfl rfl <| WL.gn rfl rfl rfl rfl <| WL.p (.pkT rfl rfl rfl) rfl <| WL.nil <| ?_
 refine W.condT rfl rfl ?_
 refine W.sr <| WL.p (.buildL (ps := _) blt28 rfl rfl rfl pZ) rfl ?_
 refine WL.stL rfl rfl hk18 isz28 rfl rfl (fun w40 hkw40 huw40 hsw40 => ?_)
 have hB42 := Upd.below hB19 oO huw40
 refine WL.z rfl rfl ?_
 refine W.ret (W.retc2 rfl rfl (ldRow hkw40 underlying28 rfl isz28) rfl ?_)
 exact ⟨ret_val (by rw [hN, if_neg (bF aS), if_neg (by intro hx; simp only [Bool.and_eq_true, decide_eq_true_eq] at hx; obtain ⟨⟨⟨hx1, hx2⟩, hx3⟩, hx4⟩ := hx; clear hN hT hTc; simp_all)]; rfl), hB42⟩
/-- a reader in memory: block r, the bytes l, at place t -/
def PRd (w : World) (r : Nat) (p : Option Addr) (l : List UInt8) (c t : Nat) (refs : Bool) : Prop := Blk w r #[.slice p l.length c, .int .i64 (t : Int), .bool refs] 98 ∧ BytesAt w p l
theorem skip_q (p : Option Addr) (l : List UInt8) (c a : Nat) (w : World) (hb : BytesAt w p l) (ha : a ≤ l.length) (hl : l.length ≤ 100000000) (d : Nat) (hd : d = skipAt false l a) (m : Nat) :
  Calls Tryz.prog 34 #[.slice p l.length c, .int .i64 (a : Int)] (w.drewN m) fun e w' => e = .returned (.int .i64 (d : Int)) ∧ ∃ k, w' = w.drewN k :=
 (plex_Skip p l c a (w.drewN m) (hb.drewN m) hl).mono fun e w' h => ⟨by rw [h.1, insA_nat l a ha, hd], m, h.2.symm⟩
theorem word_q (p : Option Addr) (l : List UInt8) (c a : Nat) (w : World) (hb : BytesAt w p l) (hc : l.length ≤ c) (ha : a ≤ l.length) (hl : l.length ≤ 100000000) (m : Nat) :
  Calls Tryz.prog 33 #[.slice p l.length c, .int .i64 (a : Int)] (w.drewN m) fun e w' => e = .returned (.tuple #[.string (bs (wordL l a)), .int .i64 (wordAt l a : Int)]) ∧ ∃ k, w' = w.drewN k :=
 (plex_Word p l c a (w.drewN m) (hb.drewN m) hc hl).mono fun e w' h => ⟨by rw [h.1, insA_nat l a ha], m, h.2.symm⟩
/-- a reference that begins with the word s: its number, and the place behind it -/
def refR (refs : Bool) (l : List UInt8) (s : List UInt8) (t : Nat) : Option (Int × Nat) :=
 if refs && (wholeV s 4096).2 && decide (1 ≤ (wholeV s 4096).1) then
  (if wordL l (skipAt false l t) = [48] then
   (if wordL l (skipAt false l (wordAt l (skipAt false l t))) = [82] then some ((wholeV s 4096).1, wordAt l (skipAt false l (wordAt l (skipAt false l t)))) else none)
  else none)
 else none
def refK (o : Option (Int × Nat)) : Int × Int := match o with | some (n, _) => (8, n) | none => (0, 0)
def refV (o : Option (Int × Nat)) : Value := .tuple #[.agg (pobj (refK o).1 (refK o).2 []).toArray, .bool o.isSome]
def refT (o : Option (Int × Nat)) (t : Nat) : Nat := match o with | some (_, b) => b | none => t
theorem plex_ref (r : Nat) (p : Option Addr) (l : List UInt8) (c t : Nat) (refs : Bool) (s : List UInt8) (w : World) (h : PRd w r p l c t refs) (hne : 0 < l.length → (pA p).block ≠ r) (hc : l.length ≤ c) (hl : l.length ≤ 100000000) (ht : t ≤ l.length) (hs : s.length ≤ 100000000) :
  Calls Tryz.prog 97 #[.pointer (some ⟨r, 0, none⟩), .string (bs s)] w fun e w' => e = .returned (refV (refR refs l s t)) ∧ PRd w' r p l c (refT (refR refs l s t) t) refs ∧ Touch w.heap.size r w w' := by
 have hr := h.1
 have hb := h.2
 obtain ⟨a, ha⟩ : ∃ a, a = skipAt false l t := ⟨_, rfl⟩
 obtain ⟨b, hbb⟩ : ∃ b, b = skipAt false l (wordAt l a) := ⟨_, rfl⟩
 have hal : a ≤ l.length := by rw [ha]; exact skipAt_le _ _ _
 have hbl : b ≤ l.length := by rw [hbb]; exact skipAt_le _ _ _
 have hwa := wordAt_le l a hal
 have hwb := wordAt_le l b hbl
 have hR : refR refs l s t = if refs && (wholeV s 4096).2 && decide (1 ≤ (wholeV s 4096).1) then (if wordL l a = [48] then (if wordL l b = [82] then some ((wholeV s 4096).1, wordAt l b) else none) else none) else none := by rw [hbb, ha]; rfl
 obtain ⟨N, hN⟩ : ∃ N, N = wholeV s 4096 := ⟨_, rfl⟩
 have hW : ∀ w, Calls Tryz.prog 105 #[.string (bs s), .int .i64 4096] w fun e w' => e = .returned (.tuple #[.int .i64 N.1, .bool N.2]) ∧ Below w.heap.size w w' := fun w => by rw [hN]; exact plex_whole s 4096 w hs
 rw [← hN] at hR
 generalize refR refs l s t = R at hR ⊢
 refine W.enter func97 rfl ntmps97 (Nat.le_of_ble_eq_true rfl) ?_
 have hB0 := Touch.refl (w.heap.size) r w
 refine W.sr <| WL.alloc zeroValue28 rfl (fun b1 wb1 eb1 hkb1 hub1 hsb1 => ?_)
 have hl3 : r < b1 := by rw [eb1]; exact hr.lt
 have hk2 := hr.upd hub1 (Nat.ne_of_lt hl3)
 have hvl5 := fun h0 => eb1 ▸ hb.lt h0
 have hv4 := bup hb hub1 hvl5
 have hgeb1 : w.heap.size ≤ b1 := by rw [eb1]; exact hB0.size
 have hB6 := Touch.trans hB0 (Touch.of_new hub1 hgeb1)
 refine WL.z rfl rfl ?_
 refine W.seq ?_
 have hrB : r < b1 := by have := hr.lt; omega
 refine W.reg <| WL.m rfl rfl <| WL.c1 hb105 rfl rfl ((hW _)) (fun w7 hw7 => ?_)
 have hk8 := hk2.below hw7 hk2.lt
 have hk9 := hkb1.below hw7 hkb1.lt
 have hv10 := BytesAt.below hv4 hw7 (fun h0 => hv4.lt h0)
 have hB11 := Touch.trans hB6 (Touch.mono (Touch.of_below hw7) hB6.size)
 refine WL.m rfl rfl <| WL.p (.ext rfl rfl) rfl <| WL.p (.ext rfl rfl) rfl <| WL.a rfl rfl <| WL.z rfl rfl ?_
 refine W.seq ?_
 refine W.cutB 28 (!(refs && N.2 && decide (1 ≤ N.1))) ?_ ?_
 refine W.reg <| WL.m rfl rfl <| WL.p (.nck rfl) rfl <| WL.p (.fa underlying98 rfl sizeOf4 dD rfl) rfl <| WL.r (Rd.ld (isAgg4 _) rfl hk8 rfl) rfl <| WL.p (.not rfl) rfl <| WL.m rfl rfl <| WL.gd rfl rfl rfl (fun g12 => ?_) (fun g12 => ?_)
 have g12' := (nF g12)
 refine WL.m rfl rfl <| WL.gy rfl rfl rfl (by rw [(nF g12)] <;> rfl) <| WL.p (.not rfl) rfl <| WL.p (.pkF rfl (by rw [(nF g12)] <;> rfl) rfl) rfl <| WL.m rfl rfl <| WL.gd rfl rfl rfl (fun g13 => ?_) (fun g13 => ?_)
 have g13' := (nF g13)
 refine WL.m rfl rfl <| WL.gy rfl rfl rfl (by rw [(nF g13)] <;> rfl) <| WL.p (.lss rfl rfl) rfl <| WL.p (.pkF rfl (by rw [(nF g13)] <;> rfl) rfl) rfl <| WL.nil <| ?_
 exact ⟨leE (lk_b rfl (by cases refs <;> cases h2 : N.2 <;> by_cases h3 : 1 ≤ N.1 <;> simp_all <;> omega)), rfl⟩
 have g13' := (nT g13)
 refine WL.gn rfl rfl rfl (by rw [(nT g13)] <;> rfl) <| WL.p (.pkT rfl (by rw [(nT g13)] <;> rfl) rfl) rfl <| WL.nil <| ?_
 exact ⟨leE (lk_b rfl (by cases refs <;> cases h2 : N.2 <;> by_cases h3 : 1 ≤ N.1 <;> simp_all <;> omega)), rfl⟩
 have g12' := (nT g12)
 refine WL.gn rfl rfl rfl (by rw [(nT g12)] <;> rfl) <| WL.p (.pkT rfl (by rw [(nT g12)] <;> rfl) rfl) rfl <| WL.m rfl rfl <| WL.gn rfl rfl rfl rfl <| WL.gn rfl rfl rfl rfl <| WL.p (.pkT rfl rfl rfl) rfl <| WL.nil <| ?_
 exact ⟨leE (lk_b rfl (by cases refs <;> cases h2 : N.2 <;> by_cases h3 : 1 ≤ N.1 <;> simp_all <;> omega)), rfl⟩
 refine W.cond rfl (fun h14 => ?_) (fun h14 => ?_)
 refine W.sr <| WL.p (.buildL (ps := _) blt28 rfl rfl rfl pZ) rfl ?_
 refine WL.stL rfl rfl hk9 isz28 rfl rfl (fun w15 hkw15 huw15 hsw15 => ?_)
 have hk16 := hk8.up huw15
 have hv17 := bup hv10 huw15 hvl5
 have hB18 := Touch.trans hB11 (Touch.of_new huw15 oO)
 refine WL.z rfl rfl ?_
 refine W.ret (W.retc2 rfl rfl (ldRow hkw15 underlying28 rfl isz28) rfl ?_)
 exact ⟨ret_val (by rw [hR, if_neg (bF (nT aS))]; rfl), by rw [hR, if_neg (bF (nT aS))]; exact ⟨hk16, hv17⟩, hB18⟩
 refine W.skip <| W.seq <| W.regQ mixed kR ?_
 refine WQ.p (.mv rfl) rfl <| WQ.p (.nck rfl) rfl <| WQ.p (.fa underlying98 rfl sizeOf26 dD rfl) rfl <| WQ.r (fun m => Rd.ld (isAgg26 _) rfl hk8 rfl) rfl <| WQ.p (.mv rfl) rfl <| WQ.p (.nck rfl) rfl <| WQ.p (.fa underlying98 rfl sizeOf26 dD rfl) rfl <| WQ.r (fun m => Rd.ld (isAgg26 _) rfl hk8 rfl) rfl <| WQ.p (.mv rfl) rfl <| WQ.p (.nck rfl) rfl <| WQ.p (.fa underlying98 rfl sizeOf3 dD rfl) rfl <| WQ.r (fun m => Rd.ld (isAgg3 _) rfl hk8 rfl) rfl <| WQ.c1 hb34 rfl rfl (fun m => (skip_q p l c t _ hv10 ht hl a ha m)) <| WQ.c1 hb33 rfl rfl (fun m => (word_q p l c a _ hv10 hc hal hl m)) <| WQ.p (.mv rfl) rfl <| WQ.p (.ext rfl rfl) rfl <| WQ.p (.ext rfl rfl) rfl <| WQ.p (.as rfl) rfl <| WQ.p (.as rfl) rfl <| WQ.nil (fun w19 dw19 => ?_)
 have hk20 := hk8.drew dw19
 have hk21 := hk9.drew dw19
 have hv22 := hv10.drew dw19
 have hB23 := Touch.trans hB11 (Touch.of_drew dw19)
 refine W.seq <| W.sr <| WL.m rfl rfl <| WL.p (.nes rfl rfl) rfl <| WL.nil <| ?_
 refine W.cond rfl (fun h24 => ?_) (fun h24 => ?_)
 have h24' := ndT h24
 refine W.sr <| WL.p (.buildL (ps := _) blt28 rfl rfl rfl pZ) rfl ?_
 refine WL.stL rfl rfl hk21 isz28 rfl rfl (fun w25 hkw25 huw25 hsw25 => ?_)
 have hk26 := hk20.up huw25
 have hv27 := bup hv22 huw25 hvl5
 have hB28 := Touch.trans hB23 (Touch.of_new huw25 oO)
 refine WL.z rfl rfl ?_
 refine W.ret (W.retc2 rfl rfl (ldRow hkw25 underlying28 rfl isz28) rfl ?_)
 exact ⟨ret_val (by rw [hR, if_pos (nF aS), if_neg aS]; rfl), by rw [hR, if_pos (nF aS), if_neg aS]; exact ⟨hk26, hv27⟩, hB28⟩
 have h24' := ndF h24
 refine W.skip <| W.seq <| W.regQ mixed kR ?_
 refine WQ.p (.mv rfl) rfl <| WQ.p (.nck rfl) rfl <| WQ.p (.fa underlying98 rfl sizeOf26 dD rfl) rfl <| WQ.r (fun m => Rd.ld (isAgg26 _) rfl hk20 rfl) rfl <| WQ.p (.mv rfl) rfl <| WQ.p (.nck rfl) rfl <| WQ.p (.fa underlying98 rfl sizeOf26 dD rfl) rfl <| WQ.r (fun m => Rd.ld (isAgg26 _) rfl hk20 rfl) rfl <| WQ.p (.mv rfl) rfl <| WQ.c1 hb34 rfl rfl (fun m => (skip_q p l c (wordAt l a) _ hv22 hwa.2 hl b hbb m)) <| WQ.c1 hb33 rfl rfl (fun m => (word_q p l c b _ hv22 hc hbl hl m)) <| WQ.p (.mv rfl) rfl <| WQ.p (.ext rfl rfl) rfl <| WQ.p (.ext rfl rfl) rfl <| WQ.p (.as rfl) rfl <| WQ.p (.as rfl) rfl <| WQ.nil (fun w29 dw29 => ?_)
 have hk30 := hk20.drew dw29
 have hk31 := hk21.drew dw29
 have hv32 := hv22.drew dw29
 have hB33 := Touch.trans hB23 (Touch.of_drew dw29)
 refine W.seq <| W.sr <| WL.m rfl rfl <| WL.p (.nes rfl rfl) rfl <| WL.nil <| ?_
 refine W.cond rfl (fun h34 => ?_) (fun h34 => ?_)
 have h34' := ndT h34
 refine W.sr <| WL.p (.buildL (ps := _) blt28 rfl rfl rfl pZ) rfl ?_
 refine WL.stL rfl rfl hk31 isz28 rfl rfl (fun w35 hkw35 huw35 hsw35 => ?_)
 have hk36 := hk30.up huw35
 have hv37 := bup hv32 huw35 hvl5
 have hB38 := Touch.trans hB33 (Touch.of_new huw35 oO)
 refine WL.z rfl rfl ?_
 refine W.ret (W.retc2 rfl rfl (ldRow hkw35 underlying28 rfl isz28) rfl ?_)
 exact ⟨ret_val (by rw [hR, if_pos (nF aS), if_pos aS, if_neg aS]; rfl), by rw [hR, if_pos (nF aS), if_pos aS, if_neg aS]; exact ⟨hk36, hv37⟩, hB38⟩
 have h34' := ndF h34
 refine W.skip <| W.sr <| WL.m rfl rfl <| WL.p (.iis ((wordAt l b : Int)) (.mv rfl) (by rfl)) rfl <| WL.p (.nck rfl) rfl <| WL.p (.fa underlying98 rfl sizeOf3 dD rfl) rfl <| WL.st sizeOf3 rfl rfl rfl hk30 oD (fun w39 hkw39 huw39 hsw39 => ?_)
 have hkw39 : Blk w39 r _ _ := hkw39
 have huw39 : Upd r _ _ := huw39
 have hk40 := hk31.up huw39
 have hv41 := BytesAt.upd hv32 huw39 hne
 have hB42 := Touch.trans hB33 (Touch.of_upd huw39)
 refine WL.nil <| ?_
 refine W.sr <| WL.m rfl rfl <| ?_
 refine WL.p (.buildL (ps := _) blt28 rfl rfl rfl pS) rfl ?_
 refine WL.stL rfl rfl hk40 isz28 rfl rfl (fun w43 hkw43 huw43 hsw43 => ?_)
 have hk44 := hkw39.up huw43
 have hv45 := bup hv41 huw43 hvl5
 have hB46 := Touch.trans hB42 (Touch.of_new huw43 oO)
 refine WL.z rfl rfl ?_
 refine W.ret (W.retc2 rfl rfl (ldRow hkw43 underlying28 rfl isz28) rfl ?_)
 exact ⟨ret_val (by rw [hR, if_pos (nF aS), if_pos aS, if_pos aS]; rfl), by rw [hR, if_pos (nF aS), if_pos aS, if_pos aS]; exact ⟨hk44, hv45⟩, hB46⟩
/-- what a word is -/
structure WR where
 kind : Int
 n : Int
 word : List UInt8
 ok : Bool
 np : Nat
def plexW (refs : Bool) (l : List UInt8) (t : Nat) : WR :=
 if wordL l t = [110, 117, 108, 108] then ⟨0, 0, wordL l t, true, wordAt l t⟩
 else if wordL l t = [116, 114, 117, 101] then ⟨1, 1, wordL l t, true, wordAt l t⟩
 else if wordL l t = [102, 97, 108, 115, 101] then ⟨1, 0, wordL l t, true, wordAt l t⟩
 else if (refR refs l (wordL l t) (wordAt l t)).isSome then ⟨(refK (refR refs l (wordL l t) (wordAt l t))).1, (refK (refR refs l (wordL l t) (wordAt l t))).2, wordL l t, true, refT (refR refs l (wordL l t) (wordAt l t)) (wordAt l t)⟩
 else if (numR (wordL l t)).2.2 then ⟨(numR (wordL l t)).1, (numR (wordL l t)).2.1, wordL l t, true, wordAt l t⟩
 else ⟨0, 0, wordL l t, false, wordAt l t⟩
def WR.val (x : WR) : Value := .tuple #[.agg (pobj x.kind x.n []).toArray, .string (bs x.word), .bool x.ok]
theorem wordL_len (l : List UInt8) (t : Nat) : (wordL l t).length ≤ l.length := by unfold wordL; rw [List.length_take, List.length_drop]; omega
theorem refT_none {o : Option (Int × Nat)} {t : Nat} (h : o.isSome = false) : refT o t = t := by cases o with | none => rfl | some x => cases h
theorem plex_word (r : Nat) (p : Option Addr) (l : List UInt8) (c t : Nat) (refs : Bool) (w : World) (h : PRd w r p l c t refs) (hne : 0 < l.length → (pA p).block ≠ r) (hc : l.length ≤ c) (hl : l.length ≤ 100000000) (ht : t ≤ l.length) :
  Calls Tryz.prog 86 #[.pointer (some ⟨r, 0, none⟩)] w fun e w' => e = .returned (plexW refs l t).val ∧ PRd w' r p l c (plexW refs l t).np refs ∧ Touch w.heap.size r w w' := by
 have hr := h.1
 have hb := h.2
 have hX : ∃ X, X = plexW refs l t := ⟨_, rfl⟩
 obtain ⟨X, hX⟩ := hX
 rw [← hX]
 unfold plexW at hX
 have hwt := wordAt_le l t ht
 have hsl := wordL_len l t
 have hWq : ∀ w1, BytesAt w1 p l → ∀ m, Calls Tryz.prog 33 #[.slice p l.length c, .int .i64 (t : Int)] (w1.drewN m) fun e w' => e = .returned (.tuple #[.string (bs (wordL l t)), .int .i64 (wordAt l t : Int)]) ∧ ∃ k, w' = w1.drewN k := fun w1 h1 m => word_q p l c t w1 h1 hc ht hl m
 generalize wordL l t = s at hX hsl hWq
 generalize wordAt l t = t1 at hX hwt hWq
 refine W.enter func86 rfl ntmps86 (Nat.le_of_ble_eq_true rfl) ?_
 have hB0 := Touch.refl (w.heap.size) r w
 refine W.sr <| WL.alloc zeroValue28 rfl (fun b1 wb1 eb1 hkb1 hub1 hsb1 => ?_)
 have hl3 : r < b1 := by rw [eb1]; exact hr.lt
 have hk2 := hr.upd hub1 (Nat.ne_of_lt hl3)
 have hvl5 := fun h0 => eb1 ▸ hb.lt h0
 have hv4 := bup hb hub1 hvl5
 have hgeb1 : w.heap.size ≤ b1 := by rw [eb1]; exact hB0.size
 have hB6 := Touch.trans hB0 (Touch.of_new hub1 hgeb1)
 refine WL.a rfl rfl <| WL.z rfl rfl ?_
 refine W.seq ?_
 have hrB : r < b1 := by have := hr.lt; omega
 refine W.regQ mixed kR ?_
 refine WQ.p (.mv rfl) rfl <| WQ.p (.nck rfl) rfl <| WQ.p (.fa underlying98 rfl sizeOf26 dD rfl) rfl <| WQ.r (fun m => Rd.ld (isAgg26 _) rfl hk2 rfl) rfl <| WQ.p (.mv rfl) rfl <| WQ.p (.nck rfl) rfl <| WQ.p (.fa underlying98 rfl sizeOf3 dD rfl) rfl <| WQ.r (fun m => Rd.ld (isAgg3 _) rfl hk2 rfl) rfl <| WQ.c1 hb33 rfl rfl (fun m => (hWq _ hv4 m)) <| WQ.p (.mv rfl) rfl <| WQ.p (.ext rfl rfl) rfl <| WQ.p (.ext rfl rfl) rfl <| WQ.p (.as rfl) rfl <| WQ.p (.as rfl) rfl <| WQ.nil (fun w7 dw7 => ?_)
 have hk8 := hk2.drew dw7
 have hk9 := hkb1.drew dw7
 have hv10 := hv4.drew dw7
 have hB11 := Touch.trans hB6 (Touch.of_drew dw7)
 refine W.sr <| WL.m rfl rfl <| WL.m rfl rfl <| WL.p (.nck rfl) rfl <| WL.p (.fa underlying98 rfl sizeOf3 dD rfl) rfl <| WL.st sizeOf3 rfl rfl rfl hk8 oD (fun w12 hkw12 huw12 hsw12 => ?_)
 have hkw12 : Blk w12 r _ _ := hkw12
 have huw12 : Upd r _ _ := huw12
 have hk13 := hk9.up huw12
 have hv14 := BytesAt.upd hv10 huw12 hne
 have hB15 := Touch.trans hB11 (Touch.of_upd huw12)
 refine WL.nil <| ?_
 refine W.seq <| W.sr <| WL.m rfl rfl <| WL.nil <| ?_
 refine W.block <| W.sr <| WL.p (.eqs rfl rfl) rfl <| WL.z rfl rfl ?_
 refine W.cond rfl (fun h16 => ?_) (fun h16 => ?_)
 have h16' := dT h16
 refine W.sr <| WL.p (.buildL (ps := _) blt28 rfl rfl rfl pZ) rfl ?_
 refine WL.m rfl rfl <| WL.stL rfl rfl hk13 isz28 rfl rfl (fun w17 hkw17 huw17 hsw17 => ?_)
 have hk18 := hkw12.up huw17
 have hv19 := bup hv14 huw17 hvl5
 have hB20 := Touch.trans hB15 (Touch.of_new huw17 oO)
 refine WL.a rfl rfl <| WL.z rfl rfl ?_
 refine W.ret (W.retc3 rfl rfl (ldRow hkw17 underlying28 rfl isz28) rfl rfl ?_)
 (rw [if_pos aS] at hX; subst hX; exact ⟨rfl, ⟨hk18, hv19⟩, hB20⟩)
 have h16' := dF h16
 refine W.sr <| WL.p (.eqs rfl rfl) rfl <| WL.z rfl rfl ?_
 refine W.cond rfl (fun h21 => ?_) (fun h21 => ?_)
 have h21' := dT h21
 refine W.sr <| WL.p (.buildL (ps := _) blt28 rfl rfl rfl pS) rfl ?_
 refine WL.m rfl rfl <| WL.stL rfl rfl hk13 isz28 rfl rfl (fun w22 hkw22 huw22 hsw22 => ?_)
 have hk23 := hkw12.up huw22
 have hv24 := bup hv14 huw22 hvl5
 have hB25 := Touch.trans hB15 (Touch.of_new huw22 oO)
 refine WL.a rfl rfl <| WL.z rfl rfl ?_
 refine W.ret (W.retc3 rfl rfl (ldRow hkw22 underlying28 rfl isz28) rfl rfl ?_)
 (rw [if_neg aS, if_pos aS] at hX; subst hX; exact ⟨rfl, ⟨hk23, hv24⟩, hB25⟩)
 have h21' := dF h21
 refine W.sr <| WL.p (.eqs rfl rfl) rfl <| WL.z rfl rfl ?_
 refine W.cond rfl (fun h26 => ?_) (fun h26 => ?_)
 have h26' := dT h26
 refine W.sr <| WL.p (.buildL (ps := _) blt28 rfl rfl rfl pS) rfl ?_
 refine WL.m rfl rfl <| WL.stL rfl rfl hk13 isz28 rfl rfl (fun w27 hkw27 huw27 hsw27 => ?_)
 have hk28 := hkw12.up huw27
 have hv29 := bup hv14 huw27 hvl5
 have hB30 := Touch.trans hB15 (Touch.of_new huw27 oO)
 refine WL.a rfl rfl <| WL.z rfl rfl ?_
 refine W.ret (W.retc3 rfl rfl (ldRow hkw27 underlying28 rfl isz28) rfl rfl ?_)
 (rw [if_neg aS, if_neg aS, if_pos aS] at hX; subst hX; exact ⟨rfl, ⟨hk28, hv29⟩, hB30⟩)
 have h26' := dF h26
 refine W.skip <| W.seq <| W.sr <| WL.m rfl rfl <| WL.m rfl rfl <| WL.c1 hb97 rfl rfl ((plex_ref r p l c t1 refs s _ ⟨hkw12, hv14⟩ hne hc hl oO oO)) (fun w31 hw31 => ?_)
 have hk32 := hw31.1.1
 have hk33 := Blk.touch hk13 hw31.2 hk13.lt oO
 have hv34 := hw31.1.2
 have hB35 := Touch.trans hB15 (Touch.mono hw31.2 hB15.size)
 refine WL.m rfl rfl <| WL.p (.ext rfl rfl) rfl <| WL.p (.ext rfl rfl) rfl <| WL.alloc zeroValue28 rfl (fun b36 wb36 eb36 hkb36 hub36 hsb36 => ?_)
 have hl38 : r < b36 := by rw [eb36]; exact hk32.lt
 have hk37 := hk32.upd hub36 (Nat.ne_of_lt hl38)
 have hl40 : b1 < b36 := by rw [eb36]; exact hk33.lt
 have hk39 := hk33.upd hub36 (Nat.ne_of_lt hl40)
 have hvl42 := fun h0 => eb36 ▸ hv34.lt h0
 have hv41 := bup hv34 hub36 hvl42
 have hgeb36 : w.heap.size ≤ b36 := by rw [eb36]; exact hB35.size
 have hB43 := Touch.trans hB35 (Touch.of_new hub36 hgeb36)
 refine WL.stL rfl rfl hkb36 isz28 rfl rfl (fun w44 hkw44 huw44 hsw44 => ?_)
 have hk45 := hk37.up huw44
 have hk46 := hk39.up huw44
 have hv47 := bup hv41 huw44 hvl42
 have hB48 := Touch.trans hB43 (Touch.of_new huw44 oO)
 refine WL.z rfl rfl ?_
 refine W.sr <| WL.m rfl rfl <| WL.nil <| ?_
 refine W.cond rfl (fun h49 => ?_) (fun h49 => ?_)
 refine W.sr <| WL.r (Rd.ldA rfl hkw44 underlying28 rfl isz28) rfl <| WL.m rfl rfl <| WL.stL rfl rfl hk46 isz28 rfl rfl (fun w50 hkw50 huw50 hsw50 => ?_)
 have hk51 := hk45.up huw50
 have hv53 := bup hv47 huw50 hvl5
 have hB54 := Touch.trans hB48 (Touch.of_new huw50 oO)
 refine WL.a rfl rfl <| WL.z rfl rfl ?_
 refine W.ret (W.retc3 rfl rfl (ldRow hkw50 underlying28 rfl isz28) rfl rfl ?_)
 (rw [if_neg aS, if_neg aS, if_neg aS, if_pos aS] at hX; subst hX; exact ⟨rfl, ⟨hk51, hv53⟩, hB54⟩)
 refine W.skip <| W.sr <| WL.m rfl rfl <| WL.c1 hb98 rfl rfl ((plex_number s _ oO)) (fun w55 hw55 => ?_)
 have hk56 := hk45.below hw55 hk45.lt
 have hk57 := hk46.below hw55 hk46.lt
 have hk58 := hkw44.below hw55 hkw44.lt
 have hv59 := BytesAt.below hv47 hw55 (fun h0 => hv47.lt h0)
 have hB60 := Touch.trans hB48 (Touch.mono (Touch.of_below hw55) hB48.size)
 refine WL.m rfl rfl <| WL.p (.ext rfl rfl) rfl <| WL.p (.ext rfl rfl) rfl <| WL.alloc zeroValue28 rfl (fun b61 wb61 eb61 hkb61 hub61 hsb61 => ?_)
 have hl63 : r < b61 := by rw [eb61]; exact hk56.lt
 have hk62 := hk56.upd hub61 (Nat.ne_of_lt hl63)
 have hl65 : b1 < b61 := by rw [eb61]; exact hk57.lt
 have hk64 := hk57.upd hub61 (Nat.ne_of_lt hl65)
 have hl67 : b36 < b61 := by rw [eb61]; exact hk58.lt
 have hvl69 := fun h0 => eb61 ▸ hv59.lt h0
 have hv68 := bup hv59 hub61 hvl69
 have hgeb61 : w.heap.size ≤ b61 := by rw [eb61]; exact hB60.size
 have hB70 := Touch.trans hB60 (Touch.of_new hub61 hgeb61)
 refine WL.stL rfl rfl hkb61 isz28 rfl rfl (fun w71 hkw71 huw71 hsw71 => ?_)
 have hk72 := hk62.up huw71
 have hk73 := hk64.up huw71
 have hv75 := bup hv68 huw71 hvl69
 have hB76 := Touch.trans hB70 (Touch.of_new huw71 oO)
 refine WL.z rfl rfl ?_
 refine W.seq <| W.sr <| WL.m rfl rfl <| WL.p (.not rfl) rfl <| WL.nil <| ?_
 refine W.cond rfl (fun h77 => ?_) (fun h77 => ?_)
 have h77' := (nT h77)
 refine W.reg <| WL.p (.buildL (ps := _) blt28 rfl rfl rfl pZ) rfl ?_
 refine WL.stL rfl rfl hkw71 isz28 rfl rfl (fun w78 hkw78 huw78 hsw78 => ?_)
 have hk79 := hk72.up huw78
 have hk80 := hk73.up huw78
 have hv82 := bup hv75 huw78 hvl69
 have hB83 := Touch.trans hB76 (Touch.of_new huw78 oO)
 refine WL.nil <| ?_
 refine W.sr <| WL.r (Rd.ldA rfl hkw78 underlying28 rfl isz28) rfl <| WL.m rfl rfl <| WL.m rfl rfl <| WL.stL rfl rfl hk80 isz28 rfl rfl (fun w84 hkw84 huw84 hsw84 => ?_)
 have hk85 := hk79.up huw84
 have hv88 := bup hv82 huw84 hvl5
 have hB89 := Touch.trans hB83 (Touch.of_new huw84 oO)
 refine WL.a rfl rfl <| WL.z rfl rfl ?_
 refine W.ret (W.retc3 rfl rfl (ldRow hkw84 underlying28 rfl isz28) rfl rfl ?_)
 (rw [if_neg aS, if_neg aS, if_neg aS, if_neg (bF aS), if_neg (bF aS)] at hX; subst hX; exact ⟨ret_val (by rw [show (numR s).2.2 = false by assumption]; rfl), ⟨by rw [← refT_none (t := t1) (show (refR refs l s t1).isSome = false by assumption)]; exact hk85, hv88⟩, hB89⟩)
 have h77' := (nF h77)
 refine W.skip <| W.sr <| WL.r (Rd.ldA rfl hkw71 underlying28 rfl isz28) rfl <| WL.m rfl rfl <| WL.m rfl rfl <| WL.stL rfl rfl hk73 isz28 rfl rfl (fun w90 hkw90 huw90 hsw90 => ?_)
 have hk91 := hk72.up huw90
 have hv94 := bup hv75 huw90 hvl5
 have hB95 := Touch.trans hB76 (Touch.of_new huw90 oO)
 refine WL.a rfl rfl <| WL.z rfl rfl ?_
 refine W.ret (W.retc3 rfl rfl (ldRow hkw90 underlying28 rfl isz28) rfl rfl ?_)
 (rw [if_neg aS, if_neg aS, if_neg aS, if_neg (bF aS), if_pos aS] at hX; subst hX; exact ⟨ret_val (by rw [show (numR s).2.2 = true by assumption]; rfl), ⟨by rw [← refT_none (t := t1) (show (refR refs l s t1).isSome = false by assumption)]; exact hk91, hv94⟩, hB95⟩)
end
section
section
variable {P : Program} {n : Sh} {fn : Func} {R : Ending → World → Prop} {f : Fr} {w : World}
/-- the slots hold what is known -/
def Holds (f : Fr) (tmps : Array Value) : Prop := ∀ i u, look f i = some u → tmps.getD i undef = u
/-- where a function that defers comes to its door -/
def PostD (P : Program) (fn : Func) (R : Ending → World → Prop) (D : List Deferred) : Exit → Fr → World → Prop
 | .normal, f, w | .ret, f, w => ∀ tmps, Holds f tmps → Leaves P fn tmps R D .returning w
 | .panic chain, f, w => ∀ tmps, Holds f tmps → Leaves P fn tmps R D (.panicking chain) w
 | .outgrown, _, w => R .outgrown w
 | _, _, _ => False
def WD (P : Program) (n : Sh) (fn : Func) (R : Ending → World → Prop) (c : Code) (f : Fr) (w : World) : Prop := ∀ a, Rep n f a → c.wp P (bodyPostD P fn R) a w
theorem postD_of {e : Exit} {a : Act} {w : World} (h : lift n (PostD P fn R n.D) e a w) : bodyPostD P fn R e a w := by
 obtain ⟨f, hr, hQ⟩ := h
 cases e with
 | normal => have := hQ a.tmps hr.2.2; rw [← hr.1] at this; exact this
 | ret => have := hQ a.tmps hr.2.2; rw [← hr.1] at this; exact this
 | panic ch => have := hQ a.tmps hr.2.2; rw [← hr.1] at this; exact this
 | outgrown => exact hQ
 | exit i => exact hQ.elim
 | goto l => exact hQ.elim
theorem WD.of {c : Code} (h : W P n c (PostD P fn R n.D) f w) : WD P n fn R c f w := by
 unfold W at h
 exact fun a ha => wp_mono (h a ha) fun _ _ _ => postD_of
theorem WD.seq {x y : Code} (h : W P n x (nx (fun f w => WD P n fn R y f w) (PostD P fn R n.D)) f w) : WD P n fn R (.seq x y) f w := by
 unfold W at h
 intro a ha
 refine wp_seq (wp_mono (h a ha) ?_)
 rintro e a' w' ⟨f', hr, hQ⟩
 cases e with
 | normal => exact hQ a' hr
 | exit i => exact postD_of (P := P) (fn := fn) (R := R) (n := n) (w := w') (e := .exit i) ⟨f', hr, hQ⟩
 | goto l => exact postD_of (P := P) (fn := fn) (R := R) (n := n) (w := w') (e := .goto l) ⟨f', hr, hQ⟩
 | ret => exact postD_of (P := P) (fn := fn) (R := R) (n := n) (w := w') (e := .ret) ⟨f', hr, hQ⟩
 | panic ch => exact postD_of (P := P) (fn := fn) (R := R) (n := n) (w := w') (e := .panic ch) ⟨f', hr, hQ⟩
 | outgrown => exact postD_of (P := P) (fn := fn) (R := R) (n := n) (w := w') (e := .outgrown) ⟨f', hr, hQ⟩
/-- a closure is made and deferred -/
theorem WD.defer {y : Code} {id d ty ty2 : Nat} {pos pos2 : String} {aft aft2 : Array Edge} {F : FuncId} {caps : List Operand} {vs : List Value} (hcap : evs f caps = some vs) (hd : Nat.blt d n.n = true)
  (h : WD P ⟨n.n, ⟨.fn (.func F) vs.toArray, #[]⟩ :: n.D⟩ fn R y ((d, .func (.func F) #[] vs.toArray) :: f) w) :
  WD P n fn R (.seq (.region id [⟨some d, .makeFunc (.func F) #[] caps.toArray, ty, pos, aft, none⟩, ⟨none, .defer ⟨.value (.tmp d), #[], #[]⟩, ty2, pos2, aft2, none⟩].toArray false) y) f w := by
 intro a ha
 refine wp_seq (wp_region_lit ?_)
 have hmk : (Instr.makeFunc (.func F) #[] (vs.toArray)).run P w = .ok (.func (.func F) #[] vs.toArray) w := rfl
 have e1 : caps.toArray.map a.eval = vs.toArray := by rw [List.map_toArray, evs_map ha.agr _ _ hcap]
 have ha2 := ha.put hd (.func (.func F) #[] vs.toArray)
 have e2 : (a.put (some d) (.func (.func F) #[] vs.toArray)).eval (.tmp d) = .func (.func F) #[] vs.toArray := ha2.agr _ _ (by simp [evo, look, Nat.beq_refl])
 unfold wpList
 rw [if_pos (by simp [Region.wanted])]
 refine Or.inl ?_
 unfold Oper.wp execOp
 simp only [e1, Sem.run_bind, hmk, Result.andThen_ok, Sem.run_pure, List.map_toArray, List.map_nil]
 rw [Oper.upon_value]
 unfold wpList
 rw [if_pos (by simp [Region.wanted])]
 refine Or.inl ?_
 unfold Oper.wp execOp
 simp only [resolve, Deferred.ofValue, e2, Sem.run_bind, Sem.run_pure, Result.andThen_ok, Array.append_empty, List.map_toArray, List.map_nil]
 rw [Oper.upon_defer]
 exact wpList_nil (h _ ⟨by show _ :: _ = _ :: _; rw [ha2.1], ha2.2.1, ha2.2.2⟩)
theorem W.enterD {F : FuncId} {c : Code} {args : Array Value} (hf : P.funcs[F]? = some fn) (hb : fn.body = some c)
  {k : Nat} (hn : fn.ntmps = k) (hl : args.size ≤ k) (h : WD P ⟨k, []⟩ fn R c (number 0 args.toList) w) : Calls P F args w R := by
 refine calls_of_wp_defers hf hb (h _ ⟨rfl, by simp [hn]; omega, ?_⟩)
 intro i v hv
 obtain ⟨j, e, hj⟩ := number_look _ _ _ _ hv
 obtain rfl : i = j := by omega
 have hlt : i < args.size := by
  rcases Nat.lt_or_ge i args.size with h | h
  ·
   exact h
  ·
   rw [List.getElem?_eq_none (by simpa using h)] at hj; cases hj
 have hj' : args[i]? = some v := by rw [← Array.getElem?_toList]; exact hj
 simp only [Array.getD_eq_getD_getElem?]
 rw [Array.getElem?_append_left hlt, hj']; rfl
theorem run_callFunc_body {F : FuncId} {g : Func} (h1 : P.funcs[F]? = some g) (h2 : g.body ≠ none) (h3 : g.name ≠ "runtime.NumGoroutine") (args : Array Value) (w : World) : (callFunc F args).run P w = .ok (.enter F args) w := by
 cases hb : g.body with
 | none => exact absurd hb h2
 | some c => simp [callFunc, h1, h3, hb]
/-- no deferred call is left -/
theorem PostD.ret0 {v : Value} (hv : ResOk P fn f w v) (h : R (.returned v) w) : PostD P fn R [] .ret f w := fun tmps ht => ⟨v, hv tmps ht, h⟩
theorem PostD.norm {D : List Deferred} (h : PostD P fn R D .ret f w) : PostD P fn R D .normal f w := h
/-- the door of a function with one deferred closure that hands nothing back: behind a return -/
theorem PostD.ret {F : FuncId} {vs : List Value} (hb : HasBody P F) (S : World → Prop)
  (hc : CallsD P F vs.toArray .returning w fun e u' w' => u' = .returning ∧ (∃ v, e = .returned v) ∧ S w')
  (hr : ∀ w', S w' → ∃ v, ResOk P fn f w' v ∧ R (.returned v) w') : PostD P fn R [⟨.fn (.func F) vs.toArray, #[]⟩] .ret f w := by
 intro tmps ht
 obtain ⟨g, h1, h2, h3⟩ := hb
 refine leaves_cons (f := F) (args := vs.toArray) (by simp) ?_ (hc.mono ?_)
 ·
  simp only [invoke, Array.empty_append]
  exact run_callFunc_body h1 h2 h3 _ _
 ·
  rintro e u' w' ⟨rfl, ⟨v, rfl⟩, hS⟩
  obtain ⟨v, hv, hR⟩ := hr w' hS
  exact ⟨v, hv tmps ht, hR⟩
/-- .. behind a panic that it catches -/
theorem PostD.caught {F : FuncId} {vs : List Value} {v0 : Value} (hb : HasBody P F) (S : World → Prop)
  (hc : CallsD P F vs.toArray (.panicking [{ v := v0, recovered := false }]) w fun e u' w' => u' = .panicking [{ v := v0, recovered := true }] ∧ (∃ v, e = .returned v) ∧ S w')
  (hr : ∀ w', S w' → ∃ v, ResOk P fn f w' v ∧ R (.returned v) w') : PostD P fn R [⟨.fn (.func F) vs.toArray, #[]⟩] (.panic [{ v := v0, recovered := false }]) f w := by
 intro tmps ht
 obtain ⟨g, h1, h2, h3⟩ := hb
 refine leaves_cons (f := F) (args := vs.toArray) (by simp) ?_ (hc.mono ?_)
 ·
  simp only [invoke, Array.empty_append]
  exact run_callFunc_body h1 h2 h3 _ _
 ·
  rintro e u' w' ⟨rfl, ⟨v, rfl⟩, hS⟩
  obtain ⟨v, hv, hR⟩ := hr w' hS
  exact ⟨v, hv tmps ht, hR⟩
/-- what recover hands back, and the mode of the frame behind it -/
def recM : FrameMode → Value × FrameMode
 | .panicking ({ v, recovered := false, goexit := false } :: older) => (v, .panicking ({ v, recovered := true } :: older))
 | m => (.nilIface, m)
theorem recoverD_recM (c₀ : Frame) (cs : List Frame) : recoverD (c₀ :: cs) = some ((recM c₀.mode).1, { c₀ with mode := (recM c₀.mode).2 } :: cs) ∨ recoverD (c₀ :: cs) = none ∧ recM c₀.mode = (.nilIface, c₀.mode) := by
 unfold recoverD recM
 simp only
 split
 ·
  next h => rw [h]; exact Or.inl rfl
 ·
  next h =>
  refine Or.inr ⟨rfl, ?_⟩
  split
  ·
   next h2 => exact absurd h2 (h _ _)
  ·
   rfl
theorem wpS_region_rec {id d ty : Nat} {pos : String} {aft : Array Edge} {ats : Array TypeId} {l : List Oper} {Q : Exit → Act → List Frame → World → Prop} {a : Act} {c₀ : Frame} {cs : List Frame} {Q0 : Exit → Act → World → Prop}
  (h : wpList P (⟨some d, .call ⟨.builtin .recover, #[], ats⟩, ty, pos, aft, none⟩ :: l).toArray Q0 l (a.put (some d) (recM c₀.mode).1) w)
  (hmono : ∀ e a w, Q0 e a w → Q e a ({ c₀ with mode := (recM c₀.mode).2 } :: cs) w) :
  (Code.region id (⟨some d, .call ⟨.builtin .recover, #[], ats⟩, ty, pos, aft, none⟩ :: l).toArray false).wpS P Q a (c₀ :: cs) w := by
 intro b k hb hro
 generalize ho : (⟨some d, .call ⟨.builtin .recover, #[], ats⟩, ty, pos, aft, none⟩ : Oper) = o at h ⊢
 have h' : wpOps P (o :: l).toArray Q0 (List.range' 1 l.length) (a.put (some d) (recM c₀.mode).1) w := by
  rw [wpOps_eq_wpList l 1 (fun j => by simp [Nat.add_comm 1 j])]; exact h
 obtain ⟨e, a', w', hq, harr⟩ := wp_ops _ _ _ h' b k ({ c₀ with mode := (recM c₀.mode).2 } :: cs)
 refine ⟨e, a', _, w', hmono _ _ _ hq, .of_steps (.head step_region (.one (step_lone_go ?_))) harr⟩
 have hrange : List.range (o :: l).toArray.size = 0 :: List.range' 1 l.length := by
  rw [List.range_eq_range']; simp [List.range'_succ]
 rw [hrange]
 have hg := stepG_op (P := P) (b := b) (k := k) (cs := c₀ :: cs) (w := w) (a := a) (ops := (o :: l).toArray) (i := 0) (rest := List.range' 1 l.length) (o := o) (by simp) (by subst ho; simp [Region.wanted])
 have hfin : ∀ v, (b.at a (.inRegion (o :: l).toArray (0 :: List.range' 1 l.length) :: k)).finish v = b.at (a.put (some d) v) (.inRegion (o :: l).toArray (List.range' 1 l.length) :: k) := by
  intro v; rw [Frame.finish_at]; subst ho; rfl
 have hk : (b.at a (.inRegion (o :: l).toArray (0 :: List.range' 1 l.length) :: k)).kind = .deferred := hb
 have htr := tryRecover_deferred hk (c₀ :: cs)
 have hrun : (execOp a.eval o).run P w = .ok .recover w := by
  subst ho; simp [execOp, resolve, invoke, builtin]
 rw [hg, ← hfin]
 rcases recoverD_recM c₀ cs with hrec | ⟨hrec, hm⟩
 ·
  rw [hrec] at htr
  simp only [Frame.at] at htr ⊢
  simp [stepG.apply, hrun, htr]
 ·
  rw [hrec] at htr
  rw [hm]
  simp only [Frame.at] at htr ⊢
  simp [stepG.apply, hrun, htr]
/-- a deferred closure whose first statement recovers -/
theorem CallsD.rec {F : FuncId} {id d ty k : Nat} {pos : String} {aft : Array Edge} {ats : Array TypeId} {l : List Oper} {y : Code} {args : Array Value} {u : FrameMode} {R : Ending → World → Prop} (hf : P.funcs[F]? = some fn)
  (hb : fn.body = some (.seq (.region id (⟨some d, .call ⟨.builtin .recover, #[], ats⟩, ty, pos, aft, none⟩ :: l).toArray false) y)) (hn : fn.ntmps = k) (hl : args.size ≤ k) (hd : Nat.blt d k = true)
  (h : WL P ⟨k, []⟩ (⟨some d, .call ⟨.builtin .recover, #[], ats⟩, ty, pos, aft, none⟩ :: l).toArray (nx (fun f w => W P ⟨k, []⟩ y (Post P fn R) f w) (Post P fn R)) l ((d, (recM u).1) :: number 0 args.toList) w) :
  CallsD P F args u w fun e u' w' => u' = (recM u).2 ∧ R e w' := by
 refine callsD_of_wpS hf hb fun c₀ cs hu => wpS_seq ?_
 have hrep : Rep ⟨k, []⟩ (number 0 args.toList) { tmps := args ++ Array.replicate (fn.ntmps - args.size) undef, defers := [] } := by
  refine ⟨rfl, by simp [hn]; omega, fun i v hv => ?_⟩
  obtain ⟨j, e, hj⟩ := number_look _ _ _ _ hv
  obtain rfl : i = j := by omega
  have hlt : i < args.size := by
   rcases Nat.lt_or_ge i args.size with h | h
   ·
    exact h
   ·
    rw [List.getElem?_eq_none (by simpa using h)] at hj; cases hj
  have hj' : args[i]? = some v := by rw [← Array.getElem?_toList]; exact hj
  simp only [Array.getD_eq_getD_getElem?]
  rw [Array.getElem?_append_left hlt, hj']; rfl
 subst hu
 have hlast : ∀ e a w, lift ⟨k, []⟩ (Post P fn R) e a w → bodyPostS P fn c₀ cs (fun e u' w' => u' = (recM c₀.mode).2 ∧ R e w') e a ({ c₀ with mode := (recM c₀.mode).2 } :: cs) w := by
  rintro e a w ⟨f, hr, hQ⟩
  unfold Post at hQ
  cases e with
  | normal => obtain ⟨v, h1, h2⟩ := hQ; exact ⟨hr.1, _, rfl, v, h1 _ hr.2.2, rfl, h2⟩
  | ret => obtain ⟨v, h1, h2⟩ := hQ; exact ⟨hr.1, _, rfl, v, h1 _ hr.2.2, rfl, h2⟩
  | panic ch => exact ⟨hr.1, _, rfl, rfl, hQ⟩
  | outgrown => exact ⟨_, rfl, hQ⟩
  | exit i => exact hQ.elim
  | goto l => exact hQ.elim
 unfold WL at h
 have := h _ (hrep.put hd (recM c₀.mode).1)
 refine wpS_region_rec this ?_
 rintro e a w ⟨f, hr, hQ⟩
 cases e with
 | normal =>
  have hQ' : W P ⟨k, []⟩ y (Post P fn R) f w := hQ
  unfold W at hQ'
  exact wpS_of_wp (wp_mono (hQ' a hr) fun e a w hh => hlast e a w hh)
 | _ => exact hlast _ _ _ ⟨f, hr, hQ⟩
/-- nothing panics here -/
def noPn (Q : Exit → Fr → World → Prop) : Exit → Fr → World → Prop
 | .panic _, _, _ => False
 | e, f, w => Q e f w
theorem W.noPn {c : Code} {Q : Exit → Fr → World → Prop} (h : W P n c (noPn Q) f w) : W P n c Q f w := h.mono fun e f w h => by
 cases e with
 | panic ch => exact h.elim
 | normal => exact h
 | ret => exact h
 | exit i => exact h
 | goto l => exact h
 | outgrown => exact h
/-- an interface's value against nil -/
theorem Pure.neNil {x : Operand} {tx ty u : TypeId} {v : Value} (ht : P.underlying tx = some (.interface (P.methodsAt tx))) (hx : evo f x = some (.iface u v)) : Pure P (.binOp .neq tx x (.const .nilIface) ty) f (.bool true) := fun ρ hρ d ty' pos aft g w => by
 have h4 : ρ (.const .nilIface) = .nilIface := hρ _ _ rfl
 simp [execOp, hρ _ _ hx, h4, eqGuard, run_neq_held_nil w tx u v ht]
theorem Pure.neNil0 {x : Operand} {tx ty : TypeId} (ht : P.underlying tx = some (.interface (P.methodsAt tx))) (hx : evo f x = some .nilIface) : Pure P (.binOp .neq tx x (.const .nilIface) ty) f (.bool false) := fun ρ hρ d ty' pos aft g w => by
 have h4 : ρ (.const .nilIface) = .nilIface := hρ _ _ rfl
 simp [execOp, hρ _ _ hx, h4, eqGuard_nil_constR, run_neq_nil_nil w tx ht]
/-- x.(T), where it holds -/
theorem Pure.tas {x : Operand} {tx t : TypeId} {v : Value} {k : IntKind} (hu : P.underlying t = some (.int k)) (hx : evo f x = some (.iface t v)) : Pure P (.typeAssert x tx t true) f (.tuple #[v, .bool true]) := fun ρ hρ d ty' pos aft g w => by
 simp [execOp, hρ _ _ hx, Instr.typeAssert, run_underlying hu]
theorem ldCell {t tb : TypeId} {b o : Nat} {cs : Array Value} {v : Value} {w : World} (hb : Blk w b cs tb) (ha : (isAgg t).run P w = .ok false w) (hv : cs[o]? = some v) : (loadVar t ⟨b, o, none⟩).run P w = .ok v w := by
 have hc := (hb.cell o).trans hv
 simp [loadVar, ha, hc]
theorem ResOk.cells3 {a b c : Tmp} {ta tb tc : TypeId} {pa pb pc : Addr} {x y z : Value} (hr : fn.results = #[.cell a ta, .cell b tb, .cell c tc]) (ha : look f a = some (.pointer (some pa))) (hb : look f b = some (.pointer (some pb))) (hc : look f c = some (.pointer (some pc)))
  (hx : (loadVar ta pa).run P w = .ok x w) (hy : (loadVar tb pb).run P w = .ok y w) (hz : (loadVar tc pc).run P w = .ok z w) : ResOk P fn f w (.tuple #[x, y, z]) := fun tmps hh => by
 have e1 := hh _ _ ha; have e2 := hh _ _ hb; have e3 := hh _ _ hc
 simp only [Array.getD_eq_getD_getElem?] at e1 e2 e3
 simp [results, hr, e1, e2, e3, asAddr, hx, hy, hz]
end
end
section
/-- a call's end: a value of which S tells, or a panic by an error's number -/
def EndsV {α : Type} (E : TypeId) (res : Except Int α) (S : α → Value → World → Prop) (S' : World → Prop) (e : Ending) (w : World) : Prop :=
 match res with
 | .ok a => ∃ v, e = .returned v ∧ S a v w
 | .error k => e = .panicked [{ v := .iface E (.int .i64 k), recovered := false }] ∧ S' w
theorem EndsV.ok {α : Type} {E : TypeId} {res : Except Int α} {S : α → Value → World → Prop} {S' : World → Prop} {e : Ending} {w : World} (a : α) (v : Value) (h : res = .ok a) (he : e = .returned v) (hs : S a v w) : EndsV E res S S' e w := by
 unfold EndsV; rw [h]; exact ⟨v, he, hs⟩
theorem EndsV.err {α : Type} {E : TypeId} {res : Except Int α} {S : α → Value → World → Prop} {S' : World → Prop} {w : World} (k : Int) (h : res = .error k) (hs : S' w) : EndsV E res S S' (.panicked [{ v := .iface E (.int .i64 k), recovered := false }]) w := by
 unfold EndsV; rw [h]; exact ⟨rfl, hs⟩
section
variable {P : Program} {n : Sh} {f : Fr}
theorem WL.cx {ops : Array Oper} {Q : Exit → Fr → World → Prop} {w : World} {rest : List Oper} {d ty : Nat} {pos : String} {aft : Array Edge} {F : FuncId} {xs : List Operand} {ats : Array TypeId} {vs : List Value} {α : Type}
  {E : TypeId} {res : Except Int α} {S : α → Value → World → Prop} {S' : World → Prop} (hb : HasBody P F) (hx : evs f xs = some vs) (hd : Nat.blt d n.n = true)
  (hc : Calls P F vs.toArray w (EndsV E res S S')) (herr : ∀ k w', res = .error k → S' w' → Q (.panic [{ v := .iface E (.int .i64 k), recovered := false }]) f w')
  (hok : ∀ a v w', res = .ok a → S a v w' → WL P n ops Q rest ((d, v) :: f) w') : WL P n ops Q (⟨some d, .call ⟨.value (.func F), xs.toArray, ats⟩, ty, pos, aft, none⟩ :: rest) f w := by
 cases hres : res with
 | ok a => exact WL.call (V := fun v : Value => v) hb hx hd (hc.mono fun e w' h => by rw [hres] at h; exact h) fun v w' h => hok a v w' hres h
 | error k => exact WL.cp hb hx (hc.mono fun e w' h => by rw [hres] at h; exact h) fun w' h => herr k w' hres h
end
theorem OwnM.touch' {α : Type} {L : Lay α} {e : TypeId} {B r : Nat} {w w1 : World} {v : Value} {l : List α} (h : OwnM L e B w v l) (hT : Touch w.heap.size r w w1) (hr : r < B) : OwnM L e B w1 v l :=
 h.same fun g hg => hT.block g (h.lt g hg).2 (by have := (h.lt g hg).1; omega)
section
variable {P : Program} {f : Fr}
theorem Pure.eqNil {x : Operand} {tx ty u : TypeId} {v : Value} (ht : P.underlying tx = some (.interface (P.methodsAt tx))) (hx : evo f x = some (.iface u v)) : Pure P (.binOp .eql tx x (.const .nilIface) ty) f (.bool false) := fun ρ hρ d ty' pos aft g w => by
 have h4 : ρ (.const .nilIface) = .nilIface := hρ _ _ rfl
 simp [execOp, hρ _ _ hx, h4, eqGuard, run_eql_held_nil w tx u v ht]
theorem Pure.eqNil0 {x : Operand} {tx ty : TypeId} (ht : P.underlying tx = some (.interface (P.methodsAt tx))) (hx : evo f x = some .nilIface) : Pure P (.binOp .eql tx x (.const .nilIface) ty) f (.bool true) := fun ρ hρ d ty' pos aft g w => by
 have h4 : ρ (.const .nilIface) = .nilIface := hρ _ _ rfl
 simp [execOp, hρ _ _ hx, h4, eqGuard_nil_constR, run_eql_nil_nil w tx ht]
end
end
section
theorem plex_fail (k : Int) (w : World) : Calls Tryz.prog 82 #[.int .i64 k] w fun e w' => e = .panicked [{ v := .iface 29 (.int .i64 k), recovered := false }] ∧ w = w' := by
 refine W.enter func82 rfl ntmps82 (Nat.le_of_ble_eq_true rfl) ?_
 refine W.reg <| WL.m rfl rfl <| WL.p (.mkI underlying29 rfl) rfl <| WL.panic rfl (pn_is ?_)
 exact ⟨rfl, rfl⟩
theorem guard_nil (b : Nat) (w : World) : Calls Tryz.prog 70 #[.nilIface, .pointer (some ⟨b, 0, none⟩)] w fun e w' => e = .returned (.tuple #[]) ∧ w = w' := by
 refine W.enter func70 rfl ntmps70 (Nat.le_of_ble_eq_true rfl) ?_
 refine W.seq <| W.sr <| WL.m rfl rfl <| WL.p (.eqNil0 kR rfl) rfl <| WL.nil <| ?_
 refine W.condT rfl rfl ?_
 refine W.ret (W.ret0 rfl  ?_)
 exact ⟨rfl, rfl⟩
theorem guard_err (b B : Nat) (j k : Int) (w : World) (h : Blk w b #[.int .i64 j] 29) (hB : B ≤ b) : Calls Tryz.prog 70 #[.iface 29 (.int .i64 k), .pointer (some ⟨b, 0, none⟩)] w fun e w' => e = .returned (.tuple #[]) ∧ Blk w' b #[.int .i64 k] 29 ∧ Upd b w w' := by
 refine W.enter func70 rfl ntmps70 (Nat.le_of_ble_eq_true rfl) ?_
 refine W.seq <| W.sr <| WL.m rfl rfl <| WL.p (.eqNil kR rfl) rfl <| WL.nil <| ?_
 refine W.condF rfl rfl ?_
 refine W.skip <| W.sr <| WL.m rfl rfl <| WL.p (.tas underlying29 rfl) rfl <| WL.m rfl rfl <| WL.p (.ext rfl rfl) rfl <| WL.p (.ext rfl rfl) rfl <| WL.a rfl rfl <| WL.z rfl rfl ?_
 refine W.seq <| W.sr <| WL.m rfl rfl <| WL.p (.not rfl) rfl <| WL.nil <| ?_
 refine W.condF rfl rfl ?_
 refine W.skip <| W.reg <| WL.m rfl rfl <| WL.m rfl rfl <| WL.p (.nck rfl) rfl <| WL.st sizeOf29 rfl rfl rfl h oD (fun w1 hkw1 huw1 hsw1 => ?_)
 have hkw1 : Blk w1 b _ _ := hkw1
 have huw1 : Upd b _ _ := huw1
 refine WL.nil <| ?_
 refine W.norm (W.ret0 rfl ?_)
 exact ⟨rfl, hkw1, by assumption⟩
theorem plex_quiet (b1 b2 b5 : Nat) (w : World) (h : Blk w b5 #[.int .i64 0] 29) :
  CallsD Tryz.prog 69 #[.pointer (some ⟨b5, 0, none⟩), .pointer (some ⟨b1, 0, none⟩), .pointer (some ⟨b2, 0, none⟩)] .returning w fun e u' w' => u' = .returning ∧ (∃ v, e = .returned v) ∧ w' = w := by
 refine CallsD.rec func69 rfl ntmps69 (Nat.le_of_ble_eq_true rfl) rfl ?_
 refine WL.c1 hb70 rfl rfl ((guard_nil _ _)) (fun w1 hw1 => ?_)
 obtain rfl := hw1
 refine WL.nil <| ?_
 refine W.sr <| WL.r (Rd.ld (isAgg29 _) rfl h rfl) rfl <| WL.p (.neq rfl rfl) rfl <| WL.nil <| ?_
 refine W.condF rfl rfl ?_
 refine W.skip ?_
 refine W.norm (W.ret0 rfl ?_)
 exact ⟨⟨_, rfl⟩, rfl⟩
theorem plex_caught (b1 b2 b5 B : Nat) (c0 c1 c2 c3 c4 c5 : Value) (i j k : Int) (w : World) (h1 : Blk w b1 [c0, c1, c2, c3, c4, c5].toArray 28) (h2 : Blk w b2 #[.int .i64 i] 3) (h5 : Blk w b5 #[.int .i64 j] 29) (hB1 : B ≤ b1) (h12 : b1 < b2) (h25 : b2 < b5) (hk : k ≠ 0) :
  CallsD Tryz.prog 69 #[.pointer (some ⟨b5, 0, none⟩), .pointer (some ⟨b1, 0, none⟩), .pointer (some ⟨b2, 0, none⟩)] (.panicking [{ v := .iface 29 (.int .i64 k), recovered := false }]) w
   fun e u' w' => u' = .panicking [{ v := .iface 29 (.int .i64 k), recovered := true }] ∧ (∃ v, e = .returned v) ∧
    Blk w' b1 (pobj 0 0 []).toArray 28 ∧ Blk w' b2 #[.int .i64 0] 3 ∧ Blk w' b5 #[.int .i64 k] 29 ∧ Below B w w' := by
 refine CallsD.rec func69 rfl ntmps69 (Nat.le_of_ble_eq_true rfl) rfl ?_
 have hB0 := Below.refl (B) w
 refine WL.c1 hb70 rfl rfl ((guard_err b5 B _ k _ h5 oO)) (fun w1 hw1 => ?_)
 obtain ⟨hg1, hg2⟩ := hw1
 have hb1 := (h1).upd hg2 oO
 have hb2 := (h2).upd hg2 oO
 have hBg := Upd.below hB0 oO hg2
 refine WL.nil <| ?_
 refine W.sr <| WL.r (Rd.ld (isAgg29 _) rfl hg1 rfl) rfl <| WL.p (.bis (true) (.neq rfl rfl) (by simp [hk])) rfl <| WL.nil <| ?_
 refine W.condT rfl rfl ?_
 refine W.reg <| WL.p (.buildL (ps := _) blt28 rfl rfl rfl pZ) rfl ?_
 refine WL.stL rfl rfl hb1 isz28 rfl rfl (fun w2 hkw2 huw2 hsw2 => ?_)
 have hk3 := hg1.upd huw2 oM
 have hk4 := hb2.upd huw2 oM
 have hB5 := Upd.below hBg oO huw2
 refine WL.st sizeOf3 rfl rfl rfl hk4 oD (fun w6 hkw6 huw6 hsw6 => ?_)
 have hkw6 : Blk w6 b2 _ _ := hkw6
 have huw6 : Upd b2 _ _ := huw6
 have hk7 := hk3.up huw6
 have hk8 := hkw2.up huw6
 have hB9 := Upd.below hB5 oO huw6
 refine WL.nil <| ?_
 refine W.norm (W.ret0 rfl ?_)
 exact ⟨⟨_, rfl⟩, hk8, hkw6, hk7, hB9⟩
end
section
open Go.RowKit Go.WideShapes Go.ChangeShapes
theorem fold_set : ∀ (vs : List Value) (s o : Nat) (pre mid post : List Value), pre.length = o + s → mid.length = vs.length →
  (vs.zipIdx s).foldl (fun (cs : Array Value) (x : Value × Nat) => cs.setIfInBounds (o + x.2) x.1) (pre ++ mid ++ post).toArray = (pre ++ vs ++ post).toArray
 | [], s, o, pre, mid, post, h1, h2 => by
  obtain rfl : mid = [] := List.length_eq_zero_iff.1 (by simpa using h2)
  rfl
 | v :: r, s, o, pre, [], post, h1, h2 => by simp at h2
 | v :: r, s, o, pre, m0 :: mr, post, h1, h2 => by
  have ih := fold_set r (s + 1) o (pre ++ [v]) mr post (by simp; omega) (by simpa using h2)
  rw [List.zipIdx_cons, List.foldl_cons]
  have e : (pre ++ m0 :: mr ++ post).toArray.setIfInBounds (o + s) v = (pre ++ [v] ++ mr ++ post).toArray := by
   rw [← h1]
   simp
  rw [e, ih]
  simp
theorem fill_flat {α : Type} (L : Lay α) : ∀ (xs : List α) (i : Nat) (pre post : List Value), pre.length = i * L.m → post.length = xs.length * L.m →
  Instr.fill (fun i => some (i * L.m, L.m)) (pre ++ post).toArray ((List.range' i xs.length).zip (xs.map fun x => Value.agg (L.V x).toArray)) = some (pre ++ L.flat xs).toArray
 | [], i, pre, post, h1, h2 => by
  obtain rfl : post = [] := List.length_eq_zero_iff.1 (by simpa using h2)
  rfl
 | x :: r, i, pre, post, h1, h2 => by
  have hlx := L.len x
  have h2' : post.length = r.length * L.m + L.m := by rw [h2, List.length_cons, Nat.succ_mul]
  have ih := fill_flat L r (i + 1) (pre ++ L.V x) (post.drop L.m) (by rw [List.length_append, h1, hlx, Nat.succ_mul]) (by rw [List.length_drop]; omega)
  have hf := fold_set (L.V x) 0 (i * L.m) pre (post.take L.m) (post.drop L.m) oO (by rw [List.length_take, hlx]; omega)
  rw [List.append_assoc pre, List.take_append_drop] at hf
  have hc : (Value.agg (L.V x).toArray).cells = (L.V x).toArray := rfl
  rw [List.length_cons, List.range'_succ, List.map_cons, List.zip_cons_cons]
  conv => lhs; unfold Instr.fill
  simp only [hc]
  rw [if_neg (by simp [hlx]; omega)]
  refine Eq.trans (congrArg (fun c => Instr.fill (fun i => some (i * L.m, L.m)) c ((List.range' (i + 1) r.length).zip (r.map fun x => Value.agg (L.V x).toArray))) ?_) (ih.trans (by simp [Lay.flat]))
  rw [← hf]
  simp
section
variable {P : Program} {n : Sh} {f : Fr} {α : Type} {L : Lay α}
/-- a slice made of its structs -/
theorem WL.bslM {ops : Array Oper} {Q : Exit → Fr → World → Prop} {w : World} {rest : List Oper} {d ty : Nat} {pos : String} {aft : Array Edge} {t e : TypeId} {len : Nat} {ps : List (Nat × Operand)} {vs : List Value} {z : Value} (xs : List α)
  (hu : P.underlying t = some (.slice e)) (hs : ∀ w, (sizeOf e).run P w = .ok L.m w) (hz : ∀ w, (zeroValue e).run P w = .ok z w) (_hzs : z.cells.size = L.m) (hl0 : Nat.blt 0 len = true) (hl1 : Nat.ble (len * L.m) 1000 = true)
  (hx : evs f (ps.map (·.2)) = some vs) (hi : ps.map (·.1) = List.range' 0 len) (hv : vs = xs.map fun x => Value.agg (L.V x).toArray) (hl : len = xs.length) (hd : Nat.blt d n.n = true)
  (k : ∀ b w1, b = w.heap.size → OwnM L e b w1 (.slice (some ⟨b, 0, none⟩) len len) xs → Upd b w w1 → w1.heap.size = b + 1 → WL P n ops Q rest ((d, .slice (some ⟨b, 0, none⟩) len len) :: f) w1) :
  WL P n ops Q (⟨some d, .buildSlice t len ps.toArray, ty, pos, aft, none⟩ :: rest) f w := by
 have h0 : 0 < len := by simpa [Nat.blt_eq] using hl0
 have h1 : len * L.m ≤ 1000 := by simpa using hl1
 have hlm : len ≤ len * L.m := Nat.le_mul_of_pos_right _ L.pos
 refine WL.run hd (w' := w.alloc (.cells (L.flat xs).toArray e)) (v := .slice (some ⟨w.heap.size, 0, none⟩) len len) (fun ρ hρ => ?_) (k _ _ rfl (.inr ⟨w.heap.size, len, _, by rw [← hl], Nat.le_refl _, Blk.alloc _ _ _, by rw [← hl]; exact Nat.le_refl _, by unfold maxLen; omega, by rw [List.size_toArray, L.flat_len, ← hl]; exact Nat.le_refl _, by show (L.flat xs).take _ = _; rw [List.take_of_length_le (by rw [L.flat_len]; exact Nat.le_refl _)]⟩) (Upd.alloc _ _) (by simp))
 have e1 := evs_map hρ _ _ hx
 have e2 : (ps.toArray.map fun (i, x) => (i, ρ x)).toList = (ps.map (·.1)).zip vs := by
  rw [← e1]
  simp only [List.map_map, Array.toList_map]
  clear hx hi hv e1
  induction ps with
  | nil => rfl
  | cons p r ih => simpa using ih
 have hfill := fill_flat L xs 0 [] ((Array.range (len * L.m)).map (fun x => z.cells[x % z.cells.size]!)).toList (by simp) (by simp [hl])
 simp only [List.nil_append, Array.toArray_toList] at hfill
 rw [hi, hl, hv] at e2
 rw [← hl] at e2 hfill
 have hne : ¬ len * L.m = 0 := by omega
 have hbig : ¬ 16777216 < len * L.m := by omega
 unfold execOp
 simp only [Instr.buildSlice, Sem.run_bind, run_underlying hu, hs, Result.andThen_ok, e2]
 rw [if_neg oO, if_neg hne]
 simp only [Sem.run_bind, hz, Sem.run_pure, Result.andThen_ok, hfill]
 simp [newRow]
/-- a struct written into a row of the call's own -/
theorem WL.stM {ops : Array Oper} {Q : Exit → Fr → World → Prop} {w : World} {rest : List Oper} {ty : Nat} {pos : String} {aft : Array Edge} {t e : TypeId} {x y : Operand} {B nn c : Nat} {p : Option Addr} {l : List α} {vs : List Value} (o : α) (k : Nat)
  (hown : OwnM L e B w (.slice p nn c) l) (hk : k < l.length) (hi : (P.info? t).map (·.size) = some L.m) (hx : evo f x = some (.pointer (some ((pA p).add (k * L.m))))) (hy : evo f y = some (.agg vs.toArray)) (hv : vs = L.V o)
  (kk : ∀ w1 g, p = some ⟨g, 0, none⟩ → Upd g w w1 → OwnM L e B w1 (.slice p nn c) (l.set k o) → WL P n ops Q rest f w1) :
  WL P n ops Q (⟨none, .store t x y, ty, pos, aft, none⟩ :: rest) f w := by
 subst hv
 rcases hown with ⟨h1, h2⟩ | ⟨g, cap, cur, h1, hB, hg, hnc, hcm, hcs, htake⟩
 ·
  rw [h2] at hk; simp only [List.length_nil] at hk; omega
 ·
  cases h1
  have hlo := L.len o
  have hll := L.flat_len l
  have hkm : k * L.m + L.m ≤ l.length * L.m := by rw [← Nat.succ_mul]; exact Nat.mul_le_mul_right _ hk
  have hlm : l.length * L.m ≤ c * L.m := Nat.mul_le_mul_right _ hnc
  have hst := run_storeCells_at P g (k * L.m) e (L.V o) 0 cur w hg (by rw [hlo]; omega) (L.one o)
  rw [show pA (some (⟨g, 0, none⟩ : Addr)) = ⟨g, 0, none⟩ from rfl, add_lit, Nat.zero_add] at hx
  have hls : (l.set k o).length = l.length := List.length_set
  refine WL.act (w' := w.setRow g (cur.toList.take (k * L.m + 0) ++ L.V o ++ cur.toList.drop (k * L.m + 0 + (L.V o).length)).toArray) (fun ρ hρ => ?_)
   (kk _ g rfl (Upd.setRow _ _ _) (.inr ⟨g, c, _, by rw [hls], hB, setRow_heap w g cur _ e _ hg, by rw [hls]; exact hnc, hcm, ?_, ?_⟩))
  ·
   cases hq : P.info? t with
   | none => simp [hq] at hi
   | some i =>
    have hs : i.size = L.m := by simpa [hq] using hi
    unfold execOp
    simp [hρ _ _ hx, hρ _ _ hy, Instr.storeAt, Instr.sureAddr, storeVar, Sem.run_bind, sizeOf, typeInfo, hq, hs, Value.cells, hlo, hst]
  ·
   simp only [List.size_toArray, List.length_append, List.length_take, List.length_drop, Array.length_toList, hlo]
   omega
  ·
   rw [hls, ← list_set_flat L l k hk o, Nat.add_zero, hlo, ← htake]
   rw [List.take_take, Nat.min_eq_left oO]
   rw [List.append_assoc, List.append_assoc, List.take_append, List.take_append]
   simp only [List.length_take, Array.length_toList, hlo]
   rw [Nat.min_eq_left oO, List.take_take, Nat.min_eq_right oO, List.take_of_length_le (l := L.V o) oO, List.drop_take]
   congr 3
   omega
theorem flat_set_field (L : Lay α) (l : List α) (k i : Nat) (hk : k < l.length) (hi : i < L.m) (o : α) (v : Value) (hv : L.V o = (L.V l[k]).set i v) : (L.flat l).set (k * L.m + i) v = L.flat (l.set k o) := by
 have e0 := list_set_flat L l k hk l[k]
 rw [List.set_getElem_self] at e0
 have hl := L.flat_len l
 have hkm : k * L.m + L.m ≤ l.length * L.m := by rw [← Nat.succ_mul]; exact Nat.mul_le_mul_right _ hk
 have ht : ((L.flat l).take (k * L.m)).length = k * L.m := by rw [List.length_take]; omega
 have hlk := L.len l[k]
 rw [← list_set_flat L l k hk o, hv]
 conv => lhs; rw [← e0]
 rw [List.append_assoc, List.set_append_right _ _ oO, ht, Nat.add_sub_cancel_left, List.set_append_left _ _ oO, List.append_assoc]
/-- a field of a struct written in a row of the call's own -/
theorem WL.stF {ops : Array Oper} {Q : Exit → Fr → World → Prop} {w : World} {rest : List Oper} {ty : Nat} {pos : String} {aft : Array Edge} {t e : TypeId} {x y : Operand} {B nn c : Nat} {p : Option Addr} {l : List α} {v : Value} (o : α) (k i : Nat)
  (hown : OwnM L e B w (.slice p nn c) l) (hk : k < l.length) (hi : i < L.m) (hs : ∀ w, (sizeOf t).run P w = .ok 1 w) (hx : evo f x = some (.pointer (some (((pA p).add (k * L.m)).add i)))) (hy : evo f y = some v) (h1 : v.oneCell' = true) (hv : L.V o = (L.V l[k]).set i v)
  (kk : ∀ w1 g, p = some ⟨g, 0, none⟩ → Upd g w w1 → OwnM L e B w1 (.slice p nn c) (l.set k o) → WL P n ops Q rest f w1) :
  WL P n ops Q (⟨none, .store t x y, ty, pos, aft, none⟩ :: rest) f w := by
 rcases hown with ⟨h1, h2⟩ | ⟨g, cap, cur, h2, hB, hg, hnc, hcm, hcs, htake⟩
 ·
  rw [h2] at hk; simp only [List.length_nil] at hk; omega
 ·
  cases h2
  have hkm : k * L.m + L.m ≤ l.length * L.m := by rw [← Nat.succ_mul]; exact Nat.mul_le_mul_right _ hk
  have hlm : l.length * L.m ≤ c * L.m := Nat.mul_le_mul_right _ hnc
  have hst := run_storeCells_at P g (k * L.m + i) e [v] 0 cur w hg (by simp only [List.length_cons, List.length_nil]; omega) (by simpa using h1)
  rw [show pA (some (⟨g, 0, none⟩ : Addr)) = ⟨g, 0, none⟩ from rfl, add_lit, add_lit, Nat.zero_add] at hx
  have hls : (l.set k o).length = l.length := List.length_set
  have hcv : v.cells = #[v] := by cases v <;> first | rfl | cases h1
  have hset : cur.toList.take (k * L.m + i + 0) ++ [v] ++ cur.toList.drop (k * L.m + i + 0 + [v].length) = cur.toList.set (k * L.m + i) v := by
   rw [List.set_eq_take_append_cons_drop, if_pos (by rw [Array.length_toList]; omega)]
   simp
  rw [hset] at hst
  refine WL.act (w' := w.setRow g (cur.toList.set (k * L.m + i) v).toArray) (fun ρ hρ => ?_)
   (kk _ g rfl (Upd.setRow _ _ _) (.inr ⟨g, c, _, by rw [hls], hB, setRow_heap w g cur _ e _ hg, by rw [hls]; exact hnc, hcm, ?_, ?_⟩))
  ·
   unfold execOp
   simp [hρ _ _ hx, hρ _ _ hy, Instr.storeAt, Instr.sureAddr, storeVar, Sem.run_bind, hs, hcv, hst]
  ·
   simpa using hcs
  ·
   rw [hls, ← flat_set_field L l k i hk hi o v hv, ← htake, List.take_set]
end
theorem OwnM.rowp {α : Type} {L : Lay α} {e : TypeId} {B n c : Nat} {w : World} {p : Option Addr} {l : List α} (h : OwnM L e B w (.slice p n c) l) : RowM L w p l := by
 obtain ⟨p', c', hv, hr, -⟩ := h.row
 cases hv
 exact hr
end
section
/-- an object -/
inductive PV where
 | mk (kind n : Int) (text : List UInt8) (keys : List (List UInt8)) (list : List PV)
/-- an object's cells -/
structure PC where
 kind : Int
 n : Int
 text : List UInt8
 kp : Option Addr
 kl : Nat
 kc : Nat
 lp : Option Addr
 ll : Nat
 lc : Nat
def pcV (x : PC) : List Value := [.int .i64 x.kind, .int .i64 x.n, .string (bs x.text), .slice x.kp x.kl x.kc, .slice x.lp x.ll x.lc, .slice none 0 0]
def pcL : Lay PC := ⟨6, pcV, by decide, fun _ => rfl, fun x u hu => List.all_eq_true.1 (show (pcV x).all Value.oneCell' = true from rfl) u hu⟩
def pc0 (k n : Int) (s : List UInt8) : PC := ⟨k, n, s, none, 0, 0, none, 0, 0⟩
def pv0 (k n : Int) (s : List UInt8) : PV := .mk k n s [] []
/-- strings as elements -/
def strL : Lay (List UInt8) := ⟨1, fun s => [.string (bs s)], by decide, fun _ => rfl, fun x u hu => by simp only [List.mem_singleton] at hu; subst hu; rfl⟩
theorem RowM.lit {α : Type} {V : Lay α} {w : World} {b : Nat} {cs : Array Value} {t : TypeId} {l : List α} (h : Blk w b cs t) (e : cs = (V.flat l).toArray) : RowM V w (some ⟨b, 0, none⟩) l := by
 subst e
 refine RowM.of_flat (fun _ => rfl) fun k v hk => ?_
 show w.cell? ((⟨b, 0, none⟩ : Addr).add k) = _
 rw [add_lit, Nat.zero_add, h.cell k]
 simpa using hk
theorem RowM.strs {w : World} {p : Option Addr} {l : List (List UInt8)} (h : RowM strL w p l) : RowAt strV w p l := ⟨h.isp, fun j hj => by
 have := h.cells j hj 0 dD
 rw [show j * strL.m + 0 = j by show j * 1 + 0 = j; omega] at this
 exact this⟩
/-- a row of strings that is the call's own, within blocks of S -/
def StrsAt (S : Nat → Prop) (w : World) (v : Value) (l : List (List UInt8)) : Prop := OwnM strL 9 0 w v l ∧ ∀ g, v.ownBlock = some g → S g
def RowIn (S : Nat → Prop) (w : World) (v : Value) (cs : List PC) : Prop := OwnM pcL 28 0 w v cs ∧ ∀ g, v.ownBlock = some g → S g
/-- cells that hold an object; all that they lead to lies in blocks of S -/
inductive PRep (w : World) (S : Nat → Prop) : PC → PV → Prop
 | mk (x : PC) (keys : List (List UInt8)) (list : List PV) (cs : List PC) (hk : StrsAt S w (.slice x.kp x.kl x.kc) keys) (hr : RowIn S w (.slice x.lp x.ll x.lc) cs) (hlen : cs.length = list.length)
   (hsub : ∀ i (h : i < cs.length) (h2 : i < list.length), PRep w S cs[i] list[i]) : PRep w S x (.mk x.kind x.n x.text keys list)
theorem PRep.zero (w : World) (S : Nat → Prop) (k n : Int) (s : List UInt8) : PRep w S (pc0 k n s) (pv0 k n s) :=
 PRep.mk (pc0 k n s) [] [] [] ⟨OwnM.nil _ _ _ _, fun g h => by cases h⟩ ⟨OwnM.nil _ _ _ _, fun g h => by cases h⟩ rfl fun i h => by simp at h
theorem StrsAt.same {S : Nat → Prop} {w w1 : World} {v : Value} {l : List (List UInt8)} (h : StrsAt S w v l) (hb : ∀ k, S k → k < w.heap.size → w1.heap[k]? = w.heap[k]?) : StrsAt S w1 v l :=
 ⟨h.1.same fun g hg => hb g (h.2 g hg) (h.1.lt g hg).2, h.2⟩
theorem RowIn.same {S : Nat → Prop} {w w1 : World} {v : Value} {l : List PC} (h : RowIn S w v l) (hb : ∀ k, S k → k < w.heap.size → w1.heap[k]? = w.heap[k]?) : RowIn S w1 v l :=
 ⟨h.1.same fun g hg => hb g (h.2 g hg) (h.1.lt g hg).2, h.2⟩
theorem PRep.same {S : Nat → Prop} {w w1 : World} {x : PC} {o : PV} (h : PRep w S x o) (hb : ∀ k, S k → k < w.heap.size → w1.heap[k]? = w.heap[k]?) : PRep w1 S x o := by
 induction h with
 | mk x keys list cs hk hr hlen _ ih => exact .mk x keys list cs (hk.same hb) (hr.same hb) hlen ih
theorem PRep.mono {S T : Nat → Prop} {w : World} {x : PC} {o : PV} (h : PRep w S x o) (hST : ∀ k, S k → k < w.heap.size → T k) : PRep w T x o := by
 induction h with
 | mk x keys list cs hk hr hlen _ ih => exact .mk x keys list cs ⟨hk.1, fun g hg => hST g (hk.2 g hg) (hk.1.lt g hg).2⟩ ⟨hr.1, fun g hg => hST g (hr.2 g hg) (hr.1.lt g hg).2⟩ hlen ih
end
section
/-- a name's bytes -/
def decN : List UInt8 → Option (List UInt8)
 | [] => some []
 | [c] => if c = 35 then none else some [c]
 | [c, a] => if c = 35 then none else (decN [a]).map (c :: ·)
 | c :: a :: b :: r =>
  if c = 35 then (if hexN a < 16 ∧ hexN b < 16 then (decN r).map (ch ((16 * hexN a + hexN b : Nat) : Int) :: ·) else none)
  else (decN (a :: b :: r)).map (c :: ·)
def nameP (l : List UInt8) (t : Nat) : Except Int (List UInt8 × Nat) :=
 match decN (wordL l t) with
 | none => .error 23
 | some out => if out = [] ∨ 0 ∈ out then .error 23 else if 127 < out.length then .error 25 else .ok (out, wordAt l t)
/-- does a string in brackets stand open at the bytes' end -/
def pOpen (c : UInt8) : Bool := c != 62 && (blankB c || decide (hexN c < 16))
def openB (l : List UInt8) (t : Nat) : Bool := if l[t]? = some 60 then (l.drop (t + 1)).all pOpen else true
def textR (l : List UInt8) (t : Nat) : Except Int (List UInt8 × Nat) :=
 if (nextR l t).e = 14 ∧ openB l t = true then .error 24
 else if (nextR l t).e = 9 then .error 25
 else if (nextR l t).e ≠ 0 ∨ (nextR l t).k ≠ 6 then .error 23
 else .ok ((nextR l t).s, (nextR l t).at'.toNat)
abbrev ObjE := Except Int (PV × Nat)
def listP (obj : Nat → ObjE) (l : List UInt8) : Nat → List PV → Nat → Except Int (List PV × Nat)
 | 0, _, _ => .error 24
 | f + 1, acc, t =>
  match l[skipAt false l t]? with
  | none => .error 24
  | some c =>
   if c = 93 then .ok (acc, skipAt false l t + 1)
   else if 65535 ≤ acc.length then .error 25
   else match obj (skipAt false l t) with
    | .error k => .error k
    | .ok (o, t') => listP obj l f (acc ++ [o]) t'
def pairsP (obj : Nat → ObjE) (l : List UInt8) : Nat → List (List UInt8) → List PV → Nat → Except Int (List (List UInt8) × List PV × Nat)
 | 0, _, _, _ => .error 24
 | f + 1, ks, os, t =>
  match l[skipAt false l t]? with
  | none => .error 24
  | some c =>
   if c = 62 ∧ l.length ≤ skipAt false l t + 1 then .error 24
   else if c = 62 ∧ l[skipAt false l t + 1]? = some 62 then .ok (ks, os, skipAt false l t + 2)
   else if c ≠ 47 then .error 23
   else match nameP l (skipAt false l t + 1) with
    | .error k => .error k
    | .ok (k, t1) =>
     if k ∈ ks then .error 23
     else if 65535 ≤ os.length then .error 25
     else match l[skipAt false l t1]? with
      | none => .error 24
      | some _ => match obj (skipAt false l t1) with
       | .error k => .error k
       | .ok (o, t') => pairsP obj l f (ks ++ [k]) (os ++ [o]) t'
def textP (l : List UInt8) (t : Nat) : ObjE := match textR l t with | .error k => .error k | .ok (s, t') => .ok (pv0 5 0 s, t')
def nameO (l : List UInt8) (t : Nat) : ObjE := match nameP l t with | .error k => .error k | .ok (s, t') => .ok (pv0 4 0 s, t')
def listO (r : Except Int (List PV × Nat)) : ObjE := match r with | .error k => .error k | .ok (os, t') => .ok (.mk 6 0 [] [] os, t')
def pairsO (r : Except Int (List (List UInt8) × List PV × Nat)) : ObjE := match r with | .error k => .error k | .ok (ks, os, t') => .ok (.mk 7 0 [] ks os, t')
def plainO (X : WR) : ObjE := if X.ok then .ok (pv0 X.kind X.n [], X.np) else .error 23
/-- the object at a place; d: how many lists may be within one another -/
def objP (refs : Bool) (l : List UInt8) : Nat → Nat → ObjE
 | 0, t =>
  match l[t]? with
  | none => .error 24
  | some c =>
   if c = 47 then nameO l (t + 1)
   else if c = 91 then .error 25
   else if c = 40 then textP l t
   else if c = 60 then (if l.length ≤ t + 1 then .error 24 else if l[t + 1]? ≠ some 60 then textP l t else .error 25)
   else plainO (plexW refs l t)
 | d + 1, t =>
  match l[t]? with
  | none => .error 24
  | some c =>
   if c = 47 then nameO l (t + 1)
   else if c = 91 then listO (listP (objP refs l d) l (l.length + 1) [] (t + 1))
   else if c = 40 then textP l t
   else if c = 60 then (if l.length ≤ t + 1 then .error 24 else if l[t + 1]? ≠ some 60 then textP l t else pairsO (pairsP (objP refs l d) l (l.length + 1) [] [] (t + 2)))
   else plainO (plexW refs l t)
end
section
/-- a hexadecimal digit's number, or -1 -/
def digI (c : UInt8) : Int := match hexD c with | some d => (d : Int) | none => -1
theorem digI_cases (c : UInt8) : digI c = -1 ∧ 15 < hexN c ∨ digI c = hexN c ∧ hexN c < 16 := by
 unfold digI hexD
 by_cases h : hexN c < 16
 ·
  rw [if_pos h]; exact Or.inr ⟨rfl, h⟩
 ·
  rw [if_neg h]; exact Or.inl ⟨rfl, by omega⟩
theorem scan_digit (c : UInt8) (w : World) :
  Calls Tryz.prog 141 #[.int .u8 (c.toNat : Int)] w fun e w' => e = .returned (.int .i64 (digI c)) ∧ w = w' := by
 obtain ⟨R, hR⟩ : ∃ R : Int, R = digI c := ⟨_, rfl⟩
 rw [← hR]
 have hR' : R = if 48 ≤ c.toNat ∧ c.toNat ≤ 57 then (c.toNat : Int) - 48 else if 97 ≤ c.toNat ∧ c.toNat ≤ 102 then (c.toNat : Int) - 87 else if 65 ≤ c.toNat ∧ c.toNat ≤ 70 then (c.toNat : Int) - 55 else -1 := by
  rw [hR]; unfold digI hexD
  by_cases h1 : 48 ≤ c.toNat ∧ c.toNat ≤ 57
  rw [show hexN c = c.toNat - 48 by unfold hexN; rw [if_pos h1], if_pos oO, if_pos h1]; show ((c.toNat - 48 : Nat) : Int) = _; omega
  rw [if_neg h1]
  by_cases h2 : 97 ≤ c.toNat ∧ c.toNat ≤ 102
  rw [show hexN c = c.toNat - 87 by unfold hexN; rw [if_neg h1, if_pos oO], if_pos oO, if_pos h2]; show ((c.toNat - 87 : Nat) : Int) = _; omega
  rw [if_neg h2]
  by_cases h3 : 65 ≤ c.toNat ∧ c.toNat ≤ 70
  rw [show hexN c = c.toNat - 55 by unfold hexN; rw [if_neg h1, if_neg oO, if_pos oO], if_pos oO, if_pos h3]; show ((c.toNat - 55 : Nat) : Int) = _; omega
  rw [if_neg h3, if_neg]
  unfold hexN; rw [if_neg h1]
  split
  omega
  split <;> omega
 have hc : c.toNat < 256 := UInt8.toNat_lt c
 refine W.enter func141 rfl ntmps141 (Nat.le_of_ble_eq_true rfl) ?_
 refine W.sr <| WL.z rfl rfl ?_
 refine W.seq <| W.block <| W.sr <| WL.m rfl rfl <| WL.p (.geq rfl rfl) rfl <| WL.m rfl rfl <| WL.gd rfl rfl rfl (fun g1 => ?_) (fun g1 => ?_)
 have g1' := dT g1
 refine WL.m rfl rfl <| WL.gy rfl rfl rfl g1 <| WL.p (.leq rfl rfl) rfl <| WL.p (.pkT rfl g1 rfl) rfl <| WL.z rfl rfl ?_
 refine W.cond rfl (fun h2 => ?_) (fun h2 => ?_)
 have h2' := dT h2
 refine W.sr <| WL.m rfl rfl <| WL.p (.sub rfl rfl (u8w oO)) rfl <| WL.p (.cvt underlying5 underlying3 rfl (i64w oO)) rfl <| WL.z rfl rfl ?_
 refine W.ret (W.ret1 rfl rfl ?_)
 exact ⟨ret_int (by rw [hR']; (repeat' split) <;> omega), rfl⟩
 have h2' := dF h2
 refine W.sr <| WL.m rfl rfl <| WL.p (.geq rfl rfl) rfl <| WL.m rfl rfl <| WL.gd rfl rfl rfl (fun g3 => ?_) (fun g3 => ?_)
 have g3' := dT g3
 refine WL.m rfl rfl <| WL.gy rfl rfl rfl g3 <| WL.p (.leq rfl rfl) rfl <| WL.p (.pkT rfl g3 rfl) rfl <| WL.z rfl rfl ?_
 refine W.cond rfl (fun h4 => ?_) (fun h4 => ?_)
 have h4' := dT h4
 refine W.sr <| WL.m rfl rfl <| WL.p (.sub rfl rfl (u8w oO)) rfl <| WL.p (.cvt underlying5 underlying3 rfl (i64w oO)) rfl <| WL.p (.add rfl rfl (i64w oO)) rfl <| WL.z rfl rfl ?_
 refine W.ret (W.ret1 rfl rfl ?_)
 exact ⟨ret_int (by rw [hR']; (repeat' split) <;> omega), rfl⟩
 have h4' := dF h4
 refine W.sr <| WL.m rfl rfl <| WL.p (.geq rfl rfl) rfl <| WL.m rfl rfl <| WL.gd rfl rfl rfl (fun g5 => ?_) (fun g5 => ?_)
 have g5' := dT g5
 refine WL.m rfl rfl <| WL.gy rfl rfl rfl g5 <| WL.p (.leq rfl rfl) rfl <| WL.p (.pkT rfl g5 rfl) rfl <| WL.z rfl rfl ?_
 refine W.cond rfl (fun h6 => ?_) (fun h6 => ?_)
 have h6' := dT h6
 refine W.sr <| WL.m rfl rfl <| WL.p (.sub rfl rfl (u8w oO)) rfl <| WL.p (.cvt underlying5 underlying3 rfl (i64w oO)) rfl <| WL.p (.add rfl rfl (i64w oO)) rfl <| WL.z rfl rfl ?_
 refine W.ret (W.ret1 rfl rfl ?_)
 exact ⟨ret_int (by rw [hR']; (repeat' split) <;> omega), rfl⟩
 have h6' := dF h6
 refine W.skip <| W.sr <| WL.z rfl rfl ?_
 refine W.ret (W.ret1 rfl rfl ?_)
 exact ⟨ret_int (by rw [hR']; (repeat' split) <;> omega), rfl⟩
 have g5' := dF g5
 refine WL.gn rfl rfl rfl g5 <| WL.p (.pkF rfl g5 rfl) rfl <| WL.z rfl rfl ?_
 refine W.condF rfl rfl ?_
 refine W.skip <| W.sr <| WL.z rfl rfl ?_
 refine W.ret (W.ret1 rfl rfl ?_)
 exact ⟨ret_int (by rw [hR']; (repeat' split) <;> omega), rfl⟩
 have g3' := dF g3
 refine WL.gn rfl rfl rfl g3 <| WL.p (.pkF rfl g3 rfl) rfl <| WL.z rfl rfl ?_
 refine W.condF rfl rfl ?_
 refine W.sr <| WL.m rfl rfl <| WL.p (.geq rfl rfl) rfl <| WL.m rfl rfl <| WL.gd rfl rfl rfl (fun g7 => ?_) (fun g7 => ?_)
 have g7' := dT g7
 refine WL.m rfl rfl <| WL.gy rfl rfl rfl g7 <| WL.p (.leq rfl rfl) rfl <| WL.p (.pkT rfl g7 rfl) rfl <| WL.z rfl rfl ?_
 refine W.cond rfl (fun h8 => ?_) (fun h8 => ?_)
 have h8' := dT h8
 refine W.sr <| WL.m rfl rfl <| WL.p (.sub rfl rfl (u8w oO)) rfl <| WL.p (.cvt underlying5 underlying3 rfl (i64w oO)) rfl <| WL.p (.add rfl rfl (i64w oO)) rfl <| WL.z rfl rfl ?_
 refine W.ret (W.ret1 rfl rfl ?_)
 exact ⟨ret_int (by rw [hR']; (repeat' split) <;> omega), rfl⟩
 have h8' := dF h8
 refine W.skip <| W.sr <| WL.z rfl rfl ?_
 refine W.ret (W.ret1 rfl rfl ?_)
 exact ⟨ret_int (by rw [hR']; (repeat' split) <;> omega), rfl⟩
 have g7' := dF g7
 refine WL.gn rfl rfl rfl g7 <| WL.p (.pkF rfl g7 rfl) rfl <| WL.z rfl rfl ?_
 refine W.condF rfl rfl ?_
 refine W.skip <| W.sr <| WL.z rfl rfl ?_
 refine W.ret (W.ret1 rfl rfl ?_)
 exact ⟨ret_int (by rw [hR']; (repeat' split) <;> omega), rfl⟩
 have g1' := dF g1
 refine WL.gn rfl rfl rfl g1 <| WL.p (.pkF rfl g1 rfl) rfl <| WL.z rfl rfl ?_
 refine W.condF rfl rfl ?_
 refine W.sr <| WL.m rfl rfl <| WL.p (.geq rfl rfl) rfl <| WL.m rfl rfl <| WL.gd rfl rfl rfl (fun g9 => ?_) (fun g9 => ?_)
 have g9' := dT g9
 refine WL.m rfl rfl <| WL.gy rfl rfl rfl g9 <| WL.p (.leq rfl rfl) rfl <| WL.p (.pkT rfl g9 rfl) rfl <| WL.z rfl rfl ?_
 refine W.cond rfl (fun h10 => ?_) (fun h10 => ?_)
 have h10' := dT h10
 refine W.sr <| WL.m rfl rfl <| WL.p (.sub rfl rfl (u8w oO)) rfl <| WL.p (.cvt underlying5 underlying3 rfl (i64w oO)) rfl <| WL.p (.add rfl rfl (i64w oO)) rfl <| WL.z rfl rfl ?_
 refine W.ret (W.ret1 rfl rfl ?_)
 exact ⟨ret_int (by rw [hR']; (repeat' split) <;> omega), rfl⟩
 have h10' := dF h10
 refine W.sr <| WL.m rfl rfl <| WL.p (.geq rfl rfl) rfl <| WL.m rfl rfl <| WL.gd rfl rfl rfl (fun g11 => ?_) (fun g11 => ?_)
 have g11' := dT g11
 refine WL.m rfl rfl <| WL.gy rfl rfl rfl g11 <| WL.p (.leq rfl rfl) rfl <| WL.p (.pkT rfl g11 rfl) rfl <| WL.z rfl rfl ?_
 refine W.cond rfl (fun h12 => ?_) (fun h12 => ?_)
 have h12' := dT h12
 refine W.sr <| WL.m rfl rfl <| WL.p (.sub rfl rfl (u8w oO)) rfl <| WL.p (.cvt underlying5 underlying3 rfl (i64w oO)) rfl <| WL.p (.add rfl rfl (i64w oO)) rfl <| WL.z rfl rfl ?_
 refine W.ret (W.ret1 rfl rfl ?_)
 exact ⟨ret_int (by rw [hR']; (repeat' split) <;> omega), rfl⟩
 have h12' := dF h12
 refine W.skip <| W.sr <| WL.z rfl rfl ?_
 refine W.ret (W.ret1 rfl rfl ?_)
 exact ⟨ret_int (by rw [hR']; (repeat' split) <;> omega), rfl⟩
 have g11' := dF g11
 refine WL.gn rfl rfl rfl g11 <| WL.p (.pkF rfl g11 rfl) rfl <| WL.z rfl rfl ?_
 refine W.condF rfl rfl ?_
 refine W.skip <| W.sr <| WL.z rfl rfl ?_
 refine W.ret (W.ret1 rfl rfl ?_)
 exact ⟨ret_int (by rw [hR']; (repeat' split) <;> omega), rfl⟩
 have g9' := dF g9
 refine WL.gn rfl rfl rfl g9 <| WL.p (.pkF rfl g9 rfl) rfl <| WL.z rfl rfl ?_
 refine W.condF rfl rfl ?_
 refine W.sr <| WL.m rfl rfl <| WL.p (.geq rfl rfl) rfl <| WL.m rfl rfl <| WL.gd rfl rfl rfl (fun g13 => ?_) (fun g13 => ?_)
 have g13' := dT g13
 refine WL.m rfl rfl <| WL.gy rfl rfl rfl g13 <| WL.p (.leq rfl rfl) rfl <| WL.p (.pkT rfl g13 rfl) rfl <| WL.z rfl rfl ?_
 refine W.cond rfl (fun h14 => ?_) (fun h14 => ?_)
 have h14' := dT h14
 refine W.sr <| WL.m rfl rfl <| WL.p (.sub rfl rfl (u8w oO)) rfl <| WL.p (.cvt underlying5 underlying3 rfl (i64w oO)) rfl <| WL.p (.add rfl rfl (i64w oO)) rfl <| WL.z rfl rfl ?_
 refine W.ret (W.ret1 rfl rfl ?_)
 exact ⟨ret_int (by rw [hR']; (repeat' split) <;> omega), rfl⟩
 have h14' := dF h14
 refine W.skip <| W.sr <| WL.z rfl rfl ?_
 refine W.ret (W.ret1 rfl rfl ?_)
 exact ⟨ret_int (by rw [hR']; (repeat' split) <;> omega), rfl⟩
 have g13' := dF g13
 refine WL.gn rfl rfl rfl g13 <| WL.p (.pkF rfl g13 rfl) rfl <| WL.z rfl rfl ?_
 refine W.condF rfl rfl ?_
 refine W.skip <| W.sr <| WL.z rfl rfl ?_
 refine W.ret (W.ret1 rfl rfl ?_)
 exact ⟨ret_int (by rw [hR']; (repeat' split) <;> omega), rfl⟩
theorem scan_name (k : Int) (s : List UInt8) (w : World) (hs : s.length ≤ 100000000) :
  Calls Tryz.prog 117 #[.int .i64 k, .string (bs s)] w (Ends 29 (if 127 < s.length then .error 9 else .ok (⟨k, 0, s⟩ : TokV)) TokV.val (fun _ w' => Below w.heap.size w w') (fun w' => Below w.heap.size w w')) := by
 refine W.enter func117 rfl ntmps117 (Nat.le_of_ble_eq_true rfl) ?_
 have hB0 := Below.refl (w.heap.size) w
 refine W.sr <| WL.alloc zeroValue120 rfl (fun b1 wb1 eb1 hkb1 hub1 hsb1 => ?_)
 have hB2 := Upd.below hB0 (by rw [eb1]; exact hB0.size) hub1
 have hgeb1 : w.heap.size ≤ b1 := by rw [eb1]; exact hB0.size
 refine WL.nil <| ?_
 refine W.seq <| W.sr <| WL.m rfl rfl <| WL.p (.len underlying9 rfl) rfl <| WL.p (.gtr rfl rfl) rfl <| WL.nil <| ?_
 refine W.cond rfl (fun h3 => ?_) (fun h3 => ?_)
 have h3' := dT h3
 refine W.reg <| WL.p (.mkI underlying29 rfl) rfl <| WL.panic rfl (pn_is ?_)
 exact Ends.err 9 (by rw [if_pos oO]) hB2
 have h3' := dF h3
 refine W.skip <| W.sr <| WL.m rfl rfl <| WL.m rfl rfl <| ?_
 refine WL.p (.buildL (ps := _) blt120 rfl rfl rfl pS) rfl ?_
 refine WL.stL rfl rfl hkb1 isz120 rfl rfl (fun w4 hkw4 huw4 hsw4 => ?_)
 have hB5 := Upd.below hB2 oO huw4
 refine WL.nil <| ?_
 refine W.ret (W.retc1 rfl rfl (ldRow hkw4 underlying120 rfl isz120)  ?_)
 exact Ends.ok ⟨k, 0, s⟩ (by rw [if_neg oO]) rfl hB5
theorem scan_text (p : Option Addr) (s : List UInt8) (c : Nat) (w : World) (hb : BytesAt w p s) (hs : s.length ≤ 100000000) :
  Calls Tryz.prog 130 #[.slice p s.length c] w (Ends 29 (if 65535 < s.length then .error 9 else .ok (⟨6, 0, s⟩ : TokV)) TokV.val (fun _ w' => Below w.heap.size w w') (fun w' => Below w.heap.size w w')) := by
 refine W.enter func130 rfl ntmps130 (Nat.le_of_ble_eq_true rfl) ?_
 have hB0 := Below.refl (w.heap.size) w
 refine W.sr <| WL.alloc zeroValue120 rfl (fun b1 wb1 eb1 hkb1 hub1 hsb1 => ?_)
 have hvl3 := fun h0 => eb1 ▸ hb.lt h0
 have hv2 := bup hb hub1 hvl3
 have hB4 := Upd.below hB0 (by rw [eb1]; exact hB0.size) hub1
 have hgeb1 : w.heap.size ≤ b1 := by rw [eb1]; exact hB0.size
 refine WL.nil <| ?_
 refine W.seq <| W.sr <| WL.m rfl rfl <| WL.p (.lenS underlying26 rfl) rfl <| WL.p (.gtr rfl rfl) rfl <| WL.nil <| ?_
 refine W.cond rfl (fun h5 => ?_) (fun h5 => ?_)
 have h5' := dT h5
 refine W.reg <| WL.p (.mkI underlying29 rfl) rfl <| WL.panic rfl (pn_is ?_)
 exact Ends.err 9 (by rw [if_pos oO]) hB4
 have h5' := dF h5
 refine W.skip <| W.sr <| WL.m rfl rfl <| WL.r (Rd.b2s (l := s) underlying26 underlying5 underlying9 rfl (hv2)) rfl <| ?_
 refine WL.p (.buildL (ps := _) blt120 rfl rfl rfl pS) rfl ?_
 refine WL.stL rfl rfl hkb1 isz120 rfl rfl (fun w6 hkw6 huw6 hsw6 => ?_)
 have hB8 := Upd.below hB4 oO huw6
 refine WL.nil <| ?_
 refine W.ret (W.retc1 rfl rfl (ldRow hkw6 underlying120 rfl isz120)  ?_)
 exact Ends.ok ⟨6, 0, s⟩ (by rw [if_neg oO]) rfl hB8
/-- a regular byte stands there -/
def regT (l : List UInt8) (t : Nat) : Bool := decide (t < l.length) && regB l[t]!
theorem regT_t {l : List UInt8} {t : Nat} (h : regT l t = true) : t < l.length ∧ wordAt l t = wordAt l (t + 1) := by
 unfold regT at h
 simp only [Bool.and_eq_true, decide_eq_true_eq] at h
 obtain ⟨h1, h2⟩ := h
 rw [getElem!_pos l t h1] at h2
 refine ⟨h1, ?_⟩
 unfold wordAt
 rw [takeWhile_drop regB l t h1, if_pos h2, List.length_cons]; omega
theorem regT_f {l : List UInt8} {t : Nat} (h : regT l t = false) : wordAt l t = t := by
 unfold wordAt
 by_cases h1 : t < l.length
 ·
  unfold regT at h
  rw [decide_eq_true h1, Bool.true_and, getElem!_pos l t h1] at h
  rw [takeWhile_drop regB l t h1, if_neg (bF h)]; rfl
 ·
  rw [List.drop_eq_nil_of_le oO]; rfl
theorem regular_q (x : UInt8) (w : World) (m : Nat) : Calls Tryz.prog 132 #[.int .u8 (x.toNat : Int)] (w.drewN m) fun e w' => e = .returned (.bool (regB x)) ∧ ∃ k, w' = w.drewN k :=
 (scan_regular x (w.drewN m)).mono fun e w' h => ⟨h.1, m, h.2.symm⟩
theorem scan_word (r : Nat) (p : Option Addr) (l : List UInt8) (c a : Nat) (w : World) (h : RdOk w r p l c a) (hne : 0 < l.length → (pA p).block ≠ r) (hc : l.length ≤ c) (hl : l.length ≤ 100000000) (ha : a ≤ l.length) :
  Calls Tryz.prog 116 #[.pointer (some ⟨r, 0, none⟩)] w fun e w' => e = .returned (.string (bs ((l.drop a).takeWhile regB))) ∧ RdOk w' r p l c (wordAt l a) ∧ Touch w.heap.size r w w' := by
 have hr := h.1
 have hb := h.2
 refine W.enter func116 rfl ntmps116 (Nat.le_of_ble_eq_true rfl) ?_
 refine W.sr <| WL.z rfl rfl ?_
 refine W.sr <| WL.m rfl rfl <| WL.p (.nck rfl) rfl <| WL.p (.fa underlying128 rfl sizeOf3 dD rfl) rfl <| WL.r (Rd.ld (isAgg3 _) rfl hr rfl) rfl <| WL.z rfl rfl ?_
 refine W.seq <| W.block ?_
 refine W.loop (α := Nat) (fun t => [(0, .pointer (some ⟨r, 0, none⟩)), (3, .int .i64 (a : Int))]) (fun t w' => RdOk w' r p l c t ∧ Touch w.heap.size r w w' ∧ a ≤ t ∧ t ≤ l.length ∧ wordAt l t = wordAt l a) (fun t => l.length - t) (a) ⟨rfl, rfl, trivial⟩ (⟨h, Touch.refl _ _ _, Nat.le_refl _, ha, rfl⟩) (fun t w1 hR => ?_)
 obtain ⟨hrd, hT, hat, ht, hw⟩ := hR
 refine W.seq ?_
 refine W.cutBQ 22 (regT l t) ?_ (fun w1 dw1 => ?_)
 refine W.regQ mixed kR ?_
 refine WQ.p (.mv rfl) rfl <| WQ.c1 hb112 rfl rfl (fun m => (more_q r p l c t _ ⟨hrd.1, hrd.2⟩ m)) <| WQ.p (.mv rfl) rfl <| WQ.gd rfl rfl rfl (fun g2 => ?_) (fun g2 => ?_)
 have g2' := dT g2
 refine WQ.p (.mv rfl) rfl <| WQ.gy rfl rfl rfl g2 <| WQ.p (.nck rfl) rfl <| WQ.gy rfl rfl rfl g2 <| WQ.p (.fa underlying128 rfl sizeOf26 dD rfl) rfl <| WQ.gy rfl rfl rfl g2 <| WQ.r (fun m => Rd.ld (isAgg26 _) rfl hrd.1 rfl) rfl <| WQ.gy rfl rfl rfl g2 <| WQ.p (.mv rfl) rfl <| WQ.gy rfl rfl rfl g2 <| WQ.p (.nck rfl) rfl <| WQ.gy rfl rfl rfl g2 <| WQ.p (.fa underlying128 rfl sizeOf3 dD rfl) rfl <| WQ.gy rfl rfl rfl g2 <| WQ.r (fun m => Rd.ld (isAgg3 _) rfl hrd.1 rfl) rfl <| WQ.gy rfl rfl rfl g2 <| WQ.p (.ixb underlying26 sizeOf5 rfl rfl (hrd.2.isp oO) (t) oO oO) rfl <| WQ.gy rfl rfl rfl g2 <| WQ.r (fun m => Rd.ldc (isAgg5 _) rfl ((hrd.2.drewN m).cells (t) oO)) rfl <| WQ.gy rfl rfl rfl g2 <| WQ.c1 hb132 rfl rfl (fun m => (regular_q _ _ m)) <| WQ.p (.pkT rfl g2 rfl) rfl <| WQ.nil (fun w3 dw3 => ?_)
 exact ⟨leE (lk_b rfl (by (by_cases hq : t < l.length) <;> (unfold regT; first | (exfalso; omega) | (rw [getElem!_pos l t hq, decide_eq_true hq]; rfl) | (rw [decide_eq_false hq]; simp_all; done)))), dw3⟩
 have g2' := dF g2
 refine WQ.gn rfl rfl rfl g2 <| WQ.gn rfl rfl rfl g2 <| WQ.gn rfl rfl rfl g2 <| WQ.gn rfl rfl rfl g2 <| WQ.gn rfl rfl rfl g2 <| WQ.gn rfl rfl rfl g2 <| WQ.gn rfl rfl rfl g2 <| WQ.gn rfl rfl rfl g2 <| WQ.gn rfl rfl rfl g2 <| WQ.gn rfl rfl rfl g2 <| WQ.p (.pkF rfl g2 rfl) rfl <| WQ.nil (fun w7 dw7 => ?_)
 exact ⟨leE (lk_b rfl (by (by_cases hq : t < l.length) <;> (unfold regT; first | (exfalso; omega) | (rw [getElem!_pos l t hq, decide_eq_true hq]; rfl) | (rw [decide_eq_false hq]; simp_all; done)))), dw7⟩
 have hk11 := hrd.1.drew dw1
 have hv12 := hrd.2.drew dw1
 have hB13 := Touch.trans hT (Touch.of_drew dw1)
 refine W.cond rfl (fun h14 => ?_) (fun h14 => ?_)
 obtain ⟨hc1, hc2⟩ := regT_t aS
 refine W.skip <| W.block <| W.reg <| WL.m rfl rfl <| WL.p (.nck rfl) rfl <| WL.p (.fa underlying128 rfl sizeOf3 dD rfl) rfl <| WL.r (Rd.ld (isAgg3 _) rfl hk11 rfl) rfl <| WL.p (.iis (((t + 1 : Nat) : Int)) (.add rfl rfl (i64w oO)) oO) rfl <| WL.p (.nck rfl) rfl <| WL.p (.fa underlying128 rfl sizeOf3 dD rfl) rfl <| WL.st sizeOf3 rfl rfl rfl hk11 oD (fun w15 hkw15 huw15 hsw15 => ?_)
 have hkw15 : Blk w15 r _ _ := hkw15
 have huw15 : Upd r _ _ := huw15
 have hv16 := BytesAt.upd hv12 huw15 hne
 have hB17 := Touch.trans hB13 (Touch.of_upd huw15)
 refine WL.nil <| ?_
 exact ⟨t + 1, ⟨rfl, rfl, trivial⟩, ⟨⟨hkw15, hv16⟩, hB17, by omega, by omega, by omega⟩, by omega⟩
 have hc1 := regT_f aS
 refine W.exit <| W.seq <| W.regQ mixed kR ?_
 refine WQ.p (.mv rfl) rfl <| WQ.p (.nck rfl) rfl <| WQ.p (.fa underlying128 rfl sizeOf26 dD rfl) rfl <| WQ.r (fun m => Rd.ld (isAgg26 _) rfl hk11 rfl) rfl <| WQ.p (.mv rfl) rfl <| WQ.p (.mv rfl) rfl <| WQ.p (.nck rfl) rfl <| WQ.p (.fa underlying128 rfl sizeOf3 dD rfl) rfl <| WQ.r (fun m => Rd.ld (isAgg3 _) rfl hk11 rfl) rfl <| WQ.p (.slb underlying26 sizeOf5 rfl rfl rfl  (a) (t) (rfl) (rfl) (hat) oO) rfl <| WQ.r (fun m => Rd.b2sPart underlying26 underlying5 underlying9 rfl rfl (hv12.drewN m) hat ht hc) rfl <| WQ.p (.as rfl) rfl <| WQ.nil (fun w18 dw18 => ?_)
 have hk19 := hk11.drew dw18
 have hv20 := hv12.drew dw18
 have hB21 := Touch.trans hB13 (Touch.of_drew dw18)
 refine W.ret (W.ret1 rfl rfl ?_)
 exact ⟨ret_val (by rw [← word_take, ← hw, hc1]), ⟨by rw [← hw, hc1]; exact hk19, hv20⟩, hB21⟩
theorem nameS_err {k e : Int} {l : List UInt8} (h : (if 127 < (l.takeWhile regB).length then (.error 9 : Except Int TokV) else .ok ⟨k, 0, l.takeWhile regB⟩) = .error e) : nameS k l = .error e := by
 unfold nameS
 split at h
 ·
  next h1 => rw [if_pos h1]; cases h; rfl
 ·
  cases h
theorem nameS_ok {k : Int} {l : List UInt8} {a : TokV} (h : (if 127 < (l.takeWhile regB).length then (.error 9 : Except Int TokV) else .ok ⟨k, 0, l.takeWhile regB⟩) = .ok a) : nameS k l = .ok (a, l.dropWhile regB) := by
 unfold nameS
 split at h
 ·
  cases h
 ·
  next h1 => rw [if_neg h1]; cases h; rfl
theorem word_len (l : List UInt8) (t : Nat) : ((l.drop t).takeWhile regB).length ≤ l.length := by
 have := (List.takeWhile_sublist regB (l := l.drop t)).length_le
 rw [List.length_drop] at this; omega
/-- a token read: what stands behind -/
def Read (w0 : World) (r : Nat) (p : Option Addr) (l : List UInt8) (c : Nat) (a : TokV × List UInt8) (w' : World) : Prop := ∃ k, a.2 = l.drop k ∧ k ≤ l.length ∧ RdOk w' r p l c k ∧ Touch w0.heap.size r w0 w'
theorem scan_slash (r : Nat) (p : Option Addr) (l : List UInt8) (c t : Nat) (w : World) (h : RdOk w r p l c t) (hne : 0 < l.length → (pA p).block ≠ r) (hc : l.length ≤ c) (hl : l.length ≤ 100000000) (ht : t ≤ l.length) :
  Calls Tryz.prog 115 #[.pointer (some ⟨r, 0, none⟩)] w (Ends 29 (slashS (l.drop t)) (fun a => a.1.val) (Read w r p l c) (fun w' => Touch w.heap.size r w w')) := by
 have hr := h.1
 have hb := h.2
 have hy := slash_eq (l := l) (s := t) (d := (l[t]?).getD 0) rfl
 refine W.enter func115 rfl ntmps115 (Nat.le_of_ble_eq_true rfl) ?_
 have hB0 := Touch.refl (w.heap.size) r w
 refine W.sr <| WL.alloc zeroValue120 rfl (fun b1 wb1 eb1 hkb1 hub1 hsb1 => ?_)
 have hl3 : r < b1 := by rw [eb1]; exact hr.lt
 have hk2 := hr.upd hub1 (Nat.ne_of_lt hl3)
 have hvl5 := fun h0 => eb1 ▸ hb.lt h0
 have hv4 := bup hb hub1 hvl5
 have hgeb1 : w.heap.size ≤ b1 := by rw [eb1]; exact hB0.size
 have hB6 := Touch.trans hB0 (Touch.of_new hub1 hgeb1)
 refine WL.nil <| ?_
 refine W.seq <| W.sr <| WL.m rfl rfl <| WL.c1 hb129 rfl rfl ((scan_next r p l c t 47 _ ⟨hk2, hv4⟩ hne hl ht)) (fun w7 hw7 => ?_)
 have hk8 := hw7.1.1
 have hk9 := Blk.touch hkb1 hw7.2 hkb1.lt oO
 have hv10 := hw7.1.2
 have hB11 := Touch.trans hB6 (Touch.mono hw7.2 hB6.size)
 refine WL.nil <| ?_
 refine W.cond rfl (fun h12 => ?_) (fun h12 => ?_)
 obtain ⟨hn1, hn2⟩ := nextB_t (x := 47) aS
 rw [if_pos aS] at hk8
 rw [if_pos (by rw [List.getElem?_eq_getElem hn1, hn2]; rfl)] at hy
 refine W.sr <| WL.m rfl rfl <| WL.c1 hb116 rfl rfl ((scan_word r p l c (t + 1) _ ⟨hk8, hv10⟩ hne hc hl oO)) (fun w13 hw13 => ?_)
 have hk14 := hw13.1.1
 have hk15 := Blk.touch hk9 hw13.2 hk9.lt oO
 have hv16 := hw13.1.2
 have hB17 := Touch.trans hB11 (Touch.mono hw13.2 hB11.size)
 refine WL.ce hb117 rfl rfl ((scan_name 5 _ _ (by have := word_len l (t + 1); omega))) (fun k20 w18 hrw18 hw18 => ?_) (fun a19 w18 hrw18 hw18 => ?_)
 have hBew18 := Touch.trans hB17 (Touch.mono (Touch.of_below hw18) hB17.size)
 exact pn_is (Ends.err k20 (by rw [hy]; exact nameS_err hrw18) hBew18)
 have hk21 := hk14.below hw18 hk14.lt
 have hk22 := hk15.below hw18 hk15.lt
 have hv23 := BytesAt.below hv16 hw18 (fun h0 => hv16.lt h0)
 have hB24 := Touch.trans hB17 (Touch.mono (Touch.of_below hw18) hB17.size)
 obtain ⟨a0, ha0⟩ : ∃ a0, a0 = a19 := ⟨_, rfl⟩
 have hra := hrw18
 refine WL.stL rfl rfl hk22 isz120 rfl rfl (fun w25 hkw25 huw25 hsw25 => ?_)
 have hk26 := hk21.up huw25
 have hv27 := bup hv23 huw25 hvl5
 have hB28 := Touch.trans hB24 (Touch.of_new huw25 oO)
 refine WL.nil <| ?_
 refine W.ret (W.retc1 rfl rfl (ldRow hkw25 underlying120 rfl isz120)  ?_)
 exact Ends.ok (_, l.drop (wordAt l (t + 1))) (by rw [hy, nameS_ok hra, word_drop]) rfl ⟨_, rfl, (wordAt_le l (t + 1) oO).2, ⟨hk26, hv27⟩, hB28⟩
 rw [if_neg (bF aS)] at hk8
 rw [if_neg (by
  by_cases hq : t < l.length
  rw [List.getElem?_eq_getElem hq]; exact nextB_f (x := 47) aS hq
  rw [List.getElem?_eq_none oO]; decide)] at hy
 refine W.skip <| W.sr <| WL.m rfl rfl <| WL.c1 hb116 rfl rfl ((scan_word r p l c t _ ⟨hk8, hv10⟩ hne hc hl oO)) (fun w29 hw29 => ?_)
 have hk30 := hw29.1.1
 have hk31 := Blk.touch hk9 hw29.2 hk9.lt oO
 have hv32 := hw29.1.2
 have hB33 := Touch.trans hB11 (Touch.mono hw29.2 hB11.size)
 refine WL.ce hb117 rfl rfl ((scan_name 4 _ _ (by have := word_len l t; omega))) (fun k36 w34 hrw34 hw34 => ?_) (fun a35 w34 hrw34 hw34 => ?_)
 have hBew34 := Touch.trans hB33 (Touch.mono (Touch.of_below hw34) hB33.size)
 exact pn_is (Ends.err k36 (by rw [hy]; exact nameS_err hrw34) hBew34)
 have hk37 := hk30.below hw34 hk30.lt
 have hk38 := hk31.below hw34 hk31.lt
 have hv39 := BytesAt.below hv32 hw34 (fun h0 => hv32.lt h0)
 have hB40 := Touch.trans hB33 (Touch.mono (Touch.of_below hw34) hB33.size)
 obtain ⟨a0, ha0⟩ : ∃ a0, a0 = a35 := ⟨_, rfl⟩
 have hra := hrw34
 refine WL.stL rfl rfl hk38 isz120 rfl rfl (fun w41 hkw41 huw41 hsw41 => ?_)
 have hk42 := hk37.up huw41
 have hv43 := bup hv39 huw41 hvl5
 have hB44 := Touch.trans hB40 (Touch.of_new huw41 oO)
 refine WL.nil <| ?_
 refine W.ret (W.retc1 rfl rfl (ldRow hkw41 underlying120 rfl isz120)  ?_)
 exact Ends.ok (_, l.drop (wordAt l t)) (by rw [hy, nameS_ok hra, word_drop]) rfl ⟨_, rfl, (wordAt_le l t oO).2, ⟨hk42, hv43⟩, hB44⟩
end
section
theorem or_16 (h d : Nat) (hh : h < 16) (hd : d < 16) : bits .or .i64 ((h : Int) * 16) (d : Int) = (h : Int) * 16 + d := by
 have key : ∀ h d : Fin 16, bits .or .i64 ((h.1 : Int) * 16) (d.1 : Int) = (h.1 : Int) * 16 + d.1 := by decide +kernel
 exact key ⟨h, hh⟩ ⟨d, hd⟩
theorem Pure.shl4 {P : Program} {f : Fr} {x : Operand} {tx ty : TypeId} {a : Int} (hx : evo f x = some (.int .i64 a)) (r : Int) (hr : IntKind.i64.wrap (a * 16) = r) : Pure P (.binOp .shl tx x (.const (.int .u64 4)) ty) f (.int .i64 r) := fun ρ hρ d ty' pos aft g w => by
 have h4 : ρ (.const (.int .u64 4)) = .int .u64 4 := hρ _ _ rfl
 simp [execOp, hρ _ _ hx, h4, eqGuard, binOp, shift_shl_i64, hr]
theorem Pure.or {P : Program} {f : Fr} {x y : Operand} {k : IntKind} {tx ty : TypeId} {a b r : Int} (hx : evo f x = some (.int k a)) (hy : evo f y = some (.int k b)) (hr : bits .or k a b = r) : Pure P (.binOp .or tx x y ty) f (.int k r) := fun ρ hρ d ty' pos aft g w => by
 simp [execOp, hρ _ _ hx, hρ _ _ hy, eqGuard, binOp, intBits_or, hr]
theorem takeS_err {l : List UInt8} {t : Nat} {k : Int} (h : takeS l t = .error k) : l.length ≤ t ∧ k = 14 := by
 unfold takeS at h
 split at h
 ·
  cases h
 ·
  next h1 => cases h; exact ⟨List.getElem?_eq_none_iff.1 h1, rfl⟩
theorem takeS_ok {l : List UInt8} {t : Nat} {x : UInt8} (h : takeS l t = .ok x) : ∃ ht : t < l.length, x = l[t]'ht := by
 unfold takeS at h
 split at h
 ·
  next h1 => cases h; obtain ⟨h2, h3⟩ := List.getElem?_eq_some_iff.1 h1; exact ⟨h2, h3.symm⟩
 ·
  cases h
theorem textS_err {e : Int} {s r : List UInt8} (h : (if 65535 < s.length then (.error 9 : Except Int TokV) else .ok ⟨6, 0, s⟩) = .error e) : textS (some (s, r)) = .error e := by
 simp only [textS]
 split at h
 ·
  next h1 => rw [if_pos h1]; cases h; rfl
 ·
  cases h
theorem textS_ok {s r : List UInt8} {a : TokV} (h : (if 65535 < s.length then (.error 9 : Except Int TokV) else .ok ⟨6, 0, s⟩) = .ok a) : textS (some (s, r)) = .ok (a, r) := by
 simp only [textS]
 split at h
 ·
  cases h
 ·
  next h1 => rw [if_neg h1]; cases h; rfl
theorem scan_hex (r : Nat) (p : Option Addr) (l : List UInt8) (c t : Nat) (w : World) (h : RdOk w r p l c t) (hne : 0 < l.length → (pA p).block ≠ r) (hc : l.length ≤ c) (hl : l.length ≤ 100000000) (ht : t ≤ l.length) :
  Calls Tryz.prog 131 #[.pointer (some ⟨r, 0, none⟩)] w (Ends 29 (textS (hexS none [] (l.drop t))) (fun a => a.1.val) (Read w r p l c) (fun w' => Touch w.heap.size r w w')) := by
 have hr := h.1
 have hb := h.2
 obtain ⟨R, hR⟩ : ∃ R, R = hexS none [] (l.drop t) := ⟨_, rfl⟩
 rw [← hR]
 obtain ⟨a, rfl⟩ : ∃ a, a = t := ⟨t, rfl⟩
 refine W.enter func131 rfl ntmps131 (Nat.le_of_ble_eq_true rfl) ?_
 have hB0 := Touch.refl (w.heap.size) r w
 refine W.sr <| WL.alloc zeroValue120 rfl (fun b1 wb1 eb1 hkb1 hub1 hsb1 => ?_)
 have hl3 : r < b1 := by rw [eb1]; exact hr.lt
 have hk2 := hr.upd hub1 (Nat.ne_of_lt hl3)
 have hvl5 := fun h0 => eb1 ▸ hb.lt h0
 have hv4 := bup hb hub1 hvl5
 have hgeb1 : w.heap.size ≤ b1 := by rw [eb1]; exact hB0.size
 have hB6 := Touch.trans hB0 (Touch.of_new hub1 hgeb1)
 refine WL.nil <| ?_
 refine W.seq ?_
 have hpB : 0 < l.length → (pA p).block < b1 + 1 := fun h0 => by have := hb.lt h0; omega
 have hrB : r < b1 := by have := hr.lt; omega
 refine W.reg <| WL.z rfl rfl ?_
 refine W.sr <| WL.z rfl rfl ?_
 refine W.seq <| W.block ?_
 refine W.loop (α := Value × List UInt8 × Option Nat × Nat) (fun t => [(0, .pointer (some ⟨r, 0, none⟩)), (2, .pointer (some ⟨b1, 0, none⟩)), (3, t.1), (4, .int .i64 (hexI t.2.2.1))]) (fun t w' => RdOk w' r p l c t.2.2.2 ∧ Touch w.heap.size r w w' ∧ Blk w' b1 #[.int .i64 0, .int .i64 0, .string ⟨#[]⟩] 120 ∧ Own 5 (b1 + 1) w' t.1 (byteVals t.2.1) ∧ hexS t.2.2.1 t.2.1 (l.drop t.2.2.2) = R ∧ (∀ x, t.2.2.1 = some x → x < 16) ∧ t.2.1.length ≤ t.2.2.2 ∧ t.2.2.2 ≤ l.length) (fun t => l.length - t.2.2.2) ((.slice none 0 0, [], none, a)) ⟨rfl, rfl, rfl, rfl, trivial⟩ (⟨⟨hk2, hv4⟩, hB6, hkb1, Own.nil _ _ _, hR.symm, fun x hx => (by cases hx), Nat.zero_le _, ht⟩) (fun t w1 hR => ?_)
 obtain ⟨v, o, h, s⟩ := t
 obtain ⟨hrd, hT, hbk, hown, hw, hx16, hol, hs⟩ := hR
 simp only at hrd hT hbk hown hw hx16 hol hs ⊢
 refine W.block <| W.sr <| WL.m rfl rfl <| WL.ce hb127 rfl rfl ((scan_take r p l c s _ ⟨hrd.1, hrd.2⟩ hne hl)) (fun k9 w7 hrw7 hw7 => ?_) (fun a8 w7 hrw7 hw7 => ?_)
 have hBew7 := Touch.trans hT (Touch.mono hw7 hT.size)
 exact pn_is (Ends.err k9 (by rw [(takeS_err hrw7).2, ← hw, List.drop_eq_nil_of_le (takeS_err hrw7).1]; (first | done | rfl)) hBew7)
 have ho10 := Own.touch' hown hw7.2 oO
 have hk11 := hw7.1.1
 have hk12 := Blk.touch hbk hw7.2 hbk.lt oO
 have hv13 := hw7.1.2
 have hB14 := Touch.trans hT (Touch.mono hw7.2 hT.size)
 obtain ⟨hlt, hx⟩ := takeS_ok hrw7
 obtain ⟨x, hxx⟩ : ∃ x, x = a8 := ⟨_, rfl⟩
 rw [← hxx] at hx ⊢
 have hst := hexS_cons h o l s hlt
 rw [← hx] at hst
 refine WL.z rfl rfl ?_
 refine W.seq <| W.sr <| WL.m rfl rfl <| WL.c1 hb126 rfl rfl ((scan_blank x _)) (fun w15 hw15 => ?_)
 obtain rfl := hw15
 refine WL.nil <| ?_
 refine W.cond rfl (fun h16 => ?_) (fun h16 => ?_)
 refine W.exit ?_
 exact ⟨(_, o, h, s + 1), ⟨rfl, rfl, rfl, rfl, trivial⟩, ⟨⟨hk11, hv13⟩, hB14, hk12, ho10, (by rw [← hw, hst, if_pos aS]), hx16, by ((try simp only) <;> omega), by ((try simp only) <;> omega)⟩, by ((try simp only) <;> omega)⟩
 refine W.skip <| W.seq <| W.sr <| WL.m rfl rfl <| WL.p (.eql rfl rfl) rfl <| WL.nil <| ?_
 refine W.cond rfl (fun h17 => ?_) (fun h17 => ?_)
 have h17' := dT h17
 refine W.exit <| W.seq <| W.sr <| WL.m rfl rfl <| WL.p (.geq rfl rfl) rfl <| WL.nil <| ?_
 refine W.cond rfl (fun h18 => ?_) (fun h18 => ?_)
 have h18' := dT h18
 obtain ⟨y, rfl⟩ : ∃ y, h = some y := by cases h with | none => exfalso; have : hexI none = -1 := rfl; omega | some y => exact ⟨y, rfl⟩
 have hy := hx16 y rfl
 have hyi : hexI (some y) = (y : Int) := rfl
 refine W.reg <| WL.m rfl rfl <| WL.m rfl rfl <| WL.p (.iis ((y : Int) * 16) (.shl4 rfl _ (i64w oO)) oO) rfl <| WL.p (.cvt underlying3 underlying5 rfl (u8w oO)) rfl <| WL.bsl (ps := _) underlying26 sizeOf5 zeroValue5 rfl rfl rfl rfl rfl pR rfl (fun b19 wb19 eb19 hkb19 hub19 hsb19 => ?_)
 have ho20 := Own.new ho10 eb19 hub19
 have hl22 : r < b19 := by rw [eb19]; exact hk11.lt
 have hk21 := hk11.upd hub19 (Nat.ne_of_lt hl22)
 have hl24 : b1 < b19 := by rw [eb19]; exact hk12.lt
 have hk23 := hk12.upd hub19 (Nat.ne_of_lt hl24)
 have hvl26 := fun h0 => eb19 ▸ hv13.lt h0
 have hv25 := bup hv13 hub19 hvl26
 have hgeb19 : w.heap.size ≤ b19 := by rw [eb19]; exact hB14.size
 have hB27 := Touch.trans hB14 (Touch.of_new hub19 hgeb19)
 refine WL.appm underlying26 inf5 rfl rfl rfl ho20 rfl hkb19 rfl (by rw [byteVals_len]; omega) (hk23.lt) rfl (fun v28 w29 how29 hbw29 hgw29 => ?_)
 have hk30 := hk21.below hbw29 oO
 have hk31 := hk23.below hbw29 oO
 have hv32 := BytesAt.below hv25 hbw29 hpB
 have hB33 := Touch.trans hB27 (Touch.of_below (hbw29.mono oO))
 have ho34 := Own.snoc how29 (ch ((y * 16 : Nat) : Int)) (by rw [ch_val _ oO oO]; omega)
 refine WL.z rfl rfl ?_
 refine W.seq ?_
 obtain ⟨q, cq, rfl, hqb, hqB⟩ := Own.bytes ho34
 refine W.reg <| WL.m rfl rfl <| WL.ce hb130 rfl rfl ((scan_text q _ cq _ hqb (by first | omega | (simp only [List.length_append, List.length_cons, List.length_nil]; omega)))) (fun k37 w35 hrw35 hw35 => ?_) (fun a36 w35 hrw35 hw35 => ?_)
 have hBew35 := Touch.trans hB33 (Touch.mono (Touch.of_below hw35) hB33.size)
 exact pn_is (Ends.err k37 (by rw [← hw, hst, if_neg (bF aS), if_pos (u8_eq (d := 62) aS)]; exact textS_err hrw35) hBew35)
 have hk39 := hk30.below hw35 hk30.lt
 have hk40 := hk31.below hw35 hk31.lt
 have hv41 := BytesAt.below hv32 hw35 (fun h0 => hv32.lt h0)
 have hB42 := Touch.trans hB33 (Touch.mono (Touch.of_below hw35) hB33.size)
 obtain ⟨a0, ha0⟩ : ∃ a0, a0 = a36 := ⟨_, rfl⟩
 have hra := hrw35
 refine WL.stL rfl rfl hk40 isz120 rfl rfl (fun w43 hkw43 huw43 hsw43 => ?_)
 have hk45 := hk39.up huw43
 have hv46 := bup hv41 huw43 hvl5
 have hB47 := Touch.trans hB42 (Touch.of_new huw43 oO)
 refine WL.nil <| ?_
 refine W.ret (W.retc1 rfl rfl (ldRow hkw43 underlying120 rfl isz120)  ?_)
 exact Ends.ok (_, l.drop (s + 1)) (by rw [← hw, hst, if_neg (bF aS), if_pos (u8_eq (d := 62) aS)]; exact textS_ok hra) rfl ⟨_, rfl, by omega, ⟨hk45, hv46⟩, hB47⟩
 have h18' := dF h18
 obtain rfl : h = none := by cases h with | none => rfl | some y => exfalso; have : hexI (some y) = (y : Int) := rfl; omega
 refine W.skip <| W.seq ?_
 obtain ⟨q, cq, rfl, hqb, hqB⟩ := Own.bytes ho10
 refine W.reg <| WL.m rfl rfl <| WL.ce hb130 rfl rfl ((scan_text q _ cq _ hqb (by first | omega | (simp only [List.length_append, List.length_cons, List.length_nil]; omega)))) (fun k50 w48 hrw48 hw48 => ?_) (fun a49 w48 hrw48 hw48 => ?_)
 have hBew48 := Touch.trans hB14 (Touch.mono (Touch.of_below hw48) hB14.size)
 exact pn_is (Ends.err k50 (by rw [← hw, hst, if_neg (bF aS), if_pos (u8_eq (d := 62) aS)]; exact textS_err hrw48) hBew48)
 have hk52 := hk11.below hw48 hk11.lt
 have hk53 := hk12.below hw48 hk12.lt
 have hv54 := BytesAt.below hv13 hw48 (fun h0 => hv13.lt h0)
 have hB55 := Touch.trans hB14 (Touch.mono (Touch.of_below hw48) hB14.size)
 obtain ⟨a0, ha0⟩ : ∃ a0, a0 = a49 := ⟨_, rfl⟩
 have hra := hrw48
 refine WL.stL rfl rfl hk53 isz120 rfl rfl (fun w56 hkw56 huw56 hsw56 => ?_)
 have hk58 := hk52.up huw56
 have hv59 := bup hv54 huw56 hvl5
 have hB60 := Touch.trans hB55 (Touch.of_new huw56 oO)
 refine WL.nil <| ?_
 refine W.ret (W.retc1 rfl rfl (ldRow hkw56 underlying120 rfl isz120)  ?_)
 exact Ends.ok (_, l.drop (s + 1)) (by rw [← hw, hst, if_neg (bF aS), if_pos (u8_eq (d := 62) aS)]; exact textS_ok hra) rfl ⟨_, rfl, by omega, ⟨hk58, hv59⟩, hB60⟩
 have h17' := dF h17
 refine W.skip <| W.sr <| WL.m rfl rfl <| WL.c1 hb141 rfl rfl ((scan_digit x _)) (fun w61 hw61 => ?_)
 obtain rfl := hw61
 have hdg := digI_cases x
 refine WL.z rfl rfl ?_
 refine W.block <| W.sr <| WL.m rfl rfl <| WL.p (.lss rfl rfl) rfl <| WL.z rfl rfl ?_
 refine W.cond rfl (fun h62 => ?_) (fun h62 => ?_)
 have h62' := dT h62
 refine W.reg <| WL.p (.mkI underlying29 rfl) rfl <| WL.panic rfl (pn_is ?_)
 exact Ends.err 14 (by rw [← hw, hst, if_neg (bF aS), if_neg (u8_ne (d := 62) aS), if_pos oO]; (first | done | rfl)) hB14
 have h62' := dF h62
 refine W.sr <| WL.m rfl rfl <| WL.p (.lss rfl rfl) rfl <| WL.z rfl rfl ?_
 refine W.cond rfl (fun h63 => ?_) (fun h63 => ?_)
 have h63' := dT h63
 obtain rfl : h = none := by cases h with | none => rfl | some y => exfalso; have : hexI (some y) = (y : Int) := rfl; omega
 refine W.reg <| WL.m rfl rfl <| WL.z rfl rfl ?_
 exact ⟨(_, o, some (hexN x), s + 1), ⟨rfl, rfl, rfl, lk_i rfl (by show digI x = (hexN x : Int); omega), trivial⟩, ⟨⟨hk11, hv13⟩, hB14, hk12, ho10, (by rw [← hw, hst, if_neg (bF aS), if_neg (u8_ne (d := 62) aS), if_neg oO]), fun z hz => (by obtain rfl := Option.some.inj hz; omega), by ((try simp only) <;> omega), by ((try simp only) <;> omega)⟩, by ((try simp only) <;> omega)⟩
 have h63' := dF h63
 obtain ⟨y, rfl⟩ : ∃ y, h = some y := by cases h with | none => exfalso; have : hexI none = -1 := rfl; omega | some y => exact ⟨y, rfl⟩
 have hy := hx16 y rfl
 have hyi : hexI (some y) = (y : Int) := rfl
 refine W.sr <| WL.m rfl rfl <| WL.m rfl rfl <| WL.p (.iis ((y : Int) * 16) (.shl4 rfl _ (i64w oO)) oO) rfl <| WL.m rfl rfl <| WL.p (.or rfl rfl (show bits .or .i64 ((y : Int) * 16) (digI x) = (y : Int) * 16 + (hexN x : Int) by rw [(hdg.resolve_left (fun h => by have := h.1; omega)).1]; exact or_16 _ _ hy oO)) rfl <| WL.p (.cvt underlying3 underlying5 rfl (u8w oO)) rfl <| WL.bsl (ps := _) underlying26 sizeOf5 zeroValue5 rfl rfl rfl rfl rfl pR rfl (fun b64 wb64 eb64 hkb64 hub64 hsb64 => ?_)
 have ho65 := Own.new ho10 eb64 hub64
 have hl67 : r < b64 := by rw [eb64]; exact hk11.lt
 have hk66 := hk11.upd hub64 (Nat.ne_of_lt hl67)
 have hl69 : b1 < b64 := by rw [eb64]; exact hk12.lt
 have hk68 := hk12.upd hub64 (Nat.ne_of_lt hl69)
 have hvl71 := fun h0 => eb64 ▸ hv13.lt h0
 have hv70 := bup hv13 hub64 hvl71
 have hgeb64 : w.heap.size ≤ b64 := by rw [eb64]; exact hB14.size
 have hB72 := Touch.trans hB14 (Touch.of_new hub64 hgeb64)
 refine WL.appm underlying26 inf5 rfl rfl rfl ho65 rfl hkb64 rfl (by rw [byteVals_len]; omega) (hk68.lt) rfl (fun v73 w74 how74 hbw74 hgw74 => ?_)
 have hk75 := hk66.below hbw74 oO
 have hk76 := hk68.below hbw74 oO
 have hv77 := BytesAt.below hv70 hbw74 hpB
 have hB78 := Touch.trans hB72 (Touch.of_below (hbw74.mono oO))
 have ho79 := Own.snoc how74 (ch ((y * 16 + hexN x : Nat) : Int)) (by rw [ch_val _ oO oO]; omega)
 refine WL.z rfl rfl ?_
 refine W.reg <| WL.z rfl rfl ?_
 exact ⟨(_, o ++ [_], none, s + 1), ⟨rfl, rfl, rfl, rfl, trivial⟩, ⟨⟨hk75, hv77⟩, hB78, hk76, ho79, (by rw [← hw, hst, if_neg (bF aS), if_neg (u8_ne (d := 62) aS), if_neg oO]), fun z hz => (by cases hz), (by simp only [List.length_append, List.length_cons, List.length_nil]; omega), by ((try simp only) <;> omega)⟩, by ((try simp only) <;> omega)⟩
theorem BytesAt.two {w : World} {b : Nat} {c d : UInt8} {t : TypeId} (h : Blk w b #[.int .u8 (c.toNat : Int), .int .u8 (d.toNat : Int)] t) : BytesAt w (some ⟨b, 0, none⟩) [c, d] :=
 ⟨fun _ => rfl, fun j hj => by
  have e1 : (pA (some ⟨b, 0, none⟩)).add j = ⟨b, j, none⟩ := by
   show (⟨b, 0, none⟩ : Addr).add j = _
   unfold Addr.add; split
   ·
    next h => subst h; rfl
   ·
    simp
  rw [e1, h.cell j]
  match j, hj with
  | 0, _ => rfl
  | 1, _ => rfl⟩
theorem scan_angle (r : Nat) (p : Option Addr) (l : List UInt8) (c t : Nat) (x : UInt8) (w : World) (h : RdOk w r p l c t) (hne : 0 < l.length → (pA p).block ≠ r) (hc : l.length ≤ c) (hl : l.length ≤ 100000000) (ht : t ≤ l.length) (hx : x ≠ 0) :
  Calls Tryz.prog 114 #[.pointer (some ⟨r, 0, none⟩), .int .u8 (x.toNat : Int)] w (Ends 29 (angleS x (l.drop t)) (fun a => a.1.val) (Read w r p l c) (fun w' => Touch w.heap.size r w w')) := by
 have hr := h.1
 have hb := h.2
 have hy := angle_eq (l := l) (s := t) (c := x) (d := (l[t]?).getD 0) hx rfl
 refine W.enter func114 rfl ntmps114 (Nat.le_of_ble_eq_true rfl) ?_
 have hB0 := Touch.refl (w.heap.size) r w
 refine W.sr <| WL.alloc zeroValue120 rfl (fun b1 wb1 eb1 hkb1 hub1 hsb1 => ?_)
 have hl3 : r < b1 := by rw [eb1]; exact hr.lt
 have hk2 := hr.upd hub1 (Nat.ne_of_lt hl3)
 have hvl5 := fun h0 => eb1 ▸ hb.lt h0
 have hv4 := bup hb hub1 hvl5
 have hgeb1 : w.heap.size ≤ b1 := by rw [eb1]; exact hB0.size
 have hB6 := Touch.trans hB0 (Touch.of_new hub1 hgeb1)
 refine WL.nil <| ?_
 refine W.seq <| W.block <| W.sr <| WL.m rfl rfl <| WL.m rfl rfl <| WL.c1 hb129 rfl rfl ((scan_next r p l c t x _ ⟨hk2, hv4⟩ hne hl ht)) (fun w7 hw7 => ?_)
 have hk8 := hw7.1.1
 have hk9 := Blk.touch hkb1 hw7.2 hkb1.lt oO
 have hv10 := hw7.1.2
 have hB11 := Touch.trans hB6 (Touch.mono hw7.2 hB6.size)
 refine WL.z rfl rfl ?_
 refine W.cond rfl (fun h12 => ?_) (fun h12 => ?_)
 obtain ⟨hn1, hn2⟩ := nextB_t (x := x) aS
 rw [if_pos aS] at hk8
 rw [if_pos (by rw [List.getElem?_eq_getElem hn1, hn2]; rfl)] at hy
 refine W.sr <| WL.m rfl rfl <| WL.m rfl rfl <| WL.bsl (ps := _) underlying26 sizeOf5 zeroValue5 rfl rfl rfl rfl rfl pR rfl (fun b13 wb13 eb13 hkb13 hub13 hsb13 => ?_)
 have hl15 : r < b13 := by rw [eb13]; exact hk8.lt
 have hk14 := hk8.upd hub13 (Nat.ne_of_lt hl15)
 have hl17 : b1 < b13 := by rw [eb13]; exact hk9.lt
 have hk16 := hk9.upd hub13 (Nat.ne_of_lt hl17)
 have hvl19 := fun h0 => eb13 ▸ hv10.lt h0
 have hv18 := bup hv10 hub13 hvl19
 have hgeb13 : w.heap.size ≤ b13 := by rw [eb13]; exact hB11.size
 have hB20 := Touch.trans hB11 (Touch.of_new hub13 hgeb13)
 refine WL.r (Rd.b2s (l := [x, x]) underlying26 underlying5 underlying9 rfl (BytesAt.two hkb13)) rfl <| ?_
 refine WL.p (.buildL (ps := _) blt120 rfl rfl rfl pS) rfl ?_
 refine WL.stL rfl rfl hk16 isz120 rfl rfl (fun w21 hkw21 huw21 hsw21 => ?_)
 have hk22 := hk14.up huw21
 have hv24 := bup hv18 huw21 hvl5
 have hB25 := Touch.trans hB20 (Touch.of_new huw21 oO)
 refine WL.nil <| ?_
 refine W.ret (W.retc1 rfl rfl (ldRow hkw21 underlying120 rfl isz120)  ?_)
 exact Ends.ok (⟨3, 0, [x, x]⟩, l.drop (t + 1)) hy rfl ⟨_, rfl, by omega, ⟨hk22, hv24⟩, hB25⟩
 rw [if_neg (bF aS)] at hk8
 rw [if_neg (by
  by_cases hq : t < l.length
  rw [List.getElem?_eq_getElem hq]; exact nextB_f (x := x) aS hq
  rw [List.getElem?_eq_none oO]; exact fun e => hx e.symm)] at hy
 refine W.sr <| WL.m rfl rfl <| WL.p (.eql rfl rfl) rfl <| WL.z rfl rfl ?_
 refine W.cond rfl (fun h26 => ?_) (fun h26 => ?_)
 have h26' := dT h26
 refine W.sr <| WL.m rfl rfl <| WL.ce hb131 rfl rfl ((scan_hex r p l c t _ ⟨hk8, hv10⟩ hne hc hl ht)) (fun k29 w27 hrw27 hw27 => ?_) (fun a28 w27 hrw27 hw27 => ?_)
 have hBew27 := Touch.trans hB11 (Touch.mono hw27 hB11.size)
 exact pn_is (Ends.err k29 (by rw [hy, if_pos (u8_eq aS)]; exact hrw27) hBew27)
 obtain ⟨kr, hkr, hkl, hw27⟩ := hw27
 have hk30 := hw27.1.1
 have hk31 := Blk.touch hk9 hw27.2 hk9.lt oO
 have hv32 := hw27.1.2
 have hB33 := Touch.trans hB11 (Touch.mono hw27.2 hB11.size)
 have hra := hrw27
 obtain ⟨a0, ha0⟩ : ∃ a0, a0 = a28 := ⟨_, rfl⟩
 refine WL.stL rfl rfl hk31 isz120 rfl rfl (fun w34 hkw34 huw34 hsw34 => ?_)
 have hk35 := hk30.up huw34
 have hv36 := bup hv32 huw34 hvl5
 have hB37 := Touch.trans hB33 (Touch.of_new huw34 oO)
 refine WL.nil <| ?_
 refine W.ret (W.retc1 rfl rfl (ldRow hkw34 underlying120 rfl isz120)  ?_)
 exact Ends.ok _ (by rw [hy, if_pos (u8_eq aS)]; exact hra) rfl ⟨_, hkr, hkl, ⟨hk35, hv36⟩, hB37⟩
 have h26' := dF h26
 refine W.skip <| W.reg <| WL.p (.mkI underlying29 rfl) rfl <| WL.panic rfl (pn_is ?_)
 exact Ends.err 14 (by rw [hy, if_neg (u8_ne (d := 60) aS)]) hB11
end
section
theorem next_lf (l : List UInt8) (t : Nat) (ht : t ≤ l.length) : t ≤ (if nextB l t 10 then t + 1 else t) ∧ (if nextB l t 10 then t + 1 else t) ≤ l.length ∧ l.drop (if nextB l t 10 then t + 1 else t) = dropLF (l.drop t) := by
 have e : nextB l t 10 = lfB l t := rfl
 rw [e]
 cases hb : lfB l t with
 | true => have := lfB_t hb; rw [if_pos rfl]; exact ⟨by omega, by omega, this.2.symm⟩
 | false => rw [if_neg (by simp)]; exact ⟨Nat.le_refl _, ht, (lfB_f hb).symm⟩
theorem scan_escape (B r : Nat) (p : Option Addr) (l : List UInt8) (c t : Nat) (x : UInt8) (v : Value) (o : List UInt8) (w : World) (h : RdOk w r p l c t) (hne : 0 < l.length → (pA p).block ≠ r) (hl : l.length ≤ 100000000) (ht : t ≤ l.length)
  (hrB : r < B) (hBw : B ≤ w.heap.size) (hpB : 0 < l.length → (pA p).block < B) (hown : Own 5 B w v (byteVals o)) (hol : o.length ≤ 500000000) :
  Calls Tryz.prog 128 #[.pointer (some ⟨r, 0, none⟩), v, .int .u8 (x.toNat : Int)] w fun e w' => ∃ v', e = .returned v' ∧ ∃ k, RdOk w' r p l c k ∧ Touch B r w w' ∧ Own 5 B w' v' (byteVals (o ++ (escS x (l.drop t)).1)) ∧ t ≤ k ∧ k ≤ l.length ∧ l.drop k = (escS x (l.drop t)).2 := by
 have hr := h.1
 have hb := h.2
 refine W.enter func128 rfl ntmps128 (Nat.le_of_ble_eq_true rfl) ?_
 have hB0 := Touch.refl (B) r w
 refine W.sr <| WL.z rfl rfl ?_
 refine W.seq <| W.sr <| WL.m rfl rfl <| WL.nil <| ?_
 refine W.block <| W.sr <| WL.p (.eql rfl rfl) rfl <| WL.z rfl rfl ?_
 refine W.cond rfl (fun h1 => ?_) (fun h1 => ?_)
 have h1' := dT h1
 refine W.sr <| WL.m rfl rfl <| WL.bsl (ps := _) underlying26 sizeOf5 zeroValue5 rfl rfl rfl rfl rfl pR rfl (fun b2 wb2 eb2 hkb2 hub2 hsb2 => ?_)
 have ho3 := Own.new hown eb2 hub2
 have hl5 : r < b2 := by rw [eb2]; exact hr.lt
 have hk4 := hr.upd hub2 (Nat.ne_of_lt hl5)
 have hvl7 := fun h0 => eb2 ▸ hb.lt h0
 have hv6 := bup hb hub2 hvl7
 have hgeb2 : w.heap.size ≤ b2 := by rw [eb2]; exact hB0.size
 have hB8 := Touch.trans hB0 (Touch.of_new hub2 (Nat.le_trans hBw hgeb2))
 refine WL.appm underlying26 inf5 rfl rfl rfl ho3 rfl hkb2 rfl (by rw [byteVals_len]; omega) ((Nat.le_trans hBw hB8.size)) rfl (fun v9 w10 how10 hbw10 hgw10 => ?_)
 have hk11 := hk4.below hbw10 oO
 have hv12 := BytesAt.below hv6 hbw10 hpB
 have hB13 := Touch.trans hB8 (Touch.of_below (hbw10.mono (Nat.le_refl _)))
 have ho14 := Own.snoc how10 (10) (rfl)
 refine WL.z rfl rfl ?_
 refine W.ret (W.ret1 rfl rfl ?_)
 exact ⟨_, rfl, t, ⟨hk11, hv12⟩, hB13, (by rw [show x = 110 from u8_eq aS, esc110]; exact ho14), Nat.le_refl _, ht, (by rw [show x = 110 from u8_eq aS, esc110])⟩
 have h1' := dF h1
 refine W.sr <| WL.p (.eql rfl rfl) rfl <| WL.z rfl rfl ?_
 refine W.cond rfl (fun h15 => ?_) (fun h15 => ?_)
 have h15' := dT h15
 refine W.sr <| WL.m rfl rfl <| WL.bsl (ps := _) underlying26 sizeOf5 zeroValue5 rfl rfl rfl rfl rfl pR rfl (fun b16 wb16 eb16 hkb16 hub16 hsb16 => ?_)
 have ho17 := Own.new hown eb16 hub16
 have hl19 : r < b16 := by rw [eb16]; exact hr.lt
 have hk18 := hr.upd hub16 (Nat.ne_of_lt hl19)
 have hvl21 := fun h0 => eb16 ▸ hb.lt h0
 have hv20 := bup hb hub16 hvl21
 have hgeb16 : w.heap.size ≤ b16 := by rw [eb16]; exact hB0.size
 have hB22 := Touch.trans hB0 (Touch.of_new hub16 (Nat.le_trans hBw hgeb16))
 refine WL.appm underlying26 inf5 rfl rfl rfl ho17 rfl hkb16 rfl (by rw [byteVals_len]; omega) ((Nat.le_trans hBw hB22.size)) rfl (fun v23 w24 how24 hbw24 hgw24 => ?_)
 have hk25 := hk18.below hbw24 oO
 have hv26 := BytesAt.below hv20 hbw24 hpB
 have hB27 := Touch.trans hB22 (Touch.of_below (hbw24.mono (Nat.le_refl _)))
 have ho28 := Own.snoc how24 (13) (rfl)
 refine WL.z rfl rfl ?_
 refine W.ret (W.ret1 rfl rfl ?_)
 exact ⟨_, rfl, t, ⟨hk25, hv26⟩, hB27, (by rw [show x = 114 from u8_eq aS, esc114]; exact ho28), Nat.le_refl _, ht, (by rw [show x = 114 from u8_eq aS, esc114])⟩
 have h15' := dF h15
 refine W.sr <| WL.p (.eql rfl rfl) rfl <| WL.z rfl rfl ?_
 refine W.cond rfl (fun h29 => ?_) (fun h29 => ?_)
 have h29' := dT h29
 refine W.sr <| WL.m rfl rfl <| WL.bsl (ps := _) underlying26 sizeOf5 zeroValue5 rfl rfl rfl rfl rfl pR rfl (fun b30 wb30 eb30 hkb30 hub30 hsb30 => ?_)
 have ho31 := Own.new hown eb30 hub30
 have hl33 : r < b30 := by rw [eb30]; exact hr.lt
 have hk32 := hr.upd hub30 (Nat.ne_of_lt hl33)
 have hvl35 := fun h0 => eb30 ▸ hb.lt h0
 have hv34 := bup hb hub30 hvl35
 have hgeb30 : w.heap.size ≤ b30 := by rw [eb30]; exact hB0.size
 have hB36 := Touch.trans hB0 (Touch.of_new hub30 (Nat.le_trans hBw hgeb30))
 refine WL.appm underlying26 inf5 rfl rfl rfl ho31 rfl hkb30 rfl (by rw [byteVals_len]; omega) ((Nat.le_trans hBw hB36.size)) rfl (fun v37 w38 how38 hbw38 hgw38 => ?_)
 have hk39 := hk32.below hbw38 oO
 have hv40 := BytesAt.below hv34 hbw38 hpB
 have hB41 := Touch.trans hB36 (Touch.of_below (hbw38.mono (Nat.le_refl _)))
 have ho42 := Own.snoc how38 (9) (rfl)
 refine WL.z rfl rfl ?_
 refine W.ret (W.ret1 rfl rfl ?_)
 exact ⟨_, rfl, t, ⟨hk39, hv40⟩, hB41, (by rw [show x = 116 from u8_eq aS, esc116]; exact ho42), Nat.le_refl _, ht, (by rw [show x = 116 from u8_eq aS, esc116])⟩
 have h29' := dF h29
 refine W.sr <| WL.p (.eql rfl rfl) rfl <| WL.z rfl rfl ?_
 refine W.cond rfl (fun h43 => ?_) (fun h43 => ?_)
 have h43' := dT h43
 refine W.sr <| WL.m rfl rfl <| WL.bsl (ps := _) underlying26 sizeOf5 zeroValue5 rfl rfl rfl rfl rfl pR rfl (fun b44 wb44 eb44 hkb44 hub44 hsb44 => ?_)
 have ho45 := Own.new hown eb44 hub44
 have hl47 : r < b44 := by rw [eb44]; exact hr.lt
 have hk46 := hr.upd hub44 (Nat.ne_of_lt hl47)
 have hvl49 := fun h0 => eb44 ▸ hb.lt h0
 have hv48 := bup hb hub44 hvl49
 have hgeb44 : w.heap.size ≤ b44 := by rw [eb44]; exact hB0.size
 have hB50 := Touch.trans hB0 (Touch.of_new hub44 (Nat.le_trans hBw hgeb44))
 refine WL.appm underlying26 inf5 rfl rfl rfl ho45 rfl hkb44 rfl (by rw [byteVals_len]; omega) ((Nat.le_trans hBw hB50.size)) rfl (fun v51 w52 how52 hbw52 hgw52 => ?_)
 have hk53 := hk46.below hbw52 oO
 have hv54 := BytesAt.below hv48 hbw52 hpB
 have hB55 := Touch.trans hB50 (Touch.of_below (hbw52.mono (Nat.le_refl _)))
 have ho56 := Own.snoc how52 (8) (rfl)
 refine WL.z rfl rfl ?_
 refine W.ret (W.ret1 rfl rfl ?_)
 exact ⟨_, rfl, t, ⟨hk53, hv54⟩, hB55, (by rw [show x = 98 from u8_eq aS, esc98]; exact ho56), Nat.le_refl _, ht, (by rw [show x = 98 from u8_eq aS, esc98])⟩
 have h43' := dF h43
 refine W.sr <| WL.p (.eql rfl rfl) rfl <| WL.z rfl rfl ?_
 refine W.cond rfl (fun h57 => ?_) (fun h57 => ?_)
 have h57' := dT h57
 refine W.sr <| WL.m rfl rfl <| WL.bsl (ps := _) underlying26 sizeOf5 zeroValue5 rfl rfl rfl rfl rfl pR rfl (fun b58 wb58 eb58 hkb58 hub58 hsb58 => ?_)
 have ho59 := Own.new hown eb58 hub58
 have hl61 : r < b58 := by rw [eb58]; exact hr.lt
 have hk60 := hr.upd hub58 (Nat.ne_of_lt hl61)
 have hvl63 := fun h0 => eb58 ▸ hb.lt h0
 have hv62 := bup hb hub58 hvl63
 have hgeb58 : w.heap.size ≤ b58 := by rw [eb58]; exact hB0.size
 have hB64 := Touch.trans hB0 (Touch.of_new hub58 (Nat.le_trans hBw hgeb58))
 refine WL.appm underlying26 inf5 rfl rfl rfl ho59 rfl hkb58 rfl (by rw [byteVals_len]; omega) ((Nat.le_trans hBw hB64.size)) rfl (fun v65 w66 how66 hbw66 hgw66 => ?_)
 have hk67 := hk60.below hbw66 oO
 have hv68 := BytesAt.below hv62 hbw66 hpB
 have hB69 := Touch.trans hB64 (Touch.of_below (hbw66.mono (Nat.le_refl _)))
 have ho70 := Own.snoc how66 (12) (rfl)
 refine WL.z rfl rfl ?_
 refine W.ret (W.ret1 rfl rfl ?_)
 exact ⟨_, rfl, t, ⟨hk67, hv68⟩, hB69, (by rw [show x = 102 from u8_eq aS, esc102]; exact ho70), Nat.le_refl _, ht, (by rw [show x = 102 from u8_eq aS, esc102])⟩
 have h57' := dF h57
 refine W.sr <| WL.p (.eql rfl rfl) rfl <| WL.z rfl rfl ?_
 refine W.cond rfl (fun h71 => ?_) (fun h71 => ?_)
 have h71' := dT h71
 refine W.sr <| WL.m rfl rfl <| WL.z rfl rfl ?_
 refine W.ret (W.ret1 rfl rfl ?_)
 exact ⟨_, rfl, t, ⟨hr, hb⟩, hB0, (by rw [show x = 10 from u8_eq aS, esc10, List.append_nil]; exact hown), Nat.le_refl _, ht, (by rw [show x = 10 from u8_eq aS, esc10])⟩
 have h71' := dF h71
 refine W.sr <| WL.p (.eql rfl rfl) rfl <| WL.z rfl rfl ?_
 refine W.cond rfl (fun h72 => ?_) (fun h72 => ?_)
 have h72' := dT h72
 have hx13 : x = 13 := u8_eq aS
 refine W.sr <| WL.m rfl rfl <| WL.c1 hb129 rfl rfl ((scan_next r p l c t 10 _ ⟨hr, hb⟩ hne hl ht)) (fun w73 hw73 => ?_)
 have ho74 := Own.touch' hown hw73.2 oO
 have hk75 := hw73.1.1
 have hv76 := hw73.1.2
 have hB77 := Touch.trans hB0 (Touch.mono hw73.2 (Nat.le_trans hBw hB0.size))
 refine WL.nil <| ?_
 refine W.sr <| WL.m rfl rfl <| WL.z rfl rfl ?_
 refine W.ret (W.ret1 rfl rfl ?_)
 exact ⟨_, rfl, _, ⟨hk75, hv76⟩, hB77, (by rw [hx13, esc13, List.append_nil]; exact ho74), (next_lf l t ht).1, (next_lf l t ht).2.1, (by rw [hx13, esc13]; exact (next_lf l t ht).2.2)⟩
 have h72' := dF h72
 refine W.skip <| W.seq <| W.sr <| WL.m rfl rfl <| WL.p (.lss rfl rfl) rfl <| WL.m rfl rfl <| WL.gd rfl rfl rfl (fun g78 => ?_) (fun g78 => ?_)
 have g78' := dF g78
 refine WL.m rfl rfl <| WL.gy rfl rfl rfl g78 <| WL.p (.gtr rfl rfl) rfl <| WL.p (.pkF rfl g78 rfl) rfl <| WL.nil <| ?_
 refine W.cond rfl (fun h79 => ?_) (fun h79 => ?_)
 have h79' := dT h79
 refine W.sr <| WL.m rfl rfl <| WL.m rfl rfl <| WL.bsl (ps := _) underlying26 sizeOf5 zeroValue5 rfl rfl rfl rfl rfl pR rfl (fun b80 wb80 eb80 hkb80 hub80 hsb80 => ?_)
 have ho81 := Own.new hown eb80 hub80
 have hl83 : r < b80 := by rw [eb80]; exact hr.lt
 have hk82 := hr.upd hub80 (Nat.ne_of_lt hl83)
 have hvl85 := fun h0 => eb80 ▸ hb.lt h0
 have hv84 := bup hb hub80 hvl85
 have hgeb80 : w.heap.size ≤ b80 := by rw [eb80]; exact hB0.size
 have hB86 := Touch.trans hB0 (Touch.of_new hub80 (Nat.le_trans hBw hgeb80))
 refine WL.appm underlying26 inf5 rfl rfl rfl ho81 rfl hkb80 rfl (by rw [byteVals_len]; omega) ((Nat.le_trans hBw hB86.size)) rfl (fun v87 w88 how88 hbw88 hgw88 => ?_)
 have hk89 := hk82.below hbw88 oO
 have hv90 := BytesAt.below hv84 hbw88 hpB
 have hB91 := Touch.trans hB86 (Touch.of_below (hbw88.mono (Nat.le_refl _)))
 have ho92 := Own.snoc how88 (x) (rfl)
 refine WL.z rfl rfl ?_
 refine W.ret (W.ret1 rfl rfl ?_)
 exact ⟨_, rfl, t, ⟨hk89, hv90⟩, hB91, (by rw [esc_else _ oO oO oO oO oO oO oO oO]; exact ho92), Nat.le_refl _, ht, (by rw [esc_else _ oO oO oO oO oO oO oO oO])⟩
 have h79' := dF h79
 refine W.skip <| W.sr <| WL.m rfl rfl <| WL.p (.sub rfl rfl (u8w oO)) rfl <| WL.p (.cvt underlying5 underlying3 rfl (i64w oO)) rfl <| WL.z rfl rfl ?_
 refine W.seq <| W.sr <| WL.z rfl rfl ?_
 refine W.block ?_
 obtain ⟨tt, htt⟩ : ∃ tt, tt = t := ⟨t, rfl⟩
 have h48 : 48 ≤ (x.toNat : Int) := by omega
 have h55 : (x.toNat : Int) ≤ 55 := by omega
 refine W.loop (α := Nat × Nat × Nat) (fun t => [(0, .pointer (some ⟨r, 0, none⟩)), (1, v), (7, .int .i64 (t.1 : Int)), (8, .int .i64 (t.2.1 : Int))]) (fun t w' => RdOk w' r p l c t.2.2 ∧ Touch B r w w' ∧ Own 5 B w' v (byteVals o) ∧ tt ≤ t.2.2 ∧ t.2.2 ≤ l.length ∧ (t.2.1 = 0 ∧ t.1 ≤ 7 ∨ t.2.1 = 1 ∧ t.1 ≤ 63 ∨ t.2.1 = 2 ∧ t.1 ≤ 511) ∧ octS (2 - t.2.1) t.1 (l.drop t.2.2) = octS 2 (x.toNat - 48) (l.drop tt)) (fun t => 2 - t.2.1) ((x.toNat - 48, 0, tt)) ⟨rfl, rfl, lk_i rfl oM, rfl, trivial⟩ (⟨⟨by rw [htt]; exact hr, hb⟩, hB0, hown, Nat.le_refl _, by rw [htt]; exact ht, Or.inl ⟨rfl, by ((try simp only) <;> omega)⟩, rfl⟩) (fun t w1 hR => ?_)
 subst htt
 obtain ⟨m, k, u⟩ := t
 obtain ⟨hrd, hT, hown1, hu1, hu2, hm, hoc⟩ := hR
 simp only at hrd hT hown1 hu1 hu2 hm hoc ⊢
 refine W.seq ?_
 refine W.cutBQ 87 (octT l k u) ?_ (fun w93 dw93 => ?_)
 refine W.regQ mixed kR ?_
 refine WQ.p (.mv rfl) rfl <| WQ.p (.lss rfl rfl) rfl <| WQ.p (.mv rfl) rfl <| WQ.gd rfl rfl rfl (fun g94 => ?_) (fun g94 => ?_)
 have g94' := dT g94
 refine WQ.p (.mv rfl) rfl <| WQ.gy rfl rfl rfl g94 <| WQ.c1 hb112 rfl rfl (fun m => (more_q r p l c u _ ⟨hrd.1, hrd.2⟩ m)) <| WQ.p (.pkT rfl g94 rfl) rfl <| WQ.p (.mv rfl) rfl <| WQ.gd rfl rfl rfl (fun g95 => ?_) (fun g95 => ?_)
 have g95' := dT g95
 refine WQ.p (.mv rfl) rfl <| WQ.gy rfl rfl rfl g95 <| WQ.p (.nck rfl) rfl <| WQ.gy rfl rfl rfl g95 <| WQ.p (.fa underlying128 rfl sizeOf26 dD rfl) rfl <| WQ.gy rfl rfl rfl g95 <| WQ.r (fun m => Rd.ld (isAgg26 _) rfl hrd.1 rfl) rfl <| WQ.gy rfl rfl rfl g95 <| WQ.p (.mv rfl) rfl <| WQ.gy rfl rfl rfl g95 <| WQ.p (.nck rfl) rfl <| WQ.gy rfl rfl rfl g95 <| WQ.p (.fa underlying128 rfl sizeOf3 dD rfl) rfl <| WQ.gy rfl rfl rfl g95 <| WQ.r (fun m => Rd.ld (isAgg3 _) rfl hrd.1 rfl) rfl <| WQ.gy rfl rfl rfl g95 <| WQ.p (.ixb underlying26 sizeOf5 rfl rfl (hrd.2.isp oO) (u) oO oO) rfl <| WQ.gy rfl rfl rfl g95 <| WQ.r (fun m => Rd.ldc (isAgg5 _) rfl ((hrd.2.drewN m).cells (u) oO)) rfl <| WQ.gy rfl rfl rfl g95 <| WQ.p (.geq rfl rfl) rfl <| WQ.p (.pkT rfl g95 rfl) rfl <| WQ.p (.mv rfl) rfl <| WQ.gd rfl rfl rfl (fun g96 => ?_) (fun g96 => ?_)
 have g96' := dT g96
 refine WQ.p (.mv rfl) rfl <| WQ.gy rfl rfl rfl g96 <| WQ.p (.nck rfl) rfl <| WQ.gy rfl rfl rfl g96 <| WQ.p (.fa underlying128 rfl sizeOf26 dD rfl) rfl <| WQ.gy rfl rfl rfl g96 <| WQ.r (fun m => Rd.ld (isAgg26 _) rfl hrd.1 rfl) rfl <| WQ.gy rfl rfl rfl g96 <| WQ.p (.mv rfl) rfl <| WQ.gy rfl rfl rfl g96 <| WQ.p (.nck rfl) rfl <| WQ.gy rfl rfl rfl g96 <| WQ.p (.fa underlying128 rfl sizeOf3 dD rfl) rfl <| WQ.gy rfl rfl rfl g96 <| WQ.r (fun m => Rd.ld (isAgg3 _) rfl hrd.1 rfl) rfl <| WQ.gy rfl rfl rfl g96 <| WQ.p (.ixb underlying26 sizeOf5 rfl rfl (hrd.2.isp oO) (u) oO oO) rfl <| WQ.gy rfl rfl rfl g96 <| WQ.r (fun m => Rd.ldc (isAgg5 _) rfl ((hrd.2.drewN m).cells (u) oO)) rfl <| WQ.gy rfl rfl rfl g96 <| WQ.p (.leq rfl rfl) rfl <| WQ.p (.pkT rfl g96 rfl) rfl <| WQ.nil (fun w97 dw97 => ?_)
 exact ⟨leE (lk_b rfl (by (by_cases hq : u < l.length) <;> (unfold octT; first | (exfalso; omega) | (rw [getElem!_pos l u hq]; (apply Bool.eq_iff_iff.2; (try simp only [Bool.and_eq_true, Bool.or_eq_true, Bool.not_eq_true', decide_eq_true_eq, decide_eq_false_iff_not, Bool.false_eq_true, Bool.not_eq_false', false_iff, iff_false, true_iff, iff_true]); omega)) | (apply Bool.eq_iff_iff.2; (try simp only [Bool.and_eq_true, Bool.or_eq_true, Bool.not_eq_true', decide_eq_true_eq, decide_eq_false_iff_not, Bool.false_eq_true, Bool.not_eq_false', false_iff, iff_false, true_iff, iff_true]); omega)))), dw97⟩
 have g96' := dF g96
 refine WQ.gn rfl rfl rfl g96 <| WQ.gn rfl rfl rfl g96 <| WQ.gn rfl rfl rfl g96 <| WQ.gn rfl rfl rfl g96 <| WQ.gn rfl rfl rfl g96 <| WQ.gn rfl rfl rfl g96 <| WQ.gn rfl rfl rfl g96 <| WQ.gn rfl rfl rfl g96 <| WQ.gn rfl rfl rfl g96 <| WQ.gn rfl rfl rfl g96 <| WQ.p (.pkF rfl g96 rfl) rfl <| WQ.nil (fun w102 dw102 => ?_)
 exact ⟨leE (lk_b rfl (by (by_cases hq : u < l.length) <;> (unfold octT; first | (exfalso; omega) | (rw [getElem!_pos l u hq]; (apply Bool.eq_iff_iff.2; (try simp only [Bool.and_eq_true, Bool.or_eq_true, Bool.not_eq_true', decide_eq_true_eq, decide_eq_false_iff_not, Bool.false_eq_true, Bool.not_eq_false', false_iff, iff_false, true_iff, iff_true]); omega)) | (apply Bool.eq_iff_iff.2; (try simp only [Bool.and_eq_true, Bool.or_eq_true, Bool.not_eq_true', decide_eq_true_eq, decide_eq_false_iff_not, Bool.false_eq_true, Bool.not_eq_false', false_iff, iff_false, true_iff, iff_true]); omega)))), dw102⟩
 have g95' := dF g95
 refine WQ.gn rfl rfl rfl g95 <| WQ.gn rfl rfl rfl g95 <| WQ.gn rfl rfl rfl g95 <| WQ.gn rfl rfl rfl g95 <| WQ.gn rfl rfl rfl g95 <| WQ.gn rfl rfl rfl g95 <| WQ.gn rfl rfl rfl g95 <| WQ.gn rfl rfl rfl g95 <| WQ.gn rfl rfl rfl g95 <| WQ.gn rfl rfl rfl g95 <| WQ.p (.pkF rfl g95 rfl) rfl <| WQ.p (.mv rfl) rfl <| WQ.gn rfl rfl rfl rfl <| WQ.gn rfl rfl rfl rfl <| WQ.gn rfl rfl rfl rfl <| WQ.gn rfl rfl rfl rfl <| WQ.gn rfl rfl rfl rfl <| WQ.gn rfl rfl rfl rfl <| WQ.gn rfl rfl rfl rfl <| WQ.gn rfl rfl rfl rfl <| WQ.gn rfl rfl rfl rfl <| WQ.gn rfl rfl rfl rfl <| WQ.gn rfl rfl rfl rfl <| WQ.p (.pkF rfl rfl rfl) rfl <| WQ.nil (fun w107 dw107 => ?_)
 exact ⟨leE (lk_b rfl (by (by_cases hq : u < l.length) <;> (unfold octT; first | (exfalso; omega) | (rw [getElem!_pos l u hq]; (apply Bool.eq_iff_iff.2; (try simp only [Bool.and_eq_true, Bool.or_eq_true, Bool.not_eq_true', decide_eq_true_eq, decide_eq_false_iff_not, Bool.false_eq_true, Bool.not_eq_false', false_iff, iff_false, true_iff, iff_true]); omega)) | (apply Bool.eq_iff_iff.2; (try simp only [Bool.and_eq_true, Bool.or_eq_true, Bool.not_eq_true', decide_eq_true_eq, decide_eq_false_iff_not, Bool.false_eq_true, Bool.not_eq_false', false_iff, iff_false, true_iff, iff_true]); omega)))), dw107⟩
 have g94' := dF g94
 refine WQ.gn rfl rfl rfl g94 <| WQ.p (.pkF rfl g94 rfl) rfl <| WQ.p (.mv rfl) rfl <| WQ.gn rfl rfl rfl rfl <| WQ.gn rfl rfl rfl rfl <| WQ.gn rfl rfl rfl rfl <| WQ.gn rfl rfl rfl rfl <| WQ.gn rfl rfl rfl rfl <| WQ.gn rfl rfl rfl rfl <| WQ.gn rfl rfl rfl rfl <| WQ.gn rfl rfl rfl rfl <| WQ.gn rfl rfl rfl rfl <| WQ.gn rfl rfl rfl rfl <| WQ.gn rfl rfl rfl rfl <| WQ.p (.pkF rfl rfl rfl) rfl <| WQ.p (.mv rfl) rfl <| WQ.gn rfl rfl rfl rfl <| WQ.gn rfl rfl rfl rfl <| WQ.gn rfl rfl rfl rfl <| WQ.gn rfl rfl rfl rfl <| WQ.gn rfl rfl rfl rfl <| WQ.gn rfl rfl rfl rfl <| WQ.gn rfl rfl rfl rfl <| WQ.gn rfl rfl rfl rfl <| WQ.gn rfl rfl rfl rfl <| WQ.gn rfl rfl rfl rfl <| WQ.gn rfl rfl rfl rfl <| WQ.p (.pkF rfl rfl rfl) rfl <| WQ.nil (fun w112 dw112 => ?_)
 exact ⟨leE (lk_b rfl (by (by_cases hq : u < l.length) <;> (unfold octT; first | (exfalso; omega) | (rw [getElem!_pos l u hq]; (apply Bool.eq_iff_iff.2; (try simp only [Bool.and_eq_true, Bool.or_eq_true, Bool.not_eq_true', decide_eq_true_eq, decide_eq_false_iff_not, Bool.false_eq_true, Bool.not_eq_false', false_iff, iff_false, true_iff, iff_true]); omega)) | (apply Bool.eq_iff_iff.2; (try simp only [Bool.and_eq_true, Bool.or_eq_true, Bool.not_eq_true', decide_eq_true_eq, decide_eq_false_iff_not, Bool.false_eq_true, Bool.not_eq_false', false_iff, iff_false, true_iff, iff_true]); omega)))), dw112⟩
 have ho117 := Own.drew hown1 dw93
 have hk118 := hrd.1.drew dw93
 have hv119 := hrd.2.drew dw93
 have hB120 := Touch.trans hT (Touch.of_drew dw93)
 refine W.cond rfl (fun h121 => ?_) (fun h121 => ?_)
 obtain ⟨hk2', hul, h48', h55', hoct⟩ := octT_t aS
 refine W.skip <| W.seq <| W.block <| W.reg <| WL.m rfl rfl <| WL.p (.mul rfl rfl (i64w oO)) rfl <| WL.m rfl rfl <| WL.ce hb127 rfl rfl ((scan_take r p l c u _ ⟨hk118, hv119⟩ hne hl)) (fun k124 w122 hrw122 hw122 => ?_) (fun a123 w122 hrw122 hw122 => ?_)
 exact absurd (takeS_err hrw122).1 oO
 have ho125 := Own.touch' ho117 hw122.2 oO
 have hk126 := hw122.1.1
 have hv127 := hw122.1.2
 have hB128 := Touch.trans hB120 (Touch.mono hw122.2 (Nat.le_trans hBw hB120.size))
 obtain ⟨hlt, hx⟩ := takeS_ok hrw122
 rw [hx]
 refine WL.p (.sub rfl rfl (u8w oO)) rfl <| WL.p (.cvt underlying5 underlying3 rfl (i64w oO)) rfl <| WL.p (.add rfl rfl (i64w oO)) rfl <| WL.z rfl rfl ?_
 refine W.reg <| WL.m rfl rfl <| WL.p (.add rfl rfl (i64w oO)) rfl <| WL.z rfl rfl ?_
 exact ⟨(8 * m + ((l[u]'hul).toNat - 48), k + 1, u + 1), ⟨rfl, rfl, lk_i rfl oM, lk_i rfl oM, trivial⟩, ⟨⟨hk126, hv127⟩, hB128, ho125, by ((try simp only) <;> omega), by ((try simp only) <;> omega), by ((try simp only) <;> omega), by rw [← hoc, hoct m]⟩, by ((try simp only) <;> omega)⟩
 have hoct := octT_f aS m
 rw [hoc] at hoct
 refine W.exit <| W.sr <| WL.m rfl rfl <| WL.m rfl rfl <| WL.p (.cvt underlying3 underlying5 rfl (show IntKind.u8.wrap (m : Int) = ((m % 256 : Nat) : Int) by rw [IntKind.wrap_u8']; (first | done | rfl))) rfl <| WL.bsl (ps := _) underlying26 sizeOf5 zeroValue5 rfl rfl rfl rfl rfl pR rfl (fun b129 wb129 eb129 hkb129 hub129 hsb129 => ?_)
 have ho130 := Own.new ho117 eb129 hub129
 have hl132 : r < b129 := by rw [eb129]; exact hk118.lt
 have hk131 := hk118.upd hub129 (Nat.ne_of_lt hl132)
 have hvl134 := fun h0 => eb129 ▸ hv119.lt h0
 have hv133 := bup hv119 hub129 hvl134
 have hgeb129 : w.heap.size ≤ b129 := by rw [eb129]; exact hB120.size
 have hB135 := Touch.trans hB120 (Touch.of_new hub129 (Nat.le_trans hBw hgeb129))
 refine WL.appm underlying26 inf5 rfl rfl rfl ho130 rfl hkb129 rfl (by rw [byteVals_len]; omega) ((Nat.le_trans hBw hB135.size)) rfl (fun v136 w137 how137 hbw137 hgw137 => ?_)
 have hk138 := hk131.below hbw137 oO
 have hv139 := BytesAt.below hv133 hbw137 hpB
 have hB140 := Touch.trans hB135 (Touch.of_below (hbw137.mono (Nat.le_refl _)))
 have ho141 := Own.snoc how137 (ch ((m % 256 : Nat) : Int)) (by rw [ch_val _ oO oO])
 refine WL.z rfl rfl ?_
 refine W.ret (W.ret1 rfl rfl ?_)
 exact ⟨_, rfl, u, ⟨hk138, hv139⟩, hB140, (by rw [esc_oct _ h48 h55, hoct]; exact ho141), hu1, hu2, (by rw [esc_oct _ h48 h55, hoct])⟩
 have g78' := dT g78
 refine WL.gn rfl rfl rfl g78 <| WL.p (.pkT rfl g78 rfl) rfl <| WL.nil <| ?_
 refine W.condT rfl rfl ?_
 refine W.sr <| WL.m rfl rfl <| WL.m rfl rfl <| WL.bsl (ps := _) underlying26 sizeOf5 zeroValue5 rfl rfl rfl rfl rfl pR rfl (fun b142 wb142 eb142 hkb142 hub142 hsb142 => ?_)
 have ho143 := Own.new hown eb142 hub142
 have hl145 : r < b142 := by rw [eb142]; exact hr.lt
 have hk144 := hr.upd hub142 (Nat.ne_of_lt hl145)
 have hvl147 := fun h0 => eb142 ▸ hb.lt h0
 have hv146 := bup hb hub142 hvl147
 have hgeb142 : w.heap.size ≤ b142 := by rw [eb142]; exact hB0.size
 have hB148 := Touch.trans hB0 (Touch.of_new hub142 (Nat.le_trans hBw hgeb142))
 refine WL.appm underlying26 inf5 rfl rfl rfl ho143 rfl hkb142 rfl (by rw [byteVals_len]; omega) ((Nat.le_trans hBw hB148.size)) rfl (fun v149 w150 how150 hbw150 hgw150 => ?_)
 have hk151 := hk144.below hbw150 oO
 have hv152 := BytesAt.below hv146 hbw150 hpB
 have hB153 := Touch.trans hB148 (Touch.of_below (hbw150.mono (Nat.le_refl _)))
 have ho154 := Own.snoc how150 (x) (rfl)
 refine WL.z rfl rfl ?_
 refine W.ret (W.ret1 rfl rfl ?_)
 exact ⟨_, rfl, t, ⟨hk151, hv152⟩, hB153, (by rw [esc_else _ oO oO oO oO oO oO oO oO]; exact ho154), Nat.le_refl _, ht, (by rw [esc_else _ oO oO oO oO oO oO oO oO])⟩
theorem escS_one (x : UInt8) (r : List UInt8) : (escS x r).1.length ≤ 1 := by
 unfold escS
 repeat' split
 all_goals simp
theorem scan_round (r : Nat) (p : Option Addr) (l : List UInt8) (c t : Nat) (w : World) (h : RdOk w r p l c t) (hne : 0 < l.length → (pA p).block ≠ r) (hc : l.length ≤ c) (hl : l.length ≤ 100000000) (ht : t ≤ l.length) :
  Calls Tryz.prog 113 #[.pointer (some ⟨r, 0, none⟩)] w (Ends 29 (textS (roundS 1 [] (l.drop t))) (fun a => a.1.val) (Read w r p l c) (fun w' => Touch w.heap.size r w w')) := by
 have hr := h.1
 have hb := h.2
 obtain ⟨R, hR⟩ : ∃ R, R = roundS 1 [] (l.drop t) := ⟨_, rfl⟩
 rw [← hR]
 obtain ⟨a, rfl⟩ : ∃ a, a = t := ⟨t, rfl⟩
 refine W.enter func113 rfl ntmps113 (Nat.le_of_ble_eq_true rfl) ?_
 have hB0 := Touch.refl (w.heap.size) r w
 refine W.sr <| WL.alloc zeroValue120 rfl (fun b1 wb1 eb1 hkb1 hub1 hsb1 => ?_)
 have hl3 : r < b1 := by rw [eb1]; exact hr.lt
 have hk2 := hr.upd hub1 (Nat.ne_of_lt hl3)
 have hvl5 := fun h0 => eb1 ▸ hb.lt h0
 have hv4 := bup hb hub1 hvl5
 have hgeb1 : w.heap.size ≤ b1 := by rw [eb1]; exact hB0.size
 have hB6 := Touch.trans hB0 (Touch.of_new hub1 hgeb1)
 refine WL.nil <| ?_
 refine W.seq ?_
 have hpB : 0 < l.length → (pA p).block < b1 + 1 := fun h0 => by have := hb.lt h0; omega
 have hrB : r < b1 := by have := hr.lt; omega
 refine W.reg <| WL.z rfl rfl ?_
 refine W.sr <| WL.z rfl rfl ?_
 refine W.block ?_
 refine W.loop (α := Value × List UInt8 × Nat × Nat) (fun t => [(0, .pointer (some ⟨r, 0, none⟩)), (2, .pointer (some ⟨b1, 0, none⟩)), (3, t.1), (4, .int .i64 (t.2.2.1 : Int))]) (fun t w' => RdOk w' r p l c t.2.2.2 ∧ Touch w.heap.size r w w' ∧ Blk w' b1 #[.int .i64 0, .int .i64 0, .string ⟨#[]⟩] 120 ∧ Own 5 (b1 + 1) w' t.1 (byteVals t.2.1) ∧ roundS t.2.2.1 t.2.1 (l.drop t.2.2.2) = R ∧ 1 ≤ t.2.2.1 ∧ t.2.2.1 ≤ t.2.2.2 + 1 ∧ t.2.1.length ≤ t.2.2.2 ∧ t.2.2.2 ≤ l.length) (fun t => l.length - t.2.2.2) ((.slice none 0 0, [], 1, a)) ⟨rfl, rfl, rfl, rfl, trivial⟩ (⟨⟨hk2, hv4⟩, hB6, hkb1, Own.nil _ _ _, hR.symm, Nat.le_refl _, by ((try simp only) <;> omega), Nat.zero_le _, ht⟩) (fun t w1 hR => ?_)
 obtain ⟨v, o, d, s⟩ := t
 obtain ⟨hrd, hT, hbk, hown, hw, hd1, hds, hol, hs⟩ := hR
 simp only at hrd hT hbk hown hw hd1 hds hol hs ⊢
 refine W.block <| W.sr <| WL.m rfl rfl <| WL.ce hb127 rfl rfl ((scan_take r p l c s _ ⟨hrd.1, hrd.2⟩ hne hl)) (fun k9 w7 hrw7 hw7 => ?_) (fun a8 w7 hrw7 hw7 => ?_)
 have hBew7 := Touch.trans hT (Touch.mono hw7 hT.size)
 exact pn_is (Ends.err k9 (by rw [(takeS_err hrw7).2, ← hw, List.drop_eq_nil_of_le (takeS_err hrw7).1, roundS.eq_def]; (first | done | rfl)) hBew7)
 have ho10 := Own.touch' hown hw7.2 oO
 have hk11 := hw7.1.1
 have hk12 := Blk.touch hbk hw7.2 hbk.lt oO
 have hv13 := hw7.1.2
 have hB14 := Touch.trans hT (Touch.mono hw7.2 hT.size)
 obtain ⟨hlt, hx⟩ := takeS_ok hrw7
 obtain ⟨x, hxx⟩ : ∃ x, x = a8 := ⟨_, rfl⟩
 rw [← hxx] at hx ⊢
 have hst := roundS_at d o l s hlt
 rw [← hx] at hst
 refine WL.z rfl rfl ?_
 refine W.seq <| W.sr <| WL.m rfl rfl <| WL.nil <| ?_
 refine W.block <| W.sr <| WL.p (.eql rfl rfl) rfl <| WL.z rfl rfl ?_
 refine W.cond rfl (fun h15 => ?_) (fun h15 => ?_)
 have h15' := dT h15
 refine W.reg <| WL.m rfl rfl <| WL.p (.iis (((d + 1 : Nat) : Int)) (.add rfl rfl (i64w oO)) oO) rfl <| WL.z rfl rfl ?_
 refine W.seq <| W.sr <| WL.m rfl rfl <| WL.p (.eql rfl rfl) rfl <| WL.nil <| ?_
 refine W.cond rfl (fun h16 => ?_) (fun h16 => ?_)
 have h16' := dT h16
 refine W.seq ?_
 obtain ⟨q, cq, rfl, hqb, hqB⟩ := Own.bytes ho10
 refine W.reg <| WL.m rfl rfl <| WL.ce hb130 rfl rfl ((scan_text q _ cq _ hqb oO)) (fun k19 w17 hrw17 hw17 => ?_) (fun a18 w17 hrw17 hw17 => ?_)
 (exfalso; omega)
 have hk22 := hk12.below hw17 hk12.lt
 obtain ⟨a0, ha0⟩ : ∃ a0, a0 = a18 := ⟨_, rfl⟩
 have hra := hrw17
 refine WL.stL rfl rfl hk22 isz120 rfl rfl (fun w25 hkw25 huw25 hsw25 => ?_)
 refine WL.nil <| ?_
 refine W.ret (W.retc1 rfl rfl (ldRow hkw25 underlying120 rfl isz120)  ?_)
 (exfalso; omega)
 have h16' := dF h16
 refine W.skip <| W.reg <| WL.m rfl rfl <| WL.m rfl rfl <| WL.bsl (ps := _) underlying26 sizeOf5 zeroValue5 rfl rfl rfl rfl rfl pR rfl (fun b30 wb30 eb30 hkb30 hub30 hsb30 => ?_)
 have ho31 := Own.new ho10 eb30 hub30
 have hl33 : r < b30 := by rw [eb30]; exact hk11.lt
 have hk32 := hk11.upd hub30 (Nat.ne_of_lt hl33)
 have hl35 : b1 < b30 := by rw [eb30]; exact hk12.lt
 have hk34 := hk12.upd hub30 (Nat.ne_of_lt hl35)
 have hvl37 := fun h0 => eb30 ▸ hv13.lt h0
 have hv36 := bup hv13 hub30 hvl37
 have hgeb30 : w.heap.size ≤ b30 := by rw [eb30]; exact hB14.size
 have hB38 := Touch.trans hB14 (Touch.of_new hub30 hgeb30)
 refine WL.appm underlying26 inf5 rfl rfl rfl ho31 rfl hkb30 rfl (by rw [byteVals_len]; omega) (hk34.lt) rfl (fun v39 w40 how40 hbw40 hgw40 => ?_)
 have hk41 := hk32.below hbw40 oO
 have hk42 := hk34.below hbw40 oO
 have hv43 := BytesAt.below hv36 hbw40 hpB
 have hB44 := Touch.trans hB38 (Touch.of_below (hbw40.mono oO))
 have ho45 := Own.snoc how40 (x) (rfl)
 refine WL.z rfl rfl ?_
 exact ⟨(_, o ++ [_], d + 1, s + 1), ⟨rfl, rfl, rfl, rfl, trivial⟩, ⟨⟨hk41, hv43⟩, hB44, hk42, ho45, (by rw [← hw, hst, show x = 40 from u8_eq aS, if_pos rfl]), by ((try simp only) <;> omega), by ((try simp only) <;> omega), (by simp only [List.length_append, List.length_cons, List.length_nil]; omega), by ((try simp only) <;> omega)⟩, by ((try simp only) <;> omega)⟩
 have h15' := dF h15
 refine W.sr <| WL.p (.eql rfl rfl) rfl <| WL.z rfl rfl ?_
 refine W.cond rfl (fun h46 => ?_) (fun h46 => ?_)
 have h46' := dT h46
 refine W.reg <| WL.m rfl rfl <| WL.p (.iis (((d - 1 : Nat) : Int)) (.sub rfl rfl (i64w oO)) oO) rfl <| WL.z rfl rfl ?_
 refine W.seq <| W.sr <| WL.m rfl rfl <| WL.p (.eql rfl rfl) rfl <| WL.nil <| ?_
 refine W.cond rfl (fun h47 => ?_) (fun h47 => ?_)
 have h47' := dT h47
 refine W.seq ?_
 obtain ⟨q, cq, rfl, hqb, hqB⟩ := Own.bytes ho10
 refine W.reg <| WL.m rfl rfl <| WL.ce hb130 rfl rfl ((scan_text q _ cq _ hqb oO)) (fun k50 w48 hrw48 hw48 => ?_) (fun a49 w48 hrw48 hw48 => ?_)
 have hBew48 := Touch.trans hB14 (Touch.mono (Touch.of_below hw48) hB14.size)
 exact pn_is (Ends.err k50 (by rw [← hw, hst, show x = 41 from u8_eq aS, if_neg dD, if_pos rfl, if_pos oO]; exact textS_err hrw48) hBew48)
 have hk52 := hk11.below hw48 hk11.lt
 have hk53 := hk12.below hw48 hk12.lt
 have hv54 := BytesAt.below hv13 hw48 (fun h0 => hv13.lt h0)
 have hB55 := Touch.trans hB14 (Touch.mono (Touch.of_below hw48) hB14.size)
 obtain ⟨a0, ha0⟩ : ∃ a0, a0 = a49 := ⟨_, rfl⟩
 have hra := hrw48
 refine WL.stL rfl rfl hk53 isz120 rfl rfl (fun w56 hkw56 huw56 hsw56 => ?_)
 have hk58 := hk52.up huw56
 have hv59 := bup hv54 huw56 hvl5
 have hB60 := Touch.trans hB55 (Touch.of_new huw56 oO)
 refine WL.nil <| ?_
 refine W.ret (W.retc1 rfl rfl (ldRow hkw56 underlying120 rfl isz120)  ?_)
 exact Ends.ok (_, l.drop (s + 1)) (by rw [← hw, hst, show x = 41 from u8_eq aS, if_neg dD, if_pos rfl, if_pos oO]; exact textS_ok hra) rfl ⟨_, rfl, by omega, ⟨hk58, hv59⟩, hB60⟩
 have h47' := dF h47
 refine W.skip <| W.reg <| WL.m rfl rfl <| WL.m rfl rfl <| WL.bsl (ps := _) underlying26 sizeOf5 zeroValue5 rfl rfl rfl rfl rfl pR rfl (fun b61 wb61 eb61 hkb61 hub61 hsb61 => ?_)
 have ho62 := Own.new ho10 eb61 hub61
 have hl64 : r < b61 := by rw [eb61]; exact hk11.lt
 have hk63 := hk11.upd hub61 (Nat.ne_of_lt hl64)
 have hl66 : b1 < b61 := by rw [eb61]; exact hk12.lt
 have hk65 := hk12.upd hub61 (Nat.ne_of_lt hl66)
 have hvl68 := fun h0 => eb61 ▸ hv13.lt h0
 have hv67 := bup hv13 hub61 hvl68
 have hgeb61 : w.heap.size ≤ b61 := by rw [eb61]; exact hB14.size
 have hB69 := Touch.trans hB14 (Touch.of_new hub61 hgeb61)
 refine WL.appm underlying26 inf5 rfl rfl rfl ho62 rfl hkb61 rfl (by rw [byteVals_len]; omega) (hk65.lt) rfl (fun v70 w71 how71 hbw71 hgw71 => ?_)
 have hk72 := hk63.below hbw71 oO
 have hk73 := hk65.below hbw71 oO
 have hv74 := BytesAt.below hv67 hbw71 hpB
 have hB75 := Touch.trans hB69 (Touch.of_below (hbw71.mono oO))
 have ho76 := Own.snoc how71 (x) (rfl)
 refine WL.z rfl rfl ?_
 exact ⟨(_, o ++ [_], d - 1, s + 1), ⟨rfl, rfl, rfl, rfl, trivial⟩, ⟨⟨hk72, hv74⟩, hB75, hk73, ho76, (by rw [← hw, hst, show x = 41 from u8_eq aS, if_neg dD, if_pos rfl, if_neg oO]), by ((try simp only) <;> omega), by ((try simp only) <;> omega), (by simp only [List.length_append, List.length_cons, List.length_nil]; omega), by ((try simp only) <;> omega)⟩, by ((try simp only) <;> omega)⟩
 have h46' := dF h46
 refine W.sr <| WL.p (.eql rfl rfl) rfl <| WL.z rfl rfl ?_
 refine W.cond rfl (fun h77 => ?_) (fun h77 => ?_)
 have h77' := dT h77
 refine W.sr <| WL.m rfl rfl <| WL.m rfl rfl <| WL.m rfl rfl <| WL.ce hb127 rfl rfl ((scan_take r p l c (s + 1) _ ⟨hk11, hv13⟩ hne hl)) (fun k80 w78 hrw78 hw78 => ?_) (fun a79 w78 hrw78 hw78 => ?_)
 have hBew78 := Touch.trans hB14 (Touch.mono hw78 hB14.size)
 exact pn_is (Ends.err k80 (by rw [(takeS_err hrw78).2, ← hw, hst, show x = 92 from u8_eq aS, if_neg dD, if_neg dD, if_pos rfl, List.drop_eq_nil_of_le (takeS_err hrw78).1]; (first | done | rfl)) hBew78)
 have ho81 := Own.touch' ho10 hw78.2 oO
 have hk82 := hw78.1.1
 have hk83 := Blk.touch hk12 hw78.2 hk12.lt oO
 have hv84 := hw78.1.2
 have hB85 := Touch.trans hB14 (Touch.mono hw78.2 hB14.size)
 obtain ⟨hlt2, hx2⟩ := takeS_ok hrw78
 obtain ⟨y, hyy⟩ : ∃ y, y = a79 := ⟨_, rfl⟩
 rw [← hyy] at hx2 ⊢
 refine WL.call hb128 rfl rfl ((scan_escape (b1 + 1) r p l c (s + 1 + 1) y v o _ ⟨hk82, hv84⟩ hne hl oO oO (hk83).lt hpB ho81 oO)) (fun v2 w86 hw86 => ?_)
 obtain ⟨k2, hrd2, hT2, ho2, hk2a, hk2b, hk2c⟩ := hw86
 have hbk2 := Blk.touch hk83 hT2 oO oO
 have hB2 := Touch.trans hB85 (hT2.mono oO)
 have hol2 := escS_one y (l.drop (s + 1 + 1))
 refine WL.z rfl rfl ?_
 refine W.exit ?_
 exact ⟨(v2, o ++ (escS y (l.drop (s + 1 + 1))).1, d, k2), ⟨rfl, rfl, rfl, rfl, trivial⟩, ⟨⟨hrd2.1, hrd2.2⟩, hB2, hbk2, ho2, (by rw [hk2c, ← hw, hst, show x = 92 from u8_eq aS, if_neg dD, if_neg dD, if_pos rfl, List.drop_eq_getElem_cons hlt2, ← hx2]), hd1, by ((try simp only) <;> omega), (by simp only [List.length_append, List.length_cons, List.length_nil]; omega), by ((try simp only) <;> omega)⟩, by ((try simp only) <;> omega)⟩
 have h77' := dF h77
 refine W.sr <| WL.p (.eql rfl rfl) rfl <| WL.z rfl rfl ?_
 refine W.cond rfl (fun h87 => ?_) (fun h87 => ?_)
 have h87' := dT h87
 refine W.sr <| WL.m rfl rfl <| WL.c1 hb129 rfl rfl ((scan_next r p l c (s + 1) 10 _ ⟨hk11, hv13⟩ hne hl oO)) (fun w88 hw88 => ?_)
 have ho89 := Own.touch' ho10 hw88.2 oO
 have hk90 := hw88.1.1
 have hk91 := Blk.touch hk12 hw88.2 hk12.lt oO
 have hv92 := hw88.1.2
 have hB93 := Touch.trans hB14 (Touch.mono hw88.2 hB14.size)
 have hnl := next_lf l (s + 1) oO
 refine WL.nil <| ?_
 refine W.reg <| WL.z rfl rfl ?_
 refine W.seq <| W.sr <| WL.m rfl rfl <| WL.p (.eql rfl rfl) rfl <| WL.nil <| ?_
 refine W.cond rfl (fun h94 => ?_) (fun h94 => ?_)
 have h94' := dT h94
 refine W.seq ?_
 obtain ⟨q, cq, rfl, hqb, hqB⟩ := Own.bytes ho89
 refine W.reg <| WL.m rfl rfl <| WL.ce hb130 rfl rfl ((scan_text q _ cq _ hqb oO)) (fun k97 w95 hrw95 hw95 => ?_) (fun a96 w95 hrw95 hw95 => ?_)
 (exfalso; omega)
 have hk100 := hk91.below hw95 hk91.lt
 obtain ⟨a0, ha0⟩ : ∃ a0, a0 = a96 := ⟨_, rfl⟩
 have hra := hrw95
 refine WL.stL rfl rfl hk100 isz120 rfl rfl (fun w103 hkw103 huw103 hsw103 => ?_)
 refine WL.nil <| ?_
 refine W.ret (W.retc1 rfl rfl (ldRow hkw103 underlying120 rfl isz120)  ?_)
 (exfalso; omega)
 have h94' := dF h94
 refine W.skip <| W.reg <| WL.m rfl rfl <| WL.m rfl rfl <| WL.bsl (ps := _) underlying26 sizeOf5 zeroValue5 rfl rfl rfl rfl rfl pR rfl (fun b108 wb108 eb108 hkb108 hub108 hsb108 => ?_)
 have ho109 := Own.new ho89 eb108 hub108
 have hl111 : r < b108 := by rw [eb108]; exact hk90.lt
 have hk110 := hk90.upd hub108 (Nat.ne_of_lt hl111)
 have hl113 : b1 < b108 := by rw [eb108]; exact hk91.lt
 have hk112 := hk91.upd hub108 (Nat.ne_of_lt hl113)
 have hvl115 := fun h0 => eb108 ▸ hv92.lt h0
 have hv114 := bup hv92 hub108 hvl115
 have hgeb108 : w.heap.size ≤ b108 := by rw [eb108]; exact hB93.size
 have hB116 := Touch.trans hB93 (Touch.of_new hub108 hgeb108)
 refine WL.appm underlying26 inf5 rfl rfl rfl ho109 rfl hkb108 rfl (by rw [byteVals_len]; omega) (hk112.lt) rfl (fun v117 w118 how118 hbw118 hgw118 => ?_)
 have hk119 := hk110.below hbw118 oO
 have hk120 := hk112.below hbw118 oO
 have hv121 := BytesAt.below hv114 hbw118 hpB
 have hB122 := Touch.trans hB116 (Touch.of_below (hbw118.mono oO))
 have ho123 := Own.snoc how118 (10) (rfl)
 refine WL.z rfl rfl ?_
 exact ⟨(_, o ++ [_], d, (if nextB l (s + 1) 10 then s + 1 + 1 else s + 1)), ⟨rfl, rfl, rfl, rfl, trivial⟩, ⟨⟨hk119, hv121⟩, hB122, hk120, ho123, (by show roundS d (o ++ [10]) (l.drop (if nextB l (s + 1) 10 then s + 1 + 1 else s + 1)) = R; rw [hnl.2.2, ← hw, hst, show x = 13 from u8_eq aS, if_neg dD, if_neg dD, if_neg dD, if_pos rfl]), by ((try simp only) <;> omega), by ((try simp only) <;> omega), (by simp only [List.length_append, List.length_cons, List.length_nil]; omega), by ((try simp only) <;> omega)⟩, by ((try simp only) <;> omega)⟩
 have h87' := dF h87
 refine W.skip <| W.seq <| W.sr <| WL.m rfl rfl <| WL.p (.eql rfl rfl) rfl <| WL.nil <| ?_
 refine W.cond rfl (fun h124 => ?_) (fun h124 => ?_)
 have h124' := dT h124
 refine W.seq ?_
 obtain ⟨q, cq, rfl, hqb, hqB⟩ := Own.bytes ho10
 refine W.reg <| WL.m rfl rfl <| WL.ce hb130 rfl rfl ((scan_text q _ cq _ hqb oO)) (fun k127 w125 hrw125 hw125 => ?_) (fun a126 w125 hrw125 hw125 => ?_)
 (exfalso; omega)
 have hk130 := hk12.below hw125 hk12.lt
 obtain ⟨a0, ha0⟩ : ∃ a0, a0 = a126 := ⟨_, rfl⟩
 have hra := hrw125
 refine WL.stL rfl rfl hk130 isz120 rfl rfl (fun w133 hkw133 huw133 hsw133 => ?_)
 refine WL.nil <| ?_
 refine W.ret (W.retc1 rfl rfl (ldRow hkw133 underlying120 rfl isz120)  ?_)
 (exfalso; omega)
 have h124' := dF h124
 refine W.skip <| W.reg <| WL.m rfl rfl <| WL.m rfl rfl <| WL.bsl (ps := _) underlying26 sizeOf5 zeroValue5 rfl rfl rfl rfl rfl pR rfl (fun b138 wb138 eb138 hkb138 hub138 hsb138 => ?_)
 have ho139 := Own.new ho10 eb138 hub138
 have hl141 : r < b138 := by rw [eb138]; exact hk11.lt
 have hk140 := hk11.upd hub138 (Nat.ne_of_lt hl141)
 have hl143 : b1 < b138 := by rw [eb138]; exact hk12.lt
 have hk142 := hk12.upd hub138 (Nat.ne_of_lt hl143)
 have hvl145 := fun h0 => eb138 ▸ hv13.lt h0
 have hv144 := bup hv13 hub138 hvl145
 have hgeb138 : w.heap.size ≤ b138 := by rw [eb138]; exact hB14.size
 have hB146 := Touch.trans hB14 (Touch.of_new hub138 hgeb138)
 refine WL.appm underlying26 inf5 rfl rfl rfl ho139 rfl hkb138 rfl (by rw [byteVals_len]; omega) (hk142.lt) rfl (fun v147 w148 how148 hbw148 hgw148 => ?_)
 have hk149 := hk140.below hbw148 oO
 have hk150 := hk142.below hbw148 oO
 have hv151 := BytesAt.below hv144 hbw148 hpB
 have hB152 := Touch.trans hB146 (Touch.of_below (hbw148.mono oO))
 have ho153 := Own.snoc how148 (x) (rfl)
 refine WL.z rfl rfl ?_
 exact ⟨(_, o ++ [_], d, s + 1), ⟨rfl, rfl, rfl, rfl, trivial⟩, ⟨⟨hk149, hv151⟩, hB152, hk150, ho153, (by rw [← hw, hst, if_neg (u8_ne (d := 40) aS), if_neg (u8_ne (d := 41) aS), if_neg (u8_ne (d := 92) aS), if_neg (u8_ne (d := 13) aS)]), by ((try simp only) <;> omega), by ((try simp only) <;> omega), (by simp only [List.length_append, List.length_cons, List.length_nil]; omega), by ((try simp only) <;> omega)⟩, by ((try simp only) <;> omega)⟩
end
section
theorem scan_token (r : Nat) (p : Option Addr) (l : List UInt8) (c n : Nat) (w : World) (h : RdOk w r p l c n) (hne : 0 < l.length → (pA p).block ≠ r) (hc : l.length ≤ c) (hl : l.length ≤ 100000000) (ht : n ≤ l.length) :
  Calls Tryz.prog 104 #[.pointer (some ⟨r, 0, none⟩)] w (Ends 29 (tokS (l.drop n)) (fun a => a.1.val) (Read w r p l c) (fun w' => Touch w.heap.size r w w')) := by
 have hr := h.1
 have hb := h.2
 refine W.enter func104 rfl ntmps104 (Nat.le_of_ble_eq_true rfl) ?_
 have hB0 := Touch.refl (w.heap.size) r w
 refine W.sr <| WL.alloc zeroValue120 rfl (fun b1 wb1 eb1 hkb1 hub1 hsb1 => ?_)
 have hl3 : r < b1 := by rw [eb1]; exact hr.lt
 have hk2 := hr.upd hub1 (Nat.ne_of_lt hl3)
 have hvl5 := fun h0 => eb1 ▸ hb.lt h0
 have hv4 := bup hb hub1 hvl5
 have hgeb1 : w.heap.size ≤ b1 := by rw [eb1]; exact hB0.size
 have hB6 := Touch.trans hB0 (Touch.of_new hub1 hgeb1)
 refine WL.nil <| ?_
 refine W.seq ?_
 have hrB : r < b1 := by have := hr.lt; omega
 refine W.reg <| WL.m rfl rfl <| WL.c1 hb111 rfl rfl ((scan_skip r p l c n _ ⟨hk2, hv4⟩ hne hl ht)) (fun w7 hw7 => ?_)
 have hk8 := hw7.1.1
 have hk9 := Blk.touch hkb1 hw7.2 hkb1.lt oO
 have hv10 := hw7.1.2
 have hB11 := Touch.trans hB6 (Touch.mono hw7.2 hB6.size)
 have hsd := skipAt_drop false l n
 have hsl := skipAt_le false l n
 generalize skipAt false l n = s at *
 refine WL.nil <| ?_
 refine W.seq <| W.sr <| WL.m rfl rfl <| WL.c1 hb112 rfl rfl ((scan_more r p l c s _ ⟨hk8, hv10⟩)) (fun w12 hw12 => ?_)
 have hk13 := hk8.drew hw12
 have hk14 := hk9.drew hw12
 have hv15 := hv10.drew hw12
 have hB16 := Touch.trans hB11 (Touch.of_drew hw12)
 refine WL.p (.not rfl) rfl <| WL.nil <| ?_
 refine W.cond rfl (fun h17 => ?_) (fun h17 => ?_)
 have h17' := (nT h17)
 refine W.sr <| WL.p (.buildL (ps := _) blt120 rfl rfl rfl pZ) rfl ?_
 refine WL.stL rfl rfl hk14 isz120 rfl rfl (fun w18 hkw18 huw18 hsw18 => ?_)
 have hk19 := hk13.up huw18
 have hv20 := bup hv15 huw18 hvl5
 have hB21 := Touch.trans hB16 (Touch.of_new huw18 oO)
 refine WL.nil <| ?_
 refine W.ret (W.retc1 rfl rfl (ldRow hkw18 underlying120 rfl isz120)  ?_)
 exact Ends.ok (⟨0, 0, []⟩, []) (tokS_end hsd (by simp_all)) rfl ⟨s, by rw [List.drop_eq_nil_of_le (by simp_all)], by omega, ⟨hk19, hv20⟩, hB21⟩
 have h17' := (nF h17)
 have hlt : s < l.length := by simp_all
 have hT := tokS_at hsd hlt
 obtain ⟨x, hx⟩ : ∃ x, x = l[s]'hlt := ⟨_, rfl⟩
 rw [← hx] at hT
 have hwl := wordAt_le l s oO
 refine W.skip <| W.seq <| W.seq <| W.regQ mixed kR ?_
 refine WQ.p (.mv rfl) rfl <| WQ.p (.nck rfl) rfl <| WQ.p (.fa underlying128 rfl sizeOf26 dD rfl) rfl <| WQ.r (fun m => Rd.ld (isAgg26 _) rfl hk13 rfl) rfl <| WQ.p (.mv rfl) rfl <| WQ.p (.nck rfl) rfl <| WQ.p (.fa underlying128 rfl sizeOf3 dD rfl) rfl <| WQ.r (fun m => Rd.ld (isAgg3 _) rfl hk13 rfl) rfl <| WQ.p (.ixb underlying26 sizeOf5 rfl rfl (hv15.isp oO) (s) oO oO) rfl <| WQ.r (fun m => Rd.iis ((x.toNat : Int)) (Rd.ldc (isAgg5 _) rfl ((hv15.drewN m).cells (s) oO)) (by rw [hx])) rfl <| WQ.p (.as rfl) rfl <| WQ.nil (fun w22 dw22 => ?_)
 have hk23 := hk13.drew dw22
 have hk24 := hk14.drew dw22
 have hv25 := hv15.drew dw22
 have hB26 := Touch.trans hB16 (Touch.of_drew dw22)
 refine W.sr <| WL.m rfl rfl <| WL.nil <| ?_
 refine W.block <| W.sr <| WL.p (.eql rfl rfl) rfl <| WL.z rfl rfl ?_
 refine W.cond rfl (fun h27 => ?_) (fun h27 => ?_)
 have h27' := dT h27
 refine W.sr <| WL.m rfl rfl <| WL.p (.nck rfl) rfl <| WL.p (.fa underlying128 rfl sizeOf3 dD rfl) rfl <| WL.r (Rd.ld (isAgg3 _) rfl hk23 rfl) rfl <| WL.p (.iis (((s + 1 : Nat) : Int)) (.add rfl rfl (i64w oO)) oO) rfl <| WL.p (.nck rfl) rfl <| WL.p (.fa underlying128 rfl sizeOf3 dD rfl) rfl <| WL.st sizeOf3 rfl rfl rfl hk23 oD (fun w28 hkw28 huw28 hsw28 => ?_)
 have hkw28 : Blk w28 r _ _ := hkw28
 have huw28 : Upd r _ _ := huw28
 have hk29 := hk24.up huw28
 have hv30 := BytesAt.upd hv25 huw28 hne
 have hB31 := Touch.trans hB26 (Touch.of_upd huw28)
 refine WL.nil <| ?_
 refine W.sr <| WL.m rfl rfl <| WL.ce hb113 rfl rfl ((scan_round r p l c (s + 1) _ ⟨hkw28, hv30⟩ hne hc hl oO)) (fun k34 w32 hrw32 hw32 => ?_) (fun a33 w32 hrw32 hw32 => ?_)
 have hBew32 := Touch.trans hB31 (Touch.mono hw32 hB31.size)
 exact pn_is (Ends.err k34 (by rw [hT, show x = 40 from u8_eq aS, tokC40]; exact hrw32) hBew32)
 obtain ⟨kr, hkr, hkl, hw32⟩ := hw32
 have hk35 := hw32.1.1
 have hk36 := Blk.touch hk29 hw32.2 hk29.lt oO
 have hv37 := hw32.1.2
 have hB38 := Touch.trans hB31 (Touch.mono hw32.2 hB31.size)
 have hra := hrw32
 obtain ⟨a0, ha0⟩ : ∃ a0, a0 = a33 := ⟨_, rfl⟩
 refine WL.stL rfl rfl hk36 isz120 rfl rfl (fun w39 hkw39 huw39 hsw39 => ?_)
 have hk40 := hk35.up huw39
 have hv41 := bup hv37 huw39 hvl5
 have hB42 := Touch.trans hB38 (Touch.of_new huw39 oO)
 refine WL.nil <| ?_
 refine W.ret (W.retc1 rfl rfl (ldRow hkw39 underlying120 rfl isz120)  ?_)
 exact Ends.ok _ (by rw [hT, show x = 40 from u8_eq aS, tokC40]; exact hra) rfl ⟨_, hkr, hkl, ⟨hk40, hv41⟩, hB42⟩
 have h27' := dF h27
 refine W.sr <| WL.p (.eql rfl rfl) rfl <| WL.z rfl rfl ?_
 refine W.cond rfl (fun h43 => ?_) (fun h43 => ?_)
 have h43' := dT h43
 refine W.reg <| WL.p (.mkI underlying29 rfl) rfl <| WL.panic rfl (pn_is ?_)
 exact Ends.err 14 (by rw [hT, show x = 41 from u8_eq aS, tokC41]) hB26
 have h43' := dF h43
 refine W.seq <| W.sr <| WL.p (.eql rfl rfl) rfl <| WL.z rfl rfl ?_
 refine W.cond rfl (fun h44 => ?_) (fun h44 => ?_)
 have h44' := dT h44
 refine W.skip <| W.condT rfl h44 ?_
 refine W.sr <| WL.m rfl rfl <| WL.p (.nck rfl) rfl <| WL.p (.fa underlying128 rfl sizeOf3 dD rfl) rfl <| WL.r (Rd.ld (isAgg3 _) rfl hk23 rfl) rfl <| WL.p (.iis (((s + 1 : Nat) : Int)) (.add rfl rfl (i64w oO)) oO) rfl <| WL.p (.nck rfl) rfl <| WL.p (.fa underlying128 rfl sizeOf3 dD rfl) rfl <| WL.st sizeOf3 rfl rfl rfl hk23 oD (fun w45 hkw45 huw45 hsw45 => ?_)
 have hkw45 : Blk w45 r _ _ := hkw45
 have huw45 : Upd r _ _ := huw45
 have hk46 := hk24.up huw45
 have hv47 := BytesAt.upd hv25 huw45 hne
 have hB48 := Touch.trans hB26 (Touch.of_upd huw45)
 refine WL.nil <| ?_
 refine W.sr <| WL.m rfl rfl <| WL.m rfl rfl <| WL.ce hb114 rfl rfl ((scan_angle r p l c (s + 1) x _ ⟨hkw45, hv47⟩ hne hc hl oO (by rintro rfl; first | exact absurd (show (0 : Int) = 60 by assumption) dD | exact absurd (show (0 : Int) = 62 by assumption) dD))) (fun k51 w49 hrw49 hw49 => ?_) (fun a50 w49 hrw49 hw49 => ?_)
 have hBew49 := Touch.trans hB48 (Touch.mono hw49 hB48.size)
 exact pn_is (Ends.err k51 (by rw [hT, show x = 60 from u8_eq aS, tokC60, ← show x = 60 from u8_eq aS]; exact hrw49) hBew49)
 obtain ⟨kr, hkr, hkl, hw49⟩ := hw49
 have hk52 := hw49.1.1
 have hk53 := Blk.touch hk46 hw49.2 hk46.lt oO
 have hv54 := hw49.1.2
 have hB55 := Touch.trans hB48 (Touch.mono hw49.2 hB48.size)
 have hra := hrw49
 obtain ⟨a0, ha0⟩ : ∃ a0, a0 = a50 := ⟨_, rfl⟩
 refine WL.stL rfl rfl hk53 isz120 rfl rfl (fun w56 hkw56 huw56 hsw56 => ?_)
 have hk57 := hk52.up huw56
 have hv58 := bup hv54 huw56 hvl5
 have hB59 := Touch.trans hB55 (Touch.of_new huw56 oO)
 refine WL.nil <| ?_
 refine W.ret (W.retc1 rfl rfl (ldRow hkw56 underlying120 rfl isz120)  ?_)
 exact Ends.ok _ (by rw [hT, show x = 60 from u8_eq aS, tokC60, ← show x = 60 from u8_eq aS]; exact hra) rfl ⟨_, hkr, hkl, ⟨hk57, hv58⟩, hB59⟩
 have h44' := dF h44
 refine W.reg <| WL.p (.eql rfl rfl) rfl <| WL.z rfl rfl ?_
 refine W.cond rfl (fun h60 => ?_) (fun h60 => ?_)
 have h60' := dT h60
 refine W.sr <| WL.m rfl rfl <| WL.p (.nck rfl) rfl <| WL.p (.fa underlying128 rfl sizeOf3 dD rfl) rfl <| WL.r (Rd.ld (isAgg3 _) rfl hk23 rfl) rfl <| WL.p (.iis (((s + 1 : Nat) : Int)) (.add rfl rfl (i64w oO)) oO) rfl <| WL.p (.nck rfl) rfl <| WL.p (.fa underlying128 rfl sizeOf3 dD rfl) rfl <| WL.st sizeOf3 rfl rfl rfl hk23 oD (fun w61 hkw61 huw61 hsw61 => ?_)
 have hkw61 : Blk w61 r _ _ := hkw61
 have huw61 : Upd r _ _ := huw61
 have hk62 := hk24.up huw61
 have hv63 := BytesAt.upd hv25 huw61 hne
 have hB64 := Touch.trans hB26 (Touch.of_upd huw61)
 refine WL.nil <| ?_
 refine W.sr <| WL.m rfl rfl <| WL.m rfl rfl <| WL.ce hb114 rfl rfl ((scan_angle r p l c (s + 1) x _ ⟨hkw61, hv63⟩ hne hc hl oO (by rintro rfl; first | exact absurd (show (0 : Int) = 60 by assumption) dD | exact absurd (show (0 : Int) = 62 by assumption) dD))) (fun k67 w65 hrw65 hw65 => ?_) (fun a66 w65 hrw65 hw65 => ?_)
 have hBew65 := Touch.trans hB64 (Touch.mono hw65 hB64.size)
 exact pn_is (Ends.err k67 (by rw [hT, show x = 62 from u8_eq aS, tokC62, ← show x = 62 from u8_eq aS]; exact hrw65) hBew65)
 obtain ⟨kr, hkr, hkl, hw65⟩ := hw65
 have hk68 := hw65.1.1
 have hk69 := Blk.touch hk62 hw65.2 hk62.lt oO
 have hv70 := hw65.1.2
 have hB71 := Touch.trans hB64 (Touch.mono hw65.2 hB64.size)
 have hra := hrw65
 obtain ⟨a0, ha0⟩ : ∃ a0, a0 = a66 := ⟨_, rfl⟩
 refine WL.stL rfl rfl hk69 isz120 rfl rfl (fun w72 hkw72 huw72 hsw72 => ?_)
 have hk73 := hk68.up huw72
 have hv74 := bup hv70 huw72 hvl5
 have hB75 := Touch.trans hB71 (Touch.of_new huw72 oO)
 refine WL.nil <| ?_
 refine W.ret (W.retc1 rfl rfl (ldRow hkw72 underlying120 rfl isz120)  ?_)
 exact Ends.ok _ (by rw [hT, show x = 62 from u8_eq aS, tokC62, ← show x = 62 from u8_eq aS]; exact hra) rfl ⟨_, hkr, hkl, ⟨hk73, hv74⟩, hB75⟩
 have h60' := dF h60
 refine W.seq <| W.sr <| WL.p (.eql rfl rfl) rfl <| WL.z rfl rfl ?_
 refine W.cond rfl (fun h76 => ?_) (fun h76 => ?_)
 have h76' := dT h76
 refine W.skip <| W.condT rfl h76 ?_
 refine W.sr <| WL.m rfl rfl <| WL.p (.nck rfl) rfl <| WL.p (.fa underlying128 rfl sizeOf3 dD rfl) rfl <| WL.r (Rd.ld (isAgg3 _) rfl hk23 rfl) rfl <| WL.p (.iis (((s + 1 : Nat) : Int)) (.add rfl rfl (i64w oO)) oO) rfl <| WL.p (.nck rfl) rfl <| WL.p (.fa underlying128 rfl sizeOf3 dD rfl) rfl <| WL.st sizeOf3 rfl rfl rfl hk23 oD (fun w77 hkw77 huw77 hsw77 => ?_)
 have hkw77 : Blk w77 r _ _ := hkw77
 have huw77 : Upd r _ _ := huw77
 have hk78 := hk24.up huw77
 have hv79 := BytesAt.upd hv25 huw77 hne
 have hB80 := Touch.trans hB26 (Touch.of_upd huw77)
 refine WL.nil <| ?_
 refine W.seq <| W.sr <| WL.m rfl rfl <| WL.p (.eql rfl rfl) rfl <| WL.nil <| ?_
 refine W.cond rfl (fun h81 => ?_) (fun h81 => ?_)
 have h81' := dT h81
 refine W.sr <| WL.p (.buildL (ps := _) blt120 rfl rfl rfl pS) rfl ?_
 refine WL.stL rfl rfl hk78 isz120 rfl rfl (fun w82 hkw82 huw82 hsw82 => ?_)
 have hk83 := hkw77.up huw82
 have hv84 := bup hv79 huw82 hvl5
 have hB85 := Touch.trans hB80 (Touch.of_new huw82 oO)
 refine WL.nil <| ?_
 refine W.ret (W.retc1 rfl rfl (ldRow hkw82 underlying120 rfl isz120)  ?_)
 exact Ends.ok (⟨7, 0, []⟩, l.drop (s + 1)) (by rw [hT, show x = 123 from u8_eq aS, tokC123]) rfl ⟨_, rfl, by omega, ⟨hk83, hv84⟩, hB85⟩
 have h81' := dF h81
 refine W.skip <| W.sr <| WL.p (.buildL (ps := _) blt120 rfl rfl rfl pS) rfl ?_
 refine WL.stL rfl rfl hk78 isz120 rfl rfl (fun w86 hkw86 huw86 hsw86 => ?_)
 refine WL.nil <| ?_
 refine W.ret (W.retc1 rfl rfl (ldRow hkw86 underlying120 rfl isz120)  ?_)
 (exfalso; omega)
 have h76' := dF h76
 refine W.reg <| WL.p (.eql rfl rfl) rfl <| WL.z rfl rfl ?_
 refine W.cond rfl (fun h90 => ?_) (fun h90 => ?_)
 have h90' := dT h90
 refine W.sr <| WL.m rfl rfl <| WL.p (.nck rfl) rfl <| WL.p (.fa underlying128 rfl sizeOf3 dD rfl) rfl <| WL.r (Rd.ld (isAgg3 _) rfl hk23 rfl) rfl <| WL.p (.iis (((s + 1 : Nat) : Int)) (.add rfl rfl (i64w oO)) oO) rfl <| WL.p (.nck rfl) rfl <| WL.p (.fa underlying128 rfl sizeOf3 dD rfl) rfl <| WL.st sizeOf3 rfl rfl rfl hk23 oD (fun w91 hkw91 huw91 hsw91 => ?_)
 have hkw91 : Blk w91 r _ _ := hkw91
 have huw91 : Upd r _ _ := huw91
 have hk92 := hk24.up huw91
 have hv93 := BytesAt.upd hv25 huw91 hne
 have hB94 := Touch.trans hB26 (Touch.of_upd huw91)
 refine WL.nil <| ?_
 refine W.seq <| W.sr <| WL.m rfl rfl <| WL.p (.eql rfl rfl) rfl <| WL.nil <| ?_
 refine W.cond rfl (fun h95 => ?_) (fun h95 => ?_)
 have h95' := dT h95
 refine W.sr <| WL.p (.buildL (ps := _) blt120 rfl rfl rfl pS) rfl ?_
 refine WL.stL rfl rfl hk92 isz120 rfl rfl (fun w96 hkw96 huw96 hsw96 => ?_)
 refine WL.nil <| ?_
 refine W.ret (W.retc1 rfl rfl (ldRow hkw96 underlying120 rfl isz120)  ?_)
 (exfalso; omega)
 have h95' := dF h95
 refine W.skip <| W.sr <| WL.p (.buildL (ps := _) blt120 rfl rfl rfl pS) rfl ?_
 refine WL.stL rfl rfl hk92 isz120 rfl rfl (fun w100 hkw100 huw100 hsw100 => ?_)
 have hk101 := hkw91.up huw100
 have hv102 := bup hv93 huw100 hvl5
 have hB103 := Touch.trans hB94 (Touch.of_new huw100 oO)
 refine WL.nil <| ?_
 refine W.ret (W.retc1 rfl rfl (ldRow hkw100 underlying120 rfl isz120)  ?_)
 exact Ends.ok (⟨8, 0, []⟩, l.drop (s + 1)) (by rw [hT, show x = 125 from u8_eq aS, tokC125]) rfl ⟨_, rfl, by omega, ⟨hk101, hv102⟩, hB103⟩
 have h90' := dF h90
 refine W.seq <| W.sr <| WL.p (.eql rfl rfl) rfl <| WL.z rfl rfl ?_
 refine W.cond rfl (fun h104 => ?_) (fun h104 => ?_)
 have h104' := dT h104
 refine W.skip <| W.condT rfl h104 ?_
 refine W.sr <| WL.m rfl rfl <| WL.p (.nck rfl) rfl <| WL.p (.fa underlying128 rfl sizeOf3 dD rfl) rfl <| WL.r (Rd.ld (isAgg3 _) rfl hk23 rfl) rfl <| WL.p (.iis (((s + 1 : Nat) : Int)) (.add rfl rfl (i64w oO)) oO) rfl <| WL.p (.nck rfl) rfl <| WL.p (.fa underlying128 rfl sizeOf3 dD rfl) rfl <| WL.st sizeOf3 rfl rfl rfl hk23 oD (fun w105 hkw105 huw105 hsw105 => ?_)
 have hkw105 : Blk w105 r _ _ := hkw105
 have huw105 : Upd r _ _ := huw105
 have hk106 := hk24.up huw105
 have hv107 := BytesAt.upd hv25 huw105 hne
 have hB108 := Touch.trans hB26 (Touch.of_upd huw105)
 refine WL.nil <| ?_
 refine W.sr <| WL.m rfl rfl <| WL.bsl (ps := _) underlying26 sizeOf5 zeroValue5 rfl rfl rfl rfl rfl pR rfl (fun b109 wb109 eb109 hkb109 hub109 hsb109 => ?_)
 have hl111 : r < b109 := by rw [eb109]; exact hkw105.lt
 have hk110 := hkw105.upd hub109 (Nat.ne_of_lt hl111)
 have hl113 : b1 < b109 := by rw [eb109]; exact hk106.lt
 have hk112 := hk106.upd hub109 (Nat.ne_of_lt hl113)
 have hvl115 := fun h0 => eb109 ▸ hv107.lt h0
 have hv114 := bup hv107 hub109 hvl115
 have hgeb109 : w.heap.size ≤ b109 := by rw [eb109]; exact hB108.size
 have hB116 := Touch.trans hB108 (Touch.of_new hub109 hgeb109)
 refine WL.r (Rd.b2s (l := [x]) underlying26 underlying5 underlying9 rfl (BytesAt.one hkb109 rfl)) rfl <| ?_
 refine WL.p (.buildL (ps := _) blt120 rfl rfl rfl pS) rfl ?_
 refine WL.stL rfl rfl hk112 isz120 rfl rfl (fun w117 hkw117 huw117 hsw117 => ?_)
 have hk118 := hk110.up huw117
 have hv120 := bup hv114 huw117 hvl5
 have hB121 := Touch.trans hB116 (Touch.of_new huw117 oO)
 refine WL.nil <| ?_
 refine W.ret (W.retc1 rfl rfl (ldRow hkw117 underlying120 rfl isz120)  ?_)
 exact Ends.ok (⟨3, 0, [x]⟩, l.drop (s + 1)) (by rw [hT, show x = 91 from u8_eq aS, tokC91]) rfl ⟨_, rfl, by omega, ⟨hk118, hv120⟩, hB121⟩
 have h104' := dF h104
 refine W.reg <| WL.p (.eql rfl rfl) rfl <| WL.z rfl rfl ?_
 refine W.cond rfl (fun h122 => ?_) (fun h122 => ?_)
 have h122' := dT h122
 refine W.sr <| WL.m rfl rfl <| WL.p (.nck rfl) rfl <| WL.p (.fa underlying128 rfl sizeOf3 dD rfl) rfl <| WL.r (Rd.ld (isAgg3 _) rfl hk23 rfl) rfl <| WL.p (.iis (((s + 1 : Nat) : Int)) (.add rfl rfl (i64w oO)) oO) rfl <| WL.p (.nck rfl) rfl <| WL.p (.fa underlying128 rfl sizeOf3 dD rfl) rfl <| WL.st sizeOf3 rfl rfl rfl hk23 oD (fun w123 hkw123 huw123 hsw123 => ?_)
 have hkw123 : Blk w123 r _ _ := hkw123
 have huw123 : Upd r _ _ := huw123
 have hk124 := hk24.up huw123
 have hv125 := BytesAt.upd hv25 huw123 hne
 have hB126 := Touch.trans hB26 (Touch.of_upd huw123)
 refine WL.nil <| ?_
 refine W.sr <| WL.m rfl rfl <| WL.bsl (ps := _) underlying26 sizeOf5 zeroValue5 rfl rfl rfl rfl rfl pR rfl (fun b127 wb127 eb127 hkb127 hub127 hsb127 => ?_)
 have hl129 : r < b127 := by rw [eb127]; exact hkw123.lt
 have hk128 := hkw123.upd hub127 (Nat.ne_of_lt hl129)
 have hl131 : b1 < b127 := by rw [eb127]; exact hk124.lt
 have hk130 := hk124.upd hub127 (Nat.ne_of_lt hl131)
 have hvl133 := fun h0 => eb127 ▸ hv125.lt h0
 have hv132 := bup hv125 hub127 hvl133
 have hgeb127 : w.heap.size ≤ b127 := by rw [eb127]; exact hB126.size
 have hB134 := Touch.trans hB126 (Touch.of_new hub127 hgeb127)
 refine WL.r (Rd.b2s (l := [x]) underlying26 underlying5 underlying9 rfl (BytesAt.one hkb127 rfl)) rfl <| ?_
 refine WL.p (.buildL (ps := _) blt120 rfl rfl rfl pS) rfl ?_
 refine WL.stL rfl rfl hk130 isz120 rfl rfl (fun w135 hkw135 huw135 hsw135 => ?_)
 have hk136 := hk128.up huw135
 have hv138 := bup hv132 huw135 hvl5
 have hB139 := Touch.trans hB134 (Touch.of_new huw135 oO)
 refine WL.nil <| ?_
 refine W.ret (W.retc1 rfl rfl (ldRow hkw135 underlying120 rfl isz120)  ?_)
 exact Ends.ok (⟨3, 0, [x]⟩, l.drop (s + 1)) (by rw [hT, show x = 93 from u8_eq aS, tokC93]) rfl ⟨_, rfl, by omega, ⟨hk136, hv138⟩, hB139⟩
 have h122' := dF h122
 refine W.sr <| WL.p (.eql rfl rfl) rfl <| WL.z rfl rfl ?_
 refine W.cond rfl (fun h140 => ?_) (fun h140 => ?_)
 have h140' := dT h140
 refine W.sr <| WL.m rfl rfl <| WL.p (.nck rfl) rfl <| WL.p (.fa underlying128 rfl sizeOf3 dD rfl) rfl <| WL.r (Rd.ld (isAgg3 _) rfl hk23 rfl) rfl <| WL.p (.iis (((s + 1 : Nat) : Int)) (.add rfl rfl (i64w oO)) oO) rfl <| WL.p (.nck rfl) rfl <| WL.p (.fa underlying128 rfl sizeOf3 dD rfl) rfl <| WL.st sizeOf3 rfl rfl rfl hk23 oD (fun w141 hkw141 huw141 hsw141 => ?_)
 have hkw141 : Blk w141 r _ _ := hkw141
 have huw141 : Upd r _ _ := huw141
 have hk142 := hk24.up huw141
 have hv143 := BytesAt.upd hv25 huw141 hne
 have hB144 := Touch.trans hB26 (Touch.of_upd huw141)
 refine WL.nil <| ?_
 refine W.sr <| WL.m rfl rfl <| WL.ce hb115 rfl rfl ((scan_slash r p l c (s + 1) _ ⟨hkw141, hv143⟩ hne hc hl oO)) (fun k147 w145 hrw145 hw145 => ?_) (fun a146 w145 hrw145 hw145 => ?_)
 have hBew145 := Touch.trans hB144 (Touch.mono hw145 hB144.size)
 exact pn_is (Ends.err k147 (by rw [hT, show x = 47 from u8_eq aS, tokC47]; exact hrw145) hBew145)
 obtain ⟨kr, hkr, hkl, hw145⟩ := hw145
 have hk148 := hw145.1.1
 have hk149 := Blk.touch hk142 hw145.2 hk142.lt oO
 have hv150 := hw145.1.2
 have hB151 := Touch.trans hB144 (Touch.mono hw145.2 hB144.size)
 have hra := hrw145
 obtain ⟨a0, ha0⟩ : ∃ a0, a0 = a146 := ⟨_, rfl⟩
 refine WL.stL rfl rfl hk149 isz120 rfl rfl (fun w152 hkw152 huw152 hsw152 => ?_)
 have hk153 := hk148.up huw152
 have hv154 := bup hv150 huw152 hvl5
 have hB155 := Touch.trans hB151 (Touch.of_new huw152 oO)
 refine WL.nil <| ?_
 refine W.ret (W.retc1 rfl rfl (ldRow hkw152 underlying120 rfl isz120)  ?_)
 exact Ends.ok _ (by rw [hT, show x = 47 from u8_eq aS, tokC47]; exact hra) rfl ⟨_, hkr, hkl, ⟨hk153, hv154⟩, hB155⟩
 have h140' := dF h140
 refine W.skip <| W.sr <| WL.m rfl rfl <| WL.c1 hb116 rfl rfl ((scan_word r p l c s _ ⟨hk23, hv25⟩ hne hc hl oO)) (fun w156 hw156 => ?_)
 have hk157 := hw156.1.1
 have hk158 := Blk.touch hk24 hw156.2 hk24.lt oO
 have hv159 := hw156.1.2
 have hB160 := Touch.trans hB26 (Touch.mono hw156.2 hB26.size)
 refine WL.z rfl rfl ?_
 refine W.seq ?_
 obtain ⟨T, hTk⟩ : ∃ T, T = tokenL ((l.drop s).takeWhile regB) := ⟨_, rfl⟩
 have hX : tokS (l.drop n) = if T.e ≠ 0 then .error T.e else if T.ok then .ok (⟨T.kind, T.n, []⟩, l.drop (wordAt l s)) else nameS 3 (l.drop s) := by rw [hT, tokC_word _ oO oO oO oO oO oO oO oO oO, hx, ← List.drop_eq_getElem_cons hlt, ← word_drop, hTk]; rfl
 have hTc : ∀ w, Calls Tryz.prog 107 #[.string (bs ((l.drop s).takeWhile regB))] w fun e w' => e = .returned T.val ∧ Below w.heap.size w w' := fun w => by rw [hTk]; exact dec_Token _ w
 refine W.reg <| WL.m rfl rfl <| WL.c1 hb107 rfl rfl ((hTc _)) (fun w161 hw161 => ?_)
 have hk162 := hk157.below hw161 hk157.lt
 have hk163 := hk158.below hw161 hk158.lt
 have hv164 := BytesAt.below hv159 hw161 (fun h0 => hv159.lt h0)
 have hB165 := Touch.trans hB160 (Touch.mono (Touch.of_below hw161) hB160.size)
 refine WL.m rfl rfl <| WL.p (.ext rfl rfl) rfl <| WL.p (.ext rfl rfl) rfl <| WL.p (.ext rfl rfl) rfl <| WL.alloc zeroValue120 rfl (fun b166 wb166 eb166 hkb166 hub166 hsb166 => ?_)
 have hl168 : r < b166 := by rw [eb166]; exact hk162.lt
 have hk167 := hk162.upd hub166 (Nat.ne_of_lt hl168)
 have hl170 : b1 < b166 := by rw [eb166]; exact hk163.lt
 have hk169 := hk163.upd hub166 (Nat.ne_of_lt hl170)
 have hvl172 := fun h0 => eb166 ▸ hv164.lt h0
 have hv171 := bup hv164 hub166 hvl172
 have hgeb166 : w.heap.size ≤ b166 := by rw [eb166]; exact hB165.size
 have hB173 := Touch.trans hB165 (Touch.of_new hub166 hgeb166)
 refine WL.stL rfl rfl hkb166 isz120 rfl rfl (fun w174 hkw174 huw174 hsw174 => ?_)
 have hk175 := hk167.up huw174
 have hk176 := hk169.up huw174
 have hv177 := bup hv171 huw174 hvl172
 have hB178 := Touch.trans hB173 (Touch.of_new huw174 oO)
 refine WL.a rfl rfl <| WL.z rfl rfl ?_
 refine W.seq <| W.block <| W.sr <| WL.m rfl rfl <| WL.p (.neq rfl rfl) rfl <| WL.z rfl rfl ?_
 refine W.cond rfl (fun h179 => ?_) (fun h179 => ?_)
 have h179' := ndT h179
 refine W.reg <| WL.m rfl rfl <| WL.p (.mkI underlying29 rfl) rfl <| WL.panic rfl (pn_is ?_)
 exact Ends.err T.e (by rw [hX, if_pos aS]) hB178
 have h179' := ndF h179
 refine W.sr <| WL.m rfl rfl <| WL.z rfl rfl ?_
 refine W.cond rfl (fun h180 => ?_) (fun h180 => ?_)
 refine W.sr <| WL.r (Rd.ldA rfl hkw174 underlying120 rfl isz120) rfl <| WL.stL rfl rfl hk176 isz120 rfl rfl (fun w181 hkw181 huw181 hsw181 => ?_)
 have hk182 := hk175.up huw181
 have hv184 := bup hv177 huw181 hvl5
 have hB185 := Touch.trans hB178 (Touch.of_new huw181 oO)
 refine WL.nil <| ?_
 refine W.ret (W.retc1 rfl rfl (ldRow hkw181 underlying120 rfl isz120)  ?_)
 exact Ends.ok (⟨T.kind, T.n, []⟩, l.drop (wordAt l s)) (by rw [hX, if_neg (fun h => h aS), if_pos aS]) rfl ⟨_, rfl, hwl.2, ⟨hk182, hv184⟩, hB185⟩
 refine W.skip <| W.sr <| WL.m rfl rfl <| WL.ce hb117 rfl rfl ((scan_name 3 _ _ (by have := word_len l s; omega))) (fun k188 w186 hrw186 hw186 => ?_) (fun a187 w186 hrw186 hw186 => ?_)
 have hBew186 := Touch.trans hB178 (Touch.mono (Touch.of_below hw186) hB178.size)
 exact pn_is (Ends.err k188 (by rw [hX, if_neg (fun h => h aS), if_neg (bF aS)]; exact nameS_err hrw186) hBew186)
 have hk189 := hk175.below hw186 hk175.lt
 have hk190 := hk176.below hw186 hk176.lt
 have hv192 := BytesAt.below hv177 hw186 (fun h0 => hv177.lt h0)
 have hB193 := Touch.trans hB178 (Touch.mono (Touch.of_below hw186) hB178.size)
 obtain ⟨a0, ha0⟩ : ∃ a0, a0 = a187 := ⟨_, rfl⟩
 have hra := hrw186
 refine WL.stL rfl rfl hk190 isz120 rfl rfl (fun w194 hkw194 huw194 hsw194 => ?_)
 have hk195 := hk189.up huw194
 have hv197 := bup hv192 huw194 hvl5
 have hB198 := Touch.trans hB193 (Touch.of_new huw194 oO)
 refine WL.nil <| ?_
 refine W.ret (W.retc1 rfl rfl (ldRow hkw194 underlying120 rfl isz120)  ?_)
 exact Ends.ok (_, l.drop (wordAt l s)) (by rw [hX, if_neg (fun h => h aS), if_neg (bF aS), nameS_ok hra, word_drop]) rfl ⟨_, rfl, hwl.2, ⟨hk195, hv197⟩, hB198⟩
end
section
set_option maxRecDepth 4000
theorem scan_quiet (b1 b2 b5 : Nat) (w : World) :
  CallsD Tryz.prog 103 #[.pointer (some ⟨b1, 0, none⟩), .pointer (some ⟨b2, 0, none⟩), .pointer (some ⟨b5, 0, none⟩)] .returning w fun e u' w' => u' = .returning ∧ (∃ v, e = .returned v) ∧ w' = w := by
 refine CallsD.rec func103 rfl ntmps103 (Nat.le_of_ble_eq_true rfl) rfl ?_
 refine WL.z rfl rfl ?_
 refine W.sr <| WL.m rfl rfl <| WL.p (.neNil0 kR rfl) rfl <| WL.nil <| ?_
 refine W.condF rfl rfl ?_
 refine W.skip ?_
 refine W.norm (W.ret0 rfl ?_)
 exact ⟨⟨_, rfl⟩, rfl⟩
theorem scan_caught (b1 b2 b5 B : Nat) (x y : Int) (z : ByteArray) (i j k : Int) (w : World) (h1 : Blk w b1 #[.int .i64 x, .int .i64 y, .string z] 120) (h2 : Blk w b2 #[.int .i64 i] 3) (h5 : Blk w b5 #[.int .i64 j] 29) (hB1 : B ≤ b1) (h12 : b1 < b2) (h25 : b2 < b5) :
  CallsD Tryz.prog 103 #[.pointer (some ⟨b1, 0, none⟩), .pointer (some ⟨b2, 0, none⟩), .pointer (some ⟨b5, 0, none⟩)] (.panicking [{ v := .iface 29 (.int .i64 k), recovered := false }]) w
   fun e u' w' => u' = .panicking [{ v := .iface 29 (.int .i64 k), recovered := true }] ∧ (∃ v, e = .returned v) ∧
    Blk w' b1 #[.int .i64 0, .int .i64 0, .string ⟨#[]⟩] 120 ∧ Blk w' b2 #[.int .i64 0] 3 ∧ Blk w' b5 #[.int .i64 k] 29 ∧ Below B w w' := by
 refine CallsD.rec func103 rfl ntmps103 (Nat.le_of_ble_eq_true rfl) rfl ?_
 have hB0 := Below.refl (B) w
 refine WL.z rfl rfl ?_
 refine W.sr <| WL.m rfl rfl <| WL.p (.neNil kR rfl) rfl <| WL.nil <| ?_
 refine W.condT rfl rfl ?_
 refine W.sr <| WL.m rfl rfl <| WL.p (.tas underlying29 rfl) rfl <| WL.m rfl rfl <| WL.p (.ext rfl rfl) rfl <| WL.p (.ext rfl rfl) rfl <| WL.a rfl rfl <| WL.z rfl rfl ?_
 refine W.seq <| W.sr <| WL.m rfl rfl <| WL.p (.not rfl) rfl <| WL.nil <| ?_
 refine W.condF rfl rfl ?_
 refine W.skip <| W.reg <| WL.p (.buildL (ps := _) blt120 rfl rfl rfl pZ) rfl ?_
 refine WL.m rfl rfl <| WL.stL rfl rfl h1 isz120 rfl rfl (fun w1 hkw1 huw1 hsw1 => ?_)
 have hk2 := h2.upd huw1 oM
 have hk3 := h5.upd huw1 oM
 have hB4 := Upd.below hB0 oO huw1
 refine WL.st sizeOf3 rfl rfl rfl hk2 oD (fun w5 hkw5 huw5 hsw5 => ?_)
 have hkw5 : Blk w5 b2 _ _ := hkw5
 have huw5 : Upd b2 _ _ := huw5
 have hk6 := hkw1.up huw5
 have hk7 := hk3.up huw5
 have hB8 := Upd.below hB4 oO huw5
 refine WL.st sizeOf29 rfl rfl rfl hk7 oD (fun w9 hkw9 huw9 hsw9 => ?_)
 have hkw9 : Blk w9 b5 _ _ := hkw9
 have huw9 : Upd b5 _ _ := huw9
 have hk10 := hk6.up huw9
 have hk11 := hkw5.up huw9
 have hB12 := Upd.below hB8 oO huw9
 refine WL.nil <| ?_
 refine W.norm (W.ret0 rfl ?_)
 exact ⟨⟨_, rfl⟩, hk10, hk11, hkw9, hB12⟩
theorem scan_Next (a : Int) (p : Option Addr) (l : List UInt8) (c : Nat) (w : World) (hb : BytesAt w p l) (hc : l.length ≤ c) (hl : l.length ≤ 100000000) :
    Calls Tryz.prog 94 #[.slice p l.length c, .int .i64 a] w fun e w' => e = .returned (nextR l a).val ∧ Below w.heap.size w w' := by
  refine W.enterD func94 rfl ntmps94 (Nat.le_of_ble_eq_true rfl) ?_
  have hB0 := Below.refl (w.heap.size) w
  refine WD.seq ?_
  refine W.reg <| WL.alloc zeroValue120 rfl (fun b1 wb1 eb1 hkb1 hub1 hsb1 => ?_)
  have hvl3 := fun h0 => eb1 ▸ hb.lt h0
  have hv2 := bup hb hub1 hvl3
  have hB4 := Upd.below hB0 (by rw [eb1]; exact hB0.size) hub1
  have hgeb1 : w.heap.size ≤ b1 := by rw [eb1]; exact hB0.size
  refine WL.alloc zeroValue3 rfl (fun b5 wb5 eb5 hkb5 hub5 hsb5 => ?_)
  have hl7 : b1 < b5 := by rw [eb5]; exact hkb1.lt
  have hk6 := hkb1.upd hub5 (Nat.ne_of_lt hl7)
  have hvl9 := fun h0 => eb5 ▸ hv2.lt h0
  have hv8 := bup hv2 hub5 hvl9
  have hB10 := Upd.below hB4 (by rw [eb5]; exact hB4.size) hub5
  have hgeb5 : w.heap.size ≤ b5 := by rw [eb5]; exact hB4.size
  refine WL.alloc zeroValue29 rfl (fun b11 wb11 eb11 hkb11 hub11 hsb11 => ?_)
  have hl13 : b1 < b11 := by rw [eb11]; exact hk6.lt
  have hk12 := hk6.upd hub11 (Nat.ne_of_lt hl13)
  have hl15 : b5 < b11 := by rw [eb11]; exact hkb5.lt
  have hk14 := hkb5.upd hub11 (Nat.ne_of_lt hl15)
  have hvl17 := fun h0 => eb11 ▸ hv8.lt h0
  have hv16 := bup hv8 hub11 hvl17
  have hB18 := Upd.below hB10 (by rw [eb11]; exact hB10.size) hub11
  have hgeb11 : w.heap.size ≤ b11 := by rw [eb11]; exact hB10.size
  refine WL.nil <| ?_
  refine WD.seq ?_
  refine W.cutB 15 (decide (a < 0 ∨ (l.length : Int) < a)) ?_ ?_
  refine W.reg <| WL.m rfl rfl <| WL.p (.lss rfl rfl) rfl <| WL.m rfl rfl <| WL.gd rfl rfl rfl (fun g19 => ?_) (fun g19 => ?_)
  · have g19' := dF g19
    refine WL.m rfl rfl <| WL.gy rfl rfl rfl g19 <| WL.m rfl rfl <| WL.gy rfl rfl rfl g19 <| WL.p (.lenS underlying26 rfl) rfl <| WL.gy rfl rfl rfl g19 <| WL.p (.gtr rfl rfl) rfl <| WL.p (.pkF rfl g19 rfl) rfl <| WL.nil <| ?_
    exact ⟨leE (lk_b rfl (by (apply Bool.eq_iff_iff.2; (try simp only [Bool.and_eq_true, Bool.or_eq_true, Bool.not_eq_true', decide_eq_true_eq, decide_eq_false_iff_not, Bool.false_eq_true, Bool.not_eq_false', false_iff, iff_false, true_iff, iff_true]); omega))), rfl⟩
  have g19' := dT g19
  refine WL.gn rfl rfl rfl g19 <| WL.gn rfl rfl rfl g19 <| WL.gn rfl rfl rfl g19 <| WL.p (.pkT rfl g19 rfl) rfl <| WL.nil <| ?_
  exact ⟨leE (lk_b rfl (by (apply Bool.eq_iff_iff.2; (try simp only [Bool.and_eq_true, Bool.or_eq_true, Bool.not_eq_true', decide_eq_true_eq, decide_eq_false_iff_not, Bool.false_eq_true, Bool.not_eq_false', false_iff, iff_false, true_iff, iff_true]); omega))), rfl⟩
  refine W.cond rfl (fun h20 => ?_) (fun h20 => ?_)
  · have h20' := dT h20
    refine W.sr <| WL.p (.buildL (ps := _) blt120 rfl rfl rfl pZ) rfl ?_
    refine WL.stL rfl rfl hk12 isz120 rfl rfl (fun w21 hkw21 huw21 hsw21 => ?_)
    have hk22 := hk14.up huw21
    have hk23 := hkb11.up huw21
    have hB25 := Upd.below hB18 oO huw21
    refine WL.st sizeOf3 rfl rfl rfl hk22 oD (fun w26 hkw26 huw26 hsw26 => ?_)
    have hkw26 : Blk w26 b5 _ _ := hkw26
    have huw26 : Upd b5 _ _ := huw26
    have hk27 := hkw21.up huw26
    have hk28 := hk23.up huw26
    have hB30 := Upd.below hB25 oO huw26
    refine WL.st sizeOf29 rfl rfl rfl hk28 oD (fun w31 hkw31 huw31 hsw31 => ?_)
    have hkw31 : Blk w31 b11 _ _ := hkw31
    have huw31 : Upd b11 _ _ := huw31
    have hk32 := hk27.up huw31
    have hk33 := hkw26.up huw31
    have hB35 := Upd.below hB30 oO huw31
    refine WL.nil <| ?_
    refine W.ret ?_
    exact PostD.ret0 (ResOk.cells3 rfl rfl rfl rfl (ldRow hk32 underlying120 rfl isz120) (ldCell hk33 (isAgg3 _) rfl) (ldCell hkw31 (isAgg29 _) rfl)) ⟨ret_val (by unfold nextR; rw [if_pos oO]; (first | done | rfl)), hB35⟩
  have h20' := dF h20
  obtain ⟨n, rfl⟩ := Int.eq_ofNat_of_zero_le (a := a) oO
  have hN : nextR l (n : Int) = nrOf l (tokS (l.drop n)) := by unfold nextR; rw [if_neg oO]; rfl
  refine W.skip ?_
  refine WD.defer rfl rfl ?_
  refine WD.of ?_
  refine W.sr <| WL.m rfl rfl <| WL.m rfl rfl <| ?_
  refine WL.p (.buildL (ps := _) blt128 rfl rfl rfl pS) rfl ?_
  refine WL.box rfl rfl (fun b36 wb36 eb36 hkb36 hub36 hsb36 => ?_)
  have hl38 : b1 < b36 := by rw [eb36]; exact hk12.lt
  have hk37 := hk12.upd hub36 (Nat.ne_of_lt hl38)
  have hl40 : b5 < b36 := by rw [eb36]; exact hk14.lt
  have hk39 := hk14.upd hub36 (Nat.ne_of_lt hl40)
  have hl42 : b11 < b36 := by rw [eb36]; exact hkb11.lt
  have hk41 := hkb11.upd hub36 (Nat.ne_of_lt hl42)
  have hvl44 := fun h0 => eb36 ▸ hv16.lt h0
  have hv43 := bup hv16 hub36 hvl44
  have hB45 := Upd.below hB18 (by rw [eb36]; exact hB18.size) hub36
  have hgeb36 : w.heap.size ≤ b36 := by rw [eb36]; exact hB18.size
  refine WL.z rfl rfl ?_
  refine W.sr <| WL.m rfl rfl <| WL.ce hb104 rfl rfl ((scan_token b36 p l c n _ ⟨hkb36, hv43⟩ (fun h0 => by have := hb.lt h0; omega) hc hl oO)) (fun k48 w46 hrw46 hw46 => ?_) (fun a47 w46 hrw46 hw46 => ?_)
  have hBew46 := Below.trans hB45 (Touch.below hw46 hB45.size oO)
  exact PostD.caught hb103 (fun w' => _) (scan_caught b1 b5 b11 w.heap.size _ _ _ _ _ k48 _ (Blk.touch hk37 hw46 hk37.lt oO) (Blk.touch hk39 hw46 hk39.lt oO) (Blk.touch hk41 hw46 hk41.lt oO) oO oO oO)
    (fun w' hS => ⟨_, ResOk.cells3 rfl rfl rfl rfl (ldRow hS.1 underlying120 rfl isz120) (ldCell hS.2.1 (isAgg3 _) rfl) (ldCell hS.2.2.1 (isAgg29 _) rfl), ret_val (by rw [hN, hrw46]; (first | done | rfl)), hBew46.trans hS.2.2.2⟩)
  obtain ⟨kr, hkr, hkl, hw46⟩ := hw46
  have hk49 := Blk.touch hk37 hw46.2 hk37.lt oO
  have hk50 := Blk.touch hk39 hw46.2 hk39.lt oO
  have hk51 := Blk.touch hk41 hw46.2 hk41.lt oO
  have hk52 := hw46.1.1
  have hB54 := Below.trans hB45 (Touch.below hw46.2 hB45.size oO)
  have hra := hrw46
  obtain ⟨t0, rest⟩ := a47
  obtain rfl : rest = l.drop kr := hkr
  refine WL.stL rfl rfl hk49 isz120 rfl rfl (fun w55 hkw55 huw55 hsw55 => ?_)
  have hk56 := hk50.up huw55
  have hk57 := hk51.up huw55
  have hk58 := hk52.up huw55
  have hB60 := Upd.below hB54 oO huw55
  refine WL.nil <| ?_
  refine W.seq ?_
  refine W.noPn ?_
  refine W.regY 8 rfl mixed (fun w61 dw61 => ?_)
  have hk62 := hkw55.drew dw61
  have hk63 := hk56.drew dw61
  have hk64 := hk57.drew dw61
  have hk65 := hk58.drew dw61
  have hB67 := Drew.below hB60 dw61
  refine WY.tk 1 rfl (.mv rfl) rfl ?_
  refine WY.tk 2 rfl (.nck rfl) rfl ?_
  refine WY.tk 3 rfl (.fa underlying128 rfl sizeOf3 dD rfl) rfl ?_
  refine WY.br2 0 rfl 4 rfl ?_ ?_
  refine WL.r (Rd.ldA rfl hk62 underlying120 rfl isz120) rfl <| WL.nil <| ?_
  refine WY.br2 4 rfl 5 rfl ?_ ?_
  refine WL.r (Rd.ld (isAgg3 _) rfl hk65 rfl) rfl <| WL.nil <| ?_
  refine WY.br1 5 rfl ?_
  refine WL.stL rfl rfl hk62 isz120 rfl rfl (fun w68 hkw68 huw68 hsw68 => ?_)
  have hk69 := hk63.up huw68
  have hk70 := hk64.up huw68
  have hB73 := Upd.below hB67 oO huw68
  refine WL.nil <| ?_
  refine WY.br1 6 rfl ?_
  refine WL.st sizeOf3 rfl rfl rfl hk69 oD (fun w74 hkw74 huw74 hsw74 => ?_)
  have hkw74 : Blk w74 b5 _ _ := hkw74
  have huw74 : Upd b5 _ _ := huw74
  have hk75 := hkw68.up huw74
  have hk76 := hk70.up huw74
  have hB79 := Upd.below hB73 oO huw74
  refine WL.nil <| ?_
  refine WY.br1 7 rfl ?_
  refine WL.st sizeOf29 rfl rfl rfl hk76 oD (fun w80 hkw80 huw80 hsw80 => ?_)
  have hkw80 : Blk w80 b11 _ _ := hkw80
  have huw80 : Upd b11 _ _ := huw80
  have hk81 := hk75.up huw80
  have hk82 := hkw74.up huw80
  have hB85 := Upd.below hB79 oO huw80
  refine WL.nil <| ?_
  refine WY.done kR ?_
  refine W.ret ?_
  exact PostD.ret hb103 (fun w' => _) (scan_quiet b1 b5 b11 _)
    (fun w' hS => by subst hS; exact ⟨_, ResOk.cells3 rfl rfl rfl rfl (ldRow hk81 underlying120 rfl isz120) (ldCell hk82 (isAgg3 _) rfl) (ldCell hkw80 (isAgg29 _) rfl), ret_val (by rw [hN, hra, nrOf_drop _ _ _ hkl]; (first | done | rfl)), hB85⟩)
  refine WL.stL rfl rfl hk62 isz120 rfl rfl (fun w86 hkw86 huw86 hsw86 => ?_)
  have hk87 := hk63.up huw86
  have hk88 := hk64.up huw86
  have hk89 := hk65.up huw86
  have hB91 := Upd.below hB67 oO huw86
  refine WL.nil <| ?_
  refine WY.br1 4 rfl ?_
  refine WL.r (Rd.ld (isAgg3 _) rfl hk89 rfl) rfl <| WL.nil <| ?_
  refine WY.br1 6 rfl ?_
  refine WL.st sizeOf3 rfl rfl rfl hk87 oD (fun w92 hkw92 huw92 hsw92 => ?_)
  have hkw92 : Blk w92 b5 _ _ := hkw92
  have huw92 : Upd b5 _ _ := huw92
  have hk93 := hkw86.up huw92
  have hk94 := hk88.up huw92
  have hB97 := Upd.below hB91 oO huw92
  refine WL.nil <| ?_
  refine WY.br1 7 rfl ?_
  refine WL.st sizeOf29 rfl rfl rfl hk94 oD (fun w98 hkw98 huw98 hsw98 => ?_)
  have hkw98 : Blk w98 b11 _ _ := hkw98
  have huw98 : Upd b11 _ _ := huw98
  have hk99 := hk93.up huw98
  have hk100 := hkw92.up huw98
  have hB103 := Upd.below hB97 oO huw98
  refine WL.nil <| ?_
  refine WY.done kR ?_
  refine W.ret ?_
  exact PostD.ret hb103 (fun w' => _) (scan_quiet b1 b5 b11 _)
    (fun w' hS => by subst hS; exact ⟨_, ResOk.cells3 rfl rfl rfl rfl (ldRow hk99 underlying120 rfl isz120) (ldCell hk100 (isAgg3 _) rfl) (ldCell hkw98 (isAgg29 _) rfl), ret_val (by rw [hN, hra, nrOf_drop _ _ _ hkl]; (first | done | rfl)), hB103⟩)
  refine WL.r (Rd.ld (isAgg3 _) rfl hk65 rfl) rfl <| WL.nil <| ?_
  refine WY.br1 0 rfl ?_
  refine WL.r (Rd.ldA rfl hk62 underlying120 rfl isz120) rfl <| WL.nil <| ?_
  refine WY.br1 5 rfl ?_
  refine WL.stL rfl rfl hk62 isz120 rfl rfl (fun w104 hkw104 huw104 hsw104 => ?_)
  have hk105 := hk63.up huw104
  have hk106 := hk64.up huw104
  have hB109 := Upd.below hB67 oO huw104
  refine WL.nil <| ?_
  refine WY.br1 6 rfl ?_
  refine WL.st sizeOf3 rfl rfl rfl hk105 oD (fun w110 hkw110 huw110 hsw110 => ?_)
  have hkw110 : Blk w110 b5 _ _ := hkw110
  have huw110 : Upd b5 _ _ := huw110
  have hk111 := hkw104.up huw110
  have hk112 := hk106.up huw110
  have hB115 := Upd.below hB109 oO huw110
  refine WL.nil <| ?_
  refine WY.br1 7 rfl ?_
  refine WL.st sizeOf29 rfl rfl rfl hk112 oD (fun w116 hkw116 huw116 hsw116 => ?_)
  have hkw116 : Blk w116 b11 _ _ := hkw116
  have huw116 : Upd b11 _ _ := huw116
  have hk117 := hk111.up huw116
  have hk118 := hkw110.up huw116
  have hB121 := Upd.below hB115 oO huw116
  refine WL.nil <| ?_
  refine WY.done kR ?_
  refine W.ret ?_
  exact PostD.ret hb103 (fun w' => _) (scan_quiet b1 b5 b11 _)
    (fun w' hS => by subst hS; exact ⟨_, ResOk.cells3 rfl rfl rfl rfl (ldRow hk117 underlying120 rfl isz120) (ldCell hk118 (isAgg3 _) rfl) (ldCell hkw116 (isAgg29 _) rfl), ret_val (by rw [hN, hra, nrOf_drop _ _ _ hkl]; (first | done | rfl)), hB121⟩)
end
end Go.Proofs.YthljhjcndpnleaaGreatDoor
