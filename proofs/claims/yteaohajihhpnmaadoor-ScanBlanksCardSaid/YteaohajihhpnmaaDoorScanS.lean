/-
  Plain: a token's kind, and that it takes at least a byte.
-/
import Derived.Test.YteaohajihhpnmaaDoorScanR4
namespace Go.Proofs.YteaohajihhpnmaaDoor

theorem roundS_len : ∀ (n : Nat) (d : Nat) (o l : List UInt8) (s r : List UInt8), l.length ≤ n → roundS d o l = some (s, r) → r.length ≤ l.length
  | n, d, o, [], s, r, _, h => by rw [roundS.eq_def] at h; cases h
  | 0, d, o, c :: t, s, r, hn, h => by simp at hn
  | n + 1, d, o, c :: t, s, r, hn, h => by
    simp only [List.length_cons] at hn ⊢
    rw [roundS.eq_def] at h
    simp only at h
    split at h
    · have := roundS_len n _ _ t s r (by omega) h; omega
    · split at h
      · split at h
        · simp only [Option.some.injEq, Prod.mk.injEq] at h; rw [h.2]; omega
        · have := roundS_len n _ _ t s r (by omega) h; omega
      · split at h
        · split at h
          · cases h
          · next e r' =>
            have h2 := escS_len e r'
            simp only [List.length_cons] at hn
            have := roundS_len n _ _ _ s r (by omega) h
            simp only [List.length_cons]; omega
        · split at h
          · have h2 := dropLF_len t
            have := roundS_len n _ _ _ s r (by omega) h; omega
          · have := roundS_len n _ _ t s r (by omega) h; omega
theorem hexS_len : ∀ (l : List UInt8) (h : Option Nat) (o : List UInt8) (s r : List UInt8), hexS h o l = some (s, r) → r.length ≤ l.length
  | [], h, o, s, r, e => by simp [hexS] at e
  | c :: t, h, o, s, r, e => by
    simp only [List.length_cons]
    unfold hexS at e
    split at e
    · have := hexS_len t _ _ s r e; omega
    · split at e
      · simp only [Option.some.injEq, Prod.mk.injEq] at e; rw [← e.2]; omega
      · split at e
        · cases e
        · split at e
          · have := hexS_len t _ _ s r e; omega
          · have := hexS_len t _ _ s r e; omega
theorem textS_ok2 {o : Option (List UInt8 × List UInt8)} {t : TokV} {r : List UInt8} (h : textS o = .ok (t, r)) : ∃ s, o = some (s, r) ∧ t = ⟨6, 0, s⟩ ∧ s.length ≤ 65535 := by
  unfold textS at h
  split at h
  · cases h
  · next s r' =>
    split at h
    · cases h
    · simp only [Except.ok.injEq, Prod.mk.injEq] at h
      obtain ⟨rfl, rfl⟩ := h
      exact ⟨s, rfl, rfl, by omega⟩
theorem nameS_ok2 {k : Int} {l : List UInt8} {t : TokV} {r : List UInt8} (h : nameS k l = .ok (t, r)) : r = l.dropWhile regB ∧ t = ⟨k, 0, l.takeWhile regB⟩ ∧ (l.takeWhile regB).length ≤ 127 := by
  unfold nameS at h
  split at h
  · cases h
  · simp only [Except.ok.injEq, Prod.mk.injEq] at h
    exact ⟨h.2.symm, h.1.symm, by omega⟩
theorem dropWhile_len (l : List UInt8) : (l.dropWhile regB).length ≤ l.length := (List.dropWhile_sublist regB).length_le
theorem radixRes_kind (o : Option (Nat × Bool)) : (radixRes o).ok = true → (radixRes o).e = 0 → (radixRes o).kind = 1 ∨ (radixRes o).kind = 2 := by
  unfold radixRes
  split
  · simp [tokNone]
  · split <;> simp [tokGreat, tokInt]
theorem radixL_kind (l : List UInt8) : (radixL l).ok = true → (radixL l).e = 0 → (radixL l).kind = 1 ∨ (radixL l).kind = 2 := by
  unfold radixL
  split
  · unfold radixV
    repeat' split
    all_goals first | exact radixRes_kind _ | simp [tokNone]
  · simp [tokNone]
theorem tokenL_kind (l : List UInt8) (h : (tokenL l).ok = true) (he : (tokenL l).e = 0) : (tokenL l).kind = 1 ∨ (tokenL l).kind = 2 := by
  have hf : ∀ a b c, (finL a b c).ok = true → (finL a b c).e = 0 → (finL a b c).kind = 1 ∨ (finL a b c).kind = 2 := by
    intro a b c; unfold finL; repeat' split
    all_goals simp [tokNone, tokGreat, tokInt, tokReal]
  revert h he
  unfold tokenL
  split
  · simp [tokNone]
  · split
    · exact radixL_kind l
    · split
      · simp [tokInt]
      · unfold realL2
        split
        · split
          · exact hf _ _ _
          · simp [tokNone]
        · exact hf _ _ _
theorem reg_of_tokC {c : UInt8} (h1 : blankB c = false) (h2 : c ≠ 37) (h40 : c ≠ 40) (h41 : c ≠ 41) (h60 : ¬ (c = 60 ∨ c = 62)) (h123 : c ≠ 123) (h125 : c ≠ 125) (h91 : ¬ (c = 91 ∨ c = 93)) (h47 : c ≠ 47) : regB c = true := by
  unfold regB delimB
  rw [h1]
  simp only [not_or] at h60 h91
  simp [h2, h40, h41, h60.1, h60.2, h123, h125, h91.1, h91.2, h47]
/-- a token takes no more than there is, and it has a kind -/
theorem tokC_len {c : UInt8} {r : List UInt8} (h1 : blankB c = false) (h2 : c ≠ 37) {t : TokV} {s : List UInt8} (h : tokC c r = .ok (t, s)) : s.length ≤ r.length ∧ t.kind ≠ 0 := by
  unfold tokC at h
  split at h
  · obtain ⟨s', ho, rfl, -⟩ := textS_ok2 h
    exact ⟨roundS_len _ _ _ _ _ _ (Nat.le_refl _) ho, by simp⟩
  · split at h
    · cases h
    · split at h
      · unfold angleS at h
        split at h
        · split at h
          · simp only [Except.ok.injEq, Prod.mk.injEq] at h
            obtain ⟨rfl, rfl⟩ := h
            exact ⟨by simp, by simp⟩
          · split at h
            · obtain ⟨s', ho, rfl, -⟩ := textS_ok2 h
              exact ⟨hexS_len _ _ _ _ _ ho, by simp⟩
            · cases h
        · split at h
          · obtain ⟨s', ho, rfl, -⟩ := textS_ok2 h
            exact ⟨hexS_len _ _ _ _ _ ho, by simp⟩
          · cases h
      · split at h
        · simp only [Except.ok.injEq, Prod.mk.injEq] at h
          obtain ⟨rfl, rfl⟩ := h
          exact ⟨Nat.le_refl _, by simp⟩
        · split at h
          · simp only [Except.ok.injEq, Prod.mk.injEq] at h
            obtain ⟨rfl, rfl⟩ := h
            exact ⟨Nat.le_refl _, by simp⟩
          · split at h
            · simp only [Except.ok.injEq, Prod.mk.injEq] at h
              obtain ⟨rfl, rfl⟩ := h
              exact ⟨Nat.le_refl _, by simp⟩
            · split at h
              · unfold slashS at h
                split at h
                · split at h
                  · next d r' _ =>
                    obtain ⟨rfl, rfl, -⟩ := nameS_ok2 h
                    have := dropWhile_len r'
                    exact ⟨by simp only [List.length_cons]; omega, by simp⟩
                  · obtain ⟨rfl, rfl, -⟩ := nameS_ok2 h
                    exact ⟨dropWhile_len _, by simp⟩
                · obtain ⟨rfl, rfl, -⟩ := nameS_ok2 h
                  exact ⟨dropWhile_len _, by simp⟩
              · have hreg := reg_of_tokC h1 h2 (by assumption) (by assumption) (by assumption) (by assumption) (by assumption) (by assumption) (by assumption)
                have hdw : (c :: r).dropWhile regB = r.dropWhile regB := by simp [List.dropWhile_cons, hreg]
                have hdl := dropWhile_len r
                unfold wordS at h
                simp only at h
                split at h
                · cases h
                · next he =>
                  split at h
                  · next hk =>
                    simp only [Except.ok.injEq, Prod.mk.injEq] at h
                    obtain ⟨rfl, rfl⟩ := h
                    rw [hdw]
                    refine ⟨hdl, ?_⟩
                    have := tokenL_kind _ hk (by simpa using he)
                    intro h0
                    simp only at h0
                    omega
                  · obtain ⟨rfl, rfl, -⟩ := nameS_ok2 h
                    rw [hdw]
                    exact ⟨hdl, by simp⟩
theorem skipS_head : ∀ (l : List UInt8) (m : Bool) {c : UInt8} {r : List UInt8}, skipS m l = c :: r → blankB c = false ∧ c ≠ 37
  | [], m, c, r, h => by cases m <;> simp [skipS] at h
  | x :: t, false, c, r, h => by
    unfold skipS at h
    split at h
    · exact skipS_head t true h
    · split at h
      · exact skipS_head t false h
      · simp only [List.cons.injEq] at h
        obtain ⟨rfl, rfl⟩ := h
        exact ⟨by simp_all, by assumption⟩
  | x :: t, true, c, r, h => by
    unfold skipS at h
    split at h
    · exact skipS_head t false h
    · exact skipS_head t true h
/-- a step goes on: no kind at the end alone, else a byte at least is taken -/
theorem tokS_step {l : List UInt8} {t : TokV} {s : List UInt8} (h : tokS l = .ok (t, s)) : (t.kind = 0 ∧ s = []) ∨ (t.kind ≠ 0 ∧ s.length < l.length) := by
  unfold tokS at h
  split at h
  · simp only [Except.ok.injEq, Prod.mk.injEq] at h
    obtain ⟨rfl, rfl⟩ := h
    exact Or.inl ⟨rfl, rfl⟩
  · next c r hs =>
    have hh := skipS_head l false hs
    obtain ⟨h1, h2⟩ := tokC_len (t := t) (s := s) hh.1 hh.2 h
    have h3 := skipS_len l false
    rw [hs] at h3
    simp only [List.length_cons] at h3
    exact Or.inr ⟨h2, by omega⟩
theorem textS_err0 {o : Option (List UInt8 × List UInt8)} {k : Int} (h : textS o = .error k) : k = 14 ∨ k = 9 := by
  unfold textS at h
  split at h
  · cases h; exact Or.inl rfl
  · split at h
    · cases h; exact Or.inr rfl
    · cases h
theorem nameS_err0 {i : Int} {l : List UInt8} {k : Int} (h : nameS i l = .error k) : k = 9 := by
  unfold nameS at h
  split at h
  · cases h; rfl
  · cases h
theorem tokC_err0 {c : UInt8} {r : List UInt8} {k : Int} (h : tokC c r = .error k) : k ≠ 0 := by
  have ht : ∀ {o : Option (List UInt8 × List UInt8)}, textS o = .error k → k ≠ 0 := fun h => by rcases textS_err0 h with rfl | rfl <;> decide
  have hn : ∀ {i : Int} {l : List UInt8}, nameS i l = .error k → k ≠ 0 := fun h => by rw [nameS_err0 h]; decide
  unfold tokC at h
  split at h
  · exact ht h
  · split at h
    · cases h; decide
    · split at h
      · unfold angleS at h
        split at h
        · split at h
          · cases h
          · split at h
            · exact ht h
            · cases h; decide
        · split at h
          · exact ht h
          · cases h; decide
      · split at h
        · cases h
        · split at h
          · cases h
          · split at h
            · cases h
            · split at h
              · unfold slashS at h
                split at h
                · split at h
                  · exact hn h
                  · exact hn h
                · exact hn h
              · unfold wordS at h
                simp only at h
                split at h
                · next he => cases h; exact he
                · split at h
                  · cases h
                  · exact hn h
theorem tokS_err0 {l : List UInt8} (h : tokS l = .error 0) : False := by
  unfold tokS at h
  split at h
  · cases h
  · exact tokC_err0 (k := 0) h rfl
theorem nextR_step (l : List UInt8) (a : Nat) (ha : a ≤ l.length) : (nextR l a).e ≠ 0 ∨ ((nextR l a).k = 0 ∧ (nextR l a).at' = l.length) ∨ ((nextR l a).k ≠ 0 ∧ (a : Int) < (nextR l a).at' ∧ (nextR l a).at' ≤ l.length) := by
  have e : nextR l a = nrOf l (tokS (l.drop a)) := by unfold nextR; rw [if_neg (by omega)]; rfl
  rw [e]
  cases h : tokS (l.drop a) with
  | error k =>
    by_cases hk : k = 0
    · exfalso; subst hk; exact tokS_err0 h
    · exact Or.inl hk
  | ok p =>
    obtain ⟨t, s⟩ := p
    right
    simp only [nrOf]
    rcases tokS_step h with ⟨h1, rfl⟩ | ⟨h1, h2⟩
    · exact Or.inl ⟨h1, by simp⟩
    · rw [List.length_drop] at h2
      exact Or.inr ⟨h1, by omega, by omega⟩

end Go.Proofs.YteaohajihhpnmaaDoor
