/-
  Plain: blanks and comments between tokens change no token.
-/
import Derived.Test.YteaohajihhpnmaaDoorScanU
namespace Go.Proofs.YteaohajihhpnmaaDoor

def wordsL : List (List UInt8) := [[97], [47, 98], [47, 47, 99], [40, 100, 32, 101, 41], [60, 48, 102, 62], [123], [125], [91], [93], [49, 50], [45, 49, 46, 53], [49, 54, 35, 97], [60, 60], [62, 62], [47], [120, 37]]
def fillL : List (List UInt8) := [[32], [10], [9, 13, 10], [37, 99, 10], [32, 37, 40, 32, 13, 32], [0], [12, 37, 37, 100, 12]]
/-- what stands behind a word ends it -/
def sepOk (r : List UInt8) : Prop := ∀ c t, r = c :: t → blankB c = true ∨ c = 37
theorem sepOk_reg {r : List UInt8} (h : sepOk r) : r.takeWhile regB = [] ∧ r.dropWhile regB = r := by
  cases r with
  | nil => exact ⟨rfl, rfl⟩
  | cons c t =>
    have hr : regB c = false := by
      rcases h c t rfl with h | rfl
      · unfold regB; rw [h]; rfl
      · rfl
    exact ⟨by simp [hr], by simp [hr]⟩
def resW (w : List UInt8) : Except Int TokV :=
  if (tokenL w).e ≠ 0 then .error (tokenL w).e else if (tokenL w).ok then .ok ⟨(tokenL w).kind, (tokenL w).n, []⟩ else if 127 < w.length then .error 9 else .ok ⟨3, 0, w⟩
def withR (x : Except Int TokV) (r : List UInt8) : TokE := match x with | .ok t => .ok (t, r) | .error e => .error e
theorem takeWhile_all {w r : List UInt8} (hw : w.all regB = true) (h : sepOk r) : (w ++ r).takeWhile regB = w ∧ (w ++ r).dropWhile regB = r := by
  induction w with
  | nil => exact sepOk_reg h
  | cons c w ih =>
    simp only [List.all_cons, Bool.and_eq_true] at hw
    obtain ⟨h1, h2⟩ := ih hw.2
    simp [hw.1, h1, h2]
theorem wordS_word {w r : List UInt8} (hw : w.all regB = true) (h : sepOk r) : wordS (w ++ r) = withR (resW w) r := by
  obtain ⟨h1, h2⟩ := takeWhile_all hw h
  unfold wordS resW nameS
  rw [h1, h2]
  simp only
  split
  · rfl
  · split
    · rfl
    · split <;> rfl
theorem nameS_word {w r : List UInt8} (k : Int) (hw : w.all regB = true) (hl : w.length ≤ 127) (h : sepOk r) : nameS k (w ++ r) = .ok (⟨k, 0, w⟩, r) := by
  obtain ⟨h1, h2⟩ := takeWhile_all hw h
  unfold nameS
  rw [h1, h2, if_neg (by omega)]
def resT : Nat → Except Int TokV
  | 0 => resW [97] | 1 => .ok ⟨4, 0, [98]⟩ | 2 => .ok ⟨5, 0, [99]⟩ | 3 => .ok ⟨6, 0, [100, 32, 101]⟩ | 4 => .ok ⟨6, 0, [15]⟩ | 5 => .ok ⟨7, 0, []⟩ | 6 => .ok ⟨8, 0, []⟩ | 7 => .ok ⟨3, 0, [91]⟩ | 8 => .ok ⟨3, 0, [93]⟩
  | 9 => resW [49, 50] | 10 => resW [45, 49, 46, 53] | 11 => resW [49, 54, 35, 97] | 12 => .ok ⟨3, 0, [60, 60]⟩ | 13 => .ok ⟨3, 0, [62, 62]⟩ | _ => .ok ⟨4, 0, []⟩
theorem tok_word (k : Nat) (hk : k < 15) (r : List UInt8) (h : sepOk r) : tokS (wordsL[k]'(by show k < 16; omega) ++ r) = withR (resT k) r := by
  match k, hk with
  | 0, _ => exact wordS_word (w := [97]) (by decide) h
  | 1, _ => exact nameS_word (w := [98]) 4 (by decide) (by decide) h
  | 2, _ => exact nameS_word (w := [99]) 5 (by decide) (by decide) h
  | 3, _ =>
    show textS (roundS 1 [] (100 :: 32 :: 101 :: 41 :: r)) = _
    rw [roundS_plain _ _ _ _ (by decide) (by decide) (by decide) (by decide), roundS_plain _ _ _ _ (by decide) (by decide) (by decide) (by decide), roundS_plain _ _ _ _ (by decide) (by decide) (by decide) (by decide), roundS_41, if_pos rfl]
    rfl
  | 4, _ =>
    show textS (hexS none [] (48 :: 102 :: 62 :: r)) = _
    have e : hexS none [] (48 :: 102 :: 62 :: r) = some ([15], r) := by simp [hexS, blankB, hexD, hexN]; decide
    rw [e]; rfl
  | 5, _ => rfl
  | 6, _ => rfl
  | 7, _ => rfl
  | 8, _ => rfl
  | 9, _ => exact wordS_word (w := [49, 50]) (by decide) h
  | 10, _ => exact wordS_word (w := [45, 49, 46, 53]) (by decide) h
  | 11, _ => exact wordS_word (w := [49, 54, 35, 97]) (by decide) h
  | 12, _ => rfl
  | 13, _ => rfl
  | 14, _ =>
    show slashS r = _
    have e := nameS_word (w := []) (r := r) 4 (by decide) (by decide) h
    rw [List.nil_append] at e
    cases r with
    | nil => exact e
    | cons c t =>
      unfold slashS
      simp only
      rw [if_neg (fun e2 => by rcases h c t rfl with h | h <;> subst e2 <;> revert h <;> decide), e]
      rfl
theorem tokS_skip {a b : List UInt8} (h : skipS false a = skipS false b) : tokS a = tokS b := by unfold tokS; rw [h]
theorem skip_fill (j : Nat) (hj : j < 7) (x : List UInt8) : skipS false (fillL[j]'hj ++ x) = skipS false x := by
  match j, hj with
  | 0, _ => rfl
  | 1, _ => rfl
  | 2, _ => rfl
  | 3, _ => rfl
  | 4, _ => rfl
  | 5, _ => rfl
  | 6, _ => rfl
theorem fill_sep (j : Nat) (hj : j < 7) (x : List UInt8) : sepOk (fillL[j]'hj ++ x) := by
  intro c t e
  match j, hj, e with
  | 0, _, e => simp [fillL] at e; rw [← e.1]; decide
  | 1, _, e => simp [fillL] at e; rw [← e.1]; decide
  | 2, _, e => simp [fillL] at e; rw [← e.1]; decide
  | 3, _, e => simp [fillL] at e; rw [← e.1]; decide
  | 4, _, e => simp [fillL] at e; rw [← e.1]; decide
  | 5, _, e => simp [fillL] at e; rw [← e.1]; decide
  | 6, _, e => simp [fillL] at e; rw [← e.1]; decide
def wordAtN (x : UInt8) : List UInt8 := wordsL[x.toNat % 15]'(by show _ < 16; omega)
def fillA (g : UInt8) : List UInt8 := fillL[g.toNat % 7]'(by show _ < 7; omega)
def fillZ (g : UInt8) : List UInt8 := fillL[g.toNat / 7 % 7]'(by show _ < 7; omega)
def plainT : List UInt8 → List UInt8
  | [] => []
  | x :: ws => wordAtN x ++ 32 :: plainT ws
def gapT : List UInt8 → List UInt8 → List UInt8
  | [], _ => []
  | x :: ws, gs => fillA (gs.headD 0) ++ (wordAtN x ++ (fillZ (gs.headD 0) ++ gapT ws gs.tail))
theorem plainT_snoc (x : UInt8) : ∀ ws, plainT (ws ++ [x]) = plainT ws ++ wordAtN x ++ [32]
  | [] => by simp [plainT]
  | y :: ws => by simp [plainT, plainT_snoc x ws]
theorem gapT_snoc (x : UInt8) : ∀ (ws gs : List UInt8), gapT (ws ++ [x]) gs = gapT ws gs ++ fillA (gs[ws.length]?.getD 0) ++ wordAtN x ++ fillZ (gs[ws.length]?.getD 0)
  | [], gs => by
    have e : gs.headD 0 = gs[0]?.getD 0 := by cases gs <;> rfl
    simp only [List.nil_append, gapT, List.length_nil, ← e, List.append_nil, List.append_assoc]
  | y :: ws, gs => by
    have e : gs.tail[ws.length]? = gs[ws.length + 1]? := by cases gs <;> simp
    simp [gapT, gapT_snoc x ws gs.tail, e]
theorem wordAtN_len (x : UInt8) : (wordAtN x).length ≤ 5 := by
  have key : ∀ k : Fin 16, (wordsL[k.1]'(by show k.1 < 16; omega)).length ≤ 5 := by decide
  exact key ⟨x.toNat % 15, by omega⟩
theorem fill_len (k : Nat) (hk : k < 7) : (fillL[k]'hk).length ≤ 6 := by
  have key : ∀ k : Fin 7, (fillL[k.1]'k.2).length ≤ 6 := by decide
  exact key ⟨k, hk⟩
theorem plainT_len : ∀ ws, (plainT ws).length ≤ 6 * ws.length
  | [] => by simp [plainT]
  | x :: ws => by
    have h1 := wordAtN_len x; have h2 := plainT_len ws
    simp only [plainT, List.length_append, List.length_cons]; omega
theorem gapT_len : ∀ ws gs, (gapT ws gs).length ≤ 17 * ws.length
  | [], gs => by simp [gapT]
  | x :: ws, gs => by
    have h1 := wordAtN_len x; have h2 := gapT_len ws gs.tail
    have h3 : (fillA (gs.headD 0)).length ≤ 6 := fill_len _ _
    have h4 : (fillZ (gs.headD 0)).length ≤ 6 := fill_len _ _
    simp only [gapT, List.length_append, List.length_cons]; omega
/-- i tokens are read: what is left of the two texts -/
def InvB (l g ws gs : List UInt8) (i a b : Nat) : Prop := ∃ pa ga, (∀ x, skipS false (pa ++ x) = skipS false x) ∧ (∀ x, skipS false (ga ++ x) = skipS false x) ∧ l.drop a = pa ++ plainT (ws.drop i) ∧ g.drop b = ga ++ gapT (ws.drop i) (gs.drop i) ∧ a ≤ l.length ∧ b ≤ g.length
theorem drop_rest {l pre rest : List UInt8} {a : Nat} (h : l.drop a = pre ++ rest) : l.drop (l.length - rest.length) = rest := by
  have e : l = l.take a ++ (pre ++ rest) := by rw [← h, List.take_append_drop]
  conv => lhs; rw [e]
  rw [← List.append_assoc]
  rw [List.drop_left' (by simp; omega)]
theorem nextR_nat {l : List UInt8} {a : Nat} (ha : a ≤ l.length) : nextR l (a : Int) = nrOf l (tokS (l.drop a)) := by unfold nextR; rw [if_neg (by omega)]; rfl
theorem InvB.step {l g ws gs : List UInt8} {i a b : Nat} (h : InvB l g ws gs i a b) :
    ∃ R : NR, ∃ at2 : Int, nextR l (a : Int) = R ∧ nextR g (b : Int) = ⟨R.k, R.n, R.s, at2, R.e⟩ ∧ (R.e = 0 → ∃ a' b' : Nat, R.at' = a' ∧ at2 = b' ∧ InvB l g ws gs (i + 1) a' b') := by
  obtain ⟨pa, ga, hpa, hga, hl, hg, ha, hb⟩ := h
  rw [nextR_nat ha, nextR_nat hb, hl, hg, tokS_skip (hpa _), tokS_skip (hga _)]
  cases hw : ws.drop i with
  | nil =>
    have hw1 : ws.drop (i + 1) = [] := by rw [← List.drop_drop, hw]; rfl
    refine ⟨⟨0, 0, [], (l.length : Nat), 0⟩, (g.length : Nat), by simp [plainT, tokS, skipS, nrOf], by simp [gapT, tokS, skipS, nrOf], fun _ => ⟨l.length, g.length, rfl, rfl, [], [], fun x => rfl, fun x => rfl, ?_, ?_, Nat.le_refl _, Nat.le_refl _⟩⟩
    · rw [hw1]; simp [plainT]
    · rw [hw1]; simp [gapT]
  | cons x wt =>
    have hw1 : ws.drop (i + 1) = wt := by rw [← List.drop_drop, hw]; rfl
    have hg1 : gs.drop (i + 1) = (gs.drop i).tail := by rw [← List.drop_drop]; simp
    rw [hw] at hl hg
    simp only [plainT, gapT] at hl hg ⊢
    have h15 : x.toNat % 15 < 15 := by omega
    have e1 : tokS (wordAtN x ++ 32 :: plainT wt) = withR (resT (x.toNat % 15)) (32 :: plainT wt) := tok_word _ h15 _ (fun c t e => by simp only [List.cons.injEq] at e; rw [← e.1]; exact Or.inl rfl)
    have e2 : tokS (fillA ((gs.drop i).headD 0) ++ (wordAtN x ++ (fillZ ((gs.drop i).headD 0) ++ gapT wt (gs.drop i).tail))) = withR (resT (x.toNat % 15)) (fillZ ((gs.drop i).headD 0) ++ gapT wt (gs.drop i).tail) :=
      (tokS_skip (skip_fill _ _ _)).trans (tok_word _ h15 _ (fill_sep _ _ _))
    rw [e1, e2]
    cases hr : resT (x.toNat % 15) with
    | error e =>
      refine ⟨⟨0, 0, [], 0, e⟩, 0, rfl, rfl, fun h0 => ?_⟩
      exfalso
      simp only at h0
      subst h0
      exact tokS_err0 (e1.trans (by rw [hr]; rfl))
    | ok t =>
      refine ⟨⟨t.kind, t.n, t.text, (l.length - (32 :: plainT wt).length : Nat), 0⟩, (g.length - (fillZ ((gs.drop i).headD 0) ++ gapT wt (gs.drop i).tail).length : Nat), rfl, rfl, fun _ => ⟨_, _, rfl, rfl, [32], fillZ ((gs.drop i).headD 0), fun x => rfl, skip_fill _ _, ?_, ?_, by omega, by omega⟩⟩
      · rw [hw1]; exact drop_rest (pre := pa ++ wordAtN x) (a := a) (by rw [hl]; simp)
      · rw [hw1, hg1]; exact drop_rest (pre := ga ++ (fillA ((gs.drop i).headD 0) ++ wordAtN x)) (a := b) (by rw [hg]; simp)
theorem InvB.start (ws gs : List UInt8) : InvB (plainT ws) (gapT ws gs) ws gs 0 0 0 := ⟨[], [], fun _ => rfl, fun _ => rfl, rfl, rfl, Nat.zero_le _, Nat.zero_le _⟩

end Go.Proofs.YteaohajihhpnmaaDoor
