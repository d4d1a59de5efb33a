/-
  The law PlexBack, in its second form: what a sound object is written as is read as that object, whatever stands around it, and not if it is nested too deep. Condition: the row's own, that what is read is of bulk at most 1048576.
-/
import Derived.Test.YtjghbcjnplcleaaGreatDoorPb5
import Derived.WalkKit
import Derived.WalkSpells
import Derived.WalkLawsBesides
import Derived.Test.YtjghbcjnplcleaaGreatDoorRows
import Derived.Shelf.Strings.Builder1
import Derived.Shelf.Strings.Builder2
import Derived.Shelf.Strings.Trim
import Derived.Shelf.Small.Utf8
import Derived.Shelf.Small.Strs
import Derived.Shelf.Strings.BuilderF
import Derived.Shelf.Strings.BuilderK
import Derived.Shelf.Strings.Builder2Cap
import Derived.Shelf.Strconv.Itoa0
import Derived.Shelf.Strings.Search1
import Derived.Shelf.Strings.Search2
import Derived.Shelf.Strings.Search3
import Derived.Shelf.Strings.Cut
import Derived.Shelf.Strings.Count
import Derived.Shelf.LaysM
import Derived.Shelf.Strings.Shaped
import Derived.Shelf.Strings.Prefix
import Derived.Shelf.Unicode.Decode
import Derived.Shelf.Strings.Runes
import Derived.Shelf.Strings.IndexAny
import Derived.Shelf.Strings.AsciiSet
import Derived.Shelf.Strings.IndexAnyAll
import Derived.Shelf.Bits.Mul64
import Derived.Shelf.Strings.Repeat
import Derived.Shelf.Unicode.DecodeSlow
import Derived.Shelf.Unicode.DecodeAny
import Derived.Shelf.Unicode.DecodeLast
import Derived.Shelf.Strings.BuilderCap
import Derived.Test.YtjghbcjnplcleaaGreatDoorProg
import Derived.Shelf.Strings.SlTrimAscii
import Derived.Deep.QuietTactic
import Derived.BigQuiet
import Derived.Deep.DeepCutAuto
import Derived.StillTail
import Derived.Laws.BytesString
import Derived.Laws.Slices
import Derived.Carry
import Derived.ChangeSlices
import Derived.Lib.ConvBytes
import Derived.Laws.AppendOwn
import Derived.Laws.CopyRow
import Derived.Deep.MidRow
import Derived.Lib.SliceRun
import Derived.Recover
import Derived.Lib.AppendZerosOnto
import Derived.Laws.OwnMore
import Derived.Deep.Slices
import Derived.ProofKit
import Derived.OpenShut
import Derived.Lib.FrozenHead
import Derived.Lib.AppendStr
import Derived.Test.YtjghbcjnplcleaaGreatDoorCards
import Derived.Test.YtjghbcjnplcleaaGreatDoorTie
import Derived.Deep.DeepHandedRow
import Derived.Lib.LaidTab
namespace Go.Proofs.YtjghbcjnplcleaaGreatDoor
open Go.Proofs.Tryz
open Go.RowKit
theorem prO_le (l : List AV) (i : Nat) (hi : i < l.length) : (prO l[i]).length ≤ (prB l).length ∧ (prB (l.take (i + 1))).length ≤ (prB l).length := by
 have e : l = l.take i ++ l[i] :: l.drop (i + 1) := by rw [← List.drop_eq_getElem_cons hi, List.take_append_drop]
 have e2 : prB l = prB (l.take i) ++ (32 :: (prO l[i] ++ prB (l.drop (i + 1)))) := by conv => lhs; rw [e, prB_append, prB]
 have e3 : prB (l.take (i + 1)) = prB (l.take i) ++ 32 :: prO l[i] := by rw [List.take_succ_eq_append_getElem hi, prB_snoc]
 rw [e3, e2]
 simp only [List.length_append, List.length_cons]
 omega
theorem prB_take_le (l : List AV) (i : Nat) (hi : i < l.length) : (prB (l.take i)).length ≤ (prB l).length := by
 have e : l = l.take i ++ l.drop i := (List.take_append_drop i l).symm
 have e2 : prB l = prB (l.take i) ++ prB (l.drop i) := by conv => lhs; rw [e, prB_append]
 rw [e2, List.length_append]; omega
theorem prP_take : ∀ (ks : List (List UInt8)) (l : List AV) (i : Nat) (h1 : i < ks.length) (h2 : i < l.length), prP (ks.take (i + 1)) (l.take (i + 1)) = prP (ks.take i) (l.take i) ++ 32 :: (nmT ks[i] ++ 32 :: prO l[i])
 | k :: ks, o :: l, 0, _, _ => by simp [prP]
 | k :: ks, o :: l, i + 1, h1, h2 => by
  have := prP_take ks l i (by simpa using h1) (by simpa using h2)
  simp only [List.take_succ_cons, prP, List.getElem_cons_succ, this]
  simp
theorem prP_le (ks : List (List UInt8)) (l : List AV) (i : Nat) (h1 : i < ks.length) (h2 : i < l.length) : (prP (ks.take (i + 1)) (l.take (i + 1))).length ≤ (prP ks l).length := by
 have key : ∀ (ks : List (List UInt8)) (l : List AV) (j : Nat), (prP (ks.take j) (l.take j)).length ≤ (prP ks l).length := by
  intro ks
  induction ks with
  | nil => intro l j; simp [prP]
  | cons k ks ih =>
   intro l j
   cases l with
   | nil => simp [prP]
   | cons o l =>
    cases j with
    | zero => simp [prP]
    | succ j => have := ih l j; simp only [List.take_succ_cons, prP, List.length_cons, List.length_append]; omega
 exact key ks l (i + 1)
theorem drop1_snoc (l : List AV) (i : Nat) (hi : i < l.length) : (prB (l.take (i + 1))).drop 1 = (if i = 0 then [] else (prB (l.take i)).drop 1 ++ [32]) ++ prO l[i] := by
 rw [List.take_succ_eq_append_getElem hi, prB_snoc]
 cases i with
 | zero => simp [prB]
 | succ i =>
  rw [if_neg (by omega)]
  have : 0 < (prB (l.take (i + 1))).length := by
   have := prB_ge (l.take (i + 1))
   rw [List.length_take] at this; omega
  rw [List.drop_append_of_le_length (by omega)]
  simp
theorem dpL_mem : ∀ (l : List AV) (m : Nat), (∀ o ∈ l, dpO o ≤ m) → dpL l ≤ m
 | [], m, _ => by simp [dpL]
 | o :: r, m, h => by
  have h1 := h o (by simp)
  have h2 := dpL_mem r m fun x hx => h x (by simp [hx])
  rw [dpL]; omega
theorem dp_le {D : Int} {st : Bool} {o : AV} (h : Snd D st o) : (dpO o : Int) ≤ max D 0 := by
 induction h with
 | arr D st l hD hl h ih =>
  have := dpL_mem l (D - 1).toNat fun o ho => by have := ih o ho; omega
  rw [dpO, if_pos (.inl rfl)]; omega
 | dict D st k ks l d hk hD hl hkl hn hnd h ih =>
  have := dpL_mem l (D - 1).toNat fun o ho => by have := ih o ho; omega
  rw [dpO]; split <;> omega
 | num D st k n hk h => rw [dpO]; rcases hk with rfl | rfl <;> simp <;> omega
 | _ => simp [dpO]; omega
theorem dpL_append : ∀ a b : List AV, dpL (a ++ b) = max (dpL a) (dpL b)
 | [], b => by simp [dpL]
 | o :: r, b => by rw [List.cons_append, dpL, dpL, dpL_append r b]; omega
theorem dpL_snoc (l : List AV) (i : Nat) (hi : i < l.length) : dpL (l.take (i + 1)) = max (dpL (l.take i)) (dpO l[i]) := by
 rw [List.take_succ_eq_append_getElem hi, dpL_append]; simp [dpL]
theorem ref_DecT (n : Int) (w : World) (h : -9223372036854775808 ≤ n) (h' : n ≤ 9223372036854775807) : Calls Tryz.prog 37 #[.int .i64 n] w fun e w' => e = .returned (.string (bs (decL n))) ∧ Below w.heap.size w w' := ref_Dec n w h h'
set_option maxHeartbeats 1000000 in
theorem r18_PrintA : ∀ (n : Nat) (o : AV), SizeOf.sizeOf o < n → ∀ (x : AC) (S : Nat → Prop) (D : Int) (st : Bool) (w : World), ARep w S x o → Snd D st o → (prO o).length ≤ 100000000 →
  Calls Tryz.prog 17 #[.agg (acV x).toArray] w fun e w' => e = .returned (.string (bs (prO o))) ∧ Below w.heap.size w w' := by
 intro n
 induction n with
 | zero => intro o h; omega
 | succ n ih =>
 intro o hn x S D st w hx hS hL
 obtain ⟨keys, list, data, cs, rfl, ok, hkl, hk, hks, hr, hrs, hd, hds, hcl, hsub⟩ := hx.inv
 obtain ⟨k, i, s, kp, kl, kc, lp, ll, lc, dp, dl, dc⟩ := x
 have e1 := ok.kl; have e2 := ok.ll; have e3 := ok.dl
 have m1 := ok.kc; have m2 := ok.lc; have m3 := ok.dc; have m4 := ok.km; have m5 := ok.lm; have m6 := ok.dm; have m7 := ok.text; have m8 := ok.n
 simp only at e1 e2 e3 m1 m2 m3 m4 m5 m6 m7 m8 hk hr hd hrs hS hL ⊢
 subst e1; subst e2; subst e3
 simp only [AV.mk.sizeOf_spec] at hn
 have hsz : ∀ j (h : j < list.length), SizeOf.sizeOf list[j] < n := fun j h => by have := List.sizeOf_lt_of_mem (List.getElem_mem h); omega
 have hs0 : AInv w S cs list := ⟨hcl, hsub⟩
 simp only [acV]
 obtain ⟨R, hX⟩ : ∃ R, R = prO (.mk k i s keys list data) := ⟨_, rfl⟩
 rw [← hX] at hL ⊢
 have hsub1 : k = 6 ∨ k = 7 ∨ k = 9 → ∀ o ∈ list, Snd (D - 1) false o := fun hk => by
  cases hS with
  | arr _ _ _ hD hl h => exact h
  | dict _ _ _ _ _ _ hk' hD hl hkl hn hnd h => exact h
  | num _ _ _ _ h' _ => rcases h' with rfl | rfl <;> omega
  | null => omega
  | bool => omega
  | name => omega
  | text => omega
  | ref => omega
 have hkeys : k = 7 ∨ k = 9 → keys.length = list.length ∧ (∀ x ∈ keys, nmOk x) := fun hk => by
  cases hS with
  | arr _ _ _ hD hl h => omega
  | dict _ _ _ _ _ _ hk' hD hl hkl hn hnd h => exact ⟨hkl, hn⟩
  | num _ _ _ _ h' _ => rcases h' with rfl | rfl <;> omega
  | null => omega
  | bool => omega
  | name => omega
  | text => omega
  | ref => omega
 have hkind : k = 0 ∨ k = 1 ∨ k = 2 ∨ k = 3 ∨ k = 4 ∨ k = 5 ∨ k = 8 ∨ k = 6 ∨ k = 7 ∨ k = 9 := by
  cases hS with
  | arr _ _ _ hD hl h => omega
  | dict _ _ _ _ _ _ hk' hD hl hkl hn hnd h => rcases hk' with ⟨h, -⟩ | ⟨h, -⟩ <;> omega
  | num _ _ _ _ h' _ => rcases h' with rfl | rfl <;> omega
  | null => omega
  | bool => omega
  | name => omega
  | text => omega
  | ref => omega
 have htext : s.length ≤ 65535 := by
  cases hS with
  | name _ _ _ h => have := h.2.2; omega
  | text _ _ _ h => exact h
  | _ => simp
 have hdata : data.length ≤ 1048576 := by
  cases hS with
  | dict _ _ _ _ _ _ hk' hD hl hkl hn hnd h => rcases hk' with ⟨-, rfl⟩ | h; simp; exact h.2.2.1
  | _ => simp
 rw [prO] at hX
 refine W.enter func17 rfl ntmps17 (Nat.le_of_ble_eq_true rfl) ?_
 have hB0 := Below.refl (w.heap.size) w
 refine W.seq <| W.reg <| WL.box rfl rfl (fun b1 wb1 eb1 hkb1 hub1 hsb1 => ?_)
 have hF2 := AInv.same (w1 := wb1) hs0 (fun k hk hl => hub1.other k (by omega))
 have hvl4 := fun h0 => eb1 ▸ hk.lt h0
 have hv3 := RowAt.upd hk hub1 (fun h0 => Nat.ne_of_lt (hvl4 h0))
 have hvl6 := fun h0 => eb1 ▸ hr.lt h0
 have hv5 := RowM.upd hr hub1 (fun h0 => Nat.ne_of_lt (hvl6 h0))
 have hvl8 := fun h0 => eb1 ▸ hd.lt h0
 have hv7 := BytesAt.upd hd hub1 (fun h0 => Nat.ne_of_lt (hvl8 h0))
 have hB9 := Upd.below hB0 (by rw [eb1]; exact hB0.size) hub1
 have hgeb1 : w.heap.size ≤ b1 := by rw [eb1]; exact hB0.size
 refine WL.p (.as rfl) rfl <| WL.nil <| ?_
 refine W.seq <| W.seq <| W.reg <| WL.p (.fa underlying31 rfl sizeOf3 (by decide) rfl) rfl <| WL.r (Rd.ld (isAgg3 _) rfl hkb1 rfl) rfl <| WL.nil <| ?_
 refine W.block <| W.seq <| W.reg <| WL.p (.eql rfl rfl) rfl <| WL.p (.as rfl) rfl <| WL.nil <| ?_
 refine W.cond rfl (fun h10 => ?_) (fun h10 => ?_)
 ·
  have h10' := of_decide_eq_true h10
  refine W.seq <| W.reg <| WL.p (.as rfl) rfl <| WL.nil <| ?_
  refine W.ret (W.ret1 rfl rfl ?_)
  first
  | (rw [if_pos (by assumption)] at hX; subst hX; exact ⟨rfl, hB9⟩)
  | (rw [if_neg (by omega), if_pos (by assumption), if_pos (by assumption)] at hX; subst hX; exact ⟨rfl, hB9⟩)
  | (rw [if_neg (by omega), if_pos (by assumption), if_neg (by assumption)] at hX; subst hX; exact ⟨rfl, hB9⟩)
  | (rw [if_neg (by omega), if_neg (by omega), if_pos (by assumption)] at hX; subst hX; exact ⟨rfl, hB9⟩)
  | (rw [if_neg (by omega), if_neg (by omega), if_neg (by omega), if_pos (by assumption)] at hX; subst hX; exact ⟨rfl, hB9⟩)
  | (rw [if_neg (by omega), if_neg (by omega), if_neg (by omega), if_neg (by omega), if_pos (by assumption)] at hX; subst hX; exact ⟨rfl, hB9⟩)
  | (rw [if_neg (by omega), if_neg (by omega), if_neg (by omega), if_neg (by omega), if_neg (by omega), if_pos (by assumption)] at hX; subst hX; exact ⟨rfl, hB9⟩)
  | (rw [if_neg (by omega), if_neg (by omega), if_neg (by omega), if_neg (by omega), if_neg (by omega), if_neg (by omega), if_pos (by assumption)] at hX; subst hX; exact ⟨rfl, hB9⟩)
  | exact ⟨ret_val (by rw [hX]; rfl), hB9⟩
  | exact ⟨ret_val (by rw [hX, if_pos (by assumption)]; simp), hB9⟩
  | exact ⟨ret_val (by rw [hX, if_neg (by assumption)]; simp [strmE]), hB9⟩
 have h10' := of_decide_eq_false h10
 refine W.seq <| W.reg <| WL.p (.eql rfl rfl) rfl <| WL.p (.as rfl) rfl <| WL.nil <| ?_
 refine W.cond rfl (fun h11 => ?_) (fun h11 => ?_)
 ·
  have h11' := of_decide_eq_true h11
  refine W.seq <| W.seq <| W.reg <| WL.p (.fa underlying31 rfl sizeOf3 (by decide) rfl) rfl <| WL.r (Rd.ld (isAgg3 _) rfl hkb1 rfl) rfl <| WL.p (.eql rfl rfl) rfl <| WL.nil <| ?_
  refine W.cond rfl (fun h12 => ?_) (fun h12 => ?_)
  ·
   have h12' := of_decide_eq_true h12
   refine W.seq <| W.reg <| WL.p (.as rfl) rfl <| WL.nil <| ?_
   refine W.ret (W.ret1 rfl rfl ?_)
   first
   | (rw [if_pos (by assumption)] at hX; subst hX; exact ⟨rfl, hB9⟩)
   | (rw [if_neg (by omega), if_pos (by assumption), if_pos (by assumption)] at hX; subst hX; exact ⟨rfl, hB9⟩)
   | (rw [if_neg (by omega), if_pos (by assumption), if_neg (by assumption)] at hX; subst hX; exact ⟨rfl, hB9⟩)
   | (rw [if_neg (by omega), if_neg (by omega), if_pos (by assumption)] at hX; subst hX; exact ⟨rfl, hB9⟩)
   | (rw [if_neg (by omega), if_neg (by omega), if_neg (by omega), if_pos (by assumption)] at hX; subst hX; exact ⟨rfl, hB9⟩)
   | (rw [if_neg (by omega), if_neg (by omega), if_neg (by omega), if_neg (by omega), if_pos (by assumption)] at hX; subst hX; exact ⟨rfl, hB9⟩)
   | (rw [if_neg (by omega), if_neg (by omega), if_neg (by omega), if_neg (by omega), if_neg (by omega), if_pos (by assumption)] at hX; subst hX; exact ⟨rfl, hB9⟩)
   | (rw [if_neg (by omega), if_neg (by omega), if_neg (by omega), if_neg (by omega), if_neg (by omega), if_neg (by omega), if_pos (by assumption)] at hX; subst hX; exact ⟨rfl, hB9⟩)
   | exact ⟨ret_val (by rw [hX]; rfl), hB9⟩
   | exact ⟨ret_val (by rw [hX, if_pos (by assumption)]; simp), hB9⟩
   | exact ⟨ret_val (by rw [hX, if_neg (by assumption)]; simp [strmE]), hB9⟩
  have h12' := of_decide_eq_false h12
  refine W.skip <| W.seq <| W.reg <| WL.p (.as rfl) rfl <| WL.nil <| ?_
  refine W.ret (W.ret1 rfl rfl ?_)
  first
  | (rw [if_pos (by assumption)] at hX; subst hX; exact ⟨rfl, hB9⟩)
  | (rw [if_neg (by omega), if_pos (by assumption), if_pos (by assumption)] at hX; subst hX; exact ⟨rfl, hB9⟩)
  | (rw [if_neg (by omega), if_pos (by assumption), if_neg (by assumption)] at hX; subst hX; exact ⟨rfl, hB9⟩)
  | (rw [if_neg (by omega), if_neg (by omega), if_pos (by assumption)] at hX; subst hX; exact ⟨rfl, hB9⟩)
  | (rw [if_neg (by omega), if_neg (by omega), if_neg (by omega), if_pos (by assumption)] at hX; subst hX; exact ⟨rfl, hB9⟩)
  | (rw [if_neg (by omega), if_neg (by omega), if_neg (by omega), if_neg (by omega), if_pos (by assumption)] at hX; subst hX; exact ⟨rfl, hB9⟩)
  | (rw [if_neg (by omega), if_neg (by omega), if_neg (by omega), if_neg (by omega), if_neg (by omega), if_pos (by assumption)] at hX; subst hX; exact ⟨rfl, hB9⟩)
  | (rw [if_neg (by omega), if_neg (by omega), if_neg (by omega), if_neg (by omega), if_neg (by omega), if_neg (by omega), if_pos (by assumption)] at hX; subst hX; exact ⟨rfl, hB9⟩)
  | exact ⟨ret_val (by rw [hX]; rfl), hB9⟩
  | exact ⟨ret_val (by rw [hX, if_pos (by assumption)]; simp), hB9⟩
  | exact ⟨ret_val (by rw [hX, if_neg (by assumption)]; simp [strmE]), hB9⟩
 have h11' := of_decide_eq_false h11
 refine W.seq <| W.reg <| WL.p (.eql rfl rfl) rfl <| WL.p (.as rfl) rfl <| WL.nil <| ?_
 refine W.cond rfl (fun h13 => ?_) (fun h13 => ?_)
 ·
  have h13' := of_decide_eq_true h13
  refine W.seq <| W.reg <| WL.p (.fa underlying31 rfl sizeOf3 (by decide) rfl) rfl <| WL.r (Rd.ld (isAgg3 _) rfl hkb1 rfl) rfl <| WL.c1 hb37 rfl rfl ((ref_DecT i _ m8.1 m8.2)) (fun w14 hw14 => ?_)
  have hB20 := btr hB9 hw14
  refine WL.p (.as rfl) rfl <| WL.nil <| ?_
  refine W.ret (W.ret1 rfl rfl ?_)
  first
  | (rw [if_pos (by assumption)] at hX; subst hX; exact ⟨rfl, hB20⟩)
  | (rw [if_neg (by omega), if_pos (by assumption), if_pos (by assumption)] at hX; subst hX; exact ⟨rfl, hB20⟩)
  | (rw [if_neg (by omega), if_pos (by assumption), if_neg (by assumption)] at hX; subst hX; exact ⟨rfl, hB20⟩)
  | (rw [if_neg (by omega), if_neg (by omega), if_pos (by assumption)] at hX; subst hX; exact ⟨rfl, hB20⟩)
  | (rw [if_neg (by omega), if_neg (by omega), if_neg (by omega), if_pos (by assumption)] at hX; subst hX; exact ⟨rfl, hB20⟩)
  | (rw [if_neg (by omega), if_neg (by omega), if_neg (by omega), if_neg (by omega), if_pos (by assumption)] at hX; subst hX; exact ⟨rfl, hB20⟩)
  | (rw [if_neg (by omega), if_neg (by omega), if_neg (by omega), if_neg (by omega), if_neg (by omega), if_pos (by assumption)] at hX; subst hX; exact ⟨rfl, hB20⟩)
  | (rw [if_neg (by omega), if_neg (by omega), if_neg (by omega), if_neg (by omega), if_neg (by omega), if_neg (by omega), if_pos (by assumption)] at hX; subst hX; exact ⟨rfl, hB20⟩)
  | exact ⟨ret_val (by rw [hX]; rfl), hB20⟩
  | exact ⟨ret_val (by rw [hX, if_pos (by assumption)]; simp), hB20⟩
  | exact ⟨ret_val (by rw [hX, if_neg (by assumption)]; simp [strmE]), hB20⟩
 have h13' := of_decide_eq_false h13
 refine W.seq <| W.reg <| WL.p (.eql rfl rfl) rfl <| WL.p (.as rfl) rfl <| WL.nil <| ?_
 refine W.cond rfl (fun h21 => ?_) (fun h21 => ?_)
 ·
  have h21' := of_decide_eq_true h21
  refine W.seq <| W.reg <| WL.p (.fa underlying31 rfl sizeOf3 (by decide) rfl) rfl <| WL.r (Rd.ld (isAgg3 _) rfl hkb1 rfl) rfl <| WL.c1 hb38 rfl rfl ((ref_PrintReal i _)) (fun w22 hw22 => ?_)
  have hB28 := btr hB9 hw22
  refine WL.p (.as rfl) rfl <| WL.nil <| ?_
  refine W.ret (W.ret1 rfl rfl ?_)
  first
  | (rw [if_pos (by assumption)] at hX; subst hX; exact ⟨rfl, hB28⟩)
  | (rw [if_neg (by omega), if_pos (by assumption), if_pos (by assumption)] at hX; subst hX; exact ⟨rfl, hB28⟩)
  | (rw [if_neg (by omega), if_pos (by assumption), if_neg (by assumption)] at hX; subst hX; exact ⟨rfl, hB28⟩)
  | (rw [if_neg (by omega), if_neg (by omega), if_pos (by assumption)] at hX; subst hX; exact ⟨rfl, hB28⟩)
  | (rw [if_neg (by omega), if_neg (by omega), if_neg (by omega), if_pos (by assumption)] at hX; subst hX; exact ⟨rfl, hB28⟩)
  | (rw [if_neg (by omega), if_neg (by omega), if_neg (by omega), if_neg (by omega), if_pos (by assumption)] at hX; subst hX; exact ⟨rfl, hB28⟩)
  | (rw [if_neg (by omega), if_neg (by omega), if_neg (by omega), if_neg (by omega), if_neg (by omega), if_pos (by assumption)] at hX; subst hX; exact ⟨rfl, hB28⟩)
  | (rw [if_neg (by omega), if_neg (by omega), if_neg (by omega), if_neg (by omega), if_neg (by omega), if_neg (by omega), if_pos (by assumption)] at hX; subst hX; exact ⟨rfl, hB28⟩)
  | exact ⟨ret_val (by rw [hX]; rfl), hB28⟩
  | exact ⟨ret_val (by rw [hX, if_pos (by assumption)]; simp), hB28⟩
  | exact ⟨ret_val (by rw [hX, if_neg (by assumption)]; simp [strmE]), hB28⟩
 have h21' := of_decide_eq_false h21
 refine W.seq <| W.reg <| WL.p (.eql rfl rfl) rfl <| WL.p (.as rfl) rfl <| WL.nil <| ?_
 refine W.cond rfl (fun h29 => ?_) (fun h29 => ?_)
 ·
  have h29' := of_decide_eq_true h29
  refine W.seq <| W.reg <| WL.p (.fa underlying31 rfl sizeOf9 (by decide) rfl) rfl <| WL.r (Rd.ld (isAgg9 _) rfl hkb1 rfl) rfl <| WL.c1 hb39 rfl rfl ((r18_NameA s _ (by omega))) (fun w30 hw30 => ?_)
  have hB36 := Drew.below hB9 hw30
  refine WL.p (.as rfl) rfl <| WL.nil <| ?_
  refine W.ret (W.ret1 rfl rfl ?_)
  first
  | (rw [if_pos (by assumption)] at hX; subst hX; exact ⟨rfl, hB36⟩)
  | (rw [if_neg (by omega), if_pos (by assumption), if_pos (by assumption)] at hX; subst hX; exact ⟨rfl, hB36⟩)
  | (rw [if_neg (by omega), if_pos (by assumption), if_neg (by assumption)] at hX; subst hX; exact ⟨rfl, hB36⟩)
  | (rw [if_neg (by omega), if_neg (by omega), if_pos (by assumption)] at hX; subst hX; exact ⟨rfl, hB36⟩)
  | (rw [if_neg (by omega), if_neg (by omega), if_neg (by omega), if_pos (by assumption)] at hX; subst hX; exact ⟨rfl, hB36⟩)
  | (rw [if_neg (by omega), if_neg (by omega), if_neg (by omega), if_neg (by omega), if_pos (by assumption)] at hX; subst hX; exact ⟨rfl, hB36⟩)
  | (rw [if_neg (by omega), if_neg (by omega), if_neg (by omega), if_neg (by omega), if_neg (by omega), if_pos (by assumption)] at hX; subst hX; exact ⟨rfl, hB36⟩)
  | (rw [if_neg (by omega), if_neg (by omega), if_neg (by omega), if_neg (by omega), if_neg (by omega), if_neg (by omega), if_pos (by assumption)] at hX; subst hX; exact ⟨rfl, hB36⟩)
  | exact ⟨ret_val (by rw [hX]; rfl), hB36⟩
  | exact ⟨ret_val (by rw [hX, if_pos (by assumption)]; simp), hB36⟩
  | exact ⟨ret_val (by rw [hX, if_neg (by assumption)]; simp [strmE]), hB36⟩
 have h29' := of_decide_eq_false h29
 refine W.seq <| W.reg <| WL.p (.eql rfl rfl) rfl <| WL.p (.as rfl) rfl <| WL.nil <| ?_
 refine W.cond rfl (fun h37 => ?_) (fun h37 => ?_)
 ·
  have h37' := of_decide_eq_true h37
  refine W.seq <| W.reg <| WL.p (.fa underlying31 rfl sizeOf9 (by decide) rfl) rfl <| WL.r (Rd.ld (isAgg9 _) rfl hkb1 rfl) rfl <| WL.c1 hb40 rfl rfl ((r18_TextA s _ (by omega))) (fun w38 hw38 => ?_)
  have hB44 := btr hB9 hw38
  refine WL.p (.as rfl) rfl <| WL.nil <| ?_
  refine W.ret (W.ret1 rfl rfl ?_)
  first
  | (rw [if_pos (by assumption)] at hX; subst hX; exact ⟨rfl, hB44⟩)
  | (rw [if_neg (by omega), if_pos (by assumption), if_pos (by assumption)] at hX; subst hX; exact ⟨rfl, hB44⟩)
  | (rw [if_neg (by omega), if_pos (by assumption), if_neg (by assumption)] at hX; subst hX; exact ⟨rfl, hB44⟩)
  | (rw [if_neg (by omega), if_neg (by omega), if_pos (by assumption)] at hX; subst hX; exact ⟨rfl, hB44⟩)
  | (rw [if_neg (by omega), if_neg (by omega), if_neg (by omega), if_pos (by assumption)] at hX; subst hX; exact ⟨rfl, hB44⟩)
  | (rw [if_neg (by omega), if_neg (by omega), if_neg (by omega), if_neg (by omega), if_pos (by assumption)] at hX; subst hX; exact ⟨rfl, hB44⟩)
  | (rw [if_neg (by omega), if_neg (by omega), if_neg (by omega), if_neg (by omega), if_neg (by omega), if_pos (by assumption)] at hX; subst hX; exact ⟨rfl, hB44⟩)
  | (rw [if_neg (by omega), if_neg (by omega), if_neg (by omega), if_neg (by omega), if_neg (by omega), if_neg (by omega), if_pos (by assumption)] at hX; subst hX; exact ⟨rfl, hB44⟩)
  | exact ⟨ret_val (by rw [hX]; rfl), hB44⟩
  | exact ⟨ret_val (by rw [hX, if_pos (by assumption)]; simp), hB44⟩
  | exact ⟨ret_val (by rw [hX, if_neg (by assumption)]; simp [strmE]), hB44⟩
 have h37' := of_decide_eq_false h37
 refine W.seq <| W.reg <| WL.p (.eql rfl rfl) rfl <| WL.p (.as rfl) rfl <| WL.nil <| ?_
 refine W.cond rfl (fun h45 => ?_) (fun h45 => ?_)
 ·
  have h45' := of_decide_eq_true h45
  refine W.seq <| W.reg <| WL.p (.fa underlying31 rfl sizeOf3 (by decide) rfl) rfl <| WL.r (Rd.ld (isAgg3 _) rfl hkb1 rfl) rfl <| WL.c1 hb37 rfl rfl ((ref_DecT i _ m8.1 m8.2)) (fun w46 hw46 => ?_)
  have hB52 := btr hB9 hw46
  refine WL.p (.cat rfl rfl (by have := decL_len i m8.1 m8.2; simp only [List.length_cons, List.length_nil]; omega)) rfl <| WL.p (.as rfl) rfl <| WL.nil <| ?_
  refine W.ret (W.ret1 rfl rfl ?_)
  first
  | (rw [if_pos (by assumption)] at hX; subst hX; exact ⟨rfl, hB52⟩)
  | (rw [if_neg (by omega), if_pos (by assumption), if_pos (by assumption)] at hX; subst hX; exact ⟨rfl, hB52⟩)
  | (rw [if_neg (by omega), if_pos (by assumption), if_neg (by assumption)] at hX; subst hX; exact ⟨rfl, hB52⟩)
  | (rw [if_neg (by omega), if_neg (by omega), if_pos (by assumption)] at hX; subst hX; exact ⟨rfl, hB52⟩)
  | (rw [if_neg (by omega), if_neg (by omega), if_neg (by omega), if_pos (by assumption)] at hX; subst hX; exact ⟨rfl, hB52⟩)
  | (rw [if_neg (by omega), if_neg (by omega), if_neg (by omega), if_neg (by omega), if_pos (by assumption)] at hX; subst hX; exact ⟨rfl, hB52⟩)
  | (rw [if_neg (by omega), if_neg (by omega), if_neg (by omega), if_neg (by omega), if_neg (by omega), if_pos (by assumption)] at hX; subst hX; exact ⟨rfl, hB52⟩)
  | (rw [if_neg (by omega), if_neg (by omega), if_neg (by omega), if_neg (by omega), if_neg (by omega), if_neg (by omega), if_pos (by assumption)] at hX; subst hX; exact ⟨rfl, hB52⟩)
  | exact ⟨ret_val (by rw [hX]; rfl), hB52⟩
  | exact ⟨ret_val (by rw [hX, if_pos (by assumption)]; simp), hB52⟩
  | exact ⟨ret_val (by rw [hX, if_neg (by assumption)]; simp [strmE]), hB52⟩
 have h45' := of_decide_eq_false h45
 refine W.seq <| W.reg <| WL.p (.eql rfl rfl) rfl <| WL.p (.as rfl) rfl <| WL.nil <| ?_
 refine W.cond rfl (fun h53 => ?_) (fun h53 => ?_)
 ·
  have h53' := of_decide_eq_true h53
  rw [if_neg (by omega), if_neg (by omega), if_neg (by omega), if_neg (by omega), if_neg (by omega), if_neg (by omega), if_neg (by omega), if_pos (by assumption)] at hX
  have hall := hsub1 (by omega)
  have hRl : R.length = 1 + ((prB list).drop 1).length + 1 := by rw [hX]; simp; omega
  refine W.seq <| W.reg <| WL.p (.as rfl) rfl <| WL.nil <| ?_
  refine W.seq <| W.seq <| W.reg <| WL.p (.as rfl) rfl <| WL.nil <| ?_
  refine W.block ?_
  refine W.loop (α := Nat) (fun t => [(1, .pointer (some ⟨b1, 0, none⟩)), (3, .string (bs (91 :: (prB (list.take t)).drop 1))), (4, .int .i64 (t : Int))]) (fun t w' => Below w.heap.size w w' ∧ Blk w' b1 #[.int .i64 k, .int .i64 i, .string (bs s), .slice kp keys.length kc, .slice lp cs.length lc, .slice dp data.length dc] 31 ∧ RowM acL w' lp cs ∧ AInv w' S cs list ∧ t ≤ cs.length) (fun t => cs.length - t) (0) ⟨rfl, rfl, rfl, trivial⟩ (⟨hB9, hkb1, hv5, hF2, Nat.zero_le _⟩) (fun t w1 hR => ?_)
  obtain ⟨i0, rfl⟩ : ∃ i, i = t := ⟨t, rfl⟩
  obtain ⟨hT1, hk1, hlx1, hf1, ht⟩ := hR
  refine W.seq <| W.seq <| W.reg <| WL.p (.mv rfl) rfl <| WL.p (.fa underlying31 rfl sizeOf29 (by decide) rfl) rfl <| WL.r (Rd.ld (isAgg29 _) rfl hk1 rfl) rfl <| WL.p (.lenS underlying29 rfl) rfl <| WL.p (.lss rfl rfl) rfl <| WL.nil <| ?_
  refine W.cond rfl (fun h54 => ?_) (fun h54 => ?_)
  ·
   have h54' := of_decide_eq_true h54
   refine W.skip <| W.seq <| W.block <| W.seq <| W.seq ?_
   have hle := prO_le list i0 (by omega)
   have hle2 := prB_take_le list i0 (by omega)
   have hd1 := drop1_snoc list i0 (by omega)
   refine W.reg <| WL.p (.mv rfl) rfl <| WL.p (.gtr rfl rfl) rfl <| WL.nil <| ?_
   refine W.cond rfl (fun h55 => ?_) (fun h55 => ?_)
   ·
    have h55' := of_decide_eq_true h55
    refine W.reg <| WL.p (.mv rfl) rfl <| WL.p (.cat rfl rfl (by simp only [List.length_append, List.length_cons, List.length_nil, List.length_drop] at *; omega)) rfl <| WL.p (.as rfl) rfl <| WL.nil <| ?_
    refine W.reg <| WL.p (.mv rfl) rfl <| WL.p (.fa underlying31 rfl sizeOf29 (by decide) rfl) rfl <| WL.r (Rd.ld (isAgg29 _) rfl hk1 rfl) rfl <| WL.p (.mv rfl) rfl <| WL.p (.ixm underlying29 sizeOf31 rfl rfl (hlx1.isp (by omega)) (i0) (rfl) (by omega)) rfl <| WL.r (Rd.ldS underlying31 rfl isz31 hlx1 (i0) (by omega) rfl) rfl <| WL.c1 hb17 rfl rfl ((ih (list[i0]'(by omega)) (hsz i0 (by omega)) _ S (D - 1) false _ ((hf1).sub i0 (by omega) (by omega)) (hall _ (List.getElem_mem _)) (by simp only [List.length_drop] at hRl; omega))) (fun w56 hw56 => ?_)
    have hF57 := AInv.same (w1 := w56) hf1 (fun k hk hl => hw56.block k hl)
    have hk58 := hk1.below hw56 hk1.lt
    have hv59 := RowM.below hlx1 hw56 (fun h0 => hlx1.lt h0)
    have hB60 := btr hT1 hw56
    refine WL.p (.cat rfl rfl (by simp only [List.length_append, List.length_cons, List.length_nil, List.length_drop] at *; omega)) rfl <| WL.p (.as rfl) rfl <| WL.nil <| ?_
    refine W.reg <| WL.p (.mv rfl) rfl <| WL.p (.iis (((i0 + 1 : Nat) : Int)) (.add rfl rfl (i64w (by omega))) (by omega)) rfl <| WL.p (.as rfl) rfl <| WL.nil <| ?_
    first
    | exact ⟨i0 + 1, ⟨rfl, lk_s rfl (by rw [hd1, if_neg (by omega)]; simp), rfl, trivial⟩, ⟨hB60, hk58, hv59, hF57, by ((try simp only) <;> omega)⟩, by ((try simp only) <;> omega)⟩
    | exact ⟨i0 + 1, ⟨rfl, lk_s rfl (by (obtain rfl : i0 = 0 := (by omega)); rw [hd1, if_pos rfl]; simp [prB]), rfl, trivial⟩, ⟨hB60, hk58, hv59, hF57, by ((try simp only) <;> omega)⟩, by ((try simp only) <;> omega)⟩
   have h55' := of_decide_eq_false h55
   refine W.skip <| W.reg <| WL.p (.mv rfl) rfl <| WL.p (.fa underlying31 rfl sizeOf29 (by decide) rfl) rfl <| WL.r (Rd.ld (isAgg29 _) rfl hk1 rfl) rfl <| WL.p (.mv rfl) rfl <| WL.p (.ixm underlying29 sizeOf31 rfl rfl (hlx1.isp (by omega)) (i0) (rfl) (by omega)) rfl <| WL.r (Rd.ldS underlying31 rfl isz31 hlx1 (i0) (by omega) rfl) rfl <| WL.c1 hb17 rfl rfl ((ih (list[i0]'(by omega)) (hsz i0 (by omega)) _ S (D - 1) false _ ((hf1).sub i0 (by omega) (by omega)) (hall _ (List.getElem_mem _)) (by simp only [List.length_drop] at hRl; omega))) (fun w61 hw61 => ?_)
   have hF62 := AInv.same (w1 := w61) hf1 (fun k hk hl => hw61.block k hl)
   have hk63 := hk1.below hw61 hk1.lt
   have hv64 := RowM.below hlx1 hw61 (fun h0 => hlx1.lt h0)
   have hB65 := btr hT1 hw61
   refine WL.p (.cat rfl rfl (by simp only [List.length_append, List.length_cons, List.length_nil, List.length_drop] at *; omega)) rfl <| WL.p (.as rfl) rfl <| WL.nil <| ?_
   refine W.reg <| WL.p (.mv rfl) rfl <| WL.p (.iis (((i0 + 1 : Nat) : Int)) (.add rfl rfl (i64w (by omega))) (by omega)) rfl <| WL.p (.as rfl) rfl <| WL.nil <| ?_
   first
   | exact ⟨i0 + 1, ⟨rfl, lk_s rfl (by rw [hd1, if_neg (by omega)]; simp), rfl, trivial⟩, ⟨hB65, hk63, hv64, hF62, by ((try simp only) <;> omega)⟩, by ((try simp only) <;> omega)⟩
   | exact ⟨i0 + 1, ⟨rfl, lk_s rfl (by (obtain rfl : i0 = 0 := (by omega)); rw [hd1, if_pos rfl]; simp [prB]), rfl, trivial⟩, ⟨hB65, hk63, hv64, hF62, by ((try simp only) <;> omega)⟩, by ((try simp only) <;> omega)⟩
  have h54' := of_decide_eq_false h54
  refine W.exit <| W.seq ?_
  have hti : list.take i0 = list := List.take_of_length_le (by omega)
  rw [hti]
  refine W.reg <| WL.p (.mv rfl) rfl <| WL.p (.cat rfl rfl (by simp only [List.length_append, List.length_cons, List.length_nil, List.length_drop] at *; omega)) rfl <| WL.p (.as rfl) rfl <| WL.nil <| ?_
  refine W.ret (W.ret1 rfl rfl ?_)
  first
  | (rw [if_pos (by assumption)] at hX; subst hX; exact ⟨rfl, hT1⟩)
  | (rw [if_neg (by omega), if_pos (by assumption), if_pos (by assumption)] at hX; subst hX; exact ⟨rfl, hT1⟩)
  | (rw [if_neg (by omega), if_pos (by assumption), if_neg (by assumption)] at hX; subst hX; exact ⟨rfl, hT1⟩)
  | (rw [if_neg (by omega), if_neg (by omega), if_pos (by assumption)] at hX; subst hX; exact ⟨rfl, hT1⟩)
  | (rw [if_neg (by omega), if_neg (by omega), if_neg (by omega), if_pos (by assumption)] at hX; subst hX; exact ⟨rfl, hT1⟩)
  | (rw [if_neg (by omega), if_neg (by omega), if_neg (by omega), if_neg (by omega), if_pos (by assumption)] at hX; subst hX; exact ⟨rfl, hT1⟩)
  | (rw [if_neg (by omega), if_neg (by omega), if_neg (by omega), if_neg (by omega), if_neg (by omega), if_pos (by assumption)] at hX; subst hX; exact ⟨rfl, hT1⟩)
  | (rw [if_neg (by omega), if_neg (by omega), if_neg (by omega), if_neg (by omega), if_neg (by omega), if_neg (by omega), if_pos (by assumption)] at hX; subst hX; exact ⟨rfl, hT1⟩)
  | exact ⟨ret_val (by rw [hX]; rfl), hT1⟩
  | exact ⟨ret_val (by rw [hX, if_pos (by assumption)]; simp), hT1⟩
  | exact ⟨ret_val (by rw [hX, if_neg (by assumption)]; simp [strmE]), hT1⟩
 have h53' := of_decide_eq_false h53
 rw [if_neg (by omega), if_neg (by omega), if_neg (by omega), if_neg (by omega), if_neg (by omega), if_neg (by omega), if_neg (by omega), if_neg (by assumption)] at hX
 have hk79 : k = 7 ∨ k = 9 := by omega
 have hall := hsub1 (by omega)
 have hkk := hkeys hk79
 have hRl : 2 + (prP keys list).length ≤ R.length := by rw [hX]; simp; omega
 refine W.skip <| W.seq <| W.reg <| WL.p (.as rfl) rfl <| WL.nil <| ?_
 refine W.seq <| W.seq <| W.reg <| WL.p (.as rfl) rfl <| WL.nil <| ?_
 refine W.block ?_
 refine W.loop (α := Nat) (fun t => [(1, .pointer (some ⟨b1, 0, none⟩)), (5, .string (bs (60 :: 60 :: prP (keys.take t) (list.take t)))), (6, .int .i64 (t : Int))]) (fun t w' => Below w.heap.size w w' ∧ Blk w' b1 #[.int .i64 k, .int .i64 i, .string (bs s), .slice kp keys.length kc, .slice lp cs.length lc, .slice dp data.length dc] 31 ∧ RowAt strV w' kp keys ∧ RowM acL w' lp cs ∧ BytesAt w' dp data ∧ AInv w' S cs list ∧ t ≤ cs.length) (fun t => cs.length - t) (0) ⟨rfl, rfl, rfl, trivial⟩ (⟨hB9, hkb1, hv3, hv5, hv7, hF2, Nat.zero_le _⟩) (fun t w1 hR => ?_)
 obtain ⟨i0, rfl⟩ : ∃ i, i = t := ⟨t, rfl⟩
 obtain ⟨hT1, hk1, hkx1, hlx1, hdx1, hf1, ht⟩ := hR
 have hkc : keys.length = cs.length := by omega
 refine W.seq <| W.seq <| W.reg <| WL.p (.mv rfl) rfl <| WL.p (.fa underlying31 rfl sizeOf28 (by decide) rfl) rfl <| WL.r (Rd.ld (isAgg28 _) rfl hk1 rfl) rfl <| WL.p (.lenS underlying28 rfl) rfl <| WL.p (.lss rfl rfl) rfl <| WL.nil <| ?_
 refine W.cond rfl (fun h66 => ?_) (fun h66 => ?_)
 ·
  have h66' := of_decide_eq_true h66
  refine W.skip <| W.seq <| W.block ?_
  have hpt := prP_take keys list i0 (by omega) (by omega)
  have hple := prP_le keys list i0 (by omega) (by omega)
  have hpl := congrArg List.length hpt
  simp only [List.length_append, List.length_cons] at hpl
  have hnm127 := (hkk.2 _ (List.getElem_mem (show i0 < keys.length by omega))).2.2
  refine W.regY 18 rfl mixed (fun w67 dw67 => ?_)
  have hF68 := AInv.same (w1 := w67) hf1 (fun k hk hl => (by obtain ⟨m, rfl⟩ := dw67; rfl))
  have hk69 := hk1.drew dw67
  have hv70 := hkx1.drew dw67
  have hv71 := hlx1.drew dw67
  have hv72 := hdx1.drew dw67
  have hB73 := Drew.below hT1 dw67
  refine WY.tk 0 rfl (.mv rfl) rfl ?_
  refine WY.tk 1 rfl (.cat rfl rfl (by simp only [List.length_append, List.length_cons, List.length_nil, List.length_drop] at *; omega)) rfl ?_
  refine WY.tk 2 rfl (.fa underlying31 rfl sizeOf28 (by decide) rfl) rfl ?_
  refine WY.tk 4 rfl (.mv rfl) rfl ?_
  refine WY.tk 10 rfl (.fa underlying31 rfl sizeOf29 (by decide) rfl) rfl ?_
  refine WY.tk 12 rfl (.mv rfl) rfl ?_
  refine WY.br2 3 rfl 11 rfl ?_ ?_
  ·
   skip
   refine WL.r (Rd.ld (isAgg28 _) rfl hk69 rfl) rfl <| WL.nil <| ?_
   refine WY.tk 5 rfl (.ixb underlying28 sizeOf9 rfl rfl (hv70.isp (by omega)) (i0) (rfl) (by omega)) rfl ?_
   refine WY.br2 6 rfl 11 rfl ?_ ?_
   ·
    skip
    refine WL.r (Rd.ldc (isAgg9 _) rfl (hv70.cells (i0) (by omega))) rfl <| WL.nil <| ?_
    refine WY.br2 7 rfl 11 rfl ?_ ?_
    ·
     skip
     refine WL.c1 hb39 rfl rfl ((r18_NameA (keys[i0]'(by omega)) _ (by omega))) (fun w74 hw74 => ?_)
     have hF75 := AInv.same (w1 := w74) hF68 (fun k hk hl => (by obtain ⟨m, rfl⟩ := hw74; rfl))
     have hk76 := hk69.drew hw74
     have hv77 := hv70.drew hw74
     have hv78 := hv71.drew hw74
     have hv79 := hv72.drew hw74
     have hB80 := Drew.below hB73 hw74
     refine WL.nil <| ?_
     refine WY.tk 8 rfl (.cat rfl rfl (by simp only [List.length_append, List.length_cons, List.length_nil, List.length_drop] at *; omega)) rfl ?_
     refine WY.tk 9 rfl (.cat rfl rfl (by simp only [List.length_append, List.length_cons, List.length_nil, List.length_drop] at *; omega)) rfl ?_
     refine WY.br1 11 rfl ?_
     refine WL.r (Rd.ld (isAgg29 _) rfl hk76 rfl) rfl <| WL.nil <| ?_
     refine WY.tk 13 rfl (.ixm underlying29 sizeOf31 rfl rfl (hv78.isp (by omega)) (i0) (rfl) (by omega)) rfl ?_
     refine WY.br1 14 rfl ?_
     refine WL.r (Rd.ldS underlying31 rfl isz31 hv78 (i0) (by omega) rfl) rfl <| WL.nil <| ?_
     refine WY.br1 15 rfl ?_
     refine WL.c1 hb17 rfl rfl ((ih (list[i0]'(by omega)) (hsz i0 (by omega)) _ S (D - 1) false _ ((hF75).sub i0 (by omega) (by omega)) (hall _ (List.getElem_mem _)) (by omega))) (fun w81 hw81 => ?_)
     have hF82 := AInv.same (w1 := w81) hF75 (fun k hk hl => hw81.block k hl)
     have hk83 := hk76.below hw81 hk76.lt
     have hv84 := RowAt.below hv77 hw81 (fun h0 => hv77.lt h0)
     have hv85 := RowM.below hv78 hw81 (fun h0 => hv78.lt h0)
     have hv86 := BytesAt.below hv79 hw81 (fun h0 => hv79.lt h0)
     have hB87 := btr hB80 hw81
     refine WL.nil <| ?_
     refine WY.tk 16 rfl (.cat rfl rfl (by simp only [List.length_append, List.length_cons, List.length_nil, List.length_drop] at *; omega)) rfl ?_
     refine WY.tk 17 rfl (.as rfl) rfl ?_
     refine WY.done (by kernel_rfl) ?_
     refine W.reg <| WL.p (.mv rfl) rfl <| WL.p (.iis (((i0 + 1 : Nat) : Int)) (.add rfl rfl (i64w (by omega))) (by omega)) rfl <| WL.p (.as rfl) rfl <| WL.nil <| ?_
     exact ⟨i0 + 1, ⟨rfl, lk_s rfl (by rw [hpt]; simp), rfl, trivial⟩, ⟨hB87, hk83, hv84, hv85, hv86, hF82, by ((try simp only) <;> omega)⟩, by ((try simp only) <;> omega)⟩
    refine WL.r (Rd.ld (isAgg29 _) rfl hk69 rfl) rfl <| WL.nil <| ?_
    refine WY.tk 13 rfl (.ixm underlying29 sizeOf31 rfl rfl (hv71.isp (by omega)) (i0) (rfl) (by omega)) rfl ?_
    refine WY.br2 7 rfl 14 rfl ?_ ?_
    ·
     skip
     refine WL.c1 hb39 rfl rfl ((r18_NameA (keys[i0]'(by omega)) _ (by omega))) (fun w88 hw88 => ?_)
     have hF89 := AInv.same (w1 := w88) hF68 (fun k hk hl => (by obtain ⟨m, rfl⟩ := hw88; rfl))
     have hk90 := hk69.drew hw88
     have hv91 := hv70.drew hw88
     have hv92 := hv71.drew hw88
     have hv93 := hv72.drew hw88
     have hB94 := Drew.below hB73 hw88
     refine WL.nil <| ?_
     refine WY.tk 8 rfl (.cat rfl rfl (by simp only [List.length_append, List.length_cons, List.length_nil, List.length_drop] at *; omega)) rfl ?_
     refine WY.tk 9 rfl (.cat rfl rfl (by simp only [List.length_append, List.length_cons, List.length_nil, List.length_drop] at *; omega)) rfl ?_
     refine WY.br1 14 rfl ?_
     refine WL.r (Rd.ldS underlying31 rfl isz31 hv92 (i0) (by omega) rfl) rfl <| WL.nil <| ?_
     refine WY.br1 15 rfl ?_
     refine WL.c1 hb17 rfl rfl ((ih (list[i0]'(by omega)) (hsz i0 (by omega)) _ S (D - 1) false _ ((hF89).sub i0 (by omega) (by omega)) (hall _ (List.getElem_mem _)) (by omega))) (fun w95 hw95 => ?_)
     have hF96 := AInv.same (w1 := w95) hF89 (fun k hk hl => hw95.block k hl)
     have hk97 := hk90.below hw95 hk90.lt
     have hv98 := RowAt.below hv91 hw95 (fun h0 => hv91.lt h0)
     have hv99 := RowM.below hv92 hw95 (fun h0 => hv92.lt h0)
     have hv100 := BytesAt.below hv93 hw95 (fun h0 => hv93.lt h0)
     have hB101 := btr hB94 hw95
     refine WL.nil <| ?_
     refine WY.tk 16 rfl (.cat rfl rfl (by simp only [List.length_append, List.length_cons, List.length_nil, List.length_drop] at *; omega)) rfl ?_
     refine WY.tk 17 rfl (.as rfl) rfl ?_
     refine WY.done (by kernel_rfl) ?_
     refine W.reg <| WL.p (.mv rfl) rfl <| WL.p (.iis (((i0 + 1 : Nat) : Int)) (.add rfl rfl (i64w (by omega))) (by omega)) rfl <| WL.p (.as rfl) rfl <| WL.nil <| ?_
     exact ⟨i0 + 1, ⟨rfl, lk_s rfl (by rw [hpt]; simp), rfl, trivial⟩, ⟨hB101, hk97, hv98, hv99, hv100, hF96, by ((try simp only) <;> omega)⟩, by ((try simp only) <;> omega)⟩
    refine WL.r (Rd.ldS underlying31 rfl isz31 hv71 (i0) (by omega) rfl) rfl <| WL.nil <| ?_
    refine WY.br1 7 rfl ?_
    refine WL.c1 hb39 rfl rfl ((r18_NameA (keys[i0]'(by omega)) _ (by omega))) (fun w102 hw102 => ?_)
    have hF103 := AInv.same (w1 := w102) hF68 (fun k hk hl => (by obtain ⟨m, rfl⟩ := hw102; rfl))
    have hk104 := hk69.drew hw102
    have hv105 := hv70.drew hw102
    have hv106 := hv71.drew hw102
    have hv107 := hv72.drew hw102
    have hB108 := Drew.below hB73 hw102
    refine WL.nil <| ?_
    refine WY.tk 8 rfl (.cat rfl rfl (by simp only [List.length_append, List.length_cons, List.length_nil, List.length_drop] at *; omega)) rfl ?_
    refine WY.tk 9 rfl (.cat rfl rfl (by simp only [List.length_append, List.length_cons, List.length_nil, List.length_drop] at *; omega)) rfl ?_
    refine WY.br1 15 rfl ?_
    refine WL.c1 hb17 rfl rfl ((ih (list[i0]'(by omega)) (hsz i0 (by omega)) _ S (D - 1) false _ ((hF103).sub i0 (by omega) (by omega)) (hall _ (List.getElem_mem _)) (by omega))) (fun w109 hw109 => ?_)
    have hF110 := AInv.same (w1 := w109) hF103 (fun k hk hl => hw109.block k hl)
    have hk111 := hk104.below hw109 hk104.lt
    have hv112 := RowAt.below hv105 hw109 (fun h0 => hv105.lt h0)
    have hv113 := RowM.below hv106 hw109 (fun h0 => hv106.lt h0)
    have hv114 := BytesAt.below hv107 hw109 (fun h0 => hv107.lt h0)
    have hB115 := btr hB108 hw109
    refine WL.nil <| ?_
    refine WY.tk 16 rfl (.cat rfl rfl (by simp only [List.length_append, List.length_cons, List.length_nil, List.length_drop] at *; omega)) rfl ?_
    refine WY.tk 17 rfl (.as rfl) rfl ?_
    refine WY.done (by kernel_rfl) ?_
    refine W.reg <| WL.p (.mv rfl) rfl <| WL.p (.iis (((i0 + 1 : Nat) : Int)) (.add rfl rfl (i64w (by omega))) (by omega)) rfl <| WL.p (.as rfl) rfl <| WL.nil <| ?_
    exact ⟨i0 + 1, ⟨rfl, lk_s rfl (by rw [hpt]; simp), rfl, trivial⟩, ⟨hB115, hk111, hv112, hv113, hv114, hF110, by ((try simp only) <;> omega)⟩, by ((try simp only) <;> omega)⟩
   refine WL.r (Rd.ld (isAgg29 _) rfl hk69 rfl) rfl <| WL.nil <| ?_
   refine WY.tk 13 rfl (.ixm underlying29 sizeOf31 rfl rfl (hv71.isp (by omega)) (i0) (rfl) (by omega)) rfl ?_
   refine WY.br2 6 rfl 14 rfl ?_ ?_
   ·
    skip
    refine WL.r (Rd.ldc (isAgg9 _) rfl (hv70.cells (i0) (by omega))) rfl <| WL.nil <| ?_
    refine WY.br2 7 rfl 14 rfl ?_ ?_
    ·
     skip
     refine WL.c1 hb39 rfl rfl ((r18_NameA (keys[i0]'(by omega)) _ (by omega))) (fun w116 hw116 => ?_)
     have hF117 := AInv.same (w1 := w116) hF68 (fun k hk hl => (by obtain ⟨m, rfl⟩ := hw116; rfl))
     have hk118 := hk69.drew hw116
     have hv119 := hv70.drew hw116
     have hv120 := hv71.drew hw116
     have hv121 := hv72.drew hw116
     have hB122 := Drew.below hB73 hw116
     refine WL.nil <| ?_
     refine WY.tk 8 rfl (.cat rfl rfl (by simp only [List.length_append, List.length_cons, List.length_nil, List.length_drop] at *; omega)) rfl ?_
     refine WY.tk 9 rfl (.cat rfl rfl (by simp only [List.length_append, List.length_cons, List.length_nil, List.length_drop] at *; omega)) rfl ?_
     refine WY.br1 14 rfl ?_
     refine WL.r (Rd.ldS underlying31 rfl isz31 hv120 (i0) (by omega) rfl) rfl <| WL.nil <| ?_
     refine WY.br1 15 rfl ?_
     refine WL.c1 hb17 rfl rfl ((ih (list[i0]'(by omega)) (hsz i0 (by omega)) _ S (D - 1) false _ ((hF117).sub i0 (by omega) (by omega)) (hall _ (List.getElem_mem _)) (by omega))) (fun w123 hw123 => ?_)
     have hF124 := AInv.same (w1 := w123) hF117 (fun k hk hl => hw123.block k hl)
     have hk125 := hk118.below hw123 hk118.lt
     have hv126 := RowAt.below hv119 hw123 (fun h0 => hv119.lt h0)
     have hv127 := RowM.below hv120 hw123 (fun h0 => hv120.lt h0)
     have hv128 := BytesAt.below hv121 hw123 (fun h0 => hv121.lt h0)
     have hB129 := btr hB122 hw123
     refine WL.nil <| ?_
     refine WY.tk 16 rfl (.cat rfl rfl (by simp only [List.length_append, List.length_cons, List.length_nil, List.length_drop] at *; omega)) rfl ?_
     refine WY.tk 17 rfl (.as rfl) rfl ?_
     refine WY.done (by kernel_rfl) ?_
     refine W.reg <| WL.p (.mv rfl) rfl <| WL.p (.iis (((i0 + 1 : Nat) : Int)) (.add rfl rfl (i64w (by omega))) (by omega)) rfl <| WL.p (.as rfl) rfl <| WL.nil <| ?_
     exact ⟨i0 + 1, ⟨rfl, lk_s rfl (by rw [hpt]; simp), rfl, trivial⟩, ⟨hB129, hk125, hv126, hv127, hv128, hF124, by ((try simp only) <;> omega)⟩, by ((try simp only) <;> omega)⟩
    refine WL.r (Rd.ldS underlying31 rfl isz31 hv71 (i0) (by omega) rfl) rfl <| WL.nil <| ?_
    refine WY.br1 7 rfl ?_
    refine WL.c1 hb39 rfl rfl ((r18_NameA (keys[i0]'(by omega)) _ (by omega))) (fun w130 hw130 => ?_)
    have hF131 := AInv.same (w1 := w130) hF68 (fun k hk hl => (by obtain ⟨m, rfl⟩ := hw130; rfl))
    have hk132 := hk69.drew hw130
    have hv133 := hv70.drew hw130
    have hv134 := hv71.drew hw130
    have hv135 := hv72.drew hw130
    have hB136 := Drew.below hB73 hw130
    refine WL.nil <| ?_
    refine WY.tk 8 rfl (.cat rfl rfl (by simp only [List.length_append, List.length_cons, List.length_nil, List.length_drop] at *; omega)) rfl ?_
    refine WY.tk 9 rfl (.cat rfl rfl (by simp only [List.length_append, List.length_cons, List.length_nil, List.length_drop] at *; omega)) rfl ?_
    refine WY.br1 15 rfl ?_
    refine WL.c1 hb17 rfl rfl ((ih (list[i0]'(by omega)) (hsz i0 (by omega)) _ S (D - 1) false _ ((hF131).sub i0 (by omega) (by omega)) (hall _ (List.getElem_mem _)) (by omega))) (fun w137 hw137 => ?_)
    have hF138 := AInv.same (w1 := w137) hF131 (fun k hk hl => hw137.block k hl)
    have hk139 := hk132.below hw137 hk132.lt
    have hv140 := RowAt.below hv133 hw137 (fun h0 => hv133.lt h0)
    have hv141 := RowM.below hv134 hw137 (fun h0 => hv134.lt h0)
    have hv142 := BytesAt.below hv135 hw137 (fun h0 => hv135.lt h0)
    have hB143 := btr hB136 hw137
    refine WL.nil <| ?_
    refine WY.tk 16 rfl (.cat rfl rfl (by simp only [List.length_append, List.length_cons, List.length_nil, List.length_drop] at *; omega)) rfl ?_
    refine WY.tk 17 rfl (.as rfl) rfl ?_
    refine WY.done (by kernel_rfl) ?_
    refine W.reg <| WL.p (.mv rfl) rfl <| WL.p (.iis (((i0 + 1 : Nat) : Int)) (.add rfl rfl (i64w (by omega))) (by omega)) rfl <| WL.p (.as rfl) rfl <| WL.nil <| ?_
    exact ⟨i0 + 1, ⟨rfl, lk_s rfl (by rw [hpt]; simp), rfl, trivial⟩, ⟨hB143, hk139, hv140, hv141, hv142, hF138, by ((try simp only) <;> omega)⟩, by ((try simp only) <;> omega)⟩
   refine WL.r (Rd.ldS underlying31 rfl isz31 hv71 (i0) (by omega) rfl) rfl <| WL.nil <| ?_
   refine WY.br1 6 rfl ?_
   refine WL.r (Rd.ldc (isAgg9 _) rfl (hv70.cells (i0) (by omega))) rfl <| WL.nil <| ?_
   refine WY.br1 7 rfl ?_
   refine WL.c1 hb39 rfl rfl ((r18_NameA (keys[i0]'(by omega)) _ (by omega))) (fun w144 hw144 => ?_)
   have hF145 := AInv.same (w1 := w144) hF68 (fun k hk hl => (by obtain ⟨m, rfl⟩ := hw144; rfl))
   have hk146 := hk69.drew hw144
   have hv147 := hv70.drew hw144
   have hv148 := hv71.drew hw144
   have hv149 := hv72.drew hw144
   have hB150 := Drew.below hB73 hw144
   refine WL.nil <| ?_
   refine WY.tk 8 rfl (.cat rfl rfl (by simp only [List.length_append, List.length_cons, List.length_nil, List.length_drop] at *; omega)) rfl ?_
   refine WY.tk 9 rfl (.cat rfl rfl (by simp only [List.length_append, List.length_cons, List.length_nil, List.length_drop] at *; omega)) rfl ?_
   refine WY.br1 15 rfl ?_
   refine WL.c1 hb17 rfl rfl ((ih (list[i0]'(by omega)) (hsz i0 (by omega)) _ S (D - 1) false _ ((hF145).sub i0 (by omega) (by omega)) (hall _ (List.getElem_mem _)) (by omega))) (fun w151 hw151 => ?_)
   have hF152 := AInv.same (w1 := w151) hF145 (fun k hk hl => hw151.block k hl)
   have hk153 := hk146.below hw151 hk146.lt
   have hv154 := RowAt.below hv147 hw151 (fun h0 => hv147.lt h0)
   have hv155 := RowM.below hv148 hw151 (fun h0 => hv148.lt h0)
   have hv156 := BytesAt.below hv149 hw151 (fun h0 => hv149.lt h0)
   have hB157 := btr hB150 hw151
   refine WL.nil <| ?_
   refine WY.tk 16 rfl (.cat rfl rfl (by simp only [List.length_append, List.length_cons, List.length_nil, List.length_drop] at *; omega)) rfl ?_
   refine WY.tk 17 rfl (.as rfl) rfl ?_
   refine WY.done (by kernel_rfl) ?_
   refine W.reg <| WL.p (.mv rfl) rfl <| WL.p (.iis (((i0 + 1 : Nat) : Int)) (.add rfl rfl (i64w (by omega))) (by omega)) rfl <| WL.p (.as rfl) rfl <| WL.nil <| ?_
   exact ⟨i0 + 1, ⟨rfl, lk_s rfl (by rw [hpt]; simp), rfl, trivial⟩, ⟨hB157, hk153, hv154, hv155, hv156, hF152, by ((try simp only) <;> omega)⟩, by ((try simp only) <;> omega)⟩
  refine WL.r (Rd.ld (isAgg29 _) rfl hk69 rfl) rfl <| WL.nil <| ?_
  refine WY.tk 13 rfl (.ixm underlying29 sizeOf31 rfl rfl (hv71.isp (by omega)) (i0) (rfl) (by omega)) rfl ?_
  refine WY.br2 3 rfl 14 rfl ?_ ?_
  ·
   skip
   refine WL.r (Rd.ld (isAgg28 _) rfl hk69 rfl) rfl <| WL.nil <| ?_
   refine WY.tk 5 rfl (.ixb underlying28 sizeOf9 rfl rfl (hv70.isp (by omega)) (i0) (rfl) (by omega)) rfl ?_
   refine WY.br2 6 rfl 14 rfl ?_ ?_
   ·
    skip
    refine WL.r (Rd.ldc (isAgg9 _) rfl (hv70.cells (i0) (by omega))) rfl <| WL.nil <| ?_
    refine WY.br2 7 rfl 14 rfl ?_ ?_
    ·
     skip
     refine WL.c1 hb39 rfl rfl ((r18_NameA (keys[i0]'(by omega)) _ (by omega))) (fun w158 hw158 => ?_)
     have hF159 := AInv.same (w1 := w158) hF68 (fun k hk hl => (by obtain ⟨m, rfl⟩ := hw158; rfl))
     have hk160 := hk69.drew hw158
     have hv161 := hv70.drew hw158
     have hv162 := hv71.drew hw158
     have hv163 := hv72.drew hw158
     have hB164 := Drew.below hB73 hw158
     refine WL.nil <| ?_
     refine WY.tk 8 rfl (.cat rfl rfl (by simp only [List.length_append, List.length_cons, List.length_nil, List.length_drop] at *; omega)) rfl ?_
     refine WY.tk 9 rfl (.cat rfl rfl (by simp only [List.length_append, List.length_cons, List.length_nil, List.length_drop] at *; omega)) rfl ?_
     refine WY.br1 14 rfl ?_
     refine WL.r (Rd.ldS underlying31 rfl isz31 hv162 (i0) (by omega) rfl) rfl <| WL.nil <| ?_
     refine WY.br1 15 rfl ?_
     refine WL.c1 hb17 rfl rfl ((ih (list[i0]'(by omega)) (hsz i0 (by omega)) _ S (D - 1) false _ ((hF159).sub i0 (by omega) (by omega)) (hall _ (List.getElem_mem _)) (by omega))) (fun w165 hw165 => ?_)
     have hF166 := AInv.same (w1 := w165) hF159 (fun k hk hl => hw165.block k hl)
     have hk167 := hk160.below hw165 hk160.lt
     have hv168 := RowAt.below hv161 hw165 (fun h0 => hv161.lt h0)
     have hv169 := RowM.below hv162 hw165 (fun h0 => hv162.lt h0)
     have hv170 := BytesAt.below hv163 hw165 (fun h0 => hv163.lt h0)
     have hB171 := btr hB164 hw165
     refine WL.nil <| ?_
     refine WY.tk 16 rfl (.cat rfl rfl (by simp only [List.length_append, List.length_cons, List.length_nil, List.length_drop] at *; omega)) rfl ?_
     refine WY.tk 17 rfl (.as rfl) rfl ?_
     refine WY.done (by kernel_rfl) ?_
     refine W.reg <| WL.p (.mv rfl) rfl <| WL.p (.iis (((i0 + 1 : Nat) : Int)) (.add rfl rfl (i64w (by omega))) (by omega)) rfl <| WL.p (.as rfl) rfl <| WL.nil <| ?_
     exact ⟨i0 + 1, ⟨rfl, lk_s rfl (by rw [hpt]; simp), rfl, trivial⟩, ⟨hB171, hk167, hv168, hv169, hv170, hF166, by ((try simp only) <;> omega)⟩, by ((try simp only) <;> omega)⟩
    refine WL.r (Rd.ldS underlying31 rfl isz31 hv71 (i0) (by omega) rfl) rfl <| WL.nil <| ?_
    refine WY.br1 7 rfl ?_
    refine WL.c1 hb39 rfl rfl ((r18_NameA (keys[i0]'(by omega)) _ (by omega))) (fun w172 hw172 => ?_)
    have hF173 := AInv.same (w1 := w172) hF68 (fun k hk hl => (by obtain ⟨m, rfl⟩ := hw172; rfl))
    have hk174 := hk69.drew hw172
    have hv175 := hv70.drew hw172
    have hv176 := hv71.drew hw172
    have hv177 := hv72.drew hw172
    have hB178 := Drew.below hB73 hw172
    refine WL.nil <| ?_
    refine WY.tk 8 rfl (.cat rfl rfl (by simp only [List.length_append, List.length_cons, List.length_nil, List.length_drop] at *; omega)) rfl ?_
    refine WY.tk 9 rfl (.cat rfl rfl (by simp only [List.length_append, List.length_cons, List.length_nil, List.length_drop] at *; omega)) rfl ?_
    refine WY.br1 15 rfl ?_
    refine WL.c1 hb17 rfl rfl ((ih (list[i0]'(by omega)) (hsz i0 (by omega)) _ S (D - 1) false _ ((hF173).sub i0 (by omega) (by omega)) (hall _ (List.getElem_mem _)) (by omega))) (fun w179 hw179 => ?_)
    have hF180 := AInv.same (w1 := w179) hF173 (fun k hk hl => hw179.block k hl)
    have hk181 := hk174.below hw179 hk174.lt
    have hv182 := RowAt.below hv175 hw179 (fun h0 => hv175.lt h0)
    have hv183 := RowM.below hv176 hw179 (fun h0 => hv176.lt h0)
    have hv184 := BytesAt.below hv177 hw179 (fun h0 => hv177.lt h0)
    have hB185 := btr hB178 hw179
    refine WL.nil <| ?_
    refine WY.tk 16 rfl (.cat rfl rfl (by simp only [List.length_append, List.length_cons, List.length_nil, List.length_drop] at *; omega)) rfl ?_
    refine WY.tk 17 rfl (.as rfl) rfl ?_
    refine WY.done (by kernel_rfl) ?_
    refine W.reg <| WL.p (.mv rfl) rfl <| WL.p (.iis (((i0 + 1 : Nat) : Int)) (.add rfl rfl (i64w (by omega))) (by omega)) rfl <| WL.p (.as rfl) rfl <| WL.nil <| ?_
    exact ⟨i0 + 1, ⟨rfl, lk_s rfl (by rw [hpt]; simp), rfl, trivial⟩, ⟨hB185, hk181, hv182, hv183, hv184, hF180, by ((try simp only) <;> omega)⟩, by ((try simp only) <;> omega)⟩
   refine WL.r (Rd.ldS underlying31 rfl isz31 hv71 (i0) (by omega) rfl) rfl <| WL.nil <| ?_
   refine WY.br1 6 rfl ?_
   refine WL.r (Rd.ldc (isAgg9 _) rfl (hv70.cells (i0) (by omega))) rfl <| WL.nil <| ?_
   refine WY.br1 7 rfl ?_
   refine WL.c1 hb39 rfl rfl ((r18_NameA (keys[i0]'(by omega)) _ (by omega))) (fun w186 hw186 => ?_)
   have hF187 := AInv.same (w1 := w186) hF68 (fun k hk hl => (by obtain ⟨m, rfl⟩ := hw186; rfl))
   have hk188 := hk69.drew hw186
   have hv189 := hv70.drew hw186
   have hv190 := hv71.drew hw186
   have hv191 := hv72.drew hw186
   have hB192 := Drew.below hB73 hw186
   refine WL.nil <| ?_
   refine WY.tk 8 rfl (.cat rfl rfl (by simp only [List.length_append, List.length_cons, List.length_nil, List.length_drop] at *; omega)) rfl ?_
   refine WY.tk 9 rfl (.cat rfl rfl (by simp only [List.length_append, List.length_cons, List.length_nil, List.length_drop] at *; omega)) rfl ?_
   refine WY.br1 15 rfl ?_
   refine WL.c1 hb17 rfl rfl ((ih (list[i0]'(by omega)) (hsz i0 (by omega)) _ S (D - 1) false _ ((hF187).sub i0 (by omega) (by omega)) (hall _ (List.getElem_mem _)) (by omega))) (fun w193 hw193 => ?_)
   have hF194 := AInv.same (w1 := w193) hF187 (fun k hk hl => hw193.block k hl)
   have hk195 := hk188.below hw193 hk188.lt
   have hv196 := RowAt.below hv189 hw193 (fun h0 => hv189.lt h0)
   have hv197 := RowM.below hv190 hw193 (fun h0 => hv190.lt h0)
   have hv198 := BytesAt.below hv191 hw193 (fun h0 => hv191.lt h0)
   have hB199 := btr hB192 hw193
   refine WL.nil <| ?_
   refine WY.tk 16 rfl (.cat rfl rfl (by simp only [List.length_append, List.length_cons, List.length_nil, List.length_drop] at *; omega)) rfl ?_
   refine WY.tk 17 rfl (.as rfl) rfl ?_
   refine WY.done (by kernel_rfl) ?_
   refine W.reg <| WL.p (.mv rfl) rfl <| WL.p (.iis (((i0 + 1 : Nat) : Int)) (.add rfl rfl (i64w (by omega))) (by omega)) rfl <| WL.p (.as rfl) rfl <| WL.nil <| ?_
   exact ⟨i0 + 1, ⟨rfl, lk_s rfl (by rw [hpt]; simp), rfl, trivial⟩, ⟨hB199, hk195, hv196, hv197, hv198, hF194, by ((try simp only) <;> omega)⟩, by ((try simp only) <;> omega)⟩
  refine WL.r (Rd.ldS underlying31 rfl isz31 hv71 (i0) (by omega) rfl) rfl <| WL.nil <| ?_
  refine WY.br1 3 rfl ?_
  refine WL.r (Rd.ld (isAgg28 _) rfl hk69 rfl) rfl <| WL.nil <| ?_
  refine WY.tk 5 rfl (.ixb underlying28 sizeOf9 rfl rfl (hv70.isp (by omega)) (i0) (rfl) (by omega)) rfl ?_
  refine WY.br1 6 rfl ?_
  refine WL.r (Rd.ldc (isAgg9 _) rfl (hv70.cells (i0) (by omega))) rfl <| WL.nil <| ?_
  refine WY.br1 7 rfl ?_
  refine WL.c1 hb39 rfl rfl ((r18_NameA (keys[i0]'(by omega)) _ (by omega))) (fun w200 hw200 => ?_)
  have hF201 := AInv.same (w1 := w200) hF68 (fun k hk hl => (by obtain ⟨m, rfl⟩ := hw200; rfl))
  have hk202 := hk69.drew hw200
  have hv203 := hv70.drew hw200
  have hv204 := hv71.drew hw200
  have hv205 := hv72.drew hw200
  have hB206 := Drew.below hB73 hw200
  refine WL.nil <| ?_
  refine WY.tk 8 rfl (.cat rfl rfl (by simp only [List.length_append, List.length_cons, List.length_nil, List.length_drop] at *; omega)) rfl ?_
  refine WY.tk 9 rfl (.cat rfl rfl (by simp only [List.length_append, List.length_cons, List.length_nil, List.length_drop] at *; omega)) rfl ?_
  refine WY.br1 15 rfl ?_
  refine WL.c1 hb17 rfl rfl ((ih (list[i0]'(by omega)) (hsz i0 (by omega)) _ S (D - 1) false _ ((hF201).sub i0 (by omega) (by omega)) (hall _ (List.getElem_mem _)) (by omega))) (fun w207 hw207 => ?_)
  have hF208 := AInv.same (w1 := w207) hF201 (fun k hk hl => hw207.block k hl)
  have hk209 := hk202.below hw207 hk202.lt
  have hv210 := RowAt.below hv203 hw207 (fun h0 => hv203.lt h0)
  have hv211 := RowM.below hv204 hw207 (fun h0 => hv204.lt h0)
  have hv212 := BytesAt.below hv205 hw207 (fun h0 => hv205.lt h0)
  have hB213 := btr hB206 hw207
  refine WL.nil <| ?_
  refine WY.tk 16 rfl (.cat rfl rfl (by simp only [List.length_append, List.length_cons, List.length_nil, List.length_drop] at *; omega)) rfl ?_
  refine WY.tk 17 rfl (.as rfl) rfl ?_
  refine WY.done (by kernel_rfl) ?_
  refine W.reg <| WL.p (.mv rfl) rfl <| WL.p (.iis (((i0 + 1 : Nat) : Int)) (.add rfl rfl (i64w (by omega))) (by omega)) rfl <| WL.p (.as rfl) rfl <| WL.nil <| ?_
  exact ⟨i0 + 1, ⟨rfl, lk_s rfl (by rw [hpt]; simp), rfl, trivial⟩, ⟨hB213, hk209, hv210, hv211, hv212, hF208, by ((try simp only) <;> omega)⟩, by ((try simp only) <;> omega)⟩
 have h66' := of_decide_eq_false h66
 refine W.exit <| W.seq <| W.seq ?_
 have hti : list.take i0 = list := List.take_of_length_le (by omega)
 have hti2 : keys.take i0 = keys := List.take_of_length_le (by omega)
 rw [hti, hti2]
 refine W.reg <| WL.p (.fa underlying31 rfl sizeOf3 (by decide) rfl) rfl <| WL.r (Rd.ld (isAgg3 _) rfl hk1 rfl) rfl <| WL.p (.eql rfl rfl) rfl <| WL.nil <| ?_
 refine W.cond rfl (fun h214 => ?_) (fun h214 => ?_)
 ·
  have h214' := of_decide_eq_true h214
  refine W.seq <| W.reg <| WL.p (.mv rfl) rfl <| WL.p (.cat rfl rfl (by simp only [List.length_append, List.length_cons, List.length_nil, List.length_drop] at *; omega)) rfl <| WL.p (.as rfl) rfl <| WL.nil <| ?_
  refine W.ret (W.ret1 rfl rfl ?_)
  first
  | (rw [if_pos (by assumption)] at hX; subst hX; exact ⟨rfl, hT1⟩)
  | (rw [if_neg (by omega), if_pos (by assumption), if_pos (by assumption)] at hX; subst hX; exact ⟨rfl, hT1⟩)
  | (rw [if_neg (by omega), if_pos (by assumption), if_neg (by assumption)] at hX; subst hX; exact ⟨rfl, hT1⟩)
  | (rw [if_neg (by omega), if_neg (by omega), if_pos (by assumption)] at hX; subst hX; exact ⟨rfl, hT1⟩)
  | (rw [if_neg (by omega), if_neg (by omega), if_neg (by omega), if_pos (by assumption)] at hX; subst hX; exact ⟨rfl, hT1⟩)
  | (rw [if_neg (by omega), if_neg (by omega), if_neg (by omega), if_neg (by omega), if_pos (by assumption)] at hX; subst hX; exact ⟨rfl, hT1⟩)
  | (rw [if_neg (by omega), if_neg (by omega), if_neg (by omega), if_neg (by omega), if_neg (by omega), if_pos (by assumption)] at hX; subst hX; exact ⟨rfl, hT1⟩)
  | (rw [if_neg (by omega), if_neg (by omega), if_neg (by omega), if_neg (by omega), if_neg (by omega), if_neg (by omega), if_pos (by assumption)] at hX; subst hX; exact ⟨rfl, hT1⟩)
  | exact ⟨ret_val (by rw [hX]; rfl), hT1⟩
  | exact ⟨ret_val (by rw [hX, if_pos (by assumption)]; simp), hT1⟩
  | exact ⟨ret_val (by rw [hX, if_neg (by assumption)]; simp [strmE]), hT1⟩
 have h214' := of_decide_eq_false h214
 refine W.skip <| W.seq ?_
 have hdl := decL_len (data.length : Int) (by omega) (by omega)
 refine W.regY 14 rfl mixed (fun w215 dw215 => ?_)
 have hk217 := hk1.drew dw215
 have hv220 := hdx1.drew dw215
 have hB221 := Drew.below hT1 dw215
 refine WY.tk 0 rfl (.mv rfl) rfl ?_
 refine WY.tk 1 rfl (.cat rfl rfl (by simp only [List.length_append, List.length_cons, List.length_nil, List.length_drop] at *; omega)) rfl ?_
 refine WY.tk 2 rfl (.fa underlying31 rfl sizeOf22 (by decide) rfl) rfl ?_
 refine WY.tk 8 rfl (.fa underlying31 rfl sizeOf22 (by decide) rfl) rfl ?_
 refine WY.br2 3 rfl 9 rfl ?_ ?_
 ·
  skip
  refine WL.r (Rd.ld (isAgg22 _) rfl hk217 rfl) rfl <| WL.nil <| ?_
  refine WY.tk 4 rfl (.lenS underlying22 rfl) rfl ?_
  refine WY.br2 5 rfl 9 rfl ?_ ?_
  ·
   skip
   refine WL.c1 hb37 rfl rfl ((ref_DecT _ _ (by omega) (by omega))) (fun w222 hw222 => ?_)
   have hk224 := hk217.below hw222 hk217.lt
   have hv227 := BytesAt.below hv220 hw222 (fun h0 => hv220.lt h0)
   have hB228 := btr hB221 hw222
   refine WL.nil <| ?_
   refine WY.tk 6 rfl (.cat rfl rfl (by simp only [List.length_append, List.length_cons, List.length_nil, List.length_drop] at *; omega)) rfl ?_
   refine WY.tk 7 rfl (.cat rfl rfl (by simp only [List.length_append, List.length_cons, List.length_nil, List.length_drop] at *; omega)) rfl ?_
   refine WY.br1 9 rfl ?_
   refine WL.r (Rd.ld (isAgg22 _) rfl hk224 rfl) rfl <| WL.nil <| ?_
   refine WY.br1 10 rfl ?_
   refine WL.r (Rd.b2s (l := data) underlying22 underlying5 underlying9 rfl (hv227)) rfl <| WL.nil <| ?_
   refine WY.tk 11 rfl (.cat rfl rfl (by simp only [List.length_append, List.length_cons, List.length_nil, List.length_drop] at *; omega)) rfl ?_
   refine WY.tk 12 rfl (.cat rfl rfl (by simp only [List.length_append, List.length_cons, List.length_nil, List.length_drop] at *; omega)) rfl ?_
   refine WY.tk 13 rfl (.as rfl) rfl ?_
   refine WY.done (by kernel_rfl) ?_
   refine W.ret (W.ret1 rfl rfl ?_)
   first
   | (rw [if_pos (by assumption)] at hX; subst hX; exact ⟨rfl, hB228⟩)
   | (rw [if_neg (by omega), if_pos (by assumption), if_pos (by assumption)] at hX; subst hX; exact ⟨rfl, hB228⟩)
   | (rw [if_neg (by omega), if_pos (by assumption), if_neg (by assumption)] at hX; subst hX; exact ⟨rfl, hB228⟩)
   | (rw [if_neg (by omega), if_neg (by omega), if_pos (by assumption)] at hX; subst hX; exact ⟨rfl, hB228⟩)
   | (rw [if_neg (by omega), if_neg (by omega), if_neg (by omega), if_pos (by assumption)] at hX; subst hX; exact ⟨rfl, hB228⟩)
   | (rw [if_neg (by omega), if_neg (by omega), if_neg (by omega), if_neg (by omega), if_pos (by assumption)] at hX; subst hX; exact ⟨rfl, hB228⟩)
   | (rw [if_neg (by omega), if_neg (by omega), if_neg (by omega), if_neg (by omega), if_neg (by omega), if_pos (by assumption)] at hX; subst hX; exact ⟨rfl, hB228⟩)
   | (rw [if_neg (by omega), if_neg (by omega), if_neg (by omega), if_neg (by omega), if_neg (by omega), if_neg (by omega), if_pos (by assumption)] at hX; subst hX; exact ⟨rfl, hB228⟩)
   | exact ⟨ret_val (by rw [hX]; rfl), hB228⟩
   | exact ⟨ret_val (by rw [hX, if_pos (by assumption)]; simp), hB228⟩
   | exact ⟨ret_val (by rw [hX, if_neg (by assumption)]; simp [strmE]), hB228⟩
  refine WL.r (Rd.ld (isAgg22 _) rfl hk217 rfl) rfl <| WL.nil <| ?_
  refine WY.br2 5 rfl 10 rfl ?_ ?_
  ·
   skip
   refine WL.c1 hb37 rfl rfl ((ref_DecT _ _ (by omega) (by omega))) (fun w229 hw229 => ?_)
   have hv234 := BytesAt.below hv220 hw229 (fun h0 => hv220.lt h0)
   have hB235 := btr hB221 hw229
   refine WL.nil <| ?_
   refine WY.tk 6 rfl (.cat rfl rfl (by simp only [List.length_append, List.length_cons, List.length_nil, List.length_drop] at *; omega)) rfl ?_
   refine WY.tk 7 rfl (.cat rfl rfl (by simp only [List.length_append, List.length_cons, List.length_nil, List.length_drop] at *; omega)) rfl ?_
   refine WY.br1 10 rfl ?_
   refine WL.r (Rd.b2s (l := data) underlying22 underlying5 underlying9 rfl (hv234)) rfl <| WL.nil <| ?_
   refine WY.tk 11 rfl (.cat rfl rfl (by simp only [List.length_append, List.length_cons, List.length_nil, List.length_drop] at *; omega)) rfl ?_
   refine WY.tk 12 rfl (.cat rfl rfl (by simp only [List.length_append, List.length_cons, List.length_nil, List.length_drop] at *; omega)) rfl ?_
   refine WY.tk 13 rfl (.as rfl) rfl ?_
   refine WY.done (by kernel_rfl) ?_
   refine W.ret (W.ret1 rfl rfl ?_)
   first
   | (rw [if_pos (by assumption)] at hX; subst hX; exact ⟨rfl, hB235⟩)
   | (rw [if_neg (by omega), if_pos (by assumption), if_pos (by assumption)] at hX; subst hX; exact ⟨rfl, hB235⟩)
   | (rw [if_neg (by omega), if_pos (by assumption), if_neg (by assumption)] at hX; subst hX; exact ⟨rfl, hB235⟩)
   | (rw [if_neg (by omega), if_neg (by omega), if_pos (by assumption)] at hX; subst hX; exact ⟨rfl, hB235⟩)
   | (rw [if_neg (by omega), if_neg (by omega), if_neg (by omega), if_pos (by assumption)] at hX; subst hX; exact ⟨rfl, hB235⟩)
   | (rw [if_neg (by omega), if_neg (by omega), if_neg (by omega), if_neg (by omega), if_pos (by assumption)] at hX; subst hX; exact ⟨rfl, hB235⟩)
   | (rw [if_neg (by omega), if_neg (by omega), if_neg (by omega), if_neg (by omega), if_neg (by omega), if_pos (by assumption)] at hX; subst hX; exact ⟨rfl, hB235⟩)
   | (rw [if_neg (by omega), if_neg (by omega), if_neg (by omega), if_neg (by omega), if_neg (by omega), if_neg (by omega), if_pos (by assumption)] at hX; subst hX; exact ⟨rfl, hB235⟩)
   | exact ⟨ret_val (by rw [hX]; rfl), hB235⟩
   | exact ⟨ret_val (by rw [hX, if_pos (by assumption)]; simp), hB235⟩
   | exact ⟨ret_val (by rw [hX, if_neg (by assumption)]; simp [strmE]), hB235⟩
  refine WL.r (Rd.b2s (l := data) underlying22 underlying5 underlying9 rfl (hv220)) rfl <| WL.nil <| ?_
  refine WY.br1 5 rfl ?_
  refine WL.c1 hb37 rfl rfl ((ref_DecT _ _ (by omega) (by omega))) (fun w236 hw236 => ?_)
  have hB242 := btr hB221 hw236
  refine WL.nil <| ?_
  refine WY.tk 6 rfl (.cat rfl rfl (by simp only [List.length_append, List.length_cons, List.length_nil, List.length_drop] at *; omega)) rfl ?_
  refine WY.tk 7 rfl (.cat rfl rfl (by simp only [List.length_append, List.length_cons, List.length_nil, List.length_drop] at *; omega)) rfl ?_
  refine WY.tk 11 rfl (.cat rfl rfl (by simp only [List.length_append, List.length_cons, List.length_nil, List.length_drop] at *; omega)) rfl ?_
  refine WY.tk 12 rfl (.cat rfl rfl (by simp only [List.length_append, List.length_cons, List.length_nil, List.length_drop] at *; omega)) rfl ?_
  refine WY.tk 13 rfl (.as rfl) rfl ?_
  refine WY.done (by kernel_rfl) ?_
  refine W.ret (W.ret1 rfl rfl ?_)
  first
  | (rw [if_pos (by assumption)] at hX; subst hX; exact ⟨rfl, hB242⟩)
  | (rw [if_neg (by omega), if_pos (by assumption), if_pos (by assumption)] at hX; subst hX; exact ⟨rfl, hB242⟩)
  | (rw [if_neg (by omega), if_pos (by assumption), if_neg (by assumption)] at hX; subst hX; exact ⟨rfl, hB242⟩)
  | (rw [if_neg (by omega), if_neg (by omega), if_pos (by assumption)] at hX; subst hX; exact ⟨rfl, hB242⟩)
  | (rw [if_neg (by omega), if_neg (by omega), if_neg (by omega), if_pos (by assumption)] at hX; subst hX; exact ⟨rfl, hB242⟩)
  | (rw [if_neg (by omega), if_neg (by omega), if_neg (by omega), if_neg (by omega), if_pos (by assumption)] at hX; subst hX; exact ⟨rfl, hB242⟩)
  | (rw [if_neg (by omega), if_neg (by omega), if_neg (by omega), if_neg (by omega), if_neg (by omega), if_pos (by assumption)] at hX; subst hX; exact ⟨rfl, hB242⟩)
  | (rw [if_neg (by omega), if_neg (by omega), if_neg (by omega), if_neg (by omega), if_neg (by omega), if_neg (by omega), if_pos (by assumption)] at hX; subst hX; exact ⟨rfl, hB242⟩)
  | exact ⟨ret_val (by rw [hX]; rfl), hB242⟩
  | exact ⟨ret_val (by rw [hX, if_pos (by assumption)]; simp), hB242⟩
  | exact ⟨ret_val (by rw [hX, if_neg (by assumption)]; simp [strmE]), hB242⟩
 refine WL.r (Rd.ld (isAgg22 _) rfl hk217 rfl) rfl <| WL.nil <| ?_
 refine WY.br2 3 rfl 10 rfl ?_ ?_
 ·
  skip
  refine WL.r (Rd.ld (isAgg22 _) rfl hk217 rfl) rfl <| WL.nil <| ?_
  refine WY.tk 4 rfl (.lenS underlying22 rfl) rfl ?_
  refine WY.br2 5 rfl 10 rfl ?_ ?_
  ·
   skip
   refine WL.c1 hb37 rfl rfl ((ref_DecT _ _ (by omega) (by omega))) (fun w243 hw243 => ?_)
   have hv248 := BytesAt.below hv220 hw243 (fun h0 => hv220.lt h0)
   have hB249 := btr hB221 hw243
   refine WL.nil <| ?_
   refine WY.tk 6 rfl (.cat rfl rfl (by simp only [List.length_append, List.length_cons, List.length_nil, List.length_drop] at *; omega)) rfl ?_
   refine WY.tk 7 rfl (.cat rfl rfl (by simp only [List.length_append, List.length_cons, List.length_nil, List.length_drop] at *; omega)) rfl ?_
   refine WY.br1 10 rfl ?_
   refine WL.r (Rd.b2s (l := data) underlying22 underlying5 underlying9 rfl (hv248)) rfl <| WL.nil <| ?_
   refine WY.tk 11 rfl (.cat rfl rfl (by simp only [List.length_append, List.length_cons, List.length_nil, List.length_drop] at *; omega)) rfl ?_
   refine WY.tk 12 rfl (.cat rfl rfl (by simp only [List.length_append, List.length_cons, List.length_nil, List.length_drop] at *; omega)) rfl ?_
   refine WY.tk 13 rfl (.as rfl) rfl ?_
   refine WY.done (by kernel_rfl) ?_
   refine W.ret (W.ret1 rfl rfl ?_)
   first
   | (rw [if_pos (by assumption)] at hX; subst hX; exact ⟨rfl, hB249⟩)
   | (rw [if_neg (by omega), if_pos (by assumption), if_pos (by assumption)] at hX; subst hX; exact ⟨rfl, hB249⟩)
   | (rw [if_neg (by omega), if_pos (by assumption), if_neg (by assumption)] at hX; subst hX; exact ⟨rfl, hB249⟩)
   | (rw [if_neg (by omega), if_neg (by omega), if_pos (by assumption)] at hX; subst hX; exact ⟨rfl, hB249⟩)
   | (rw [if_neg (by omega), if_neg (by omega), if_neg (by omega), if_pos (by assumption)] at hX; subst hX; exact ⟨rfl, hB249⟩)
   | (rw [if_neg (by omega), if_neg (by omega), if_neg (by omega), if_neg (by omega), if_pos (by assumption)] at hX; subst hX; exact ⟨rfl, hB249⟩)
   | (rw [if_neg (by omega), if_neg (by omega), if_neg (by omega), if_neg (by omega), if_neg (by omega), if_pos (by assumption)] at hX; subst hX; exact ⟨rfl, hB249⟩)
   | (rw [if_neg (by omega), if_neg (by omega), if_neg (by omega), if_neg (by omega), if_neg (by omega), if_neg (by omega), if_pos (by assumption)] at hX; subst hX; exact ⟨rfl, hB249⟩)
   | exact ⟨ret_val (by rw [hX]; rfl), hB249⟩
   | exact ⟨ret_val (by rw [hX, if_pos (by assumption)]; simp), hB249⟩
   | exact ⟨ret_val (by rw [hX, if_neg (by assumption)]; simp [strmE]), hB249⟩
  refine WL.r (Rd.b2s (l := data) underlying22 underlying5 underlying9 rfl (hv220)) rfl <| WL.nil <| ?_
  refine WY.br1 5 rfl ?_
  refine WL.c1 hb37 rfl rfl ((ref_DecT _ _ (by omega) (by omega))) (fun w250 hw250 => ?_)
  have hB256 := btr hB221 hw250
  refine WL.nil <| ?_
  refine WY.tk 6 rfl (.cat rfl rfl (by simp only [List.length_append, List.length_cons, List.length_nil, List.length_drop] at *; omega)) rfl ?_
  refine WY.tk 7 rfl (.cat rfl rfl (by simp only [List.length_append, List.length_cons, List.length_nil, List.length_drop] at *; omega)) rfl ?_
  refine WY.tk 11 rfl (.cat rfl rfl (by simp only [List.length_append, List.length_cons, List.length_nil, List.length_drop] at *; omega)) rfl ?_
  refine WY.tk 12 rfl (.cat rfl rfl (by simp only [List.length_append, List.length_cons, List.length_nil, List.length_drop] at *; omega)) rfl ?_
  refine WY.tk 13 rfl (.as rfl) rfl ?_
  refine WY.done (by kernel_rfl) ?_
  refine W.ret (W.ret1 rfl rfl ?_)
  first
  | (rw [if_pos (by assumption)] at hX; subst hX; exact ⟨rfl, hB256⟩)
  | (rw [if_neg (by omega), if_pos (by assumption), if_pos (by assumption)] at hX; subst hX; exact ⟨rfl, hB256⟩)
  | (rw [if_neg (by omega), if_pos (by assumption), if_neg (by assumption)] at hX; subst hX; exact ⟨rfl, hB256⟩)
  | (rw [if_neg (by omega), if_neg (by omega), if_pos (by assumption)] at hX; subst hX; exact ⟨rfl, hB256⟩)
  | (rw [if_neg (by omega), if_neg (by omega), if_neg (by omega), if_pos (by assumption)] at hX; subst hX; exact ⟨rfl, hB256⟩)
  | (rw [if_neg (by omega), if_neg (by omega), if_neg (by omega), if_neg (by omega), if_pos (by assumption)] at hX; subst hX; exact ⟨rfl, hB256⟩)
  | (rw [if_neg (by omega), if_neg (by omega), if_neg (by omega), if_neg (by omega), if_neg (by omega), if_pos (by assumption)] at hX; subst hX; exact ⟨rfl, hB256⟩)
  | (rw [if_neg (by omega), if_neg (by omega), if_neg (by omega), if_neg (by omega), if_neg (by omega), if_neg (by omega), if_pos (by assumption)] at hX; subst hX; exact ⟨rfl, hB256⟩)
  | exact ⟨ret_val (by rw [hX]; rfl), hB256⟩
  | exact ⟨ret_val (by rw [hX, if_pos (by assumption)]; simp), hB256⟩
  | exact ⟨ret_val (by rw [hX, if_neg (by assumption)]; simp [strmE]), hB256⟩
 refine WL.r (Rd.b2s (l := data) underlying22 underlying5 underlying9 rfl (hv220)) rfl <| WL.nil <| ?_
 refine WY.br1 3 rfl ?_
 refine WL.r (Rd.ld (isAgg22 _) rfl hk217 rfl) rfl <| WL.nil <| ?_
 refine WY.tk 4 rfl (.lenS underlying22 rfl) rfl ?_
 refine WY.br1 5 rfl ?_
 refine WL.c1 hb37 rfl rfl ((ref_DecT _ _ (by omega) (by omega))) (fun w257 hw257 => ?_)
 have hB263 := btr hB221 hw257
 refine WL.nil <| ?_
 refine WY.tk 6 rfl (.cat rfl rfl (by simp only [List.length_append, List.length_cons, List.length_nil, List.length_drop] at *; omega)) rfl ?_
 refine WY.tk 7 rfl (.cat rfl rfl (by simp only [List.length_append, List.length_cons, List.length_nil, List.length_drop] at *; omega)) rfl ?_
 refine WY.tk 11 rfl (.cat rfl rfl (by simp only [List.length_append, List.length_cons, List.length_nil, List.length_drop] at *; omega)) rfl ?_
 refine WY.tk 12 rfl (.cat rfl rfl (by simp only [List.length_append, List.length_cons, List.length_nil, List.length_drop] at *; omega)) rfl ?_
 refine WY.tk 13 rfl (.as rfl) rfl ?_
 refine WY.done (by kernel_rfl) ?_
 refine W.ret (W.ret1 rfl rfl ?_)
 first
 | (rw [if_pos (by assumption)] at hX; subst hX; exact ⟨rfl, hB263⟩)
 | (rw [if_neg (by omega), if_pos (by assumption), if_pos (by assumption)] at hX; subst hX; exact ⟨rfl, hB263⟩)
 | (rw [if_neg (by omega), if_pos (by assumption), if_neg (by assumption)] at hX; subst hX; exact ⟨rfl, hB263⟩)
 | (rw [if_neg (by omega), if_neg (by omega), if_pos (by assumption)] at hX; subst hX; exact ⟨rfl, hB263⟩)
 | (rw [if_neg (by omega), if_neg (by omega), if_neg (by omega), if_pos (by assumption)] at hX; subst hX; exact ⟨rfl, hB263⟩)
 | (rw [if_neg (by omega), if_neg (by omega), if_neg (by omega), if_neg (by omega), if_pos (by assumption)] at hX; subst hX; exact ⟨rfl, hB263⟩)
 | (rw [if_neg (by omega), if_neg (by omega), if_neg (by omega), if_neg (by omega), if_neg (by omega), if_pos (by assumption)] at hX; subst hX; exact ⟨rfl, hB263⟩)
 | (rw [if_neg (by omega), if_neg (by omega), if_neg (by omega), if_neg (by omega), if_neg (by omega), if_neg (by omega), if_pos (by assumption)] at hX; subst hX; exact ⟨rfl, hB263⟩)
 | exact ⟨ret_val (by rw [hX]; rfl), hB263⟩
 | exact ⟨ret_val (by rw [hX, if_pos (by assumption)]; simp), hB263⟩
 | exact ⟨ret_val (by rw [hX, if_neg (by assumption)]; simp [strmE]), hB263⟩
theorem r01_SameA (p : Option Addr) (l : List UInt8) (c : Nat) (q : Option Addr) (d : Nat) (w : World) (ha : BytesAt w p l) (hb : BytesAt w q l) (hl : l.length ≤ 9223372036854775807) :
  Calls Tryz.prog 45 #[.slice p l.length c, .slice q l.length d] w fun e w' => e = .returned (.bool true) ∧ Drew w w' := by
 refine W.enter func45 rfl ntmps45 (Nat.le_of_ble_eq_true rfl) ?_
 refine W.seq <| W.reg <| WL.p (.as rfl) rfl <| WL.nil <| ?_
 refine W.seq <| W.seq <| W.reg <| WL.p (.mv rfl) rfl <| WL.p (.lenS underlying22 rfl) rfl <| WL.p (.mv rfl) rfl <| WL.p (.lenS underlying22 rfl) rfl <| WL.p (.neq rfl rfl) rfl <| WL.nil <| ?_
 refine W.cond rfl (fun h1 => ?_) (fun h1 => ?_)
 ·
  have h1' := ndT h1
  omega
 have h1' := ndF h1
 refine W.skip <| W.seq <| W.seq <| W.reg <| WL.p (.as rfl) rfl <| WL.nil <| ?_
 refine W.block ?_
 refine W.loop (α := Nat) (fun t => [(0, .slice p l.length c), (1, .slice q l.length d), (5, .int .i64 (t : Int))]) (fun t w' => Drew w w' ∧ t ≤ l.length) (fun t => l.length - t) (0) ⟨rfl, rfl, rfl, trivial⟩ (⟨Drew.refl _, Nat.zero_le _⟩) (fun t w1 hR => ?_)
 obtain ⟨hD, ht⟩ := hR
 have ha1 := ha.drew hD
 have hb1 := hb.drew hD
 refine W.seq <| W.seq <| W.reg <| WL.p (.mv rfl) rfl <| WL.p (.mv rfl) rfl <| WL.p (.lenS underlying22 rfl) rfl <| WL.p (.lss rfl rfl) rfl <| WL.nil <| ?_
 refine W.cond rfl (fun h2 => ?_) (fun h2 => ?_)
 ·
  have h2' := of_decide_eq_true h2
  refine W.skip <| W.seq <| W.block <| W.seq <| W.regQ mixed (by kernel_rfl) ?_
  refine WQ.p (.mv rfl) rfl <| WQ.p (.mv rfl) rfl <| WQ.p (.ixb underlying22 sizeOf5 rfl rfl (ha1.isp (by omega)) (t) (by omega) (by omega)) rfl <| WQ.r (fun m => Rd.ldc (isAgg5 _) rfl ((ha1.drewN m).cells (t) (by omega))) rfl <| WQ.p (.mv rfl) rfl <| WQ.p (.mv rfl) rfl <| WQ.p (.ixb underlying22 sizeOf5 rfl rfl (hb1.isp (by omega)) (t) (by omega) (by omega)) rfl <| WQ.r (fun m => Rd.ldc (isAgg5 _) rfl ((hb1.drewN m).cells (t) (by omega))) rfl <| WQ.p (.neq rfl rfl) rfl <| WQ.nil (fun w3 dw3 => ?_)
  refine W.cond rfl (fun h6 => ?_) (fun h6 => ?_)
  ·
   have h6' := ndT h6
   contradiction
  have h6' := ndF h6
  refine W.skip <| W.reg <| WL.p (.mv rfl) rfl <| WL.p (.iis (((t + 1 : Nat) : Int)) (.add rfl rfl (i64w (by omega))) (by omega)) rfl <| WL.p (.as rfl) rfl <| WL.nil <| ?_
  exact ⟨t + 1, ⟨rfl, rfl, rfl, trivial⟩, ⟨hD.trans dw3, by omega⟩, by omega⟩
 have h2' := of_decide_eq_false h2
 refine W.exit <| W.seq <| W.reg <| WL.p (.as rfl) rfl <| WL.nil <| ?_
 refine W.ret (W.ret1 rfl rfl ?_)
 exact ⟨rfl, hD⟩
theorem r18_EqualA : ∀ (n : Nat) (o : AV), SizeOf.sizeOf o < n → ∀ (x y : AC) (S T : Nat → Prop) (w : World), ARep w S x o → ARep w T y o →
  Calls Tryz.prog 20 #[.agg (acV x).toArray, .agg (acV y).toArray] w fun e w' => e = .returned (.bool true) ∧ Below w.heap.size w w' := by
 intro n
 induction n with
 | zero => intro o h; omega
 | succ n ih =>
 intro o hn x y S T w hx hy
 obtain ⟨keys, list, data, cs, rfl, ok, hkl, hk, hks, hr, hrs, hd, hds, hcl, hsub⟩ := hx.inv
 obtain ⟨keys', list', data', cs', he, ok', hkl', hk', hks', hr', hrs', hd', hds', hcl', hsub'⟩ := hy.inv
 obtain ⟨k, i, s, kp, kl, kc, lp, ll, lc, dp, dl, dc⟩ := x
 obtain ⟨k', i', s', kp', kl', kc', lp', ll', lc', dp', dl', dc'⟩ := y
 simp only [AV.mk.injEq] at he hk hr hk' hr' hd hd'
 obtain ⟨rfl, rfl, rfl, rfl, rfl, rfl⟩ := he
 have e1 := ok.kl; have e2 := ok.ll; have e3 := ok.dl
 have f1 := ok'.kl; have f2 := ok'.ll; have f3 := ok'.dl
 have m1 := ok.kc; have m2 := ok.lc; have m3 := ok.dc; have m4 := ok.km; have m5 := ok.lm; have m6 := ok.dm
 simp only at e1 e2 e3 f1 f2 f3 m1 m2 m3 m4 m5 m6
 subst e1; subst e2; subst e3; subst f1; subst f2; subst f3
 simp only [AV.mk.sizeOf_spec] at hn
 have hsz : ∀ j (h : j < list.length), SizeOf.sizeOf list[j] < n := fun j h => by have := List.sizeOf_lt_of_mem (List.getElem_mem h); omega
 have hf0 : AInv w S cs list := ⟨hcl, hsub⟩
 have hf0' : AInv w T cs' list := ⟨hcl', hsub'⟩
 simp only [acV]
 refine W.enter func20 rfl ntmps20 (Nat.le_of_ble_eq_true rfl) ?_
 have hB0 := Below.refl (w.heap.size) w
 refine W.seq <| W.reg <| WL.box rfl rfl (fun b1 wb1 eb1 hkb1 hub1 hsb1 => ?_)
 have hvl3 := fun h0 => eb1 ▸ hk.lt h0
 have hv2 := RowAt.upd hk hub1 (fun h0 => Nat.ne_of_lt (hvl3 h0))
 have hvl5 := fun h0 => eb1 ▸ hk'.lt h0
 have hv4 := RowAt.upd hk' hub1 (fun h0 => Nat.ne_of_lt (hvl5 h0))
 have hvl7 := fun h0 => eb1 ▸ hr.lt h0
 have hv6 := RowM.upd hr hub1 (fun h0 => Nat.ne_of_lt (hvl7 h0))
 have hvl9 := fun h0 => eb1 ▸ hr'.lt h0
 have hv8 := RowM.upd hr' hub1 (fun h0 => Nat.ne_of_lt (hvl9 h0))
 have hvl11 := fun h0 => eb1 ▸ hd.lt h0
 have hv10 := BytesAt.upd hd hub1 (fun h0 => Nat.ne_of_lt (hvl11 h0))
 have hvl13 := fun h0 => eb1 ▸ hd'.lt h0
 have hv12 := BytesAt.upd hd' hub1 (fun h0 => Nat.ne_of_lt (hvl13 h0))
 have hB14 := Upd.below hB0 (by rw [eb1]; exact hB0.size) hub1
 have hgeb1 : w.heap.size ≤ b1 := by rw [eb1]; exact hB0.size
 refine WL.box rfl rfl (fun b15 wb15 eb15 hkb15 hub15 hsb15 => ?_)
 have hl17 : b1 < b15 := by rw [eb15]; exact hkb1.lt
 have hk16 := hkb1.upd hub15 (Nat.ne_of_lt hl17)
 have hvl19 := fun h0 => eb15 ▸ hv2.lt h0
 have hv18 := RowAt.upd hv2 hub15 (fun h0 => Nat.ne_of_lt (hvl19 h0))
 have hvl21 := fun h0 => eb15 ▸ hv4.lt h0
 have hv20 := RowAt.upd hv4 hub15 (fun h0 => Nat.ne_of_lt (hvl21 h0))
 have hvl23 := fun h0 => eb15 ▸ hv6.lt h0
 have hv22 := RowM.upd hv6 hub15 (fun h0 => Nat.ne_of_lt (hvl23 h0))
 have hvl25 := fun h0 => eb15 ▸ hv8.lt h0
 have hv24 := RowM.upd hv8 hub15 (fun h0 => Nat.ne_of_lt (hvl25 h0))
 have hvl27 := fun h0 => eb15 ▸ hv10.lt h0
 have hv26 := BytesAt.upd hv10 hub15 (fun h0 => Nat.ne_of_lt (hvl27 h0))
 have hvl29 := fun h0 => eb15 ▸ hv12.lt h0
 have hv28 := BytesAt.upd hv12 hub15 (fun h0 => Nat.ne_of_lt (hvl29 h0))
 have hB30 := Upd.below hB14 (by rw [eb15]; exact hB14.size) hub15
 have hgeb15 : w.heap.size ≤ b15 := by rw [eb15]; exact hB14.size
 refine WL.p (.as rfl) rfl <| WL.nil <| ?_
 refine W.seq <| W.seq <| W.reg <| WL.p (.fa underlying31 rfl sizeOf3 (by decide) rfl) rfl <| WL.r (Rd.ld (isAgg3 _) rfl hk16 rfl) rfl <| WL.p (.fa underlying31 rfl sizeOf3 (by decide) rfl) rfl <| WL.r (Rd.ld (isAgg3 _) rfl hkb15 rfl) rfl <| WL.p (.bis (false) (.neq rfl rfl) (by simp)) rfl <| WL.p (.mv rfl) rfl <| WL.gy rfl rfl rfl rfl <| WL.p (.fa underlying31 rfl sizeOf3 (by decide) rfl) rfl <| WL.gy rfl rfl rfl rfl <| WL.r (Rd.ld (isAgg3 _) rfl hk16 rfl) rfl <| WL.gy rfl rfl rfl rfl <| WL.p (.fa underlying31 rfl sizeOf3 (by decide) rfl) rfl <| WL.gy rfl rfl rfl rfl <| WL.r (Rd.ld (isAgg3 _) rfl hkb15 rfl) rfl <| WL.gy rfl rfl rfl rfl <| WL.p (.bis (false) (.neq rfl rfl) (by simp)) rfl <| WL.p (.pkF rfl rfl rfl) rfl <| WL.p (.mv rfl) rfl <| WL.gy rfl rfl rfl rfl <| WL.p (.fa underlying31 rfl sizeOf9 (by decide) rfl) rfl <| WL.gy rfl rfl rfl rfl <| WL.r (Rd.ld (isAgg9 _) rfl hk16 rfl) rfl <| WL.gy rfl rfl rfl rfl <| WL.p (.fa underlying31 rfl sizeOf9 (by decide) rfl) rfl <| WL.gy rfl rfl rfl rfl <| WL.r (Rd.ld (isAgg9 _) rfl hkb15 rfl) rfl <| WL.gy rfl rfl rfl rfl <| WL.p (.bis (false) (.nes rfl rfl) (by simp)) rfl <| WL.p (.pkF rfl rfl rfl) rfl <| WL.p (.mv rfl) rfl <| WL.gy rfl rfl rfl rfl <| WL.p (.fa underlying31 rfl sizeOf28 (by decide) rfl) rfl <| WL.gy rfl rfl rfl rfl <| WL.r (Rd.ld (isAgg28 _) rfl hk16 rfl) rfl <| WL.gy rfl rfl rfl rfl <| WL.p (.fa underlying31 rfl sizeOf28 (by decide) rfl) rfl <| WL.gy rfl rfl rfl rfl <| WL.r (Rd.ld (isAgg28 _) rfl hkb15 rfl) rfl <| WL.gy rfl rfl rfl rfl <| WL.c1 hb44 rfl rfl ((r01_Texts _ _ _ _ _ _ hv18 hv20 (by omega))) (fun w31 hw31 => ?_)
 have hk32 := hk16.drew hw31
 have hk33 := hkb15.drew hw31
 have hv36 := hv22.drew hw31
 have hv37 := hv24.drew hw31
 have hv38 := hv26.drew hw31
 have hv39 := hv28.drew hw31
 have hB40 := Drew.below hB30 hw31
 refine WL.gy rfl rfl rfl rfl <| WL.p (.not rfl) rfl <| WL.p (.pkF rfl rfl rfl) rfl <| WL.p (.mv rfl) rfl <| WL.gy rfl rfl rfl rfl <| WL.p (.fa underlying31 rfl sizeOf22 (by decide) rfl) rfl <| WL.gy rfl rfl rfl rfl <| WL.r (Rd.ld (isAgg22 _) rfl hk32 rfl) rfl <| WL.gy rfl rfl rfl rfl <| WL.p (.fa underlying31 rfl sizeOf22 (by decide) rfl) rfl <| WL.gy rfl rfl rfl rfl <| WL.r (Rd.ld (isAgg22 _) rfl hk33 rfl) rfl <| WL.gy rfl rfl rfl rfl <| WL.c1 hb45 rfl rfl ((r01_SameA _ _ _ _ _ _ hv38 hv39 (by omega))) (fun w41 hw41 => ?_)
 have hk42 := hk32.drew hw41
 have hk43 := hk33.drew hw41
 have hv46 := hv36.drew hw41
 have hv47 := hv37.drew hw41
 have hB50 := Drew.below hB40 hw41
 refine WL.gy rfl rfl rfl rfl <| WL.p (.not rfl) rfl <| WL.p (.pkF rfl rfl rfl) rfl <| WL.p (.mv rfl) rfl <| WL.gy rfl rfl rfl rfl <| WL.p (.fa underlying31 rfl sizeOf29 (by decide) rfl) rfl <| WL.gy rfl rfl rfl rfl <| WL.r (Rd.ld (isAgg29 _) rfl hk42 rfl) rfl <| WL.gy rfl rfl rfl rfl <| WL.p (.lenS underlying29 rfl) rfl <| WL.gy rfl rfl rfl rfl <| WL.p (.fa underlying31 rfl sizeOf29 (by decide) rfl) rfl <| WL.gy rfl rfl rfl rfl <| WL.r (Rd.ld (isAgg29 _) rfl hk43 rfl) rfl <| WL.gy rfl rfl rfl rfl <| WL.p (.lenS underlying29 rfl) rfl <| WL.gy rfl rfl rfl rfl <| WL.p (.bis (false) (.neq rfl rfl) (by simp; omega)) rfl <| WL.p (.pkF rfl rfl rfl) rfl <| WL.nil <| ?_
 refine W.condF rfl rfl ?_
 refine W.skip <| W.seq <| W.seq <| W.reg <| WL.p (.as rfl) rfl <| WL.nil <| ?_
 refine W.block ?_
 refine W.loop (α := Nat) (fun t => [(2, .pointer (some ⟨b1, 0, none⟩)), (3, .pointer (some ⟨b15, 0, none⟩)), (5, .int .i64 (t : Int))]) (fun t w' => Below w.heap.size w w' ∧ Blk w' b1 #[.int .i64 k, .int .i64 i, .string (bs s), .slice kp keys.length kc, .slice lp cs.length lc, .slice dp data.length dc] 31 ∧ Blk w' b15 #[.int .i64 k, .int .i64 i, .string (bs s), .slice kp' keys.length kc', .slice lp' cs'.length lc', .slice dp' data.length dc'] 31 ∧ RowM acL w' lp cs ∧ RowM acL w' lp' cs' ∧ AInv w' S cs list ∧ AInv w' T cs' list ∧ t ≤ cs.length) (fun t => cs.length - t) (0) ⟨rfl, rfl, rfl, trivial⟩ (⟨hB50, hk42, hk43, hv46, hv47, hf0.same (fun k hk hl => (hB50).block k hl), hf0'.same (fun k hk hl => (hB50).block k hl), Nat.zero_le _⟩) (fun t w1 hR => ?_)
 obtain ⟨hT1, hk1, hk2, hlx1, hly1, hf1, hf2, ht⟩ := hR
 refine W.seq <| W.seq <| W.reg <| WL.p (.mv rfl) rfl <| WL.p (.fa underlying31 rfl sizeOf29 (by decide) rfl) rfl <| WL.r (Rd.ld (isAgg29 _) rfl hk1 rfl) rfl <| WL.p (.lenS underlying29 rfl) rfl <| WL.p (.lss rfl rfl) rfl <| WL.nil <| ?_
 refine W.cond rfl (fun h51 => ?_) (fun h51 => ?_)
 ·
  have h51' := of_decide_eq_true h51
  refine W.skip <| W.seq <| W.block <| W.seq <| W.regY 12 rfl mixed (fun w52 dw52 => ?_)
  have hF53 := AInv.same (w1 := w52) hf1 (fun k hk hl => (by obtain ⟨m, rfl⟩ := dw52; rfl))
  have hF54 := AInv.same (w1 := w52) hf2 (fun k hk hl => (by obtain ⟨m, rfl⟩ := dw52; rfl))
  have hk55 := hk1.drew dw52
  have hk56 := hk2.drew dw52
  have hv57 := hlx1.drew dw52
  have hv58 := hly1.drew dw52
  have hB59 := Drew.below hT1 dw52
  refine WY.tk 0 rfl (.fa underlying31 rfl sizeOf29 (by decide) rfl) rfl ?_
  refine WY.tk 2 rfl (.mv rfl) rfl ?_
  refine WY.tk 5 rfl (.fa underlying31 rfl sizeOf29 (by decide) rfl) rfl ?_
  refine WY.tk 7 rfl (.mv rfl) rfl ?_
  refine WY.br2 1 rfl 6 rfl ?_ ?_
  ·
   skip
   refine WL.r (Rd.ld (isAgg29 _) rfl hk55 rfl) rfl <| WL.nil <| ?_
   refine WY.tk 3 rfl (.ixm underlying29 sizeOf31 rfl rfl (hv57.isp (by omega)) (t) (rfl) (by omega)) rfl ?_
   refine WY.br2 4 rfl 6 rfl ?_ ?_
   ·
    skip
    refine WL.r (Rd.ldS underlying31 rfl isz31 hv57 (t) (by omega) rfl) rfl <| WL.nil <| ?_
    refine WY.br1 6 rfl ?_
    refine WL.r (Rd.ld (isAgg29 _) rfl hk56 rfl) rfl <| WL.nil <| ?_
    refine WY.tk 8 rfl (.ixm underlying29 sizeOf31 rfl rfl (hv58.isp (by omega)) (t) (rfl) (by omega)) rfl ?_
    refine WY.br1 9 rfl ?_
    refine WL.r (Rd.ldS underlying31 rfl isz31 hv58 (t) (by omega) rfl) rfl <| WL.nil <| ?_
    refine WY.br1 10 rfl ?_
    refine WL.c1 hb20 rfl rfl ((ih (list[t]'(by omega)) (hsz t (by omega)) _ _ S T _ ((hF53).sub t (by omega) (by omega)) ((hF54).sub t (by omega) (by omega)))) (fun w60 hw60 => ?_)
    have hF61 := AInv.same (w1 := w60) hF53 (fun k hk hl => hw60.block k hl)
    have hF62 := AInv.same (w1 := w60) hF54 (fun k hk hl => hw60.block k hl)
    have hk63 := hk55.below hw60 hk55.lt
    have hk64 := hk56.below hw60 hk56.lt
    have hv65 := RowM.below hv57 hw60 (fun h0 => hv57.lt h0)
    have hv66 := RowM.below hv58 hw60 (fun h0 => hv58.lt h0)
    have hB67 := btr hB59 hw60
    refine WL.nil <| ?_
    refine WY.tk 11 rfl (.not rfl) rfl ?_
    refine WY.done (by kernel_rfl) ?_
    refine W.condF rfl rfl ?_
    refine W.skip <| W.reg <| WL.p (.mv rfl) rfl <| WL.p (.iis (((t + 1 : Nat) : Int)) (.add rfl rfl (i64w (by omega))) (by omega)) rfl <| WL.p (.as rfl) rfl <| WL.nil <| ?_
    exact ⟨t + 1, ⟨rfl, rfl, rfl, trivial⟩, ⟨hB67, hk63, hk64, hv65, hv66, hF61, hF62, by ((try simp only) <;> omega)⟩, by ((try simp only) <;> omega)⟩
   refine WL.r (Rd.ld (isAgg29 _) rfl hk56 rfl) rfl <| WL.nil <| ?_
   refine WY.tk 8 rfl (.ixm underlying29 sizeOf31 rfl rfl (hv58.isp (by omega)) (t) (rfl) (by omega)) rfl ?_
   refine WY.br2 4 rfl 9 rfl ?_ ?_
   ·
    skip
    refine WL.r (Rd.ldS underlying31 rfl isz31 hv57 (t) (by omega) rfl) rfl <| WL.nil <| ?_
    refine WY.br1 9 rfl ?_
    refine WL.r (Rd.ldS underlying31 rfl isz31 hv58 (t) (by omega) rfl) rfl <| WL.nil <| ?_
    refine WY.br1 10 rfl ?_
    refine WL.c1 hb20 rfl rfl ((ih (list[t]'(by omega)) (hsz t (by omega)) _ _ S T _ ((hF53).sub t (by omega) (by omega)) ((hF54).sub t (by omega) (by omega)))) (fun w68 hw68 => ?_)
    have hF69 := AInv.same (w1 := w68) hF53 (fun k hk hl => hw68.block k hl)
    have hF70 := AInv.same (w1 := w68) hF54 (fun k hk hl => hw68.block k hl)
    have hk71 := hk55.below hw68 hk55.lt
    have hk72 := hk56.below hw68 hk56.lt
    have hv73 := RowM.below hv57 hw68 (fun h0 => hv57.lt h0)
    have hv74 := RowM.below hv58 hw68 (fun h0 => hv58.lt h0)
    have hB75 := btr hB59 hw68
    refine WL.nil <| ?_
    refine WY.tk 11 rfl (.not rfl) rfl ?_
    refine WY.done (by kernel_rfl) ?_
    refine W.condF rfl rfl ?_
    refine W.skip <| W.reg <| WL.p (.mv rfl) rfl <| WL.p (.iis (((t + 1 : Nat) : Int)) (.add rfl rfl (i64w (by omega))) (by omega)) rfl <| WL.p (.as rfl) rfl <| WL.nil <| ?_
    exact ⟨t + 1, ⟨rfl, rfl, rfl, trivial⟩, ⟨hB75, hk71, hk72, hv73, hv74, hF69, hF70, by ((try simp only) <;> omega)⟩, by ((try simp only) <;> omega)⟩
   refine WL.r (Rd.ldS underlying31 rfl isz31 hv58 (t) (by omega) rfl) rfl <| WL.nil <| ?_
   refine WY.br1 4 rfl ?_
   refine WL.r (Rd.ldS underlying31 rfl isz31 hv57 (t) (by omega) rfl) rfl <| WL.nil <| ?_
   refine WY.br1 10 rfl ?_
   refine WL.c1 hb20 rfl rfl ((ih (list[t]'(by omega)) (hsz t (by omega)) _ _ S T _ ((hF53).sub t (by omega) (by omega)) ((hF54).sub t (by omega) (by omega)))) (fun w76 hw76 => ?_)
   have hF77 := AInv.same (w1 := w76) hF53 (fun k hk hl => hw76.block k hl)
   have hF78 := AInv.same (w1 := w76) hF54 (fun k hk hl => hw76.block k hl)
   have hk79 := hk55.below hw76 hk55.lt
   have hk80 := hk56.below hw76 hk56.lt
   have hv81 := RowM.below hv57 hw76 (fun h0 => hv57.lt h0)
   have hv82 := RowM.below hv58 hw76 (fun h0 => hv58.lt h0)
   have hB83 := btr hB59 hw76
   refine WL.nil <| ?_
   refine WY.tk 11 rfl (.not rfl) rfl ?_
   refine WY.done (by kernel_rfl) ?_
   refine W.condF rfl rfl ?_
   refine W.skip <| W.reg <| WL.p (.mv rfl) rfl <| WL.p (.iis (((t + 1 : Nat) : Int)) (.add rfl rfl (i64w (by omega))) (by omega)) rfl <| WL.p (.as rfl) rfl <| WL.nil <| ?_
   exact ⟨t + 1, ⟨rfl, rfl, rfl, trivial⟩, ⟨hB83, hk79, hk80, hv81, hv82, hF77, hF78, by ((try simp only) <;> omega)⟩, by ((try simp only) <;> omega)⟩
  refine WL.r (Rd.ld (isAgg29 _) rfl hk56 rfl) rfl <| WL.nil <| ?_
  refine WY.tk 8 rfl (.ixm underlying29 sizeOf31 rfl rfl (hv58.isp (by omega)) (t) (rfl) (by omega)) rfl ?_
  refine WY.br2 1 rfl 9 rfl ?_ ?_
  ·
   skip
   refine WL.r (Rd.ld (isAgg29 _) rfl hk55 rfl) rfl <| WL.nil <| ?_
   refine WY.tk 3 rfl (.ixm underlying29 sizeOf31 rfl rfl (hv57.isp (by omega)) (t) (rfl) (by omega)) rfl ?_
   refine WY.br2 4 rfl 9 rfl ?_ ?_
   ·
    skip
    refine WL.r (Rd.ldS underlying31 rfl isz31 hv57 (t) (by omega) rfl) rfl <| WL.nil <| ?_
    refine WY.br1 9 rfl ?_
    refine WL.r (Rd.ldS underlying31 rfl isz31 hv58 (t) (by omega) rfl) rfl <| WL.nil <| ?_
    refine WY.br1 10 rfl ?_
    refine WL.c1 hb20 rfl rfl ((ih (list[t]'(by omega)) (hsz t (by omega)) _ _ S T _ ((hF53).sub t (by omega) (by omega)) ((hF54).sub t (by omega) (by omega)))) (fun w84 hw84 => ?_)
    have hF85 := AInv.same (w1 := w84) hF53 (fun k hk hl => hw84.block k hl)
    have hF86 := AInv.same (w1 := w84) hF54 (fun k hk hl => hw84.block k hl)
    have hk87 := hk55.below hw84 hk55.lt
    have hk88 := hk56.below hw84 hk56.lt
    have hv89 := RowM.below hv57 hw84 (fun h0 => hv57.lt h0)
    have hv90 := RowM.below hv58 hw84 (fun h0 => hv58.lt h0)
    have hB91 := btr hB59 hw84
    refine WL.nil <| ?_
    refine WY.tk 11 rfl (.not rfl) rfl ?_
    refine WY.done (by kernel_rfl) ?_
    refine W.condF rfl rfl ?_
    refine W.skip <| W.reg <| WL.p (.mv rfl) rfl <| WL.p (.iis (((t + 1 : Nat) : Int)) (.add rfl rfl (i64w (by omega))) (by omega)) rfl <| WL.p (.as rfl) rfl <| WL.nil <| ?_
    exact ⟨t + 1, ⟨rfl, rfl, rfl, trivial⟩, ⟨hB91, hk87, hk88, hv89, hv90, hF85, hF86, by ((try simp only) <;> omega)⟩, by ((try simp only) <;> omega)⟩
   refine WL.r (Rd.ldS underlying31 rfl isz31 hv58 (t) (by omega) rfl) rfl <| WL.nil <| ?_
   refine WY.br1 4 rfl ?_
   refine WL.r (Rd.ldS underlying31 rfl isz31 hv57 (t) (by omega) rfl) rfl <| WL.nil <| ?_
   refine WY.br1 10 rfl ?_
   refine WL.c1 hb20 rfl rfl ((ih (list[t]'(by omega)) (hsz t (by omega)) _ _ S T _ ((hF53).sub t (by omega) (by omega)) ((hF54).sub t (by omega) (by omega)))) (fun w92 hw92 => ?_)
   have hF93 := AInv.same (w1 := w92) hF53 (fun k hk hl => hw92.block k hl)
   have hF94 := AInv.same (w1 := w92) hF54 (fun k hk hl => hw92.block k hl)
   have hk95 := hk55.below hw92 hk55.lt
   have hk96 := hk56.below hw92 hk56.lt
   have hv97 := RowM.below hv57 hw92 (fun h0 => hv57.lt h0)
   have hv98 := RowM.below hv58 hw92 (fun h0 => hv58.lt h0)
   have hB99 := btr hB59 hw92
   refine WL.nil <| ?_
   refine WY.tk 11 rfl (.not rfl) rfl ?_
   refine WY.done (by kernel_rfl) ?_
   refine W.condF rfl rfl ?_
   refine W.skip <| W.reg <| WL.p (.mv rfl) rfl <| WL.p (.iis (((t + 1 : Nat) : Int)) (.add rfl rfl (i64w (by omega))) (by omega)) rfl <| WL.p (.as rfl) rfl <| WL.nil <| ?_
   exact ⟨t + 1, ⟨rfl, rfl, rfl, trivial⟩, ⟨hB99, hk95, hk96, hv97, hv98, hF93, hF94, by ((try simp only) <;> omega)⟩, by ((try simp only) <;> omega)⟩
  refine WL.r (Rd.ldS underlying31 rfl isz31 hv58 (t) (by omega) rfl) rfl <| WL.nil <| ?_
  refine WY.br1 1 rfl ?_
  refine WL.r (Rd.ld (isAgg29 _) rfl hk55 rfl) rfl <| WL.nil <| ?_
  refine WY.tk 3 rfl (.ixm underlying29 sizeOf31 rfl rfl (hv57.isp (by omega)) (t) (rfl) (by omega)) rfl ?_
  refine WY.br1 4 rfl ?_
  refine WL.r (Rd.ldS underlying31 rfl isz31 hv57 (t) (by omega) rfl) rfl <| WL.nil <| ?_
  refine WY.br1 10 rfl ?_
  refine WL.c1 hb20 rfl rfl ((ih (list[t]'(by omega)) (hsz t (by omega)) _ _ S T _ ((hF53).sub t (by omega) (by omega)) ((hF54).sub t (by omega) (by omega)))) (fun w100 hw100 => ?_)
  have hF101 := AInv.same (w1 := w100) hF53 (fun k hk hl => hw100.block k hl)
  have hF102 := AInv.same (w1 := w100) hF54 (fun k hk hl => hw100.block k hl)
  have hk103 := hk55.below hw100 hk55.lt
  have hk104 := hk56.below hw100 hk56.lt
  have hv105 := RowM.below hv57 hw100 (fun h0 => hv57.lt h0)
  have hv106 := RowM.below hv58 hw100 (fun h0 => hv58.lt h0)
  have hB107 := btr hB59 hw100
  refine WL.nil <| ?_
  refine WY.tk 11 rfl (.not rfl) rfl ?_
  refine WY.done (by kernel_rfl) ?_
  refine W.condF rfl rfl ?_
  refine W.skip <| W.reg <| WL.p (.mv rfl) rfl <| WL.p (.iis (((t + 1 : Nat) : Int)) (.add rfl rfl (i64w (by omega))) (by omega)) rfl <| WL.p (.as rfl) rfl <| WL.nil <| ?_
  exact ⟨t + 1, ⟨rfl, rfl, rfl, trivial⟩, ⟨hB107, hk103, hk104, hv105, hv106, hF101, hF102, by ((try simp only) <;> omega)⟩, by ((try simp only) <;> omega)⟩
 have h51' := of_decide_eq_false h51
 refine W.exit <| W.seq <| W.reg <| WL.p (.as rfl) rfl <| WL.nil <| ?_
 refine W.ret (W.ret1 rfl rfl ?_)
 exact ⟨rfl, hT1⟩
/-- objects of two kinds are not equal -/
theorem r18_EqualN (x y : AC) (w : World) (h : x.kind ≠ y.kind) :
  Calls Tryz.prog 20 #[.agg (acV x).toArray, .agg (acV y).toArray] w fun e w' => e = .returned (.bool false) ∧ Below w.heap.size w w' := by
 refine W.enter func20 rfl ntmps20 (Nat.le_of_ble_eq_true rfl) ?_
 have hB0 := Below.refl (w.heap.size) w
 refine W.seq <| W.reg <| WL.box rfl rfl (fun b1 wb1 eb1 hkb1 hub1 hsb1 => ?_)
 have hB2 := Upd.below hB0 (by rw [eb1]; exact hB0.size) hub1
 have hgeb1 : w.heap.size ≤ b1 := by rw [eb1]; exact hB0.size
 refine WL.box rfl rfl (fun b3 wb3 eb3 hkb3 hub3 hsb3 => ?_)
 have hl5 : b1 < b3 := by rw [eb3]; exact hkb1.lt
 have hk4 := hkb1.upd hub3 (Nat.ne_of_lt hl5)
 have hB6 := Upd.below hB2 (by rw [eb3]; exact hB2.size) hub3
 have hgeb3 : w.heap.size ≤ b3 := by rw [eb3]; exact hB2.size
 refine WL.p (.as rfl) rfl <| WL.nil <| ?_
 refine W.seq <| W.seq <| W.reg <| WL.p (.fa underlying31 rfl sizeOf3 (by decide) rfl) rfl <| WL.r (Rd.ld (isAgg3 _) rfl hk4 rfl) rfl <| WL.p (.fa underlying31 rfl sizeOf3 (by decide) rfl) rfl <| WL.r (Rd.ld (isAgg3 _) rfl hkb3 rfl) rfl <| WL.p (.bis (true) (.neq rfl rfl) (by simp [h])) rfl <| WL.p (.mv rfl) rfl <| WL.gn rfl rfl rfl rfl <| WL.gn rfl rfl rfl rfl <| WL.gn rfl rfl rfl rfl <| WL.gn rfl rfl rfl rfl <| WL.gn rfl rfl rfl rfl <| WL.p (.pkT rfl rfl rfl) rfl <| WL.p (.mv rfl) rfl <| WL.gn rfl rfl rfl rfl <| WL.gn rfl rfl rfl rfl <| WL.gn rfl rfl rfl rfl <| WL.gn rfl rfl rfl rfl <| WL.gn rfl rfl rfl rfl <| WL.p (.pkT rfl rfl rfl) rfl <| WL.p (.mv rfl) rfl <| WL.gn rfl rfl rfl rfl <| WL.gn rfl rfl rfl rfl <| WL.gn rfl rfl rfl rfl <| WL.gn rfl rfl rfl rfl <| WL.gn rfl rfl rfl rfl <| WL.gn rfl rfl rfl rfl <| WL.p (.pkT rfl rfl rfl) rfl <| WL.p (.mv rfl) rfl <| WL.gn rfl rfl rfl rfl <| WL.gn rfl rfl rfl rfl <| WL.gn rfl rfl rfl rfl <| WL.gn rfl rfl rfl rfl <| WL.gn rfl rfl rfl rfl <| WL.gn rfl rfl rfl rfl <| WL.p (.pkT rfl rfl rfl) rfl <| WL.p (.mv rfl) rfl <| WL.gn rfl rfl rfl rfl <| WL.gn rfl rfl rfl rfl <| WL.gn rfl rfl rfl rfl <| WL.gn rfl rfl rfl rfl <| WL.gn rfl rfl rfl rfl <| WL.gn rfl rfl rfl rfl <| WL.gn rfl rfl rfl rfl <| WL.p (.pkT rfl rfl rfl) rfl <| WL.nil <| ?_
 refine W.condT rfl rfl ?_
 refine W.seq <| W.reg <| WL.p (.as rfl) rfl <| WL.nil <| ?_
 refine W.ret (W.ret1 rfl rfl ?_)
 exact ⟨rfl, hB6⟩
theorem law_depth : ∀ (n : Nat) (o : AV), SizeOf.sizeOf o < n → ∀ (x : AC) (S : Nat → Prop) (D : Int) (st : Bool) (w : World), ARep w S x o → Snd D st o → D ≤ 100 →
  Calls Tryz.prog 21 #[.agg (acV x).toArray] w fun e w' => e = .returned (.int .i64 (dpO o : Int)) ∧ Below w.heap.size w w' := by
 intro n
 induction n with
 | zero => intro o h; omega
 | succ n ih =>
 intro o hn x S D st w hx hS hD
 have hdD := dp_le hS
 obtain ⟨keys, list, data, cs, rfl, ok, hkl, hk, hks, hr, hrs, hd, hds, hcl, hsub⟩ := hx.inv
 obtain ⟨k, i, s, kp, kl, kc, lp, ll, lc, dp, dl, dc⟩ := x
 have e1 := ok.kl; have e2 := ok.ll; have e3 := ok.dl
 have m1 := ok.kc; have m2 := ok.lc; have m3 := ok.dc; have m4 := ok.km; have m5 := ok.lm; have m6 := ok.dm
 simp only at e1 e2 e3 m1 m2 m3 m4 m5 m6 hk hr hd hrs hS hdD ⊢
 subst e1; subst e2; subst e3
 simp only [AV.mk.sizeOf_spec] at hn
 have hsz : ∀ j (h : j < list.length), SizeOf.sizeOf list[j] < n := fun j h => by have := List.sizeOf_lt_of_mem (List.getElem_mem h); omega
 have hs0 : AInv w S cs list := ⟨hcl, hsub⟩
 simp only [acV]
 have hall : k = 6 ∨ k = 7 → ∀ o ∈ list, Snd (D - 1) false o := fun hk => by
  cases hS with
  | arr _ _ _ hD hl h => exact h
  | dict _ _ _ _ _ _ hk' hD hl hkl hn hnd h => exact h
  | num _ _ _ _ h' _ => rcases h' with rfl | rfl <;> omega
  | null => omega
  | bool => omega
  | name => omega
  | text => omega
  | ref => omega
 obtain ⟨R, hX⟩ : ∃ R, R = dpO (.mk k i s keys list data) := ⟨_, rfl⟩
 rw [← hX] at hdD ⊢
 rw [dpO] at hX
 obtain ⟨b6, hb6⟩ : ∃ b, b = !decide (k = 6) := ⟨_, rfl⟩
 obtain ⟨b7, hb7⟩ : ∃ b, b = !decide (k = 7) := ⟨_, rfl⟩
 refine W.enter func21 rfl ntmps21 (Nat.le_of_ble_eq_true rfl) ?_
 have hB0 := Below.refl (w.heap.size) w
 refine W.seq <| W.reg <| WL.box rfl rfl (fun b1 wb1 eb1 hkb1 hub1 hsb1 => ?_)
 have hF2 := AInv.same (w1 := wb1) hs0 (fun k hk hl => hub1.other k (by omega))
 have hvl4 := fun h0 => eb1 ▸ hr.lt h0
 have hv3 := RowM.upd hr hub1 (fun h0 => Nat.ne_of_lt (hvl4 h0))
 have hB5 := Upd.below hB0 (by rw [eb1]; exact hB0.size) hub1
 have hgeb1 : w.heap.size ≤ b1 := by rw [eb1]; exact hB0.size
 refine WL.p (.as rfl) rfl <| WL.nil <| ?_
 refine W.seq ?_
 refine W.cutB 13 ((b6 && b7)) ?_ ?_
 ·
  skip
  refine W.reg <| WL.p (.fa underlying31 rfl sizeOf3 (by decide) rfl) rfl <| WL.r (Rd.ld (isAgg3 _) rfl hkb1 rfl) rfl <| WL.p (.bis (b6) (.neq rfl rfl) (by exact hb6.symm)) rfl <| WL.p (.mv rfl) rfl <| WL.gd rfl rfl rfl (fun g6 => ?_) (fun g6 => ?_)
  ·
   skip
   refine WL.p (.fa underlying31 rfl sizeOf3 (by decide) rfl) rfl <| WL.gy rfl rfl rfl g6 <| WL.r (Rd.ld (isAgg3 _) rfl hkb1 rfl) rfl <| WL.gy rfl rfl rfl g6 <| WL.p (.bis (b7) (.neq rfl rfl) (by exact hb7.symm)) rfl <| WL.p (.pkT rfl g6 rfl) rfl <| WL.nil <| ?_
   exact ⟨⟨lk_b rfl (by cases b6 <;> cases b7 <;> first | rfl | contradiction), by repeat (first | exact Le.refl _ | refine Le.cons rfl ?_)⟩, rfl⟩
  refine WL.gn rfl rfl rfl g6 <| WL.gn rfl rfl rfl g6 <| WL.p (.pkF rfl g6 rfl) rfl <| WL.nil <| ?_
  exact ⟨⟨lk_b rfl (by cases b6 <;> cases b7 <;> first | rfl | contradiction), by repeat (first | exact Le.refl _ | refine Le.cons rfl ?_)⟩, rfl⟩
 refine W.cond rfl (fun h7 => ?_) (fun h7 => ?_)
 ·
  skip
  have h67 : ¬ (k = 6 ∨ k = 7) := by
   have h0 : (b6 && b7) = true := by assumption
   rw [hb6, hb7] at h0
   simp only [Bool.and_eq_true, Bool.not_eq_true', decide_eq_false_iff_not] at h0
   exact fun h => h.elim h0.1 h0.2
  rw [if_neg h67] at hX
  refine W.seq <| W.reg <| WL.p (.as rfl) rfl <| WL.nil <| ?_
  refine W.ret (W.ret1 rfl rfl ?_)
  first
  | exact ⟨ret_int (by rw [hX]; rfl), hB5⟩
  | exact ⟨ret_int (by omega), hB5⟩
 have h67 : k = 6 ∨ k = 7 := by
  have h0 : (b6 && b7) = false := by assumption
  rw [hb6, hb7] at h0
  simp only [Bool.and_eq_false_iff, Bool.not_eq_false', decide_eq_true_eq] at h0
  exact h0
 rw [if_pos h67] at hX
 have hall := hall h67
 refine W.skip <| W.seq <| W.reg <| WL.p (.as rfl) rfl <| WL.nil <| ?_
 refine W.seq <| W.seq <| W.reg <| WL.p (.as rfl) rfl <| WL.nil <| ?_
 refine W.block ?_
 refine W.loop (α := Nat) (fun t => [(1, .pointer (some ⟨b1, 0, none⟩)), (3, .int .i64 (dpL (list.take t) : Int)), (4, .int .i64 (t : Int))]) (fun t w' => Below w.heap.size w w' ∧ Blk w' b1 #[.int .i64 k, .int .i64 i, .string (bs s), .slice kp keys.length kc, .slice lp cs.length lc, .slice dp data.length dc] 31 ∧ RowM acL w' lp cs ∧ AInv w' S cs list ∧ t ≤ cs.length) (fun t => cs.length - t) (0) ⟨rfl, by simp [dpL, look], rfl, trivial⟩ (⟨hB5, hkb1, hv3, hF2, Nat.zero_le _⟩) (fun t w1 hR => ?_)
 obtain ⟨i0, rfl⟩ : ∃ i, i = t := ⟨t, rfl⟩
 obtain ⟨hT1, hk1, hlx1, hf1, ht⟩ := hR
 refine W.seq <| W.seq <| W.reg <| WL.p (.mv rfl) rfl <| WL.p (.fa underlying31 rfl sizeOf29 (by decide) rfl) rfl <| WL.r (Rd.ld (isAgg29 _) rfl hk1 rfl) rfl <| WL.p (.lenS underlying29 rfl) rfl <| WL.p (.lss rfl rfl) rfl <| WL.nil <| ?_
 refine W.cond rfl (fun h8 => ?_) (fun h8 => ?_)
 ·
  have h8' := of_decide_eq_true h8
  refine W.skip <| W.seq <| W.block <| W.seq ?_
  have hds := dpL_snoc list i0 (by omega)
  refine W.reg <| WL.p (.fa underlying31 rfl sizeOf29 (by decide) rfl) rfl <| WL.r (Rd.ld (isAgg29 _) rfl hk1 rfl) rfl <| WL.p (.mv rfl) rfl <| WL.p (.ixm underlying29 sizeOf31 rfl rfl (hlx1.isp (by omega)) (i0) (rfl) (by omega)) rfl <| WL.r (Rd.ldS underlying31 rfl isz31 hlx1 (i0) (by omega) rfl) rfl <| WL.c1 hb21 rfl rfl ((ih (list[i0]'(by omega)) (hsz i0 (by omega)) _ S (D - 1) false _ ((hf1).sub i0 (by omega) (by omega)) (hall _ (List.getElem_mem _)) (by omega))) (fun w9 hw9 => ?_)
  have hF10 := AInv.same (w1 := w9) hf1 (fun k hk hl => hw9.block k hl)
  have hk11 := hk1.below hw9 hk1.lt
  have hv12 := RowM.below hlx1 hw9 (fun h0 => hlx1.lt h0)
  have hB13 := btr hT1 hw9
  refine WL.p (.as rfl) rfl <| WL.nil <| ?_
  refine W.seq <| W.reg <| WL.p (.mv rfl) rfl <| WL.p (.mv rfl) rfl <| WL.p (.gtr rfl rfl) rfl <| WL.nil <| ?_
  refine W.cond rfl (fun h14 => ?_) (fun h14 => ?_)
  ·
   have h14' := of_decide_eq_true h14
   refine W.reg <| WL.p (.mv rfl) rfl <| WL.p (.as rfl) rfl <| WL.nil <| ?_
   refine W.reg <| WL.p (.mv rfl) rfl <| WL.p (.iis (((i0 + 1 : Nat) : Int)) (.add rfl rfl (i64w (by omega))) (by omega)) rfl <| WL.p (.as rfl) rfl <| WL.nil <| ?_
   first
   | exact ⟨i0 + 1, ⟨rfl, lk_i rfl (by rw [hds]; omega), rfl, trivial⟩, ⟨hB13, hk11, hv12, hF10, by ((try simp only) <;> omega)⟩, by ((try simp only) <;> omega)⟩
  have h14' := of_decide_eq_false h14
  refine W.skip <| W.reg <| WL.p (.mv rfl) rfl <| WL.p (.iis (((i0 + 1 : Nat) : Int)) (.add rfl rfl (i64w (by omega))) (by omega)) rfl <| WL.p (.as rfl) rfl <| WL.nil <| ?_
  first
  | exact ⟨i0 + 1, ⟨rfl, lk_i rfl (by rw [hds]; omega), rfl, trivial⟩, ⟨hB13, hk11, hv12, hF10, by ((try simp only) <;> omega)⟩, by ((try simp only) <;> omega)⟩
 have h8' := of_decide_eq_false h8
 refine W.exit <| W.seq ?_
 have hti : list.take i0 = list := List.take_of_length_le (by omega)
 rw [hti]
 refine W.reg <| WL.p (.mv rfl) rfl <| WL.p (.add rfl rfl (i64w (by omega))) rfl <| WL.p (.as rfl) rfl <| WL.nil <| ?_
 refine W.ret (W.ret1 rfl rfl ?_)
 first
 | exact ⟨ret_int (by rw [hX]; rfl), hT1⟩
 | exact ⟨ret_int (by omega), hT1⟩
theorem law_follows (x : AC) (p : Option Addr) (l : List UInt8) (c : Nat) (w : World) (hb : BytesAt w p l) (hc : l.length ≤ c) (hl : l.length ≤ 1000000) :
  Calls Tryz.prog 19 #[.agg (acV x).toArray, .slice p l.length c] w fun e w' => e = .returned (.bool (decide (x.kind = 2) && decide (firstW l = [48]))) ∧ Below w.heap.size w w' := by
 obtain ⟨t, ht⟩ : ∃ t, t = skipAt false l 0 := ⟨_, rfl⟩
 have htl : t ≤ l.length := by rw [ht]; exact skipAt_le _ _ _
 have hwl := wordAt_le l t htl
 have hw : (l.drop t).take (wordAt l t - t) = firstW l := by rw [word_take, ht, skipAt_drop, List.drop_zero]; rfl
 refine W.enter func19 rfl ntmps19 (Nat.le_of_ble_eq_true rfl) ?_
 have hB0 := Below.refl (w.heap.size) w
 refine W.seq <| W.reg <| WL.box rfl rfl (fun b1 wb1 eb1 hkb1 hub1 hsb1 => ?_)
 have hvl3 := fun h0 => eb1 ▸ hb.lt h0
 have hv2 := BytesAt.upd hb hub1 (fun h0 => Nat.ne_of_lt (hvl3 h0))
 have hB4 := Upd.below hB0 (by rw [eb1]; exact hB0.size) hub1
 have hgeb1 : w.heap.size ≤ b1 := by rw [eb1]; exact hB0.size
 refine WL.p (.as rfl) rfl <| WL.nil <| ?_
 refine W.seq <| W.reg <| WL.p (.mv rfl) rfl <| WL.c1 hb14 rfl rfl ((by have := ref_Skip p l c 0 _ hv2 (Nat.zero_le _) (by omega); rw [← ht] at this; exact this)) (fun w5 hw5 => ?_)
 obtain rfl := hw5
 refine WL.p (.as rfl) rfl <| WL.nil <| ?_
 refine W.seq <| W.reg <| WL.p (.mv rfl) rfl <| WL.p (.mv rfl) rfl <| WL.c1 hb12 rfl rfl ((ref_Word p l c t _ hv2 htl (by omega))) (fun w6 hw6 => ?_)
 obtain rfl := hw6
 refine WL.p (.as rfl) rfl <| WL.nil <| ?_
 refine W.seq <| W.reg <| WL.p (.fa underlying31 rfl sizeOf3 (by decide) rfl) rfl <| WL.r (Rd.ld (isAgg3 _) rfl hkb1 rfl) rfl <| WL.p (.eql rfl rfl) rfl <| WL.p (.mv rfl) rfl <| WL.gd rfl rfl rfl (fun g7 => ?_) (fun g7 => ?_)
 ·
  have g7' := of_decide_eq_true g7
  refine WL.p (.mv rfl) rfl <| WL.gy rfl rfl rfl g7 <| WL.p (.mv rfl) rfl <| WL.gy rfl rfl rfl g7 <| WL.p (.mv rfl) rfl <| WL.gy rfl rfl rfl g7 <| WL.p (.slb underlying22 sizeOf5 rfl rfl rfl  (t) (wordAt l t) (rfl) (by omega) (by omega) (by omega)) rfl <| WL.gy rfl rfl rfl g7 <| WL.r (Rd.b2sPart underlying22 underlying5 underlying9 rfl rfl hv2 (by omega) (by omega) (by omega)) rfl <| WL.gy rfl rfl rfl g7 <| WL.p (.eqs rfl rfl) rfl <| WL.p (.pkT rfl g7 rfl) rfl <| WL.p (.as rfl) rfl <| WL.nil <| ?_
  refine W.ret (W.ret1 rfl rfl ?_)
  first
  | exact ⟨ret_bool (by rw [show decide (x.kind = 2) = true from decide_eq_true (by assumption), Bool.true_and, ← hw]), hB4⟩
  | exact ⟨ret_bool (by rw [show decide (x.kind = 2) = false from decide_eq_false (by assumption), Bool.false_and]), hB4⟩
 have g7' := of_decide_eq_false g7
 refine WL.gn rfl rfl rfl g7 <| WL.gn rfl rfl rfl g7 <| WL.gn rfl rfl rfl g7 <| WL.gn rfl rfl rfl g7 <| WL.gn rfl rfl rfl g7 <| WL.p (.pkF rfl g7 rfl) rfl <| WL.p (.as rfl) rfl <| WL.nil <| ?_
 refine W.ret (W.ret1 rfl rfl ?_)
 first
 | exact ⟨ret_bool (by rw [show decide (x.kind = 2) = true from decide_eq_true (by assumption), Bool.true_and, ← hw]), hB4⟩
 | exact ⟨ret_bool (by rw [show decide (x.kind = 2) = false from decide_eq_false (by assumption), Bool.false_and]), hB4⟩
end Go.Proofs.YtjghbcjnplcleaaGreatDoor

namespace Go.Proofs.YtjghbcjnplcleaaGreatDoor
open Go.Proofs.Tryz
open Go.RowKit
/-- what Object answers: object, place, error -/
def objT (l : List UInt8) (a d : Int) : PV × Int × Int :=
 if a < 0 ∨ (l.length : Int) < a then (pv0 0 0 [], 0, 21)
 else if skipAt false l a.toNat < l.length then
  (match objP true l d.toNat (skipAt false l a.toNat) with
   | .ok (o, t') => (o, t', 0)
   | .error k => (pv0 0 0 [], 0, k))
 else (pv0 0 0 [], 0, 26)
/-- an answer of Object as it lies in memory, in blocks from B on -/
def ObjA (B : Nat) (R : PV × Int × Int) (e : Ending) (w' : World) : Prop :=
 ∃ x : PC, e = .returned (.tuple #[.agg (pcV x).toArray, .int .i64 R.2.1, .int .i64 R.2.2]) ∧ PRep w' (fun k => B ≤ k) x R.1
theorem plex_Object (p : Option Addr) (l : List UInt8) (c : Nat) (a d : Int) (w : World) (hb : BytesAt w p l) (hc : l.length ≤ c) (hl : l.length ≤ 100000000) (hd : -9223372036854775808 < d ∧ d ≤ 1000000000) :
    Calls Tryz.prog 18 #[.slice p l.length c, .int .i64 a, .int .i64 d] w fun e w' => ObjA w.heap.size (objT l a d) e w' ∧ Below w.heap.size w w' := by
  obtain ⟨R, hR⟩ : ∃ R, R = objT l a d := ⟨_, rfl⟩
  rw [← hR]
  unfold objT at hR
  obtain ⟨t, ht⟩ : ∃ t, t = skipAt false l (insA l a) := ⟨_, rfl⟩
  have hSk : ∀ w1, BytesAt w1 p l → Calls Tryz.prog 13 #[.slice p l.length c, .int .i64 a] w1 fun e w' => e = .returned (.int .i64 (t : Int)) ∧ w1 = w' := fun w1 h1 => by rw [ht]; exact plex_Skip p l c a w1 h1 hl
  have htl : t ≤ l.length := by rw [ht]; exact skipAt_le _ _ _
  have hta : ¬ (a < 0 ∨ (l.length : Int) < a) → skipAt false l a.toNat = t := fun h => by rw [ht]; unfold insA; rw [if_neg h]
  refine W.enterD func18 rfl ntmps18 (Nat.le_of_ble_eq_true rfl) ?_
  have hB0 := Below.refl (w.heap.size) w
  refine WD.seq ?_
  refine W.reg <| WL.alloc zeroValue31 rfl (fun b1 wb1 eb1 hkb1 hub1 hsb1 => ?_)
  have hvl3 := fun h0 => eb1 ▸ hb.lt h0
  have hv2 := BytesAt.upd hb hub1 (fun h0 => Nat.ne_of_lt (hvl3 h0))
  have hB4 := Upd.below hB0 (by rw [eb1]; exact hB0.size) hub1
  have hgeb1 : w.heap.size ≤ b1 := by rw [eb1]; exact hB0.size
  refine WL.alloc zeroValue3 rfl (fun b5 wb5 eb5 hkb5 hub5 hsb5 => ?_)
  have hl7 : b1 < b5 := by rw [eb5]; exact hkb1.lt
  have hk6 := hkb1.upd hub5 (Nat.ne_of_lt hl7)
  have hvl9 := fun h0 => eb5 ▸ hv2.lt h0
  have hv8 := BytesAt.upd hv2 hub5 (fun h0 => Nat.ne_of_lt (hvl9 h0))
  have hB10 := Upd.below hB4 (by rw [eb5]; exact hB4.size) hub5
  have hgeb5 : w.heap.size ≤ b5 := by rw [eb5]; exact hB4.size
  refine WL.alloc zeroValue35 rfl (fun b11 wb11 eb11 hkb11 hub11 hsb11 => ?_)
  have hl13 : b1 < b11 := by rw [eb11]; exact hk6.lt
  have hk12 := hk6.upd hub11 (Nat.ne_of_lt hl13)
  have hl15 : b5 < b11 := by rw [eb11]; exact hkb5.lt
  have hk14 := hkb5.upd hub11 (Nat.ne_of_lt hl15)
  have hvl17 := fun h0 => eb11 ▸ hv8.lt h0
  have hv16 := BytesAt.upd hv8 hub11 (fun h0 => Nat.ne_of_lt (hvl17 h0))
  have hB18 := Upd.below hB10 (by rw [eb11]; exact hB10.size) hub11
  have hgeb11 : w.heap.size ≤ b11 := by rw [eb11]; exact hB10.size
  refine WL.nil <| ?_
  refine WD.seq ?_
  refine W.cutB 17 (decide (a < 0 ∨ (l.length : Int) < a)) ?_ ?_
  · skip
    refine W.reg <| WL.p (.mv rfl) rfl <| WL.p (.lss rfl rfl) rfl <| WL.p (.mv rfl) rfl <| WL.gd rfl rfl rfl (fun g19 => ?_) (fun g19 => ?_)
    · have g19' := of_decide_eq_false g19
      refine WL.p (.mv rfl) rfl <| WL.gy rfl rfl rfl g19 <| WL.p (.mv rfl) rfl <| WL.gy rfl rfl rfl g19 <| WL.p (.lenS underlying22 rfl) rfl <| WL.gy rfl rfl rfl g19 <| WL.p (.gtr rfl rfl) rfl <| WL.p (.pkF rfl g19 rfl) rfl <| WL.nil <| ?_
      exact ⟨⟨lk_b rfl (by first | (simp; omega) | (exfalso; simp_all; omega) | (exfalso; omega)), by repeat (first | exact Le.refl _ | refine Le.cons rfl ?_)⟩, rfl⟩
    have g19' := of_decide_eq_true g19
    refine WL.gn rfl rfl rfl g19 <| WL.gn rfl rfl rfl g19 <| WL.gn rfl rfl rfl g19 <| WL.p (.pkT rfl g19 rfl) rfl <| WL.nil <| ?_
    exact ⟨⟨lk_b rfl (by first | (simp; omega) | (exfalso; simp_all; omega) | (exfalso; omega)), by repeat (first | exact Le.refl _ | refine Le.cons rfl ?_)⟩, rfl⟩
  refine W.cond rfl (fun h20 => ?_) (fun h20 => ?_)
  · have h20' := of_decide_eq_true h20
    rw [if_pos (by assumption)] at hR
    subst hR
    refine W.seq <| W.reg <| WL.p (.buildL (ps := _) blt31 rfl rfl rfl (by simp only [put1, List.map, List.zip, List.zipWith] <;> rfl)) rfl ?_
    refine WL.stL rfl rfl hk12 isz31 rfl rfl (fun w21 hkw21 huw21 hsw21 => ?_)
    have hk22 := hk14.upd huw21 (by ((try simp only) <;> omega))
    have hk23 := hkb11.upd huw21 (by ((try simp only) <;> omega))
    have hB25 := Upd.below hB18 (by omega) huw21
    refine WL.st sizeOf3 rfl rfl rfl hk22 (by first | decide | exact Nat.le_of_ble_eq_true rfl) (fun w26 hkw26 huw26 hsw26 => ?_)
    have hkw26 : Blk w26 b5 _ _ := hkw26
    have huw26 : Upd b5 _ _ := huw26
    have hk27 := hkw21.upd huw26 (by ((try simp only) <;> omega))
    have hk28 := hk23.upd huw26 (by ((try simp only) <;> omega))
    have hB30 := Upd.below hB25 (by omega) huw26
    refine WL.st sizeOf35 rfl rfl rfl hk28 (by first | decide | exact Nat.le_of_ble_eq_true rfl) (fun w31 hkw31 huw31 hsw31 => ?_)
    have hkw31 : Blk w31 b11 _ _ := hkw31
    have huw31 : Upd b11 _ _ := huw31
    have hk32 := hk27.upd huw31 (by ((try simp only) <;> omega))
    have hk33 := hkw26.upd huw31 (by ((try simp only) <;> omega))
    have hB35 := Upd.below hB30 (by omega) huw31
    refine WL.nil <| ?_
    refine W.ret ?_
    first
    | exact PostD.ret hb41 (fun w' => _) (plex_quiet b1 b5 b11 _ hkw31) (fun w' hS => by subst hS; exact ⟨_, ResOk.cells3 rfl rfl rfl rfl (ldRow hk32 underlying31 rfl isz31) (ldCell hk33 (isAgg3 _) rfl) (ldCell hkw31 (isAgg35 _) rfl), ⟨x1, ret_val rfl, (FACT).mono (fun k hk _ => hk.2)⟩, hB35⟩)
    | exact PostD.ret0 (ResOk.cells3 rfl rfl rfl rfl (ldRow hk32 underlying31 rfl isz31) (ldCell hk33 (isAgg3 _) rfl) (ldCell hkw31 (isAgg35 _) rfl)) ⟨⟨pc0 0 0 [], ret_val rfl, PRep.zero _ _ _ _ _⟩, hB35⟩
  have h20' := of_decide_eq_false h20
  rw [if_neg (by assumption), hta (by assumption)] at hR
  refine W.skip ?_
  refine WD.seq ?_
  refine W.reg <| WL.p (.mv rfl) rfl <| WL.p (.mv rfl) rfl <| WL.c1 hb13 rfl rfl ((hSk _ hv16)) (fun w36 hw36 => ?_)
  obtain rfl := hw36
  refine WL.p (.as rfl) rfl <| WL.nil <| ?_
  refine WD.seq ?_
  refine W.seq <| W.reg <| WL.p (.mv rfl) rfl <| WL.p (.mv rfl) rfl <| WL.p (.lenS underlying22 rfl) rfl <| WL.p (.eql rfl rfl) rfl <| WL.nil <| ?_
  refine W.cond rfl (fun h37 => ?_) (fun h37 => ?_)
  · have h37' := of_decide_eq_true h37
    rw [if_neg (by omega)] at hR
    subst hR
    refine W.seq <| W.reg <| WL.p (.buildL (ps := _) blt31 rfl rfl rfl (by simp only [put1, List.map, List.zip, List.zipWith] <;> rfl)) rfl ?_
    refine WL.stL rfl rfl hk12 isz31 rfl rfl (fun w38 hkw38 huw38 hsw38 => ?_)
    have hk39 := hk14.upd huw38 (by ((try simp only) <;> omega))
    have hk40 := hkb11.upd huw38 (by ((try simp only) <;> omega))
    have hB42 := Upd.below hB18 (by omega) huw38
    refine WL.st sizeOf3 rfl rfl rfl hk39 (by first | decide | exact Nat.le_of_ble_eq_true rfl) (fun w43 hkw43 huw43 hsw43 => ?_)
    have hkw43 : Blk w43 b5 _ _ := hkw43
    have huw43 : Upd b5 _ _ := huw43
    have hk44 := hkw38.upd huw43 (by ((try simp only) <;> omega))
    have hk45 := hk40.upd huw43 (by ((try simp only) <;> omega))
    have hB47 := Upd.below hB42 (by omega) huw43
    refine WL.st sizeOf35 rfl rfl rfl hk45 (by first | decide | exact Nat.le_of_ble_eq_true rfl) (fun w48 hkw48 huw48 hsw48 => ?_)
    have hkw48 : Blk w48 b11 _ _ := hkw48
    have huw48 : Upd b11 _ _ := huw48
    have hk49 := hk44.upd huw48 (by ((try simp only) <;> omega))
    have hk50 := hkw43.upd huw48 (by ((try simp only) <;> omega))
    have hB52 := Upd.below hB47 (by omega) huw48
    refine WL.nil <| ?_
    refine W.ret ?_
    first
    | exact PostD.ret hb41 (fun w' => _) (plex_quiet b1 b5 b11 _ hkw48) (fun w' hS => by subst hS; exact ⟨_, ResOk.cells3 rfl rfl rfl rfl (ldRow hk49 underlying31 rfl isz31) (ldCell hk50 (isAgg3 _) rfl) (ldCell hkw48 (isAgg35 _) rfl), ⟨x1, ret_val rfl, (FACT).mono (fun k hk _ => hk.2)⟩, hB52⟩)
    | exact PostD.ret0 (ResOk.cells3 rfl rfl rfl rfl (ldRow hk49 underlying31 rfl isz31) (ldCell hk50 (isAgg3 _) rfl) (ldCell hkw48 (isAgg35 _) rfl)) ⟨⟨pc0 0 0 [], ret_val rfl, PRep.zero _ _ _ _ _⟩, hB52⟩
  have h37' := of_decide_eq_false h37
  have htlt : t < l.length := by omega
  rw [if_pos htlt] at hR
  refine W.skip ?_
  refine WD.defer rfl rfl ?_
  refine WD.of ?_
  refine W.seq <| W.reg <| WL.p (.mv rfl) rfl <| WL.p (.mv rfl) rfl <| ?_
  refine WL.p (.buildL (ps := _) blt63 rfl rfl rfl (by simp only [put1, List.map, List.zip, List.zipWith, List.set] <;> rfl)) rfl ?_
  refine WL.box rfl rfl (fun b53 wb53 eb53 hkb53 hub53 hsb53 => ?_)
  have hl55 : b1 < b53 := by rw [eb53]; exact hk12.lt
  have hk54 := hk12.upd hub53 (Nat.ne_of_lt hl55)
  have hl57 : b5 < b53 := by rw [eb53]; exact hk14.lt
  have hk56 := hk14.upd hub53 (Nat.ne_of_lt hl57)
  have hl59 : b11 < b53 := by rw [eb53]; exact hkb11.lt
  have hk58 := hkb11.upd hub53 (Nat.ne_of_lt hl59)
  have hvl61 := fun h0 => eb53 ▸ hv16.lt h0
  have hv60 := BytesAt.upd hv16 hub53 (fun h0 => Nat.ne_of_lt (hvl61 h0))
  have hB62 := Upd.below hB18 (by rw [eb53]; exact hB18.size) hub53
  have hgeb53 : w.heap.size ≤ b53 := by rw [eb53]; exact hB18.size
  refine WL.p (.as rfl) rfl <| WL.nil <| ?_
  refine W.seq <| W.reg <| WL.p (.mv rfl) rfl <| WL.p (.mv rfl) rfl <| WL.cx hb43 rfl rfl ((ObjC_all p l c true hc hl d.toNat d (Nat.le_refl _) hd b53 t _ ⟨hkb53, hv60⟩ (fun h0 => by have := hb.lt h0; omega) htlt)) (fun k65 w63 hrw63 hw63 => ?_) (fun a64 x66 w63 hrw63 hw63 => ?_)
  · skip
    have hBew63 := Below.trans hB62 (Touch.below hw63 hB62.size (by omega))
    exact PostD.caught hb41 (fun w' => _) (plex_caught b1 b5 b11 w.heap.size _ _ _ _ _ _ _ _ k65 _ (Blk.touch hk54 hw63 hk54.lt (by omega)) (Blk.touch hk56 hw63 hk56.lt (by omega)) (Blk.touch hk58 hw63 hk58.lt (by omega)) (by omega) (by omega) (by omega) (objP_err true l _ _ _ hrw63).ne)
      (fun w' hS => ⟨_, ResOk.cells3 rfl rfl rfl rfl (ldRow hS.1 underlying31 rfl isz31) (ldCell hS.2.1 (isAgg3 _) rfl) (ldCell hS.2.2.1 (isAgg35 _) rfl), ⟨pc0 0 0 [], ret_val (by rw [hR, show objP true l d.toNat t = _ from hrw63]; rfl), by rw [hR, show objP true l d.toNat t = _ from hrw63]; exact PRep.zero _ _ _ _ _⟩, hBew63.trans hS.2.2.2⟩)
  have hrr := hrw63
  obtain ⟨oX, tX⟩ := a64
  obtain ⟨x1, rfl, hpx, hrd1, hT1⟩ := hw63
  have hpx1 := hpx.mono (T := fun k => b53 < k ∧ w.heap.size ≤ k) (fun k hk _ => by have h1 := (hkb53).lt; have h2 := hB62.size; omega)
  have hk61 := Blk.touch hk54 hT1 (hk54).lt (by omega)
  have hk71 := Blk.touch hk56 hT1 (hk56).lt (by omega)
  have hk81 := Blk.touch hk58 hT1 (hk58).lt (by omega)
  have hB1 := Below.trans hB62 (Touch.below hT1 hB62.size (by omega))
  have hr1 := hrd1.1
  rw [show objP true l d.toNat t = _ from hrr] at hR
  subst hR
  refine WL.stL rfl rfl hk61 isz31 rfl rfl (fun w67 hkw67 huw67 hsw67 => ?_)
  have hF68 := PRep.same (w1 := w67) hpx1 (fun k hk hl => huw67.other k (by first | ((try simp only) <;> omega) | (have := hk.1; ((try simp only) <;> omega))))
  have hk69 := hk71.upd huw67 (by ((try simp only) <;> omega))
  have hk70 := hk81.upd huw67 (by ((try simp only) <;> omega))
  have hk71 := hr1.upd huw67 (by ((try simp only) <;> omega))
  have hB73 := Upd.below hB1 (by omega) huw67
  refine WL.nil <| ?_
  refine W.seq ?_
  refine W.noPn ?_
  refine W.regY 8 rfl mixed (fun w74 dw74 => ?_)
  have hF75 := PRep.same (w1 := w74) hF68 (fun k hk hl => (by obtain ⟨m, rfl⟩ := dw74; rfl))
  have hk76 := hkw67.drew dw74
  have hk77 := hk69.drew dw74
  have hk78 := hk70.drew dw74
  have hk79 := hk71.drew dw74
  have hB81 := Drew.below hB73 dw74
  refine WY.tk 1 rfl (.mv rfl) rfl ?_
  refine WY.tk 2 rfl (.nck rfl) rfl ?_
  refine WY.tk 3 rfl (.fa underlying63 rfl sizeOf3 (by decide) rfl) rfl ?_
  refine WY.br2 0 rfl 4 rfl ?_ ?_
  · skip
    refine WL.r (Rd.ldA rfl hk76 underlying31 rfl isz31) rfl <| WL.nil <| ?_
    refine WY.br2 4 rfl 5 rfl ?_ ?_
    · skip
      refine WL.r (Rd.ld (isAgg3 _) rfl hk79 rfl) rfl <| WL.nil <| ?_
      refine WY.br1 5 rfl ?_
      refine WL.stL rfl rfl hk76 isz31 rfl rfl (fun w82 hkw82 huw82 hsw82 => ?_)
      have hF83 := PRep.same (w1 := w82) hF75 (fun k hk hl => huw82.other k (by first | ((try simp only) <;> omega) | (have := hk.1; ((try simp only) <;> omega))))
      have hk84 := hk77.upd huw82 (by ((try simp only) <;> omega))
      have hk85 := hk78.upd huw82 (by ((try simp only) <;> omega))
      have hB88 := Upd.below hB81 (by omega) huw82
      refine WL.nil <| ?_
      refine WY.br1 6 rfl ?_
      refine WL.st sizeOf3 rfl rfl rfl hk84 (by first | decide | exact Nat.le_of_ble_eq_true rfl) (fun w89 hkw89 huw89 hsw89 => ?_)
      have hkw89 : Blk w89 b5 _ _ := hkw89
      have huw89 : Upd b5 _ _ := huw89
      have hF90 := PRep.same (w1 := w89) hF83 (fun k hk hl => huw89.other k (by first | ((try simp only) <;> omega) | (have := hk.1; ((try simp only) <;> omega))))
      have hk91 := hkw82.upd huw89 (by ((try simp only) <;> omega))
      have hk92 := hk85.upd huw89 (by ((try simp only) <;> omega))
      have hB95 := Upd.below hB88 (by omega) huw89
      refine WL.nil <| ?_
      refine WY.br1 7 rfl ?_
      refine WL.st sizeOf35 rfl rfl rfl hk92 (by first | decide | exact Nat.le_of_ble_eq_true rfl) (fun w96 hkw96 huw96 hsw96 => ?_)
      have hkw96 : Blk w96 b11 _ _ := hkw96
      have huw96 : Upd b11 _ _ := huw96
      have hF97 := PRep.same (w1 := w96) hF90 (fun k hk hl => huw96.other k (by first | ((try simp only) <;> omega) | (have := hk.1; ((try simp only) <;> omega))))
      have hk98 := hk91.upd huw96 (by ((try simp only) <;> omega))
      have hk99 := hkw89.upd huw96 (by ((try simp only) <;> omega))
      have hB102 := Upd.below hB95 (by omega) huw96
      refine WL.nil <| ?_
      refine WY.done (by kernel_rfl) ?_
      refine W.ret ?_
      first
      | exact PostD.ret hb41 (fun w' => _) (plex_quiet b1 b5 b11 _ hkw96) (fun w' hS => by subst hS; exact ⟨_, ResOk.cells3 rfl rfl rfl rfl (ldRow hk98 underlying31 rfl isz31) (ldCell hk99 (isAgg3 _) rfl) (ldCell hkw96 (isAgg35 _) rfl), ⟨x1, ret_val rfl, (hF97).mono (fun k hk _ => hk.2)⟩, hB102⟩)
      | exact PostD.ret0 (ResOk.cells3 rfl rfl rfl rfl (ldRow hk98 underlying31 rfl isz31) (ldCell hk99 (isAgg3 _) rfl) (ldCell hkw96 (isAgg35 _) rfl)) ⟨⟨pc0 0 0 [], ret_val rfl, PRep.zero _ _ _ _ _⟩, hB102⟩
    refine WL.stL rfl rfl hk76 isz31 rfl rfl (fun w103 hkw103 huw103 hsw103 => ?_)
    have hF104 := PRep.same (w1 := w103) hF75 (fun k hk hl => huw103.other k (by first | ((try simp only) <;> omega) | (have := hk.1; ((try simp only) <;> omega))))
    have hk105 := hk77.upd huw103 (by ((try simp only) <;> omega))
    have hk106 := hk78.upd huw103 (by ((try simp only) <;> omega))
    have hk107 := hk79.upd huw103 (by ((try simp only) <;> omega))
    have hB109 := Upd.below hB81 (by omega) huw103
    refine WL.nil <| ?_
    refine WY.br1 4 rfl ?_
    refine WL.r (Rd.ld (isAgg3 _) rfl hk107 rfl) rfl <| WL.nil <| ?_
    refine WY.br1 6 rfl ?_
    refine WL.st sizeOf3 rfl rfl rfl hk105 (by first | decide | exact Nat.le_of_ble_eq_true rfl) (fun w110 hkw110 huw110 hsw110 => ?_)
    have hkw110 : Blk w110 b5 _ _ := hkw110
    have huw110 : Upd b5 _ _ := huw110
    have hF111 := PRep.same (w1 := w110) hF104 (fun k hk hl => huw110.other k (by first | ((try simp only) <;> omega) | (have := hk.1; ((try simp only) <;> omega))))
    have hk112 := hkw103.upd huw110 (by ((try simp only) <;> omega))
    have hk113 := hk106.upd huw110 (by ((try simp only) <;> omega))
    have hB116 := Upd.below hB109 (by omega) huw110
    refine WL.nil <| ?_
    refine WY.br1 7 rfl ?_
    refine WL.st sizeOf35 rfl rfl rfl hk113 (by first | decide | exact Nat.le_of_ble_eq_true rfl) (fun w117 hkw117 huw117 hsw117 => ?_)
    have hkw117 : Blk w117 b11 _ _ := hkw117
    have huw117 : Upd b11 _ _ := huw117
    have hF118 := PRep.same (w1 := w117) hF111 (fun k hk hl => huw117.other k (by first | ((try simp only) <;> omega) | (have := hk.1; ((try simp only) <;> omega))))
    have hk119 := hk112.upd huw117 (by ((try simp only) <;> omega))
    have hk120 := hkw110.upd huw117 (by ((try simp only) <;> omega))
    have hB123 := Upd.below hB116 (by omega) huw117
    refine WL.nil <| ?_
    refine WY.done (by kernel_rfl) ?_
    refine W.ret ?_
    first
    | exact PostD.ret hb41 (fun w' => _) (plex_quiet b1 b5 b11 _ hkw117) (fun w' hS => by subst hS; exact ⟨_, ResOk.cells3 rfl rfl rfl rfl (ldRow hk119 underlying31 rfl isz31) (ldCell hk120 (isAgg3 _) rfl) (ldCell hkw117 (isAgg35 _) rfl), ⟨x1, ret_val rfl, (hF118).mono (fun k hk _ => hk.2)⟩, hB123⟩)
    | exact PostD.ret0 (ResOk.cells3 rfl rfl rfl rfl (ldRow hk119 underlying31 rfl isz31) (ldCell hk120 (isAgg3 _) rfl) (ldCell hkw117 (isAgg35 _) rfl)) ⟨⟨pc0 0 0 [], ret_val rfl, PRep.zero _ _ _ _ _⟩, hB123⟩
  refine WL.r (Rd.ld (isAgg3 _) rfl hk79 rfl) rfl <| WL.nil <| ?_
  refine WY.br1 0 rfl ?_
  refine WL.r (Rd.ldA rfl hk76 underlying31 rfl isz31) rfl <| WL.nil <| ?_
  refine WY.br1 5 rfl ?_
  refine WL.stL rfl rfl hk76 isz31 rfl rfl (fun w124 hkw124 huw124 hsw124 => ?_)
  have hF125 := PRep.same (w1 := w124) hF75 (fun k hk hl => huw124.other k (by first | ((try simp only) <;> omega) | (have := hk.1; ((try simp only) <;> omega))))
  have hk126 := hk77.upd huw124 (by ((try simp only) <;> omega))
  have hk127 := hk78.upd huw124 (by ((try simp only) <;> omega))
  have hB130 := Upd.below hB81 (by omega) huw124
  refine WL.nil <| ?_
  refine WY.br1 6 rfl ?_
  refine WL.st sizeOf3 rfl rfl rfl hk126 (by first | decide | exact Nat.le_of_ble_eq_true rfl) (fun w131 hkw131 huw131 hsw131 => ?_)
  have hkw131 : Blk w131 b5 _ _ := hkw131
  have huw131 : Upd b5 _ _ := huw131
  have hF132 := PRep.same (w1 := w131) hF125 (fun k hk hl => huw131.other k (by first | ((try simp only) <;> omega) | (have := hk.1; ((try simp only) <;> omega))))
  have hk133 := hkw124.upd huw131 (by ((try simp only) <;> omega))
  have hk134 := hk127.upd huw131 (by ((try simp only) <;> omega))
  have hB137 := Upd.below hB130 (by omega) huw131
  refine WL.nil <| ?_
  refine WY.br1 7 rfl ?_
  refine WL.st sizeOf35 rfl rfl rfl hk134 (by first | decide | exact Nat.le_of_ble_eq_true rfl) (fun w138 hkw138 huw138 hsw138 => ?_)
  have hkw138 : Blk w138 b11 _ _ := hkw138
  have huw138 : Upd b11 _ _ := huw138
  have hF139 := PRep.same (w1 := w138) hF132 (fun k hk hl => huw138.other k (by first | ((try simp only) <;> omega) | (have := hk.1; ((try simp only) <;> omega))))
  have hk140 := hk133.upd huw138 (by ((try simp only) <;> omega))
  have hk141 := hkw131.upd huw138 (by ((try simp only) <;> omega))
  have hB144 := Upd.below hB137 (by omega) huw138
  refine WL.nil <| ?_
  refine WY.done (by kernel_rfl) ?_
  refine W.ret ?_
  first
  | exact PostD.ret hb41 (fun w' => _) (plex_quiet b1 b5 b11 _ hkw138) (fun w' hS => by subst hS; exact ⟨_, ResOk.cells3 rfl rfl rfl rfl (ldRow hk140 underlying31 rfl isz31) (ldCell hk141 (isAgg3 _) rfl) (ldCell hkw138 (isAgg35 _) rfl), ⟨x1, ret_val rfl, (hF139).mono (fun k hk _ => hk.2)⟩, hB144⟩)
  | exact PostD.ret0 (ResOk.cells3 rfl rfl rfl rfl (ldRow hk140 underlying31 rfl isz31) (ldCell hk141 (isAgg3 _) rfl) (ldCell hkw138 (isAgg35 _) rfl)) ⟨⟨pc0 0 0 [], ret_val rfl, PRep.zero _ _ _ _ _⟩, hB144⟩
end Go.Proofs.YtjghbcjnplcleaaGreatDoor

namespace Go.Proofs.YtjghbcjnplcleaaGreatDoor
open Go.Proofs.Tryz
theorem objT_in {l : List UInt8} {a : Nat} {d : Int} {t : Nat} (ha : a ≤ l.length) (hs : skipAt false l a = t) (ht : t < l.length) : objT l a d = match objP true l d.toNat t with | .ok (o, t') => (o, (t' : Int), 0) | .error k => (pv0 0 0 [], 0, k) := by
 unfold objT
 rw [if_neg (by omega), show (a : Int).toNat = a from rfl, hs, if_pos ht]
 all_goals (cases objP true l d.toNat t <;> rfl)
theorem skip_print {D : Int} {st : Bool} {o : AV} (h : Snd D st o) {l rest : List UInt8} {a : Nat} (ha : a ≤ l.length) (hl : l.drop a = prO o ++ rest) : skipAt false l a = a ∧ a < l.length := by
 obtain ⟨c, r, e, hc⟩ := pr_head h
 have hb := headB_f hc
 have hlen := congrArg List.length hl
 rw [List.length_drop, e, List.cons_append, List.length_cons] at hlen
 refine ⟨?_, by omega⟩
 have := (skip_at (l := l) (t := a) (x := l.drop a) (by rw [hl]; exact pr_skip h rest)).1
 rw [List.length_drop] at this
 omega
theorem objT_print {D : Int} {st : Bool} {o : AV} (h : Snd D st o) (h9 : o.kind ≠ 9) {l rest : List UInt8} {a : Nat} (ha : a ≤ l.length) (hl : l.drop a = prO o ++ rest) (hb : Bnd rest) (hn : NoR o.kind rest) (d : Int) :
  objT l a d = if dpO o ≤ d.toNat then (pvO o, ((l.length - rest.length : Nat) : Int), 0) else (pv0 0 0 [], 0, 25) := by
 obtain ⟨h1, h2⟩ := skip_print h ha hl
 rw [objT_in ha h1 h2, reads h h9 l a rest d.toNat ha hl hb hn]
 by_cases hd : dpO o ≤ d.toNat
 ·
  rw [if_pos hd, if_pos hd]
 ·
  rw [if_neg hd, if_neg hd]
/-- read at a place: the object itself, or a number that begins a reference -/
theorem back_case {st : Bool} {o : AV} (h : Snd 32 st o) (h9 : o.kind ≠ 9) (ahead behind : List UInt8) :
    objT (ahead ++ prO o ++ [32] ++ behind) ahead.length 32 = (pvO o, ((ahead.length + (prO o).length : Nat) : Int), 0) ∨
      (o.kind = 2 ∧ firstW behind = [48] ∧ ∃ n t, objT (ahead ++ prO o ++ [32] ++ behind) ahead.length 32 = (pv0 8 n [], t, 0)) := by
  obtain ⟨L, hL⟩ : ∃ L, L = ahead ++ prO o ++ [32] ++ behind := ⟨_, rfl⟩
  have hdrop : L.drop ahead.length = prO o ++ (32 :: behind) := by
    rw [hL, List.append_assoc, List.append_assoc, List.drop_left]; simp
  have hle : ahead.length ≤ L.length := by rw [hL]; simp only [List.length_append]; omega
  have hlen : L.length - (32 :: behind).length = ahead.length + (prO o).length := by rw [hL]; simp only [List.length_append, List.length_cons, List.length_nil]; omega
  have hdp := dp_le h
  have hb : Bnd (32 :: behind) := Bnd.cons (by decide)
  rw [← hL]
  by_cases hn : NoR o.kind (32 :: behind)
  · left
    rw [objT_print h h9 hle hdrop hb hn 32, if_pos (by omega), hlen]
  · have h2 : o.kind = 2 ∧ firstW behind = [48] ∧ firstW (afterW behind) = [82] := by
      unfold NoR at hn
      rw [(firstW_32 behind).1, (firstW_32 behind).2] at hn
      refine ⟨?_, ?_⟩
      · exact Classical.byContradiction fun h => hn fun h' => absurd h' h
      · exact Classical.byContradiction fun h => hn fun _ => h
    obtain ⟨s1, s2⟩ := skip_print h hle hdrop
    rw [objT_in hle s1 s2]
    cases h with
    | num _ _ k n hk hf =>
      rcases hk with rfl | rfl
      · have e : prO (.mk 2 n [] [] [] []) = decL n := by simp [prO]
        rw [e] at hdrop
        obtain ⟨w1, w2, w3⟩ := word_at hle hdrop (dec_reg n hf) hb
        obtain ⟨c, r, ec, hc⟩ := dec_head n hf
        have hq := num_head hc
        rw [plain_case _ (show L.drop ahead.length = c :: (r ++ 32 :: behind) by rw [hdrop, ec]; rfl) hq.2.1 hq.2.2.1 hq.2.2.2.1 hq.2.2.2.2.1]
        cases hr : refR true L (decL n) (wordAt L ahead.length) with
        | none =>
          left
          rw [plexW_num L ahead.length 2 n _ w1 ⟨c, r, ec, hc⟩ hr (numR_dec n hf), w2, hlen, e]
          simp [plainO, pvO, pvL, pv0]
        | some q =>
          right
          obtain ⟨n', t'⟩ := q
          refine ⟨h2.1, h2.2.1, n', (t' : Int), ?_⟩
          unfold plexW
          rw [w1, if_neg (by rw [ec]; intro h; exact hq.2.2.2.2.2.1 (List.cons.inj h).1), if_neg (by rw [ec]; intro h; exact hq.2.2.2.2.2.2.1 (List.cons.inj h).1), if_neg (by rw [ec]; intro h; exact hq.2.2.2.2.2.2.2 (List.cons.inj h).1), hr]
          simp [plainO, refK, refT]
      · exact absurd h2.1 (by simp [AV.kind])
    | null => exact absurd h2.1 (by simp [AV.kind])
    | bool => exact absurd h2.1 (by simp [AV.kind])
    | name => exact absurd h2.1 (by simp [AV.kind])
    | text => exact absurd h2.1 (by simp [AV.kind])
    | ref => exact absurd h2.1 (by simp [AV.kind])
    | arr => exact absurd h2.1 (by simp [AV.kind])
    | dict _ _ k ks l d hk => rcases hk with ⟨rfl, -⟩ | ⟨rfl, -⟩ <;> exact absurd h2.1 (by simp [AV.kind])
theorem NoR.nil (k : Int) : NoR k [] := fun _ h => by cases h.1
/-- read by itself: so deep, and not less -/
theorem alone {st : Bool} {o : AV} (h : Snd 32 st o) (h9 : o.kind ≠ 9) (d : Int) : objT (prO o) 0 d = if dpO o ≤ d.toNat then (pvO o, ((prO o).length : Int), 0) else (pv0 0 0 [], 0, 25) := by
 have := objT_print h h9 (l := prO o) (rest := []) (a := 0) (Nat.zero_le _) (by simp) Bnd.nil (NoR.nil _) d
 simpa using this
end Go.Proofs.YtjghbcjnplcleaaGreatDoor

namespace Go.Proofs.YtjghbcjnplcleaaGreatDoor
open Go.Proofs.Tryz
open Go.RowKit
theorem ans_skip : skipAt false [51, 32, 48, 32, 82] 0 = 0 := by decide +kernel
theorem ans_word : plexW true [51, 32, 48, 32, 82] 0 = ⟨8, 3, [51], true, 5⟩ := by kernel_rfl
theorem answers19 (w : World) : Calls Tryz.prog 10 #[] w fun e w' => e = .returned (.bool true) ∧ Below w.heap.size w w' := by
 have hO : ∀ (q : Option Addr) (d : Nat) (w1 : World), BytesAt w1 q [51, 32, 48, 32, 82] → 5 ≤ d → Calls Tryz.prog 18 #[.slice q 5 d, .int .i64 0, .int .i64 0] w1 fun e w' => e = .returned (.tuple #[.agg (pobj 8 3 []).toArray, .int .i64 5, .int .i64 0]) ∧ Below w1.heap.size w1 w' := fun q d w1 h1 h2 => by
  have h := plex_Objw 0 0 q [51, 32, 48, 32, 82] d 0 w1 h1 h2 (by decide) (by decide) ans_skip.symm (by decide) (by decide) (by decide) (by decide) (by decide)
  rw [ans_word] at h
  exact h
 refine W.enter func10 rfl ntmps10 (Nat.le_of_ble_eq_true rfl) ?_
 have hB0 := Below.refl (w.heap.size) w
 refine W.seq <| W.reg <| WL.p (.as rfl) rfl <| WL.nil <| ?_
 refine W.seq <| W.reg <| WL.bsl (ps := _) underlying22 sizeOf5 zeroValue5 rfl rfl rfl rfl rfl (by simp only [put1, List.map, List.zip, List.zipWith, List.set, List.replicate] <;> rfl) rfl (fun b1 wb1 eb1 hkb1 hub1 hsb1 => ?_)
 have hB2 := Upd.below hB0 (by rw [eb1]; exact hB0.size) hub1
 have hgeb1 : w.heap.size ≤ b1 := by rw [eb1]; exact hB0.size
 refine WL.cvB ([51, 32, 48, 32, 82]) underlying22 underlying5 rfl hkb1 rfl rfl (fun w3 hs huw3 hsw3 => ?_)
 have hB4 := Upd.below hB2 (by omega) huw3
 refine WL.c1 hb18 rfl rfl ((hO _ _ _ hs (by decide))) (fun w5 hw5 => ?_)
 have hB7 := btr hB4 hw5
 refine WL.p (.mv rfl) rfl <| WL.p (.ext rfl rfl) rfl <| WL.p (.ext rfl rfl) rfl <| WL.p (.ext rfl rfl) rfl <| WL.alloc zeroValue31 rfl (fun b8 wb8 eb8 hkb8 hub8 hsb8 => ?_)
 have hB11 := Upd.below hB7 (by rw [eb8]; exact hB7.size) hub8
 have hgeb8 : w.heap.size ≤ b8 := by rw [eb8]; exact hB7.size
 refine WL.stL rfl rfl hkb8 isz31 rfl rfl (fun w12 hkw12 huw12 hsw12 => ?_)
 have hB14 := Upd.below hB11 (by omega) huw12
 refine WL.p (.as rfl) rfl <| WL.p (.as rfl) rfl <| WL.nil <| ?_
 refine W.seq <| W.reg <| WL.p (.mv rfl) rfl <| WL.p (.eql rfl rfl) rfl <| WL.p (.mv rfl) rfl <| WL.gy rfl rfl rfl rfl <| WL.p (.mv rfl) rfl <| WL.gy rfl rfl rfl rfl <| WL.p (.eql rfl rfl) rfl <| WL.p (.pkT rfl rfl rfl) rfl <| WL.p (.mv rfl) rfl <| WL.gy rfl rfl rfl rfl <| WL.p (.fa underlying31 rfl sizeOf3 (by decide) rfl) rfl <| WL.gy rfl rfl rfl rfl <| WL.r (Rd.ld (isAgg3 _) rfl hkw12 rfl) rfl <| WL.gy rfl rfl rfl rfl <| WL.p (.eql rfl rfl) rfl <| WL.p (.pkT rfl rfl rfl) rfl <| WL.p (.mv rfl) rfl <| WL.gy rfl rfl rfl rfl <| WL.p (.fa underlying31 rfl sizeOf3 (by decide) rfl) rfl <| WL.gy rfl rfl rfl rfl <| WL.r (Rd.ld (isAgg3 _) rfl hkw12 rfl) rfl <| WL.gy rfl rfl rfl rfl <| WL.p (.eql rfl rfl) rfl <| WL.p (.pkT rfl rfl rfl) rfl <| WL.p (.as rfl) rfl <| WL.nil <| ?_
 refine W.ret (W.ret1 rfl rfl ?_)
 exact ⟨rfl, hB14⟩
end Go.Proofs.YtjghbcjnplcleaaGreatDoor

namespace Go.Proofs.YtjghbcjnplcleaaGreatDoor
open Go.Proofs.Tryz
open Go.RowKit
theorem r18_SoundA (y : AC) (o : AV) (S : Nat → Prop) (w : World) (h : ARep w S y o) :
  Calls Tryz.prog 16 #[.agg (acV y).toArray] w fun e w' => ∃ b : { b : Bool // b = true → Snd 32 true o }, e = .returned (.bool b.1) ∧ Below w.heap.size w w' := by
 refine W.enter func16 rfl ntmps16 (Nat.le_of_ble_eq_true rfl) ?_
 have hB0 := Below.refl (w.heap.size) w
 refine W.seq <| W.reg <| WL.box rfl rfl (fun b1 wb1 eb1 hkb1 hub1 hsb1 => ?_)
 have hF2 := ARep.same (w1 := wb1) h (fun k hk hl => hub1.other k (by omega))
 have hB3 := Upd.below hB0 (by rw [eb1]; exact hB0.size) hub1
 have hgeb1 : w.heap.size ≤ b1 := by rw [eb1]; exact hB0.size
 refine WL.p (.as rfl) rfl <| WL.nil <| ?_
 refine W.seq <| W.reg <| WL.r (Rd.ldA rfl hkb1 underlying31 rfl isz31) rfl <| WL.call hb36 rfl rfl ((r18_soundA _ o (Nat.lt_succ_self _) y S 32 true _ hF2 (by decide) (by decide))) (fun sb w4 hw4 => ?_)
 have hB7 := btr hB3 hw4
 refine WL.p (.as rfl) rfl <| WL.nil <| ?_
 refine W.ret (W.ret1 rfl rfl ?_)
 exact ⟨sb, rfl, hB7⟩
theorem ARep.kind {w : World} {S : Nat → Prop} {x : AC} {o : AV} (h : ARep w S x o) : o.kind = x.kind := by
 cases h; rfl
theorem plex_ObjectR (p : Option Addr) (l : List UInt8) (c : Nat) (a d : Int) (R : PV × Int × Int) (hR : objT l a d = R) (w : World) (hb : BytesAt w p l) (hc : l.length ≤ c) (hl : l.length ≤ 100000000) (hd : -9223372036854775808 < d ∧ d ≤ 1000000000) :
  Calls Tryz.prog 18 #[.slice p l.length c, .int .i64 a, .int .i64 d] w fun e w' => ∃ x : PC, e = .returned (.tuple #[.agg (pcV x).toArray, .int .i64 R.2.1, .int .i64 R.2.2]) ∧ PRep w' (fun k => w.heap.size ≤ k) x R.1 ∧ Below w.heap.size w w' := by
 subst hR
 exact (plex_Object p l c a d w hb hc hl hd).mono fun e w' h => by obtain ⟨⟨x, h1, h2⟩, h3⟩ := h; exact ⟨x, h1, h2, h3⟩
set_option maxHeartbeats 1000000 in
theorem law_BackA (y : AC) (o : AV) (p : Option Addr) (l : List UInt8) (c : Nat) (q : Option Addr) (m : List UInt8) (d : Nat) (w : World) (hrep : ARep w (· < w.heap.size) y o) (hbk : bkO o ≤ 1048576)
  (ha : BytesAt w p l) (hc : l.length ≤ c) (hna : l = [] → c = 0 ∨ p ≠ none) (hb : BytesAt w q m) (hd : m.length ≤ d) (hnb : m = [] → d = 0 ∨ q ≠ none)
  (hT : objT (l ++ prO o ++ [32] ++ m) l.length 32 = (pvO o, ((l.length + (prO o).length : Nat) : Int), 0)) :
  Calls Tryz.prog 4 #[.agg (acV y).toArray, .slice p l.length c, .slice q m.length d] w fun e w' => e = .returned (.bool true) ∧ Below w.heap.size w w' := by
 have hkd := hrep.kind
 have hlen : ∀ hS : Snd 32 true o, (prO o).length ≤ 50000000 := fun hS => by have := pr_len hS; omega
 refine W.enter func4 rfl ntmps4 (Nat.le_of_ble_eq_true rfl) ?_
 have hB0 := Below.refl (w.heap.size) w
 refine W.seq <| W.reg <| WL.box rfl rfl (fun b1 wb1 eb1 hkb1 hub1 hsb1 => ?_)
 have hF2 := ARep.same (w1 := wb1) hrep (fun k hk hl => hub1.other k (by omega))
 have hvl4 := fun h0 => eb1 ▸ ha.lt h0
 have hv3 := BytesAt.upd ha hub1 (fun h0 => Nat.ne_of_lt (hvl4 h0))
 have hvl6 := fun h0 => eb1 ▸ hb.lt h0
 have hv5 := BytesAt.upd hb hub1 (fun h0 => Nat.ne_of_lt (hvl6 h0))
 have hB7 := Upd.below hB0 (by rw [eb1]; exact hB0.size) hub1
 have hgeb1 : w.heap.size ≤ b1 := by rw [eb1]; exact hB0.size
 refine WL.p (.as rfl) rfl <| WL.nil <| ?_
 refine W.seq <| W.seq <| W.reg <| WL.c1 hb10 rfl rfl ((answers19 _)) (fun w8 hw8 => ?_)
 have hF9 := ARep.same (w1 := w8) hF2 (fun k hk hl => hw8.block k hl)
 have hk10 := hkb1.below hw8 hkb1.lt
 have hv11 := BytesAt.below hv3 hw8 (fun h0 => hv3.lt h0)
 have hv12 := BytesAt.below hv5 hw8 (fun h0 => hv5.lt h0)
 have hB13 := btr hB7 hw8
 refine WL.p (.not rfl) rfl <| WL.p (.mv rfl) rfl <| WL.gy rfl rfl rfl rfl <| WL.r (Rd.ldA rfl hk10 underlying31 rfl isz31) rfl <| WL.gy rfl rfl rfl rfl <| WL.call hb15 rfl rfl ((law_light _ o (Nat.lt_succ_self _) y _ 40 _ hF9 (by decide) (by decide))) (fun ql w14 hw14 => ?_)
 have hF15 := ARep.same (w1 := w14) hF9 (fun k hk hl => hw14.block k hl)
 have hk16 := hk10.below hw14 hk10.lt
 have hv17 := BytesAt.below hv11 hw14 (fun h0 => hv11.lt h0)
 have hv18 := BytesAt.below hv12 hw14 (fun h0 => hv12.lt h0)
 have hB19 := btr hB13 hw14
 refine WL.gy rfl rfl rfl rfl <| WL.p (.not rfl) rfl <| WL.p (.pkF rfl rfl rfl) rfl <| WL.p (.mv rfl) rfl <| WL.gd rfl rfl rfl (fun g20 => ?_) (fun g20 => ?_)
 ·
  have g20' := (nF g20)
  refine WL.r (Rd.ldA rfl hk16 underlying31 rfl isz31) rfl <| WL.gy rfl rfl rfl (by rw [(nF g20)] <;> rfl) <| WL.call hb16 rfl rfl ((r18_SoundA y o _ _ hF15)) (fun sb w21 hw21 => ?_)
  have hF22 := ARep.same (w1 := w21) hF15 (fun k hk hl => hw21.block k hl)
  have hk23 := hk16.below hw21 hk16.lt
  have hv24 := BytesAt.below hv17 hw21 (fun h0 => hv17.lt h0)
  have hv25 := BytesAt.below hv18 hw21 (fun h0 => hv18.lt h0)
  have hB26 := btr hB19 hw21
  refine WL.gy rfl rfl rfl (by rw [(nF g20)] <;> rfl) <| WL.p (.not rfl) rfl <| WL.p (.pkF rfl (by rw [(nF g20)] <;> rfl) rfl) rfl <| WL.p (.mv rfl) rfl <| WL.gd rfl rfl rfl (fun g27 => ?_) (fun g27 => ?_)
  ·
   have g27' := (nF g27)
   refine WL.p (.fa underlying31 rfl sizeOf3 (by decide) rfl) rfl <| WL.gy rfl rfl rfl (by rw [(nF g27)] <;> rfl) <| WL.r (Rd.ld (isAgg3 _) rfl hk23 rfl) rfl <| WL.gy rfl rfl rfl (by rw [(nF g27)] <;> rfl) <| WL.p (.eql rfl rfl) rfl <| WL.p (.pkF rfl (by rw [(nF g27)] <;> rfl) rfl) rfl <| WL.p (.mv rfl) rfl <| WL.gd rfl rfl rfl (fun g28 => ?_) (fun g28 => ?_)
   ·
    have g28' := of_decide_eq_false g28
    refine WL.p (.mv rfl) rfl <| WL.gy rfl rfl rfl g28 <| WL.p (.lenS underlying22 rfl) rfl <| WL.gy rfl rfl rfl g28 <| WL.p (.gtr rfl rfl) rfl <| WL.p (.pkF rfl g28 rfl) rfl <| WL.p (.mv rfl) rfl <| WL.gd rfl rfl rfl (fun g29 => ?_) (fun g29 => ?_)
    ·
     have g29' := of_decide_eq_false g29
     refine WL.p (.mv rfl) rfl <| WL.gy rfl rfl rfl g29 <| WL.p (.lenS underlying22 rfl) rfl <| WL.gy rfl rfl rfl g29 <| WL.p (.gtr rfl rfl) rfl <| WL.p (.pkF rfl g29 rfl) rfl <| WL.nil <| ?_
     refine W.cond rfl (fun h30 => ?_) (fun h30 => ?_)
     ·
      have h30' := of_decide_eq_true h30
      refine W.seq <| W.reg <| WL.c1 hb10 rfl rfl ((answers19 _)) (fun w31 hw31 => ?_)
      have hk33 := hk23.below hw31 hk23.lt
      have hB36 := btr hB26 hw31
      refine WL.p (.as rfl) rfl <| WL.nil <| ?_
      refine W.ret (W.ret1 rfl rfl ?_)
      first
      | exact ⟨rfl, hB36⟩
      | exact ⟨ret_bool (decide_eq_true (hg (by assumption))), hB36⟩
      | exact ⟨ret_bool (by simp_all), hB36⟩
     have h30' := of_decide_eq_false h30
     refine W.skip <| W.seq ?_
     have hS : Snd 32 true o := sb.2 (by assumption)
     have h9 : o.kind ≠ 9 := by rw [hkd]; assumption
     have hL := hlen hS
     have hdp := dp_le hS
     have hal := alone hS h9 (dpO o : Int)
     have hal2 := alone hS h9 ((dpO o : Int) - 1)
     rw [if_pos (by omega)] at hal
     have hg : (dpO o : Int) ≠ 0 → (objT (prO o) 0 ((dpO o : Int) - 1)).2.2 = 25 := fun h0 => by rw [hal2, if_neg (by omega)]
     obtain ⟨R2, hR2⟩ : ∃ R, R = objT (prO o) 0 ((dpO o : Int) - 1) := ⟨_, rfl⟩
     rw [← hR2] at hg
     obtain ⟨s, hs⟩ : ∃ s, s = prO o := ⟨_, rfl⟩
     refine W.reg <| WL.r (Rd.ldA rfl hk23 underlying31 rfl isz31) rfl <| WL.c1 hb17 rfl rfl ((by have h0 := r18_PrintA _ o (Nat.lt_succ_self _) y _ 32 true _ hF22 hS (by omega); rw [← hs] at h0; exact h0)) (fun w37 hw37 => ?_)
     have hF38 := ARep.same (w1 := w37) hF22 (fun k hk hl => hw37.block k hl)
     have hk39 := hk23.below hw37 hk23.lt
     have hv40 := BytesAt.below hv24 hw37 (fun h0 => hv24.lt h0)
     have hv41 := BytesAt.below hv25 hw37 (fun h0 => hv25.lt h0)
     have hB42 := btr hB26 hw37
     refine WL.p (.as rfl) rfl <| WL.nil <| ?_
     refine W.seq ?_
     rw [← hs] at hT hL hal hR2
     refine W.reg <| WL.bsl0 underlying22 sizeOf5 rfl (fun b43 wb43 eb43 hob43 hub43 hsb43 => ?_)
     have hF44 := ARep.same (w1 := wb43) hF38 (fun k hk hl => hub43.other k (by omega))
     have hl46 : b1 < b43 := by rw [eb43]; exact hk39.lt
     have hk45 := hk39.upd hub43 (Nat.ne_of_lt hl46)
     have hvl48 := fun h0 => eb43 ▸ hv40.lt h0
     have hv47 := BytesAt.upd hv40 hub43 (fun h0 => Nat.ne_of_lt (hvl48 h0))
     have hvl50 := fun h0 => eb43 ▸ hv41.lt h0
     have hv49 := BytesAt.upd hv41 hub43 (fun h0 => Nat.ne_of_lt (hvl50 h0))
     have hB51 := Upd.below hB42 (by rw [eb43]; exact hB42.size) hub43
     have hgeb43 : w.heap.size ≤ b43 := by rw [eb43]; exact hB42.size
     have hob43 := hob43 b43 (Nat.le_refl _)
     have hleb43 : b43 ≤ wb43.heap.size := by omega
     refine WL.p (.mv rfl) rfl <| WL.appB underlying22 inf5 rfl rfl rfl hob43 rfl hv47 (by simp only [byteVals_len, List.length_append, List.length_cons, List.length_nil]; omega) (hleb43) rfl (hna) (fun v52 w53 how53 hbw53 hgw53 => ?_)
     have hk54 := hk45.below hbw53 (by omega)
     have hF55 := ARep.same hF44 (fun k hk hl => hgw53.block k hl (fun e => by have h9 := (hob43).lt k e.symm; omega))
     have hv57 := BytesAt.below hv49 hbw53 hvl50
     have hB58 := Below.trans hB51 (hbw53.mono (hgeb43))
     have hle59 := Nat.le_trans hleb43 hbw53.size
     refine WL.p (.mv rfl) rfl <| WL.appS underlying22 underlying9 inf5 rfl how53 rfl (by simp only [byteVals_len, List.length_append, List.length_cons, List.length_nil]; omega) (hle59) rfl (fun v60 w61 how61 hbw61 hgw61 => ?_)
     have hk62 := hk54.below hbw61 (by omega)
     have hF63 := ARep.same hF55 (fun k hk hl => hgw61.block k hl (fun e => by have h9 := (how53).lt k e.symm; omega))
     have hv65 := BytesAt.below hv57 hbw61 hvl50
     have hB66 := Below.trans hB58 (hbw61.mono (hgeb43))
     have ho67 := Own.cat how61
     have hle68 := Nat.le_trans hle59 hbw61.size
     refine WL.bsl (ps := _) underlying22 sizeOf5 zeroValue5 rfl rfl rfl rfl rfl (by simp only [put1, List.map, List.zip, List.zipWith, List.set, List.replicate] <;> rfl) rfl (fun b69 wb69 eb69 hkb69 hub69 hsb69 => ?_)
     have hle71 := Nat.le_trans hle68 hub69.size
     have ho70 := Own.new ho67 eb69 hub69
     have hF72 := ARep.same (w1 := wb69) hF63 (fun k hk hl => hub69.other k (by omega))
     have hl74 : b1 < b69 := by rw [eb69]; exact hk62.lt
     have hk73 := hk62.upd hub69 (Nat.ne_of_lt hl74)
     have hvl78 := fun h0 => eb69 ▸ hv65.lt h0
     have hv77 := BytesAt.upd hv65 hub69 (fun h0 => Nat.ne_of_lt (hvl78 h0))
     have hB79 := Upd.below hB66 (by rw [eb69]; exact hB66.size) hub69
     have hgeb69 : w.heap.size ≤ b69 := by rw [eb69]; exact hB66.size
     refine WL.appm underlying22 inf5 rfl rfl rfl ho70 rfl hkb69 rfl (by simp only [byteVals_len, List.length_append, List.length_cons, List.length_nil]; omega) (hle71) rfl (fun v80 w81 how81 hbw81 hgw81 => ?_)
     have hk82 := hk73.below hbw81 (by omega)
     have hF83 := ARep.same hF72 (fun k hk hl => hgw81.block k hl (fun e => by have h9 := (ho70).lt k e.symm; omega))
     have hv85 := BytesAt.below hv77 hbw81 hvl50
     have hB86 := Below.trans hB79 (hbw81.mono (hgeb43))
     have ho87 := Own.snoc how81 (32) (rfl)
     have hle88 := Nat.le_trans hle71 hbw81.size
     refine WL.p (.mv rfl) rfl <| WL.appB underlying22 inf5 rfl rfl rfl ho87 rfl hv85 (by simp only [byteVals_len, List.length_append, List.length_cons, List.length_nil]; omega) (hle88) rfl (hnb) (fun v89 w90 how90 hbw90 hgw90 => ?_)
     have hk91 := hk82.below hbw90 (by omega)
     have hF92 := ARep.same hF83 (fun k hk hl => hgw90.block k hl (fun e => by have h9 := (ho87).lt k e.symm; omega))
     have hB95 := Below.trans hB86 (hbw90.mono (hgeb43))
     have ho96 := Own.cat how90
     have hle97 := Nat.le_trans hle88 hbw90.size
     obtain ⟨pz, cz, ez, hz, hBz, hcz, hnz⟩ := Own.bytesC (l := (l ++ s ++ [32] ++ m)) ho96
     subst ez
     refine WL.p (.as rfl) rfl <| WL.nil <| ?_
     refine W.seq <| W.reg <| WL.p (.mv rfl) rfl <| WL.p (.mv rfl) rfl <| WL.p (.lenS underlying22 rfl) rfl <| WL.call hb18 rfl rfl ((plex_ObjectR _ (l ++ s ++ [32] ++ m) _ _ 32 _ hT _ hz hcz (by simp only [List.length_append, List.length_cons, List.length_nil]; omega) (by decide))) (fun x1 w98 hw98 => ?_)
     obtain ⟨hx1, hBo⟩ := hw98
     have hx2 := (hx1.rep (pwf_snd hS)).mono (T := fun k => k < w98.heap.size) (fun k hk hlt => hlt)
     rw [av_pv hS h9] at hx2
     have hfo2 := (hF92).same (fun k hk hl => hBo.block k hl)
     have hB2 := Below.trans hB95 (Below.mono hBo hB95.size)
     have hk32 := (hk91).below hBo (hk91).lt
     refine WL.p (.mv rfl) rfl <| WL.p (.ext rfl rfl) rfl <| WL.p (.ext rfl rfl) rfl <| WL.p (.ext rfl rfl) rfl <| WL.alloc zeroValue31 rfl (fun b99 wb99 eb99 hkb99 hub99 hsb99 => ?_)
     have hF100 := ARep.same (w1 := wb99) hfo2 (fun k hk hl => hub99.other k (by omega))
     have hF101 := ARep.same (w1 := wb99) hx2 (fun k hk hl => hub99.other k (by omega))
     have hl103 : b1 < b99 := by rw [eb99]; exact hk32.lt
     have hk102 := hk32.upd hub99 (Nat.ne_of_lt hl103)
     have hB104 := Upd.below hB2 (by rw [eb99]; exact hB2.size) hub99
     have hgeb99 : w.heap.size ≤ b99 := by rw [eb99]; exact hB2.size
     refine WL.stL rfl rfl hkb99 isz31 rfl rfl (fun w105 hkw105 huw105 hsw105 => ?_)
     have hF106 := ARep.same (w1 := w105) hF100 (fun k hk hl => huw105.other k (by first | ((try simp only) <;> omega) | (have := hk.1; ((try simp only) <;> omega))))
     have hF107 := ARep.same (w1 := w105) hF101 (fun k hk hl => huw105.other k (by first | ((try simp only) <;> omega) | (have := hk.1; ((try simp only) <;> omega))))
     have hk108 := hk102.upd huw105 (by ((try simp only) <;> omega))
     have hB109 := Upd.below hB104 (by omega) huw105
     refine WL.p (.as rfl) rfl <| WL.p (.as rfl) rfl <| WL.nil <| ?_
     refine W.seq <| W.seq <| W.reg <| WL.p (.mv rfl) rfl <| WL.p (.bis (false) (.neq rfl rfl) (by simp)) rfl <| WL.p (.mv rfl) rfl <| WL.gn rfl rfl rfl rfl <| WL.gn rfl rfl rfl rfl <| WL.gn rfl rfl rfl rfl <| WL.p (.pkF rfl rfl rfl) rfl <| WL.nil <| ?_
     refine W.condF rfl rfl ?_
     refine W.skip <| W.seq <| W.seq <| W.reg <| WL.p (.mv rfl) rfl <| WL.p (.bis (false) (.neq rfl rfl) (by simp)) rfl <| WL.p (.mv rfl) rfl <| WL.gy rfl rfl rfl rfl <| WL.r (Rd.ldA rfl hkw105 underlying31 rfl isz31) rfl <| WL.gy rfl rfl rfl rfl <| WL.r (Rd.ldA rfl hk108 underlying31 rfl isz31) rfl <| WL.gy rfl rfl rfl rfl <| WL.c1 hb20 rfl rfl ((r18_EqualA _ o (Nat.lt_succ_self _) (acOf x1) y _ _ _ hF107 hF106)) (fun w110 hw110 => ?_)
     have hF111 := ARep.same (w1 := w110) hF106 (fun k hk hl => hw110.block k hl)
     have hk113 := hk108.below hw110 hk108.lt
     have hk114 := hkw105.below hw110 hkw105.lt
     have hB115 := btr hB109 hw110
     refine WL.gy rfl rfl rfl rfl <| WL.p (.not rfl) rfl <| WL.p (.pkF rfl rfl rfl) rfl <| WL.p (.mv rfl) rfl <| WL.gy rfl rfl rfl rfl <| WL.p (.mv rfl) rfl <| WL.gy rfl rfl rfl rfl <| WL.p (.mv rfl) rfl <| WL.gy rfl rfl rfl rfl <| WL.p (.lenS underlying22 rfl) rfl <| WL.gy rfl rfl rfl rfl <| WL.p (.mv rfl) rfl <| WL.gy rfl rfl rfl rfl <| WL.p (.len underlying9 rfl) rfl <| WL.gy rfl rfl rfl rfl <| WL.p (.add rfl rfl (i64w (by omega))) rfl <| WL.gy rfl rfl rfl rfl <| WL.p (.bis (false) (.neq rfl rfl) (by simp)) rfl <| WL.p (.pkF rfl rfl rfl) rfl <| WL.nil <| ?_
     refine W.condF rfl rfl ?_
     refine W.skip <| W.seq <| W.reg <| WL.r (Rd.ldA rfl hk113 underlying31 rfl isz31) rfl <| WL.c1 hb21 rfl rfl ((law_depth _ o (Nat.lt_succ_self _) y _ 32 true _ hF111 hS (by decide))) (fun w116 hw116 => ?_)
     have hF117 := ARep.same (w1 := w116) hF111 (fun k hk hl => hw116.block k hl)
     have hk119 := hk113.below hw116 hk113.lt
     have hk120 := hk114.below hw116 hk114.lt
     have hB121 := btr hB115 hw116
     refine WL.p (.as rfl) rfl <| WL.nil <| ?_
     refine W.seq <| W.reg <| WL.p (.mv rfl) rfl <| WL.s2b underlying9 underlying22 underlying5 rfl rfl (fun b122 wb122 cu eb122 hu hcu hub122 hsb122 => ?_)
     have hF123 := ARep.same (w1 := wb122) hF117 (fun k hk hl => hub122.other k (by omega))
     have hl126 : b1 < b122 := by rw [eb122]; exact hk119.lt
     have hk125 := hk119.upd hub122 (Nat.ne_of_lt hl126)
     have hl128 : b99 < b122 := by rw [eb122]; exact hk120.lt
     have hB129 := Upd.below hB121 (by rw [eb122]; exact hB121.size) hub122
     have hgeb122 : w.heap.size ≤ b122 := by rw [eb122]; exact hB121.size
     refine WL.p (.mv rfl) rfl <| WL.call hb18 rfl rfl ((plex_ObjectR _ s _ 0 _ _ hal _ hu hcu (by omega) (by omega))) (fun x2 w130 hw130 => ?_)
     obtain ⟨hx5, hBp⟩ := hw130
     have hfo3 := (hF123).same (fun k hk hl => hBp.block k hl)
     have hB3 := Below.trans hB129 (Below.mono hBp hB129.size)
     have hk33 := (hk125).below hBp (hk125).lt
     refine WL.p (.mv rfl) rfl <| WL.p (.ext rfl rfl) rfl <| WL.p (.ext rfl rfl) rfl <| WL.p (.ext rfl rfl) rfl <| WL.alloc zeroValue31 rfl (fun b131 wb131 eb131 hkb131 hub131 hsb131 => ?_)
     have hF132 := ARep.same (w1 := wb131) hfo3 (fun k hk hl => hub131.other k (by omega))
     have hl135 : b1 < b131 := by rw [eb131]; exact hk33.lt
     have hk134 := hk33.upd hub131 (Nat.ne_of_lt hl135)
     have hB136 := Upd.below hB3 (by rw [eb131]; exact hB3.size) hub131
     have hgeb131 : w.heap.size ≤ b131 := by rw [eb131]; exact hB3.size
     refine WL.stL rfl rfl hkb131 isz31 rfl rfl (fun w137 hkw137 huw137 hsw137 => ?_)
     have hF138 := ARep.same (w1 := w137) hF132 (fun k hk hl => huw137.other k (by first | ((try simp only) <;> omega) | (have := hk.1; ((try simp only) <;> omega))))
     have hk140 := hk134.upd huw137 (by ((try simp only) <;> omega))
     have hB141 := Upd.below hB136 (by omega) huw137
     refine WL.p (.as rfl) rfl <| WL.p (.as rfl) rfl <| WL.nil <| ?_
     refine W.seq <| W.reg <| WL.p (.mv rfl) rfl <| WL.s2b underlying9 underlying22 underlying5 rfl rfl (fun b142 wb142 cv eb142 hv hcv hub142 hsb142 => ?_)
     have hF143 := ARep.same (w1 := wb142) hF138 (fun k hk hl => hub142.other k (by omega))
     have hl146 : b1 < b142 := by rw [eb142]; exact hk140.lt
     have hk145 := hk140.upd hub142 (Nat.ne_of_lt hl146)
     have hl148 : b131 < b142 := by rw [eb142]; exact hkw137.lt
     have hB149 := Upd.below hB141 (by rw [eb142]; exact hB141.size) hub142
     have hgeb142 : w.heap.size ≤ b142 := by rw [eb142]; exact hB141.size
     refine WL.p (.mv rfl) rfl <| WL.p (.sub rfl rfl (i64w (by omega))) rfl <| WL.call hb18 rfl rfl ((plex_ObjectR _ s _ 0 _ _ hR2.symm _ hv hcv (by omega) (by omega))) (fun x3 w150 hw150 => ?_)
     obtain ⟨hx7, hBq⟩ := hw150
     have hfo4 := (hF143).same (fun k hk hl => hBq.block k hl)
     have hB4 := Below.trans hB149 (Below.mono hBq hB149.size)
     have hk34 := (hk145).below hBq (hk145).lt
     refine WL.p (.mv rfl) rfl <| WL.p (.ext rfl rfl) rfl <| WL.p (.ext rfl rfl) rfl <| WL.p (.ext rfl rfl) rfl <| WL.alloc zeroValue31 rfl (fun b151 wb151 eb151 hkb151 hub151 hsb151 => ?_)
     have hl155 : b1 < b151 := by rw [eb151]; exact hk34.lt
     have hB156 := Upd.below hB4 (by rw [eb151]; exact hB4.size) hub151
     have hgeb151 : w.heap.size ≤ b151 := by rw [eb151]; exact hB4.size
     refine WL.stL rfl rfl hkb151 isz31 rfl rfl (fun w157 hkw157 huw157 hsw157 => ?_)
     have hB161 := Upd.below hB156 (by omega) huw157
     refine WL.p (.as rfl) rfl <| WL.p (.as rfl) rfl <| WL.nil <| ?_
     refine W.seq <| W.reg <| WL.p (.mv rfl) rfl <| WL.p (.bis (true) (.eql rfl rfl) (by simp)) rfl <| WL.p (.mv rfl) rfl <| WL.gy rfl rfl rfl rfl <| WL.p (.mv rfl) rfl <| WL.gy rfl rfl rfl rfl <| WL.p (.eql rfl rfl) rfl <| WL.gy rfl rfl rfl rfl <| WL.p (.mv rfl) rfl <| WL.gd rfl rfl rfl (fun g162 => ?_) (fun g162 => ?_)
     ·
      have g162' := of_decide_eq_false g162
      refine WL.p (.mv rfl) rfl <| WL.gy rfl rfl rfl g162 <| WL.p (.eql rfl rfl) rfl <| WL.gy rfl rfl rfl rfl <| WL.p (.pkF rfl g162 rfl) rfl <| WL.p (.pkT rfl rfl rfl) rfl <| WL.p (.as rfl) rfl <| WL.nil <| ?_
      refine W.ret (W.ret1 rfl rfl ?_)
      first
      | exact ⟨rfl, hB161⟩
      | exact ⟨ret_bool (decide_eq_true (hg (by assumption))), hB161⟩
      | exact ⟨ret_bool (by simp_all), hB161⟩
     have g162' := of_decide_eq_true g162
     refine WL.gn rfl rfl rfl g162 <| WL.gy rfl rfl rfl rfl <| WL.p (.pkT rfl g162 rfl) rfl <| WL.p (.pkT rfl rfl rfl) rfl <| WL.p (.as rfl) rfl <| WL.nil <| ?_
     refine W.ret (W.ret1 rfl rfl ?_)
     first
     | exact ⟨rfl, hB161⟩
     | exact ⟨ret_bool (decide_eq_true (hg (by assumption))), hB161⟩
     | exact ⟨ret_bool (by simp_all), hB161⟩
    have g29' := of_decide_eq_true g29
    refine WL.gn rfl rfl rfl g29 <| WL.gn rfl rfl rfl g29 <| WL.p (.pkT rfl g29 rfl) rfl <| WL.nil <| ?_
    refine W.condT rfl rfl ?_
    refine W.seq <| W.reg <| WL.c1 hb10 rfl rfl ((answers19 _)) (fun w163 hw163 => ?_)
    have hB168 := btr hB26 hw163
    refine WL.p (.as rfl) rfl <| WL.nil <| ?_
    refine W.ret (W.ret1 rfl rfl ?_)
    first
    | exact ⟨rfl, hB168⟩
    | exact ⟨ret_bool (decide_eq_true (hg (by assumption))), hB168⟩
    | exact ⟨ret_bool (by simp_all), hB168⟩
   have g28' := of_decide_eq_true g28
   refine WL.gn rfl rfl rfl g28 <| WL.gn rfl rfl rfl g28 <| WL.p (.pkT rfl g28 rfl) rfl <| WL.p (.mv rfl) rfl <| WL.gn rfl rfl rfl rfl <| WL.gn rfl rfl rfl rfl <| WL.gn rfl rfl rfl rfl <| WL.p (.pkT rfl rfl rfl) rfl <| WL.nil <| ?_
   refine W.condT rfl rfl ?_
   refine W.seq <| W.reg <| WL.c1 hb10 rfl rfl ((answers19 _)) (fun w169 hw169 => ?_)
   have hB174 := btr hB26 hw169
   refine WL.p (.as rfl) rfl <| WL.nil <| ?_
   refine W.ret (W.ret1 rfl rfl ?_)
   first
   | exact ⟨rfl, hB174⟩
   | exact ⟨ret_bool (decide_eq_true (hg (by assumption))), hB174⟩
   | exact ⟨ret_bool (by simp_all), hB174⟩
  have g27' := (nT g27)
  refine WL.gn rfl rfl rfl (by rw [(nT g27)] <;> rfl) <| WL.gn rfl rfl rfl (by rw [(nT g27)] <;> rfl) <| WL.p (.pkT rfl (by rw [(nT g27)] <;> rfl) rfl) rfl <| WL.p (.mv rfl) rfl <| WL.gn rfl rfl rfl rfl <| WL.gn rfl rfl rfl rfl <| WL.gn rfl rfl rfl rfl <| WL.p (.pkT rfl rfl rfl) rfl <| WL.p (.mv rfl) rfl <| WL.gn rfl rfl rfl rfl <| WL.gn rfl rfl rfl rfl <| WL.gn rfl rfl rfl rfl <| WL.p (.pkT rfl rfl rfl) rfl <| WL.nil <| ?_
  refine W.condT rfl rfl ?_
  refine W.seq <| W.reg <| WL.c1 hb10 rfl rfl ((answers19 _)) (fun w175 hw175 => ?_)
  have hB180 := btr hB26 hw175
  refine WL.p (.as rfl) rfl <| WL.nil <| ?_
  refine W.ret (W.ret1 rfl rfl ?_)
  first
  | exact ⟨rfl, hB180⟩
  | exact ⟨ret_bool (decide_eq_true (hg (by assumption))), hB180⟩
  | exact ⟨ret_bool (by simp_all), hB180⟩
 have g20' := (nT g20)
 refine WL.gn rfl rfl rfl (by rw [(nT g20)] <;> rfl) <| WL.gn rfl rfl rfl (by rw [(nT g20)] <;> rfl) <| WL.p (.pkT rfl (by rw [(nT g20)] <;> rfl) rfl) rfl <| WL.p (.mv rfl) rfl <| WL.gn rfl rfl rfl rfl <| WL.gn rfl rfl rfl rfl <| WL.gn rfl rfl rfl rfl <| WL.p (.pkT rfl rfl rfl) rfl <| WL.p (.mv rfl) rfl <| WL.gn rfl rfl rfl rfl <| WL.gn rfl rfl rfl rfl <| WL.gn rfl rfl rfl rfl <| WL.p (.pkT rfl rfl rfl) rfl <| WL.p (.mv rfl) rfl <| WL.gn rfl rfl rfl rfl <| WL.gn rfl rfl rfl rfl <| WL.gn rfl rfl rfl rfl <| WL.p (.pkT rfl rfl rfl) rfl <| WL.nil <| ?_
 refine W.condT rfl rfl ?_
 refine W.seq <| W.reg <| WL.c1 hb10 rfl rfl ((answers19 _)) (fun w181 hw181 => ?_)
 have hB186 := btr hB19 hw181
 refine WL.p (.as rfl) rfl <| WL.nil <| ?_
 refine W.ret (W.ret1 rfl rfl ?_)
 first
 | exact ⟨rfl, hB186⟩
 | exact ⟨ret_bool (decide_eq_true (hg (by assumption))), hB186⟩
 | exact ⟨ret_bool (by simp_all), hB186⟩
set_option maxHeartbeats 1000000 in
theorem law_BackB (y : AC) (o : AV) (p : Option Addr) (l : List UInt8) (c : Nat) (q : Option Addr) (m : List UInt8) (d : Nat) (w : World) (hrep : ARep w (· < w.heap.size) y o) (hbk : bkO o ≤ 1048576)
  (ha : BytesAt w p l) (hc : l.length ≤ c) (hna : l = [] → c = 0 ∨ p ≠ none) (hb : BytesAt w q m) (hd : m.length ≤ d) (hnb : m = [] → d = 0 ∨ q ≠ none)
  (hT : Snd 32 true o → o.kind ≠ 9 → o.kind = 2 ∧ firstW m = [48] ∧ ∃ n t, objT (l ++ prO o ++ [32] ++ m) l.length 32 = (pv0 8 n [], t, 0)) :
  Calls Tryz.prog 4 #[.agg (acV y).toArray, .slice p l.length c, .slice q m.length d] w fun e w' => e = .returned (.bool true) ∧ Below w.heap.size w w' := by
 have hkd := hrep.kind
 have hlen : ∀ hS : Snd 32 true o, (prO o).length ≤ 50000000 := fun hS => by have := pr_len hS; omega
 refine W.enter func4 rfl ntmps4 (Nat.le_of_ble_eq_true rfl) ?_
 have hB0 := Below.refl (w.heap.size) w
 refine W.seq <| W.reg <| WL.box rfl rfl (fun b1 wb1 eb1 hkb1 hub1 hsb1 => ?_)
 have hF2 := ARep.same (w1 := wb1) hrep (fun k hk hl => hub1.other k (by omega))
 have hvl4 := fun h0 => eb1 ▸ ha.lt h0
 have hv3 := BytesAt.upd ha hub1 (fun h0 => Nat.ne_of_lt (hvl4 h0))
 have hvl6 := fun h0 => eb1 ▸ hb.lt h0
 have hv5 := BytesAt.upd hb hub1 (fun h0 => Nat.ne_of_lt (hvl6 h0))
 have hB7 := Upd.below hB0 (by rw [eb1]; exact hB0.size) hub1
 have hgeb1 : w.heap.size ≤ b1 := by rw [eb1]; exact hB0.size
 refine WL.p (.as rfl) rfl <| WL.nil <| ?_
 refine W.seq <| W.seq <| W.reg <| WL.c1 hb10 rfl rfl ((answers19 _)) (fun w8 hw8 => ?_)
 have hF9 := ARep.same (w1 := w8) hF2 (fun k hk hl => hw8.block k hl)
 have hk10 := hkb1.below hw8 hkb1.lt
 have hv11 := BytesAt.below hv3 hw8 (fun h0 => hv3.lt h0)
 have hv12 := BytesAt.below hv5 hw8 (fun h0 => hv5.lt h0)
 have hB13 := btr hB7 hw8
 refine WL.p (.not rfl) rfl <| WL.p (.mv rfl) rfl <| WL.gy rfl rfl rfl rfl <| WL.r (Rd.ldA rfl hk10 underlying31 rfl isz31) rfl <| WL.gy rfl rfl rfl rfl <| WL.call hb15 rfl rfl ((law_light _ o (Nat.lt_succ_self _) y _ 40 _ hF9 (by decide) (by decide))) (fun ql w14 hw14 => ?_)
 have hF15 := ARep.same (w1 := w14) hF9 (fun k hk hl => hw14.block k hl)
 have hk16 := hk10.below hw14 hk10.lt
 have hv17 := BytesAt.below hv11 hw14 (fun h0 => hv11.lt h0)
 have hv18 := BytesAt.below hv12 hw14 (fun h0 => hv12.lt h0)
 have hB19 := btr hB13 hw14
 refine WL.gy rfl rfl rfl rfl <| WL.p (.not rfl) rfl <| WL.p (.pkF rfl rfl rfl) rfl <| WL.p (.mv rfl) rfl <| WL.gd rfl rfl rfl (fun g20 => ?_) (fun g20 => ?_)
 ·
  have g20' := (nF g20)
  refine WL.r (Rd.ldA rfl hk16 underlying31 rfl isz31) rfl <| WL.gy rfl rfl rfl (by rw [(nF g20)] <;> rfl) <| WL.call hb16 rfl rfl ((r18_SoundA y o _ _ hF15)) (fun sb w21 hw21 => ?_)
  have hF22 := ARep.same (w1 := w21) hF15 (fun k hk hl => hw21.block k hl)
  have hk23 := hk16.below hw21 hk16.lt
  have hv24 := BytesAt.below hv17 hw21 (fun h0 => hv17.lt h0)
  have hv25 := BytesAt.below hv18 hw21 (fun h0 => hv18.lt h0)
  have hB26 := btr hB19 hw21
  refine WL.gy rfl rfl rfl (by rw [(nF g20)] <;> rfl) <| WL.p (.not rfl) rfl <| WL.p (.pkF rfl (by rw [(nF g20)] <;> rfl) rfl) rfl <| WL.p (.mv rfl) rfl <| WL.gd rfl rfl rfl (fun g27 => ?_) (fun g27 => ?_)
  ·
   have g27' := (nF g27)
   refine WL.p (.fa underlying31 rfl sizeOf3 (by decide) rfl) rfl <| WL.gy rfl rfl rfl (by rw [(nF g27)] <;> rfl) <| WL.r (Rd.ld (isAgg3 _) rfl hk23 rfl) rfl <| WL.gy rfl rfl rfl (by rw [(nF g27)] <;> rfl) <| WL.p (.eql rfl rfl) rfl <| WL.p (.pkF rfl (by rw [(nF g27)] <;> rfl) rfl) rfl <| WL.p (.mv rfl) rfl <| WL.gd rfl rfl rfl (fun g28 => ?_) (fun g28 => ?_)
   ·
    have g28' := of_decide_eq_false g28
    refine WL.p (.mv rfl) rfl <| WL.gy rfl rfl rfl g28 <| WL.p (.lenS underlying22 rfl) rfl <| WL.gy rfl rfl rfl g28 <| WL.p (.gtr rfl rfl) rfl <| WL.p (.pkF rfl g28 rfl) rfl <| WL.p (.mv rfl) rfl <| WL.gd rfl rfl rfl (fun g29 => ?_) (fun g29 => ?_)
    ·
     have g29' := of_decide_eq_false g29
     refine WL.p (.mv rfl) rfl <| WL.gy rfl rfl rfl g29 <| WL.p (.lenS underlying22 rfl) rfl <| WL.gy rfl rfl rfl g29 <| WL.p (.gtr rfl rfl) rfl <| WL.p (.pkF rfl g29 rfl) rfl <| WL.nil <| ?_
     refine W.cond rfl (fun h30 => ?_) (fun h30 => ?_)
     ·
      have h30' := of_decide_eq_true h30
      refine W.seq <| W.reg <| WL.c1 hb10 rfl rfl ((answers19 _)) (fun w31 hw31 => ?_)
      have hB36 := btr hB26 hw31
      refine WL.p (.as rfl) rfl <| WL.nil <| ?_
      refine W.ret (W.ret1 rfl rfl ?_)
      exact ⟨rfl, hB36⟩
     have h30' := of_decide_eq_false h30
     refine W.skip <| W.seq ?_
     have hS : Snd 32 true o := sb.2 (by assumption)
     have h9 : o.kind ≠ 9 := by rw [hkd]; assumption
     have hL := hlen hS
     obtain ⟨hk2, hfw, n8, t8, hT⟩ := hT hS h9
     rw [hkd] at hk2
     obtain ⟨s, hs⟩ : ∃ s, s = prO o := ⟨_, rfl⟩
     refine W.reg <| WL.r (Rd.ldA rfl hk23 underlying31 rfl isz31) rfl <| WL.c1 hb17 rfl rfl ((by have h0 := r18_PrintA _ o (Nat.lt_succ_self _) y _ 32 true _ hF22 hS (by omega); rw [← hs] at h0; exact h0)) (fun w37 hw37 => ?_)
     have hF38 := ARep.same (w1 := w37) hF22 (fun k hk hl => hw37.block k hl)
     have hk39 := hk23.below hw37 hk23.lt
     have hv40 := BytesAt.below hv24 hw37 (fun h0 => hv24.lt h0)
     have hv41 := BytesAt.below hv25 hw37 (fun h0 => hv25.lt h0)
     have hB42 := btr hB26 hw37
     refine WL.p (.as rfl) rfl <| WL.nil <| ?_
     refine W.seq ?_
     rw [← hs] at hT hL
     refine W.reg <| WL.bsl0 underlying22 sizeOf5 rfl (fun b43 wb43 eb43 hob43 hub43 hsb43 => ?_)
     have hF44 := ARep.same (w1 := wb43) hF38 (fun k hk hl => hub43.other k (by omega))
     have hl46 : b1 < b43 := by rw [eb43]; exact hk39.lt
     have hk45 := hk39.upd hub43 (Nat.ne_of_lt hl46)
     have hvl48 := fun h0 => eb43 ▸ hv40.lt h0
     have hv47 := BytesAt.upd hv40 hub43 (fun h0 => Nat.ne_of_lt (hvl48 h0))
     have hvl50 := fun h0 => eb43 ▸ hv41.lt h0
     have hv49 := BytesAt.upd hv41 hub43 (fun h0 => Nat.ne_of_lt (hvl50 h0))
     have hB51 := Upd.below hB42 (by rw [eb43]; exact hB42.size) hub43
     have hgeb43 : w.heap.size ≤ b43 := by rw [eb43]; exact hB42.size
     have hob43 := hob43 b43 (Nat.le_refl _)
     have hleb43 : b43 ≤ wb43.heap.size := by omega
     refine WL.p (.mv rfl) rfl <| WL.appB underlying22 inf5 rfl rfl rfl hob43 rfl hv47 (by simp only [byteVals_len, List.length_append, List.length_cons, List.length_nil]; omega) (hleb43) rfl (hna) (fun v52 w53 how53 hbw53 hgw53 => ?_)
     have hk54 := hk45.below hbw53 (by omega)
     have hF55 := ARep.same hF44 (fun k hk hl => hgw53.block k hl (fun e => by have h9 := (hob43).lt k e.symm; omega))
     have hv57 := BytesAt.below hv49 hbw53 hvl50
     have hB58 := Below.trans hB51 (hbw53.mono (hgeb43))
     have hle59 := Nat.le_trans hleb43 hbw53.size
     refine WL.p (.mv rfl) rfl <| WL.appS underlying22 underlying9 inf5 rfl how53 rfl (by simp only [byteVals_len, List.length_append, List.length_cons, List.length_nil]; omega) (hle59) rfl (fun v60 w61 how61 hbw61 hgw61 => ?_)
     have hk62 := hk54.below hbw61 (by omega)
     have hF63 := ARep.same hF55 (fun k hk hl => hgw61.block k hl (fun e => by have h9 := (how53).lt k e.symm; omega))
     have hv65 := BytesAt.below hv57 hbw61 hvl50
     have hB66 := Below.trans hB58 (hbw61.mono (hgeb43))
     have ho67 := Own.cat how61
     have hle68 := Nat.le_trans hle59 hbw61.size
     refine WL.bsl (ps := _) underlying22 sizeOf5 zeroValue5 rfl rfl rfl rfl rfl (by simp only [put1, List.map, List.zip, List.zipWith, List.set, List.replicate] <;> rfl) rfl (fun b69 wb69 eb69 hkb69 hub69 hsb69 => ?_)
     have hle71 := Nat.le_trans hle68 hub69.size
     have ho70 := Own.new ho67 eb69 hub69
     have hF72 := ARep.same (w1 := wb69) hF63 (fun k hk hl => hub69.other k (by omega))
     have hl74 : b1 < b69 := by rw [eb69]; exact hk62.lt
     have hk73 := hk62.upd hub69 (Nat.ne_of_lt hl74)
     have hvl78 := fun h0 => eb69 ▸ hv65.lt h0
     have hv77 := BytesAt.upd hv65 hub69 (fun h0 => Nat.ne_of_lt (hvl78 h0))
     have hB79 := Upd.below hB66 (by rw [eb69]; exact hB66.size) hub69
     have hgeb69 : w.heap.size ≤ b69 := by rw [eb69]; exact hB66.size
     refine WL.appm underlying22 inf5 rfl rfl rfl ho70 rfl hkb69 rfl (by simp only [byteVals_len, List.length_append, List.length_cons, List.length_nil]; omega) (hle71) rfl (fun v80 w81 how81 hbw81 hgw81 => ?_)
     have hk82 := hk73.below hbw81 (by omega)
     have hF83 := ARep.same hF72 (fun k hk hl => hgw81.block k hl (fun e => by have h9 := (ho70).lt k e.symm; omega))
     have hv85 := BytesAt.below hv77 hbw81 hvl50
     have hB86 := Below.trans hB79 (hbw81.mono (hgeb43))
     have ho87 := Own.snoc how81 (32) (rfl)
     have hle88 := Nat.le_trans hle71 hbw81.size
     refine WL.p (.mv rfl) rfl <| WL.appB underlying22 inf5 rfl rfl rfl ho87 rfl hv85 (by simp only [byteVals_len, List.length_append, List.length_cons, List.length_nil]; omega) (hle88) rfl (hnb) (fun v89 w90 how90 hbw90 hgw90 => ?_)
     have hk91 := hk82.below hbw90 (by omega)
     have hF92 := ARep.same hF83 (fun k hk hl => hgw90.block k hl (fun e => by have h9 := (ho87).lt k e.symm; omega))
     have hv94 := BytesAt.below hv85 hbw90 hvl50
     have hB95 := Below.trans hB86 (hbw90.mono (hgeb43))
     have ho96 := Own.cat how90
     have hle97 := Nat.le_trans hle88 hbw90.size
     obtain ⟨pz, cz, ez, hz, hBz, hcz, hnz⟩ := Own.bytesC (l := (l ++ s ++ [32] ++ m)) ho96
     subst ez
     refine WL.p (.as rfl) rfl <| WL.nil <| ?_
     refine W.seq <| W.reg <| WL.p (.mv rfl) rfl <| WL.p (.mv rfl) rfl <| WL.p (.lenS underlying22 rfl) rfl <| WL.call hb18 rfl rfl ((plex_ObjectR _ (l ++ s ++ [32] ++ m) _ _ 32 _ hT _ hz hcz (by simp only [List.length_append, List.length_cons, List.length_nil]; omega) (by decide))) (fun x1 w98 hw98 => ?_)
     obtain ⟨hx1, hBo⟩ := hw98
     have hk8 : (acOf x1).kind ≠ y.kind := by obtain ⟨_, _, _, he, -⟩ := hx1.inv; have h8 : (8 : Int) = x1.kind := (PV.mk.inj he).1; rw [hk2]; show x1.kind ≠ 2; omega
     have hfo2 := (hF92).same (fun k hk hl => hBo.block k hl)
     have hB2 := Below.trans hB95 (Below.mono hBo hB95.size)
     have hk32 := (hk91).below hBo (hk91).lt
     have hv2 := BytesAt.below hv94 hBo (fun h0 => (hv94).lt h0)
     refine WL.p (.mv rfl) rfl <| WL.p (.ext rfl rfl) rfl <| WL.p (.ext rfl rfl) rfl <| WL.p (.ext rfl rfl) rfl <| WL.alloc zeroValue31 rfl (fun b99 wb99 eb99 hkb99 hub99 hsb99 => ?_)
     have hl102 : b1 < b99 := by rw [eb99]; exact hk32.lt
     have hk101 := hk32.upd hub99 (Nat.ne_of_lt hl102)
     have hvl104 := fun h0 => eb99 ▸ hv2.lt h0
     have hv103 := BytesAt.upd hv2 hub99 (fun h0 => Nat.ne_of_lt (hvl104 h0))
     have hB105 := Upd.below hB2 (by rw [eb99]; exact hB2.size) hub99
     have hgeb99 : w.heap.size ≤ b99 := by rw [eb99]; exact hB2.size
     refine WL.stL rfl rfl hkb99 isz31 rfl rfl (fun w106 hkw106 huw106 hsw106 => ?_)
     have hk108 := hk101.upd huw106 (by ((try simp only) <;> omega))
     have hv109 := BytesAt.upd hv103 huw106 (fun h0 => Nat.ne_of_lt (hvl104 h0))
     have hB110 := Upd.below hB105 (by omega) huw106
     refine WL.p (.as rfl) rfl <| WL.p (.as rfl) rfl <| WL.nil <| ?_
     refine W.seq <| W.seq <| W.reg <| WL.p (.mv rfl) rfl <| WL.p (.bis (false) (.neq rfl rfl) (by simp)) rfl <| WL.p (.mv rfl) rfl <| WL.gn rfl rfl rfl rfl <| WL.gn rfl rfl rfl rfl <| WL.gn rfl rfl rfl rfl <| WL.p (.pkF rfl rfl rfl) rfl <| WL.nil <| ?_
     refine W.condF rfl rfl ?_
     refine W.skip <| W.seq <| W.seq <| W.reg <| WL.p (.mv rfl) rfl <| WL.p (.bis (false) (.neq rfl rfl) (by simp)) rfl <| WL.p (.mv rfl) rfl <| WL.gy rfl rfl rfl rfl <| WL.r (Rd.ldA rfl hkw106 underlying31 rfl isz31) rfl <| WL.gy rfl rfl rfl rfl <| WL.r (Rd.ldA rfl hk108 underlying31 rfl isz31) rfl <| WL.gy rfl rfl rfl rfl <| WL.c1 hb20 rfl rfl ((r18_EqualN (acOf x1) y _ hk8)) (fun w111 hw111 => ?_)
     have hk113 := hk108.below hw111 hk108.lt
     have hv115 := BytesAt.below hv109 hw111 (fun h0 => hv109.lt h0)
     have hB116 := btr hB110 hw111
     refine WL.gy rfl rfl rfl rfl <| WL.p (.not rfl) rfl <| WL.p (.pkF rfl rfl rfl) rfl <| WL.p (.mv rfl) rfl <| WL.gn rfl rfl rfl rfl <| WL.gn rfl rfl rfl rfl <| WL.gn rfl rfl rfl rfl <| WL.gn rfl rfl rfl rfl <| WL.gn rfl rfl rfl rfl <| WL.gn rfl rfl rfl rfl <| WL.gn rfl rfl rfl rfl <| WL.p (.pkT rfl rfl rfl) rfl <| WL.nil <| ?_
     refine W.condT rfl rfl ?_
     refine W.seq <| W.reg <| WL.r (Rd.ldA rfl hk113 underlying31 rfl isz31) rfl <| WL.p (.mv rfl) rfl <| WL.c1 hb19 rfl rfl ((by have h0 := law_follows y q m d _ hv115 hd (by omega); rw [show decide (y.kind = 2) = true from decide_eq_true hk2, show decide (firstW m = [48]) = true from decide_eq_true hfw] at h0; exact h0)) (fun w117 hw117 => ?_)
     have hB122 := btr hB116 hw117
     refine WL.p (.as rfl) rfl <| WL.nil <| ?_
     refine W.ret (W.ret1 rfl rfl ?_)
     exact ⟨rfl, hB122⟩
    have g29' := of_decide_eq_true g29
    refine WL.gn rfl rfl rfl g29 <| WL.gn rfl rfl rfl g29 <| WL.p (.pkT rfl g29 rfl) rfl <| WL.nil <| ?_
    refine W.condT rfl rfl ?_
    refine W.seq <| W.reg <| WL.c1 hb10 rfl rfl ((answers19 _)) (fun w123 hw123 => ?_)
    have hB128 := btr hB26 hw123
    refine WL.p (.as rfl) rfl <| WL.nil <| ?_
    refine W.ret (W.ret1 rfl rfl ?_)
    exact ⟨rfl, hB128⟩
   have g28' := of_decide_eq_true g28
   refine WL.gn rfl rfl rfl g28 <| WL.gn rfl rfl rfl g28 <| WL.p (.pkT rfl g28 rfl) rfl <| WL.p (.mv rfl) rfl <| WL.gn rfl rfl rfl rfl <| WL.gn rfl rfl rfl rfl <| WL.gn rfl rfl rfl rfl <| WL.p (.pkT rfl rfl rfl) rfl <| WL.nil <| ?_
   refine W.condT rfl rfl ?_
   refine W.seq <| W.reg <| WL.c1 hb10 rfl rfl ((answers19 _)) (fun w129 hw129 => ?_)
   have hB134 := btr hB26 hw129
   refine WL.p (.as rfl) rfl <| WL.nil <| ?_
   refine W.ret (W.ret1 rfl rfl ?_)
   exact ⟨rfl, hB134⟩
  have g27' := (nT g27)
  refine WL.gn rfl rfl rfl (by rw [(nT g27)] <;> rfl) <| WL.gn rfl rfl rfl (by rw [(nT g27)] <;> rfl) <| WL.p (.pkT rfl (by rw [(nT g27)] <;> rfl) rfl) rfl <| WL.p (.mv rfl) rfl <| WL.gn rfl rfl rfl rfl <| WL.gn rfl rfl rfl rfl <| WL.gn rfl rfl rfl rfl <| WL.p (.pkT rfl rfl rfl) rfl <| WL.p (.mv rfl) rfl <| WL.gn rfl rfl rfl rfl <| WL.gn rfl rfl rfl rfl <| WL.gn rfl rfl rfl rfl <| WL.p (.pkT rfl rfl rfl) rfl <| WL.nil <| ?_
  refine W.condT rfl rfl ?_
  refine W.seq <| W.reg <| WL.c1 hb10 rfl rfl ((answers19 _)) (fun w135 hw135 => ?_)
  have hB140 := btr hB26 hw135
  refine WL.p (.as rfl) rfl <| WL.nil <| ?_
  refine W.ret (W.ret1 rfl rfl ?_)
  exact ⟨rfl, hB140⟩
 have g20' := (nT g20)
 refine WL.gn rfl rfl rfl (by rw [(nT g20)] <;> rfl) <| WL.gn rfl rfl rfl (by rw [(nT g20)] <;> rfl) <| WL.p (.pkT rfl (by rw [(nT g20)] <;> rfl) rfl) rfl <| WL.p (.mv rfl) rfl <| WL.gn rfl rfl rfl rfl <| WL.gn rfl rfl rfl rfl <| WL.gn rfl rfl rfl rfl <| WL.p (.pkT rfl rfl rfl) rfl <| WL.p (.mv rfl) rfl <| WL.gn rfl rfl rfl rfl <| WL.gn rfl rfl rfl rfl <| WL.gn rfl rfl rfl rfl <| WL.p (.pkT rfl rfl rfl) rfl <| WL.p (.mv rfl) rfl <| WL.gn rfl rfl rfl rfl <| WL.gn rfl rfl rfl rfl <| WL.gn rfl rfl rfl rfl <| WL.p (.pkT rfl rfl rfl) rfl <| WL.nil <| ?_
 refine W.condT rfl rfl ?_
 refine W.seq <| W.reg <| WL.c1 hb10 rfl rfl ((answers19 _)) (fun w141 hw141 => ?_)
 have hB146 := btr hB19 hw141
 refine WL.p (.as rfl) rfl <| WL.nil <| ?_
 refine W.ret (W.ret1 rfl rfl ?_)
 exact ⟨rfl, hB146⟩
theorem law_PlexBack (y : AC) (o : AV) (p : Option Addr) (l : List UInt8) (c : Nat) (q : Option Addr) (m : List UInt8) (d : Nat) (w : World) (hrep : ARep w (· < w.heap.size) y o) (hbk : bkO o ≤ 1048576)
  (ha : BytesAt w p l) (hc : l.length ≤ c) (hna : l = [] → c = 0 ∨ p ≠ none) (hb : BytesAt w q m) (hd : m.length ≤ d) (hnb : m = [] → d = 0 ∨ q ≠ none) :
  Calls Tryz.prog 4 #[.agg (acV y).toArray, .slice p l.length c, .slice q m.length d] w fun e w' => e = .returned (.bool true) ∧ Below w.heap.size w w' := by
 by_cases hT : objT (l ++ prO o ++ [32] ++ m) l.length 32 = (pvO o, ((l.length + (prO o).length : Nat) : Int), 0)
 ·
  exact law_BackA y o p l c q m d w hrep hbk ha hc hna hb hd hnb hT
 ·
  exact law_BackB y o p l c q m d w hrep hbk ha hc hna hb hd hnb fun hS h9 => (back_case hS h9 l m).resolve_left hT
end Go.Proofs.YtjghbcjnplcleaaGreatDoor

namespace Go.Proofs.YtjghbcjnplcleaaGreatDoor
open Go.Proofs.Tryz
open Go.ChangeShapes Go.WideShapes Go.ChangeAt Go.RowKit
theorem cells31 : Tryz.prog.cellsOf 31 = 6 := by kernel_rfl
theorem cells3 : Tryz.prog.cellsOf 3 = 1 := by kernel_rfl
theorem cells9 : Tryz.prog.cellsOf 9 = 1 := by kernel_rfl
theorem cells28 : Tryz.prog.cellsOf 28 = 1 := by kernel_rfl
theorem cells29 : Tryz.prog.cellsOf 29 = 1 := by kernel_rfl
theorem cells22 : Tryz.prog.cellsOf 22 = 1 := by kernel_rfl
theorem cells5 : Tryz.prog.cellsOf 5 = 1 := by kernel_rfl
/-- a sum over elements is no more than the bulk of what they read as -/
theorem bulk_sum {H : Type} {α : Type} (b : α → Nat) (l : List α) (D : Nat → DataW H) (h : ∀ i (hi : i < l.length), b l[i] ≤ Rows.uptoBulk (D i)) : (l.map b).sum ≤ Rows.uptoBulkAll ((List.range l.length).map D) := by
 have happ : ∀ a c : List (DataW H), Rows.uptoBulkAll (a ++ c) = Rows.uptoBulkAll a + Rows.uptoBulkAll c := by
  intro a c
  induction a with
  | nil => simp [Rows.uptoBulkAll]
  | cons x a ih => simp only [List.cons_append, Rows.uptoBulkAll, ih]; omega
 have key : ∀ k, k ≤ l.length → ((l.take k).map b).sum ≤ Rows.uptoBulkAll ((List.range k).map D) := by
  intro k
  induction k with
  | zero => intro _; simp [Rows.uptoBulkAll]
  | succ k ih =>
   intro hk
   have h1 := ih (by omega)
   have h2 := h k (by omega)
   rw [List.range_succ, List.map_append, happ, List.take_succ_eq_append_getElem (by omega), List.map_append, List.sum_append]
   simp only [List.map_cons, List.map_nil, List.sum_cons, List.sum_nil, Rows.uptoBulkAll]
   omega
 have := key l.length (Nat.le_refl _)
 rwa [List.take_length] at this
theorem bkK_sum : ∀ l : List (List UInt8), bkK l = (l.map fun k => k.length + 1).sum
 | [] => rfl
 | k :: r => by rw [bkK, bkK_sum r]; rfl
theorem bkL_sum : ∀ l : List AV, bkL l = (l.map bkO).sum
 | [] => by simp [bkL]
 | o :: r => by rw [bkL, bkL_sum r]; rfl
theorem sum_ones {α : Type} : ∀ l : List α, (l.map fun _ => 1).sum = l.length
 | [] => rfl
 | a :: r => by rw [List.map_cons, List.sum_cons, sum_ones r, List.length_cons]; omega
section
variable {H : Type} {enc : TypeId × Value → H} {w : World} {base : Nat} {sp : Nat → Bool} {held : Bool}
/-- a slice of strings -/
theorem open_keys {fuel : Nat} {cs : List Value} {x : DataW H × List MemPlace} (h : DataW.trod enc Tryz.prog w base sp held fuel 28 cs = some x) :
    ∃ p l c, cs = [.slice p (l : List (List UInt8)).length c] ∧ RowAt strV w p l ∧ l.length ≤ c ∧ c ≤ maxLen ∧ (∀ k ∈ l, k.length ≤ 9223372036854775807) ∧ bkK l + 1 ≤ Rows.uptoBulk x.1 := by
  rcases Go.Deep.open_slice1 underlying28 cells9 h with ⟨rfl, rfl⟩ | ⟨a, len, cap, k, n, F, D, Pl, rfl, -, hl, hm, hk, rfl, hx⟩
  · exact ⟨none, [], 0, rfl, RowAt.nil w, Nat.le_refl _, Nat.zero_le _, by simp, by simp [bkK, Rows.uptoBulk]⟩
  · have hlk : len ≤ k := by rw [hk]; split <;> omega
    obtain ⟨l, hll, hp⟩ := list_choose (fun i (o : List UInt8) => w.cell? (a.add i) = some (strV o) ∧ o.length + 1 ≤ Rows.uptoBulk (D i) ∧ o.length ≤ 9223372036854775807) len (fun i hi => by
      obtain ⟨h1, h2⟩ := hx i (by omega)
      obtain ⟨s, e, e2, hs⟩ := DataW.trod_string underlying9 h2
      simp only [List.cons.injEq, and_true] at e
      refine ⟨s.data.toList, by rw [h1, e]; rfl, ?_, by rw [Array.length_toList]; unfold maxLen at hs; have : s.data.size = s.size := rfl; omega⟩
      rw [show D i = (D i, Pl i).1 from rfl, e2]
      simp [Rows.uptoBulk])
    subst hll
    refine ⟨some a, l, cap, rfl, ⟨fun _ => rfl, fun j hj => (hp j hj).1⟩, by omega, hm, fun k hk => by obtain ⟨i, hi, rfl⟩ := List.getElem_of_mem hk; exact (hp i hi).2.2, ?_⟩
    have := bulk_sum (fun k : List UInt8 => k.length + 1) l D (fun i hi => (hp i hi).2.1)
    rw [← bkK_sum] at this
    simp only [Rows.uptoBulk]; omega
/-- a slice of bytes -/
theorem open_data {fuel : Nat} {cs : List Value} {x : DataW H × List MemPlace} (h : DataW.trod enc Tryz.prog w base sp held fuel 22 cs = some x) :
    ∃ p l c, cs = [.slice p (l : List UInt8).length c] ∧ BytesAt w p l ∧ l.length ≤ c ∧ c ≤ maxLen ∧ l.length + 1 ≤ Rows.uptoBulk x.1 := by
  rcases Go.Deep.open_slice1 underlying22 cells5 h with ⟨rfl, rfl⟩ | ⟨a, len, cap, k, n, F, D, Pl, rfl, -, hl, hm, hk, rfl, hx⟩
  · exact ⟨none, [], 0, rfl, ⟨fun h => by simp at h, fun j h => by simp at h⟩, Nat.le_refl _, Nat.zero_le _, by simp [Rows.uptoBulk]⟩
  · have hlk : len ≤ k := by rw [hk]; split <;> omega
    obtain ⟨l, hll, hp⟩ := list_choose (fun i (o : UInt8) => w.cell? (a.add i) = some (.int .u8 (o.toNat : Int)) ∧ 1 ≤ Rows.uptoBulk (D i)) len (fun i hi => by
      obtain ⟨h1, h2⟩ := hx i (by omega)
      obtain ⟨b, e, e2, w⟩ := DataW.trod_int underlying5 h2
      simp only [List.cons.injEq, and_true] at e
      have hb : 0 ≤ b ∧ b ≤ 255 := by simp only [Lit.wf, Bool.and_eq_true, decide_eq_true_eq] at w; exact w
      refine ⟨b.toNat.toUInt8, ?_, ?_⟩
      · rw [h1, e]
        have : (b.toNat.toUInt8).toNat = b.toNat % 256 := by simp
        rw [this]; congr 2; omega
      · rw [show D i = (D i, Pl i).1 from rfl, e2]; simp [Rows.uptoBulk])
    subst hll
    refine ⟨some a, l, cap, rfl, ⟨fun _ => rfl, fun j hj => (hp j hj).1⟩, by omega, hm, ?_⟩
    have := bulk_sum (fun _ : UInt8 => 1) l D (fun i hi => (hp i hi).2)
    rw [sum_ones] at this
    simp only [Rows.uptoBulk]; omega
set_option maxRecDepth 100000 in
/-- objects within objects -/
theorem open_pobj : ∀ (fuel : Nat) {cs : List Value} {x : DataW H × List MemPlace}, DataW.trod enc Tryz.prog w base sp held fuel 31 cs = some x → ∃ (y : AC) (o : AV), cs = acV y ∧ ARep w (· < w.heap.size) y o ∧ bkO o ≤ Rows.uptoBulk x.1 := by
 intro fuel
 induction fuel using Nat.strongRecOn with
 | _ fuel ih =>
 intro cs x h
 obtain ⟨xs, n, hfu, rfl, hl, hlen, hf⟩ := DataW.trod_struct underlying31 h
 rw [cells31] at hl
 have hlen6 : xs.length = 6 := hlen
 match cs, hl with
 | [c0, c1, c2, c3, c4, c5], _ =>
  have g : ∀ (i : Nat) (f : Field) (c : Value), _ → Tryz.prog.cellsOf f.type = 1 → (([c0, c1, c2, c3, c4, c5] : List Value).drop f.offset).take 1 = [c] → DataW.trod enc Tryz.prog w base sp held n f.type [c] = xs[i]? := fun i f c h1 h2 h3 => by
   have := hf i f h1
   rw [h2, h3] at this
   exact this
  have f0 := (g 0 _ c0 rfl cells3 rfl).trans (List.getElem?_eq_getElem (by omega))
  have f1 := (g 1 _ c1 rfl cells3 rfl).trans (List.getElem?_eq_getElem (by omega))
  have f2 := (g 2 _ c2 rfl cells9 rfl).trans (List.getElem?_eq_getElem (by omega))
  have f3 := (g 3 _ c3 rfl cells28 rfl).trans (List.getElem?_eq_getElem (by omega))
  have f4 := (g 4 _ c4 rfl cells29 rfl).trans (List.getElem?_eq_getElem (by omega))
  have f5 := (g 5 _ c5 rfl cells22 rfl).trans (List.getElem?_eq_getElem (by omega))
  obtain ⟨a0, e0, b0, w0⟩ := DataW.trod_int underlying3 f0
  obtain ⟨a1, e1, b1, w1⟩ := DataW.trod_int underlying3 f1
  obtain ⟨a2, e2, b2, w2⟩ := DataW.trod_string underlying9 f2
  obtain ⟨p3, l3, k3, e3, r3, g3, m3, q3, b3⟩ := open_keys f3
  obtain ⟨p5, l5, k5, e5, r5, g5, m5, b5⟩ := open_data f5
  have h4 : ∃ (p : Option Addr) (ys : List AC) (os : List AV) (c : Nat), [c4] = [.slice p ys.length c] ∧ RowM acL w p ys ∧ ys.length ≤ c ∧ c ≤ maxLen ∧ AInv w (· < w.heap.size) ys os ∧ bkL os + 1 ≤ Rows.uptoBulk (xs[4]'(by omega)).1 := by
   generalize xs[4]'(by omega) = z at f4
   rcases DataW.trod_slice underlying29 f4 with ⟨h0, rfl⟩ | ⟨a, len, cap, elems, rest, n2, hn2, h0, rfl, -, hle, hm, hel, hx, -, -⟩
   ·
    exact ⟨none, [], [], 0, h0, RowM.nil w, Nat.le_refl _, Nat.zero_le _, ⟨rfl, fun i h => by simp at h⟩, by simp [bkL, Rows.uptoBulk]⟩
   ·
    rw [cells31] at hx
    obtain ⟨zs, hz, hp⟩ := list_choose (fun i (z : AC × AV) => (∀ q, q < 6 → w.cell? (a.add (i * 6 + q)) = (acV z.1)[q]?) ∧ ARep w (· < w.heap.size) z.1 z.2 ∧ ∃ hi : i < elems.length, bkO z.2 ≤ Rows.uptoBulk elems[i].1) len (fun i hi => by
     have h1 := hx i hi
     rw [List.getElem?_eq_getElem (by omega)] at h1
     obtain ⟨cs, h2, h3⟩ := Option.bind_eq_some_iff.1 h1
     obtain ⟨y, o, rfl, ho, hb⟩ := ih n2 (by omega) h3
     obtain ⟨-, -, h4⟩ := World.cells?_some h2
     exact ⟨(y, o), fun q hq => by rw [← add_add]; exact h4 q hq, ho, by omega, hb⟩)
    subst hz
    refine ⟨some a, zs.map (·.1), zs.map (·.2), cap, by rw [List.length_map]; exact h0, ⟨fun _ => rfl, fun j hj q hq => ?_⟩, by rw [List.length_map]; omega, hm, ⟨by simp, fun i h1 h2 => ?_⟩, ?_⟩
    ·
     rw [List.getElem_map]
     exact (hp j (by simpa using hj)).1 q hq
    ·
     rw [List.getElem_map, List.getElem_map]
     exact (hp i (by simpa using h1)).2.1
    ·
     have := bulk_sum bkO (zs.map (·.2)) (fun i => (elems.getD i (.nil, [])).1) (fun i hi => by
      rw [List.getElem_map]
      obtain ⟨h5, h6⟩ := (hp i (by simpa using hi)).2.2
      rw [List.getD_eq_getElem?_getD, List.getElem?_eq_getElem h5]
      exact h6)
     rw [← bkL_sum] at this
     have e : (List.range (zs.map (·.2)).length).map (fun i => (elems.getD i (.nil, [])).1) = elems.map (·.1) := by
      refine List.ext_getElem (by simp; omega) fun i h1 h2 => ?_
      simp only [List.getElem_map, List.getElem_range]
      rw [List.getD_eq_getElem?_getD, List.getElem?_eq_getElem (by simpa using h2)]
      rfl
     rw [e] at this
     simp only [Rows.uptoBulk]; omega
  obtain ⟨p4, ys, os, k4, e4, r4, g4, m4, i4, b4⟩ := h4
  simp only [List.cons.injEq, and_true] at e0 e1 e2 e3 e4 e5
  have w1' := wf64 w1
  have hs2 : a2.data.toList.length = a2.size := by rw [Array.length_toList]; rfl
  unfold maxLen at *
  refine ⟨⟨a0, a1, a2.data.toList, p3, l3.length, k3, p4, ys.length, k4, p5, l5.length, k5⟩, .mk a0 a1 a2.data.toList l3 os l5, ?_, ?_, ?_⟩
  ·
   rw [e0, e1, e2, e3, e4, e5]; rfl
  ·
   exact ARep.mk ⟨a0, a1, a2.data.toList, p3, l3.length, k3, p4, ys.length, k4, p5, l5.length, k5⟩ l3 os l5 ys ⟨w1', by show a2.data.toList.length ≤ _; omega, rfl, rfl, rfl, g3, g4, g5, by show k3 ≤ _; omega, by show k4 ≤ _; omega, by show k5 ≤ _; omega⟩ q3 r3 (fun h0 => r3.lt h0) r4 (fun h0 => r4.lt h0) r5 (fun h0 => r5.lt h0) i4.len i4.sub
  ·
   have hall : Rows.uptoBulkAll (xs.map (·.1)) = Rows.uptoBulk (xs[0]'(by omega)).1 + Rows.uptoBulk (xs[1]'(by omega)).1 + Rows.uptoBulk (xs[2]'(by omega)).1 + Rows.uptoBulk (xs[3]'(by omega)).1 + Rows.uptoBulk (xs[4]'(by omega)).1 + Rows.uptoBulk (xs[5]'(by omega)).1 := by
    match xs, hlen6 with
    | [x0, x1, x2, x3, x4, x5], _ => simp [Rows.uptoBulkAll]; omega
   rw [b0, b1, b2] at hall
   simp only [Rows.uptoBulk] at hall
   simp only [bkO, Rows.uptoBulk]
   omega
end
end Go.Proofs.YtjghbcjnplcleaaGreatDoor

namespace Go.Proofs.YtjghbcjnplcleaaGreatDoor
open Go.Proofs.Tryz
open Go.ChangeShapes Go.WideShapes Go.ChangeAt Go.RowKit
theorem own : ownKnob Tryz.prog.godebug = none := by kernel_rfl
theorem laidOut : laidOutB Tryz.prog = true := by kernel_rfl
def firstCells : Array Value := (Go.Pinned.utf8FirstZ.map fun (n : Nat) => Value.int .u8 (n : Int)).toArray
def rangeCells : Array Value := #[.int .u8 128, .int .u8 191, .int .u8 160, .int .u8 191, .int .u8 128, .int .u8 159, .int .u8 144, .int .u8 191, .int .u8 128, .int .u8 143, .int .u8 0, .int .u8 0, .int .u8 0, .int .u8 0, .int .u8 0, .int .u8 0, .int .u8 0, .int .u8 0, .int .u8 0, .int .u8 0, .int .u8 0, .int .u8 0, .int .u8 0, .int .u8 0, .int .u8 0, .int .u8 0, .int .u8 0, .int .u8 0, .int .u8 0, .int .u8 0, .int .u8 0, .int .u8 0]
def putCells (cs : Array Value) : Obj → Obj
 | .cells _ t frozen => .cells cs t frozen
 | o => o
/-- a world for a witness: the settled one, the two tables (blocks 1 and 2) holding what their initialisers lay -/
noncomputable def laidWorld (os : Os) : World :=
 { World.holding Tryz.prog os ⟨#[], #[], []⟩ with heap := ((World.holding Tryz.prog os ⟨#[], #[], []⟩).heap.modify 2 (putCells firstCells)).modify 3 (putCells rangeCells) }
end Go.Proofs.YtjghbcjnplcleaaGreatDoor

namespace Go.Proofs.YtjghbcjnplcleaaGreatDoor
open Go.Proofs.Tryz
open Go.ChangeShapes Go.WideShapes Go.ChangeAt Go.RowKit
open Go.ChangeMaps (open_string shut_string)
set_option maxRecDepth 100000 in
theorem contract_PlexBack (H : Type) (enc : TypeId × Value → H) (W : World) (base : Nat) (args : Array Value) (ds gs : List (DataW H)) (before : List MemPlace)
  (hval : ∀ (j : Nat) t v, Tryz.f4.params[j]? = some t → args[j]? = some v → Value.okWide Tryz.prog W .any base t v)
  (hW : DataW.Whole enc Tryz.prog Tryz.f4.params.toList Rows.plexBackSpec.vars false W args.toList ds gs before) (hcd : Rows.uptoBulkAll (ds ++ gs) ≤ 1048576) :
  Calls Tryz.prog 4 args W fun e W' => ∃ v, e = .returned v ∧ Rows.plexBackSpec.post enc Tryz.prog Tryz.f4 false true false false W args v W' := by
 have hW' := hW
 obtain ⟨p, q, hA0, hV, rfl, hfz, hnd⟩ := hW
 have hA : DataW.TrodAll enc Tryz.prog W 0 (fun _ => true) true Tryz.f4.params.toList args.toList ds p := hA0
 rw [Tryz.params4] at hA hval
 obtain ⟨v0, vs0, d0, ds0, p0, q0, hargs0, rfl, rfl, h0, r0⟩ := trodAll_cons hA
 obtain ⟨v1, vs1, d1, ds1, p1, q1, hargs1, rfl, rfl, h1, r1⟩ := trodAll_cons r0
 obtain ⟨v2, vs2, d2, ds2, p2, q2, hargs2, rfl, rfl, h2, r2⟩ := trodAll_cons r1
 obtain ⟨rfl, rfl, rfl⟩ := trodAll_nil r2
 obtain rfl : args = #[v0, v1, v2] := by cases args; simp_all
 obtain ⟨rfl, rfl⟩ := trodVars_none hV
 simp only [List.append_nil, Rows.uptoBulkAll] at hcd
 obtain ⟨cs0, rfl, -⟩ := okWide_struct underlying31 (hval 0 31 v0 rfl rfl)
 have hh0 := h0
 obtain ⟨fu0, ft0⟩ := hh0
 obtain ⟨y0, o0, ec0, hr0, hb0⟩ := open_pobj fu0 ft0
 obtain rfl : cs0 = (acV y0).toArray := by rw [← ec0]; rfl
 have hb0 : bkO o0 ≤ Rows.uptoBulk d0 := hb0
 obtain ⟨s1, l1, c1, rfl, hb1, hc1, hn1, hm1⟩ := open_bytes underlying22 underlying5 (by kernel_rfl) (hval 1 22 v1 rfl rfl) h1
 obtain ⟨s2, l2, c2, rfl, hb2, hc2, hn2, hm2⟩ := open_bytes underlying22 underlying5 (by kernel_rfl) (hval 2 22 v2 rfl rfl) h2
 clear hA0
 simp only [List.append_nil] at hW'
 refine (law_PlexBack y0 o0 s1 l1 c1 s2 l2 c2 W hr0 (Nat.le_trans hb0 (by omega)) hb1 hc1 hn1 hb2 hc2 hn2).mono fun e W' ⟨he, bel⟩ => ?_
 subst he
 exact ⟨_, rfl, _, _, _, [], _, [], hW', trodAll_mk1 (shut_bool underlying4 _), (trodAll_cons_mk (trod_keep laidOut (by kernel_rfl) (by kernel_rfl) h0 bel (fun x hx => hW'.lt x (by first | exact hx | (simp only [List.mem_append]; simp_all)))) (trodAll_cons_mk (trod_keep laidOut (by kernel_rfl) (by kernel_rfl) h1 bel (fun x hx => hW'.lt x (by first | exact hx | (simp only [List.mem_append]; simp_all)))) (trodAll_cons_mk (trod_keep laidOut (by kernel_rfl) (by kernel_rfl) h2 bel (fun x hx => hW'.lt x (by first | exact hx | (simp only [List.mem_append]; simp_all)))) trodAll_mk0))), rfl, bel.frame _, fun h => by cases h⟩
theorem laid_met_PlexBack (os : Os) : laidMet Tryz.prog Rows.plexBackUptoRow.laid ((laidWorld os).forCall (fun _ _ => 0) ⟨#[], #[.agg #[.int .i64 0, .int .i64 0, .string .empty, .slice none 0 0, .slice none 0 0, .slice none 0 0], .slice none 0 0, .slice none 0 0], []⟩).memory :=
 laidMet_of_run' 8 (by kernel_rfl) (by kernel_rfl)
theorem reads_PlexBack (os : Os) {H : Type} (enc : TypeId × Value → H) : ∃ places, DataW.whole enc Tryz.prog ((laidWorld os).forCall (fun _ _ => 0) ⟨#[], #[.agg #[.int .i64 0, .int .i64 0, .string .empty, .slice none 0 0, .slice none 0 0, .slice none 0 0], .slice none 0 0, .slice none 0 0], []⟩).memory Tryz.f4.params.toList Rows.plexBackSpec.vars false #[Value.agg #[.int .i64 0, .int .i64 0, .string .empty, .slice none 0 0, .slice none 0 0, .slice none 0 0], .slice none 0 0, .slice none 0 0].toList 8 = some ([.agg [.lit (.int .i64 0), .lit (.int .i64 0), .lit (.string []), .nil, .nil, .nil], .nil, .nil], [], places) :=
 ⟨[], by kernel_rfl⟩
set_option maxRecDepth 100000 in
theorem lifted_PlexBack (os : Os) (started : os.Started) (H : Type) (enc : TypeId × Value → H) (F : Stop.Interp) :
    ReturnsInHanded {} Tryz.checked os 4 .any ((Rows.OpenSpec.upto Rows.plexBackSpec).preRow enc Tryz.prog Tryz.f4 Rows.plexBackUptoRow.domain false Rows.plexBackUptoRow.laid) (((Rows.OpenSpec.upto Rows.plexBackSpec).at F).post enc Tryz.prog Tryz.f4 false true false false) := by
  obtain ⟨places, hx⟩ := reads_PlexBack os enc
  refine returnsInHanded_of_row (C := Tryz.checked) (s := Rows.OpenSpec.upto Rows.plexBackSpec) own started (by kernel_rfl) func4
    (witness_row_at (enc := enc) (C := Tryz.checked) false (laidWorld os) #[.agg #[.int .i64 0, .int .i64 0, .string .empty, .slice none 0 0, .slice none 0 0, .slice none 0 0], .slice none 0 0, .slice none 0 0] rfl (by kernel_rfl) (by kernel_rfl) (by kernel_rfl)
      (OpenSpec.preRow_of_cond 8 hx (by kernel_rfl) (fun k hk => by cases hk; rfl) (by kernel_rfl) (laid_met_PlexBack os))) ?_
  intro W base args ds gs before hval hW _ hcd _ hL _ _
  exact contract_PlexBack H enc W base args ds gs before hval hW (of_decide_eq_true (hcd _ rfl))
theorem said_PlexBack : Rows.PlexBackUptoSaid :=
  OpenClaim.holds_of_cond 4 Tryz.f4 rfl rfl rfl rfl rfl rfl rfl ⟨rfl, rfl, rfl, rfl, rfl⟩ rfl rfl rfl rfl rfl (by kernel_rfl) func4 (by kernel_rfl)
    (of_decide_eq_true (by kernel_rfl)) (by unfold Func.isWrapper; first | (rw [if_pos (by decide +kernel)]; kernel_rfl) | (rw [if_neg (by decide +kernel)]; exact ⟨rfl, rfl⟩))
    (fun os started H enc _ F => by rw [OpenClaim.pre_eq_preRow]; exact lifted_PlexBack os started H enc F)
theorem plain_PlexBack (f : FuncId) (fn : Func) (hf : Tryz.pinned.checked.prog.funcNamed "mezzotint/mezzotintlaw19.PlexBack" = some f) (hfn : Tryz.pinned.checked.prog.funcs[f]? = some fn) :
  true = Tryz.pinned.checked.prog.looks [] ∧ ∀ (j : Nat) t, fn.params[j]? = some t → Tryz.pinned.checked.prog.wantsStandIn t = false := by
 obtain rfl : f = 4 := Option.some.inj ((show Tryz.prog.funcNamed "mezzotint/mezzotintlaw19.PlexBack" = some 4 by kernel_rfl).symm.trans hf) |>.symm
 obtain rfl : fn = Tryz.f4 := (Option.some.inj (func4.symm.trans hfn)).symm
 refine ⟨by kernel_rfl, fun j t ht => ?_⟩
 rw [Tryz.params4] at ht
 have hmem := Array.mem_of_getElem? ht
 simp only [List.mem_toArray, List.mem_cons, List.not_mem_nil, or_false] at hmem
 rcases hmem with rfl | rfl | rfl
 ·
  exact (show Tryz.prog.wantsStandIn 31 = false by kernel_rfl)
 ·
  exact (show Tryz.prog.wantsStandIn 22 = false by kernel_rfl)
 ·
  exact (show Tryz.prog.wantsStandIn 22 = false by kernel_rfl)
/-- THE CARD -/
theorem PlexBack_holds : Rows.PlexBackUptoCardSaid :=
 Claim7.holds_tied_plain_at .later [] _ _ _ _ said_PlexBack (fun _ h => by cases h) (by kernel_rfl) (fun _ h => by cases h) plexBackUpto_row_tie rfl ⟨rfl, rfl⟩ (by kernel_rfl) rfl plain_PlexBack (by kernel_rfl)
#print axioms PlexBack_holds
end Go.Proofs.YtjghbcjnplcleaaGreatDoor
