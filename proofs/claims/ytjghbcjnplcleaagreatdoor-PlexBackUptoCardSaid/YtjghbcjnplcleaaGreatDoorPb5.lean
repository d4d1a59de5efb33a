/-
  What the claim leans on, part 5: pruned and joined by my own tool out of the texts that stand in wip/ as templates.
-/
import Derived.Test.YtjghbcjnplcleaaGreatDoorPb4
import Derived.WalkKit
import Derived.WalkSpells
import Derived.WalkLawsBesides
import Derived.Test.YtjghbcjnplcleaaGreatDoorRows
import Derived.Shelf.Strings.Builder1
import Derived.Shelf.Strings.Builder2
import Derived.Shelf.Strings.Trim
import Derived.Shelf.Small.Utf8
import Derived.Shelf.Small.Strs
import Derived.Shelf.Strings.BuilderF
import Derived.Shelf.Strings.BuilderK
import Derived.Shelf.Strings.Builder2Cap
import Derived.Shelf.Strconv.Itoa0
import Derived.Shelf.Strings.Search1
import Derived.Shelf.Strings.Search2
import Derived.Shelf.Strings.Search3
import Derived.Shelf.Strings.Cut
import Derived.Shelf.Strings.Count
import Derived.Shelf.LaysM
import Derived.Shelf.Strings.Shaped
import Derived.Shelf.Strings.Prefix
import Derived.Shelf.Unicode.Decode
import Derived.Shelf.Strings.Runes
import Derived.Shelf.Strings.IndexAny
import Derived.Shelf.Strings.AsciiSet
import Derived.Shelf.Strings.IndexAnyAll
import Derived.Shelf.Bits.Mul64
import Derived.Shelf.Strings.Repeat
import Derived.Shelf.Unicode.DecodeSlow
import Derived.Shelf.Unicode.DecodeAny
import Derived.Shelf.Unicode.DecodeLast
import Derived.Shelf.Strings.BuilderCap
import Derived.Test.YtjghbcjnplcleaaGreatDoorProg
import Derived.Shelf.Strings.SlTrimAscii
import Derived.Deep.QuietTactic
import Derived.BigQuiet
import Derived.Deep.DeepCutAuto
import Derived.StillTail
import Derived.Laws.BytesString
import Derived.Laws.Slices
import Derived.Carry
import Derived.ChangeSlices
import Derived.Lib.ConvBytes
import Derived.Laws.AppendOwn
import Derived.Laws.CopyRow
import Derived.Deep.MidRow
import Derived.Lib.SliceRun
import Derived.Recover
import Derived.Lib.AppendZerosOnto
import Derived.Laws.OwnMore
import Derived.Deep.Slices
import Derived.ProofKit
import Derived.OpenShut
import Derived.Lib.FrozenHead
import Derived.Lib.AppendStr
import Derived.Test.YtjghbcjnplcleaaGreatDoorCards
import Derived.Test.YtjghbcjnplcleaaGreatDoorTie
import Derived.Deep.DeepHandedRow
import Derived.Lib.LaidTab
namespace Go.Proofs.YtjghbcjnplcleaaGreatDoor
open Go.Proofs.Tryz
open Go.RowKit
theorem ref_fits (n : Int) (w : World) : Calls Tryz.prog 62 #[.int .i64 n] w fun e w' => e = .returned (.bool (fitsB n)) ∧ w = w' :=
 (ref_Fits n w).mono fun e w' h => ⟨h.1, h.2⟩
/-- keys, the first so many of which are names, not one of them twice -/
def KeysB (k : Int) (ks : List (List UInt8)) (i : Nat) : Prop := (∀ x ∈ ks.take i, nmOk x) ∧ (ks.take i).Nodup ∧ (k = 9 → [76, 101, 110, 103, 116, 104] ∉ ks.take i)
theorem KeysB.step {k : Int} {ks : List (List UInt8)} {i : Nat} (h : KeysB k ks i) (hi : i < ks.length) (h1 : nmOk ks[i]) (h2 : ks[i] ∉ ks.take i) (h3 : k = 9 → ks[i] ≠ [76, 101, 110, 103, 116, 104]) : KeysB k ks (i + 1) := by
 have e : ks.take (i + 1) = ks.take i ++ [ks[i]] := List.take_succ_eq_append_getElem hi
 refine ⟨fun x hx => ?_, ?_, fun hk hx => ?_⟩
 ·
  rw [e] at hx
  rcases List.mem_append.1 hx with hx | hx
  ·
   exact h.1 x hx
  ·
   rw [List.mem_singleton.1 hx]; exact h1
 ·
  rw [e, List.nodup_append]
  refine ⟨h.2.1, by simp, fun a ha b hb => ?_⟩
  rw [List.mem_singleton.1 hb]
  exact fun e => h2 (e ▸ ha)
 ·
  rw [e] at hx
  rcases List.mem_append.1 hx with hx | hx
  ·
   exact h.2.2 hk hx
  ·
   exact h3 hk (List.mem_singleton.1 hx).symm
theorem str_mem {c : List UInt8} {l : List (List UInt8)} {i : Nat} (hi : i < l.length) (h : c ∉ l.take i) (hc : ¬ l[i] = c) : c ∉ l.take (i + 1) := by
 rw [List.take_add_one, List.getElem?_eq_getElem hi, Option.toList_some, List.mem_append, List.mem_singleton]
 exact fun hx => hx.elim h (fun e => hc e.symm)
set_option maxHeartbeats 1000000 in
theorem r18_soundA : ∀ (n : Nat) (o : AV), SizeOf.sizeOf o < n → ∀ (x : AC) (S : Nat → Prop) (D : Int) (st : Bool) (w : World), ARep w S x o → -1 ≤ D → D ≤ 100 →
  Calls Tryz.prog 36 #[.agg (acV x).toArray, .int .i64 D, .bool st] w fun e w' => ∃ b : { b : Bool // b = true → Snd D st o }, e = .returned (.bool b.1) ∧ Below w.heap.size w w' := by
 intro n
 induction n with
 | zero => intro o h; omega
 | succ n ih =>
 intro o hn x S D st w hx hD hD2
 obtain ⟨keys, list, data, cs, rfl, ok, hkl, hk, hks, hr, hrs, hd, hds, hcl, hsub⟩ := hx.inv
 obtain ⟨k, i, s, kp, kl, kc, lp, ll, lc, dp, dl, dc⟩ := x
 have e1 := ok.kl; have e2 := ok.ll; have e3 := ok.dl
 have m1 := ok.kc; have m2 := ok.lc; have m3 := ok.dc; have m4 := ok.km; have m5 := ok.lm; have m6 := ok.dm; have m7 := ok.text
 simp only at e1 e2 e3 m1 m2 m3 m4 m5 m6 m7 hk hr hd hrs ⊢
 subst e1; subst e2; subst e3
 simp only [AV.mk.sizeOf_spec] at hn
 have hsz : ∀ j (h : j < list.length), SizeOf.sizeOf list[j] < n := fun j h => by have := List.sizeOf_lt_of_mem (List.getElem_mem h); omega
 have hs0 : AInv w S cs list := ⟨hcl, hsub⟩
 simp only [acV]
 have hklen : ∀ j (h : j < keys.length), keys[j].length ≤ 9223372036854775807 := fun j h => hkl _ (List.getElem_mem h)
 obtain ⟨bD, hbD⟩ : ∃ b, b = decide (D < 1) := ⟨_, rfl⟩
 obtain ⟨b7, hb7⟩ : ∃ b, b = decide (i = 0) := ⟨_, rfl⟩
 obtain ⟨b8, hb8⟩ : ∃ b, b = decide (s = []) := ⟨_, rfl⟩
 obtain ⟨b9, hb9⟩ : ∃ b, b = decide ((keys.length : Int) = 0) := ⟨_, rfl⟩
 obtain ⟨b10, hb10⟩ : ∃ b, b = decide ((cs.length : Int) = 0) := ⟨_, rfl⟩
 obtain ⟨b11, hb11⟩ : ∃ b, b = decide ((data.length : Int) = 0) := ⟨_, rfl⟩
 obtain ⟨bm, hbm⟩ : ∃ b, b = !decide ((keys.length : Int) = (cs.length : Int)) := ⟨_, rfl⟩
 obtain ⟨b71, hb71⟩ : ∃ b, b = decide (k = 7) := ⟨_, rfl⟩
 obtain ⟨b91, hb91⟩ : ∃ b, b = decide (k = 9) := ⟨_, rfl⟩
 obtain ⟨bg, hbg⟩ : ∃ b, b = decide ((data.length : Int) > 1048576) := ⟨_, rfl⟩
 refine W.enter func36 rfl ntmps36 (Nat.le_of_ble_eq_true rfl) ?_
 have hB0 := Below.refl (w.heap.size) w
 refine W.seq <| W.reg <| WL.box rfl rfl (fun b1 wb1 eb1 hkb1 hub1 hsb1 => ?_)
 have hF2 := AInv.same (w1 := wb1) hs0 (fun k hk hl => hub1.other k (by omega))
 have hvl4 := fun h0 => eb1 ▸ hk.lt h0
 have hv3 := RowAt.upd hk hub1 (fun h0 => Nat.ne_of_lt (hvl4 h0))
 have hvl6 := fun h0 => eb1 ▸ hr.lt h0
 have hv5 := RowM.upd hr hub1 (fun h0 => Nat.ne_of_lt (hvl6 h0))
 have hB7 := Upd.below hB0 (by rw [eb1]; exact hB0.size) hub1
 have hgeb1 : w.heap.size ≤ b1 := by rw [eb1]; exact hB0.size
 refine WL.p (.as rfl) rfl <| WL.nil <| ?_
 refine W.seq <| W.reg <| WL.p (.fa underlying31 rfl sizeOf3 (by decide) rfl) rfl <| WL.r (Rd.ld (isAgg3 _) rfl hkb1 rfl) rfl <| WL.p (.bis (b7) (.eql rfl rfl) (by exact hb7.symm)) rfl <| WL.p (.as rfl) rfl <| WL.nil <| ?_
 refine W.seq <| W.reg <| WL.p (.fa underlying31 rfl sizeOf9 (by decide) rfl) rfl <| WL.r (Rd.ld (isAgg9 _) rfl hkb1 rfl) rfl <| WL.p (.bis (b8) (.eqs rfl rfl) (by exact hb8.symm)) rfl <| WL.p (.as rfl) rfl <| WL.nil <| ?_
 refine W.seq <| W.reg <| WL.p (.fa underlying31 rfl sizeOf28 (by decide) rfl) rfl <| WL.r (Rd.ld (isAgg28 _) rfl hkb1 rfl) rfl <| WL.p (.lenS underlying28 rfl) rfl <| WL.p (.bis (b9) (.eql rfl rfl) (by exact hb9.symm)) rfl <| WL.p (.as rfl) rfl <| WL.nil <| ?_
 refine W.seq <| W.reg <| WL.p (.fa underlying31 rfl sizeOf29 (by decide) rfl) rfl <| WL.r (Rd.ld (isAgg29 _) rfl hkb1 rfl) rfl <| WL.p (.lenS underlying29 rfl) rfl <| WL.p (.bis (b10) (.eql rfl rfl) (by exact hb10.symm)) rfl <| WL.p (.as rfl) rfl <| WL.nil <| ?_
 refine W.seq <| W.reg <| WL.p (.fa underlying31 rfl sizeOf22 (by decide) rfl) rfl <| WL.r (Rd.ld (isAgg22 _) rfl hkb1 rfl) rfl <| WL.p (.lenS underlying22 rfl) rfl <| WL.p (.bis (b11) (.eql rfl rfl) (by exact hb11.symm)) rfl <| WL.p (.as rfl) rfl <| WL.nil <| ?_
 refine W.cut (α := Unit) (fun t => [(1, .int .i64 D), (3, .pointer (some ⟨b1, 0, none⟩))]) (fun t w' => Below w.heap.size w w' ∧ Blk w' b1 #[.int .i64 k, .int .i64 i, .string (bs s), .slice kp keys.length kc, .slice lp cs.length lc, .slice dp data.length dc] 31 ∧ RowM acL w' lp cs ∧ AInv w' S cs list ∧ PreS D st k i s keys list.length data) ?_ (fun t w1 hR => ?_)
 ·
  skip
  refine W.seq <| W.reg <| WL.p (.fa underlying31 rfl sizeOf3 (by decide) rfl) rfl <| WL.r (Rd.ld (isAgg3 _) rfl hkb1 rfl) rfl <| WL.nil <| ?_
  refine W.block <| W.seq <| W.reg <| WL.p (.eql rfl rfl) rfl <| WL.p (.as rfl) rfl <| WL.nil <| ?_
  refine W.cond rfl (fun h8 => ?_) (fun h8 => ?_)
  ·
   have h8' := of_decide_eq_true h8
   refine W.seq <| W.reg <| WL.p (.mv rfl) rfl <| WL.p (.mv rfl) rfl <| WL.gd rfl rfl rfl (fun g9 => ?_) (fun g9 => ?_)
   ·
    skip
    refine WL.p (.mv rfl) rfl <| WL.p (.pkT rfl g9 rfl) rfl <| WL.p (.mv rfl) rfl <| WL.gd rfl rfl rfl (fun g10 => ?_) (fun g10 => ?_)
    ·
     skip
     refine WL.p (.mv rfl) rfl <| WL.p (.pkT rfl g10 rfl) rfl <| WL.p (.mv rfl) rfl <| WL.gd rfl rfl rfl (fun g11 => ?_) (fun g11 => ?_)
     ·
      skip
      refine WL.p (.mv rfl) rfl <| WL.p (.pkT rfl g11 rfl) rfl <| WL.p (.mv rfl) rfl <| WL.gd rfl rfl rfl (fun g12 => ?_) (fun g12 => ?_)
      ·
       skip
       refine WL.p (.mv rfl) rfl <| WL.p (.pkT rfl g12 rfl) rfl <| WL.p (.as rfl) rfl <| WL.nil <| ?_
       refine W.ret (W.ret1 rfl rfl ?_)
       first
       | exact ⟨⟨false, fun h => by cases h⟩, rfl, hB7⟩
       | exact ⟨⟨true, fun _ => hpre.snd (by omega) (fun o ho => hall o (by rw [List.take_of_length_le (by omega)]; exact ho))⟩, rfl, hB7⟩
       | exact ⟨⟨_, fun hb => fin0 hcl (by assumption) (of_decide_eq_true (hb7.symm.trans (by assumption))) (of_decide_eq_true (hb8.symm.trans (by assumption))) (of_decide_eq_true (hb9.symm.trans (by assumption))) (of_decide_eq_true (hb10.symm.trans (by assumption))) (of_decide_eq_true (hb11.symm.trans hb))⟩, rfl, hB7⟩
       | exact ⟨⟨_, fun hb => fin1 hcl (by assumption) (by first | exact .inl (by assumption) | exact .inr (by assumption)) (of_decide_eq_true (hb8.symm.trans (by assumption))) (of_decide_eq_true (hb9.symm.trans (by assumption))) (of_decide_eq_true (hb10.symm.trans (by assumption))) (of_decide_eq_true (hb11.symm.trans hb))⟩, rfl, hB7⟩
       | exact ⟨⟨_, fun hb => fin2 hcl (by first | exact .inl (by assumption) | exact .inr (by assumption)) (by assumption) (of_decide_eq_true (hb8.symm.trans (by assumption))) (of_decide_eq_true (hb9.symm.trans (by assumption))) (of_decide_eq_true (hb10.symm.trans (by assumption))) (of_decide_eq_true (hb11.symm.trans hb))⟩, rfl, hB7⟩
       | exact ⟨⟨_, fun hb => fin4 hcl (by assumption) (of_decide_eq_true (hb7.symm.trans (by assumption))) (nmB_ok (by assumption)) (of_decide_eq_true (hb9.symm.trans (by assumption))) (of_decide_eq_true (hb10.symm.trans (by assumption))) (of_decide_eq_true (hb11.symm.trans hb))⟩, rfl, hB7⟩
       | exact ⟨⟨_, fun hb => fin5 hcl (by assumption) (of_decide_eq_true (hb7.symm.trans (by assumption))) (by assumption) (of_decide_eq_true (hb9.symm.trans (by assumption))) (of_decide_eq_true (hb10.symm.trans (by assumption))) (of_decide_eq_true (hb11.symm.trans hb))⟩, rfl, hB7⟩
       | exact ⟨⟨_, fun hb => fin8 hcl (by assumption) (by assumption) (by assumption) (of_decide_eq_true (hb8.symm.trans (by assumption))) (of_decide_eq_true (hb9.symm.trans (by assumption))) (of_decide_eq_true (hb10.symm.trans (by assumption))) (of_decide_eq_true (hb11.symm.trans hb))⟩, rfl, hB7⟩
      refine WL.p (.pkF rfl g12 rfl) rfl <| WL.p (.as rfl) rfl <| WL.nil <| ?_
      refine W.ret (W.ret1 rfl rfl ?_)
      first
      | exact ⟨⟨false, fun h => by cases h⟩, rfl, hB7⟩
      | exact ⟨⟨true, fun _ => hpre.snd (by omega) (fun o ho => hall o (by rw [List.take_of_length_le (by omega)]; exact ho))⟩, rfl, hB7⟩
      | exact ⟨⟨_, fun hb => fin0 hcl (by assumption) (of_decide_eq_true (hb7.symm.trans (by assumption))) (of_decide_eq_true (hb8.symm.trans (by assumption))) (of_decide_eq_true (hb9.symm.trans (by assumption))) (of_decide_eq_true (hb10.symm.trans (by assumption))) (of_decide_eq_true (hb11.symm.trans hb))⟩, rfl, hB7⟩
      | exact ⟨⟨_, fun hb => fin1 hcl (by assumption) (by first | exact .inl (by assumption) | exact .inr (by assumption)) (of_decide_eq_true (hb8.symm.trans (by assumption))) (of_decide_eq_true (hb9.symm.trans (by assumption))) (of_decide_eq_true (hb10.symm.trans (by assumption))) (of_decide_eq_true (hb11.symm.trans hb))⟩, rfl, hB7⟩
      | exact ⟨⟨_, fun hb => fin2 hcl (by first | exact .inl (by assumption) | exact .inr (by assumption)) (by assumption) (of_decide_eq_true (hb8.symm.trans (by assumption))) (of_decide_eq_true (hb9.symm.trans (by assumption))) (of_decide_eq_true (hb10.symm.trans (by assumption))) (of_decide_eq_true (hb11.symm.trans hb))⟩, rfl, hB7⟩
      | exact ⟨⟨_, fun hb => fin4 hcl (by assumption) (of_decide_eq_true (hb7.symm.trans (by assumption))) (nmB_ok (by assumption)) (of_decide_eq_true (hb9.symm.trans (by assumption))) (of_decide_eq_true (hb10.symm.trans (by assumption))) (of_decide_eq_true (hb11.symm.trans hb))⟩, rfl, hB7⟩
      | exact ⟨⟨_, fun hb => fin5 hcl (by assumption) (of_decide_eq_true (hb7.symm.trans (by assumption))) (by assumption) (of_decide_eq_true (hb9.symm.trans (by assumption))) (of_decide_eq_true (hb10.symm.trans (by assumption))) (of_decide_eq_true (hb11.symm.trans hb))⟩, rfl, hB7⟩
      | exact ⟨⟨_, fun hb => fin8 hcl (by assumption) (by assumption) (by assumption) (of_decide_eq_true (hb8.symm.trans (by assumption))) (of_decide_eq_true (hb9.symm.trans (by assumption))) (of_decide_eq_true (hb10.symm.trans (by assumption))) (of_decide_eq_true (hb11.symm.trans hb))⟩, rfl, hB7⟩
     refine WL.p (.pkF rfl g11 rfl) rfl <| WL.p (.mv rfl) rfl <| WL.gn rfl rfl rfl rfl <| WL.p (.pkF rfl rfl rfl) rfl <| WL.p (.as rfl) rfl <| WL.nil <| ?_
     refine W.ret (W.ret1 rfl rfl ?_)
     first
     | exact ⟨⟨false, fun h => by cases h⟩, rfl, hB7⟩
     | exact ⟨⟨true, fun _ => hpre.snd (by omega) (fun o ho => hall o (by rw [List.take_of_length_le (by omega)]; exact ho))⟩, rfl, hB7⟩
     | exact ⟨⟨_, fun hb => fin0 hcl (by assumption) (of_decide_eq_true (hb7.symm.trans (by assumption))) (of_decide_eq_true (hb8.symm.trans (by assumption))) (of_decide_eq_true (hb9.symm.trans (by assumption))) (of_decide_eq_true (hb10.symm.trans (by assumption))) (of_decide_eq_true (hb11.symm.trans hb))⟩, rfl, hB7⟩
     | exact ⟨⟨_, fun hb => fin1 hcl (by assumption) (by first | exact .inl (by assumption) | exact .inr (by assumption)) (of_decide_eq_true (hb8.symm.trans (by assumption))) (of_decide_eq_true (hb9.symm.trans (by assumption))) (of_decide_eq_true (hb10.symm.trans (by assumption))) (of_decide_eq_true (hb11.symm.trans hb))⟩, rfl, hB7⟩
     | exact ⟨⟨_, fun hb => fin2 hcl (by first | exact .inl (by assumption) | exact .inr (by assumption)) (by assumption) (of_decide_eq_true (hb8.symm.trans (by assumption))) (of_decide_eq_true (hb9.symm.trans (by assumption))) (of_decide_eq_true (hb10.symm.trans (by assumption))) (of_decide_eq_true (hb11.symm.trans hb))⟩, rfl, hB7⟩
     | exact ⟨⟨_, fun hb => fin4 hcl (by assumption) (of_decide_eq_true (hb7.symm.trans (by assumption))) (nmB_ok (by assumption)) (of_decide_eq_true (hb9.symm.trans (by assumption))) (of_decide_eq_true (hb10.symm.trans (by assumption))) (of_decide_eq_true (hb11.symm.trans hb))⟩, rfl, hB7⟩
     | exact ⟨⟨_, fun hb => fin5 hcl (by assumption) (of_decide_eq_true (hb7.symm.trans (by assumption))) (by assumption) (of_decide_eq_true (hb9.symm.trans (by assumption))) (of_decide_eq_true (hb10.symm.trans (by assumption))) (of_decide_eq_true (hb11.symm.trans hb))⟩, rfl, hB7⟩
     | exact ⟨⟨_, fun hb => fin8 hcl (by assumption) (by assumption) (by assumption) (of_decide_eq_true (hb8.symm.trans (by assumption))) (of_decide_eq_true (hb9.symm.trans (by assumption))) (of_decide_eq_true (hb10.symm.trans (by assumption))) (of_decide_eq_true (hb11.symm.trans hb))⟩, rfl, hB7⟩
    refine WL.p (.pkF rfl g10 rfl) rfl <| WL.p (.mv rfl) rfl <| WL.gn rfl rfl rfl rfl <| WL.p (.pkF rfl rfl rfl) rfl <| WL.p (.mv rfl) rfl <| WL.gn rfl rfl rfl rfl <| WL.p (.pkF rfl rfl rfl) rfl <| WL.p (.as rfl) rfl <| WL.nil <| ?_
    refine W.ret (W.ret1 rfl rfl ?_)
    first
    | exact ⟨⟨false, fun h => by cases h⟩, rfl, hB7⟩
    | exact ⟨⟨true, fun _ => hpre.snd (by omega) (fun o ho => hall o (by rw [List.take_of_length_le (by omega)]; exact ho))⟩, rfl, hB7⟩
    | exact ⟨⟨_, fun hb => fin0 hcl (by assumption) (of_decide_eq_true (hb7.symm.trans (by assumption))) (of_decide_eq_true (hb8.symm.trans (by assumption))) (of_decide_eq_true (hb9.symm.trans (by assumption))) (of_decide_eq_true (hb10.symm.trans (by assumption))) (of_decide_eq_true (hb11.symm.trans hb))⟩, rfl, hB7⟩
    | exact ⟨⟨_, fun hb => fin1 hcl (by assumption) (by first | exact .inl (by assumption) | exact .inr (by assumption)) (of_decide_eq_true (hb8.symm.trans (by assumption))) (of_decide_eq_true (hb9.symm.trans (by assumption))) (of_decide_eq_true (hb10.symm.trans (by assumption))) (of_decide_eq_true (hb11.symm.trans hb))⟩, rfl, hB7⟩
    | exact ⟨⟨_, fun hb => fin2 hcl (by first | exact .inl (by assumption) | exact .inr (by assumption)) (by assumption) (of_decide_eq_true (hb8.symm.trans (by assumption))) (of_decide_eq_true (hb9.symm.trans (by assumption))) (of_decide_eq_true (hb10.symm.trans (by assumption))) (of_decide_eq_true (hb11.symm.trans hb))⟩, rfl, hB7⟩
    | exact ⟨⟨_, fun hb => fin4 hcl (by assumption) (of_decide_eq_true (hb7.symm.trans (by assumption))) (nmB_ok (by assumption)) (of_decide_eq_true (hb9.symm.trans (by assumption))) (of_decide_eq_true (hb10.symm.trans (by assumption))) (of_decide_eq_true (hb11.symm.trans hb))⟩, rfl, hB7⟩
    | exact ⟨⟨_, fun hb => fin5 hcl (by assumption) (of_decide_eq_true (hb7.symm.trans (by assumption))) (by assumption) (of_decide_eq_true (hb9.symm.trans (by assumption))) (of_decide_eq_true (hb10.symm.trans (by assumption))) (of_decide_eq_true (hb11.symm.trans hb))⟩, rfl, hB7⟩
    | exact ⟨⟨_, fun hb => fin8 hcl (by assumption) (by assumption) (by assumption) (of_decide_eq_true (hb8.symm.trans (by assumption))) (of_decide_eq_true (hb9.symm.trans (by assumption))) (of_decide_eq_true (hb10.symm.trans (by assumption))) (of_decide_eq_true (hb11.symm.trans hb))⟩, rfl, hB7⟩
   refine WL.p (.pkF rfl g9 rfl) rfl <| WL.p (.mv rfl) rfl <| WL.gn rfl rfl rfl rfl <| WL.p (.pkF rfl rfl rfl) rfl <| WL.p (.mv rfl) rfl <| WL.gn rfl rfl rfl rfl <| WL.p (.pkF rfl rfl rfl) rfl <| WL.p (.mv rfl) rfl <| WL.gn rfl rfl rfl rfl <| WL.p (.pkF rfl rfl rfl) rfl <| WL.p (.as rfl) rfl <| WL.nil <| ?_
   refine W.ret (W.ret1 rfl rfl ?_)
   first
   | exact ⟨⟨false, fun h => by cases h⟩, rfl, hB7⟩
   | exact ⟨⟨true, fun _ => hpre.snd (by omega) (fun o ho => hall o (by rw [List.take_of_length_le (by omega)]; exact ho))⟩, rfl, hB7⟩
   | exact ⟨⟨_, fun hb => fin0 hcl (by assumption) (of_decide_eq_true (hb7.symm.trans (by assumption))) (of_decide_eq_true (hb8.symm.trans (by assumption))) (of_decide_eq_true (hb9.symm.trans (by assumption))) (of_decide_eq_true (hb10.symm.trans (by assumption))) (of_decide_eq_true (hb11.symm.trans hb))⟩, rfl, hB7⟩
   | exact ⟨⟨_, fun hb => fin1 hcl (by assumption) (by first | exact .inl (by assumption) | exact .inr (by assumption)) (of_decide_eq_true (hb8.symm.trans (by assumption))) (of_decide_eq_true (hb9.symm.trans (by assumption))) (of_decide_eq_true (hb10.symm.trans (by assumption))) (of_decide_eq_true (hb11.symm.trans hb))⟩, rfl, hB7⟩
   | exact ⟨⟨_, fun hb => fin2 hcl (by first | exact .inl (by assumption) | exact .inr (by assumption)) (by assumption) (of_decide_eq_true (hb8.symm.trans (by assumption))) (of_decide_eq_true (hb9.symm.trans (by assumption))) (of_decide_eq_true (hb10.symm.trans (by assumption))) (of_decide_eq_true (hb11.symm.trans hb))⟩, rfl, hB7⟩
   | exact ⟨⟨_, fun hb => fin4 hcl (by assumption) (of_decide_eq_true (hb7.symm.trans (by assumption))) (nmB_ok (by assumption)) (of_decide_eq_true (hb9.symm.trans (by assumption))) (of_decide_eq_true (hb10.symm.trans (by assumption))) (of_decide_eq_true (hb11.symm.trans hb))⟩, rfl, hB7⟩
   | exact ⟨⟨_, fun hb => fin5 hcl (by assumption) (of_decide_eq_true (hb7.symm.trans (by assumption))) (by assumption) (of_decide_eq_true (hb9.symm.trans (by assumption))) (of_decide_eq_true (hb10.symm.trans (by assumption))) (of_decide_eq_true (hb11.symm.trans hb))⟩, rfl, hB7⟩
   | exact ⟨⟨_, fun hb => fin8 hcl (by assumption) (by assumption) (by assumption) (of_decide_eq_true (hb8.symm.trans (by assumption))) (of_decide_eq_true (hb9.symm.trans (by assumption))) (of_decide_eq_true (hb10.symm.trans (by assumption))) (of_decide_eq_true (hb11.symm.trans hb))⟩, rfl, hB7⟩
  have h8' := of_decide_eq_false h8
  refine W.seq <| W.reg <| WL.p (.eql rfl rfl) rfl <| WL.p (.as rfl) rfl <| WL.nil <| ?_
  refine W.cond rfl (fun h13 => ?_) (fun h13 => ?_)
  ·
   have h13' := of_decide_eq_true h13
   refine W.seq <| W.reg <| WL.p (.fa underlying31 rfl sizeOf3 (by decide) rfl) rfl <| WL.r (Rd.ld (isAgg3 _) rfl hkb1 rfl) rfl <| WL.p (.eql rfl rfl) rfl <| WL.p (.mv rfl) rfl <| WL.gd rfl rfl rfl (fun g14 => ?_) (fun g14 => ?_)
   ·
    have g14' := of_decide_eq_false g14
    refine WL.p (.fa underlying31 rfl sizeOf3 (by decide) rfl) rfl <| WL.gy rfl rfl rfl g14 <| WL.r (Rd.ld (isAgg3 _) rfl hkb1 rfl) rfl <| WL.gy rfl rfl rfl g14 <| WL.p (.eql rfl rfl) rfl <| WL.p (.pkF rfl g14 rfl) rfl <| WL.p (.mv rfl) rfl <| WL.gd rfl rfl rfl (fun g15 => ?_) (fun g15 => ?_)
    ·
     have g15' := of_decide_eq_true g15
     refine WL.p (.mv rfl) rfl <| WL.p (.pkT rfl g15 rfl) rfl <| WL.p (.mv rfl) rfl <| WL.gd rfl rfl rfl (fun g16 => ?_) (fun g16 => ?_)
     ·
      skip
      refine WL.p (.mv rfl) rfl <| WL.p (.pkT rfl g16 rfl) rfl <| WL.p (.mv rfl) rfl <| WL.gd rfl rfl rfl (fun g17 => ?_) (fun g17 => ?_)
      ·
       skip
       refine WL.p (.mv rfl) rfl <| WL.p (.pkT rfl g17 rfl) rfl <| WL.p (.mv rfl) rfl <| WL.gd rfl rfl rfl (fun g18 => ?_) (fun g18 => ?_)
       ·
        skip
        refine WL.p (.mv rfl) rfl <| WL.p (.pkT rfl g18 rfl) rfl <| WL.p (.as rfl) rfl <| WL.nil <| ?_
        refine W.ret (W.ret1 rfl rfl ?_)
        first
        | exact ⟨⟨false, fun h => by cases h⟩, rfl, hB7⟩
        | exact ⟨⟨true, fun _ => hpre.snd (by omega) (fun o ho => hall o (by rw [List.take_of_length_le (by omega)]; exact ho))⟩, rfl, hB7⟩
        | exact ⟨⟨_, fun hb => fin0 hcl (by assumption) (of_decide_eq_true (hb7.symm.trans (by assumption))) (of_decide_eq_true (hb8.symm.trans (by assumption))) (of_decide_eq_true (hb9.symm.trans (by assumption))) (of_decide_eq_true (hb10.symm.trans (by assumption))) (of_decide_eq_true (hb11.symm.trans hb))⟩, rfl, hB7⟩
        | exact ⟨⟨_, fun hb => fin1 hcl (by assumption) (by first | exact .inl (by assumption) | exact .inr (by assumption)) (of_decide_eq_true (hb8.symm.trans (by assumption))) (of_decide_eq_true (hb9.symm.trans (by assumption))) (of_decide_eq_true (hb10.symm.trans (by assumption))) (of_decide_eq_true (hb11.symm.trans hb))⟩, rfl, hB7⟩
        | exact ⟨⟨_, fun hb => fin2 hcl (by first | exact .inl (by assumption) | exact .inr (by assumption)) (by assumption) (of_decide_eq_true (hb8.symm.trans (by assumption))) (of_decide_eq_true (hb9.symm.trans (by assumption))) (of_decide_eq_true (hb10.symm.trans (by assumption))) (of_decide_eq_true (hb11.symm.trans hb))⟩, rfl, hB7⟩
        | exact ⟨⟨_, fun hb => fin4 hcl (by assumption) (of_decide_eq_true (hb7.symm.trans (by assumption))) (nmB_ok (by assumption)) (of_decide_eq_true (hb9.symm.trans (by assumption))) (of_decide_eq_true (hb10.symm.trans (by assumption))) (of_decide_eq_true (hb11.symm.trans hb))⟩, rfl, hB7⟩
        | exact ⟨⟨_, fun hb => fin5 hcl (by assumption) (of_decide_eq_true (hb7.symm.trans (by assumption))) (by assumption) (of_decide_eq_true (hb9.symm.trans (by assumption))) (of_decide_eq_true (hb10.symm.trans (by assumption))) (of_decide_eq_true (hb11.symm.trans hb))⟩, rfl, hB7⟩
        | exact ⟨⟨_, fun hb => fin8 hcl (by assumption) (by assumption) (by assumption) (of_decide_eq_true (hb8.symm.trans (by assumption))) (of_decide_eq_true (hb9.symm.trans (by assumption))) (of_decide_eq_true (hb10.symm.trans (by assumption))) (of_decide_eq_true (hb11.symm.trans hb))⟩, rfl, hB7⟩
       refine WL.p (.pkF rfl g18 rfl) rfl <| WL.p (.as rfl) rfl <| WL.nil <| ?_
       refine W.ret (W.ret1 rfl rfl ?_)
       first
       | exact ⟨⟨false, fun h => by cases h⟩, rfl, hB7⟩
       | exact ⟨⟨true, fun _ => hpre.snd (by omega) (fun o ho => hall o (by rw [List.take_of_length_le (by omega)]; exact ho))⟩, rfl, hB7⟩
       | exact ⟨⟨_, fun hb => fin0 hcl (by assumption) (of_decide_eq_true (hb7.symm.trans (by assumption))) (of_decide_eq_true (hb8.symm.trans (by assumption))) (of_decide_eq_true (hb9.symm.trans (by assumption))) (of_decide_eq_true (hb10.symm.trans (by assumption))) (of_decide_eq_true (hb11.symm.trans hb))⟩, rfl, hB7⟩
       | exact ⟨⟨_, fun hb => fin1 hcl (by assumption) (by first | exact .inl (by assumption) | exact .inr (by assumption)) (of_decide_eq_true (hb8.symm.trans (by assumption))) (of_decide_eq_true (hb9.symm.trans (by assumption))) (of_decide_eq_true (hb10.symm.trans (by assumption))) (of_decide_eq_true (hb11.symm.trans hb))⟩, rfl, hB7⟩
       | exact ⟨⟨_, fun hb => fin2 hcl (by first | exact .inl (by assumption) | exact .inr (by assumption)) (by assumption) (of_decide_eq_true (hb8.symm.trans (by assumption))) (of_decide_eq_true (hb9.symm.trans (by assumption))) (of_decide_eq_true (hb10.symm.trans (by assumption))) (of_decide_eq_true (hb11.symm.trans hb))⟩, rfl, hB7⟩
       | exact ⟨⟨_, fun hb => fin4 hcl (by assumption) (of_decide_eq_true (hb7.symm.trans (by assumption))) (nmB_ok (by assumption)) (of_decide_eq_true (hb9.symm.trans (by assumption))) (of_decide_eq_true (hb10.symm.trans (by assumption))) (of_decide_eq_true (hb11.symm.trans hb))⟩, rfl, hB7⟩
       | exact ⟨⟨_, fun hb => fin5 hcl (by assumption) (of_decide_eq_true (hb7.symm.trans (by assumption))) (by assumption) (of_decide_eq_true (hb9.symm.trans (by assumption))) (of_decide_eq_true (hb10.symm.trans (by assumption))) (of_decide_eq_true (hb11.symm.trans hb))⟩, rfl, hB7⟩
       | exact ⟨⟨_, fun hb => fin8 hcl (by assumption) (by assumption) (by assumption) (of_decide_eq_true (hb8.symm.trans (by assumption))) (of_decide_eq_true (hb9.symm.trans (by assumption))) (of_decide_eq_true (hb10.symm.trans (by assumption))) (of_decide_eq_true (hb11.symm.trans hb))⟩, rfl, hB7⟩
      refine WL.p (.pkF rfl g17 rfl) rfl <| WL.p (.mv rfl) rfl <| WL.gn rfl rfl rfl rfl <| WL.p (.pkF rfl rfl rfl) rfl <| WL.p (.as rfl) rfl <| WL.nil <| ?_
      refine W.ret (W.ret1 rfl rfl ?_)
      first
      | exact ⟨⟨false, fun h => by cases h⟩, rfl, hB7⟩
      | exact ⟨⟨true, fun _ => hpre.snd (by omega) (fun o ho => hall o (by rw [List.take_of_length_le (by omega)]; exact ho))⟩, rfl, hB7⟩
      | exact ⟨⟨_, fun hb => fin0 hcl (by assumption) (of_decide_eq_true (hb7.symm.trans (by assumption))) (of_decide_eq_true (hb8.symm.trans (by assumption))) (of_decide_eq_true (hb9.symm.trans (by assumption))) (of_decide_eq_true (hb10.symm.trans (by assumption))) (of_decide_eq_true (hb11.symm.trans hb))⟩, rfl, hB7⟩
      | exact ⟨⟨_, fun hb => fin1 hcl (by assumption) (by first | exact .inl (by assumption) | exact .inr (by assumption)) (of_decide_eq_true (hb8.symm.trans (by assumption))) (of_decide_eq_true (hb9.symm.trans (by assumption))) (of_decide_eq_true (hb10.symm.trans (by assumption))) (of_decide_eq_true (hb11.symm.trans hb))⟩, rfl, hB7⟩
      | exact ⟨⟨_, fun hb => fin2 hcl (by first | exact .inl (by assumption) | exact .inr (by assumption)) (by assumption) (of_decide_eq_true (hb8.symm.trans (by assumption))) (of_decide_eq_true (hb9.symm.trans (by assumption))) (of_decide_eq_true (hb10.symm.trans (by assumption))) (of_decide_eq_true (hb11.symm.trans hb))⟩, rfl, hB7⟩
      | exact ⟨⟨_, fun hb => fin4 hcl (by assumption) (of_decide_eq_true (hb7.symm.trans (by assumption))) (nmB_ok (by assumption)) (of_decide_eq_true (hb9.symm.trans (by assumption))) (of_decide_eq_true (hb10.symm.trans (by assumption))) (of_decide_eq_true (hb11.symm.trans hb))⟩, rfl, hB7⟩
      | exact ⟨⟨_, fun hb => fin5 hcl (by assumption) (of_decide_eq_true (hb7.symm.trans (by assumption))) (by assumption) (of_decide_eq_true (hb9.symm.trans (by assumption))) (of_decide_eq_true (hb10.symm.trans (by assumption))) (of_decide_eq_true (hb11.symm.trans hb))⟩, rfl, hB7⟩
      | exact ⟨⟨_, fun hb => fin8 hcl (by assumption) (by assumption) (by assumption) (of_decide_eq_true (hb8.symm.trans (by assumption))) (of_decide_eq_true (hb9.symm.trans (by assumption))) (of_decide_eq_true (hb10.symm.trans (by assumption))) (of_decide_eq_true (hb11.symm.trans hb))⟩, rfl, hB7⟩
     refine WL.p (.pkF rfl g16 rfl) rfl <| WL.p (.mv rfl) rfl <| WL.gn rfl rfl rfl rfl <| WL.p (.pkF rfl rfl rfl) rfl <| WL.p (.mv rfl) rfl <| WL.gn rfl rfl rfl rfl <| WL.p (.pkF rfl rfl rfl) rfl <| WL.p (.as rfl) rfl <| WL.nil <| ?_
     refine W.ret (W.ret1 rfl rfl ?_)
     first
     | exact ⟨⟨false, fun h => by cases h⟩, rfl, hB7⟩
     | exact ⟨⟨true, fun _ => hpre.snd (by omega) (fun o ho => hall o (by rw [List.take_of_length_le (by omega)]; exact ho))⟩, rfl, hB7⟩
     | exact ⟨⟨_, fun hb => fin0 hcl (by assumption) (of_decide_eq_true (hb7.symm.trans (by assumption))) (of_decide_eq_true (hb8.symm.trans (by assumption))) (of_decide_eq_true (hb9.symm.trans (by assumption))) (of_decide_eq_true (hb10.symm.trans (by assumption))) (of_decide_eq_true (hb11.symm.trans hb))⟩, rfl, hB7⟩
     | exact ⟨⟨_, fun hb => fin1 hcl (by assumption) (by first | exact .inl (by assumption) | exact .inr (by assumption)) (of_decide_eq_true (hb8.symm.trans (by assumption))) (of_decide_eq_true (hb9.symm.trans (by assumption))) (of_decide_eq_true (hb10.symm.trans (by assumption))) (of_decide_eq_true (hb11.symm.trans hb))⟩, rfl, hB7⟩
     | exact ⟨⟨_, fun hb => fin2 hcl (by first | exact .inl (by assumption) | exact .inr (by assumption)) (by assumption) (of_decide_eq_true (hb8.symm.trans (by assumption))) (of_decide_eq_true (hb9.symm.trans (by assumption))) (of_decide_eq_true (hb10.symm.trans (by assumption))) (of_decide_eq_true (hb11.symm.trans hb))⟩, rfl, hB7⟩
     | exact ⟨⟨_, fun hb => fin4 hcl (by assumption) (of_decide_eq_true (hb7.symm.trans (by assumption))) (nmB_ok (by assumption)) (of_decide_eq_true (hb9.symm.trans (by assumption))) (of_decide_eq_true (hb10.symm.trans (by assumption))) (of_decide_eq_true (hb11.symm.trans hb))⟩, rfl, hB7⟩
     | exact ⟨⟨_, fun hb => fin5 hcl (by assumption) (of_decide_eq_true (hb7.symm.trans (by assumption))) (by assumption) (of_decide_eq_true (hb9.symm.trans (by assumption))) (of_decide_eq_true (hb10.symm.trans (by assumption))) (of_decide_eq_true (hb11.symm.trans hb))⟩, rfl, hB7⟩
     | exact ⟨⟨_, fun hb => fin8 hcl (by assumption) (by assumption) (by assumption) (of_decide_eq_true (hb8.symm.trans (by assumption))) (of_decide_eq_true (hb9.symm.trans (by assumption))) (of_decide_eq_true (hb10.symm.trans (by assumption))) (of_decide_eq_true (hb11.symm.trans hb))⟩, rfl, hB7⟩
    have g15' := of_decide_eq_false g15
    refine WL.p (.pkF rfl g15 rfl) rfl <| WL.p (.mv rfl) rfl <| WL.gn rfl rfl rfl rfl <| WL.p (.pkF rfl rfl rfl) rfl <| WL.p (.mv rfl) rfl <| WL.gn rfl rfl rfl rfl <| WL.p (.pkF rfl rfl rfl) rfl <| WL.p (.mv rfl) rfl <| WL.gn rfl rfl rfl rfl <| WL.p (.pkF rfl rfl rfl) rfl <| WL.p (.as rfl) rfl <| WL.nil <| ?_
    refine W.ret (W.ret1 rfl rfl ?_)
    first
    | exact ⟨⟨false, fun h => by cases h⟩, rfl, hB7⟩
    | exact ⟨⟨true, fun _ => hpre.snd (by omega) (fun o ho => hall o (by rw [List.take_of_length_le (by omega)]; exact ho))⟩, rfl, hB7⟩
    | exact ⟨⟨_, fun hb => fin0 hcl (by assumption) (of_decide_eq_true (hb7.symm.trans (by assumption))) (of_decide_eq_true (hb8.symm.trans (by assumption))) (of_decide_eq_true (hb9.symm.trans (by assumption))) (of_decide_eq_true (hb10.symm.trans (by assumption))) (of_decide_eq_true (hb11.symm.trans hb))⟩, rfl, hB7⟩
    | exact ⟨⟨_, fun hb => fin1 hcl (by assumption) (by first | exact .inl (by assumption) | exact .inr (by assumption)) (of_decide_eq_true (hb8.symm.trans (by assumption))) (of_decide_eq_true (hb9.symm.trans (by assumption))) (of_decide_eq_true (hb10.symm.trans (by assumption))) (of_decide_eq_true (hb11.symm.trans hb))⟩, rfl, hB7⟩
    | exact ⟨⟨_, fun hb => fin2 hcl (by first | exact .inl (by assumption) | exact .inr (by assumption)) (by assumption) (of_decide_eq_true (hb8.symm.trans (by assumption))) (of_decide_eq_true (hb9.symm.trans (by assumption))) (of_decide_eq_true (hb10.symm.trans (by assumption))) (of_decide_eq_true (hb11.symm.trans hb))⟩, rfl, hB7⟩
    | exact ⟨⟨_, fun hb => fin4 hcl (by assumption) (of_decide_eq_true (hb7.symm.trans (by assumption))) (nmB_ok (by assumption)) (of_decide_eq_true (hb9.symm.trans (by assumption))) (of_decide_eq_true (hb10.symm.trans (by assumption))) (of_decide_eq_true (hb11.symm.trans hb))⟩, rfl, hB7⟩
    | exact ⟨⟨_, fun hb => fin5 hcl (by assumption) (of_decide_eq_true (hb7.symm.trans (by assumption))) (by assumption) (of_decide_eq_true (hb9.symm.trans (by assumption))) (of_decide_eq_true (hb10.symm.trans (by assumption))) (of_decide_eq_true (hb11.symm.trans hb))⟩, rfl, hB7⟩
    | exact ⟨⟨_, fun hb => fin8 hcl (by assumption) (by assumption) (by assumption) (of_decide_eq_true (hb8.symm.trans (by assumption))) (of_decide_eq_true (hb9.symm.trans (by assumption))) (of_decide_eq_true (hb10.symm.trans (by assumption))) (of_decide_eq_true (hb11.symm.trans hb))⟩, rfl, hB7⟩
   have g14' := of_decide_eq_true g14
   refine WL.gn rfl rfl rfl g14 <| WL.gn rfl rfl rfl g14 <| WL.p (.pkT rfl g14 rfl) rfl <| WL.p (.mv rfl) rfl <| WL.gy rfl rfl rfl rfl <| WL.p (.mv rfl) rfl <| WL.p (.pkT rfl rfl rfl) rfl <| WL.p (.mv rfl) rfl <| WL.gd rfl rfl rfl (fun g19 => ?_) (fun g19 => ?_)
   ·
    skip
    refine WL.p (.mv rfl) rfl <| WL.p (.pkT rfl g19 rfl) rfl <| WL.p (.mv rfl) rfl <| WL.gd rfl rfl rfl (fun g20 => ?_) (fun g20 => ?_)
    ·
     skip
     refine WL.p (.mv rfl) rfl <| WL.p (.pkT rfl g20 rfl) rfl <| WL.p (.mv rfl) rfl <| WL.gd rfl rfl rfl (fun g21 => ?_) (fun g21 => ?_)
     ·
      skip
      refine WL.p (.mv rfl) rfl <| WL.p (.pkT rfl g21 rfl) rfl <| WL.p (.as rfl) rfl <| WL.nil <| ?_
      refine W.ret (W.ret1 rfl rfl ?_)
      first
      | exact ⟨⟨false, fun h => by cases h⟩, rfl, hB7⟩
      | exact ⟨⟨true, fun _ => hpre.snd (by omega) (fun o ho => hall o (by rw [List.take_of_length_le (by omega)]; exact ho))⟩, rfl, hB7⟩
      | exact ⟨⟨_, fun hb => fin0 hcl (by assumption) (of_decide_eq_true (hb7.symm.trans (by assumption))) (of_decide_eq_true (hb8.symm.trans (by assumption))) (of_decide_eq_true (hb9.symm.trans (by assumption))) (of_decide_eq_true (hb10.symm.trans (by assumption))) (of_decide_eq_true (hb11.symm.trans hb))⟩, rfl, hB7⟩
      | exact ⟨⟨_, fun hb => fin1 hcl (by assumption) (by first | exact .inl (by assumption) | exact .inr (by assumption)) (of_decide_eq_true (hb8.symm.trans (by assumption))) (of_decide_eq_true (hb9.symm.trans (by assumption))) (of_decide_eq_true (hb10.symm.trans (by assumption))) (of_decide_eq_true (hb11.symm.trans hb))⟩, rfl, hB7⟩
      | exact ⟨⟨_, fun hb => fin2 hcl (by first | exact .inl (by assumption) | exact .inr (by assumption)) (by assumption) (of_decide_eq_true (hb8.symm.trans (by assumption))) (of_decide_eq_true (hb9.symm.trans (by assumption))) (of_decide_eq_true (hb10.symm.trans (by assumption))) (of_decide_eq_true (hb11.symm.trans hb))⟩, rfl, hB7⟩
      | exact ⟨⟨_, fun hb => fin4 hcl (by assumption) (of_decide_eq_true (hb7.symm.trans (by assumption))) (nmB_ok (by assumption)) (of_decide_eq_true (hb9.symm.trans (by assumption))) (of_decide_eq_true (hb10.symm.trans (by assumption))) (of_decide_eq_true (hb11.symm.trans hb))⟩, rfl, hB7⟩
      | exact ⟨⟨_, fun hb => fin5 hcl (by assumption) (of_decide_eq_true (hb7.symm.trans (by assumption))) (by assumption) (of_decide_eq_true (hb9.symm.trans (by assumption))) (of_decide_eq_true (hb10.symm.trans (by assumption))) (of_decide_eq_true (hb11.symm.trans hb))⟩, rfl, hB7⟩
      | exact ⟨⟨_, fun hb => fin8 hcl (by assumption) (by assumption) (by assumption) (of_decide_eq_true (hb8.symm.trans (by assumption))) (of_decide_eq_true (hb9.symm.trans (by assumption))) (of_decide_eq_true (hb10.symm.trans (by assumption))) (of_decide_eq_true (hb11.symm.trans hb))⟩, rfl, hB7⟩
     refine WL.p (.pkF rfl g21 rfl) rfl <| WL.p (.as rfl) rfl <| WL.nil <| ?_
     refine W.ret (W.ret1 rfl rfl ?_)
     first
     | exact ⟨⟨false, fun h => by cases h⟩, rfl, hB7⟩
     | exact ⟨⟨true, fun _ => hpre.snd (by omega) (fun o ho => hall o (by rw [List.take_of_length_le (by omega)]; exact ho))⟩, rfl, hB7⟩
     | exact ⟨⟨_, fun hb => fin0 hcl (by assumption) (of_decide_eq_true (hb7.symm.trans (by assumption))) (of_decide_eq_true (hb8.symm.trans (by assumption))) (of_decide_eq_true (hb9.symm.trans (by assumption))) (of_decide_eq_true (hb10.symm.trans (by assumption))) (of_decide_eq_true (hb11.symm.trans hb))⟩, rfl, hB7⟩
     | exact ⟨⟨_, fun hb => fin1 hcl (by assumption) (by first | exact .inl (by assumption) | exact .inr (by assumption)) (of_decide_eq_true (hb8.symm.trans (by assumption))) (of_decide_eq_true (hb9.symm.trans (by assumption))) (of_decide_eq_true (hb10.symm.trans (by assumption))) (of_decide_eq_true (hb11.symm.trans hb))⟩, rfl, hB7⟩
     | exact ⟨⟨_, fun hb => fin2 hcl (by first | exact .inl (by assumption) | exact .inr (by assumption)) (by assumption) (of_decide_eq_true (hb8.symm.trans (by assumption))) (of_decide_eq_true (hb9.symm.trans (by assumption))) (of_decide_eq_true (hb10.symm.trans (by assumption))) (of_decide_eq_true (hb11.symm.trans hb))⟩, rfl, hB7⟩
     | exact ⟨⟨_, fun hb => fin4 hcl (by assumption) (of_decide_eq_true (hb7.symm.trans (by assumption))) (nmB_ok (by assumption)) (of_decide_eq_true (hb9.symm.trans (by assumption))) (of_decide_eq_true (hb10.symm.trans (by assumption))) (of_decide_eq_true (hb11.symm.trans hb))⟩, rfl, hB7⟩
     | exact ⟨⟨_, fun hb => fin5 hcl (by assumption) (of_decide_eq_true (hb7.symm.trans (by assumption))) (by assumption) (of_decide_eq_true (hb9.symm.trans (by assumption))) (of_decide_eq_true (hb10.symm.trans (by assumption))) (of_decide_eq_true (hb11.symm.trans hb))⟩, rfl, hB7⟩
     | exact ⟨⟨_, fun hb => fin8 hcl (by assumption) (by assumption) (by assumption) (of_decide_eq_true (hb8.symm.trans (by assumption))) (of_decide_eq_true (hb9.symm.trans (by assumption))) (of_decide_eq_true (hb10.symm.trans (by assumption))) (of_decide_eq_true (hb11.symm.trans hb))⟩, rfl, hB7⟩
    refine WL.p (.pkF rfl g20 rfl) rfl <| WL.p (.mv rfl) rfl <| WL.gn rfl rfl rfl rfl <| WL.p (.pkF rfl rfl rfl) rfl <| WL.p (.as rfl) rfl <| WL.nil <| ?_
    refine W.ret (W.ret1 rfl rfl ?_)
    first
    | exact ⟨⟨false, fun h => by cases h⟩, rfl, hB7⟩
    | exact ⟨⟨true, fun _ => hpre.snd (by omega) (fun o ho => hall o (by rw [List.take_of_length_le (by omega)]; exact ho))⟩, rfl, hB7⟩
    | exact ⟨⟨_, fun hb => fin0 hcl (by assumption) (of_decide_eq_true (hb7.symm.trans (by assumption))) (of_decide_eq_true (hb8.symm.trans (by assumption))) (of_decide_eq_true (hb9.symm.trans (by assumption))) (of_decide_eq_true (hb10.symm.trans (by assumption))) (of_decide_eq_true (hb11.symm.trans hb))⟩, rfl, hB7⟩
    | exact ⟨⟨_, fun hb => fin1 hcl (by assumption) (by first | exact .inl (by assumption) | exact .inr (by assumption)) (of_decide_eq_true (hb8.symm.trans (by assumption))) (of_decide_eq_true (hb9.symm.trans (by assumption))) (of_decide_eq_true (hb10.symm.trans (by assumption))) (of_decide_eq_true (hb11.symm.trans hb))⟩, rfl, hB7⟩
    | exact ⟨⟨_, fun hb => fin2 hcl (by first | exact .inl (by assumption) | exact .inr (by assumption)) (by assumption) (of_decide_eq_true (hb8.symm.trans (by assumption))) (of_decide_eq_true (hb9.symm.trans (by assumption))) (of_decide_eq_true (hb10.symm.trans (by assumption))) (of_decide_eq_true (hb11.symm.trans hb))⟩, rfl, hB7⟩
    | exact ⟨⟨_, fun hb => fin4 hcl (by assumption) (of_decide_eq_true (hb7.symm.trans (by assumption))) (nmB_ok (by assumption)) (of_decide_eq_true (hb9.symm.trans (by assumption))) (of_decide_eq_true (hb10.symm.trans (by assumption))) (of_decide_eq_true (hb11.symm.trans hb))⟩, rfl, hB7⟩
    | exact ⟨⟨_, fun hb => fin5 hcl (by assumption) (of_decide_eq_true (hb7.symm.trans (by assumption))) (by assumption) (of_decide_eq_true (hb9.symm.trans (by assumption))) (of_decide_eq_true (hb10.symm.trans (by assumption))) (of_decide_eq_true (hb11.symm.trans hb))⟩, rfl, hB7⟩
    | exact ⟨⟨_, fun hb => fin8 hcl (by assumption) (by assumption) (by assumption) (of_decide_eq_true (hb8.symm.trans (by assumption))) (of_decide_eq_true (hb9.symm.trans (by assumption))) (of_decide_eq_true (hb10.symm.trans (by assumption))) (of_decide_eq_true (hb11.symm.trans hb))⟩, rfl, hB7⟩
   refine WL.p (.pkF rfl g19 rfl) rfl <| WL.p (.mv rfl) rfl <| WL.gn rfl rfl rfl rfl <| WL.p (.pkF rfl rfl rfl) rfl <| WL.p (.mv rfl) rfl <| WL.gn rfl rfl rfl rfl <| WL.p (.pkF rfl rfl rfl) rfl <| WL.p (.as rfl) rfl <| WL.nil <| ?_
   refine W.ret (W.ret1 rfl rfl ?_)
   first
   | exact ⟨⟨false, fun h => by cases h⟩, rfl, hB7⟩
   | exact ⟨⟨true, fun _ => hpre.snd (by omega) (fun o ho => hall o (by rw [List.take_of_length_le (by omega)]; exact ho))⟩, rfl, hB7⟩
   | exact ⟨⟨_, fun hb => fin0 hcl (by assumption) (of_decide_eq_true (hb7.symm.trans (by assumption))) (of_decide_eq_true (hb8.symm.trans (by assumption))) (of_decide_eq_true (hb9.symm.trans (by assumption))) (of_decide_eq_true (hb10.symm.trans (by assumption))) (of_decide_eq_true (hb11.symm.trans hb))⟩, rfl, hB7⟩
   | exact ⟨⟨_, fun hb => fin1 hcl (by assumption) (by first | exact .inl (by assumption) | exact .inr (by assumption)) (of_decide_eq_true (hb8.symm.trans (by assumption))) (of_decide_eq_true (hb9.symm.trans (by assumption))) (of_decide_eq_true (hb10.symm.trans (by assumption))) (of_decide_eq_true (hb11.symm.trans hb))⟩, rfl, hB7⟩
   | exact ⟨⟨_, fun hb => fin2 hcl (by first | exact .inl (by assumption) | exact .inr (by assumption)) (by assumption) (of_decide_eq_true (hb8.symm.trans (by assumption))) (of_decide_eq_true (hb9.symm.trans (by assumption))) (of_decide_eq_true (hb10.symm.trans (by assumption))) (of_decide_eq_true (hb11.symm.trans hb))⟩, rfl, hB7⟩
   | exact ⟨⟨_, fun hb => fin4 hcl (by assumption) (of_decide_eq_true (hb7.symm.trans (by assumption))) (nmB_ok (by assumption)) (of_decide_eq_true (hb9.symm.trans (by assumption))) (of_decide_eq_true (hb10.symm.trans (by assumption))) (of_decide_eq_true (hb11.symm.trans hb))⟩, rfl, hB7⟩
   | exact ⟨⟨_, fun hb => fin5 hcl (by assumption) (of_decide_eq_true (hb7.symm.trans (by assumption))) (by assumption) (of_decide_eq_true (hb9.symm.trans (by assumption))) (of_decide_eq_true (hb10.symm.trans (by assumption))) (of_decide_eq_true (hb11.symm.trans hb))⟩, rfl, hB7⟩
   | exact ⟨⟨_, fun hb => fin8 hcl (by assumption) (by assumption) (by assumption) (of_decide_eq_true (hb8.symm.trans (by assumption))) (of_decide_eq_true (hb9.symm.trans (by assumption))) (of_decide_eq_true (hb10.symm.trans (by assumption))) (of_decide_eq_true (hb11.symm.trans hb))⟩, rfl, hB7⟩
  have h13' := of_decide_eq_false h13
  refine W.seq <| W.seq <| W.reg <| WL.p (.eql rfl rfl) rfl <| WL.p (.as rfl) rfl <| WL.nil <| ?_
  refine W.cond rfl (fun h22 => ?_) (fun h22 => ?_)
  ·
   have h22' := of_decide_eq_true h22
   refine W.skip <| W.condT rfl h22 ?_
   refine W.seq <| W.reg <| WL.p (.fa underlying31 rfl sizeOf3 (by decide) rfl) rfl <| WL.r (Rd.ld (isAgg3 _) rfl hkb1 rfl) rfl <| WL.c1 hb62 rfl rfl ((ref_fits _ _)) (fun w23 hw23 => ?_)
   obtain rfl := hw23
   refine WL.p (.mv rfl) rfl <| WL.gd rfl rfl rfl (fun g24 => ?_) (fun g24 => ?_)
   ·
    skip
    refine WL.p (.mv rfl) rfl <| WL.p (.pkT rfl g24 rfl) rfl <| WL.p (.mv rfl) rfl <| WL.gd rfl rfl rfl (fun g25 => ?_) (fun g25 => ?_)
    ·
     skip
     refine WL.p (.mv rfl) rfl <| WL.p (.pkT rfl g25 rfl) rfl <| WL.p (.mv rfl) rfl <| WL.gd rfl rfl rfl (fun g26 => ?_) (fun g26 => ?_)
     ·
      skip
      refine WL.p (.mv rfl) rfl <| WL.p (.pkT rfl g26 rfl) rfl <| WL.p (.mv rfl) rfl <| WL.gd rfl rfl rfl (fun g27 => ?_) (fun g27 => ?_)
      ·
       skip
       refine WL.p (.mv rfl) rfl <| WL.p (.pkT rfl g27 rfl) rfl <| WL.p (.as rfl) rfl <| WL.nil <| ?_
       refine W.ret (W.ret1 rfl rfl ?_)
       first
       | exact ⟨⟨false, fun h => by cases h⟩, rfl, hB7⟩
       | exact ⟨⟨true, fun _ => hpre.snd (by omega) (fun o ho => hall o (by rw [List.take_of_length_le (by omega)]; exact ho))⟩, rfl, hB7⟩
       | exact ⟨⟨_, fun hb => fin0 hcl (by assumption) (of_decide_eq_true (hb7.symm.trans (by assumption))) (of_decide_eq_true (hb8.symm.trans (by assumption))) (of_decide_eq_true (hb9.symm.trans (by assumption))) (of_decide_eq_true (hb10.symm.trans (by assumption))) (of_decide_eq_true (hb11.symm.trans hb))⟩, rfl, hB7⟩
       | exact ⟨⟨_, fun hb => fin1 hcl (by assumption) (by first | exact .inl (by assumption) | exact .inr (by assumption)) (of_decide_eq_true (hb8.symm.trans (by assumption))) (of_decide_eq_true (hb9.symm.trans (by assumption))) (of_decide_eq_true (hb10.symm.trans (by assumption))) (of_decide_eq_true (hb11.symm.trans hb))⟩, rfl, hB7⟩
       | exact ⟨⟨_, fun hb => fin2 hcl (by first | exact .inl (by assumption) | exact .inr (by assumption)) (by assumption) (of_decide_eq_true (hb8.symm.trans (by assumption))) (of_decide_eq_true (hb9.symm.trans (by assumption))) (of_decide_eq_true (hb10.symm.trans (by assumption))) (of_decide_eq_true (hb11.symm.trans hb))⟩, rfl, hB7⟩
       | exact ⟨⟨_, fun hb => fin4 hcl (by assumption) (of_decide_eq_true (hb7.symm.trans (by assumption))) (nmB_ok (by assumption)) (of_decide_eq_true (hb9.symm.trans (by assumption))) (of_decide_eq_true (hb10.symm.trans (by assumption))) (of_decide_eq_true (hb11.symm.trans hb))⟩, rfl, hB7⟩
       | exact ⟨⟨_, fun hb => fin5 hcl (by assumption) (of_decide_eq_true (hb7.symm.trans (by assumption))) (by assumption) (of_decide_eq_true (hb9.symm.trans (by assumption))) (of_decide_eq_true (hb10.symm.trans (by assumption))) (of_decide_eq_true (hb11.symm.trans hb))⟩, rfl, hB7⟩
       | exact ⟨⟨_, fun hb => fin8 hcl (by assumption) (by assumption) (by assumption) (of_decide_eq_true (hb8.symm.trans (by assumption))) (of_decide_eq_true (hb9.symm.trans (by assumption))) (of_decide_eq_true (hb10.symm.trans (by assumption))) (of_decide_eq_true (hb11.symm.trans hb))⟩, rfl, hB7⟩
      refine WL.p (.pkF rfl g27 rfl) rfl <| WL.p (.as rfl) rfl <| WL.nil <| ?_
      refine W.ret (W.ret1 rfl rfl ?_)
      first
      | exact ⟨⟨false, fun h => by cases h⟩, rfl, hB7⟩
      | exact ⟨⟨true, fun _ => hpre.snd (by omega) (fun o ho => hall o (by rw [List.take_of_length_le (by omega)]; exact ho))⟩, rfl, hB7⟩
      | exact ⟨⟨_, fun hb => fin0 hcl (by assumption) (of_decide_eq_true (hb7.symm.trans (by assumption))) (of_decide_eq_true (hb8.symm.trans (by assumption))) (of_decide_eq_true (hb9.symm.trans (by assumption))) (of_decide_eq_true (hb10.symm.trans (by assumption))) (of_decide_eq_true (hb11.symm.trans hb))⟩, rfl, hB7⟩
      | exact ⟨⟨_, fun hb => fin1 hcl (by assumption) (by first | exact .inl (by assumption) | exact .inr (by assumption)) (of_decide_eq_true (hb8.symm.trans (by assumption))) (of_decide_eq_true (hb9.symm.trans (by assumption))) (of_decide_eq_true (hb10.symm.trans (by assumption))) (of_decide_eq_true (hb11.symm.trans hb))⟩, rfl, hB7⟩
      | exact ⟨⟨_, fun hb => fin2 hcl (by first | exact .inl (by assumption) | exact .inr (by assumption)) (by assumption) (of_decide_eq_true (hb8.symm.trans (by assumption))) (of_decide_eq_true (hb9.symm.trans (by assumption))) (of_decide_eq_true (hb10.symm.trans (by assumption))) (of_decide_eq_true (hb11.symm.trans hb))⟩, rfl, hB7⟩
      | exact ⟨⟨_, fun hb => fin4 hcl (by assumption) (of_decide_eq_true (hb7.symm.trans (by assumption))) (nmB_ok (by assumption)) (of_decide_eq_true (hb9.symm.trans (by assumption))) (of_decide_eq_true (hb10.symm.trans (by assumption))) (of_decide_eq_true (hb11.symm.trans hb))⟩, rfl, hB7⟩
      | exact ⟨⟨_, fun hb => fin5 hcl (by assumption) (of_decide_eq_true (hb7.symm.trans (by assumption))) (by assumption) (of_decide_eq_true (hb9.symm.trans (by assumption))) (of_decide_eq_true (hb10.symm.trans (by assumption))) (of_decide_eq_true (hb11.symm.trans hb))⟩, rfl, hB7⟩
      | exact ⟨⟨_, fun hb => fin8 hcl (by assumption) (by assumption) (by assumption) (of_decide_eq_true (hb8.symm.trans (by assumption))) (of_decide_eq_true (hb9.symm.trans (by assumption))) (of_decide_eq_true (hb10.symm.trans (by assumption))) (of_decide_eq_true (hb11.symm.trans hb))⟩, rfl, hB7⟩
     refine WL.p (.pkF rfl g26 rfl) rfl <| WL.p (.mv rfl) rfl <| WL.gn rfl rfl rfl rfl <| WL.p (.pkF rfl rfl rfl) rfl <| WL.p (.as rfl) rfl <| WL.nil <| ?_
     refine W.ret (W.ret1 rfl rfl ?_)
     first
     | exact ⟨⟨false, fun h => by cases h⟩, rfl, hB7⟩
     | exact ⟨⟨true, fun _ => hpre.snd (by omega) (fun o ho => hall o (by rw [List.take_of_length_le (by omega)]; exact ho))⟩, rfl, hB7⟩
     | exact ⟨⟨_, fun hb => fin0 hcl (by assumption) (of_decide_eq_true (hb7.symm.trans (by assumption))) (of_decide_eq_true (hb8.symm.trans (by assumption))) (of_decide_eq_true (hb9.symm.trans (by assumption))) (of_decide_eq_true (hb10.symm.trans (by assumption))) (of_decide_eq_true (hb11.symm.trans hb))⟩, rfl, hB7⟩
     | exact ⟨⟨_, fun hb => fin1 hcl (by assumption) (by first | exact .inl (by assumption) | exact .inr (by assumption)) (of_decide_eq_true (hb8.symm.trans (by assumption))) (of_decide_eq_true (hb9.symm.trans (by assumption))) (of_decide_eq_true (hb10.symm.trans (by assumption))) (of_decide_eq_true (hb11.symm.trans hb))⟩, rfl, hB7⟩
     | exact ⟨⟨_, fun hb => fin2 hcl (by first | exact .inl (by assumption) | exact .inr (by assumption)) (by assumption) (of_decide_eq_true (hb8.symm.trans (by assumption))) (of_decide_eq_true (hb9.symm.trans (by assumption))) (of_decide_eq_true (hb10.symm.trans (by assumption))) (of_decide_eq_true (hb11.symm.trans hb))⟩, rfl, hB7⟩
     | exact ⟨⟨_, fun hb => fin4 hcl (by assumption) (of_decide_eq_true (hb7.symm.trans (by assumption))) (nmB_ok (by assumption)) (of_decide_eq_true (hb9.symm.trans (by assumption))) (of_decide_eq_true (hb10.symm.trans (by assumption))) (of_decide_eq_true (hb11.symm.trans hb))⟩, rfl, hB7⟩
     | exact ⟨⟨_, fun hb => fin5 hcl (by assumption) (of_decide_eq_true (hb7.symm.trans (by assumption))) (by assumption) (of_decide_eq_true (hb9.symm.trans (by assumption))) (of_decide_eq_true (hb10.symm.trans (by assumption))) (of_decide_eq_true (hb11.symm.trans hb))⟩, rfl, hB7⟩
     | exact ⟨⟨_, fun hb => fin8 hcl (by assumption) (by assumption) (by assumption) (of_decide_eq_true (hb8.symm.trans (by assumption))) (of_decide_eq_true (hb9.symm.trans (by assumption))) (of_decide_eq_true (hb10.symm.trans (by assumption))) (of_decide_eq_true (hb11.symm.trans hb))⟩, rfl, hB7⟩
    refine WL.p (.pkF rfl g25 rfl) rfl <| WL.p (.mv rfl) rfl <| WL.gn rfl rfl rfl rfl <| WL.p (.pkF rfl rfl rfl) rfl <| WL.p (.mv rfl) rfl <| WL.gn rfl rfl rfl rfl <| WL.p (.pkF rfl rfl rfl) rfl <| WL.p (.as rfl) rfl <| WL.nil <| ?_
    refine W.ret (W.ret1 rfl rfl ?_)
    first
    | exact ⟨⟨false, fun h => by cases h⟩, rfl, hB7⟩
    | exact ⟨⟨true, fun _ => hpre.snd (by omega) (fun o ho => hall o (by rw [List.take_of_length_le (by omega)]; exact ho))⟩, rfl, hB7⟩
    | exact ⟨⟨_, fun hb => fin0 hcl (by assumption) (of_decide_eq_true (hb7.symm.trans (by assumption))) (of_decide_eq_true (hb8.symm.trans (by assumption))) (of_decide_eq_true (hb9.symm.trans (by assumption))) (of_decide_eq_true (hb10.symm.trans (by assumption))) (of_decide_eq_true (hb11.symm.trans hb))⟩, rfl, hB7⟩
    | exact ⟨⟨_, fun hb => fin1 hcl (by assumption) (by first | exact .inl (by assumption) | exact .inr (by assumption)) (of_decide_eq_true (hb8.symm.trans (by assumption))) (of_decide_eq_true (hb9.symm.trans (by assumption))) (of_decide_eq_true (hb10.symm.trans (by assumption))) (of_decide_eq_true (hb11.symm.trans hb))⟩, rfl, hB7⟩
    | exact ⟨⟨_, fun hb => fin2 hcl (by first | exact .inl (by assumption) | exact .inr (by assumption)) (by assumption) (of_decide_eq_true (hb8.symm.trans (by assumption))) (of_decide_eq_true (hb9.symm.trans (by assumption))) (of_decide_eq_true (hb10.symm.trans (by assumption))) (of_decide_eq_true (hb11.symm.trans hb))⟩, rfl, hB7⟩
    | exact ⟨⟨_, fun hb => fin4 hcl (by assumption) (of_decide_eq_true (hb7.symm.trans (by assumption))) (nmB_ok (by assumption)) (of_decide_eq_true (hb9.symm.trans (by assumption))) (of_decide_eq_true (hb10.symm.trans (by assumption))) (of_decide_eq_true (hb11.symm.trans hb))⟩, rfl, hB7⟩
    | exact ⟨⟨_, fun hb => fin5 hcl (by assumption) (of_decide_eq_true (hb7.symm.trans (by assumption))) (by assumption) (of_decide_eq_true (hb9.symm.trans (by assumption))) (of_decide_eq_true (hb10.symm.trans (by assumption))) (of_decide_eq_true (hb11.symm.trans hb))⟩, rfl, hB7⟩
    | exact ⟨⟨_, fun hb => fin8 hcl (by assumption) (by assumption) (by assumption) (of_decide_eq_true (hb8.symm.trans (by assumption))) (of_decide_eq_true (hb9.symm.trans (by assumption))) (of_decide_eq_true (hb10.symm.trans (by assumption))) (of_decide_eq_true (hb11.symm.trans hb))⟩, rfl, hB7⟩
   refine WL.p (.pkF rfl g24 rfl) rfl <| WL.p (.mv rfl) rfl <| WL.gn rfl rfl rfl rfl <| WL.p (.pkF rfl rfl rfl) rfl <| WL.p (.mv rfl) rfl <| WL.gn rfl rfl rfl rfl <| WL.p (.pkF rfl rfl rfl) rfl <| WL.p (.mv rfl) rfl <| WL.gn rfl rfl rfl rfl <| WL.p (.pkF rfl rfl rfl) rfl <| WL.p (.as rfl) rfl <| WL.nil <| ?_
   refine W.ret (W.ret1 rfl rfl ?_)
   first
   | exact ⟨⟨false, fun h => by cases h⟩, rfl, hB7⟩
   | exact ⟨⟨true, fun _ => hpre.snd (by omega) (fun o ho => hall o (by rw [List.take_of_length_le (by omega)]; exact ho))⟩, rfl, hB7⟩
   | exact ⟨⟨_, fun hb => fin0 hcl (by assumption) (of_decide_eq_true (hb7.symm.trans (by assumption))) (of_decide_eq_true (hb8.symm.trans (by assumption))) (of_decide_eq_true (hb9.symm.trans (by assumption))) (of_decide_eq_true (hb10.symm.trans (by assumption))) (of_decide_eq_true (hb11.symm.trans hb))⟩, rfl, hB7⟩
   | exact ⟨⟨_, fun hb => fin1 hcl (by assumption) (by first | exact .inl (by assumption) | exact .inr (by assumption)) (of_decide_eq_true (hb8.symm.trans (by assumption))) (of_decide_eq_true (hb9.symm.trans (by assumption))) (of_decide_eq_true (hb10.symm.trans (by assumption))) (of_decide_eq_true (hb11.symm.trans hb))⟩, rfl, hB7⟩
   | exact ⟨⟨_, fun hb => fin2 hcl (by first | exact .inl (by assumption) | exact .inr (by assumption)) (by assumption) (of_decide_eq_true (hb8.symm.trans (by assumption))) (of_decide_eq_true (hb9.symm.trans (by assumption))) (of_decide_eq_true (hb10.symm.trans (by assumption))) (of_decide_eq_true (hb11.symm.trans hb))⟩, rfl, hB7⟩
   | exact ⟨⟨_, fun hb => fin4 hcl (by assumption) (of_decide_eq_true (hb7.symm.trans (by assumption))) (nmB_ok (by assumption)) (of_decide_eq_true (hb9.symm.trans (by assumption))) (of_decide_eq_true (hb10.symm.trans (by assumption))) (of_decide_eq_true (hb11.symm.trans hb))⟩, rfl, hB7⟩
   | exact ⟨⟨_, fun hb => fin5 hcl (by assumption) (of_decide_eq_true (hb7.symm.trans (by assumption))) (by assumption) (of_decide_eq_true (hb9.symm.trans (by assumption))) (of_decide_eq_true (hb10.symm.trans (by assumption))) (of_decide_eq_true (hb11.symm.trans hb))⟩, rfl, hB7⟩
   | exact ⟨⟨_, fun hb => fin8 hcl (by assumption) (by assumption) (by assumption) (of_decide_eq_true (hb8.symm.trans (by assumption))) (of_decide_eq_true (hb9.symm.trans (by assumption))) (of_decide_eq_true (hb10.symm.trans (by assumption))) (of_decide_eq_true (hb11.symm.trans hb))⟩, rfl, hB7⟩
  have h22' := of_decide_eq_false h22
  refine W.reg <| WL.p (.eql rfl rfl) rfl <| WL.p (.as rfl) rfl <| WL.nil <| ?_
  refine W.cond rfl (fun h28 => ?_) (fun h28 => ?_)
  ·
   have h28' := of_decide_eq_true h28
   refine W.seq <| W.reg <| WL.p (.fa underlying31 rfl sizeOf3 (by decide) rfl) rfl <| WL.r (Rd.ld (isAgg3 _) rfl hkb1 rfl) rfl <| WL.c1 hb62 rfl rfl ((ref_fits _ _)) (fun w29 hw29 => ?_)
   obtain rfl := hw29
   refine WL.p (.mv rfl) rfl <| WL.gd rfl rfl rfl (fun g30 => ?_) (fun g30 => ?_)
   ·
    skip
    refine WL.p (.mv rfl) rfl <| WL.p (.pkT rfl g30 rfl) rfl <| WL.p (.mv rfl) rfl <| WL.gd rfl rfl rfl (fun g31 => ?_) (fun g31 => ?_)
    ·
     skip
     refine WL.p (.mv rfl) rfl <| WL.p (.pkT rfl g31 rfl) rfl <| WL.p (.mv rfl) rfl <| WL.gd rfl rfl rfl (fun g32 => ?_) (fun g32 => ?_)
     ·
      skip
      refine WL.p (.mv rfl) rfl <| WL.p (.pkT rfl g32 rfl) rfl <| WL.p (.mv rfl) rfl <| WL.gd rfl rfl rfl (fun g33 => ?_) (fun g33 => ?_)
      ·
       skip
       refine WL.p (.mv rfl) rfl <| WL.p (.pkT rfl g33 rfl) rfl <| WL.p (.as rfl) rfl <| WL.nil <| ?_
       refine W.ret (W.ret1 rfl rfl ?_)
       first
       | exact ⟨⟨false, fun h => by cases h⟩, rfl, hB7⟩
       | exact ⟨⟨true, fun _ => hpre.snd (by omega) (fun o ho => hall o (by rw [List.take_of_length_le (by omega)]; exact ho))⟩, rfl, hB7⟩
       | exact ⟨⟨_, fun hb => fin0 hcl (by assumption) (of_decide_eq_true (hb7.symm.trans (by assumption))) (of_decide_eq_true (hb8.symm.trans (by assumption))) (of_decide_eq_true (hb9.symm.trans (by assumption))) (of_decide_eq_true (hb10.symm.trans (by assumption))) (of_decide_eq_true (hb11.symm.trans hb))⟩, rfl, hB7⟩
       | exact ⟨⟨_, fun hb => fin1 hcl (by assumption) (by first | exact .inl (by assumption) | exact .inr (by assumption)) (of_decide_eq_true (hb8.symm.trans (by assumption))) (of_decide_eq_true (hb9.symm.trans (by assumption))) (of_decide_eq_true (hb10.symm.trans (by assumption))) (of_decide_eq_true (hb11.symm.trans hb))⟩, rfl, hB7⟩
       | exact ⟨⟨_, fun hb => fin2 hcl (by first | exact .inl (by assumption) | exact .inr (by assumption)) (by assumption) (of_decide_eq_true (hb8.symm.trans (by assumption))) (of_decide_eq_true (hb9.symm.trans (by assumption))) (of_decide_eq_true (hb10.symm.trans (by assumption))) (of_decide_eq_true (hb11.symm.trans hb))⟩, rfl, hB7⟩
       | exact ⟨⟨_, fun hb => fin4 hcl (by assumption) (of_decide_eq_true (hb7.symm.trans (by assumption))) (nmB_ok (by assumption)) (of_decide_eq_true (hb9.symm.trans (by assumption))) (of_decide_eq_true (hb10.symm.trans (by assumption))) (of_decide_eq_true (hb11.symm.trans hb))⟩, rfl, hB7⟩
       | exact ⟨⟨_, fun hb => fin5 hcl (by assumption) (of_decide_eq_true (hb7.symm.trans (by assumption))) (by assumption) (of_decide_eq_true (hb9.symm.trans (by assumption))) (of_decide_eq_true (hb10.symm.trans (by assumption))) (of_decide_eq_true (hb11.symm.trans hb))⟩, rfl, hB7⟩
       | exact ⟨⟨_, fun hb => fin8 hcl (by assumption) (by assumption) (by assumption) (of_decide_eq_true (hb8.symm.trans (by assumption))) (of_decide_eq_true (hb9.symm.trans (by assumption))) (of_decide_eq_true (hb10.symm.trans (by assumption))) (of_decide_eq_true (hb11.symm.trans hb))⟩, rfl, hB7⟩
      refine WL.p (.pkF rfl g33 rfl) rfl <| WL.p (.as rfl) rfl <| WL.nil <| ?_
      refine W.ret (W.ret1 rfl rfl ?_)
      first
      | exact ⟨⟨false, fun h => by cases h⟩, rfl, hB7⟩
      | exact ⟨⟨true, fun _ => hpre.snd (by omega) (fun o ho => hall o (by rw [List.take_of_length_le (by omega)]; exact ho))⟩, rfl, hB7⟩
      | exact ⟨⟨_, fun hb => fin0 hcl (by assumption) (of_decide_eq_true (hb7.symm.trans (by assumption))) (of_decide_eq_true (hb8.symm.trans (by assumption))) (of_decide_eq_true (hb9.symm.trans (by assumption))) (of_decide_eq_true (hb10.symm.trans (by assumption))) (of_decide_eq_true (hb11.symm.trans hb))⟩, rfl, hB7⟩
      | exact ⟨⟨_, fun hb => fin1 hcl (by assumption) (by first | exact .inl (by assumption) | exact .inr (by assumption)) (of_decide_eq_true (hb8.symm.trans (by assumption))) (of_decide_eq_true (hb9.symm.trans (by assumption))) (of_decide_eq_true (hb10.symm.trans (by assumption))) (of_decide_eq_true (hb11.symm.trans hb))⟩, rfl, hB7⟩
      | exact ⟨⟨_, fun hb => fin2 hcl (by first | exact .inl (by assumption) | exact .inr (by assumption)) (by assumption) (of_decide_eq_true (hb8.symm.trans (by assumption))) (of_decide_eq_true (hb9.symm.trans (by assumption))) (of_decide_eq_true (hb10.symm.trans (by assumption))) (of_decide_eq_true (hb11.symm.trans hb))⟩, rfl, hB7⟩
      | exact ⟨⟨_, fun hb => fin4 hcl (by assumption) (of_decide_eq_true (hb7.symm.trans (by assumption))) (nmB_ok (by assumption)) (of_decide_eq_true (hb9.symm.trans (by assumption))) (of_decide_eq_true (hb10.symm.trans (by assumption))) (of_decide_eq_true (hb11.symm.trans hb))⟩, rfl, hB7⟩
      | exact ⟨⟨_, fun hb => fin5 hcl (by assumption) (of_decide_eq_true (hb7.symm.trans (by assumption))) (by assumption) (of_decide_eq_true (hb9.symm.trans (by assumption))) (of_decide_eq_true (hb10.symm.trans (by assumption))) (of_decide_eq_true (hb11.symm.trans hb))⟩, rfl, hB7⟩
      | exact ⟨⟨_, fun hb => fin8 hcl (by assumption) (by assumption) (by assumption) (of_decide_eq_true (hb8.symm.trans (by assumption))) (of_decide_eq_true (hb9.symm.trans (by assumption))) (of_decide_eq_true (hb10.symm.trans (by assumption))) (of_decide_eq_true (hb11.symm.trans hb))⟩, rfl, hB7⟩
     refine WL.p (.pkF rfl g32 rfl) rfl <| WL.p (.mv rfl) rfl <| WL.gn rfl rfl rfl rfl <| WL.p (.pkF rfl rfl rfl) rfl <| WL.p (.as rfl) rfl <| WL.nil <| ?_
     refine W.ret (W.ret1 rfl rfl ?_)
     first
     | exact ⟨⟨false, fun h => by cases h⟩, rfl, hB7⟩
     | exact ⟨⟨true, fun _ => hpre.snd (by omega) (fun o ho => hall o (by rw [List.take_of_length_le (by omega)]; exact ho))⟩, rfl, hB7⟩
     | exact ⟨⟨_, fun hb => fin0 hcl (by assumption) (of_decide_eq_true (hb7.symm.trans (by assumption))) (of_decide_eq_true (hb8.symm.trans (by assumption))) (of_decide_eq_true (hb9.symm.trans (by assumption))) (of_decide_eq_true (hb10.symm.trans (by assumption))) (of_decide_eq_true (hb11.symm.trans hb))⟩, rfl, hB7⟩
     | exact ⟨⟨_, fun hb => fin1 hcl (by assumption) (by first | exact .inl (by assumption) | exact .inr (by assumption)) (of_decide_eq_true (hb8.symm.trans (by assumption))) (of_decide_eq_true (hb9.symm.trans (by assumption))) (of_decide_eq_true (hb10.symm.trans (by assumption))) (of_decide_eq_true (hb11.symm.trans hb))⟩, rfl, hB7⟩
     | exact ⟨⟨_, fun hb => fin2 hcl (by first | exact .inl (by assumption) | exact .inr (by assumption)) (by assumption) (of_decide_eq_true (hb8.symm.trans (by assumption))) (of_decide_eq_true (hb9.symm.trans (by assumption))) (of_decide_eq_true (hb10.symm.trans (by assumption))) (of_decide_eq_true (hb11.symm.trans hb))⟩, rfl, hB7⟩
     | exact ⟨⟨_, fun hb => fin4 hcl (by assumption) (of_decide_eq_true (hb7.symm.trans (by assumption))) (nmB_ok (by assumption)) (of_decide_eq_true (hb9.symm.trans (by assumption))) (of_decide_eq_true (hb10.symm.trans (by assumption))) (of_decide_eq_true (hb11.symm.trans hb))⟩, rfl, hB7⟩
     | exact ⟨⟨_, fun hb => fin5 hcl (by assumption) (of_decide_eq_true (hb7.symm.trans (by assumption))) (by assumption) (of_decide_eq_true (hb9.symm.trans (by assumption))) (of_decide_eq_true (hb10.symm.trans (by assumption))) (of_decide_eq_true (hb11.symm.trans hb))⟩, rfl, hB7⟩
     | exact ⟨⟨_, fun hb => fin8 hcl (by assumption) (by assumption) (by assumption) (of_decide_eq_true (hb8.symm.trans (by assumption))) (of_decide_eq_true (hb9.symm.trans (by assumption))) (of_decide_eq_true (hb10.symm.trans (by assumption))) (of_decide_eq_true (hb11.symm.trans hb))⟩, rfl, hB7⟩
    refine WL.p (.pkF rfl g31 rfl) rfl <| WL.p (.mv rfl) rfl <| WL.gn rfl rfl rfl rfl <| WL.p (.pkF rfl rfl rfl) rfl <| WL.p (.mv rfl) rfl <| WL.gn rfl rfl rfl rfl <| WL.p (.pkF rfl rfl rfl) rfl <| WL.p (.as rfl) rfl <| WL.nil <| ?_
    refine W.ret (W.ret1 rfl rfl ?_)
    first
    | exact ⟨⟨false, fun h => by cases h⟩, rfl, hB7⟩
    | exact ⟨⟨true, fun _ => hpre.snd (by omega) (fun o ho => hall o (by rw [List.take_of_length_le (by omega)]; exact ho))⟩, rfl, hB7⟩
    | exact ⟨⟨_, fun hb => fin0 hcl (by assumption) (of_decide_eq_true (hb7.symm.trans (by assumption))) (of_decide_eq_true (hb8.symm.trans (by assumption))) (of_decide_eq_true (hb9.symm.trans (by assumption))) (of_decide_eq_true (hb10.symm.trans (by assumption))) (of_decide_eq_true (hb11.symm.trans hb))⟩, rfl, hB7⟩
    | exact ⟨⟨_, fun hb => fin1 hcl (by assumption) (by first | exact .inl (by assumption) | exact .inr (by assumption)) (of_decide_eq_true (hb8.symm.trans (by assumption))) (of_decide_eq_true (hb9.symm.trans (by assumption))) (of_decide_eq_true (hb10.symm.trans (by assumption))) (of_decide_eq_true (hb11.symm.trans hb))⟩, rfl, hB7⟩
    | exact ⟨⟨_, fun hb => fin2 hcl (by first | exact .inl (by assumption) | exact .inr (by assumption)) (by assumption) (of_decide_eq_true (hb8.symm.trans (by assumption))) (of_decide_eq_true (hb9.symm.trans (by assumption))) (of_decide_eq_true (hb10.symm.trans (by assumption))) (of_decide_eq_true (hb11.symm.trans hb))⟩, rfl, hB7⟩
    | exact ⟨⟨_, fun hb => fin4 hcl (by assumption) (of_decide_eq_true (hb7.symm.trans (by assumption))) (nmB_ok (by assumption)) (of_decide_eq_true (hb9.symm.trans (by assumption))) (of_decide_eq_true (hb10.symm.trans (by assumption))) (of_decide_eq_true (hb11.symm.trans hb))⟩, rfl, hB7⟩
    | exact ⟨⟨_, fun hb => fin5 hcl (by assumption) (of_decide_eq_true (hb7.symm.trans (by assumption))) (by assumption) (of_decide_eq_true (hb9.symm.trans (by assumption))) (of_decide_eq_true (hb10.symm.trans (by assumption))) (of_decide_eq_true (hb11.symm.trans hb))⟩, rfl, hB7⟩
    | exact ⟨⟨_, fun hb => fin8 hcl (by assumption) (by assumption) (by assumption) (of_decide_eq_true (hb8.symm.trans (by assumption))) (of_decide_eq_true (hb9.symm.trans (by assumption))) (of_decide_eq_true (hb10.symm.trans (by assumption))) (of_decide_eq_true (hb11.symm.trans hb))⟩, rfl, hB7⟩
   refine WL.p (.pkF rfl g30 rfl) rfl <| WL.p (.mv rfl) rfl <| WL.gn rfl rfl rfl rfl <| WL.p (.pkF rfl rfl rfl) rfl <| WL.p (.mv rfl) rfl <| WL.gn rfl rfl rfl rfl <| WL.p (.pkF rfl rfl rfl) rfl <| WL.p (.mv rfl) rfl <| WL.gn rfl rfl rfl rfl <| WL.p (.pkF rfl rfl rfl) rfl <| WL.p (.as rfl) rfl <| WL.nil <| ?_
   refine W.ret (W.ret1 rfl rfl ?_)
   first
   | exact ⟨⟨false, fun h => by cases h⟩, rfl, hB7⟩
   | exact ⟨⟨true, fun _ => hpre.snd (by omega) (fun o ho => hall o (by rw [List.take_of_length_le (by omega)]; exact ho))⟩, rfl, hB7⟩
   | exact ⟨⟨_, fun hb => fin0 hcl (by assumption) (of_decide_eq_true (hb7.symm.trans (by assumption))) (of_decide_eq_true (hb8.symm.trans (by assumption))) (of_decide_eq_true (hb9.symm.trans (by assumption))) (of_decide_eq_true (hb10.symm.trans (by assumption))) (of_decide_eq_true (hb11.symm.trans hb))⟩, rfl, hB7⟩
   | exact ⟨⟨_, fun hb => fin1 hcl (by assumption) (by first | exact .inl (by assumption) | exact .inr (by assumption)) (of_decide_eq_true (hb8.symm.trans (by assumption))) (of_decide_eq_true (hb9.symm.trans (by assumption))) (of_decide_eq_true (hb10.symm.trans (by assumption))) (of_decide_eq_true (hb11.symm.trans hb))⟩, rfl, hB7⟩
   | exact ⟨⟨_, fun hb => fin2 hcl (by first | exact .inl (by assumption) | exact .inr (by assumption)) (by assumption) (of_decide_eq_true (hb8.symm.trans (by assumption))) (of_decide_eq_true (hb9.symm.trans (by assumption))) (of_decide_eq_true (hb10.symm.trans (by assumption))) (of_decide_eq_true (hb11.symm.trans hb))⟩, rfl, hB7⟩
   | exact ⟨⟨_, fun hb => fin4 hcl (by assumption) (of_decide_eq_true (hb7.symm.trans (by assumption))) (nmB_ok (by assumption)) (of_decide_eq_true (hb9.symm.trans (by assumption))) (of_decide_eq_true (hb10.symm.trans (by assumption))) (of_decide_eq_true (hb11.symm.trans hb))⟩, rfl, hB7⟩
   | exact ⟨⟨_, fun hb => fin5 hcl (by assumption) (of_decide_eq_true (hb7.symm.trans (by assumption))) (by assumption) (of_decide_eq_true (hb9.symm.trans (by assumption))) (of_decide_eq_true (hb10.symm.trans (by assumption))) (of_decide_eq_true (hb11.symm.trans hb))⟩, rfl, hB7⟩
   | exact ⟨⟨_, fun hb => fin8 hcl (by assumption) (by assumption) (by assumption) (of_decide_eq_true (hb8.symm.trans (by assumption))) (of_decide_eq_true (hb9.symm.trans (by assumption))) (of_decide_eq_true (hb10.symm.trans (by assumption))) (of_decide_eq_true (hb11.symm.trans hb))⟩, rfl, hB7⟩
  have h28' := of_decide_eq_false h28
  refine W.seq <| W.reg <| WL.p (.eql rfl rfl) rfl <| WL.p (.as rfl) rfl <| WL.nil <| ?_
  refine W.cond rfl (fun h34 => ?_) (fun h34 => ?_)
  ·
   have h34' := of_decide_eq_true h34
   refine W.seq <| W.reg <| WL.p (.mv rfl) rfl <| WL.p (.mv rfl) rfl <| WL.gd rfl rfl rfl (fun g35 => ?_) (fun g35 => ?_)
   ·
    skip
    refine WL.p (.fa underlying31 rfl sizeOf9 (by decide) rfl) rfl <| WL.gy rfl rfl rfl g35 <| WL.r (Rd.ld (isAgg9 _) rfl hkb1 rfl) rfl <| WL.gy rfl rfl rfl g35 <| WL.c1 hb63 rfl rfl ((r18_nameB s _ (by omega))) (fun w36 hw36 => ?_)
    obtain rfl := hw36
    refine WL.p (.pkT rfl g35 rfl) rfl <| WL.p (.mv rfl) rfl <| WL.gd rfl rfl rfl (fun g37 => ?_) (fun g37 => ?_)
    ·
     skip
     refine WL.p (.mv rfl) rfl <| WL.p (.pkT rfl g37 rfl) rfl <| WL.p (.mv rfl) rfl <| WL.gd rfl rfl rfl (fun g38 => ?_) (fun g38 => ?_)
     ·
      skip
      refine WL.p (.mv rfl) rfl <| WL.p (.pkT rfl g38 rfl) rfl <| WL.p (.mv rfl) rfl <| WL.gd rfl rfl rfl (fun g39 => ?_) (fun g39 => ?_)
      ·
       skip
       refine WL.p (.mv rfl) rfl <| WL.p (.pkT rfl g39 rfl) rfl <| WL.p (.as rfl) rfl <| WL.nil <| ?_
       refine W.ret (W.ret1 rfl rfl ?_)
       first
       | exact ⟨⟨false, fun h => by cases h⟩, rfl, hB7⟩
       | exact ⟨⟨true, fun _ => hpre.snd (by omega) (fun o ho => hall o (by rw [List.take_of_length_le (by omega)]; exact ho))⟩, rfl, hB7⟩
       | exact ⟨⟨_, fun hb => fin0 hcl (by assumption) (of_decide_eq_true (hb7.symm.trans (by assumption))) (of_decide_eq_true (hb8.symm.trans (by assumption))) (of_decide_eq_true (hb9.symm.trans (by assumption))) (of_decide_eq_true (hb10.symm.trans (by assumption))) (of_decide_eq_true (hb11.symm.trans hb))⟩, rfl, hB7⟩
       | exact ⟨⟨_, fun hb => fin1 hcl (by assumption) (by first | exact .inl (by assumption) | exact .inr (by assumption)) (of_decide_eq_true (hb8.symm.trans (by assumption))) (of_decide_eq_true (hb9.symm.trans (by assumption))) (of_decide_eq_true (hb10.symm.trans (by assumption))) (of_decide_eq_true (hb11.symm.trans hb))⟩, rfl, hB7⟩
       | exact ⟨⟨_, fun hb => fin2 hcl (by first | exact .inl (by assumption) | exact .inr (by assumption)) (by assumption) (of_decide_eq_true (hb8.symm.trans (by assumption))) (of_decide_eq_true (hb9.symm.trans (by assumption))) (of_decide_eq_true (hb10.symm.trans (by assumption))) (of_decide_eq_true (hb11.symm.trans hb))⟩, rfl, hB7⟩
       | exact ⟨⟨_, fun hb => fin4 hcl (by assumption) (of_decide_eq_true (hb7.symm.trans (by assumption))) (nmB_ok (by assumption)) (of_decide_eq_true (hb9.symm.trans (by assumption))) (of_decide_eq_true (hb10.symm.trans (by assumption))) (of_decide_eq_true (hb11.symm.trans hb))⟩, rfl, hB7⟩
       | exact ⟨⟨_, fun hb => fin5 hcl (by assumption) (of_decide_eq_true (hb7.symm.trans (by assumption))) (by assumption) (of_decide_eq_true (hb9.symm.trans (by assumption))) (of_decide_eq_true (hb10.symm.trans (by assumption))) (of_decide_eq_true (hb11.symm.trans hb))⟩, rfl, hB7⟩
       | exact ⟨⟨_, fun hb => fin8 hcl (by assumption) (by assumption) (by assumption) (of_decide_eq_true (hb8.symm.trans (by assumption))) (of_decide_eq_true (hb9.symm.trans (by assumption))) (of_decide_eq_true (hb10.symm.trans (by assumption))) (of_decide_eq_true (hb11.symm.trans hb))⟩, rfl, hB7⟩
      refine WL.p (.pkF rfl g39 rfl) rfl <| WL.p (.as rfl) rfl <| WL.nil <| ?_
      refine W.ret (W.ret1 rfl rfl ?_)
      first
      | exact ⟨⟨false, fun h => by cases h⟩, rfl, hB7⟩
      | exact ⟨⟨true, fun _ => hpre.snd (by omega) (fun o ho => hall o (by rw [List.take_of_length_le (by omega)]; exact ho))⟩, rfl, hB7⟩
      | exact ⟨⟨_, fun hb => fin0 hcl (by assumption) (of_decide_eq_true (hb7.symm.trans (by assumption))) (of_decide_eq_true (hb8.symm.trans (by assumption))) (of_decide_eq_true (hb9.symm.trans (by assumption))) (of_decide_eq_true (hb10.symm.trans (by assumption))) (of_decide_eq_true (hb11.symm.trans hb))⟩, rfl, hB7⟩
      | exact ⟨⟨_, fun hb => fin1 hcl (by assumption) (by first | exact .inl (by assumption) | exact .inr (by assumption)) (of_decide_eq_true (hb8.symm.trans (by assumption))) (of_decide_eq_true (hb9.symm.trans (by assumption))) (of_decide_eq_true (hb10.symm.trans (by assumption))) (of_decide_eq_true (hb11.symm.trans hb))⟩, rfl, hB7⟩
      | exact ⟨⟨_, fun hb => fin2 hcl (by first | exact .inl (by assumption) | exact .inr (by assumption)) (by assumption) (of_decide_eq_true (hb8.symm.trans (by assumption))) (of_decide_eq_true (hb9.symm.trans (by assumption))) (of_decide_eq_true (hb10.symm.trans (by assumption))) (of_decide_eq_true (hb11.symm.trans hb))⟩, rfl, hB7⟩
      | exact ⟨⟨_, fun hb => fin4 hcl (by assumption) (of_decide_eq_true (hb7.symm.trans (by assumption))) (nmB_ok (by assumption)) (of_decide_eq_true (hb9.symm.trans (by assumption))) (of_decide_eq_true (hb10.symm.trans (by assumption))) (of_decide_eq_true (hb11.symm.trans hb))⟩, rfl, hB7⟩
      | exact ⟨⟨_, fun hb => fin5 hcl (by assumption) (of_decide_eq_true (hb7.symm.trans (by assumption))) (by assumption) (of_decide_eq_true (hb9.symm.trans (by assumption))) (of_decide_eq_true (hb10.symm.trans (by assumption))) (of_decide_eq_true (hb11.symm.trans hb))⟩, rfl, hB7⟩
      | exact ⟨⟨_, fun hb => fin8 hcl (by assumption) (by assumption) (by assumption) (of_decide_eq_true (hb8.symm.trans (by assumption))) (of_decide_eq_true (hb9.symm.trans (by assumption))) (of_decide_eq_true (hb10.symm.trans (by assumption))) (of_decide_eq_true (hb11.symm.trans hb))⟩, rfl, hB7⟩
     refine WL.p (.pkF rfl g38 rfl) rfl <| WL.p (.mv rfl) rfl <| WL.gn rfl rfl rfl rfl <| WL.p (.pkF rfl rfl rfl) rfl <| WL.p (.as rfl) rfl <| WL.nil <| ?_
     refine W.ret (W.ret1 rfl rfl ?_)
     first
     | exact ⟨⟨false, fun h => by cases h⟩, rfl, hB7⟩
     | exact ⟨⟨true, fun _ => hpre.snd (by omega) (fun o ho => hall o (by rw [List.take_of_length_le (by omega)]; exact ho))⟩, rfl, hB7⟩
     | exact ⟨⟨_, fun hb => fin0 hcl (by assumption) (of_decide_eq_true (hb7.symm.trans (by assumption))) (of_decide_eq_true (hb8.symm.trans (by assumption))) (of_decide_eq_true (hb9.symm.trans (by assumption))) (of_decide_eq_true (hb10.symm.trans (by assumption))) (of_decide_eq_true (hb11.symm.trans hb))⟩, rfl, hB7⟩
     | exact ⟨⟨_, fun hb => fin1 hcl (by assumption) (by first | exact .inl (by assumption) | exact .inr (by assumption)) (of_decide_eq_true (hb8.symm.trans (by assumption))) (of_decide_eq_true (hb9.symm.trans (by assumption))) (of_decide_eq_true (hb10.symm.trans (by assumption))) (of_decide_eq_true (hb11.symm.trans hb))⟩, rfl, hB7⟩
     | exact ⟨⟨_, fun hb => fin2 hcl (by first | exact .inl (by assumption) | exact .inr (by assumption)) (by assumption) (of_decide_eq_true (hb8.symm.trans (by assumption))) (of_decide_eq_true (hb9.symm.trans (by assumption))) (of_decide_eq_true (hb10.symm.trans (by assumption))) (of_decide_eq_true (hb11.symm.trans hb))⟩, rfl, hB7⟩
     | exact ⟨⟨_, fun hb => fin4 hcl (by assumption) (of_decide_eq_true (hb7.symm.trans (by assumption))) (nmB_ok (by assumption)) (of_decide_eq_true (hb9.symm.trans (by assumption))) (of_decide_eq_true (hb10.symm.trans (by assumption))) (of_decide_eq_true (hb11.symm.trans hb))⟩, rfl, hB7⟩
     | exact ⟨⟨_, fun hb => fin5 hcl (by assumption) (of_decide_eq_true (hb7.symm.trans (by assumption))) (by assumption) (of_decide_eq_true (hb9.symm.trans (by assumption))) (of_decide_eq_true (hb10.symm.trans (by assumption))) (of_decide_eq_true (hb11.symm.trans hb))⟩, rfl, hB7⟩
     | exact ⟨⟨_, fun hb => fin8 hcl (by assumption) (by assumption) (by assumption) (of_decide_eq_true (hb8.symm.trans (by assumption))) (of_decide_eq_true (hb9.symm.trans (by assumption))) (of_decide_eq_true (hb10.symm.trans (by assumption))) (of_decide_eq_true (hb11.symm.trans hb))⟩, rfl, hB7⟩
    refine WL.p (.pkF rfl g37 rfl) rfl <| WL.p (.mv rfl) rfl <| WL.gn rfl rfl rfl rfl <| WL.p (.pkF rfl rfl rfl) rfl <| WL.p (.mv rfl) rfl <| WL.gn rfl rfl rfl rfl <| WL.p (.pkF rfl rfl rfl) rfl <| WL.p (.as rfl) rfl <| WL.nil <| ?_
    refine W.ret (W.ret1 rfl rfl ?_)
    first
    | exact ⟨⟨false, fun h => by cases h⟩, rfl, hB7⟩
    | exact ⟨⟨true, fun _ => hpre.snd (by omega) (fun o ho => hall o (by rw [List.take_of_length_le (by omega)]; exact ho))⟩, rfl, hB7⟩
    | exact ⟨⟨_, fun hb => fin0 hcl (by assumption) (of_decide_eq_true (hb7.symm.trans (by assumption))) (of_decide_eq_true (hb8.symm.trans (by assumption))) (of_decide_eq_true (hb9.symm.trans (by assumption))) (of_decide_eq_true (hb10.symm.trans (by assumption))) (of_decide_eq_true (hb11.symm.trans hb))⟩, rfl, hB7⟩
    | exact ⟨⟨_, fun hb => fin1 hcl (by assumption) (by first | exact .inl (by assumption) | exact .inr (by assumption)) (of_decide_eq_true (hb8.symm.trans (by assumption))) (of_decide_eq_true (hb9.symm.trans (by assumption))) (of_decide_eq_true (hb10.symm.trans (by assumption))) (of_decide_eq_true (hb11.symm.trans hb))⟩, rfl, hB7⟩
    | exact ⟨⟨_, fun hb => fin2 hcl (by first | exact .inl (by assumption) | exact .inr (by assumption)) (by assumption) (of_decide_eq_true (hb8.symm.trans (by assumption))) (of_decide_eq_true (hb9.symm.trans (by assumption))) (of_decide_eq_true (hb10.symm.trans (by assumption))) (of_decide_eq_true (hb11.symm.trans hb))⟩, rfl, hB7⟩
    | exact ⟨⟨_, fun hb => fin4 hcl (by assumption) (of_decide_eq_true (hb7.symm.trans (by assumption))) (nmB_ok (by assumption)) (of_decide_eq_true (hb9.symm.trans (by assumption))) (of_decide_eq_true (hb10.symm.trans (by assumption))) (of_decide_eq_true (hb11.symm.trans hb))⟩, rfl, hB7⟩
    | exact ⟨⟨_, fun hb => fin5 hcl (by assumption) (of_decide_eq_true (hb7.symm.trans (by assumption))) (by assumption) (of_decide_eq_true (hb9.symm.trans (by assumption))) (of_decide_eq_true (hb10.symm.trans (by assumption))) (of_decide_eq_true (hb11.symm.trans hb))⟩, rfl, hB7⟩
    | exact ⟨⟨_, fun hb => fin8 hcl (by assumption) (by assumption) (by assumption) (of_decide_eq_true (hb8.symm.trans (by assumption))) (of_decide_eq_true (hb9.symm.trans (by assumption))) (of_decide_eq_true (hb10.symm.trans (by assumption))) (of_decide_eq_true (hb11.symm.trans hb))⟩, rfl, hB7⟩
   refine WL.gn rfl rfl rfl g35 <| WL.gn rfl rfl rfl g35 <| WL.p (.pkF rfl g35 rfl) rfl <| WL.p (.mv rfl) rfl <| WL.gn rfl rfl rfl rfl <| WL.p (.pkF rfl rfl rfl) rfl <| WL.p (.mv rfl) rfl <| WL.gn rfl rfl rfl rfl <| WL.p (.pkF rfl rfl rfl) rfl <| WL.p (.mv rfl) rfl <| WL.gn rfl rfl rfl rfl <| WL.p (.pkF rfl rfl rfl) rfl <| WL.p (.as rfl) rfl <| WL.nil <| ?_
   refine W.ret (W.ret1 rfl rfl ?_)
   first
   | exact ⟨⟨false, fun h => by cases h⟩, rfl, hB7⟩
   | exact ⟨⟨true, fun _ => hpre.snd (by omega) (fun o ho => hall o (by rw [List.take_of_length_le (by omega)]; exact ho))⟩, rfl, hB7⟩
   | exact ⟨⟨_, fun hb => fin0 hcl (by assumption) (of_decide_eq_true (hb7.symm.trans (by assumption))) (of_decide_eq_true (hb8.symm.trans (by assumption))) (of_decide_eq_true (hb9.symm.trans (by assumption))) (of_decide_eq_true (hb10.symm.trans (by assumption))) (of_decide_eq_true (hb11.symm.trans hb))⟩, rfl, hB7⟩
   | exact ⟨⟨_, fun hb => fin1 hcl (by assumption) (by first | exact .inl (by assumption) | exact .inr (by assumption)) (of_decide_eq_true (hb8.symm.trans (by assumption))) (of_decide_eq_true (hb9.symm.trans (by assumption))) (of_decide_eq_true (hb10.symm.trans (by assumption))) (of_decide_eq_true (hb11.symm.trans hb))⟩, rfl, hB7⟩
   | exact ⟨⟨_, fun hb => fin2 hcl (by first | exact .inl (by assumption) | exact .inr (by assumption)) (by assumption) (of_decide_eq_true (hb8.symm.trans (by assumption))) (of_decide_eq_true (hb9.symm.trans (by assumption))) (of_decide_eq_true (hb10.symm.trans (by assumption))) (of_decide_eq_true (hb11.symm.trans hb))⟩, rfl, hB7⟩
   | exact ⟨⟨_, fun hb => fin4 hcl (by assumption) (of_decide_eq_true (hb7.symm.trans (by assumption))) (nmB_ok (by assumption)) (of_decide_eq_true (hb9.symm.trans (by assumption))) (of_decide_eq_true (hb10.symm.trans (by assumption))) (of_decide_eq_true (hb11.symm.trans hb))⟩, rfl, hB7⟩
   | exact ⟨⟨_, fun hb => fin5 hcl (by assumption) (of_decide_eq_true (hb7.symm.trans (by assumption))) (by assumption) (of_decide_eq_true (hb9.symm.trans (by assumption))) (of_decide_eq_true (hb10.symm.trans (by assumption))) (of_decide_eq_true (hb11.symm.trans hb))⟩, rfl, hB7⟩
   | exact ⟨⟨_, fun hb => fin8 hcl (by assumption) (by assumption) (by assumption) (of_decide_eq_true (hb8.symm.trans (by assumption))) (of_decide_eq_true (hb9.symm.trans (by assumption))) (of_decide_eq_true (hb10.symm.trans (by assumption))) (of_decide_eq_true (hb11.symm.trans hb))⟩, rfl, hB7⟩
  have h34' := of_decide_eq_false h34
  refine W.seq <| W.reg <| WL.p (.eql rfl rfl) rfl <| WL.p (.as rfl) rfl <| WL.nil <| ?_
  refine W.cond rfl (fun h40 => ?_) (fun h40 => ?_)
  ·
   have h40' := of_decide_eq_true h40
   refine W.seq <| W.reg <| WL.p (.mv rfl) rfl <| WL.p (.mv rfl) rfl <| WL.gd rfl rfl rfl (fun g41 => ?_) (fun g41 => ?_)
   ·
    skip
    refine WL.p (.fa underlying31 rfl sizeOf9 (by decide) rfl) rfl <| WL.gy rfl rfl rfl g41 <| WL.r (Rd.ld (isAgg9 _) rfl hkb1 rfl) rfl <| WL.gy rfl rfl rfl g41 <| WL.p (.len underlying9 rfl) rfl <| WL.gy rfl rfl rfl g41 <| WL.p (.leq rfl rfl) rfl <| WL.p (.pkT rfl g41 rfl) rfl <| WL.p (.mv rfl) rfl <| WL.gd rfl rfl rfl (fun g42 => ?_) (fun g42 => ?_)
    ·
     have g42' := of_decide_eq_true g42
     refine WL.p (.mv rfl) rfl <| WL.p (.pkT rfl g42 rfl) rfl <| WL.p (.mv rfl) rfl <| WL.gd rfl rfl rfl (fun g43 => ?_) (fun g43 => ?_)
     ·
      skip
      refine WL.p (.mv rfl) rfl <| WL.p (.pkT rfl g43 rfl) rfl <| WL.p (.mv rfl) rfl <| WL.gd rfl rfl rfl (fun g44 => ?_) (fun g44 => ?_)
      ·
       skip
       refine WL.p (.mv rfl) rfl <| WL.p (.pkT rfl g44 rfl) rfl <| WL.p (.as rfl) rfl <| WL.nil <| ?_
       refine W.ret (W.ret1 rfl rfl ?_)
       first
       | exact ⟨⟨false, fun h => by cases h⟩, rfl, hB7⟩
       | exact ⟨⟨true, fun _ => hpre.snd (by omega) (fun o ho => hall o (by rw [List.take_of_length_le (by omega)]; exact ho))⟩, rfl, hB7⟩
       | exact ⟨⟨_, fun hb => fin0 hcl (by assumption) (of_decide_eq_true (hb7.symm.trans (by assumption))) (of_decide_eq_true (hb8.symm.trans (by assumption))) (of_decide_eq_true (hb9.symm.trans (by assumption))) (of_decide_eq_true (hb10.symm.trans (by assumption))) (of_decide_eq_true (hb11.symm.trans hb))⟩, rfl, hB7⟩
       | exact ⟨⟨_, fun hb => fin1 hcl (by assumption) (by first | exact .inl (by assumption) | exact .inr (by assumption)) (of_decide_eq_true (hb8.symm.trans (by assumption))) (of_decide_eq_true (hb9.symm.trans (by assumption))) (of_decide_eq_true (hb10.symm.trans (by assumption))) (of_decide_eq_true (hb11.symm.trans hb))⟩, rfl, hB7⟩
       | exact ⟨⟨_, fun hb => fin2 hcl (by first | exact .inl (by assumption) | exact .inr (by assumption)) (by assumption) (of_decide_eq_true (hb8.symm.trans (by assumption))) (of_decide_eq_true (hb9.symm.trans (by assumption))) (of_decide_eq_true (hb10.symm.trans (by assumption))) (of_decide_eq_true (hb11.symm.trans hb))⟩, rfl, hB7⟩
       | exact ⟨⟨_, fun hb => fin4 hcl (by assumption) (of_decide_eq_true (hb7.symm.trans (by assumption))) (nmB_ok (by assumption)) (of_decide_eq_true (hb9.symm.trans (by assumption))) (of_decide_eq_true (hb10.symm.trans (by assumption))) (of_decide_eq_true (hb11.symm.trans hb))⟩, rfl, hB7⟩
       | exact ⟨⟨_, fun hb => fin5 hcl (by assumption) (of_decide_eq_true (hb7.symm.trans (by assumption))) (by assumption) (of_decide_eq_true (hb9.symm.trans (by assumption))) (of_decide_eq_true (hb10.symm.trans (by assumption))) (of_decide_eq_true (hb11.symm.trans hb))⟩, rfl, hB7⟩
       | exact ⟨⟨_, fun hb => fin8 hcl (by assumption) (by assumption) (by assumption) (of_decide_eq_true (hb8.symm.trans (by assumption))) (of_decide_eq_true (hb9.symm.trans (by assumption))) (of_decide_eq_true (hb10.symm.trans (by assumption))) (of_decide_eq_true (hb11.symm.trans hb))⟩, rfl, hB7⟩
      refine WL.p (.pkF rfl g44 rfl) rfl <| WL.p (.as rfl) rfl <| WL.nil <| ?_
      refine W.ret (W.ret1 rfl rfl ?_)
      first
      | exact ⟨⟨false, fun h => by cases h⟩, rfl, hB7⟩
      | exact ⟨⟨true, fun _ => hpre.snd (by omega) (fun o ho => hall o (by rw [List.take_of_length_le (by omega)]; exact ho))⟩, rfl, hB7⟩
      | exact ⟨⟨_, fun hb => fin0 hcl (by assumption) (of_decide_eq_true (hb7.symm.trans (by assumption))) (of_decide_eq_true (hb8.symm.trans (by assumption))) (of_decide_eq_true (hb9.symm.trans (by assumption))) (of_decide_eq_true (hb10.symm.trans (by assumption))) (of_decide_eq_true (hb11.symm.trans hb))⟩, rfl, hB7⟩
      | exact ⟨⟨_, fun hb => fin1 hcl (by assumption) (by first | exact .inl (by assumption) | exact .inr (by assumption)) (of_decide_eq_true (hb8.symm.trans (by assumption))) (of_decide_eq_true (hb9.symm.trans (by assumption))) (of_decide_eq_true (hb10.symm.trans (by assumption))) (of_decide_eq_true (hb11.symm.trans hb))⟩, rfl, hB7⟩
      | exact ⟨⟨_, fun hb => fin2 hcl (by first | exact .inl (by assumption) | exact .inr (by assumption)) (by assumption) (of_decide_eq_true (hb8.symm.trans (by assumption))) (of_decide_eq_true (hb9.symm.trans (by assumption))) (of_decide_eq_true (hb10.symm.trans (by assumption))) (of_decide_eq_true (hb11.symm.trans hb))⟩, rfl, hB7⟩
      | exact ⟨⟨_, fun hb => fin4 hcl (by assumption) (of_decide_eq_true (hb7.symm.trans (by assumption))) (nmB_ok (by assumption)) (of_decide_eq_true (hb9.symm.trans (by assumption))) (of_decide_eq_true (hb10.symm.trans (by assumption))) (of_decide_eq_true (hb11.symm.trans hb))⟩, rfl, hB7⟩
      | exact ⟨⟨_, fun hb => fin5 hcl (by assumption) (of_decide_eq_true (hb7.symm.trans (by assumption))) (by assumption) (of_decide_eq_true (hb9.symm.trans (by assumption))) (of_decide_eq_true (hb10.symm.trans (by assumption))) (of_decide_eq_true (hb11.symm.trans hb))⟩, rfl, hB7⟩
      | exact ⟨⟨_, fun hb => fin8 hcl (by assumption) (by assumption) (by assumption) (of_decide_eq_true (hb8.symm.trans (by assumption))) (of_decide_eq_true (hb9.symm.trans (by assumption))) (of_decide_eq_true (hb10.symm.trans (by assumption))) (of_decide_eq_true (hb11.symm.trans hb))⟩, rfl, hB7⟩
     refine WL.p (.pkF rfl g43 rfl) rfl <| WL.p (.mv rfl) rfl <| WL.gn rfl rfl rfl rfl <| WL.p (.pkF rfl rfl rfl) rfl <| WL.p (.as rfl) rfl <| WL.nil <| ?_
     refine W.ret (W.ret1 rfl rfl ?_)
     first
     | exact ⟨⟨false, fun h => by cases h⟩, rfl, hB7⟩
     | exact ⟨⟨true, fun _ => hpre.snd (by omega) (fun o ho => hall o (by rw [List.take_of_length_le (by omega)]; exact ho))⟩, rfl, hB7⟩
     | exact ⟨⟨_, fun hb => fin0 hcl (by assumption) (of_decide_eq_true (hb7.symm.trans (by assumption))) (of_decide_eq_true (hb8.symm.trans (by assumption))) (of_decide_eq_true (hb9.symm.trans (by assumption))) (of_decide_eq_true (hb10.symm.trans (by assumption))) (of_decide_eq_true (hb11.symm.trans hb))⟩, rfl, hB7⟩
     | exact ⟨⟨_, fun hb => fin1 hcl (by assumption) (by first | exact .inl (by assumption) | exact .inr (by assumption)) (of_decide_eq_true (hb8.symm.trans (by assumption))) (of_decide_eq_true (hb9.symm.trans (by assumption))) (of_decide_eq_true (hb10.symm.trans (by assumption))) (of_decide_eq_true (hb11.symm.trans hb))⟩, rfl, hB7⟩
     | exact ⟨⟨_, fun hb => fin2 hcl (by first | exact .inl (by assumption) | exact .inr (by assumption)) (by assumption) (of_decide_eq_true (hb8.symm.trans (by assumption))) (of_decide_eq_true (hb9.symm.trans (by assumption))) (of_decide_eq_true (hb10.symm.trans (by assumption))) (of_decide_eq_true (hb11.symm.trans hb))⟩, rfl, hB7⟩
     | exact ⟨⟨_, fun hb => fin4 hcl (by assumption) (of_decide_eq_true (hb7.symm.trans (by assumption))) (nmB_ok (by assumption)) (of_decide_eq_true (hb9.symm.trans (by assumption))) (of_decide_eq_true (hb10.symm.trans (by assumption))) (of_decide_eq_true (hb11.symm.trans hb))⟩, rfl, hB7⟩
     | exact ⟨⟨_, fun hb => fin5 hcl (by assumption) (of_decide_eq_true (hb7.symm.trans (by assumption))) (by assumption) (of_decide_eq_true (hb9.symm.trans (by assumption))) (of_decide_eq_true (hb10.symm.trans (by assumption))) (of_decide_eq_true (hb11.symm.trans hb))⟩, rfl, hB7⟩
     | exact ⟨⟨_, fun hb => fin8 hcl (by assumption) (by assumption) (by assumption) (of_decide_eq_true (hb8.symm.trans (by assumption))) (of_decide_eq_true (hb9.symm.trans (by assumption))) (of_decide_eq_true (hb10.symm.trans (by assumption))) (of_decide_eq_true (hb11.symm.trans hb))⟩, rfl, hB7⟩
    have g42' := of_decide_eq_false g42
    refine WL.p (.pkF rfl g42 rfl) rfl <| WL.p (.mv rfl) rfl <| WL.gn rfl rfl rfl rfl <| WL.p (.pkF rfl rfl rfl) rfl <| WL.p (.mv rfl) rfl <| WL.gn rfl rfl rfl rfl <| WL.p (.pkF rfl rfl rfl) rfl <| WL.p (.as rfl) rfl <| WL.nil <| ?_
    refine W.ret (W.ret1 rfl rfl ?_)
    first
    | exact ⟨⟨false, fun h => by cases h⟩, rfl, hB7⟩
    | exact ⟨⟨true, fun _ => hpre.snd (by omega) (fun o ho => hall o (by rw [List.take_of_length_le (by omega)]; exact ho))⟩, rfl, hB7⟩
    | exact ⟨⟨_, fun hb => fin0 hcl (by assumption) (of_decide_eq_true (hb7.symm.trans (by assumption))) (of_decide_eq_true (hb8.symm.trans (by assumption))) (of_decide_eq_true (hb9.symm.trans (by assumption))) (of_decide_eq_true (hb10.symm.trans (by assumption))) (of_decide_eq_true (hb11.symm.trans hb))⟩, rfl, hB7⟩
    | exact ⟨⟨_, fun hb => fin1 hcl (by assumption) (by first | exact .inl (by assumption) | exact .inr (by assumption)) (of_decide_eq_true (hb8.symm.trans (by assumption))) (of_decide_eq_true (hb9.symm.trans (by assumption))) (of_decide_eq_true (hb10.symm.trans (by assumption))) (of_decide_eq_true (hb11.symm.trans hb))⟩, rfl, hB7⟩
    | exact ⟨⟨_, fun hb => fin2 hcl (by first | exact .inl (by assumption) | exact .inr (by assumption)) (by assumption) (of_decide_eq_true (hb8.symm.trans (by assumption))) (of_decide_eq_true (hb9.symm.trans (by assumption))) (of_decide_eq_true (hb10.symm.trans (by assumption))) (of_decide_eq_true (hb11.symm.trans hb))⟩, rfl, hB7⟩
    | exact ⟨⟨_, fun hb => fin4 hcl (by assumption) (of_decide_eq_true (hb7.symm.trans (by assumption))) (nmB_ok (by assumption)) (of_decide_eq_true (hb9.symm.trans (by assumption))) (of_decide_eq_true (hb10.symm.trans (by assumption))) (of_decide_eq_true (hb11.symm.trans hb))⟩, rfl, hB7⟩
    | exact ⟨⟨_, fun hb => fin5 hcl (by assumption) (of_decide_eq_true (hb7.symm.trans (by assumption))) (by assumption) (of_decide_eq_true (hb9.symm.trans (by assumption))) (of_decide_eq_true (hb10.symm.trans (by assumption))) (of_decide_eq_true (hb11.symm.trans hb))⟩, rfl, hB7⟩
    | exact ⟨⟨_, fun hb => fin8 hcl (by assumption) (by assumption) (by assumption) (of_decide_eq_true (hb8.symm.trans (by assumption))) (of_decide_eq_true (hb9.symm.trans (by assumption))) (of_decide_eq_true (hb10.symm.trans (by assumption))) (of_decide_eq_true (hb11.symm.trans hb))⟩, rfl, hB7⟩
   refine WL.gn rfl rfl rfl g41 <| WL.gn rfl rfl rfl g41 <| WL.gn rfl rfl rfl g41 <| WL.p (.pkF rfl g41 rfl) rfl <| WL.p (.mv rfl) rfl <| WL.gn rfl rfl rfl rfl <| WL.p (.pkF rfl rfl rfl) rfl <| WL.p (.mv rfl) rfl <| WL.gn rfl rfl rfl rfl <| WL.p (.pkF rfl rfl rfl) rfl <| WL.p (.mv rfl) rfl <| WL.gn rfl rfl rfl rfl <| WL.p (.pkF rfl rfl rfl) rfl <| WL.p (.as rfl) rfl <| WL.nil <| ?_
   refine W.ret (W.ret1 rfl rfl ?_)
   first
   | exact ⟨⟨false, fun h => by cases h⟩, rfl, hB7⟩
   | exact ⟨⟨true, fun _ => hpre.snd (by omega) (fun o ho => hall o (by rw [List.take_of_length_le (by omega)]; exact ho))⟩, rfl, hB7⟩
   | exact ⟨⟨_, fun hb => fin0 hcl (by assumption) (of_decide_eq_true (hb7.symm.trans (by assumption))) (of_decide_eq_true (hb8.symm.trans (by assumption))) (of_decide_eq_true (hb9.symm.trans (by assumption))) (of_decide_eq_true (hb10.symm.trans (by assumption))) (of_decide_eq_true (hb11.symm.trans hb))⟩, rfl, hB7⟩
   | exact ⟨⟨_, fun hb => fin1 hcl (by assumption) (by first | exact .inl (by assumption) | exact .inr (by assumption)) (of_decide_eq_true (hb8.symm.trans (by assumption))) (of_decide_eq_true (hb9.symm.trans (by assumption))) (of_decide_eq_true (hb10.symm.trans (by assumption))) (of_decide_eq_true (hb11.symm.trans hb))⟩, rfl, hB7⟩
   | exact ⟨⟨_, fun hb => fin2 hcl (by first | exact .inl (by assumption) | exact .inr (by assumption)) (by assumption) (of_decide_eq_true (hb8.symm.trans (by assumption))) (of_decide_eq_true (hb9.symm.trans (by assumption))) (of_decide_eq_true (hb10.symm.trans (by assumption))) (of_decide_eq_true (hb11.symm.trans hb))⟩, rfl, hB7⟩
   | exact ⟨⟨_, fun hb => fin4 hcl (by assumption) (of_decide_eq_true (hb7.symm.trans (by assumption))) (nmB_ok (by assumption)) (of_decide_eq_true (hb9.symm.trans (by assumption))) (of_decide_eq_true (hb10.symm.trans (by assumption))) (of_decide_eq_true (hb11.symm.trans hb))⟩, rfl, hB7⟩
   | exact ⟨⟨_, fun hb => fin5 hcl (by assumption) (of_decide_eq_true (hb7.symm.trans (by assumption))) (by assumption) (of_decide_eq_true (hb9.symm.trans (by assumption))) (of_decide_eq_true (hb10.symm.trans (by assumption))) (of_decide_eq_true (hb11.symm.trans hb))⟩, rfl, hB7⟩
   | exact ⟨⟨_, fun hb => fin8 hcl (by assumption) (by assumption) (by assumption) (of_decide_eq_true (hb8.symm.trans (by assumption))) (of_decide_eq_true (hb9.symm.trans (by assumption))) (of_decide_eq_true (hb10.symm.trans (by assumption))) (of_decide_eq_true (hb11.symm.trans hb))⟩, rfl, hB7⟩
  have h40' := of_decide_eq_false h40
  refine W.seq <| W.reg <| WL.p (.eql rfl rfl) rfl <| WL.p (.as rfl) rfl <| WL.nil <| ?_
  refine W.cond rfl (fun h45 => ?_) (fun h45 => ?_)
  ·
   have h45' := of_decide_eq_true h45
   refine W.seq <| W.reg <| WL.p (.fa underlying31 rfl sizeOf3 (by decide) rfl) rfl <| WL.r (Rd.ld (isAgg3 _) rfl hkb1 rfl) rfl <| WL.p (.geq rfl rfl) rfl <| WL.p (.mv rfl) rfl <| WL.gd rfl rfl rfl (fun g46 => ?_) (fun g46 => ?_)
   ·
    have g46' := of_decide_eq_true g46
    refine WL.p (.fa underlying31 rfl sizeOf3 (by decide) rfl) rfl <| WL.gy rfl rfl rfl g46 <| WL.r (Rd.ld (isAgg3 _) rfl hkb1 rfl) rfl <| WL.gy rfl rfl rfl g46 <| WL.p (.leq rfl rfl) rfl <| WL.p (.pkT rfl g46 rfl) rfl <| WL.p (.mv rfl) rfl <| WL.gd rfl rfl rfl (fun g47 => ?_) (fun g47 => ?_)
    ·
     have g47' := of_decide_eq_true g47
     refine WL.p (.mv rfl) rfl <| WL.p (.pkT rfl g47 rfl) rfl <| WL.p (.mv rfl) rfl <| WL.gd rfl rfl rfl (fun g48 => ?_) (fun g48 => ?_)
     ·
      skip
      refine WL.p (.mv rfl) rfl <| WL.p (.pkT rfl g48 rfl) rfl <| WL.p (.mv rfl) rfl <| WL.gd rfl rfl rfl (fun g49 => ?_) (fun g49 => ?_)
      ·
       skip
       refine WL.p (.mv rfl) rfl <| WL.p (.pkT rfl g49 rfl) rfl <| WL.p (.mv rfl) rfl <| WL.gd rfl rfl rfl (fun g50 => ?_) (fun g50 => ?_)
       ·
        skip
        refine WL.p (.mv rfl) rfl <| WL.p (.pkT rfl g50 rfl) rfl <| WL.p (.as rfl) rfl <| WL.nil <| ?_
        refine W.ret (W.ret1 rfl rfl ?_)
        first
        | exact ⟨⟨false, fun h => by cases h⟩, rfl, hB7⟩
        | exact ⟨⟨true, fun _ => hpre.snd (by omega) (fun o ho => hall o (by rw [List.take_of_length_le (by omega)]; exact ho))⟩, rfl, hB7⟩
        | exact ⟨⟨_, fun hb => fin0 hcl (by assumption) (of_decide_eq_true (hb7.symm.trans (by assumption))) (of_decide_eq_true (hb8.symm.trans (by assumption))) (of_decide_eq_true (hb9.symm.trans (by assumption))) (of_decide_eq_true (hb10.symm.trans (by assumption))) (of_decide_eq_true (hb11.symm.trans hb))⟩, rfl, hB7⟩
        | exact ⟨⟨_, fun hb => fin1 hcl (by assumption) (by first | exact .inl (by assumption) | exact .inr (by assumption)) (of_decide_eq_true (hb8.symm.trans (by assumption))) (of_decide_eq_true (hb9.symm.trans (by assumption))) (of_decide_eq_true (hb10.symm.trans (by assumption))) (of_decide_eq_true (hb11.symm.trans hb))⟩, rfl, hB7⟩
        | exact ⟨⟨_, fun hb => fin2 hcl (by first | exact .inl (by assumption) | exact .inr (by assumption)) (by assumption) (of_decide_eq_true (hb8.symm.trans (by assumption))) (of_decide_eq_true (hb9.symm.trans (by assumption))) (of_decide_eq_true (hb10.symm.trans (by assumption))) (of_decide_eq_true (hb11.symm.trans hb))⟩, rfl, hB7⟩
        | exact ⟨⟨_, fun hb => fin4 hcl (by assumption) (of_decide_eq_true (hb7.symm.trans (by assumption))) (nmB_ok (by assumption)) (of_decide_eq_true (hb9.symm.trans (by assumption))) (of_decide_eq_true (hb10.symm.trans (by assumption))) (of_decide_eq_true (hb11.symm.trans hb))⟩, rfl, hB7⟩
        | exact ⟨⟨_, fun hb => fin5 hcl (by assumption) (of_decide_eq_true (hb7.symm.trans (by assumption))) (by assumption) (of_decide_eq_true (hb9.symm.trans (by assumption))) (of_decide_eq_true (hb10.symm.trans (by assumption))) (of_decide_eq_true (hb11.symm.trans hb))⟩, rfl, hB7⟩
        | exact ⟨⟨_, fun hb => fin8 hcl (by assumption) (by assumption) (by assumption) (of_decide_eq_true (hb8.symm.trans (by assumption))) (of_decide_eq_true (hb9.symm.trans (by assumption))) (of_decide_eq_true (hb10.symm.trans (by assumption))) (of_decide_eq_true (hb11.symm.trans hb))⟩, rfl, hB7⟩
       refine WL.p (.pkF rfl g50 rfl) rfl <| WL.p (.as rfl) rfl <| WL.nil <| ?_
       refine W.ret (W.ret1 rfl rfl ?_)
       first
       | exact ⟨⟨false, fun h => by cases h⟩, rfl, hB7⟩
       | exact ⟨⟨true, fun _ => hpre.snd (by omega) (fun o ho => hall o (by rw [List.take_of_length_le (by omega)]; exact ho))⟩, rfl, hB7⟩
       | exact ⟨⟨_, fun hb => fin0 hcl (by assumption) (of_decide_eq_true (hb7.symm.trans (by assumption))) (of_decide_eq_true (hb8.symm.trans (by assumption))) (of_decide_eq_true (hb9.symm.trans (by assumption))) (of_decide_eq_true (hb10.symm.trans (by assumption))) (of_decide_eq_true (hb11.symm.trans hb))⟩, rfl, hB7⟩
       | exact ⟨⟨_, fun hb => fin1 hcl (by assumption) (by first | exact .inl (by assumption) | exact .inr (by assumption)) (of_decide_eq_true (hb8.symm.trans (by assumption))) (of_decide_eq_true (hb9.symm.trans (by assumption))) (of_decide_eq_true (hb10.symm.trans (by assumption))) (of_decide_eq_true (hb11.symm.trans hb))⟩, rfl, hB7⟩
       | exact ⟨⟨_, fun hb => fin2 hcl (by first | exact .inl (by assumption) | exact .inr (by assumption)) (by assumption) (of_decide_eq_true (hb8.symm.trans (by assumption))) (of_decide_eq_true (hb9.symm.trans (by assumption))) (of_decide_eq_true (hb10.symm.trans (by assumption))) (of_decide_eq_true (hb11.symm.trans hb))⟩, rfl, hB7⟩
       | exact ⟨⟨_, fun hb => fin4 hcl (by assumption) (of_decide_eq_true (hb7.symm.trans (by assumption))) (nmB_ok (by assumption)) (of_decide_eq_true (hb9.symm.trans (by assumption))) (of_decide_eq_true (hb10.symm.trans (by assumption))) (of_decide_eq_true (hb11.symm.trans hb))⟩, rfl, hB7⟩
       | exact ⟨⟨_, fun hb => fin5 hcl (by assumption) (of_decide_eq_true (hb7.symm.trans (by assumption))) (by assumption) (of_decide_eq_true (hb9.symm.trans (by assumption))) (of_decide_eq_true (hb10.symm.trans (by assumption))) (of_decide_eq_true (hb11.symm.trans hb))⟩, rfl, hB7⟩
       | exact ⟨⟨_, fun hb => fin8 hcl (by assumption) (by assumption) (by assumption) (of_decide_eq_true (hb8.symm.trans (by assumption))) (of_decide_eq_true (hb9.symm.trans (by assumption))) (of_decide_eq_true (hb10.symm.trans (by assumption))) (of_decide_eq_true (hb11.symm.trans hb))⟩, rfl, hB7⟩
      refine WL.p (.pkF rfl g49 rfl) rfl <| WL.p (.mv rfl) rfl <| WL.gn rfl rfl rfl rfl <| WL.p (.pkF rfl rfl rfl) rfl <| WL.p (.as rfl) rfl <| WL.nil <| ?_
      refine W.ret (W.ret1 rfl rfl ?_)
      first
      | exact ⟨⟨false, fun h => by cases h⟩, rfl, hB7⟩
      | exact ⟨⟨true, fun _ => hpre.snd (by omega) (fun o ho => hall o (by rw [List.take_of_length_le (by omega)]; exact ho))⟩, rfl, hB7⟩
      | exact ⟨⟨_, fun hb => fin0 hcl (by assumption) (of_decide_eq_true (hb7.symm.trans (by assumption))) (of_decide_eq_true (hb8.symm.trans (by assumption))) (of_decide_eq_true (hb9.symm.trans (by assumption))) (of_decide_eq_true (hb10.symm.trans (by assumption))) (of_decide_eq_true (hb11.symm.trans hb))⟩, rfl, hB7⟩
      | exact ⟨⟨_, fun hb => fin1 hcl (by assumption) (by first | exact .inl (by assumption) | exact .inr (by assumption)) (of_decide_eq_true (hb8.symm.trans (by assumption))) (of_decide_eq_true (hb9.symm.trans (by assumption))) (of_decide_eq_true (hb10.symm.trans (by assumption))) (of_decide_eq_true (hb11.symm.trans hb))⟩, rfl, hB7⟩
      | exact ⟨⟨_, fun hb => fin2 hcl (by first | exact .inl (by assumption) | exact .inr (by assumption)) (by assumption) (of_decide_eq_true (hb8.symm.trans (by assumption))) (of_decide_eq_true (hb9.symm.trans (by assumption))) (of_decide_eq_true (hb10.symm.trans (by assumption))) (of_decide_eq_true (hb11.symm.trans hb))⟩, rfl, hB7⟩
      | exact ⟨⟨_, fun hb => fin4 hcl (by assumption) (of_decide_eq_true (hb7.symm.trans (by assumption))) (nmB_ok (by assumption)) (of_decide_eq_true (hb9.symm.trans (by assumption))) (of_decide_eq_true (hb10.symm.trans (by assumption))) (of_decide_eq_true (hb11.symm.trans hb))⟩, rfl, hB7⟩
      | exact ⟨⟨_, fun hb => fin5 hcl (by assumption) (of_decide_eq_true (hb7.symm.trans (by assumption))) (by assumption) (of_decide_eq_true (hb9.symm.trans (by assumption))) (of_decide_eq_true (hb10.symm.trans (by assumption))) (of_decide_eq_true (hb11.symm.trans hb))⟩, rfl, hB7⟩
      | exact ⟨⟨_, fun hb => fin8 hcl (by assumption) (by assumption) (by assumption) (of_decide_eq_true (hb8.symm.trans (by assumption))) (of_decide_eq_true (hb9.symm.trans (by assumption))) (of_decide_eq_true (hb10.symm.trans (by assumption))) (of_decide_eq_true (hb11.symm.trans hb))⟩, rfl, hB7⟩
     refine WL.p (.pkF rfl g48 rfl) rfl <| WL.p (.mv rfl) rfl <| WL.gn rfl rfl rfl rfl <| WL.p (.pkF rfl rfl rfl) rfl <| WL.p (.mv rfl) rfl <| WL.gn rfl rfl rfl rfl <| WL.p (.pkF rfl rfl rfl) rfl <| WL.p (.as rfl) rfl <| WL.nil <| ?_
     refine W.ret (W.ret1 rfl rfl ?_)
     first
     | exact ⟨⟨false, fun h => by cases h⟩, rfl, hB7⟩
     | exact ⟨⟨true, fun _ => hpre.snd (by omega) (fun o ho => hall o (by rw [List.take_of_length_le (by omega)]; exact ho))⟩, rfl, hB7⟩
     | exact ⟨⟨_, fun hb => fin0 hcl (by assumption) (of_decide_eq_true (hb7.symm.trans (by assumption))) (of_decide_eq_true (hb8.symm.trans (by assumption))) (of_decide_eq_true (hb9.symm.trans (by assumption))) (of_decide_eq_true (hb10.symm.trans (by assumption))) (of_decide_eq_true (hb11.symm.trans hb))⟩, rfl, hB7⟩
     | exact ⟨⟨_, fun hb => fin1 hcl (by assumption) (by first | exact .inl (by assumption) | exact .inr (by assumption)) (of_decide_eq_true (hb8.symm.trans (by assumption))) (of_decide_eq_true (hb9.symm.trans (by assumption))) (of_decide_eq_true (hb10.symm.trans (by assumption))) (of_decide_eq_true (hb11.symm.trans hb))⟩, rfl, hB7⟩
     | exact ⟨⟨_, fun hb => fin2 hcl (by first | exact .inl (by assumption) | exact .inr (by assumption)) (by assumption) (of_decide_eq_true (hb8.symm.trans (by assumption))) (of_decide_eq_true (hb9.symm.trans (by assumption))) (of_decide_eq_true (hb10.symm.trans (by assumption))) (of_decide_eq_true (hb11.symm.trans hb))⟩, rfl, hB7⟩
     | exact ⟨⟨_, fun hb => fin4 hcl (by assumption) (of_decide_eq_true (hb7.symm.trans (by assumption))) (nmB_ok (by assumption)) (of_decide_eq_true (hb9.symm.trans (by assumption))) (of_decide_eq_true (hb10.symm.trans (by assumption))) (of_decide_eq_true (hb11.symm.trans hb))⟩, rfl, hB7⟩
     | exact ⟨⟨_, fun hb => fin5 hcl (by assumption) (of_decide_eq_true (hb7.symm.trans (by assumption))) (by assumption) (of_decide_eq_true (hb9.symm.trans (by assumption))) (of_decide_eq_true (hb10.symm.trans (by assumption))) (of_decide_eq_true (hb11.symm.trans hb))⟩, rfl, hB7⟩
     | exact ⟨⟨_, fun hb => fin8 hcl (by assumption) (by assumption) (by assumption) (of_decide_eq_true (hb8.symm.trans (by assumption))) (of_decide_eq_true (hb9.symm.trans (by assumption))) (of_decide_eq_true (hb10.symm.trans (by assumption))) (of_decide_eq_true (hb11.symm.trans hb))⟩, rfl, hB7⟩
    have g47' := of_decide_eq_false g47
    refine WL.p (.pkF rfl g47 rfl) rfl <| WL.p (.mv rfl) rfl <| WL.gn rfl rfl rfl rfl <| WL.p (.pkF rfl rfl rfl) rfl <| WL.p (.mv rfl) rfl <| WL.gn rfl rfl rfl rfl <| WL.p (.pkF rfl rfl rfl) rfl <| WL.p (.mv rfl) rfl <| WL.gn rfl rfl rfl rfl <| WL.p (.pkF rfl rfl rfl) rfl <| WL.p (.as rfl) rfl <| WL.nil <| ?_
    refine W.ret (W.ret1 rfl rfl ?_)
    first
    | exact ⟨⟨false, fun h => by cases h⟩, rfl, hB7⟩
    | exact ⟨⟨true, fun _ => hpre.snd (by omega) (fun o ho => hall o (by rw [List.take_of_length_le (by omega)]; exact ho))⟩, rfl, hB7⟩
    | exact ⟨⟨_, fun hb => fin0 hcl (by assumption) (of_decide_eq_true (hb7.symm.trans (by assumption))) (of_decide_eq_true (hb8.symm.trans (by assumption))) (of_decide_eq_true (hb9.symm.trans (by assumption))) (of_decide_eq_true (hb10.symm.trans (by assumption))) (of_decide_eq_true (hb11.symm.trans hb))⟩, rfl, hB7⟩
    | exact ⟨⟨_, fun hb => fin1 hcl (by assumption) (by first | exact .inl (by assumption) | exact .inr (by assumption)) (of_decide_eq_true (hb8.symm.trans (by assumption))) (of_decide_eq_true (hb9.symm.trans (by assumption))) (of_decide_eq_true (hb10.symm.trans (by assumption))) (of_decide_eq_true (hb11.symm.trans hb))⟩, rfl, hB7⟩
    | exact ⟨⟨_, fun hb => fin2 hcl (by first | exact .inl (by assumption) | exact .inr (by assumption)) (by assumption) (of_decide_eq_true (hb8.symm.trans (by assumption))) (of_decide_eq_true (hb9.symm.trans (by assumption))) (of_decide_eq_true (hb10.symm.trans (by assumption))) (of_decide_eq_true (hb11.symm.trans hb))⟩, rfl, hB7⟩
    | exact ⟨⟨_, fun hb => fin4 hcl (by assumption) (of_decide_eq_true (hb7.symm.trans (by assumption))) (nmB_ok (by assumption)) (of_decide_eq_true (hb9.symm.trans (by assumption))) (of_decide_eq_true (hb10.symm.trans (by assumption))) (of_decide_eq_true (hb11.symm.trans hb))⟩, rfl, hB7⟩
    | exact ⟨⟨_, fun hb => fin5 hcl (by assumption) (of_decide_eq_true (hb7.symm.trans (by assumption))) (by assumption) (of_decide_eq_true (hb9.symm.trans (by assumption))) (of_decide_eq_true (hb10.symm.trans (by assumption))) (of_decide_eq_true (hb11.symm.trans hb))⟩, rfl, hB7⟩
    | exact ⟨⟨_, fun hb => fin8 hcl (by assumption) (by assumption) (by assumption) (of_decide_eq_true (hb8.symm.trans (by assumption))) (of_decide_eq_true (hb9.symm.trans (by assumption))) (of_decide_eq_true (hb10.symm.trans (by assumption))) (of_decide_eq_true (hb11.symm.trans hb))⟩, rfl, hB7⟩
   have g46' := of_decide_eq_false g46
   refine WL.gn rfl rfl rfl g46 <| WL.gn rfl rfl rfl g46 <| WL.p (.pkF rfl g46 rfl) rfl <| WL.p (.mv rfl) rfl <| WL.gn rfl rfl rfl rfl <| WL.p (.pkF rfl rfl rfl) rfl <| WL.p (.mv rfl) rfl <| WL.gn rfl rfl rfl rfl <| WL.p (.pkF rfl rfl rfl) rfl <| WL.p (.mv rfl) rfl <| WL.gn rfl rfl rfl rfl <| WL.p (.pkF rfl rfl rfl) rfl <| WL.p (.mv rfl) rfl <| WL.gn rfl rfl rfl rfl <| WL.p (.pkF rfl rfl rfl) rfl <| WL.p (.as rfl) rfl <| WL.nil <| ?_
   refine W.ret (W.ret1 rfl rfl ?_)
   first
   | exact ⟨⟨false, fun h => by cases h⟩, rfl, hB7⟩
   | exact ⟨⟨true, fun _ => hpre.snd (by omega) (fun o ho => hall o (by rw [List.take_of_length_le (by omega)]; exact ho))⟩, rfl, hB7⟩
   | exact ⟨⟨_, fun hb => fin0 hcl (by assumption) (of_decide_eq_true (hb7.symm.trans (by assumption))) (of_decide_eq_true (hb8.symm.trans (by assumption))) (of_decide_eq_true (hb9.symm.trans (by assumption))) (of_decide_eq_true (hb10.symm.trans (by assumption))) (of_decide_eq_true (hb11.symm.trans hb))⟩, rfl, hB7⟩
   | exact ⟨⟨_, fun hb => fin1 hcl (by assumption) (by first | exact .inl (by assumption) | exact .inr (by assumption)) (of_decide_eq_true (hb8.symm.trans (by assumption))) (of_decide_eq_true (hb9.symm.trans (by assumption))) (of_decide_eq_true (hb10.symm.trans (by assumption))) (of_decide_eq_true (hb11.symm.trans hb))⟩, rfl, hB7⟩
   | exact ⟨⟨_, fun hb => fin2 hcl (by first | exact .inl (by assumption) | exact .inr (by assumption)) (by assumption) (of_decide_eq_true (hb8.symm.trans (by assumption))) (of_decide_eq_true (hb9.symm.trans (by assumption))) (of_decide_eq_true (hb10.symm.trans (by assumption))) (of_decide_eq_true (hb11.symm.trans hb))⟩, rfl, hB7⟩
   | exact ⟨⟨_, fun hb => fin4 hcl (by assumption) (of_decide_eq_true (hb7.symm.trans (by assumption))) (nmB_ok (by assumption)) (of_decide_eq_true (hb9.symm.trans (by assumption))) (of_decide_eq_true (hb10.symm.trans (by assumption))) (of_decide_eq_true (hb11.symm.trans hb))⟩, rfl, hB7⟩
   | exact ⟨⟨_, fun hb => fin5 hcl (by assumption) (of_decide_eq_true (hb7.symm.trans (by assumption))) (by assumption) (of_decide_eq_true (hb9.symm.trans (by assumption))) (of_decide_eq_true (hb10.symm.trans (by assumption))) (of_decide_eq_true (hb11.symm.trans hb))⟩, rfl, hB7⟩
   | exact ⟨⟨_, fun hb => fin8 hcl (by assumption) (by assumption) (by assumption) (of_decide_eq_true (hb8.symm.trans (by assumption))) (of_decide_eq_true (hb9.symm.trans (by assumption))) (of_decide_eq_true (hb10.symm.trans (by assumption))) (of_decide_eq_true (hb11.symm.trans hb))⟩, rfl, hB7⟩
  have h45' := of_decide_eq_false h45
  refine W.seq <| W.reg <| WL.p (.eql rfl rfl) rfl <| WL.p (.as rfl) rfl <| WL.nil <| ?_
  refine W.cond rfl (fun h51 => ?_) (fun h51 => ?_)
  ·
   have h51' := of_decide_eq_true h51
   refine W.cutB 166 ((bD || !b7 || !b8 || !b9 || !b11)) ?_ ?_
   ·
    skip
    refine W.reg <| WL.p (.mv rfl) rfl <| WL.p (.bis (bD) (.lss rfl rfl) (by exact hbD.symm)) rfl <| WL.p (.mv rfl) rfl <| WL.gd rfl rfl rfl (fun g52 => ?_) (fun g52 => ?_)
    ·
     skip
     refine WL.p (.mv rfl) rfl <| WL.gy rfl rfl rfl g52 <| WL.p (.not rfl) rfl <| WL.p (.pkF rfl g52 rfl) rfl <| WL.p (.mv rfl) rfl <| WL.gd rfl rfl rfl (fun g53 => ?_) (fun g53 => ?_)
     ·
      have g53' := (nF g53)
      refine WL.p (.mv rfl) rfl <| WL.gy rfl rfl rfl (by rw [(nF g53)] <;> rfl) <| WL.p (.not rfl) rfl <| WL.p (.pkF rfl (by rw [(nF g53)] <;> rfl) rfl) rfl <| WL.p (.mv rfl) rfl <| WL.gd rfl rfl rfl (fun g54 => ?_) (fun g54 => ?_)
      ·
       have g54' := (nF g54)
       refine WL.p (.mv rfl) rfl <| WL.gy rfl rfl rfl (by rw [(nF g54)] <;> rfl) <| WL.p (.not rfl) rfl <| WL.p (.pkF rfl (by rw [(nF g54)] <;> rfl) rfl) rfl <| WL.p (.mv rfl) rfl <| WL.gd rfl rfl rfl (fun g55 => ?_) (fun g55 => ?_)
       ·
        have g55' := (nF g55)
        refine WL.p (.mv rfl) rfl <| WL.gy rfl rfl rfl (by rw [(nF g55)] <;> rfl) <| WL.p (.not rfl) rfl <| WL.p (.pkF rfl (by rw [(nF g55)] <;> rfl) rfl) rfl <| WL.nil <| ?_
        exact ⟨⟨lk_b rfl (by clear hbD hb7 hb8 hb9 hb10 hb11 hbm hb71 hb91 hbg; subst_vars; first | rfl | (cases st <;> first | rfl | contradiction)), by repeat (first | exact Le.refl _ | refine Le.cons rfl ?_)⟩, rfl⟩
       have g55' := (nT g55)
       refine WL.gn rfl rfl rfl (by rw [(nT g55)] <;> rfl) <| WL.p (.pkT rfl (by rw [(nT g55)] <;> rfl) rfl) rfl <| WL.nil <| ?_
       exact ⟨⟨lk_b rfl (by clear hbD hb7 hb8 hb9 hb10 hb11 hbm hb71 hb91 hbg; subst_vars; first | rfl | (cases st <;> first | rfl | contradiction)), by repeat (first | exact Le.refl _ | refine Le.cons rfl ?_)⟩, rfl⟩
      have g54' := (nT g54)
      refine WL.gn rfl rfl rfl (by rw [(nT g54)] <;> rfl) <| WL.p (.pkT rfl (by rw [(nT g54)] <;> rfl) rfl) rfl <| WL.p (.mv rfl) rfl <| WL.gn rfl rfl rfl rfl <| WL.gn rfl rfl rfl rfl <| WL.p (.pkT rfl rfl rfl) rfl <| WL.nil <| ?_
      exact ⟨⟨lk_b rfl (by clear hbD hb7 hb8 hb9 hb10 hb11 hbm hb71 hb91 hbg; subst_vars; first | rfl | (cases st <;> first | rfl | contradiction)), by repeat (first | exact Le.refl _ | refine Le.cons rfl ?_)⟩, rfl⟩
     have g53' := (nT g53)
     refine WL.gn rfl rfl rfl (by rw [(nT g53)] <;> rfl) <| WL.p (.pkT rfl (by rw [(nT g53)] <;> rfl) rfl) rfl <| WL.p (.mv rfl) rfl <| WL.gn rfl rfl rfl rfl <| WL.gn rfl rfl rfl rfl <| WL.p (.pkT rfl rfl rfl) rfl <| WL.p (.mv rfl) rfl <| WL.gn rfl rfl rfl rfl <| WL.gn rfl rfl rfl rfl <| WL.p (.pkT rfl rfl rfl) rfl <| WL.nil <| ?_
     exact ⟨⟨lk_b rfl (by clear hbD hb7 hb8 hb9 hb10 hb11 hbm hb71 hb91 hbg; subst_vars; first | rfl | (cases st <;> first | rfl | contradiction)), by repeat (first | exact Le.refl _ | refine Le.cons rfl ?_)⟩, rfl⟩
    refine WL.gn rfl rfl rfl g52 <| WL.p (.pkT rfl g52 rfl) rfl <| WL.p (.mv rfl) rfl <| WL.gn rfl rfl rfl rfl <| WL.gn rfl rfl rfl rfl <| WL.p (.pkT rfl rfl rfl) rfl <| WL.p (.mv rfl) rfl <| WL.gn rfl rfl rfl rfl <| WL.gn rfl rfl rfl rfl <| WL.p (.pkT rfl rfl rfl) rfl <| WL.p (.mv rfl) rfl <| WL.gn rfl rfl rfl rfl <| WL.gn rfl rfl rfl rfl <| WL.p (.pkT rfl rfl rfl) rfl <| WL.nil <| ?_
    exact ⟨⟨lk_b rfl (by clear hbD hb7 hb8 hb9 hb10 hb11 hbm hb71 hb91 hbg; subst_vars; first | rfl | (cases st <;> first | rfl | contradiction)), by repeat (first | exact Le.refl _ | refine Le.cons rfl ?_)⟩, rfl⟩
   refine W.cond rfl (fun h56 => ?_) (fun h56 => ?_)
   ·
    skip
    refine W.seq <| W.reg <| WL.p (.as rfl) rfl <| WL.nil <| ?_
    refine W.ret (W.ret1 rfl rfl ?_)
    first
    | exact ⟨⟨false, fun h => by cases h⟩, rfl, hB7⟩
    | exact ⟨⟨true, fun _ => hpre.snd (by omega) (fun o ho => hall o (by rw [List.take_of_length_le (by omega)]; exact ho))⟩, rfl, hB7⟩
    | exact ⟨⟨_, fun hb => fin0 hcl (by assumption) (of_decide_eq_true (hb7.symm.trans (by assumption))) (of_decide_eq_true (hb8.symm.trans (by assumption))) (of_decide_eq_true (hb9.symm.trans (by assumption))) (of_decide_eq_true (hb10.symm.trans (by assumption))) (of_decide_eq_true (hb11.symm.trans hb))⟩, rfl, hB7⟩
    | exact ⟨⟨_, fun hb => fin1 hcl (by assumption) (by first | exact .inl (by assumption) | exact .inr (by assumption)) (of_decide_eq_true (hb8.symm.trans (by assumption))) (of_decide_eq_true (hb9.symm.trans (by assumption))) (of_decide_eq_true (hb10.symm.trans (by assumption))) (of_decide_eq_true (hb11.symm.trans hb))⟩, rfl, hB7⟩
    | exact ⟨⟨_, fun hb => fin2 hcl (by first | exact .inl (by assumption) | exact .inr (by assumption)) (by assumption) (of_decide_eq_true (hb8.symm.trans (by assumption))) (of_decide_eq_true (hb9.symm.trans (by assumption))) (of_decide_eq_true (hb10.symm.trans (by assumption))) (of_decide_eq_true (hb11.symm.trans hb))⟩, rfl, hB7⟩
    | exact ⟨⟨_, fun hb => fin4 hcl (by assumption) (of_decide_eq_true (hb7.symm.trans (by assumption))) (nmB_ok (by assumption)) (of_decide_eq_true (hb9.symm.trans (by assumption))) (of_decide_eq_true (hb10.symm.trans (by assumption))) (of_decide_eq_true (hb11.symm.trans hb))⟩, rfl, hB7⟩
    | exact ⟨⟨_, fun hb => fin5 hcl (by assumption) (of_decide_eq_true (hb7.symm.trans (by assumption))) (by assumption) (of_decide_eq_true (hb9.symm.trans (by assumption))) (of_decide_eq_true (hb10.symm.trans (by assumption))) (of_decide_eq_true (hb11.symm.trans hb))⟩, rfl, hB7⟩
    | exact ⟨⟨_, fun hb => fin8 hcl (by assumption) (by assumption) (by assumption) (of_decide_eq_true (hb8.symm.trans (by assumption))) (of_decide_eq_true (hb9.symm.trans (by assumption))) (of_decide_eq_true (hb10.symm.trans (by assumption))) (of_decide_eq_true (hb11.symm.trans hb))⟩, rfl, hB7⟩
   obtain ⟨q1, q2, q3, q4, q5⟩ : 1 ≤ D ∧ i = 0 ∧ s = [] ∧ keys = [] ∧ data = [] := by
    have h0 : (bD || !b7 || !b8 || !b9 || !b11) = false := by assumption
    rw [hbD, hb7, hb8, hb9, hb11] at h0
    simp only [Bool.or_eq_false_iff, Bool.not_eq_false', decide_eq_true_eq, decide_eq_false_iff_not] at h0
    exact ⟨by omega, h0.1.1.1.2, h0.1.1.2, lenz h0.1.2, lenz h0.2⟩
   refine W.skip ?_
   first
   | exact ⟨(), ⟨rfl, rfl, trivial⟩, hB7, hkb1, hv5, hF2, .inl ⟨by assumption, q1, q2, q3, q4, q5⟩⟩
   | exact ⟨(), ⟨rfl, rfl, trivial⟩, hB7, hkb1, hv5, hF2, .inr ⟨hkk i1 (by omega) hkb, q1, q2, q3, by omega, (keysAll i1 (by omega) hkb).1, (keysAll i1 (by omega) hkb).2⟩⟩
  have h51' := of_decide_eq_false h51
  refine W.seq <| W.seq <| W.reg <| WL.p (.eql rfl rfl) rfl <| WL.p (.as rfl) rfl <| WL.nil <| ?_
  refine W.cond rfl (fun h57 => ?_) (fun h57 => ?_)
  ·
   have h57' := of_decide_eq_true h57
   refine W.skip <| W.condT rfl h57 ?_
   refine W.seq ?_
   refine W.cutB 212 ((bD || !b7 || !b8 || bm || (b71 && !b11) || (b91 && (!st || bg)))) ?_ ?_
   ·
    skip
    refine W.reg <| WL.p (.mv rfl) rfl <| WL.p (.bis (bD) (.lss rfl rfl) (by exact hbD.symm)) rfl <| WL.p (.mv rfl) rfl <| WL.gd rfl rfl rfl (fun g58 => ?_) (fun g58 => ?_)
    ·
     skip
     refine WL.p (.mv rfl) rfl <| WL.gy rfl rfl rfl g58 <| WL.p (.not rfl) rfl <| WL.p (.pkF rfl g58 rfl) rfl <| WL.p (.mv rfl) rfl <| WL.gd rfl rfl rfl (fun g59 => ?_) (fun g59 => ?_)
     ·
      have g59' := (nF g59)
      refine WL.p (.mv rfl) rfl <| WL.gy rfl rfl rfl (by rw [(nF g59)] <;> rfl) <| WL.p (.not rfl) rfl <| WL.p (.pkF rfl (by rw [(nF g59)] <;> rfl) rfl) rfl <| WL.p (.mv rfl) rfl <| WL.gd rfl rfl rfl (fun g60 => ?_) (fun g60 => ?_)
      ·
       have g60' := (nF g60)
       refine WL.p (.fa underlying31 rfl sizeOf28 (by decide) rfl) rfl <| WL.gy rfl rfl rfl (by rw [(nF g60)] <;> rfl) <| WL.r (Rd.ld (isAgg28 _) rfl hkb1 rfl) rfl <| WL.gy rfl rfl rfl (by rw [(nF g60)] <;> rfl) <| WL.p (.lenS underlying28 rfl) rfl <| WL.gy rfl rfl rfl (by rw [(nF g60)] <;> rfl) <| WL.p (.fa underlying31 rfl sizeOf29 (by decide) rfl) rfl <| WL.gy rfl rfl rfl (by rw [(nF g60)] <;> rfl) <| WL.r (Rd.ld (isAgg29 _) rfl hkb1 rfl) rfl <| WL.gy rfl rfl rfl (by rw [(nF g60)] <;> rfl) <| WL.p (.lenS underlying29 rfl) rfl <| WL.gy rfl rfl rfl (by rw [(nF g60)] <;> rfl) <| WL.p (.bis (bm) (.neq rfl rfl) (by exact hbm.symm)) rfl <| WL.p (.pkF rfl (by rw [(nF g60)] <;> rfl) rfl) rfl <| WL.p (.mv rfl) rfl <| WL.gd rfl rfl rfl (fun g61 => ?_) (fun g61 => ?_)
       ·
        skip
        refine WL.p (.fa underlying31 rfl sizeOf3 (by decide) rfl) rfl <| WL.gy rfl rfl rfl g61 <| WL.r (Rd.ld (isAgg3 _) rfl hkb1 rfl) rfl <| WL.gy rfl rfl rfl g61 <| WL.p (.bis (b71) (.eql rfl rfl) (by exact hb71.symm)) rfl <| WL.gy rfl rfl rfl g61 <| WL.p (.mv rfl) rfl <| WL.gd rfl rfl rfl (fun g62 => ?_) (fun g62 => ?_)
        ·
         skip
         refine WL.p (.mv rfl) rfl <| WL.gy rfl rfl rfl g62 <| WL.p (.not rfl) rfl <| WL.gy rfl rfl rfl g61 <| WL.p (.pkT rfl g62 rfl) rfl <| WL.p (.pkF rfl g61 rfl) rfl <| WL.p (.mv rfl) rfl <| WL.gd rfl rfl rfl (fun g63 => ?_) (fun g63 => ?_)
         ·
          have g63' := (nF g63)
          refine WL.p (.fa underlying31 rfl sizeOf3 (by decide) rfl) rfl <| WL.gy rfl rfl rfl (by rw [(nF g63)] <;> rfl) <| WL.r (Rd.ld (isAgg3 _) rfl hkb1 rfl) rfl <| WL.gy rfl rfl rfl (by rw [(nF g63)] <;> rfl) <| WL.p (.bis (b91) (.eql rfl rfl) (by exact hb91.symm)) rfl <| WL.gy rfl rfl rfl (by rw [(nF g63)] <;> rfl) <| WL.p (.mv rfl) rfl <| WL.gd rfl rfl rfl (fun g64 => ?_) (fun g64 => ?_)
          ·
           skip
           refine WL.p (.mv rfl) rfl <| WL.gy rfl rfl rfl g64 <| WL.p (.not rfl) rfl <| WL.gy rfl rfl rfl g64 <| WL.p (.mv rfl) rfl <| WL.gd rfl rfl rfl (fun g65 => ?_) (fun g65 => ?_)
           ·
            skip
            refine WL.p (.fa underlying31 rfl sizeOf22 (by decide) rfl) rfl <| WL.gy rfl rfl rfl (by rw [(nF g65)] <;> rfl) <| WL.r (Rd.ld (isAgg22 _) rfl hkb1 rfl) rfl <| WL.gy rfl rfl rfl (by rw [(nF g65)] <;> rfl) <| WL.p (.lenS underlying22 rfl) rfl <| WL.gy rfl rfl rfl (by rw [(nF g65)] <;> rfl) <| WL.p (.bis (bg) (.gtr rfl rfl) (by exact hbg.symm)) rfl <| WL.gy rfl rfl rfl g64 <| WL.p (.pkF rfl (by rw [(nF g65)] <;> rfl) rfl) rfl <| WL.gy rfl rfl rfl (by rw [(nF g63)] <;> rfl) <| WL.p (.pkT rfl g64 rfl) rfl <| WL.p (.pkF rfl (by rw [(nF g63)] <;> rfl) rfl) rfl <| WL.nil <| ?_
            exact ⟨⟨lk_b rfl (by clear hbD hb7 hb8 hb9 hb10 hb11 hbm hb71 hb91 hbg; subst_vars; first | rfl | (cases st <;> first | rfl | contradiction)), by repeat (first | exact Le.refl _ | refine Le.cons rfl ?_)⟩, rfl⟩
           refine WL.gn rfl rfl rfl (by rw [(nT g65)] <;> rfl) <| WL.gn rfl rfl rfl (by rw [(nT g65)] <;> rfl) <| WL.gn rfl rfl rfl (by rw [(nT g65)] <;> rfl) <| WL.gy rfl rfl rfl g64 <| WL.p (.pkT rfl (by rw [(nT g65)] <;> rfl) rfl) rfl <| WL.gy rfl rfl rfl (by rw [(nF g63)] <;> rfl) <| WL.p (.pkT rfl g64 rfl) rfl <| WL.p (.pkF rfl (by rw [(nF g63)] <;> rfl) rfl) rfl <| WL.nil <| ?_
           exact ⟨⟨lk_b rfl (by clear hbD hb7 hb8 hb9 hb10 hb11 hbm hb71 hb91 hbg; subst_vars; first | rfl | (cases st <;> first | rfl | contradiction)), by repeat (first | exact Le.refl _ | refine Le.cons rfl ?_)⟩, rfl⟩
          refine WL.gn rfl rfl rfl g64 <| WL.gn rfl rfl rfl g64 <| WL.gu rfl rfl rfl <| WL.gu rfl rfl rfl <| WL.gu rfl rfl rfl <| WL.gu rfl rfl rfl <| WL.gn rfl rfl rfl g64 <| WL.gy rfl rfl rfl (by rw [(nF g63)] <;> rfl) <| WL.p (.pkF rfl g64 rfl) rfl <| WL.p (.pkF rfl (by rw [(nF g63)] <;> rfl) rfl) rfl <| WL.nil <| ?_
          exact ⟨⟨lk_b rfl (by clear hbD hb7 hb8 hb9 hb10 hb11 hbm hb71 hb91 hbg; subst_vars; first | rfl | (cases st <;> first | rfl | contradiction)), by repeat (first | exact Le.refl _ | refine Le.cons rfl ?_)⟩, rfl⟩
         have g63' := (nT g63)
         refine WL.gn rfl rfl rfl (by rw [(nT g63)] <;> rfl) <| WL.gn rfl rfl rfl (by rw [(nT g63)] <;> rfl) <| WL.gn rfl rfl rfl (by rw [(nT g63)] <;> rfl) <| WL.gu rfl rfl rfl <| WL.gu rfl rfl rfl <| WL.gu rfl rfl rfl <| WL.gu rfl rfl rfl <| WL.gu rfl rfl rfl <| WL.gu rfl rfl rfl <| WL.gu rfl rfl rfl <| WL.gu rfl rfl rfl <| WL.gn rfl rfl rfl (by rw [(nT g63)] <;> rfl) <| WL.p (.pkT rfl (by rw [(nT g63)] <;> rfl) rfl) rfl <| WL.nil <| ?_
         exact ⟨⟨lk_b rfl (by clear hbD hb7 hb8 hb9 hb10 hb11 hbm hb71 hb91 hbg; subst_vars; first | rfl | (cases st <;> first | rfl | contradiction)), by repeat (first | exact Le.refl _ | refine Le.cons rfl ?_)⟩, rfl⟩
        refine WL.gn rfl rfl rfl g62 <| WL.gy rfl rfl rfl g61 <| WL.p (.pkF rfl g62 rfl) rfl <| WL.p (.pkF rfl g61 rfl) rfl <| WL.p (.mv rfl) rfl <| WL.gy rfl rfl rfl rfl <| WL.p (.fa underlying31 rfl sizeOf3 (by decide) rfl) rfl <| WL.gy rfl rfl rfl rfl <| WL.r (Rd.ld (isAgg3 _) rfl hkb1 rfl) rfl <| WL.gy rfl rfl rfl rfl <| WL.p (.bis (b91) (.eql rfl rfl) (by exact hb91.symm)) rfl <| WL.gy rfl rfl rfl rfl <| WL.p (.mv rfl) rfl <| WL.gd rfl rfl rfl (fun g66 => ?_) (fun g66 => ?_)
        ·
         skip
         refine WL.p (.mv rfl) rfl <| WL.gy rfl rfl rfl g66 <| WL.p (.not rfl) rfl <| WL.gy rfl rfl rfl g66 <| WL.p (.mv rfl) rfl <| WL.gd rfl rfl rfl (fun g67 => ?_) (fun g67 => ?_)
         ·
          skip
          refine WL.p (.fa underlying31 rfl sizeOf22 (by decide) rfl) rfl <| WL.gy rfl rfl rfl (by rw [(nF g67)] <;> rfl) <| WL.r (Rd.ld (isAgg22 _) rfl hkb1 rfl) rfl <| WL.gy rfl rfl rfl (by rw [(nF g67)] <;> rfl) <| WL.p (.lenS underlying22 rfl) rfl <| WL.gy rfl rfl rfl (by rw [(nF g67)] <;> rfl) <| WL.p (.bis (bg) (.gtr rfl rfl) (by exact hbg.symm)) rfl <| WL.gy rfl rfl rfl g66 <| WL.p (.pkF rfl (by rw [(nF g67)] <;> rfl) rfl) rfl <| WL.gy rfl rfl rfl rfl <| WL.p (.pkT rfl g66 rfl) rfl <| WL.p (.pkF rfl rfl rfl) rfl <| WL.nil <| ?_
          exact ⟨⟨lk_b rfl (by clear hbD hb7 hb8 hb9 hb10 hb11 hbm hb71 hb91 hbg; subst_vars; first | rfl | (cases st <;> first | rfl | contradiction)), by repeat (first | exact Le.refl _ | refine Le.cons rfl ?_)⟩, rfl⟩
         refine WL.gn rfl rfl rfl (by rw [(nT g67)] <;> rfl) <| WL.gn rfl rfl rfl (by rw [(nT g67)] <;> rfl) <| WL.gn rfl rfl rfl (by rw [(nT g67)] <;> rfl) <| WL.gy rfl rfl rfl g66 <| WL.p (.pkT rfl (by rw [(nT g67)] <;> rfl) rfl) rfl <| WL.gy rfl rfl rfl rfl <| WL.p (.pkT rfl g66 rfl) rfl <| WL.p (.pkF rfl rfl rfl) rfl <| WL.nil <| ?_
         exact ⟨⟨lk_b rfl (by clear hbD hb7 hb8 hb9 hb10 hb11 hbm hb71 hb91 hbg; subst_vars; first | rfl | (cases st <;> first | rfl | contradiction)), by repeat (first | exact Le.refl _ | refine Le.cons rfl ?_)⟩, rfl⟩
        refine WL.gn rfl rfl rfl g66 <| WL.gn rfl rfl rfl g66 <| WL.gu rfl rfl rfl <| WL.gu rfl rfl rfl <| WL.gu rfl rfl rfl <| WL.gu rfl rfl rfl <| WL.gn rfl rfl rfl g66 <| WL.gy rfl rfl rfl rfl <| WL.p (.pkF rfl g66 rfl) rfl <| WL.p (.pkF rfl rfl rfl) rfl <| WL.nil <| ?_
        exact ⟨⟨lk_b rfl (by clear hbD hb7 hb8 hb9 hb10 hb11 hbm hb71 hb91 hbg; subst_vars; first | rfl | (cases st <;> first | rfl | contradiction)), by repeat (first | exact Le.refl _ | refine Le.cons rfl ?_)⟩, rfl⟩
       refine WL.gn rfl rfl rfl g61 <| WL.gn rfl rfl rfl g61 <| WL.gn rfl rfl rfl g61 <| WL.gu rfl rfl rfl <| WL.gu rfl rfl rfl <| WL.gn rfl rfl rfl g61 <| WL.p (.pkT rfl g61 rfl) rfl <| WL.p (.mv rfl) rfl <| WL.gn rfl rfl rfl rfl <| WL.gn rfl rfl rfl rfl <| WL.gn rfl rfl rfl rfl <| WL.gn rfl rfl rfl rfl <| WL.gu rfl rfl rfl <| WL.gu rfl rfl rfl <| WL.gu rfl rfl rfl <| WL.gu rfl rfl rfl <| WL.gu rfl rfl rfl <| WL.gu rfl rfl rfl <| WL.gu rfl rfl rfl <| WL.gu rfl rfl rfl <| WL.gn rfl rfl rfl rfl <| WL.p (.pkT rfl rfl rfl) rfl <| WL.nil <| ?_
       exact ⟨⟨lk_b rfl (by clear hbD hb7 hb8 hb9 hb10 hb11 hbm hb71 hb91 hbg; subst_vars; first | rfl | (cases st <;> first | rfl | contradiction)), by repeat (first | exact Le.refl _ | refine Le.cons rfl ?_)⟩, rfl⟩
      have g60' := (nT g60)
      refine WL.gn rfl rfl rfl (by rw [(nT g60)] <;> rfl) <| WL.gn rfl rfl rfl (by rw [(nT g60)] <;> rfl) <| WL.gn rfl rfl rfl (by rw [(nT g60)] <;> rfl) <| WL.gn rfl rfl rfl (by rw [(nT g60)] <;> rfl) <| WL.gn rfl rfl rfl (by rw [(nT g60)] <;> rfl) <| WL.gn rfl rfl rfl (by rw [(nT g60)] <;> rfl) <| WL.p (.pkT rfl (by rw [(nT g60)] <;> rfl) rfl) rfl <| WL.p (.mv rfl) rfl <| WL.gn rfl rfl rfl rfl <| WL.gn rfl rfl rfl rfl <| WL.gn rfl rfl rfl rfl <| WL.gn rfl rfl rfl rfl <| WL.gu rfl rfl rfl <| WL.gu rfl rfl rfl <| WL.gn rfl rfl rfl rfl <| WL.p (.pkT rfl rfl rfl) rfl <| WL.p (.mv rfl) rfl <| WL.gn rfl rfl rfl rfl <| WL.gn rfl rfl rfl rfl <| WL.gn rfl rfl rfl rfl <| WL.gn rfl rfl rfl rfl <| WL.gu rfl rfl rfl <| WL.gu rfl rfl rfl <| WL.gu rfl rfl rfl <| WL.gu rfl rfl rfl <| WL.gu rfl rfl rfl <| WL.gu rfl rfl rfl <| WL.gu rfl rfl rfl <| WL.gu rfl rfl rfl <| WL.gn rfl rfl rfl rfl <| WL.p (.pkT rfl rfl rfl) rfl <| WL.nil <| ?_
      exact ⟨⟨lk_b rfl (by clear hbD hb7 hb8 hb9 hb10 hb11 hbm hb71 hb91 hbg; subst_vars; first | rfl | (cases st <;> first | rfl | contradiction)), by repeat (first | exact Le.refl _ | refine Le.cons rfl ?_)⟩, rfl⟩
     have g59' := (nT g59)
     refine WL.gn rfl rfl rfl (by rw [(nT g59)] <;> rfl) <| WL.p (.pkT rfl (by rw [(nT g59)] <;> rfl) rfl) rfl <| WL.p (.mv rfl) rfl <| WL.gn rfl rfl rfl rfl <| WL.gn rfl rfl rfl rfl <| WL.gn rfl rfl rfl rfl <| WL.gn rfl rfl rfl rfl <| WL.gn rfl rfl rfl rfl <| WL.gn rfl rfl rfl rfl <| WL.gn rfl rfl rfl rfl <| WL.p (.pkT rfl rfl rfl) rfl <| WL.p (.mv rfl) rfl <| WL.gn rfl rfl rfl rfl <| WL.gn rfl rfl rfl rfl <| WL.gn rfl rfl rfl rfl <| WL.gn rfl rfl rfl rfl <| WL.gu rfl rfl rfl <| WL.gu rfl rfl rfl <| WL.gn rfl rfl rfl rfl <| WL.p (.pkT rfl rfl rfl) rfl <| WL.p (.mv rfl) rfl <| WL.gn rfl rfl rfl rfl <| WL.gn rfl rfl rfl rfl <| WL.gn rfl rfl rfl rfl <| WL.gn rfl rfl rfl rfl <| WL.gu rfl rfl rfl <| WL.gu rfl rfl rfl <| WL.gu rfl rfl rfl <| WL.gu rfl rfl rfl <| WL.gu rfl rfl rfl <| WL.gu rfl rfl rfl <| WL.gu rfl rfl rfl <| WL.gu rfl rfl rfl <| WL.gn rfl rfl rfl rfl <| WL.p (.pkT rfl rfl rfl) rfl <| WL.nil <| ?_
     exact ⟨⟨lk_b rfl (by clear hbD hb7 hb8 hb9 hb10 hb11 hbm hb71 hb91 hbg; subst_vars; first | rfl | (cases st <;> first | rfl | contradiction)), by repeat (first | exact Le.refl _ | refine Le.cons rfl ?_)⟩, rfl⟩
    refine WL.gn rfl rfl rfl g58 <| WL.p (.pkT rfl g58 rfl) rfl <| WL.p (.mv rfl) rfl <| WL.gn rfl rfl rfl rfl <| WL.gn rfl rfl rfl rfl <| WL.p (.pkT rfl rfl rfl) rfl <| WL.p (.mv rfl) rfl <| WL.gn rfl rfl rfl rfl <| WL.gn rfl rfl rfl rfl <| WL.gn rfl rfl rfl rfl <| WL.gn rfl rfl rfl rfl <| WL.gn rfl rfl rfl rfl <| WL.gn rfl rfl rfl rfl <| WL.gn rfl rfl rfl rfl <| WL.p (.pkT rfl rfl rfl) rfl <| WL.p (.mv rfl) rfl <| WL.gn rfl rfl rfl rfl <| WL.gn rfl rfl rfl rfl <| WL.gn rfl rfl rfl rfl <| WL.gn rfl rfl rfl rfl <| WL.gu rfl rfl rfl <| WL.gu rfl rfl rfl <| WL.gn rfl rfl rfl rfl <| WL.p (.pkT rfl rfl rfl) rfl <| WL.p (.mv rfl) rfl <| WL.gn rfl rfl rfl rfl <| WL.gn rfl rfl rfl rfl <| WL.gn rfl rfl rfl rfl <| WL.gn rfl rfl rfl rfl <| WL.gu rfl rfl rfl <| WL.gu rfl rfl rfl <| WL.gu rfl rfl rfl <| WL.gu rfl rfl rfl <| WL.gu rfl rfl rfl <| WL.gu rfl rfl rfl <| WL.gu rfl rfl rfl <| WL.gu rfl rfl rfl <| WL.gn rfl rfl rfl rfl <| WL.p (.pkT rfl rfl rfl) rfl <| WL.nil <| ?_
    exact ⟨⟨lk_b rfl (by clear hbD hb7 hb8 hb9 hb10 hb11 hbm hb71 hb91 hbg; subst_vars; first | rfl | (cases st <;> first | rfl | contradiction)), by repeat (first | exact Le.refl _ | refine Le.cons rfl ?_)⟩, rfl⟩
   refine W.cond rfl (fun h68 => ?_) (fun h68 => ?_)
   ·
    skip
    refine W.seq <| W.reg <| WL.p (.as rfl) rfl <| WL.nil <| ?_
    refine W.ret (W.ret1 rfl rfl ?_)
    first
    | exact ⟨⟨false, fun h => by cases h⟩, rfl, hB7⟩
    | exact ⟨⟨true, fun _ => hpre.snd (by omega) (fun o ho => hall o (by rw [List.take_of_length_le (by omega)]; exact ho))⟩, rfl, hB7⟩
    | exact ⟨⟨_, fun hb => fin0 hcl (by assumption) (of_decide_eq_true (hb7.symm.trans (by assumption))) (of_decide_eq_true (hb8.symm.trans (by assumption))) (of_decide_eq_true (hb9.symm.trans (by assumption))) (of_decide_eq_true (hb10.symm.trans (by assumption))) (of_decide_eq_true (hb11.symm.trans hb))⟩, rfl, hB7⟩
    | exact ⟨⟨_, fun hb => fin1 hcl (by assumption) (by first | exact .inl (by assumption) | exact .inr (by assumption)) (of_decide_eq_true (hb8.symm.trans (by assumption))) (of_decide_eq_true (hb9.symm.trans (by assumption))) (of_decide_eq_true (hb10.symm.trans (by assumption))) (of_decide_eq_true (hb11.symm.trans hb))⟩, rfl, hB7⟩
    | exact ⟨⟨_, fun hb => fin2 hcl (by first | exact .inl (by assumption) | exact .inr (by assumption)) (by assumption) (of_decide_eq_true (hb8.symm.trans (by assumption))) (of_decide_eq_true (hb9.symm.trans (by assumption))) (of_decide_eq_true (hb10.symm.trans (by assumption))) (of_decide_eq_true (hb11.symm.trans hb))⟩, rfl, hB7⟩
    | exact ⟨⟨_, fun hb => fin4 hcl (by assumption) (of_decide_eq_true (hb7.symm.trans (by assumption))) (nmB_ok (by assumption)) (of_decide_eq_true (hb9.symm.trans (by assumption))) (of_decide_eq_true (hb10.symm.trans (by assumption))) (of_decide_eq_true (hb11.symm.trans hb))⟩, rfl, hB7⟩
    | exact ⟨⟨_, fun hb => fin5 hcl (by assumption) (of_decide_eq_true (hb7.symm.trans (by assumption))) (by assumption) (of_decide_eq_true (hb9.symm.trans (by assumption))) (of_decide_eq_true (hb10.symm.trans (by assumption))) (of_decide_eq_true (hb11.symm.trans hb))⟩, rfl, hB7⟩
    | exact ⟨⟨_, fun hb => fin8 hcl (by assumption) (by assumption) (by assumption) (of_decide_eq_true (hb8.symm.trans (by assumption))) (of_decide_eq_true (hb9.symm.trans (by assumption))) (of_decide_eq_true (hb10.symm.trans (by assumption))) (of_decide_eq_true (hb11.symm.trans hb))⟩, rfl, hB7⟩
   have hk79 : k = 7 ∨ k = 9 := by first | exact .inl (by assumption) | exact .inr (by assumption)
   obtain ⟨q1, q2, q3, q4, q5, q6⟩ : 1 ≤ D ∧ i = 0 ∧ s = [] ∧ (keys.length : Int) = (cs.length : Int) ∧ (k = 7 → data = []) ∧ (k = 9 → st = true ∧ data.length ≤ 1048576) := by
    have h0 : (bD || !b7 || !b8 || bm || (b71 && !b11) || (b91 && (!st || bg))) = false := by assumption
    rw [hbD, hb7, hb8, hbm, hb71, hb11, hb91, hbg] at h0
    simp only [Bool.or_eq_false_iff, Bool.and_eq_false_iff, Bool.not_eq_false', decide_eq_true_eq, decide_eq_false_iff_not] at h0
    obtain ⟨⟨⟨⟨⟨h1, h2⟩, h3⟩, h4⟩, h5⟩, h6⟩ := h0
    exact ⟨by omega, h2, h3, h4, fun hk => lenz (h5.resolve_left (fun h => h hk)), fun hk => by have := h6.resolve_left (fun h => h hk); exact ⟨this.1, by omega⟩⟩
   have keysAll : ∀ j, keys.length ≤ j → KeysB k keys j → (∀ x ∈ keys, nmOk x) ∧ keys.Nodup := fun j hj hb => by rw [← List.take_of_length_le hj]; exact ⟨hb.1, hb.2.1⟩
   have hkk : ∀ j, keys.length ≤ j → KeysB k keys j → (k = 7 ∧ data = []) ∨ (k = 9 ∧ st = true ∧ data.length ≤ 1048576 ∧ [76, 101, 110, 103, 116, 104] ∉ keys) := fun j hj hb => by
    rcases hk79 with h7 | h9
    ·
     exact .inl ⟨h7, q5 h7⟩
    ·
     exact .inr ⟨h9, (q6 h9).1, (q6 h9).2, by rw [← List.take_of_length_le hj]; exact hb.2.2 h9⟩
   refine W.skip <| W.seq <| W.reg <| WL.p (.as rfl) rfl <| WL.nil <| ?_
   refine W.block ?_
   refine W.loop (α := Nat) (fun t => [(1, .int .i64 D), (2, .bool st), (3, .pointer (some ⟨b1, 0, none⟩)), (12, .int .i64 (t : Int))]) (fun t w' => Below w.heap.size w w' ∧ Blk w' b1 #[.int .i64 k, .int .i64 i, .string (bs s), .slice kp keys.length kc, .slice lp cs.length lc, .slice dp data.length dc] 31 ∧ RowAt strV w' kp keys ∧ RowM acL w' lp cs ∧ AInv w' S cs list ∧ KeysB k keys t ∧ t ≤ keys.length) (fun t => keys.length - t) (0) ⟨rfl, rfl, rfl, rfl, trivial⟩ (⟨hB7, hkb1, hv3, hv5, hF2, ⟨by simp, by simp, by simp⟩, Nat.zero_le _⟩) (fun t w1 hR => ?_)
   obtain ⟨i1, rfl⟩ : ∃ i, i = t := ⟨t, rfl⟩
   obtain ⟨hT1, hk1, hkx1, hlx1, hf1, hkb, ht⟩ := hR
   refine W.seq <| W.seq <| W.reg <| WL.p (.mv rfl) rfl <| WL.p (.fa underlying31 rfl sizeOf28 (by decide) rfl) rfl <| WL.r (Rd.ld (isAgg28 _) rfl hk1 rfl) rfl <| WL.p (.lenS underlying28 rfl) rfl <| WL.p (.lss rfl rfl) rfl <| WL.nil <| ?_
   refine W.cond rfl (fun h69 => ?_) (fun h69 => ?_)
   ·
    have h69' := of_decide_eq_true h69
    refine W.skip <| W.seq <| W.block <| W.seq ?_
    obtain ⟨bL, hbL⟩ : ∃ b, b = decide (keys[i1]'(by omega) = [76, 101, 110, 103, 116, 104]) := ⟨_, rfl⟩
    refine W.cutB 239 ((!nmB (keys[i1]'(by omega)) || (b91 && bL))) ?_ ?_
    ·
     skip
     refine W.reg <| WL.p (.fa underlying31 rfl sizeOf28 (by decide) rfl) rfl <| WL.r (Rd.ld (isAgg28 _) rfl hk1 rfl) rfl <| WL.p (.mv rfl) rfl <| WL.p (.ixb underlying28 sizeOf9 rfl rfl (hkx1.isp (by omega)) (i1) (rfl) (by omega)) rfl <| WL.r (Rd.ldc (isAgg9 _) rfl (hkx1.cells (i1) (by omega))) rfl <| WL.c1 hb63 rfl rfl ((r18_nameB _ _ (hklen _ _))) (fun w70 hw70 => ?_)
     obtain rfl := hw70
     refine WL.p (.not rfl) rfl <| WL.p (.mv rfl) rfl <| WL.gd rfl rfl rfl (fun g71 => ?_) (fun g71 => ?_)
     ·
      have g71' := (nF g71)
      refine WL.p (.fa underlying31 rfl sizeOf3 (by decide) rfl) rfl <| WL.gy rfl rfl rfl (by rw [(nF g71)] <;> rfl) <| WL.r (Rd.ld (isAgg3 _) rfl hk1 rfl) rfl <| WL.gy rfl rfl rfl (by rw [(nF g71)] <;> rfl) <| WL.p (.bis (b91) (.eql rfl rfl) (by exact hb91.symm)) rfl <| WL.gy rfl rfl rfl (by rw [(nF g71)] <;> rfl) <| WL.p (.mv rfl) rfl <| WL.gd rfl rfl rfl (fun g72 => ?_) (fun g72 => ?_)
      ·
       skip
       refine WL.p (.fa underlying31 rfl sizeOf28 (by decide) rfl) rfl <| WL.gy rfl rfl rfl g72 <| WL.r (Rd.ld (isAgg28 _) rfl hk1 rfl) rfl <| WL.gy rfl rfl rfl g72 <| WL.p (.mv rfl) rfl <| WL.gy rfl rfl rfl g72 <| WL.p (.ixb underlying28 sizeOf9 rfl rfl (hkx1.isp (by omega)) (i1) (rfl) (by omega)) rfl <| WL.gy rfl rfl rfl g72 <| WL.r (Rd.ldc (isAgg9 _) rfl (hkx1.cells (i1) (by omega))) rfl <| WL.gy rfl rfl rfl g72 <| WL.p (.bis (bL) (.eqs rfl rfl) (by exact hbL.symm)) rfl <| WL.gy rfl rfl rfl (by rw [(nF g71)] <;> rfl) <| WL.p (.pkT rfl g72 rfl) rfl <| WL.p (.pkF rfl (by rw [(nF g71)] <;> rfl) rfl) rfl <| WL.nil <| ?_
       exact ⟨⟨lk_b rfl (by first | (rw [show nmB (keys[i1]'(by omega)) = false by assumption]; rfl) | (rw [show nmB (keys[i1]'(by omega)) = true by assumption]; clear hb91 hbL; subst_vars; rfl)), by repeat (first | exact Le.refl _ | refine Le.cons rfl ?_)⟩, rfl⟩
      refine WL.gn rfl rfl rfl g72 <| WL.gn rfl rfl rfl g72 <| WL.gn rfl rfl rfl g72 <| WL.gn rfl rfl rfl g72 <| WL.gn rfl rfl rfl g72 <| WL.gy rfl rfl rfl (by rw [(nF g71)] <;> rfl) <| WL.p (.pkF rfl g72 rfl) rfl <| WL.p (.pkF rfl (by rw [(nF g71)] <;> rfl) rfl) rfl <| WL.nil <| ?_
      exact ⟨⟨lk_b rfl (by first | (rw [show nmB (keys[i1]'(by omega)) = false by assumption]; rfl) | (rw [show nmB (keys[i1]'(by omega)) = true by assumption]; clear hb91 hbL; subst_vars; rfl)), by repeat (first | exact Le.refl _ | refine Le.cons rfl ?_)⟩, rfl⟩
     have g71' := (nT g71)
     refine WL.gn rfl rfl rfl (by rw [(nT g71)] <;> rfl) <| WL.gn rfl rfl rfl (by rw [(nT g71)] <;> rfl) <| WL.gn rfl rfl rfl (by rw [(nT g71)] <;> rfl) <| WL.gu rfl rfl rfl <| WL.gu rfl rfl rfl <| WL.gu rfl rfl rfl <| WL.gu rfl rfl rfl <| WL.gu rfl rfl rfl <| WL.gu rfl rfl rfl <| WL.gn rfl rfl rfl (by rw [(nT g71)] <;> rfl) <| WL.p (.pkT rfl (by rw [(nT g71)] <;> rfl) rfl) rfl <| WL.nil <| ?_
     exact ⟨⟨lk_b rfl (by first | (rw [show nmB (keys[i1]'(by omega)) = false by assumption]; rfl) | (rw [show nmB (keys[i1]'(by omega)) = true by assumption]; clear hb91 hbL; subst_vars; rfl)), by repeat (first | exact Le.refl _ | refine Le.cons rfl ?_)⟩, rfl⟩
    refine W.cond rfl (fun h73 => ?_) (fun h73 => ?_)
    ·
     skip
     refine W.seq <| W.reg <| WL.p (.as rfl) rfl <| WL.nil <| ?_
     refine W.ret (W.ret1 rfl rfl ?_)
     first
     | exact ⟨⟨false, fun h => by cases h⟩, rfl, hT1⟩
     | exact ⟨⟨true, fun _ => hpre.snd (by omega) (fun o ho => hall o (by rw [List.take_of_length_le (by omega)]; exact ho))⟩, rfl, hT1⟩
     | exact ⟨⟨_, fun hb => fin0 hcl (by assumption) (of_decide_eq_true (hb7.symm.trans (by assumption))) (of_decide_eq_true (hb8.symm.trans (by assumption))) (of_decide_eq_true (hb9.symm.trans (by assumption))) (of_decide_eq_true (hb10.symm.trans (by assumption))) (of_decide_eq_true (hb11.symm.trans hb))⟩, rfl, hT1⟩
     | exact ⟨⟨_, fun hb => fin1 hcl (by assumption) (by first | exact .inl (by assumption) | exact .inr (by assumption)) (of_decide_eq_true (hb8.symm.trans (by assumption))) (of_decide_eq_true (hb9.symm.trans (by assumption))) (of_decide_eq_true (hb10.symm.trans (by assumption))) (of_decide_eq_true (hb11.symm.trans hb))⟩, rfl, hT1⟩
     | exact ⟨⟨_, fun hb => fin2 hcl (by first | exact .inl (by assumption) | exact .inr (by assumption)) (by assumption) (of_decide_eq_true (hb8.symm.trans (by assumption))) (of_decide_eq_true (hb9.symm.trans (by assumption))) (of_decide_eq_true (hb10.symm.trans (by assumption))) (of_decide_eq_true (hb11.symm.trans hb))⟩, rfl, hT1⟩
     | exact ⟨⟨_, fun hb => fin4 hcl (by assumption) (of_decide_eq_true (hb7.symm.trans (by assumption))) (nmB_ok (by assumption)) (of_decide_eq_true (hb9.symm.trans (by assumption))) (of_decide_eq_true (hb10.symm.trans (by assumption))) (of_decide_eq_true (hb11.symm.trans hb))⟩, rfl, hT1⟩
     | exact ⟨⟨_, fun hb => fin5 hcl (by assumption) (of_decide_eq_true (hb7.symm.trans (by assumption))) (by assumption) (of_decide_eq_true (hb9.symm.trans (by assumption))) (of_decide_eq_true (hb10.symm.trans (by assumption))) (of_decide_eq_true (hb11.symm.trans hb))⟩, rfl, hT1⟩
     | exact ⟨⟨_, fun hb => fin8 hcl (by assumption) (by assumption) (by assumption) (of_decide_eq_true (hb8.symm.trans (by assumption))) (of_decide_eq_true (hb9.symm.trans (by assumption))) (of_decide_eq_true (hb10.symm.trans (by assumption))) (of_decide_eq_true (hb11.symm.trans hb))⟩, rfl, hT1⟩
    have hq : (!nmB (keys[i1]'(by omega)) || (b91 && bL)) = false := by assumption
    have hqn : nmB (keys[i1]'(by omega)) = true := by cases hx : nmB (keys[i1]'(by omega)) <;> rw [hx] at hq <;> first | rfl | cases hq
    have hqL : k = 9 → keys[i1]'(by omega) ≠ [76, 101, 110, 103, 116, 104] := fun hk e => by
     rw [hqn, hb91, hbL, decide_eq_true hk, decide_eq_true e] at hq; cases hq
    refine W.skip <| W.seq <| W.reg <| WL.p (.as rfl) rfl <| WL.nil <| ?_
    refine W.block ?_
    refine W.loop (α := Nat) (fun t => [(1, .int .i64 D), (2, .bool st), (3, .pointer (some ⟨b1, 0, none⟩)), (12, .int .i64 (i1 : Int)), (13, .int .i64 (t : Int))]) (fun t w' => Below w.heap.size w w' ∧ Blk w' b1 #[.int .i64 k, .int .i64 i, .string (bs s), .slice kp keys.length kc, .slice lp cs.length lc, .slice dp data.length dc] 31 ∧ RowAt strV w' kp keys ∧ RowM acL w' lp cs ∧ AInv w' S cs list ∧ keys[i1]'(by omega) ∉ keys.take t ∧ t ≤ i1) (fun t => i1 - t) (0) ⟨rfl, rfl, rfl, rfl, rfl, trivial⟩ (⟨hT1, hk1, hkx1, hlx1, hf1, by simp, Nat.zero_le _⟩) (fun t w1 hR => ?_)
    obtain ⟨j1, rfl⟩ : ∃ i, i = t := ⟨t, rfl⟩
    obtain ⟨hT2, hk2, hkx2, hlx2, hf2, hno, ht2⟩ := hR
    refine W.seq <| W.seq <| W.reg <| WL.p (.mv rfl) rfl <| WL.p (.mv rfl) rfl <| WL.p (.lss rfl rfl) rfl <| WL.nil <| ?_
    refine W.cond rfl (fun h74 => ?_) (fun h74 => ?_)
    ·
     have h74' := of_decide_eq_true h74
     refine W.skip <| W.seq <| W.block <| W.seq <| W.regQ mixed (by kernel_rfl) ?_
     refine WQ.p (.fa underlying31 rfl sizeOf28 (by decide) rfl) rfl <| WQ.r (fun m => Rd.ld (isAgg28 _) rfl hk2 rfl) rfl <| WQ.p (.mv rfl) rfl <| WQ.p (.ixb underlying28 sizeOf9 rfl rfl (hkx2.isp (by omega)) (j1) (rfl) (by omega)) rfl <| WQ.r (fun m => Rd.ldc (isAgg9 _) rfl ((hkx2.drewN m).cells (j1) (by omega))) rfl <| WQ.p (.fa underlying31 rfl sizeOf28 (by decide) rfl) rfl <| WQ.r (fun m => Rd.ld (isAgg28 _) rfl hk2 rfl) rfl <| WQ.p (.mv rfl) rfl <| WQ.p (.ixb underlying28 sizeOf9 rfl rfl (hkx2.isp (by omega)) (i1) (rfl) (by omega)) rfl <| WQ.r (fun m => Rd.ldc (isAgg9 _) rfl ((hkx2.drewN m).cells (i1) (by omega))) rfl <| WQ.p (.eqs rfl rfl) rfl <| WQ.nil (fun w75 dw75 => ?_)
     have hF76 := AInv.same (w1 := w75) hf2 (fun k hk hl => (by obtain ⟨m, rfl⟩ := dw75; rfl))
     have hk77 := hk2.drew dw75
     have hv78 := hkx2.drew dw75
     have hv79 := hlx2.drew dw75
     have hB80 := Drew.below hT2 dw75
     refine W.cond rfl (fun h81 => ?_) (fun h81 => ?_)
     ·
      have h81' := of_decide_eq_true h81
      refine W.seq <| W.reg <| WL.p (.as rfl) rfl <| WL.nil <| ?_
      refine W.ret (W.ret1 rfl rfl ?_)
      first
      | exact ⟨⟨false, fun h => by cases h⟩, rfl, hB80⟩
      | exact ⟨⟨true, fun _ => hpre.snd (by omega) (fun o ho => hall o (by rw [List.take_of_length_le (by omega)]; exact ho))⟩, rfl, hB80⟩
      | exact ⟨⟨_, fun hb => fin0 hcl (by assumption) (of_decide_eq_true (hb7.symm.trans (by assumption))) (of_decide_eq_true (hb8.symm.trans (by assumption))) (of_decide_eq_true (hb9.symm.trans (by assumption))) (of_decide_eq_true (hb10.symm.trans (by assumption))) (of_decide_eq_true (hb11.symm.trans hb))⟩, rfl, hB80⟩
      | exact ⟨⟨_, fun hb => fin1 hcl (by assumption) (by first | exact .inl (by assumption) | exact .inr (by assumption)) (of_decide_eq_true (hb8.symm.trans (by assumption))) (of_decide_eq_true (hb9.symm.trans (by assumption))) (of_decide_eq_true (hb10.symm.trans (by assumption))) (of_decide_eq_true (hb11.symm.trans hb))⟩, rfl, hB80⟩
      | exact ⟨⟨_, fun hb => fin2 hcl (by first | exact .inl (by assumption) | exact .inr (by assumption)) (by assumption) (of_decide_eq_true (hb8.symm.trans (by assumption))) (of_decide_eq_true (hb9.symm.trans (by assumption))) (of_decide_eq_true (hb10.symm.trans (by assumption))) (of_decide_eq_true (hb11.symm.trans hb))⟩, rfl, hB80⟩
      | exact ⟨⟨_, fun hb => fin4 hcl (by assumption) (of_decide_eq_true (hb7.symm.trans (by assumption))) (nmB_ok (by assumption)) (of_decide_eq_true (hb9.symm.trans (by assumption))) (of_decide_eq_true (hb10.symm.trans (by assumption))) (of_decide_eq_true (hb11.symm.trans hb))⟩, rfl, hB80⟩
      | exact ⟨⟨_, fun hb => fin5 hcl (by assumption) (of_decide_eq_true (hb7.symm.trans (by assumption))) (by assumption) (of_decide_eq_true (hb9.symm.trans (by assumption))) (of_decide_eq_true (hb10.symm.trans (by assumption))) (of_decide_eq_true (hb11.symm.trans hb))⟩, rfl, hB80⟩
      | exact ⟨⟨_, fun hb => fin8 hcl (by assumption) (by assumption) (by assumption) (of_decide_eq_true (hb8.symm.trans (by assumption))) (of_decide_eq_true (hb9.symm.trans (by assumption))) (of_decide_eq_true (hb10.symm.trans (by assumption))) (of_decide_eq_true (hb11.symm.trans hb))⟩, rfl, hB80⟩
     have h81' := of_decide_eq_false h81
     refine W.skip <| W.reg <| WL.p (.mv rfl) rfl <| WL.p (.iis (((j1 + 1 : Nat) : Int)) (.add rfl rfl (i64w (by omega))) (by omega)) rfl <| WL.p (.as rfl) rfl <| WL.nil <| ?_
     exact ⟨j1 + 1, ⟨rfl, rfl, rfl, rfl, rfl, trivial⟩, ⟨hB80, hk77, hv78, hv79, hF76, str_mem (by omega) hno (by assumption), by ((try simp only) <;> omega)⟩, by ((try simp only) <;> omega)⟩
    have h74' := of_decide_eq_false h74
    refine W.exit <| W.reg <| WL.p (.mv rfl) rfl <| WL.p (.iis (((i1 + 1 : Nat) : Int)) (.add rfl rfl (i64w (by omega))) (by omega)) rfl <| WL.p (.as rfl) rfl <| WL.nil <| ?_
    exact ⟨i1 + 1, ⟨rfl, rfl, rfl, rfl, trivial⟩, ⟨hT2, hk2, hkx2, hlx2, hf2, hkb.step (by omega) (nmB_ok hqn) (by (have e : j1 = i1 := by omega); (rw [e] at hno); exact hno) hqL, by ((try simp only) <;> omega)⟩, by ((try simp only) <;> omega)⟩
   have h69' := of_decide_eq_false h69
   refine W.exit ?_
   first
   | exact ⟨(), ⟨rfl, rfl, trivial⟩, hT1, hk1, hlx1, hf1, .inl ⟨by assumption, q1, q2, q3, q4, q5⟩⟩
   | exact ⟨(), ⟨rfl, rfl, trivial⟩, hT1, hk1, hlx1, hf1, .inr ⟨hkk i1 (by omega) hkb, q1, q2, q3, by omega, (keysAll i1 (by omega) hkb).1, (keysAll i1 (by omega) hkb).2⟩⟩
  have h57' := of_decide_eq_false h57
  refine W.reg <| WL.p (.eql rfl rfl) rfl <| WL.p (.as rfl) rfl <| WL.nil <| ?_
  refine W.cond rfl (fun h82 => ?_) (fun h82 => ?_)
  ·
   have h82' := of_decide_eq_true h82
   refine W.seq ?_
   refine W.cutB 212 ((bD || !b7 || !b8 || bm || (b71 && !b11) || (b91 && (!st || bg)))) ?_ ?_
   ·
    skip
    refine W.reg <| WL.p (.mv rfl) rfl <| WL.p (.bis (bD) (.lss rfl rfl) (by exact hbD.symm)) rfl <| WL.p (.mv rfl) rfl <| WL.gd rfl rfl rfl (fun g83 => ?_) (fun g83 => ?_)
    ·
     skip
     refine WL.p (.mv rfl) rfl <| WL.gy rfl rfl rfl g83 <| WL.p (.not rfl) rfl <| WL.p (.pkF rfl g83 rfl) rfl <| WL.p (.mv rfl) rfl <| WL.gd rfl rfl rfl (fun g84 => ?_) (fun g84 => ?_)
     ·
      have g84' := (nF g84)
      refine WL.p (.mv rfl) rfl <| WL.gy rfl rfl rfl (by rw [(nF g84)] <;> rfl) <| WL.p (.not rfl) rfl <| WL.p (.pkF rfl (by rw [(nF g84)] <;> rfl) rfl) rfl <| WL.p (.mv rfl) rfl <| WL.gd rfl rfl rfl (fun g85 => ?_) (fun g85 => ?_)
      ·
       have g85' := (nF g85)
       refine WL.p (.fa underlying31 rfl sizeOf28 (by decide) rfl) rfl <| WL.gy rfl rfl rfl (by rw [(nF g85)] <;> rfl) <| WL.r (Rd.ld (isAgg28 _) rfl hkb1 rfl) rfl <| WL.gy rfl rfl rfl (by rw [(nF g85)] <;> rfl) <| WL.p (.lenS underlying28 rfl) rfl <| WL.gy rfl rfl rfl (by rw [(nF g85)] <;> rfl) <| WL.p (.fa underlying31 rfl sizeOf29 (by decide) rfl) rfl <| WL.gy rfl rfl rfl (by rw [(nF g85)] <;> rfl) <| WL.r (Rd.ld (isAgg29 _) rfl hkb1 rfl) rfl <| WL.gy rfl rfl rfl (by rw [(nF g85)] <;> rfl) <| WL.p (.lenS underlying29 rfl) rfl <| WL.gy rfl rfl rfl (by rw [(nF g85)] <;> rfl) <| WL.p (.bis (bm) (.neq rfl rfl) (by exact hbm.symm)) rfl <| WL.p (.pkF rfl (by rw [(nF g85)] <;> rfl) rfl) rfl <| WL.p (.mv rfl) rfl <| WL.gd rfl rfl rfl (fun g86 => ?_) (fun g86 => ?_)
       ·
        skip
        refine WL.p (.fa underlying31 rfl sizeOf3 (by decide) rfl) rfl <| WL.gy rfl rfl rfl g86 <| WL.r (Rd.ld (isAgg3 _) rfl hkb1 rfl) rfl <| WL.gy rfl rfl rfl g86 <| WL.p (.bis (b71) (.eql rfl rfl) (by exact hb71.symm)) rfl <| WL.gy rfl rfl rfl g86 <| WL.p (.mv rfl) rfl <| WL.gd rfl rfl rfl (fun g87 => ?_) (fun g87 => ?_)
        ·
         skip
         refine WL.p (.mv rfl) rfl <| WL.gy rfl rfl rfl g87 <| WL.p (.not rfl) rfl <| WL.gy rfl rfl rfl g86 <| WL.p (.pkT rfl g87 rfl) rfl <| WL.p (.pkF rfl g86 rfl) rfl <| WL.p (.mv rfl) rfl <| WL.gd rfl rfl rfl (fun g88 => ?_) (fun g88 => ?_)
         ·
          have g88' := (nF g88)
          refine WL.p (.fa underlying31 rfl sizeOf3 (by decide) rfl) rfl <| WL.gy rfl rfl rfl (by rw [(nF g88)] <;> rfl) <| WL.r (Rd.ld (isAgg3 _) rfl hkb1 rfl) rfl <| WL.gy rfl rfl rfl (by rw [(nF g88)] <;> rfl) <| WL.p (.bis (b91) (.eql rfl rfl) (by exact hb91.symm)) rfl <| WL.gy rfl rfl rfl (by rw [(nF g88)] <;> rfl) <| WL.p (.mv rfl) rfl <| WL.gd rfl rfl rfl (fun g89 => ?_) (fun g89 => ?_)
          ·
           skip
           refine WL.p (.mv rfl) rfl <| WL.gy rfl rfl rfl g89 <| WL.p (.not rfl) rfl <| WL.gy rfl rfl rfl g89 <| WL.p (.mv rfl) rfl <| WL.gd rfl rfl rfl (fun g90 => ?_) (fun g90 => ?_)
           ·
            skip
            refine WL.p (.fa underlying31 rfl sizeOf22 (by decide) rfl) rfl <| WL.gy rfl rfl rfl (by rw [(nF g90)] <;> rfl) <| WL.r (Rd.ld (isAgg22 _) rfl hkb1 rfl) rfl <| WL.gy rfl rfl rfl (by rw [(nF g90)] <;> rfl) <| WL.p (.lenS underlying22 rfl) rfl <| WL.gy rfl rfl rfl (by rw [(nF g90)] <;> rfl) <| WL.p (.bis (bg) (.gtr rfl rfl) (by exact hbg.symm)) rfl <| WL.gy rfl rfl rfl g89 <| WL.p (.pkF rfl (by rw [(nF g90)] <;> rfl) rfl) rfl <| WL.gy rfl rfl rfl (by rw [(nF g88)] <;> rfl) <| WL.p (.pkT rfl g89 rfl) rfl <| WL.p (.pkF rfl (by rw [(nF g88)] <;> rfl) rfl) rfl <| WL.nil <| ?_
            exact ⟨⟨lk_b rfl (by clear hbD hb7 hb8 hb9 hb10 hb11 hbm hb71 hb91 hbg; subst_vars; first | rfl | (cases st <;> first | rfl | contradiction)), by repeat (first | exact Le.refl _ | refine Le.cons rfl ?_)⟩, rfl⟩
           refine WL.gn rfl rfl rfl (by rw [(nT g90)] <;> rfl) <| WL.gn rfl rfl rfl (by rw [(nT g90)] <;> rfl) <| WL.gn rfl rfl rfl (by rw [(nT g90)] <;> rfl) <| WL.gy rfl rfl rfl g89 <| WL.p (.pkT rfl (by rw [(nT g90)] <;> rfl) rfl) rfl <| WL.gy rfl rfl rfl (by rw [(nF g88)] <;> rfl) <| WL.p (.pkT rfl g89 rfl) rfl <| WL.p (.pkF rfl (by rw [(nF g88)] <;> rfl) rfl) rfl <| WL.nil <| ?_
           exact ⟨⟨lk_b rfl (by clear hbD hb7 hb8 hb9 hb10 hb11 hbm hb71 hb91 hbg; subst_vars; first | rfl | (cases st <;> first | rfl | contradiction)), by repeat (first | exact Le.refl _ | refine Le.cons rfl ?_)⟩, rfl⟩
          refine WL.gn rfl rfl rfl g89 <| WL.gn rfl rfl rfl g89 <| WL.gu rfl rfl rfl <| WL.gu rfl rfl rfl <| WL.gu rfl rfl rfl <| WL.gu rfl rfl rfl <| WL.gn rfl rfl rfl g89 <| WL.gy rfl rfl rfl (by rw [(nF g88)] <;> rfl) <| WL.p (.pkF rfl g89 rfl) rfl <| WL.p (.pkF rfl (by rw [(nF g88)] <;> rfl) rfl) rfl <| WL.nil <| ?_
          exact ⟨⟨lk_b rfl (by clear hbD hb7 hb8 hb9 hb10 hb11 hbm hb71 hb91 hbg; subst_vars; first | rfl | (cases st <;> first | rfl | contradiction)), by repeat (first | exact Le.refl _ | refine Le.cons rfl ?_)⟩, rfl⟩
         have g88' := (nT g88)
         refine WL.gn rfl rfl rfl (by rw [(nT g88)] <;> rfl) <| WL.gn rfl rfl rfl (by rw [(nT g88)] <;> rfl) <| WL.gn rfl rfl rfl (by rw [(nT g88)] <;> rfl) <| WL.gu rfl rfl rfl <| WL.gu rfl rfl rfl <| WL.gu rfl rfl rfl <| WL.gu rfl rfl rfl <| WL.gu rfl rfl rfl <| WL.gu rfl rfl rfl <| WL.gu rfl rfl rfl <| WL.gu rfl rfl rfl <| WL.gn rfl rfl rfl (by rw [(nT g88)] <;> rfl) <| WL.p (.pkT rfl (by rw [(nT g88)] <;> rfl) rfl) rfl <| WL.nil <| ?_
         exact ⟨⟨lk_b rfl (by clear hbD hb7 hb8 hb9 hb10 hb11 hbm hb71 hb91 hbg; subst_vars; first | rfl | (cases st <;> first | rfl | contradiction)), by repeat (first | exact Le.refl _ | refine Le.cons rfl ?_)⟩, rfl⟩
        refine WL.gn rfl rfl rfl g87 <| WL.gy rfl rfl rfl g86 <| WL.p (.pkF rfl g87 rfl) rfl <| WL.p (.pkF rfl g86 rfl) rfl <| WL.p (.mv rfl) rfl <| WL.gy rfl rfl rfl rfl <| WL.p (.fa underlying31 rfl sizeOf3 (by decide) rfl) rfl <| WL.gy rfl rfl rfl rfl <| WL.r (Rd.ld (isAgg3 _) rfl hkb1 rfl) rfl <| WL.gy rfl rfl rfl rfl <| WL.p (.bis (b91) (.eql rfl rfl) (by exact hb91.symm)) rfl <| WL.gy rfl rfl rfl rfl <| WL.p (.mv rfl) rfl <| WL.gd rfl rfl rfl (fun g91 => ?_) (fun g91 => ?_)
        ·
         skip
         refine WL.p (.mv rfl) rfl <| WL.gy rfl rfl rfl g91 <| WL.p (.not rfl) rfl <| WL.gy rfl rfl rfl g91 <| WL.p (.mv rfl) rfl <| WL.gd rfl rfl rfl (fun g92 => ?_) (fun g92 => ?_)
         ·
          skip
          refine WL.p (.fa underlying31 rfl sizeOf22 (by decide) rfl) rfl <| WL.gy rfl rfl rfl (by rw [(nF g92)] <;> rfl) <| WL.r (Rd.ld (isAgg22 _) rfl hkb1 rfl) rfl <| WL.gy rfl rfl rfl (by rw [(nF g92)] <;> rfl) <| WL.p (.lenS underlying22 rfl) rfl <| WL.gy rfl rfl rfl (by rw [(nF g92)] <;> rfl) <| WL.p (.bis (bg) (.gtr rfl rfl) (by exact hbg.symm)) rfl <| WL.gy rfl rfl rfl g91 <| WL.p (.pkF rfl (by rw [(nF g92)] <;> rfl) rfl) rfl <| WL.gy rfl rfl rfl rfl <| WL.p (.pkT rfl g91 rfl) rfl <| WL.p (.pkF rfl rfl rfl) rfl <| WL.nil <| ?_
          exact ⟨⟨lk_b rfl (by clear hbD hb7 hb8 hb9 hb10 hb11 hbm hb71 hb91 hbg; subst_vars; first | rfl | (cases st <;> first | rfl | contradiction)), by repeat (first | exact Le.refl _ | refine Le.cons rfl ?_)⟩, rfl⟩
         refine WL.gn rfl rfl rfl (by rw [(nT g92)] <;> rfl) <| WL.gn rfl rfl rfl (by rw [(nT g92)] <;> rfl) <| WL.gn rfl rfl rfl (by rw [(nT g92)] <;> rfl) <| WL.gy rfl rfl rfl g91 <| WL.p (.pkT rfl (by rw [(nT g92)] <;> rfl) rfl) rfl <| WL.gy rfl rfl rfl rfl <| WL.p (.pkT rfl g91 rfl) rfl <| WL.p (.pkF rfl rfl rfl) rfl <| WL.nil <| ?_
         exact ⟨⟨lk_b rfl (by clear hbD hb7 hb8 hb9 hb10 hb11 hbm hb71 hb91 hbg; subst_vars; first | rfl | (cases st <;> first | rfl | contradiction)), by repeat (first | exact Le.refl _ | refine Le.cons rfl ?_)⟩, rfl⟩
        refine WL.gn rfl rfl rfl g91 <| WL.gn rfl rfl rfl g91 <| WL.gu rfl rfl rfl <| WL.gu rfl rfl rfl <| WL.gu rfl rfl rfl <| WL.gu rfl rfl rfl <| WL.gn rfl rfl rfl g91 <| WL.gy rfl rfl rfl rfl <| WL.p (.pkF rfl g91 rfl) rfl <| WL.p (.pkF rfl rfl rfl) rfl <| WL.nil <| ?_
        exact ⟨⟨lk_b rfl (by clear hbD hb7 hb8 hb9 hb10 hb11 hbm hb71 hb91 hbg; subst_vars; first | rfl | (cases st <;> first | rfl | contradiction)), by repeat (first | exact Le.refl _ | refine Le.cons rfl ?_)⟩, rfl⟩
       refine WL.gn rfl rfl rfl g86 <| WL.gn rfl rfl rfl g86 <| WL.gn rfl rfl rfl g86 <| WL.gu rfl rfl rfl <| WL.gu rfl rfl rfl <| WL.gn rfl rfl rfl g86 <| WL.p (.pkT rfl g86 rfl) rfl <| WL.p (.mv rfl) rfl <| WL.gn rfl rfl rfl rfl <| WL.gn rfl rfl rfl rfl <| WL.gn rfl rfl rfl rfl <| WL.gn rfl rfl rfl rfl <| WL.gu rfl rfl rfl <| WL.gu rfl rfl rfl <| WL.gu rfl rfl rfl <| WL.gu rfl rfl rfl <| WL.gu rfl rfl rfl <| WL.gu rfl rfl rfl <| WL.gu rfl rfl rfl <| WL.gu rfl rfl rfl <| WL.gn rfl rfl rfl rfl <| WL.p (.pkT rfl rfl rfl) rfl <| WL.nil <| ?_
       exact ⟨⟨lk_b rfl (by clear hbD hb7 hb8 hb9 hb10 hb11 hbm hb71 hb91 hbg; subst_vars; first | rfl | (cases st <;> first | rfl | contradiction)), by repeat (first | exact Le.refl _ | refine Le.cons rfl ?_)⟩, rfl⟩
      have g85' := (nT g85)
      refine WL.gn rfl rfl rfl (by rw [(nT g85)] <;> rfl) <| WL.gn rfl rfl rfl (by rw [(nT g85)] <;> rfl) <| WL.gn rfl rfl rfl (by rw [(nT g85)] <;> rfl) <| WL.gn rfl rfl rfl (by rw [(nT g85)] <;> rfl) <| WL.gn rfl rfl rfl (by rw [(nT g85)] <;> rfl) <| WL.gn rfl rfl rfl (by rw [(nT g85)] <;> rfl) <| WL.p (.pkT rfl (by rw [(nT g85)] <;> rfl) rfl) rfl <| WL.p (.mv rfl) rfl <| WL.gn rfl rfl rfl rfl <| WL.gn rfl rfl rfl rfl <| WL.gn rfl rfl rfl rfl <| WL.gn rfl rfl rfl rfl <| WL.gu rfl rfl rfl <| WL.gu rfl rfl rfl <| WL.gn rfl rfl rfl rfl <| WL.p (.pkT rfl rfl rfl) rfl <| WL.p (.mv rfl) rfl <| WL.gn rfl rfl rfl rfl <| WL.gn rfl rfl rfl rfl <| WL.gn rfl rfl rfl rfl <| WL.gn rfl rfl rfl rfl <| WL.gu rfl rfl rfl <| WL.gu rfl rfl rfl <| WL.gu rfl rfl rfl <| WL.gu rfl rfl rfl <| WL.gu rfl rfl rfl <| WL.gu rfl rfl rfl <| WL.gu rfl rfl rfl <| WL.gu rfl rfl rfl <| WL.gn rfl rfl rfl rfl <| WL.p (.pkT rfl rfl rfl) rfl <| WL.nil <| ?_
      exact ⟨⟨lk_b rfl (by clear hbD hb7 hb8 hb9 hb10 hb11 hbm hb71 hb91 hbg; subst_vars; first | rfl | (cases st <;> first | rfl | contradiction)), by repeat (first | exact Le.refl _ | refine Le.cons rfl ?_)⟩, rfl⟩
     have g84' := (nT g84)
     refine WL.gn rfl rfl rfl (by rw [(nT g84)] <;> rfl) <| WL.p (.pkT rfl (by rw [(nT g84)] <;> rfl) rfl) rfl <| WL.p (.mv rfl) rfl <| WL.gn rfl rfl rfl rfl <| WL.gn rfl rfl rfl rfl <| WL.gn rfl rfl rfl rfl <| WL.gn rfl rfl rfl rfl <| WL.gn rfl rfl rfl rfl <| WL.gn rfl rfl rfl rfl <| WL.gn rfl rfl rfl rfl <| WL.p (.pkT rfl rfl rfl) rfl <| WL.p (.mv rfl) rfl <| WL.gn rfl rfl rfl rfl <| WL.gn rfl rfl rfl rfl <| WL.gn rfl rfl rfl rfl <| WL.gn rfl rfl rfl rfl <| WL.gu rfl rfl rfl <| WL.gu rfl rfl rfl <| WL.gn rfl rfl rfl rfl <| WL.p (.pkT rfl rfl rfl) rfl <| WL.p (.mv rfl) rfl <| WL.gn rfl rfl rfl rfl <| WL.gn rfl rfl rfl rfl <| WL.gn rfl rfl rfl rfl <| WL.gn rfl rfl rfl rfl <| WL.gu rfl rfl rfl <| WL.gu rfl rfl rfl <| WL.gu rfl rfl rfl <| WL.gu rfl rfl rfl <| WL.gu rfl rfl rfl <| WL.gu rfl rfl rfl <| WL.gu rfl rfl rfl <| WL.gu rfl rfl rfl <| WL.gn rfl rfl rfl rfl <| WL.p (.pkT rfl rfl rfl) rfl <| WL.nil <| ?_
     exact ⟨⟨lk_b rfl (by clear hbD hb7 hb8 hb9 hb10 hb11 hbm hb71 hb91 hbg; subst_vars; first | rfl | (cases st <;> first | rfl | contradiction)), by repeat (first | exact Le.refl _ | refine Le.cons rfl ?_)⟩, rfl⟩
    refine WL.gn rfl rfl rfl g83 <| WL.p (.pkT rfl g83 rfl) rfl <| WL.p (.mv rfl) rfl <| WL.gn rfl rfl rfl rfl <| WL.gn rfl rfl rfl rfl <| WL.p (.pkT rfl rfl rfl) rfl <| WL.p (.mv rfl) rfl <| WL.gn rfl rfl rfl rfl <| WL.gn rfl rfl rfl rfl <| WL.gn rfl rfl rfl rfl <| WL.gn rfl rfl rfl rfl <| WL.gn rfl rfl rfl rfl <| WL.gn rfl rfl rfl rfl <| WL.gn rfl rfl rfl rfl <| WL.p (.pkT rfl rfl rfl) rfl <| WL.p (.mv rfl) rfl <| WL.gn rfl rfl rfl rfl <| WL.gn rfl rfl rfl rfl <| WL.gn rfl rfl rfl rfl <| WL.gn rfl rfl rfl rfl <| WL.gu rfl rfl rfl <| WL.gu rfl rfl rfl <| WL.gn rfl rfl rfl rfl <| WL.p (.pkT rfl rfl rfl) rfl <| WL.p (.mv rfl) rfl <| WL.gn rfl rfl rfl rfl <| WL.gn rfl rfl rfl rfl <| WL.gn rfl rfl rfl rfl <| WL.gn rfl rfl rfl rfl <| WL.gu rfl rfl rfl <| WL.gu rfl rfl rfl <| WL.gu rfl rfl rfl <| WL.gu rfl rfl rfl <| WL.gu rfl rfl rfl <| WL.gu rfl rfl rfl <| WL.gu rfl rfl rfl <| WL.gu rfl rfl rfl <| WL.gn rfl rfl rfl rfl <| WL.p (.pkT rfl rfl rfl) rfl <| WL.nil <| ?_
    exact ⟨⟨lk_b rfl (by clear hbD hb7 hb8 hb9 hb10 hb11 hbm hb71 hb91 hbg; subst_vars; first | rfl | (cases st <;> first | rfl | contradiction)), by repeat (first | exact Le.refl _ | refine Le.cons rfl ?_)⟩, rfl⟩
   refine W.cond rfl (fun h93 => ?_) (fun h93 => ?_)
   ·
    skip
    refine W.seq <| W.reg <| WL.p (.as rfl) rfl <| WL.nil <| ?_
    refine W.ret (W.ret1 rfl rfl ?_)
    first
    | exact ⟨⟨false, fun h => by cases h⟩, rfl, hB7⟩
    | exact ⟨⟨true, fun _ => hpre.snd (by omega) (fun o ho => hall o (by rw [List.take_of_length_le (by omega)]; exact ho))⟩, rfl, hB7⟩
    | exact ⟨⟨_, fun hb => fin0 hcl (by assumption) (of_decide_eq_true (hb7.symm.trans (by assumption))) (of_decide_eq_true (hb8.symm.trans (by assumption))) (of_decide_eq_true (hb9.symm.trans (by assumption))) (of_decide_eq_true (hb10.symm.trans (by assumption))) (of_decide_eq_true (hb11.symm.trans hb))⟩, rfl, hB7⟩
    | exact ⟨⟨_, fun hb => fin1 hcl (by assumption) (by first | exact .inl (by assumption) | exact .inr (by assumption)) (of_decide_eq_true (hb8.symm.trans (by assumption))) (of_decide_eq_true (hb9.symm.trans (by assumption))) (of_decide_eq_true (hb10.symm.trans (by assumption))) (of_decide_eq_true (hb11.symm.trans hb))⟩, rfl, hB7⟩
    | exact ⟨⟨_, fun hb => fin2 hcl (by first | exact .inl (by assumption) | exact .inr (by assumption)) (by assumption) (of_decide_eq_true (hb8.symm.trans (by assumption))) (of_decide_eq_true (hb9.symm.trans (by assumption))) (of_decide_eq_true (hb10.symm.trans (by assumption))) (of_decide_eq_true (hb11.symm.trans hb))⟩, rfl, hB7⟩
    | exact ⟨⟨_, fun hb => fin4 hcl (by assumption) (of_decide_eq_true (hb7.symm.trans (by assumption))) (nmB_ok (by assumption)) (of_decide_eq_true (hb9.symm.trans (by assumption))) (of_decide_eq_true (hb10.symm.trans (by assumption))) (of_decide_eq_true (hb11.symm.trans hb))⟩, rfl, hB7⟩
    | exact ⟨⟨_, fun hb => fin5 hcl (by assumption) (of_decide_eq_true (hb7.symm.trans (by assumption))) (by assumption) (of_decide_eq_true (hb9.symm.trans (by assumption))) (of_decide_eq_true (hb10.symm.trans (by assumption))) (of_decide_eq_true (hb11.symm.trans hb))⟩, rfl, hB7⟩
    | exact ⟨⟨_, fun hb => fin8 hcl (by assumption) (by assumption) (by assumption) (of_decide_eq_true (hb8.symm.trans (by assumption))) (of_decide_eq_true (hb9.symm.trans (by assumption))) (of_decide_eq_true (hb10.symm.trans (by assumption))) (of_decide_eq_true (hb11.symm.trans hb))⟩, rfl, hB7⟩
   have hk79 : k = 7 ∨ k = 9 := by first | exact .inl (by assumption) | exact .inr (by assumption)
   obtain ⟨q1, q2, q3, q4, q5, q6⟩ : 1 ≤ D ∧ i = 0 ∧ s = [] ∧ (keys.length : Int) = (cs.length : Int) ∧ (k = 7 → data = []) ∧ (k = 9 → st = true ∧ data.length ≤ 1048576) := by
    have h0 : (bD || !b7 || !b8 || bm || (b71 && !b11) || (b91 && (!st || bg))) = false := by assumption
    rw [hbD, hb7, hb8, hbm, hb71, hb11, hb91, hbg] at h0
    simp only [Bool.or_eq_false_iff, Bool.and_eq_false_iff, Bool.not_eq_false', decide_eq_true_eq, decide_eq_false_iff_not] at h0
    obtain ⟨⟨⟨⟨⟨h1, h2⟩, h3⟩, h4⟩, h5⟩, h6⟩ := h0
    exact ⟨by omega, h2, h3, h4, fun hk => lenz (h5.resolve_left (fun h => h hk)), fun hk => by have := h6.resolve_left (fun h => h hk); exact ⟨this.1, by omega⟩⟩
   have keysAll : ∀ j, keys.length ≤ j → KeysB k keys j → (∀ x ∈ keys, nmOk x) ∧ keys.Nodup := fun j hj hb => by rw [← List.take_of_length_le hj]; exact ⟨hb.1, hb.2.1⟩
   have hkk : ∀ j, keys.length ≤ j → KeysB k keys j → (k = 7 ∧ data = []) ∨ (k = 9 ∧ st = true ∧ data.length ≤ 1048576 ∧ [76, 101, 110, 103, 116, 104] ∉ keys) := fun j hj hb => by
    rcases hk79 with h7 | h9
    ·
     exact .inl ⟨h7, q5 h7⟩
    ·
     exact .inr ⟨h9, (q6 h9).1, (q6 h9).2, by rw [← List.take_of_length_le hj]; exact hb.2.2 h9⟩
   refine W.skip <| W.seq <| W.reg <| WL.p (.as rfl) rfl <| WL.nil <| ?_
   refine W.block ?_
   refine W.loop (α := Nat) (fun t => [(1, .int .i64 D), (2, .bool st), (3, .pointer (some ⟨b1, 0, none⟩)), (12, .int .i64 (t : Int))]) (fun t w' => Below w.heap.size w w' ∧ Blk w' b1 #[.int .i64 k, .int .i64 i, .string (bs s), .slice kp keys.length kc, .slice lp cs.length lc, .slice dp data.length dc] 31 ∧ RowAt strV w' kp keys ∧ RowM acL w' lp cs ∧ AInv w' S cs list ∧ KeysB k keys t ∧ t ≤ keys.length) (fun t => keys.length - t) (0) ⟨rfl, rfl, rfl, rfl, trivial⟩ (⟨hB7, hkb1, hv3, hv5, hF2, ⟨by simp, by simp, by simp⟩, Nat.zero_le _⟩) (fun t w1 hR => ?_)
   obtain ⟨i1, rfl⟩ : ∃ i, i = t := ⟨t, rfl⟩
   obtain ⟨hT1, hk1, hkx1, hlx1, hf1, hkb, ht⟩ := hR
   refine W.seq <| W.seq <| W.reg <| WL.p (.mv rfl) rfl <| WL.p (.fa underlying31 rfl sizeOf28 (by decide) rfl) rfl <| WL.r (Rd.ld (isAgg28 _) rfl hk1 rfl) rfl <| WL.p (.lenS underlying28 rfl) rfl <| WL.p (.lss rfl rfl) rfl <| WL.nil <| ?_
   refine W.cond rfl (fun h94 => ?_) (fun h94 => ?_)
   ·
    have h94' := of_decide_eq_true h94
    refine W.skip <| W.seq <| W.block <| W.seq ?_
    obtain ⟨bL, hbL⟩ : ∃ b, b = decide (keys[i1]'(by omega) = [76, 101, 110, 103, 116, 104]) := ⟨_, rfl⟩
    refine W.cutB 239 ((!nmB (keys[i1]'(by omega)) || (b91 && bL))) ?_ ?_
    ·
     skip
     refine W.reg <| WL.p (.fa underlying31 rfl sizeOf28 (by decide) rfl) rfl <| WL.r (Rd.ld (isAgg28 _) rfl hk1 rfl) rfl <| WL.p (.mv rfl) rfl <| WL.p (.ixb underlying28 sizeOf9 rfl rfl (hkx1.isp (by omega)) (i1) (rfl) (by omega)) rfl <| WL.r (Rd.ldc (isAgg9 _) rfl (hkx1.cells (i1) (by omega))) rfl <| WL.c1 hb63 rfl rfl ((r18_nameB _ _ (hklen _ _))) (fun w95 hw95 => ?_)
     obtain rfl := hw95
     refine WL.p (.not rfl) rfl <| WL.p (.mv rfl) rfl <| WL.gd rfl rfl rfl (fun g96 => ?_) (fun g96 => ?_)
     ·
      have g96' := (nF g96)
      refine WL.p (.fa underlying31 rfl sizeOf3 (by decide) rfl) rfl <| WL.gy rfl rfl rfl (by rw [(nF g96)] <;> rfl) <| WL.r (Rd.ld (isAgg3 _) rfl hk1 rfl) rfl <| WL.gy rfl rfl rfl (by rw [(nF g96)] <;> rfl) <| WL.p (.bis (b91) (.eql rfl rfl) (by exact hb91.symm)) rfl <| WL.gy rfl rfl rfl (by rw [(nF g96)] <;> rfl) <| WL.p (.mv rfl) rfl <| WL.gd rfl rfl rfl (fun g97 => ?_) (fun g97 => ?_)
      ·
       skip
       refine WL.p (.fa underlying31 rfl sizeOf28 (by decide) rfl) rfl <| WL.gy rfl rfl rfl g97 <| WL.r (Rd.ld (isAgg28 _) rfl hk1 rfl) rfl <| WL.gy rfl rfl rfl g97 <| WL.p (.mv rfl) rfl <| WL.gy rfl rfl rfl g97 <| WL.p (.ixb underlying28 sizeOf9 rfl rfl (hkx1.isp (by omega)) (i1) (rfl) (by omega)) rfl <| WL.gy rfl rfl rfl g97 <| WL.r (Rd.ldc (isAgg9 _) rfl (hkx1.cells (i1) (by omega))) rfl <| WL.gy rfl rfl rfl g97 <| WL.p (.bis (bL) (.eqs rfl rfl) (by exact hbL.symm)) rfl <| WL.gy rfl rfl rfl (by rw [(nF g96)] <;> rfl) <| WL.p (.pkT rfl g97 rfl) rfl <| WL.p (.pkF rfl (by rw [(nF g96)] <;> rfl) rfl) rfl <| WL.nil <| ?_
       exact ⟨⟨lk_b rfl (by first | (rw [show nmB (keys[i1]'(by omega)) = false by assumption]; rfl) | (rw [show nmB (keys[i1]'(by omega)) = true by assumption]; clear hb91 hbL; subst_vars; rfl)), by repeat (first | exact Le.refl _ | refine Le.cons rfl ?_)⟩, rfl⟩
      refine WL.gn rfl rfl rfl g97 <| WL.gn rfl rfl rfl g97 <| WL.gn rfl rfl rfl g97 <| WL.gn rfl rfl rfl g97 <| WL.gn rfl rfl rfl g97 <| WL.gy rfl rfl rfl (by rw [(nF g96)] <;> rfl) <| WL.p (.pkF rfl g97 rfl) rfl <| WL.p (.pkF rfl (by rw [(nF g96)] <;> rfl) rfl) rfl <| WL.nil <| ?_
      exact ⟨⟨lk_b rfl (by first | (rw [show nmB (keys[i1]'(by omega)) = false by assumption]; rfl) | (rw [show nmB (keys[i1]'(by omega)) = true by assumption]; clear hb91 hbL; subst_vars; rfl)), by repeat (first | exact Le.refl _ | refine Le.cons rfl ?_)⟩, rfl⟩
     have g96' := (nT g96)
     refine WL.gn rfl rfl rfl (by rw [(nT g96)] <;> rfl) <| WL.gn rfl rfl rfl (by rw [(nT g96)] <;> rfl) <| WL.gn rfl rfl rfl (by rw [(nT g96)] <;> rfl) <| WL.gu rfl rfl rfl <| WL.gu rfl rfl rfl <| WL.gu rfl rfl rfl <| WL.gu rfl rfl rfl <| WL.gu rfl rfl rfl <| WL.gu rfl rfl rfl <| WL.gn rfl rfl rfl (by rw [(nT g96)] <;> rfl) <| WL.p (.pkT rfl (by rw [(nT g96)] <;> rfl) rfl) rfl <| WL.nil <| ?_
     exact ⟨⟨lk_b rfl (by first | (rw [show nmB (keys[i1]'(by omega)) = false by assumption]; rfl) | (rw [show nmB (keys[i1]'(by omega)) = true by assumption]; clear hb91 hbL; subst_vars; rfl)), by repeat (first | exact Le.refl _ | refine Le.cons rfl ?_)⟩, rfl⟩
    refine W.cond rfl (fun h98 => ?_) (fun h98 => ?_)
    ·
     skip
     refine W.seq <| W.reg <| WL.p (.as rfl) rfl <| WL.nil <| ?_
     refine W.ret (W.ret1 rfl rfl ?_)
     first
     | exact ⟨⟨false, fun h => by cases h⟩, rfl, hT1⟩
     | exact ⟨⟨true, fun _ => hpre.snd (by omega) (fun o ho => hall o (by rw [List.take_of_length_le (by omega)]; exact ho))⟩, rfl, hT1⟩
     | exact ⟨⟨_, fun hb => fin0 hcl (by assumption) (of_decide_eq_true (hb7.symm.trans (by assumption))) (of_decide_eq_true (hb8.symm.trans (by assumption))) (of_decide_eq_true (hb9.symm.trans (by assumption))) (of_decide_eq_true (hb10.symm.trans (by assumption))) (of_decide_eq_true (hb11.symm.trans hb))⟩, rfl, hT1⟩
     | exact ⟨⟨_, fun hb => fin1 hcl (by assumption) (by first | exact .inl (by assumption) | exact .inr (by assumption)) (of_decide_eq_true (hb8.symm.trans (by assumption))) (of_decide_eq_true (hb9.symm.trans (by assumption))) (of_decide_eq_true (hb10.symm.trans (by assumption))) (of_decide_eq_true (hb11.symm.trans hb))⟩, rfl, hT1⟩
     | exact ⟨⟨_, fun hb => fin2 hcl (by first | exact .inl (by assumption) | exact .inr (by assumption)) (by assumption) (of_decide_eq_true (hb8.symm.trans (by assumption))) (of_decide_eq_true (hb9.symm.trans (by assumption))) (of_decide_eq_true (hb10.symm.trans (by assumption))) (of_decide_eq_true (hb11.symm.trans hb))⟩, rfl, hT1⟩
     | exact ⟨⟨_, fun hb => fin4 hcl (by assumption) (of_decide_eq_true (hb7.symm.trans (by assumption))) (nmB_ok (by assumption)) (of_decide_eq_true (hb9.symm.trans (by assumption))) (of_decide_eq_true (hb10.symm.trans (by assumption))) (of_decide_eq_true (hb11.symm.trans hb))⟩, rfl, hT1⟩
     | exact ⟨⟨_, fun hb => fin5 hcl (by assumption) (of_decide_eq_true (hb7.symm.trans (by assumption))) (by assumption) (of_decide_eq_true (hb9.symm.trans (by assumption))) (of_decide_eq_true (hb10.symm.trans (by assumption))) (of_decide_eq_true (hb11.symm.trans hb))⟩, rfl, hT1⟩
     | exact ⟨⟨_, fun hb => fin8 hcl (by assumption) (by assumption) (by assumption) (of_decide_eq_true (hb8.symm.trans (by assumption))) (of_decide_eq_true (hb9.symm.trans (by assumption))) (of_decide_eq_true (hb10.symm.trans (by assumption))) (of_decide_eq_true (hb11.symm.trans hb))⟩, rfl, hT1⟩
    have hq : (!nmB (keys[i1]'(by omega)) || (b91 && bL)) = false := by assumption
    have hqn : nmB (keys[i1]'(by omega)) = true := by cases hx : nmB (keys[i1]'(by omega)) <;> rw [hx] at hq <;> first | rfl | cases hq
    have hqL : k = 9 → keys[i1]'(by omega) ≠ [76, 101, 110, 103, 116, 104] := fun hk e => by
     rw [hqn, hb91, hbL, decide_eq_true hk, decide_eq_true e] at hq; cases hq
    refine W.skip <| W.seq <| W.reg <| WL.p (.as rfl) rfl <| WL.nil <| ?_
    refine W.block ?_
    refine W.loop (α := Nat) (fun t => [(1, .int .i64 D), (2, .bool st), (3, .pointer (some ⟨b1, 0, none⟩)), (12, .int .i64 (i1 : Int)), (13, .int .i64 (t : Int))]) (fun t w' => Below w.heap.size w w' ∧ Blk w' b1 #[.int .i64 k, .int .i64 i, .string (bs s), .slice kp keys.length kc, .slice lp cs.length lc, .slice dp data.length dc] 31 ∧ RowAt strV w' kp keys ∧ RowM acL w' lp cs ∧ AInv w' S cs list ∧ keys[i1]'(by omega) ∉ keys.take t ∧ t ≤ i1) (fun t => i1 - t) (0) ⟨rfl, rfl, rfl, rfl, rfl, trivial⟩ (⟨hT1, hk1, hkx1, hlx1, hf1, by simp, Nat.zero_le _⟩) (fun t w1 hR => ?_)
    obtain ⟨j1, rfl⟩ : ∃ i, i = t := ⟨t, rfl⟩
    obtain ⟨hT2, hk2, hkx2, hlx2, hf2, hno, ht2⟩ := hR
    refine W.seq <| W.seq <| W.reg <| WL.p (.mv rfl) rfl <| WL.p (.mv rfl) rfl <| WL.p (.lss rfl rfl) rfl <| WL.nil <| ?_
    refine W.cond rfl (fun h99 => ?_) (fun h99 => ?_)
    ·
     have h99' := of_decide_eq_true h99
     refine W.skip <| W.seq <| W.block <| W.seq <| W.regQ mixed (by kernel_rfl) ?_
     refine WQ.p (.fa underlying31 rfl sizeOf28 (by decide) rfl) rfl <| WQ.r (fun m => Rd.ld (isAgg28 _) rfl hk2 rfl) rfl <| WQ.p (.mv rfl) rfl <| WQ.p (.ixb underlying28 sizeOf9 rfl rfl (hkx2.isp (by omega)) (j1) (rfl) (by omega)) rfl <| WQ.r (fun m => Rd.ldc (isAgg9 _) rfl ((hkx2.drewN m).cells (j1) (by omega))) rfl <| WQ.p (.fa underlying31 rfl sizeOf28 (by decide) rfl) rfl <| WQ.r (fun m => Rd.ld (isAgg28 _) rfl hk2 rfl) rfl <| WQ.p (.mv rfl) rfl <| WQ.p (.ixb underlying28 sizeOf9 rfl rfl (hkx2.isp (by omega)) (i1) (rfl) (by omega)) rfl <| WQ.r (fun m => Rd.ldc (isAgg9 _) rfl ((hkx2.drewN m).cells (i1) (by omega))) rfl <| WQ.p (.eqs rfl rfl) rfl <| WQ.nil (fun w100 dw100 => ?_)
     have hF101 := AInv.same (w1 := w100) hf2 (fun k hk hl => (by obtain ⟨m, rfl⟩ := dw100; rfl))
     have hk102 := hk2.drew dw100
     have hv103 := hkx2.drew dw100
     have hv104 := hlx2.drew dw100
     have hB105 := Drew.below hT2 dw100
     refine W.cond rfl (fun h106 => ?_) (fun h106 => ?_)
     ·
      have h106' := of_decide_eq_true h106
      refine W.seq <| W.reg <| WL.p (.as rfl) rfl <| WL.nil <| ?_
      refine W.ret (W.ret1 rfl rfl ?_)
      first
      | exact ⟨⟨false, fun h => by cases h⟩, rfl, hB105⟩
      | exact ⟨⟨true, fun _ => hpre.snd (by omega) (fun o ho => hall o (by rw [List.take_of_length_le (by omega)]; exact ho))⟩, rfl, hB105⟩
      | exact ⟨⟨_, fun hb => fin0 hcl (by assumption) (of_decide_eq_true (hb7.symm.trans (by assumption))) (of_decide_eq_true (hb8.symm.trans (by assumption))) (of_decide_eq_true (hb9.symm.trans (by assumption))) (of_decide_eq_true (hb10.symm.trans (by assumption))) (of_decide_eq_true (hb11.symm.trans hb))⟩, rfl, hB105⟩
      | exact ⟨⟨_, fun hb => fin1 hcl (by assumption) (by first | exact .inl (by assumption) | exact .inr (by assumption)) (of_decide_eq_true (hb8.symm.trans (by assumption))) (of_decide_eq_true (hb9.symm.trans (by assumption))) (of_decide_eq_true (hb10.symm.trans (by assumption))) (of_decide_eq_true (hb11.symm.trans hb))⟩, rfl, hB105⟩
      | exact ⟨⟨_, fun hb => fin2 hcl (by first | exact .inl (by assumption) | exact .inr (by assumption)) (by assumption) (of_decide_eq_true (hb8.symm.trans (by assumption))) (of_decide_eq_true (hb9.symm.trans (by assumption))) (of_decide_eq_true (hb10.symm.trans (by assumption))) (of_decide_eq_true (hb11.symm.trans hb))⟩, rfl, hB105⟩
      | exact ⟨⟨_, fun hb => fin4 hcl (by assumption) (of_decide_eq_true (hb7.symm.trans (by assumption))) (nmB_ok (by assumption)) (of_decide_eq_true (hb9.symm.trans (by assumption))) (of_decide_eq_true (hb10.symm.trans (by assumption))) (of_decide_eq_true (hb11.symm.trans hb))⟩, rfl, hB105⟩
      | exact ⟨⟨_, fun hb => fin5 hcl (by assumption) (of_decide_eq_true (hb7.symm.trans (by assumption))) (by assumption) (of_decide_eq_true (hb9.symm.trans (by assumption))) (of_decide_eq_true (hb10.symm.trans (by assumption))) (of_decide_eq_true (hb11.symm.trans hb))⟩, rfl, hB105⟩
      | exact ⟨⟨_, fun hb => fin8 hcl (by assumption) (by assumption) (by assumption) (of_decide_eq_true (hb8.symm.trans (by assumption))) (of_decide_eq_true (hb9.symm.trans (by assumption))) (of_decide_eq_true (hb10.symm.trans (by assumption))) (of_decide_eq_true (hb11.symm.trans hb))⟩, rfl, hB105⟩
     have h106' := of_decide_eq_false h106
     refine W.skip <| W.reg <| WL.p (.mv rfl) rfl <| WL.p (.iis (((j1 + 1 : Nat) : Int)) (.add rfl rfl (i64w (by omega))) (by omega)) rfl <| WL.p (.as rfl) rfl <| WL.nil <| ?_
     exact ⟨j1 + 1, ⟨rfl, rfl, rfl, rfl, rfl, trivial⟩, ⟨hB105, hk102, hv103, hv104, hF101, str_mem (by omega) hno (by assumption), by ((try simp only) <;> omega)⟩, by ((try simp only) <;> omega)⟩
    have h99' := of_decide_eq_false h99
    refine W.exit <| W.reg <| WL.p (.mv rfl) rfl <| WL.p (.iis (((i1 + 1 : Nat) : Int)) (.add rfl rfl (i64w (by omega))) (by omega)) rfl <| WL.p (.as rfl) rfl <| WL.nil <| ?_
    exact ⟨i1 + 1, ⟨rfl, rfl, rfl, rfl, trivial⟩, ⟨hT2, hk2, hkx2, hlx2, hf2, hkb.step (by omega) (nmB_ok hqn) (by (have e : j1 = i1 := by omega); (rw [e] at hno); exact hno) hqL, by ((try simp only) <;> omega)⟩, by ((try simp only) <;> omega)⟩
   have h94' := of_decide_eq_false h94
   refine W.exit ?_
   first
   | exact ⟨(), ⟨rfl, rfl, trivial⟩, hT1, hk1, hlx1, hf1, .inl ⟨by assumption, q1, q2, q3, q4, q5⟩⟩
   | exact ⟨(), ⟨rfl, rfl, trivial⟩, hT1, hk1, hlx1, hf1, .inr ⟨hkk i1 (by omega) hkb, q1, q2, q3, by omega, (keysAll i1 (by omega) hkb).1, (keysAll i1 (by omega) hkb).2⟩⟩
  have h82' := of_decide_eq_false h82
  refine W.seq <| W.reg <| WL.p (.as rfl) rfl <| WL.nil <| ?_
  refine W.ret (W.ret1 rfl rfl ?_)
  first
  | exact ⟨⟨false, fun h => by cases h⟩, rfl, hB7⟩
  | exact ⟨⟨true, fun _ => hpre.snd (by omega) (fun o ho => hall o (by rw [List.take_of_length_le (by omega)]; exact ho))⟩, rfl, hB7⟩
  | exact ⟨⟨_, fun hb => fin0 hcl (by assumption) (of_decide_eq_true (hb7.symm.trans (by assumption))) (of_decide_eq_true (hb8.symm.trans (by assumption))) (of_decide_eq_true (hb9.symm.trans (by assumption))) (of_decide_eq_true (hb10.symm.trans (by assumption))) (of_decide_eq_true (hb11.symm.trans hb))⟩, rfl, hB7⟩
  | exact ⟨⟨_, fun hb => fin1 hcl (by assumption) (by first | exact .inl (by assumption) | exact .inr (by assumption)) (of_decide_eq_true (hb8.symm.trans (by assumption))) (of_decide_eq_true (hb9.symm.trans (by assumption))) (of_decide_eq_true (hb10.symm.trans (by assumption))) (of_decide_eq_true (hb11.symm.trans hb))⟩, rfl, hB7⟩
  | exact ⟨⟨_, fun hb => fin2 hcl (by first | exact .inl (by assumption) | exact .inr (by assumption)) (by assumption) (of_decide_eq_true (hb8.symm.trans (by assumption))) (of_decide_eq_true (hb9.symm.trans (by assumption))) (of_decide_eq_true (hb10.symm.trans (by assumption))) (of_decide_eq_true (hb11.symm.trans hb))⟩, rfl, hB7⟩
  | exact ⟨⟨_, fun hb => fin4 hcl (by assumption) (of_decide_eq_true (hb7.symm.trans (by assumption))) (nmB_ok (by assumption)) (of_decide_eq_true (hb9.symm.trans (by assumption))) (of_decide_eq_true (hb10.symm.trans (by assumption))) (of_decide_eq_true (hb11.symm.trans hb))⟩, rfl, hB7⟩
  | exact ⟨⟨_, fun hb => fin5 hcl (by assumption) (of_decide_eq_true (hb7.symm.trans (by assumption))) (by assumption) (of_decide_eq_true (hb9.symm.trans (by assumption))) (of_decide_eq_true (hb10.symm.trans (by assumption))) (of_decide_eq_true (hb11.symm.trans hb))⟩, rfl, hB7⟩
  | exact ⟨⟨_, fun hb => fin8 hcl (by assumption) (by assumption) (by assumption) (of_decide_eq_true (hb8.symm.trans (by assumption))) (of_decide_eq_true (hb9.symm.trans (by assumption))) (of_decide_eq_true (hb10.symm.trans (by assumption))) (of_decide_eq_true (hb11.symm.trans hb))⟩, rfl, hB7⟩
 obtain ⟨hj1, hj2, hj3, hj4, hpre⟩ := hR
 refine W.seq <| W.seq <| W.reg <| WL.p (.fa underlying31 rfl sizeOf29 (by decide) rfl) rfl <| WL.r (Rd.ld (isAgg29 _) rfl hj2 rfl) rfl <| WL.p (.lenS underlying29 rfl) rfl <| WL.p (.gtr rfl rfl) rfl <| WL.nil <| ?_
 refine W.cond rfl (fun h107 => ?_) (fun h107 => ?_)
 ·
  have h107' := of_decide_eq_true h107
  refine W.seq <| W.reg <| WL.p (.as rfl) rfl <| WL.nil <| ?_
  refine W.ret (W.ret1 rfl rfl ?_)
  first
  | exact ⟨⟨false, fun h => by cases h⟩, rfl, hj1⟩
  | exact ⟨⟨true, fun _ => hpre.snd (by omega) (fun o ho => hall o (by rw [List.take_of_length_le (by omega)]; exact ho))⟩, rfl, hj1⟩
  | exact ⟨⟨_, fun hb => fin0 hcl (by assumption) (of_decide_eq_true (hb7.symm.trans (by assumption))) (of_decide_eq_true (hb8.symm.trans (by assumption))) (of_decide_eq_true (hb9.symm.trans (by assumption))) (of_decide_eq_true (hb10.symm.trans (by assumption))) (of_decide_eq_true (hb11.symm.trans hb))⟩, rfl, hj1⟩
  | exact ⟨⟨_, fun hb => fin1 hcl (by assumption) (by first | exact .inl (by assumption) | exact .inr (by assumption)) (of_decide_eq_true (hb8.symm.trans (by assumption))) (of_decide_eq_true (hb9.symm.trans (by assumption))) (of_decide_eq_true (hb10.symm.trans (by assumption))) (of_decide_eq_true (hb11.symm.trans hb))⟩, rfl, hj1⟩
  | exact ⟨⟨_, fun hb => fin2 hcl (by first | exact .inl (by assumption) | exact .inr (by assumption)) (by assumption) (of_decide_eq_true (hb8.symm.trans (by assumption))) (of_decide_eq_true (hb9.symm.trans (by assumption))) (of_decide_eq_true (hb10.symm.trans (by assumption))) (of_decide_eq_true (hb11.symm.trans hb))⟩, rfl, hj1⟩
  | exact ⟨⟨_, fun hb => fin4 hcl (by assumption) (of_decide_eq_true (hb7.symm.trans (by assumption))) (nmB_ok (by assumption)) (of_decide_eq_true (hb9.symm.trans (by assumption))) (of_decide_eq_true (hb10.symm.trans (by assumption))) (of_decide_eq_true (hb11.symm.trans hb))⟩, rfl, hj1⟩
  | exact ⟨⟨_, fun hb => fin5 hcl (by assumption) (of_decide_eq_true (hb7.symm.trans (by assumption))) (by assumption) (of_decide_eq_true (hb9.symm.trans (by assumption))) (of_decide_eq_true (hb10.symm.trans (by assumption))) (of_decide_eq_true (hb11.symm.trans hb))⟩, rfl, hj1⟩
  | exact ⟨⟨_, fun hb => fin8 hcl (by assumption) (by assumption) (by assumption) (of_decide_eq_true (hb8.symm.trans (by assumption))) (of_decide_eq_true (hb9.symm.trans (by assumption))) (of_decide_eq_true (hb10.symm.trans (by assumption))) (of_decide_eq_true (hb11.symm.trans hb))⟩, rfl, hj1⟩
 have h107' := of_decide_eq_false h107
 refine W.skip <| W.seq <| W.seq <| W.reg <| WL.p (.as rfl) rfl <| WL.nil <| ?_
 refine W.block ?_
 refine W.loop (α := Nat) (fun t => [(1, .int .i64 D), (3, .pointer (some ⟨b1, 0, none⟩)), (14, .int .i64 (t : Int))]) (fun t w' => Below w.heap.size w w' ∧ Blk w' b1 #[.int .i64 k, .int .i64 i, .string (bs s), .slice kp keys.length kc, .slice lp cs.length lc, .slice dp data.length dc] 31 ∧ RowM acL w' lp cs ∧ AInv w' S cs list ∧ (∀ o ∈ list.take t, Snd (D - 1) false o) ∧ t ≤ cs.length) (fun t => cs.length - t) (0) ⟨rfl, rfl, rfl, trivial⟩ (⟨hj1, hj2, hj3, hj4, by simp, Nat.zero_le _⟩) (fun t w1 hR => ?_)
 obtain ⟨i3, rfl⟩ : ∃ i, i = t := ⟨t, rfl⟩
 obtain ⟨hT3, hk3, hlx3, hf3, hall, ht3⟩ := hR
 have hD1 := hpre.one
 refine W.seq <| W.seq <| W.reg <| WL.p (.mv rfl) rfl <| WL.p (.fa underlying31 rfl sizeOf29 (by decide) rfl) rfl <| WL.r (Rd.ld (isAgg29 _) rfl hk3 rfl) rfl <| WL.p (.lenS underlying29 rfl) rfl <| WL.p (.lss rfl rfl) rfl <| WL.nil <| ?_
 refine W.cond rfl (fun h108 => ?_) (fun h108 => ?_)
 ·
  have h108' := of_decide_eq_true h108
  refine W.skip <| W.seq <| W.block <| W.seq <| W.reg <| WL.p (.fa underlying31 rfl sizeOf29 (by decide) rfl) rfl <| WL.r (Rd.ld (isAgg29 _) rfl hk3 rfl) rfl <| WL.p (.mv rfl) rfl <| WL.p (.ixm underlying29 sizeOf31 rfl rfl (hlx3.isp (by omega)) (i3) (rfl) (by omega)) rfl <| WL.r (Rd.ldS underlying31 rfl isz31 hlx3 (i3) (by omega) rfl) rfl <| WL.p (.mv rfl) rfl <| WL.p (.sub rfl rfl (i64w (by omega))) rfl <| WL.call hb36 rfl rfl ((ih (list[i3]'(by omega)) (hsz i3 (by omega)) _ S (D - 1) false _ ((hf3).sub i3 (by omega) (by omega)) (by omega) (by omega))) (fun sb w109 hw109 => ?_)
  have hF110 := AInv.same (w1 := w109) hf3 (fun k hk hl => hw109.block k hl)
  have hk111 := hk3.below hw109 hk3.lt
  have hv112 := RowM.below hlx3 hw109 (fun h0 => hlx3.lt h0)
  have hB113 := btr hT3 hw109
  refine WL.p (.not rfl) rfl <| WL.nil <| ?_
  refine W.cond rfl (fun h114 => ?_) (fun h114 => ?_)
  ·
   have h114' := (nT h114)
   refine W.seq <| W.reg <| WL.p (.as rfl) rfl <| WL.nil <| ?_
   refine W.ret (W.ret1 rfl rfl ?_)
   first
   | exact ⟨⟨false, fun h => by cases h⟩, rfl, hB113⟩
   | exact ⟨⟨true, fun _ => hpre.snd (by omega) (fun o ho => hall o (by rw [List.take_of_length_le (by omega)]; exact ho))⟩, rfl, hB113⟩
   | exact ⟨⟨_, fun hb => fin0 hcl (by assumption) (of_decide_eq_true (hb7.symm.trans (by assumption))) (of_decide_eq_true (hb8.symm.trans (by assumption))) (of_decide_eq_true (hb9.symm.trans (by assumption))) (of_decide_eq_true (hb10.symm.trans (by assumption))) (of_decide_eq_true (hb11.symm.trans hb))⟩, rfl, hB113⟩
   | exact ⟨⟨_, fun hb => fin1 hcl (by assumption) (by first | exact .inl (by assumption) | exact .inr (by assumption)) (of_decide_eq_true (hb8.symm.trans (by assumption))) (of_decide_eq_true (hb9.symm.trans (by assumption))) (of_decide_eq_true (hb10.symm.trans (by assumption))) (of_decide_eq_true (hb11.symm.trans hb))⟩, rfl, hB113⟩
   | exact ⟨⟨_, fun hb => fin2 hcl (by first | exact .inl (by assumption) | exact .inr (by assumption)) (by assumption) (of_decide_eq_true (hb8.symm.trans (by assumption))) (of_decide_eq_true (hb9.symm.trans (by assumption))) (of_decide_eq_true (hb10.symm.trans (by assumption))) (of_decide_eq_true (hb11.symm.trans hb))⟩, rfl, hB113⟩
   | exact ⟨⟨_, fun hb => fin4 hcl (by assumption) (of_decide_eq_true (hb7.symm.trans (by assumption))) (nmB_ok (by assumption)) (of_decide_eq_true (hb9.symm.trans (by assumption))) (of_decide_eq_true (hb10.symm.trans (by assumption))) (of_decide_eq_true (hb11.symm.trans hb))⟩, rfl, hB113⟩
   | exact ⟨⟨_, fun hb => fin5 hcl (by assumption) (of_decide_eq_true (hb7.symm.trans (by assumption))) (by assumption) (of_decide_eq_true (hb9.symm.trans (by assumption))) (of_decide_eq_true (hb10.symm.trans (by assumption))) (of_decide_eq_true (hb11.symm.trans hb))⟩, rfl, hB113⟩
   | exact ⟨⟨_, fun hb => fin8 hcl (by assumption) (by assumption) (by assumption) (of_decide_eq_true (hb8.symm.trans (by assumption))) (of_decide_eq_true (hb9.symm.trans (by assumption))) (of_decide_eq_true (hb10.symm.trans (by assumption))) (of_decide_eq_true (hb11.symm.trans hb))⟩, rfl, hB113⟩
  have h114' := (nF h114)
  refine W.skip <| W.reg <| WL.p (.mv rfl) rfl <| WL.p (.iis (((i3 + 1 : Nat) : Int)) (.add rfl rfl (i64w (by omega))) (by omega)) rfl <| WL.p (.as rfl) rfl <| WL.nil <| ?_
  exact ⟨i3 + 1, ⟨rfl, rfl, rfl, trivial⟩, ⟨hB113, hk111, hv112, hF110, fun o ho => by
   rw [List.take_add_one, List.getElem?_eq_getElem (by omega), Option.toList_some, List.mem_append, List.mem_singleton] at ho
   exact ho.elim (hall o) (fun e => by rw [e]; exact sb.2 (by cases hq : sb.1 <;> simp_all)), by ((try simp only) <;> omega)⟩, by ((try simp only) <;> omega)⟩
 have h108' := of_decide_eq_false h108
 refine W.exit <| W.seq <| W.reg <| WL.p (.as rfl) rfl <| WL.nil <| ?_
 refine W.ret (W.ret1 rfl rfl ?_)
 first
 | exact ⟨⟨false, fun h => by cases h⟩, rfl, hT3⟩
 | exact ⟨⟨true, fun _ => hpre.snd (by omega) (fun o ho => hall o (by rw [List.take_of_length_le (by omega)]; exact ho))⟩, rfl, hT3⟩
 | exact ⟨⟨_, fun hb => fin0 hcl (by assumption) (of_decide_eq_true (hb7.symm.trans (by assumption))) (of_decide_eq_true (hb8.symm.trans (by assumption))) (of_decide_eq_true (hb9.symm.trans (by assumption))) (of_decide_eq_true (hb10.symm.trans (by assumption))) (of_decide_eq_true (hb11.symm.trans hb))⟩, rfl, hT3⟩
 | exact ⟨⟨_, fun hb => fin1 hcl (by assumption) (by first | exact .inl (by assumption) | exact .inr (by assumption)) (of_decide_eq_true (hb8.symm.trans (by assumption))) (of_decide_eq_true (hb9.symm.trans (by assumption))) (of_decide_eq_true (hb10.symm.trans (by assumption))) (of_decide_eq_true (hb11.symm.trans hb))⟩, rfl, hT3⟩
 | exact ⟨⟨_, fun hb => fin2 hcl (by first | exact .inl (by assumption) | exact .inr (by assumption)) (by assumption) (of_decide_eq_true (hb8.symm.trans (by assumption))) (of_decide_eq_true (hb9.symm.trans (by assumption))) (of_decide_eq_true (hb10.symm.trans (by assumption))) (of_decide_eq_true (hb11.symm.trans hb))⟩, rfl, hT3⟩
 | exact ⟨⟨_, fun hb => fin4 hcl (by assumption) (of_decide_eq_true (hb7.symm.trans (by assumption))) (nmB_ok (by assumption)) (of_decide_eq_true (hb9.symm.trans (by assumption))) (of_decide_eq_true (hb10.symm.trans (by assumption))) (of_decide_eq_true (hb11.symm.trans hb))⟩, rfl, hT3⟩
 | exact ⟨⟨_, fun hb => fin5 hcl (by assumption) (of_decide_eq_true (hb7.symm.trans (by assumption))) (by assumption) (of_decide_eq_true (hb9.symm.trans (by assumption))) (of_decide_eq_true (hb10.symm.trans (by assumption))) (of_decide_eq_true (hb11.symm.trans hb))⟩, rfl, hT3⟩
 | exact ⟨⟨_, fun hb => fin8 hcl (by assumption) (by assumption) (by assumption) (of_decide_eq_true (hb8.symm.trans (by assumption))) (of_decide_eq_true (hb9.symm.trans (by assumption))) (of_decide_eq_true (hb10.symm.trans (by assumption))) (of_decide_eq_true (hb11.symm.trans hb))⟩, rfl, hT3⟩
end Go.Proofs.YtjghbcjnplcleaaGreatDoor

namespace Go.Proofs.YtjghbcjnplcleaaGreatDoor
open Go.Proofs.Tryz
open Go.RowKit Go.WideShapes Go.ChangeShapes
/-- bytes as a conversion of a string lays them: the row's end is marked -/
structure Raw (w : World) (b c : Nat) (e : TypeId) (l : List UInt8) : Prop where
 cur : ∃ cur : Array Value, w.heap[b]? = some (.cells cur e (cur.size, cur.size + 1)) ∧ cur.size = c ∧ cur.toList.take l.length = byteVals l
 le : l.length ≤ c
theorem bytes_of_take {w : World} {g : Nat} {cur : Array Value} {e : TypeId} {fz : Nat × Nat} {l : List UInt8} (hg : w.heap[g]? = some (.cells cur e fz)) (ht : cur.toList.take l.length = byteVals l) : BytesAt w (some ⟨g, 0, none⟩) l := by
 refine ⟨fun _ => rfl, fun j hj => ?_⟩
 have e1 : (pA (some ⟨g, 0, none⟩)).add j = ⟨g, j, none⟩ := by
  show (⟨g, 0, none⟩ : Addr).add j = _
  unfold Addr.add; split
  ·
   next h => subst h; rfl
  ·
   simp
 rw [e1, Lib.cell_of_heap hg j, ← Array.getElem?_toList]
 have h2 : (cur.toList.take l.length)[j]? = (byteVals l)[j]? := by rw [ht]
 rw [List.getElem?_take, if_pos hj] at h2
 rw [h2]
 simp [byteVals, hj]
theorem Raw.bytes {w : World} {b c : Nat} {e : TypeId} {l : List UInt8} (h : Raw w b c e l) : BytesAt w (some ⟨b, 0, none⟩) l := by
 obtain ⟨cur, hg, -, ht⟩ := h.cur
 exact bytes_of_take hg ht
theorem Own.cat {e : TypeId} {B : Nat} {w : World} {v : Value} {l m : List UInt8} (h : Own e B w v (byteVals l ++ byteVals m)) : Own e B w v (byteVals (l ++ m)) := by
 rw [show byteVals (l ++ m) = byteVals l ++ byteVals m by simp [byteVals]]; exact h
end Go.Proofs.YtjghbcjnplcleaaGreatDoor

namespace Go.Proofs.YtjghbcjnplcleaaGreatDoor
open Go.Proofs.Tryz
open Go.RowKit Go.WideShapes Go.ChangeShapes
section
variable {P : Program} {n : Sh} {f : Fr}
/-- a part of a string -/
theorem Pure.slS {tx : TypeId} {x y z : Operand} {l : List UInt8} {kd ke : IntKind} {i j : Int} (hu : P.underlying tx = some .string) (hx : evo f x = some (.string (bs l))) (hi : evo f y = some (.int kd i)) (hj : evo f z = some (.int ke j)) (a b : Nat) (ei : i = a) (ej : j = b) (hab : a ≤ b) (hb : b ≤ l.length) :
  Pure P (.slice tx x (some y) (some z) none) f (.string (bs ((l.drop a).take (b - a)))) := fun ρ hρ d ty pos aft g w => by
 subst ei; subst ej
 have h3 : ¬ (b < a) := by omega
 simp [execOp, Instr.sliceAt, Instr.slice, Instr.sliceBounds, Instr.sliceBound, hρ _ _ hx, hρ _ _ hi, hρ _ _ hj, asIntOf, run_underlying hu, hab, hb, h3, fbs_extract, bs_size]
/-- a string's bytes put behind a row of the call's own -/
theorem WL.appS {ops : Array Oper} {Q : Exit → Fr → World → Prop} {w : World} {rest : List Oper} {d ty : Nat} {pos : String} {aft : Array Edge} {s x : Operand} {t u e : TypeId} {B : Nat} {v : Value} {xs : List Value} {l : List UInt8}
    (ht : P.underlying t = some (.slice e)) (hu : P.underlying u = some .string) (hi : (P.info? e).map (fun i => (i.zero, i.size, i.bytes)) = some (some (.int .u8 0), 1, 1))
    (hs : evo f s = some v) (hown : Own e B w v xs) (hx : evo f x = some (.string (bs l)))
    (hn : xs.length + l.length ≤ 1000000000) (hB : B ≤ w.heap.size) (hd : Nat.blt d n.n = true)
    (k : ∀ v' w', Own e B w' v' (xs ++ byteVals l) → Below B w w' → w.grownBy w' v.ownBlock → WL P n ops Q rest ((d, v') :: f) w') :
    WL P n ops Q (⟨some d, .call ⟨.builtin .append, #[s, x], #[t, u]⟩, ty, pos, aft, none⟩ :: rest) f w := by
  cases hh : P.info? e with
  | none => rw [hh] at hi; cases hi
  | some i =>
    rw [hh] at hi
    simp only [Option.map_some, Option.some.injEq, Prod.mk.injEq] at hi
    obtain ⟨hz, hsize, hby⟩ := hi
    have hsz : (bs l).size = l.length := bs_size l
    have hcells : Lib.strCells (bs l) = byteVals l := by simp [Lib.strCells, byteVals, bs]
    obtain ⟨v', w', h2, h3, h4, -⟩ := Lib.run_append_own_string (P := P) w B t u ty e i ht hu hh hz hsize hby v xs.length xs hown (bs l) (by rw [hsz]; unfold maxLen; omega) (by rw [hsz]; omega) hB
    rw [hsz, hcells] at h3
    refine WL.run hd (w' := w') (v := v') (fun ρ hρ => ?_) (k v' w' ?_ ((Below.refl _ _).grown h4 hB fun k hk => (hown.lt k hk).1) h4)
    · unfold execOp
      simp only [resolve, invoke, builtin, Sem.run_bind, Sem.run_pure, Result.andThen_ok, List.map_toArray, List.map_cons, List.map_nil, hρ _ _ hs, hρ _ _ hx, h2]
    · have e1 : (xs ++ byteVals l).length = xs.length + l.length := by simp [byteVals]
      unfold Own
      rw [e1]; exact h3
end
end Go.Proofs.YtjghbcjnplcleaaGreatDoor

namespace Go.Proofs.YtjghbcjnplcleaaGreatDoor
open Go.Proofs.Tryz
/-- regular bytes end here -/
def Bnd (r : List UInt8) : Prop := ∀ c r', r = c :: r' → regB c = false
theorem Bnd.nil : Bnd [] := fun c r' h => by cases h
theorem Bnd.cons {c : UInt8} {r : List UInt8} (h : regB c = false) : Bnd (c :: r) := fun c' r' e => by cases e; exact h
theorem tw_app {A r : List UInt8} (hA : ∀ x ∈ A, regB x = true) (hr : Bnd r) : (A ++ r).takeWhile regB = A := by
 induction A with
 | nil =>
  cases r with
  | nil => rfl
  | cons c r => rw [List.nil_append, List.takeWhile_cons, hr c r rfl]; rfl
 | cons a A ih => rw [List.cons_append, List.takeWhile_cons, hA a (by simp), if_pos rfl, ih fun x hx => hA x (by simp [hx])]
theorem dw_app {A r : List UInt8} (hA : ∀ x ∈ A, regB x = true) (hr : Bnd r) : (A ++ r).dropWhile regB = r := by
 induction A with
 | nil =>
  cases r with
  | nil => rfl
  | cons c r => rw [List.nil_append, List.dropWhile_cons, hr c r rfl]; rfl
 | cons a A ih => rw [List.cons_append, List.dropWhile_cons, hA a (by simp), if_pos rfl, ih fun x hx => hA x (by simp [hx])]
section
variable {l : List UInt8} {t : Nat}
theorem word_at {A r : List UInt8} (ht : t ≤ l.length) (h : l.drop t = A ++ r) (hA : ∀ x ∈ A, regB x = true) (hr : Bnd r) : wordL l t = A ∧ wordAt l t = l.length - r.length ∧ l.drop (wordAt l t) = r := by
 have h1 : wordL l t = A := by rw [wordL_eq, h, tw_app hA hr]
 have hl := congrArg List.length h
 rw [List.length_drop, List.length_append] at hl
 have h2 : wordAt l t = t + A.length := by unfold wordAt; rw [h, tw_app hA hr]
 refine ⟨h1, by omega, ?_⟩
 rw [h2, ← List.drop_drop, h, List.drop_left]
theorem skip_at {x : List UInt8} (h : skipS false (l.drop t) = x) : skipAt false l t = l.length - x.length ∧ l.drop (skipAt false l t) = x := ⟨by unfold skipAt; rw [h], by rw [skipAt_drop, h]⟩
end
theorem skipS_stop {c : UInt8} {r : List UInt8} (h : blankB c = false) (h37 : c ≠ 37) : skipS false (c :: r) = c :: r := by simp [skipS, h, h37]
theorem skipS_32 (r : List UInt8) : skipS false (32 :: r) = skipS false r := by simp [skipS, blankB]
theorem all256 {q : UInt8 → Prop} [DecidablePred q] (key : ∀ n : Fin 256, q (UInt8.ofNat n.1)) (c : UInt8) : q c := by
 have h := key ⟨c.toNat, UInt8.toNat_lt c⟩
 have e : UInt8.ofNat (⟨c.toNat, UInt8.toNat_lt c⟩ : Fin 256).1 = c := UInt8.ofNat_toNat
 rw [e] at h
 exact h
theorem nmE_reg (c : UInt8) : ∀ x ∈ nmE c, regB x = true := all256 (q := fun c => ∀ x ∈ nmE c, regB x = true) (by decide +kernel) c
theorem nmE_dec (c : UInt8) : (needHash c = true → nmE c = [35, hexDigits[c.toNat / 16]!, hexDigits[c.toNat % 16]!] ∧ hexN hexDigits[c.toNat / 16]! < 16 ∧ hexN hexDigits[c.toNat % 16]! < 16 ∧ ch ((16 * hexN hexDigits[c.toNat / 16]! + hexN hexDigits[c.toNat % 16]! : Nat) : Int) = c) ∧ (needHash c = false → nmE c = [c] ∧ c ≠ 35) :=
 all256 (q := fun c => (needHash c = true → nmE c = [35, hexDigits[c.toNat / 16]!, hexDigits[c.toNat % 16]!] ∧ hexN hexDigits[c.toNat / 16]! < 16 ∧ hexN hexDigits[c.toNat % 16]! < 16 ∧ ch ((16 * hexN hexDigits[c.toNat / 16]! + hexN hexDigits[c.toNat % 16]! : Nat) : Int) = c) ∧ (needHash c = false → nmE c = [c] ∧ c ≠ 35)) (by decide +kernel) c
theorem decN_name : ∀ s : List UInt8, decN (s.flatMap nmE) = some s
 | [] => rfl
 | c :: s => by
  have ih := decN_name s
  have hd := nmE_dec c
  rw [List.flatMap_cons]
  cases hn : needHash c with
  | true =>
   obtain ⟨h1, h2, h3, h4⟩ := hd.1 hn
   rw [h1]
   show decN (35 :: hexDigits[c.toNat / 16]! :: hexDigits[c.toNat % 16]! :: s.flatMap nmE) = _
   rw [decN_cons, if_pos rfl]
   simp only
   rw [if_pos ⟨h2, h3⟩, ih, h4]; rfl
  | false =>
   obtain ⟨h1, h2⟩ := hd.2 hn
   rw [h1]
   show decN (c :: s.flatMap nmE) = _
   rw [decN_cons, if_neg h2, ih]; rfl
theorem name_reg (s : List UInt8) : ∀ x ∈ s.flatMap nmE, regB x = true := fun x hx => by
 obtain ⟨c, -, hc⟩ := List.mem_flatMap.1 hx
 exact nmE_reg c x hc
theorem nameP_at {l : List UInt8} {t : Nat} {s r : List UInt8} (ht : t ≤ l.length) (h : l.drop t = s.flatMap nmE ++ r) (hs : nmOk s) (hr : Bnd r) : nameP l t = .ok (s, l.length - r.length) := by
 obtain ⟨h1, h2, -⟩ := word_at ht h (name_reg s) hr
 unfold nameP
 rw [h1, decN_name]
 simp only
 rw [if_neg (fun h => h.elim hs.1 hs.2.1), if_neg (by have := hs.2.2; omega), h2]
theorem roundS_textE (c : UInt8) (o r : List UInt8) : roundS 1 o (txE c ++ r) = roundS 1 (o ++ [c]) r := by
 unfold txE
 split
 ·
  next h =>
  show roundS 1 o (92 :: c :: r) = _
  rw [roundS_92]
  have he : escS c r = ([c], r) := by rcases h with rfl | rfl | rfl <;> rfl
  rw [he]
 ·
  next h =>
  split
  ·
   show roundS 1 o (92 :: ch (48 + (c.toNat : Int) / 64) :: ch (48 + (c.toNat : Int) / 8 % 8) :: ch (48 + (c.toNat : Int) % 8) :: r) = _
   rw [roundS_92, esc_octE]
  ·
   next h2 =>
   exact roundS_plain _ _ _ _ (fun e => h (.inl e)) (fun e => h (.inr (.inl e))) (fun e => h (.inr (.inr e))) (fun e => by subst e; exact h2 (.inl (by decide)))
theorem roundS_text : ∀ (s o r : List UInt8), roundS 1 o (s.flatMap txE ++ r) = roundS 1 (o ++ s) r
 | [], o, r => by simp
 | c :: s, o, r => by rw [List.flatMap_cons, List.append_assoc, roundS_textE, roundS_text s]; simp
theorem textR_at {l : List UInt8} {t : Nat} {s r : List UInt8} (ht : t ≤ l.length) (h : l.drop t = txT s ++ r) (hs : s.length ≤ 65535) : textR l t = .ok (s, l.length - r.length) := by
 have hl := congrArg List.length h
 have hN : nextR l (t : Int) = ⟨6, 0, s, ((l.length - r.length : Nat) : Int), 0⟩ := by
  unfold nextR
  rw [if_neg (by omega)]
  rw [show (t : Int).toNat = t from rfl, h, show txT s ++ r = 40 :: (s.flatMap txE ++ (41 :: r)) by simp [txT], tokS_40, roundS_text, roundS_41, if_pos rfl]
  simp only [textS, List.nil_append]
  rw [if_neg (by omega)]
  rfl
 unfold textR
 rw [hN]
 simp
/-- words of digits -/
theorem dec_form (n : Int) (h : fitsB n = true) : ∃ m : Option Bool, ∃ W : List UInt8, decL n = sgn m ++ W ∧ neg m = decide (n < 0) ∧ (∀ c ∈ W, isDig c = true) ∧ W ≠ [] ∧ natOf W = n.natAbs ∧ W.length ≤ 10 := by
 have hf := fitsB_i h
 obtain ⟨a, b, c⟩ := digitsL_val n.natAbs
 have hl := digitsL_len 9 n.natAbs (by omega)
 unfold decL
 by_cases hn : n < 0
 ·
  exact ⟨some true, digitsL n.natAbs, by rw [if_pos hn]; rfl, by rw [decide_eq_true hn]; rfl, a, c, b, by omega⟩
 ·
  exact ⟨none, digitsL n.natAbs, by rw [if_neg hn]; rfl, by rw [decide_eq_false hn]; rfl, a, c, b, by omega⟩
theorem dig_reg (c : UInt8) (h : isDig c = true) : regB c = true := all256 (q := fun c => isDig c = true → regB c = true) (by decide +kernel) c h
theorem sgn_reg (m : Option Bool) : ∀ x ∈ sgn m, regB x = true := by
 match m with
 | none => exact fun x hx => by cases hx
 | some true => exact fun x hx => by simp [sgn] at hx; subst hx; decide
 | some false => exact fun x hx => by simp [sgn] at hx; subst hx; decide
theorem sgn_not (m : Option Bool) {x : UInt8} (h1 : x ≠ 45) (h2 : x ≠ 43) : x ∉ sgn m := by
 match m with
 | none => exact fun h => by cases h
 | some true => simp [sgn]; exact h1
 | some false => simp [sgn]; exact h2
theorem dec_reg (n : Int) (h : fitsB n = true) : ∀ x ∈ decL n, regB x = true := by
 obtain ⟨m, W, e, -, hW, -⟩ := dec_form n h
 rw [e]
 exact fun x hx => (List.mem_append.1 hx).elim (sgn_reg m x) fun hx => dig_reg x (hW x hx)
theorem dec_tok (n : Int) (h : fitsB n = true) : tokenL (decL n) = tokInt n := by
 obtain ⟨m, W, e, hm, hW, h0, hv, hl⟩ := dec_form n h
 have hf := fitsB_i h
 have hs : (sgn m).length ≤ 1 := by match m with
  | none => simp [sgn]
  | some true => simp [sgn]
  | some false => simp [sgn]
 have hr : radixOk (decL n) = false := by
  unfold radixOk
  rw [cutC_no 35 _ (by rw [e]; exact fun hx => (List.mem_append.1 hx).elim (sgn_not m (by decide) (by decide)) fun hx => absurd (hW 35 hx) (by decide))]
  rfl
 rw [tokenL_plain _ (by rw [e, List.length_append]; omega) hr]
 have hw : wholeT (decL n) = (n, true) := by
  unfold wholeT
  rw [e, signedL_sgn m W fun c r hc => hW c (by rw [hc]; simp)]
  simp only
  have h1 : (W.isEmpty || !W.all isDig) = false := by
   rw [List.all_eq_true.2 hW]
   cases W with
   | nil => exact absurd rfl h0
   | cons a b => rfl
  rw [h1]
  simp only [Bool.false_eq_true, if_false]
  rw [satOf_eq, hv, hm]
  have h2 : (min n.natAbs 1099511627776) = n.natAbs := by omega
  rw [h2]
  have h3 : (if decide (n < 0) = true then -(n.natAbs : Int) else (n.natAbs : Int)) = n := by
   by_cases hn : n < 0
   ·
    rw [decide_eq_true hn, if_pos rfl]; omega
   ·
    rw [decide_eq_false hn, if_neg (by decide)]; omega
  rw [h3]
  simp [hf]
 rw [hw]; rfl
theorem dec_no46 (n : Int) (h : fitsB n = true) : (decL n).contains 46 = false := by
 obtain ⟨m, W, e, -, hW, -⟩ := dec_form n h
 cases hc : (decL n).contains 46 with
 | false => rfl
 | true =>
  rw [List.contains_iff_mem, e] at hc
  exact absurd hc fun hx => (List.mem_append.1 hx).elim (sgn_not m (by decide) (by decide)) fun hx => absurd (hW 46 hx) (by decide)
theorem dec_pm (n : Int) (h : fitsB n = true) : (decL n).all pmDig = true := by
 obtain ⟨m, W, e, -, hW, -⟩ := dec_form n h
 rw [List.all_eq_true, e]
 intro x hx
 rcases List.mem_append.1 hx with hx | hx
 ·
  match m with
  | none => cases hx
  | some true => simp [sgn] at hx; subst hx; decide
  | some false => simp [sgn] at hx; subst hx; decide
 ·
  unfold pmDig; rw [hW x hx]; rfl
theorem numR_dec (n : Int) (h : fitsB n = true) : numR (decL n) = (2, n, true) := by
 unfold numR
 rw [dec_no46 n h, dec_tok n h, dec_pm n h]
 rfl
theorem real_facts (n : Int) (h : fitsB n = true) : parseP (realL n) = (n, true) ∧ (realL n).contains 46 = true ∧ (∀ x ∈ realL n, regB x = true) := by
 have hf := fitsB_i h
 obtain ⟨w1, w2, w3, w4, w5⟩ := wholeL_facts n hf.1 hf.2
 obtain ⟨R, e, r0, rl, hR, hv⟩ := realL_form n
 have hm : neg (if n < 0 then some true else none) = decide (n < 0) := by split <;> simp_all [neg]
 refine ⟨?_, ?_, ?_⟩
 ·
  unfold parseP
  have hs : (sgn (if n < 0 then some true else none)).length ≤ 1 := by split <;> simp [sgn]
  rw [if_neg (by rw [e]; simp only [List.length_append, List.length_cons]; omega), e]
  have := parse_real (if n < 0 then some true else none) n 0 0 hf.1 hf.2 R hR hv hm
  simpa using this
 ·
  rw [List.contains_iff_mem, e]; simp
 ·
  rw [e]
  intro x hx
  rcases List.mem_append.1 hx with hx | hx
  ·
   exact sgn_reg _ x hx
  ·
   rcases List.mem_append.1 hx with hx | hx
   ·
    exact dig_reg x (w1 x hx)
   ·
    rcases List.mem_cons.1 hx with rfl | hx
    ·
     decide
    ·
     exact dig_reg x (hR x hx)
/-- the first byte of a number -/
theorem dec_head (n : Int) (h : fitsB n = true) : ∃ c r, decL n = c :: r ∧ (isDig c = true ∨ c = 45 ∨ c = 43) := by
 obtain ⟨m, W, e, -, hW, h0, -⟩ := dec_form n h
 cases W with
 | nil => exact absurd rfl h0
 | cons a W =>
  match m with
  | none => exact ⟨a, W, e, .inl (hW a (by simp))⟩
  | some true => exact ⟨45, a :: W, e, .inr (.inl rfl)⟩
  | some false => exact ⟨43, a :: W, e, .inr (.inr rfl)⟩
theorem real_head (n : Int) (h : fitsB n = true) : ∃ c r, realL n = c :: r ∧ (isDig c = true ∨ c = 45 ∨ c = 43) := by
 have hf := fitsB_i h
 obtain ⟨w1, w2, -⟩ := wholeL_facts n hf.1 hf.2
 obtain ⟨R, e, -⟩ := realL_form n
 by_cases hn : n < 0
 ·
  rw [if_pos hn] at e; exact ⟨45, _, e, .inr (.inl rfl)⟩
 ·
  rw [if_neg hn] at e
  cases hw : wholeL n with
  | nil => exact absurd hw w2
  | cons a W => rw [hw] at e; exact ⟨a, _, e, .inl (w1 a (by rw [hw]; simp))⟩
end Go.Proofs.YtjghbcjnplcleaaGreatDoor

namespace Go.Proofs.YtjghbcjnplcleaaGreatDoor
open Go.Proofs.Tryz
open Go.RowKit
theorem r18_hexa (c : UInt8) (w : World) :
  Calls Tryz.prog 66 #[.int .u8 (c.toNat : Int)] w fun e w' => e = .returned (.string (bs [hexDigits[c.toNat / 16]!, hexDigits[c.toNat % 16]!])) ∧ Drew w w' := by
 have hc := UInt8.toNat_lt c
 have key : ∀ c : UInt8, ([48, 49, 50, 51, 52, 53, 54, 55, 56, 57, 97, 98, 99, 100, 101, 102].drop (c.toNat / 16)).take (c.toNat / 16 + 1 - c.toNat / 16) ++ ([48, 49, 50, 51, 52, 53, 54, 55, 56, 57, 97, 98, 99, 100, 101, 102].drop (c.toNat % 16)).take (c.toNat % 16 + 1 - c.toNat % 16) = [hexDigits[c.toNat / 16]!, hexDigits[c.toNat % 16]!] :=
  all256 (q := fun c => ([48, 49, 50, 51, 52, 53, 54, 55, 56, 57, 97, 98, 99, 100, 101, 102].drop (c.toNat / 16)).take (c.toNat / 16 + 1 - c.toNat / 16) ++ ([48, 49, 50, 51, 52, 53, 54, 55, 56, 57, 97, 98, 99, 100, 101, 102].drop (c.toNat % 16)).take (c.toNat % 16 + 1 - c.toNat % 16) = [hexDigits[c.toNat / 16]!, hexDigits[c.toNat % 16]!]) (by decide +kernel)
 refine W.enter func66 rfl ntmps66 (Nat.le_of_ble_eq_true rfl) ?_
 refine W.seq <| W.reg <| WL.p (.as rfl) rfl <| WL.nil <| ?_
 refine W.seq <| W.reg <| WL.p (.as rfl) rfl <| WL.nil <| ?_
 refine W.seq <| W.regQ mixed (by kernel_rfl) ?_
 refine WQ.p (.mv rfl) rfl <| WQ.p (.mv rfl) rfl <| WQ.p (.iis (((c.toNat / 16 : Nat) : Int)) (.quo rfl rfl (by omega) (u8q (by omega) (by omega) (by omega))) (by omega)) rfl <| WQ.p (.mv rfl) rfl <| WQ.p (.iis (((c.toNat / 16 : Nat) : Int)) (.quo rfl rfl (by omega) (u8q (by omega) (by omega) (by omega))) (by omega)) rfl <| WQ.p (.iis (((c.toNat / 16 + 1 : Nat) : Int)) (.add rfl rfl (u8w (by omega))) (by omega)) rfl <| WQ.p (.slS underlying9 rfl rfl rfl (c.toNat / 16) (c.toNat / 16 + 1) (rfl) (rfl) (by omega) (by simp; omega)) rfl <| WQ.p (.mv rfl) rfl <| WQ.p (.mv rfl) rfl <| WQ.p (.iis (((c.toNat % 16 : Nat) : Int)) (.rem rfl rfl (by omega) (Int.tmod_eq_emod_of_nonneg (by omega))) (by omega)) rfl <| WQ.p (.mv rfl) rfl <| WQ.p (.iis (((c.toNat % 16 : Nat) : Int)) (.rem rfl rfl (by omega) (Int.tmod_eq_emod_of_nonneg (by omega))) (by omega)) rfl <| WQ.p (.iis (((c.toNat % 16 + 1 : Nat) : Int)) (.add rfl rfl (u8w (by omega))) (by omega)) rfl <| WQ.p (.slS underlying9 rfl rfl rfl (c.toNat % 16) (c.toNat % 16 + 1) (rfl) (rfl) (by omega) (by simp; omega)) rfl <| WQ.p (.cat rfl rfl (by simp only [List.length_take, List.length_drop, List.length_cons, List.length_nil]; omega)) rfl <| WQ.p (.as rfl) rfl <| WQ.nil (fun w1 dw1 => ?_)
 refine W.ret (W.ret1 rfl rfl ?_)
 exact ⟨ret_val (by rw [key c]), dw1⟩
theorem flat_take {f : UInt8 → List UInt8} {s : List UInt8} {i : Nat} (h : i < s.length) : (s.take (i + 1)).flatMap f = (s.take i).flatMap f ++ f s[i] := by
 rw [List.take_succ_eq_append_getElem h, List.flatMap_append]; simp
theorem flat_take_len {f : UInt8 → List UInt8} {k : Nat} (hf : ∀ c, (f c).length ≤ k) (s : List UInt8) (i : Nat) : ((s.take i).flatMap f).length ≤ k * s.length := by
 have h1 := flat_len hf (s.take i)
 have h2 : (s.take i).length ≤ s.length := by rw [List.length_take]; omega
 exact Nat.le_trans h1 (Nat.mul_le_mul_left _ h2)
theorem take_one {s : List UInt8} {i : Nat} (h : i < s.length) : (s.drop i).take (i + 1 - i) = [s[i]] := by
 rw [show i + 1 - i = 1 by omega, List.drop_eq_getElem_cons h]; rfl
theorem needHash_int (c : UInt8) : needHash c = (decide ((c.toNat : Int) < 33) || decide ((c.toNat : Int) > 126) || decide ((c.toNat : Int) = 35) || delimB c) := by
 have h1 : (c == 35) = decide ((c.toNat : Int) = 35) := (u8_dec c 35).symm
 have h2 : decide (c.toNat < 33) = decide ((c.toNat : Int) < 33) := by rw [decide_eq_decide]; omega
 have h3 : decide (126 < c.toNat) = decide ((c.toNat : Int) > 126) := by rw [decide_eq_decide]; omega
 unfold needHash
 rw [h1, h2, h3]
theorem r18_NameA (s : List UInt8) (w : World) (hs : s.length ≤ 1000000) :
  Calls Tryz.prog 39 #[.string (bs s)] w fun e w' => e = .returned (.string (bs (nmT s))) ∧ Drew w w' := by
 refine W.enter func39 rfl ntmps39 (Nat.le_of_ble_eq_true rfl) ?_
 refine W.seq <| W.reg <| WL.p (.as rfl) rfl <| WL.nil <| ?_
 refine W.seq <| W.reg <| WL.p (.as rfl) rfl <| WL.nil <| ?_
 refine W.seq <| W.seq <| W.reg <| WL.p (.as rfl) rfl <| WL.nil <| ?_
 refine W.block ?_
 refine W.loop (α := Nat) (fun t => [(0, .string (bs s)), (3, .string (bs (47 :: (s.take t).flatMap nmE))), (4, .int .i64 (t : Int))]) (fun t w' => Drew w w' ∧ t ≤ s.length) (fun t => s.length - t) (0) ⟨rfl, rfl, rfl, trivial⟩ (⟨Drew.refl _, Nat.zero_le _⟩) (fun t w1 hR => ?_)
 obtain ⟨i, rfl⟩ : ∃ i, i = t := ⟨t, rfl⟩
 obtain ⟨hD, hi⟩ := hR
 have hfl := flat_take_len nmE_len s i
 refine W.seq <| W.seq <| W.reg <| WL.p (.mv rfl) rfl <| WL.p (.mv rfl) rfl <| WL.p (.len underlying9 rfl) rfl <| WL.p (.lss rfl rfl) rfl <| WL.nil <| ?_
 refine W.cond rfl (fun h1 => ?_) (fun h1 => ?_)
 ·
  have h1' := of_decide_eq_true h1
  refine W.skip <| W.seq <| W.block <| W.seq ?_
  have hft := flat_take (f := nmE) (show i < s.length by omega)
  obtain ⟨n1, hn1⟩ : ∃ b, b = decide (((s[i]'(by omega)).toNat : Int) < 33) := ⟨_, rfl⟩
  obtain ⟨n2, hn2⟩ : ∃ b, b = decide (((s[i]'(by omega)).toNat : Int) > 126) := ⟨_, rfl⟩
  obtain ⟨n3, hn3⟩ : ∃ b, b = decide (((s[i]'(by omega)).toNat : Int) = 35) := ⟨_, rfl⟩
  have hnd : needHash (s[i]'(by omega)) = (n1 || n2 || n3 || delimB (s[i]'(by omega))) := by rw [hn1, hn2, hn3]; exact needHash_int _
  refine W.reg <| WL.p (.mv rfl) rfl <| WL.p (.mv rfl) rfl <| WL.p (.ix underlying9 rfl rfl (i) (rfl) (by omega)) rfl <| WL.p (.as rfl) rfl <| WL.nil <| ?_
  refine W.cutB 28 ((n1 || n2 || n3 || delimB (s[i]'(by omega)))) ?_ ?_
  ·
   skip
   refine W.reg <| WL.p (.mv rfl) rfl <| WL.p (.bis (n1) (.lss rfl rfl) (by exact hn1.symm)) rfl <| WL.p (.mv rfl) rfl <| WL.gd rfl rfl rfl (fun g2 => ?_) (fun g2 => ?_)
   ·
    skip
    refine WL.p (.mv rfl) rfl <| WL.gy rfl rfl rfl g2 <| WL.p (.bis (n2) (.gtr rfl rfl) (by exact hn2.symm)) rfl <| WL.p (.pkF rfl g2 rfl) rfl <| WL.p (.mv rfl) rfl <| WL.gd rfl rfl rfl (fun g3 => ?_) (fun g3 => ?_)
    ·
     skip
     refine WL.p (.mv rfl) rfl <| WL.gy rfl rfl rfl g3 <| WL.p (.bis (n3) (.eql rfl rfl) (by exact hn3.symm)) rfl <| WL.p (.pkF rfl g3 rfl) rfl <| WL.p (.mv rfl) rfl <| WL.gd rfl rfl rfl (fun g4 => ?_) (fun g4 => ?_)
     ·
      skip
      refine WL.p (.mv rfl) rfl <| WL.gy rfl rfl rfl g4 <| WL.c1 hb61 rfl rfl ((ref_Delimiter _ _)) (fun w5 hw5 => ?_)
      obtain rfl := hw5
      refine WL.p (.pkF rfl g4 rfl) rfl <| WL.nil <| ?_
      exact ⟨⟨lk_b rfl (by cases n1 <;> cases n2 <;> cases n3 <;> first | rfl | contradiction), by repeat (first | exact Le.refl _ | refine Le.cons rfl ?_)⟩, rfl⟩
     refine WL.gn rfl rfl rfl g4 <| WL.p (.pkT rfl g4 rfl) rfl <| WL.nil <| ?_
     exact ⟨⟨lk_b rfl (by cases n1 <;> cases n2 <;> cases n3 <;> first | rfl | contradiction), by repeat (first | exact Le.refl _ | refine Le.cons rfl ?_)⟩, rfl⟩
    refine WL.gn rfl rfl rfl g3 <| WL.p (.pkT rfl g3 rfl) rfl <| WL.p (.mv rfl) rfl <| WL.gn rfl rfl rfl rfl <| WL.gn rfl rfl rfl rfl <| WL.p (.pkT rfl rfl rfl) rfl <| WL.nil <| ?_
    exact ⟨⟨lk_b rfl (by cases n1 <;> cases n2 <;> cases n3 <;> first | rfl | contradiction), by repeat (first | exact Le.refl _ | refine Le.cons rfl ?_)⟩, rfl⟩
   refine WL.gn rfl rfl rfl g2 <| WL.p (.pkT rfl g2 rfl) rfl <| WL.p (.mv rfl) rfl <| WL.gn rfl rfl rfl rfl <| WL.gn rfl rfl rfl rfl <| WL.p (.pkT rfl rfl rfl) rfl <| WL.p (.mv rfl) rfl <| WL.gn rfl rfl rfl rfl <| WL.gn rfl rfl rfl rfl <| WL.p (.pkT rfl rfl rfl) rfl <| WL.nil <| ?_
   exact ⟨⟨lk_b rfl (by cases n1 <;> cases n2 <;> cases n3 <;> first | rfl | contradiction), by repeat (first | exact Le.refl _ | refine Le.cons rfl ?_)⟩, rfl⟩
  refine W.cond rfl (fun h6 => ?_) (fun h6 => ?_)
  ·
   skip
   refine W.reg <| WL.p (.mv rfl) rfl <| WL.p (.cat rfl rfl (by simp only [List.length_append, List.length_cons, List.length_nil, List.length_take, List.length_drop]; omega)) rfl <| WL.p (.mv rfl) rfl <| WL.c1 hb66 rfl rfl ((r18_hexa _ _)) (fun w7 hw7 => ?_)
   refine WL.p (.cat rfl rfl (by simp only [List.length_append, List.length_cons, List.length_nil, List.length_take, List.length_drop]; omega)) rfl <| WL.p (.as rfl) rfl <| WL.nil <| ?_
   refine W.reg <| WL.p (.mv rfl) rfl <| WL.p (.iis (((i + 1 : Nat) : Int)) (.add rfl rfl (i64w (by omega))) (by omega)) rfl <| WL.p (.as rfl) rfl <| WL.nil <| ?_
   first
   | exact ⟨i + 1, ⟨rfl, lk_s rfl (by rw [hft, show nmE (s[i]'(by omega)) = [35, hexDigits[(s[i]'(by omega)).toNat / 16]!, hexDigits[(s[i]'(by omega)).toNat % 16]!] from if_pos (by rw [hnd]; assumption)]; simp), rfl, trivial⟩, ⟨hD.trans (by assumption), by ((try simp only) <;> omega)⟩, by ((try simp only) <;> omega)⟩
   | exact ⟨i + 1, ⟨rfl, lk_s rfl (by rw [hft, take_one (by omega), show nmE (s[i]'(by omega)) = [s[i]'(by omega)] from if_neg (bF (by rw [hnd]; assumption))]; simp), rfl, trivial⟩, ⟨hD, by ((try simp only) <;> omega)⟩, by ((try simp only) <;> omega)⟩
  refine W.reg <| WL.p (.mv rfl) rfl <| WL.p (.mv rfl) rfl <| WL.p (.mv rfl) rfl <| WL.p (.mv rfl) rfl <| WL.p (.iis (((i + 1 : Nat) : Int)) (.add rfl rfl (i64w (by omega))) (by omega)) rfl <| WL.p (.slS underlying9 rfl rfl rfl (i) (i + 1) (rfl) (rfl) (by omega) (by omega)) rfl <| WL.p (.cat rfl rfl (by simp only [List.length_append, List.length_cons, List.length_nil, List.length_take, List.length_drop]; omega)) rfl <| WL.p (.as rfl) rfl <| WL.nil <| ?_
  refine W.reg <| WL.p (.mv rfl) rfl <| WL.p (.iis (((i + 1 : Nat) : Int)) (.add rfl rfl (i64w (by omega))) (by omega)) rfl <| WL.p (.as rfl) rfl <| WL.nil <| ?_
  first
  | exact ⟨i + 1, ⟨rfl, lk_s rfl (by rw [hft, show nmE (s[i]'(by omega)) = [35, hexDigits[(s[i]'(by omega)).toNat / 16]!, hexDigits[(s[i]'(by omega)).toNat % 16]!] from if_pos (by rw [hnd]; assumption)]; simp), rfl, trivial⟩, ⟨hD.trans (by assumption), by ((try simp only) <;> omega)⟩, by ((try simp only) <;> omega)⟩
  | exact ⟨i + 1, ⟨rfl, lk_s rfl (by rw [hft, take_one (by omega), show nmE (s[i]'(by omega)) = [s[i]'(by omega)] from if_neg (bF (by rw [hnd]; assumption))]; simp), rfl, trivial⟩, ⟨hD, by ((try simp only) <;> omega)⟩, by ((try simp only) <;> omega)⟩
 have h1' := of_decide_eq_false h1
 refine W.exit <| W.seq <| W.reg <| WL.p (.mv rfl) rfl <| WL.p (.as rfl) rfl <| WL.nil <| ?_
 refine W.ret (W.ret1 rfl rfl ?_)
 exact ⟨ret_val (by rw [List.take_of_length_le (show s.length ≤ i by omega)]; rfl), hD⟩
theorem txE_is (c : UInt8) : txE c = if (decide ((c.toNat : Int) = 40) || decide ((c.toNat : Int) = 41) || decide ((c.toNat : Int) = 92)) = true then [92, c] else if (decide ((c.toNat : Int) < 32) || decide ((c.toNat : Int) > 126)) = true then octE c else [c] := by
 have key : ∀ c : UInt8, txE c = if (decide ((c.toNat : Int) = 40) || decide ((c.toNat : Int) = 41) || decide ((c.toNat : Int) = 92)) = true then [92, c] else if (decide ((c.toNat : Int) < 32) || decide ((c.toNat : Int) > 126)) = true then octE c else [c] :=
  all256 (q := fun c => txE c = if (decide ((c.toNat : Int) = 40) || decide ((c.toNat : Int) = 41) || decide ((c.toNat : Int) = 92)) = true then [92, c] else if (decide ((c.toNat : Int) < 32) || decide ((c.toNat : Int) > 126)) = true then octE c else [c]) (by decide +kernel)
 exact key c
theorem octE_valsT (x : UInt8) : #[Value.int .u8 92, .int .u8 (48 + (x.toNat : Int) / 64), .int .u8 (48 + (x.toNat : Int) / 8 % 8), .int .u8 (48 + (x.toNat : Int) % 8)] = (byteVals (octE x)).toArray := by
 have hc := UInt8.toNat_lt x
 have v1 : ((ch (48 + (x.toNat : Int) / 64)).toNat : Int) = 48 + (x.toNat : Int) / 64 := ch_val _ (by omega) (by omega)
 have v2 : ((ch (48 + (x.toNat : Int) / 8 % 8)).toNat : Int) = 48 + (x.toNat : Int) / 8 % 8 := ch_val _ (by omega) (by omega)
 have v3 : ((ch (48 + (x.toNat : Int) % 8)).toNat : Int) = 48 + (x.toNat : Int) % 8 := ch_val _ (by omega) (by omega)
 simp [byteVals, octE, v1, v2, v3]
theorem r18_TextA (s : List UInt8) (w : World) (hs : s.length ≤ 1000000) :
  Calls Tryz.prog 40 #[.string (bs s)] w fun e w' => e = .returned (.string (bs (txT s))) ∧ Below w.heap.size w w' := by
 refine W.enter func40 rfl ntmps40 (Nat.le_of_ble_eq_true rfl) ?_
 have hB0 := Below.refl (w.heap.size) w
 refine W.seq <| W.reg <| WL.p (.as rfl) rfl <| WL.nil <| ?_
 refine W.seq <| W.reg <| WL.bsl (ps := _) underlying22 sizeOf5 zeroValue5 rfl rfl rfl rfl rfl (by simp only [put1, List.map, List.zip, List.zipWith, List.set, List.replicate] <;> rfl) rfl (fun b1 wb1 eb1 hkb1 hub1 hsb1 => ?_)
 have hB2 := Upd.below hB0 (by rw [eb1]; exact hB0.size) hub1
 have hgeb1 : w.heap.size ≤ b1 := by rw [eb1]; exact hB0.size
 have ho3 := Own.lit (m := 1) hkb1 rfl (by unfold maxLen; omega)
 have hle4 : b1 ≤ wb1.heap.size := by omega
 have ho3x : Own _ _ _ _ (byteVals [40]) := ho3
 refine WL.p (.as rfl) rfl <| WL.nil <| ?_
 refine W.seq <| W.seq <| W.reg <| WL.p (.as rfl) rfl <| WL.nil <| ?_
 refine W.block ?_
 refine W.loop (α := Value × Nat) (fun t => [(0, .string (bs s)), (3, t.1), (4, .int .i64 (t.2 : Int))]) (fun t w' => Below w.heap.size w w' ∧ Own 5 b1 w' t.1 (byteVals (40 :: (s.take t.2).flatMap txE)) ∧ t.2 ≤ s.length ∧ b1 ≤ w'.heap.size) (fun t => s.length - t.2) ((_, 0)) ⟨rfl, rfl, rfl, trivial⟩ (⟨hB2, ho3x, Nat.zero_le _, hle4⟩) (fun t w1 hR => ?_)
 obtain ⟨v, i⟩ := t
 obtain ⟨hT, hown, hi, hle0⟩ := hR
 simp only at hown hi ⊢
 have hfl := flat_take_len txE_len s i
 refine W.seq <| W.seq <| W.reg <| WL.p (.mv rfl) rfl <| WL.p (.mv rfl) rfl <| WL.p (.len underlying9 rfl) rfl <| WL.p (.lss rfl rfl) rfl <| WL.nil <| ?_
 refine W.cond rfl (fun h5 => ?_) (fun h5 => ?_)
 ·
  have h5' := of_decide_eq_true h5
  refine W.skip <| W.seq <| W.block <| W.seq ?_
  have hft := flat_take (f := txE) (show i < s.length by omega)
  have hte := txE_is (s[i]'(by omega))
  obtain ⟨n1, hn1⟩ : ∃ b, b = decide (((s[i]'(by omega)).toNat : Int) = 40) := ⟨_, rfl⟩
  obtain ⟨n2, hn2⟩ : ∃ b, b = decide (((s[i]'(by omega)).toNat : Int) = 41) := ⟨_, rfl⟩
  obtain ⟨n3, hn3⟩ : ∃ b, b = decide (((s[i]'(by omega)).toNat : Int) = 92) := ⟨_, rfl⟩
  obtain ⟨n4, hn4⟩ : ∃ b, b = decide (((s[i]'(by omega)).toNat : Int) < 32) := ⟨_, rfl⟩
  obtain ⟨n5, hn5⟩ : ∃ b, b = decide (((s[i]'(by omega)).toNat : Int) > 126) := ⟨_, rfl⟩
  rw [← hn1, ← hn2, ← hn3, ← hn4, ← hn5] at hte
  have hcl := UInt8.toNat_lt (s[i]'(by omega))
  refine W.reg <| WL.p (.mv rfl) rfl <| WL.p (.mv rfl) rfl <| WL.p (.ix underlying9 rfl rfl (i) (rfl) (by omega)) rfl <| WL.p (.as rfl) rfl <| WL.nil <| ?_
  refine W.block ?_
  refine W.cutB 20 ((n1 || n2 || n3)) ?_ ?_
  ·
   skip
   refine W.reg <| WL.p (.mv rfl) rfl <| WL.p (.bis (n1) (.eql rfl rfl) (by exact hn1.symm)) rfl <| WL.p (.mv rfl) rfl <| WL.gd rfl rfl rfl (fun g6 => ?_) (fun g6 => ?_)
   ·
    skip
    refine WL.p (.mv rfl) rfl <| WL.gy rfl rfl rfl g6 <| WL.p (.bis (n2) (.eql rfl rfl) (by exact hn2.symm)) rfl <| WL.p (.pkF rfl g6 rfl) rfl <| WL.p (.mv rfl) rfl <| WL.gd rfl rfl rfl (fun g7 => ?_) (fun g7 => ?_)
    ·
     skip
     refine WL.p (.mv rfl) rfl <| WL.gy rfl rfl rfl g7 <| WL.p (.bis (n3) (.eql rfl rfl) (by exact hn3.symm)) rfl <| WL.p (.pkF rfl g7 rfl) rfl <| WL.p (.as rfl) rfl <| WL.nil <| ?_
     exact ⟨⟨lk_b rfl (by cases n1 <;> cases n2 <;> cases n3 <;> first | rfl | contradiction), by repeat (first | exact Le.refl _ | refine Le.cons rfl ?_)⟩, rfl⟩
    refine WL.gn rfl rfl rfl g7 <| WL.p (.pkT rfl g7 rfl) rfl <| WL.p (.as rfl) rfl <| WL.nil <| ?_
    exact ⟨⟨lk_b rfl (by cases n1 <;> cases n2 <;> cases n3 <;> first | rfl | contradiction), by repeat (first | exact Le.refl _ | refine Le.cons rfl ?_)⟩, rfl⟩
   refine WL.gn rfl rfl rfl g6 <| WL.p (.pkT rfl g6 rfl) rfl <| WL.p (.mv rfl) rfl <| WL.gn rfl rfl rfl rfl <| WL.gn rfl rfl rfl rfl <| WL.p (.pkT rfl rfl rfl) rfl <| WL.p (.as rfl) rfl <| WL.nil <| ?_
   exact ⟨⟨lk_b rfl (by cases n1 <;> cases n2 <;> cases n3 <;> first | rfl | contradiction), by repeat (first | exact Le.refl _ | refine Le.cons rfl ?_)⟩, rfl⟩
  refine W.cond rfl (fun h8 => ?_) (fun h8 => ?_)
  ·
   skip
   refine W.reg <| WL.p (.mv rfl) rfl <| WL.p (.mv rfl) rfl <| WL.bsl (ps := _) underlying22 sizeOf5 zeroValue5 rfl rfl rfl rfl rfl (by simp only [put1, List.map, List.zip, List.zipWith, List.set, List.replicate] <;> rfl) rfl (fun b9 wb9 eb9 hkb9 hub9 hsb9 => ?_)
   have hle11 := Nat.le_trans hle0 hub9.size
   have ho10 := Own.new hown eb9 hub9
   have hB12 := Upd.below hT (by rw [eb9]; exact hT.size) hub9
   have hgeb9 : w.heap.size ≤ b9 := by rw [eb9]; exact hT.size
   have hzz := BytesAt.lit (l := [92, s[i]'(by omega)]) hkb9 (rfl)
   refine WL.appB underlying22 inf5 rfl rfl rfl ho10 rfl hzz (by simp only [byteVals_len, List.length_cons, List.length_nil, octE]; omega) (hle11) rfl (fun h => nomatch h) (fun v13 w14 how14 hbw14 hgw14 => ?_)
   have hB15 := Below.trans hB12 (hbw14.mono (hgeb1))
   have ho16 := Own.cat how14
   have hle17 := Nat.le_trans hle11 hbw14.size
   refine WL.p (.as rfl) rfl <| WL.nil <| ?_
   refine W.reg <| WL.p (.mv rfl) rfl <| WL.p (.iis (((i + 1 : Nat) : Int)) (.add rfl rfl (i64w (by omega))) (by omega)) rfl <| WL.p (.as rfl) rfl <| WL.nil <| ?_
   first
   | exact ⟨(_, i + 1), ⟨rfl, rfl, rfl, trivial⟩, ⟨hB15, by rw [hft, hte, if_pos (by assumption)]; exact ho16, by ((try simp only) <;> omega), hle17⟩, by ((try simp only) <;> omega)⟩
   | exact ⟨(_, i + 1), ⟨rfl, rfl, rfl, trivial⟩, ⟨hB15, by rw [hft, hte, if_neg (bF (by assumption)), if_pos (by assumption)]; exact ho16, by ((try simp only) <;> omega), hle17⟩, by ((try simp only) <;> omega)⟩
   | exact ⟨(_, i + 1), ⟨rfl, rfl, rfl, trivial⟩, ⟨hB15, by rw [hft, hte, if_neg (bF (by assumption)), if_neg (bF (by assumption))]; exact ho16, by ((try simp only) <;> omega), hle17⟩, by ((try simp only) <;> omega)⟩
  refine W.cutB 35 ((n4 || n5)) ?_ ?_
  ·
   skip
   refine W.reg <| WL.p (.mv rfl) rfl <| WL.p (.bis (n4) (.lss rfl rfl) (by exact hn4.symm)) rfl <| WL.p (.mv rfl) rfl <| WL.gd rfl rfl rfl (fun g18 => ?_) (fun g18 => ?_)
   ·
    skip
    refine WL.p (.mv rfl) rfl <| WL.gy rfl rfl rfl g18 <| WL.p (.bis (n5) (.gtr rfl rfl) (by exact hn5.symm)) rfl <| WL.p (.pkF rfl g18 rfl) rfl <| WL.p (.as rfl) rfl <| WL.nil <| ?_
    exact ⟨⟨lk_b rfl (by cases n4 <;> cases n5 <;> first | rfl | contradiction), by repeat (first | exact Le.refl _ | refine Le.cons rfl ?_)⟩, rfl⟩
   refine WL.gn rfl rfl rfl g18 <| WL.p (.pkT rfl g18 rfl) rfl <| WL.p (.as rfl) rfl <| WL.nil <| ?_
   exact ⟨⟨lk_b rfl (by cases n4 <;> cases n5 <;> first | rfl | contradiction), by repeat (first | exact Le.refl _ | refine Le.cons rfl ?_)⟩, rfl⟩
  refine W.cond rfl (fun h19 => ?_) (fun h19 => ?_)
  ·
   skip
   refine W.reg <| WL.p (.mv rfl) rfl <| WL.p (.mv rfl) rfl <| WL.p (.quo rfl rfl (by omega) (u8q (by omega) (by omega) (by omega))) rfl <| WL.p (.iis (48 + ((s[i]'(by omega)).toNat : Int) / 64) (.add rfl rfl (u8w (by omega))) (by omega)) rfl <| WL.p (.mv rfl) rfl <| WL.p (.quo rfl rfl (by omega) (u8q (by omega) (by omega) (by omega))) rfl <| WL.p (.rem rfl rfl (by omega) (Int.tmod_eq_emod_of_nonneg (by omega))) rfl <| WL.p (.iis (48 + ((s[i]'(by omega)).toNat : Int) / 8 % 8) (.add rfl rfl (u8w (by omega))) (by omega)) rfl <| WL.p (.mv rfl) rfl <| WL.p (.rem rfl rfl (by omega) (Int.tmod_eq_emod_of_nonneg (by omega))) rfl <| WL.p (.iis (48 + ((s[i]'(by omega)).toNat : Int) % 8) (.add rfl rfl (u8w (by omega))) (by omega)) rfl <| WL.bsl (ps := _) underlying22 sizeOf5 zeroValue5 rfl rfl rfl rfl rfl (by simp only [put1, List.map, List.zip, List.zipWith, List.set, List.replicate] <;> rfl) rfl (fun b20 wb20 eb20 hkb20 hub20 hsb20 => ?_)
   have hle22 := Nat.le_trans hle0 hub20.size
   have ho21 := Own.new hown eb20 hub20
   have hB23 := Upd.below hT (by rw [eb20]; exact hT.size) hub20
   have hgeb20 : w.heap.size ≤ b20 := by rw [eb20]; exact hT.size
   have hyy := BytesAt.lit (l := octE (s[i]'(by omega))) hkb20 (octE_valsT _)
   refine WL.appB underlying22 inf5 rfl rfl rfl ho21 rfl hyy (by simp only [byteVals_len, List.length_cons, List.length_nil, octE]; omega) (hle22) rfl (fun h => by unfold octE at h; cases h) (fun v24 w25 how25 hbw25 hgw25 => ?_)
   have hB26 := Below.trans hB23 (hbw25.mono (hgeb1))
   have ho27 := Own.cat how25
   have hle28 := Nat.le_trans hle22 hbw25.size
   refine WL.p (.as rfl) rfl <| WL.nil <| ?_
   refine W.reg <| WL.p (.mv rfl) rfl <| WL.p (.iis (((i + 1 : Nat) : Int)) (.add rfl rfl (i64w (by omega))) (by omega)) rfl <| WL.p (.as rfl) rfl <| WL.nil <| ?_
   first
   | exact ⟨(_, i + 1), ⟨rfl, rfl, rfl, trivial⟩, ⟨hB26, by rw [hft, hte, if_pos (by assumption)]; exact ho27, by ((try simp only) <;> omega), hle28⟩, by ((try simp only) <;> omega)⟩
   | exact ⟨(_, i + 1), ⟨rfl, rfl, rfl, trivial⟩, ⟨hB26, by rw [hft, hte, if_neg (bF (by assumption)), if_pos (by assumption)]; exact ho27, by ((try simp only) <;> omega), hle28⟩, by ((try simp only) <;> omega)⟩
   | exact ⟨(_, i + 1), ⟨rfl, rfl, rfl, trivial⟩, ⟨hB26, by rw [hft, hte, if_neg (bF (by assumption)), if_neg (bF (by assumption))]; exact ho27, by ((try simp only) <;> omega), hle28⟩, by ((try simp only) <;> omega)⟩
  refine W.reg <| WL.p (.mv rfl) rfl <| WL.p (.mv rfl) rfl <| WL.bsl (ps := _) underlying22 sizeOf5 zeroValue5 rfl rfl rfl rfl rfl (by simp only [put1, List.map, List.zip, List.zipWith, List.set, List.replicate] <;> rfl) rfl (fun b29 wb29 eb29 hkb29 hub29 hsb29 => ?_)
  have hle31 := Nat.le_trans hle0 hub29.size
  have ho30 := Own.new hown eb29 hub29
  have hB32 := Upd.below hT (by rw [eb29]; exact hT.size) hub29
  have hgeb29 : w.heap.size ≤ b29 := by rw [eb29]; exact hT.size
  refine WL.appm underlying22 inf5 rfl rfl rfl ho30 rfl hkb29 rfl (by simp only [byteVals_len, List.length_cons, List.length_nil, octE]; omega) (hle31) rfl (fun v33 w34 how34 hbw34 hgw34 => ?_)
  have hB35 := Below.trans hB32 (hbw34.mono (hgeb1))
  have ho36 := Own.snoc how34 (s[i]'(by omega)) (rfl)
  have hle37 := Nat.le_trans hle31 hbw34.size
  refine WL.p (.as rfl) rfl <| WL.nil <| ?_
  refine W.reg <| WL.p (.mv rfl) rfl <| WL.p (.iis (((i + 1 : Nat) : Int)) (.add rfl rfl (i64w (by omega))) (by omega)) rfl <| WL.p (.as rfl) rfl <| WL.nil <| ?_
  first
  | exact ⟨(_, i + 1), ⟨rfl, rfl, rfl, trivial⟩, ⟨hB35, by rw [hft, hte, if_pos (by assumption)]; exact ho36, by ((try simp only) <;> omega), hle37⟩, by ((try simp only) <;> omega)⟩
  | exact ⟨(_, i + 1), ⟨rfl, rfl, rfl, trivial⟩, ⟨hB35, by rw [hft, hte, if_neg (bF (by assumption)), if_pos (by assumption)]; exact ho36, by ((try simp only) <;> omega), hle37⟩, by ((try simp only) <;> omega)⟩
  | exact ⟨(_, i + 1), ⟨rfl, rfl, rfl, trivial⟩, ⟨hB35, by rw [hft, hte, if_neg (bF (by assumption)), if_neg (bF (by assumption))]; exact ho36, by ((try simp only) <;> omega), hle37⟩, by ((try simp only) <;> omega)⟩
 have h5' := of_decide_eq_false h5
 refine W.exit <| W.seq ?_
 have hall : s.take i = s := List.take_of_length_le (by omega)
 refine W.reg <| WL.p (.mv rfl) rfl <| WL.bsl (ps := _) underlying22 sizeOf5 zeroValue5 rfl rfl rfl rfl rfl (by simp only [put1, List.map, List.zip, List.zipWith, List.set, List.replicate] <;> rfl) rfl (fun b38 wb38 eb38 hkb38 hub38 hsb38 => ?_)
 have hle40 := Nat.le_trans hle0 hub38.size
 have ho39 := Own.new hown eb38 hub38
 have hB41 := Upd.below hT (by rw [eb38]; exact hT.size) hub38
 have hgeb38 : w.heap.size ≤ b38 := by rw [eb38]; exact hT.size
 refine WL.appm underlying22 inf5 rfl rfl rfl ho39 rfl hkb38 rfl (by simp only [byteVals_len, List.length_cons, List.length_nil, octE]; omega) (hle40) rfl (fun v42 w43 how43 hbw43 hgw43 => ?_)
 have hB44 := Below.trans hB41 (hbw43.mono (hgeb1))
 have ho45 := Own.snoc how43 (41) (rfl)
 have hle46 := Nat.le_trans hle40 hbw43.size
 obtain ⟨pq, cq, eq, hq, hBq, hcq, hnq⟩ := Own.bytesC (l := (40 :: (s.take i).flatMap txE ++ [41])) ho45
 subst eq
 refine WL.r (Rd.b2s (l := (40 :: (s.take i).flatMap txE ++ [41])) underlying22 underlying5 underlying9 rfl (hq)) rfl <| WL.p (.as rfl) rfl <| WL.nil <| ?_
 refine W.ret (W.ret1 rfl rfl ?_)
 exact ⟨ret_val (by rw [hall]; rfl), hB44⟩
end Go.Proofs.YtjghbcjnplcleaaGreatDoor

namespace Go.Proofs.YtjghbcjnplcleaaGreatDoor
open Go.Proofs.Tryz
/-- the first word, and what is behind it -/
def firstW (x : List UInt8) : List UInt8 := (skipS false x).takeWhile regB
def afterW (x : List UInt8) : List UInt8 := (skipS false x).dropWhile regB
/-- no reference goes on here -/
def NoR (k : Int) (r : List UInt8) : Prop := k = 2 → ¬ (firstW r = [48] ∧ firstW (afterW r) = [82])
theorem drop_tw : ∀ x : List UInt8, x.drop (x.takeWhile regB).length = x.dropWhile regB
 | [] => rfl
 | c :: r => by
  rw [List.takeWhile_cons, List.dropWhile_cons]
  cases h : regB c with
  | true => simp only [if_true, List.length_cons, List.drop_succ_cons]; exact drop_tw r
  | false => rfl
theorem drop_word (l : List UInt8) (a : Nat) : l.drop (wordAt l a) = (l.drop a).dropWhile regB := by
 unfold wordAt
 rw [← List.drop_drop]
 exact drop_tw (l.drop a)
theorem refR_words (refs : Bool) (l s : List UInt8) (t : Nat) (r : List UInt8) (h : l.drop t = r) (hn : ¬ (firstW r = [48] ∧ firstW (afterW r) = [82])) : refR refs l s t = none := by
 subst h
 unfold refR
 have e1 : wordL l (skipAt false l t) = firstW (l.drop t) := by rw [wordL_eq, skipAt_drop]; rfl
 have e2 : wordL l (skipAt false l (wordAt l (skipAt false l t))) = firstW (afterW (l.drop t)) := by rw [wordL_eq, skipAt_drop, drop_word, skipAt_drop]; rfl
 rw [e1, e2]
 split
 ·
  split
  ·
   rw [if_neg fun h => hn ⟨by assumption, h⟩]
  ·
   rfl
 ·
  rfl
section
variable {l : List UInt8} {t : Nat}
theorem head_at {c : UInt8} {r : List UInt8} (h : l.drop t = c :: r) : l[t]? = some c ∧ t < l.length ∧ l.drop (t + 1) = r := by
 have h0 : (l.drop t)[0]? = some c := by rw [h]; rfl
 rw [List.getElem?_drop] at h0
 refine ⟨h0, (List.getElem?_eq_some_iff.1 h0).1, ?_⟩
 rw [← List.drop_drop, h]; rfl
theorem plain_case (d : Nat) {c : UInt8} {r : List UInt8} (h : l.drop t = c :: r) (h1 : c ≠ 47) (h2 : c ≠ 91) (h3 : c ≠ 40) (h4 : c ≠ 60) : objP true l d t = plainO (plexW true l t) := by
 have := objP_at true l (d : Int) t c (head_at h).1
 rw [Int.toNat_natCast, if_neg h1, if_neg h2, if_neg h3, if_neg h4] at this
 exact this
end
/-- a byte with which an object begins -/
def headB (c : UInt8) : Bool := !blankB c && !(c == 37) && !(c == 93) && !(c == 62) && !(c == 82)
theorem num_head {c : UInt8} (h : isDig c = true ∨ c = 45 ∨ c = 43) : headB c = true ∧ c ≠ 47 ∧ c ≠ 91 ∧ c ≠ 40 ∧ c ≠ 60 ∧ c ≠ 110 ∧ c ≠ 116 ∧ c ≠ 102 := by
 have key : ∀ c : UInt8, (isDig c = true ∨ c = 45 ∨ c = 43) → headB c = true ∧ c ≠ 47 ∧ c ≠ 91 ∧ c ≠ 40 ∧ c ≠ 60 ∧ c ≠ 110 ∧ c ≠ 116 ∧ c ≠ 102 :=
  all256 (q := fun c => (isDig c = true ∨ c = 45 ∨ c = 43) → headB c = true ∧ c ≠ 47 ∧ c ≠ 91 ∧ c ≠ 40 ∧ c ≠ 60 ∧ c ≠ 110 ∧ c ≠ 116 ∧ c ≠ 102) (by decide +kernel)
 exact key c h
theorem pr_head {D : Int} {st : Bool} {o : AV} (h : Snd D st o) : ∃ c r, prO o = c :: r ∧ headB c = true := by
 cases h with
 | null => exact ⟨_, _, by simp [prO]; exact ⟨rfl, rfl⟩, by decide⟩
 | bool _ _ n h => rcases h with rfl | rfl <;> exact ⟨_, _, by simp [prO]; exact ⟨rfl, rfl⟩, by decide⟩
 | num _ _ k n hk h =>
  rcases hk with rfl | rfl
  ·
   obtain ⟨c, r, e, hc⟩ := dec_head n h
   exact ⟨c, r, by simp [prO]; exact e, (num_head hc).1⟩
  ·
   obtain ⟨c, r, e, hc⟩ := real_head n h
   exact ⟨c, r, by simp [prO, norm_fits h]; exact e, (num_head hc).1⟩
 | name _ _ t h => exact ⟨47, _, by simp [prO, nmT]; rfl, by decide⟩
 | text _ _ t h => exact ⟨40, _, by simp [prO, txT]; rfl, by decide⟩
 | ref _ _ n h =>
  obtain ⟨c, r, e, hc⟩ := dec_head n (by simp [fitsB]; omega)
  exact ⟨c, r ++ [32, 48, 32, 82], by simp [prO, e], (num_head hc).1⟩
 | arr _ _ l hD hl h => exact ⟨91, _, by simp [prO]; rfl, by decide⟩
 | dict _ _ k ks l d hk hD hl hkl hn hnd h => rcases hk with ⟨rfl, -⟩ | ⟨rfl, -⟩ <;> exact ⟨60, _, by simp [prO]; rfl, by decide⟩
theorem headB_f {c : UInt8} (h : headB c = true) : blankB c = false ∧ c ≠ 37 ∧ c ≠ 93 ∧ c ≠ 62 ∧ c ≠ 82 := by
 simp only [headB, Bool.and_eq_true, Bool.not_eq_true', beq_eq_false_iff_ne] at h
 exact ⟨h.1.1.1.1, h.1.1.1.2, h.1.1.2, h.1.2, h.2⟩
theorem pr_skip {D : Int} {st : Bool} {o : AV} (h : Snd D st o) (x : List UInt8) : skipS false (prO o ++ x) = prO o ++ x := by
 obtain ⟨c, r, e, hc⟩ := pr_head h
 have := headB_f hc
 rw [e, List.cons_append, skipS_stop this.1 this.2.1]
theorem first_R {D : Int} {st : Bool} {o : AV} (h : Snd D st o) (x : List UInt8) : firstW (prO o ++ x) ≠ [82] := by
 obtain ⟨c, r, e, hc⟩ := pr_head h
 have := headB_f hc
 unfold firstW
 rw [pr_skip h, e, List.cons_append, List.takeWhile_cons]
 split
 ·
  exact fun he => this.2.2.2.2 (List.cons.inj he).1
 ·
  exact fun he => by cases he
/-- if the first word is a nought, that is all -/
theorem first_0 {D : Int} {st : Bool} {o : AV} (h : Snd D st o) {x : List UInt8} (hx : Bnd x) (h0 : firstW (prO o ++ x) = [48]) : afterW (prO o ++ x) = x := by
 have hw : ∀ A : List UInt8, (∀ y ∈ A, regB y = true) → prO o = A → firstW (prO o ++ x) = A ∧ afterW (prO o ++ x) = x := fun A hA e => by
  unfold firstW afterW
  rw [pr_skip h, e, tw_app hA hx, dw_app hA hx]; exact ⟨rfl, rfl⟩
 have hd : ∀ (c : UInt8) (r : List UInt8), prO o = c :: r → regB c = false → firstW (prO o ++ x) = [] := fun c r e hc => by
  unfold firstW
  rw [pr_skip h, e, List.cons_append, List.takeWhile_cons, hc]; rfl
 cases h with
 | null => exact (hw [110, 117, 108, 108] (by decide) (by simp [prO])).2
 | bool _ _ n h =>
  rcases h with rfl | rfl
  ·
   exact (hw [102, 97, 108, 115, 101] (by decide) (by simp [prO])).2
  ·
   exact (hw [116, 114, 117, 101] (by decide) (by simp [prO])).2
 | num _ _ k n hk h =>
  rcases hk with rfl | rfl
  ·
   exact (hw _ (dec_reg n h) (by simp [prO])).2
  ·
   exact (hw _ (real_facts n h).2.2 (by simp [prO, norm_fits h])).2
 | name _ _ t h => rw [hd 47 (t.flatMap nmE) (by simp [prO, nmT]) (by decide)] at h0; cases h0
 | text _ _ t h => rw [hd 40 _ (by simp [prO, txT]; rfl) (by decide)] at h0; cases h0
 | ref _ _ n h =>
  exfalso
  have hf : fitsB n = true := by simp [fitsB]; omega
  have hs := pr_skip (Snd.ref D st n h) x
  unfold firstW at h0
  have e : prO (.mk 8 n [] [] [] []) = decL n ++ [32, 48, 32, 82] := by simp [prO]
  rw [hs, e, List.append_assoc, show ([32, 48, 32, 82] : List UInt8) ++ x = 32 :: (48 :: 32 :: 82 :: x) from rfl, tw_app (dec_reg n hf) (Bnd.cons (by decide))] at h0
  obtain ⟨m, W, e2, -, -, -, hv, -⟩ := dec_form n hf
  have hn : natOf (digitsL n.natAbs) = n.natAbs := (digitsL_val n.natAbs).2.1
  have hd2 : decL n = digitsL n.natAbs := by unfold decL; rw [if_neg (by omega)]
  rw [hd2] at h0
  rw [h0] at hn
  have : natOf [48] = 0 := by decide
  omega
 | arr _ _ l hD hl h => rw [hd 91 _ (by simp [prO]; rfl) (by decide)] at h0; cases h0
 | dict _ _ k ks l d hk hD hl hkl hn hnd h =>
  have e : ∃ r, prO (.mk k 0 [] ks l d) = 60 :: r := by rcases hk with ⟨rfl, -⟩ | ⟨rfl, -⟩ <;> exact ⟨_, by simp [prO]; rfl⟩
  obtain ⟨r, e⟩ := e
  rw [hd 60 r e (by decide)] at h0; cases h0
theorem bnd_list (r : List AV) (x : List UInt8) : Bnd (prB r ++ 93 :: x) := by
 cases r with
 | nil => exact Bnd.cons (by decide)
 | cons o r => rw [prB]; exact Bnd.cons (by decide)
theorem firstW_32 (x : List UInt8) : firstW (32 :: x) = firstW x ∧ afterW (32 :: x) = afterW x := by unfold firstW afterW; rw [skipS_32]; exact ⟨rfl, rfl⟩
theorem firstW_delim {c : UInt8} (x : List UInt8) (h : regB c = false) (h1 : blankB c = false) (h2 : c ≠ 37) : firstW (c :: x) = [] := by
 unfold firstW; rw [skipS_stop h1 h2, List.takeWhile_cons, h]; rfl
theorem nr_list {D : Int} (k : Int) (r : List AV) (hr : ∀ o ∈ r, Snd D false o) (x : List UInt8) : NoR k (prB r ++ 93 :: x) := by
 intro _ ⟨h0, h1⟩
 cases r with
 | nil =>
  rw [show prB [] ++ 93 :: x = 93 :: x by simp [prB], firstW_delim x (by decide) (by decide) (by decide)] at h0; cases h0
 | cons o r =>
  have e : prB (o :: r) ++ 93 :: x = 32 :: (prO o ++ (prB r ++ 93 :: x)) := by simp [prB]
  rw [e, (firstW_32 _).1] at h0
  rw [e, (firstW_32 _).2, first_0 (hr o (by simp)) (bnd_list r x) h0] at h1
  cases r with
  | nil => rw [show prB [] ++ 93 :: x = 93 :: x by simp [prB], firstW_delim x (by decide) (by decide) (by decide)] at h1; cases h1
  | cons o2 r =>
   have e : prB (o2 :: r) ++ 93 :: x = 32 :: (prO o2 ++ (prB r ++ 93 :: x)) := by simp [prB]
   rw [e, (firstW_32 _).1] at h1
   exact first_R (hr o2 (by simp)) _ h1
/-- what is behind a dictionary's names and objects -/
theorem pairs_head (ks : List (List UInt8)) (r : List AV) (x : List UInt8) : ∃ c y, prP ks r ++ 32 :: 62 :: x = 32 :: c :: y ∧ (c = 47 ∨ c = 62) := by
 match ks, r with
 | [], r => exact ⟨62, x, by simp [prP], .inr rfl⟩
 | k :: ks, [] => exact ⟨62, x, by simp [prP], .inr rfl⟩
 | k :: ks, o :: r => exact ⟨47, k.flatMap nmE ++ 32 :: (prO o ++ prP ks r) ++ 32 :: 62 :: x, by simp [prP, nmT], .inl rfl⟩
theorem nr_pairs (k : Int) (ks : List (List UInt8)) (r : List AV) (x : List UInt8) : NoR k (prP ks r ++ 32 :: 62 :: x) := by
 intro _ ⟨h0, _⟩
 obtain ⟨c, y, e, hc⟩ := pairs_head ks r x
 rw [e, (firstW_32 _).1, firstW_delim y (by rcases hc with rfl | rfl <;> decide) (by rcases hc with rfl | rfl <;> decide) (by rcases hc with rfl | rfl <;> decide)] at h0
 cases h0
theorem prB_ge : ∀ l : List AV, l.length ≤ (prB l).length
 | [] => Nat.le_refl _
 | o :: r => by
  have := prB_ge r
  rw [prB, List.length_cons, List.length_cons, List.length_append]; omega
theorem prP_ge : ∀ (ks : List (List UInt8)) (l : List AV), ks.length = l.length → l.length ≤ (prP ks l).length
 | [], [], _ => Nat.le_refl _
 | k :: ks, o :: r, h => by
  have := prP_ge ks r (by simpa using h)
  simp only [prP, List.length_cons, List.length_append]; omega
/-- an object is read as it was written -/
def Reads (o : AV) : Prop := ∀ (l : List UInt8) (t : Nat) (rest : List UInt8) (d : Nat), t ≤ l.length → l.drop t = prO o ++ rest → Bnd rest → NoR o.kind rest → objP true l d t = if dpO o ≤ d then .ok (pvO o, l.length - rest.length) else .error 25
theorem step_over {l A r : List UInt8} {t : Nat} (ht : t ≤ l.length) (h : l.drop t = A ++ r) : l.drop (l.length - r.length) = r ∧ l.length - r.length ≤ l.length ∧ r.length ≤ l.length := by
 have hl := congrArg List.length h
 rw [List.length_drop, List.length_append] at hl
 refine ⟨?_, by omega, by omega⟩
 rw [show l.length - r.length = t + A.length by omega, ← List.drop_drop, h, List.drop_left]
theorem listP_print (l : List UInt8) (d : Nat) (rest : List UInt8) {D : Int} : ∀ (r : List AV) (acc : List PV) (t f : Nat), (∀ o ∈ r, Snd D false o) → (∀ o ∈ r, Reads o) → t ≤ l.length → skipS false (l.drop t) = (prB r).drop 1 ++ 93 :: rest → r.length < f → acc.length + r.length ≤ 65535 →
  listP (objP true l d) l f acc t = if dpL r ≤ d then .ok (acc ++ pvL r, l.length - rest.length) else .error 25
 | [], acc, t, f, _, _, ht, h, hf, _ => by
  obtain ⟨-, h2⟩ := skip_at h
  rw [show (prB []).drop 1 ++ 93 :: rest = 93 :: rest by simp [prB]] at h2
  obtain ⟨h3, h4, -⟩ := head_at h2
  have hl := congrArg List.length h2
  rw [List.length_drop, List.length_cons] at hl
  rw [listP_step (by omega), h3]
  simp only [if_true]
  rw [if_pos (show dpL [] ≤ d by simp [dpL])]
  congr 2
  ·
   simp [pvL]
  ·
   omega
 | o :: r, acc, t, f, hS, hR, ht, h, hf, ha => by
  obtain ⟨-, h2⟩ := skip_at h
  have hso := hS o (by simp)
  rw [show (prB (o :: r)).drop 1 ++ 93 :: rest = prO o ++ (prB r ++ 93 :: rest) by simp [prB]] at h2
  obtain ⟨c, q, hq, hc⟩ := pr_head hso
  obtain ⟨h3, h4, -⟩ := head_at (show l.drop (skipAt false l t) = c :: (q ++ (prB r ++ 93 :: rest)) by rw [h2, hq]; rfl)
  rw [listP_step (by omega), h3]
  simp only
  simp only [List.length_cons] at hf ha
  rw [if_neg (headB_f hc).2.2.1, if_neg (by omega)]
  rw [hR o (by simp) l _ _ d (by omega) h2 (bnd_list r rest) (nr_list o.kind r (fun x hx => hS x (by simp [hx])) rest)]
  by_cases hd : dpO o ≤ d
  ·
   rw [if_pos hd]
   simp only
   obtain ⟨g1, g2, g3⟩ := step_over (by omega) h2
   rw [listP_print l d rest r (acc ++ [pvO o]) _ (f - 1) (fun x hx => hS x (by simp [hx])) (fun x hx => hR x (by simp [hx])) g2 (by
    rw [g1]
    cases r with
    | nil => rw [show prB [] ++ 93 :: rest = 93 :: rest by simp [prB]]; exact skipS_stop (by decide) (by decide)
    | cons o2 r2 =>
     rw [show prB (o2 :: r2) ++ 93 :: rest = 32 :: (prO o2 ++ (prB r2 ++ 93 :: rest)) by simp [prB], skipS_32, pr_skip (hS o2 (by simp))]
     simp [prB]) (by omega) (by rw [List.length_append, List.length_singleton]; omega)]
   have e : dpL (o :: r) = max (dpO o) (dpL r) := by rw [dpL]
   by_cases h5 : dpL r ≤ d
   ·
    rw [if_pos h5, if_pos (by omega)]; simp [pvL]
   ·
    rw [if_neg h5, if_neg (by omega)]
  ·
   rw [if_neg hd]
   simp only
   rw [if_neg (by rw [dpL]; omega)]
theorem pairsP_print (l : List UInt8) (d : Nat) (rest : List UInt8) {D : Int} : ∀ (ks : List (List UInt8)) (r : List AV) (ka : List (List UInt8)) (acc : List PV) (t f : Nat), ks.length = r.length → (∀ k ∈ ks, nmOk k) → (ka ++ ks).Nodup → (∀ o ∈ r, Snd D false o) → (∀ o ∈ r, Reads o) → t ≤ l.length →
  skipS false (l.drop t) = (prP ks r ++ 32 :: 62 :: 62 :: rest).drop 1 → r.length < f → acc.length + r.length ≤ 65535 →
  pairsP (objP true l d) l f ka acc t = if dpL r ≤ d then .ok (ka ++ ks, acc ++ pvL r, l.length - rest.length) else .error 25
 | [], [], ka, acc, t, f, _, _, _, _, _, ht, h, hf, _ => by
  obtain ⟨-, h2⟩ := skip_at h
  rw [show (prP [] [] ++ 32 :: 62 :: 62 :: rest).drop 1 = 62 :: 62 :: rest by simp [prP]] at h2
  obtain ⟨h3, h4, h5⟩ := head_at h2
  obtain ⟨h6, h7, -⟩ := head_at h5
  have hl := congrArg List.length h2
  rw [List.length_drop, List.length_cons, List.length_cons] at hl
  rw [pairsP_step (by omega), h3]
  simp only
  rw [if_neg (by rintro ⟨-, h⟩; omega), if_pos (by exact ⟨by trivial, h6⟩), if_pos (show dpL [] ≤ d by simp [dpL])]
  congr 3
  ·
   simp
  ·
   simp [pvL]
  ·
   omega
 | k :: ks, o :: r, ka, acc, t, f, hkl, hk, hnd, hS, hR, ht, h, hf, ha => by
  obtain ⟨-, h2⟩ := skip_at h
  have hso := hS o (by simp)
  have e0 : (prP (k :: ks) (o :: r) ++ 32 :: 62 :: 62 :: rest).drop 1 = 47 :: (k.flatMap nmE ++ 32 :: (prO o ++ (prP ks r ++ 32 :: 62 :: 62 :: rest))) := by simp [prP, nmT]
  rw [e0] at h2
  obtain ⟨h3, h4, h5⟩ := head_at h2
  simp only [List.length_cons] at hf ha
  have hnm := nameP_at (by omega) h5 (hk k (by simp)) (Bnd.cons (by decide))
  obtain ⟨g1, g2, g3⟩ := step_over (by omega) h5
  have g4 : skipS false (l.drop (l.length - (32 :: (prO o ++ (prP ks r ++ 32 :: 62 :: 62 :: rest))).length)) = prO o ++ (prP ks r ++ 32 :: 62 :: 62 :: rest) := by rw [g1, skipS_32, pr_skip hso]
  obtain ⟨-, g5⟩ := skip_at g4
  obtain ⟨c, q, hq, hc⟩ := pr_head hso
  obtain ⟨g6, g7, -⟩ := head_at (g5.trans (show _ = c :: (q ++ (prP ks r ++ 32 :: 62 :: 62 :: rest)) by rw [hq]; rfl))
  obtain ⟨c2, y2, e2, hc2⟩ := pairs_head ks r (62 :: rest)
  rw [pairsP_step (by omega), h3]
  simp only
  rw [if_neg (by rintro ⟨h, -⟩; cases h), if_neg (by rintro ⟨h, -⟩; cases h), if_neg (by simp), hnm]
  simp only
  have hka : k ∉ ka := fun hm => by
   have := (List.nodup_append.1 hnd).2.2 k hm k (by simp)
   exact this rfl
  rw [if_neg hka, if_neg (by omega), g6]
  simp only
  rw [hR o (by simp) l _ _ d (by omega) g5 (by rw [e2]; exact Bnd.cons (by decide)) (nr_pairs o.kind ks r (62 :: rest))]
  by_cases hd : dpO o ≤ d
  ·
   rw [if_pos hd]
   simp only
   obtain ⟨k1, k2, k3⟩ := step_over (by omega) g5
   rw [pairsP_print l d rest ks r (ka ++ [k]) (acc ++ [pvO o]) _ (f - 1) (by simpa using hkl) (fun x hx => hk x (by simp [hx])) (by simpa using hnd) (fun x hx => hS x (by simp [hx])) (fun x hx => hR x (by simp [hx])) k2 (by
    rw [k1, e2, skipS_32, skipS_stop (by rcases hc2 with rfl | rfl <;> decide) (by rcases hc2 with rfl | rfl <;> decide)]; rfl) (by omega) (by rw [List.length_append, List.length_singleton]; omega)]
   have e : dpL (o :: r) = max (dpO o) (dpL r) := by rw [dpL]
   by_cases h5 : dpL r ≤ d
   ·
    rw [if_pos h5, if_pos (by omega)]; simp [pvL]
   ·
    rw [if_neg h5, if_neg (by omega)]
  ·
   rw [if_neg hd]
   simp only
   rw [if_neg (by rw [dpL]; omega)]
theorem plexW_num (l : List UInt8) (t : Nat) (k n : Int) (s : List UInt8) (hs : wordL l t = s) (hh : ∃ c r, s = c :: r ∧ (isDig c = true ∨ c = 45 ∨ c = 43)) (hr : refR true l s (wordAt l t) = none) (hn : numR s = (k, n, true)) : plexW true l t = ⟨k, n, s, true, wordAt l t⟩ := by
 obtain ⟨c, r, e, hc⟩ := hh
 have hq := num_head hc
 unfold plexW
 rw [hs, if_neg (by rw [e]; intro h; exact hq.2.2.2.2.2.1 (List.cons.inj h).1), if_neg (by rw [e]; intro h; exact hq.2.2.2.2.2.2.1 (List.cons.inj h).1), if_neg (by rw [e]; intro h; exact hq.2.2.2.2.2.2.2 (List.cons.inj h).1), hr, hn]
 simp
theorem wholeV_dec (n : Int) (h : 1 ≤ n ∧ n ≤ 4096) : wholeV (decL n) 4096 = (n, true) := by
 obtain ⟨a, b, c⟩ := digitsL_val n.natAbs
 have hl := digitsL_len 3 n.natAbs (by omega)
 have hd : decL n = digitsL n.natAbs := by unfold decL; rw [if_neg (by omega)]
 unfold wholeV wholeOk
 rw [hd, List.all_eq_true.2 a, decide_eq_true (show (digitsL n.natAbs).length ≤ 10 by omega), decide_eq_false c]
 simp only [Bool.not_false, Bool.and_self, if_true]
 rw [b]
 simp; omega
/-- what is written is read -/
theorem reads {D : Int} {st : Bool} {o : AV} (h : Snd D st o) : o.kind ≠ 9 → Reads o := by
  induction h with
  | null D st =>
    intro _ l t rest d ht h hb _
    have e : prO (.mk 0 0 [] [] [] []) = [110, 117, 108, 108] := by simp [prO]
    rw [e] at h
    obtain ⟨w1, w2, -⟩ := word_at ht h (by decide) hb
    rw [plain_case d h (by decide) (by decide) (by decide) (by decide), if_pos (by simp [dpO])]
    unfold plexW
    rw [w1, if_pos rfl, w2]; simp [plainO, pvO, pvL, pv0]
  | bool D st n hn =>
    intro _ l t rest d ht h hb _
    rcases hn with rfl | rfl
    · have e : prO (.mk 1 0 [] [] [] []) = [102, 97, 108, 115, 101] := by simp [prO]
      rw [e] at h
      obtain ⟨w1, w2, -⟩ := word_at ht h (by decide) hb
      rw [plain_case d h (by decide) (by decide) (by decide) (by decide), if_pos (by simp [dpO])]
      unfold plexW
      rw [w1, if_neg (by decide), if_neg (by decide), if_pos rfl, w2]; simp [plainO, pvO, pvL, pv0]
    · have e : prO (.mk 1 1 [] [] [] []) = [116, 114, 117, 101] := by simp [prO]
      rw [e] at h
      obtain ⟨w1, w2, -⟩ := word_at ht h (by decide) hb
      rw [plain_case d h (by decide) (by decide) (by decide) (by decide), if_pos (by simp [dpO])]
      unfold plexW
      rw [w1, if_neg (by decide), if_pos rfl, w2]; simp [plainO, pvO, pvL, pv0]
  | num D st k n hk hf =>
    intro _ l t rest d ht h hb hnr
    rcases hk with rfl | rfl
    · have e : prO (.mk 2 n [] [] [] []) = decL n := by simp [prO]
      rw [e] at h
      obtain ⟨w1, w2, w3⟩ := word_at ht h (dec_reg n hf) hb
      obtain ⟨c, r, ec, hc⟩ := dec_head n hf
      have hq := num_head hc
      rw [plain_case d (show l.drop t = c :: (r ++ rest) by rw [h, ec]; rfl) hq.2.1 hq.2.2.1 hq.2.2.2.1 hq.2.2.2.2.1, if_pos (by simp [dpO])]
      rw [plexW_num l t 2 n _ w1 ⟨c, r, ec, hc⟩ (refR_words _ _ _ _ _ w3 (hnr rfl)) (numR_dec n hf), w2]
      simp [plainO, pvO, pvL, pv0]
    · have e : prO (.mk 3 n [] [] [] []) = realL n := by simp [prO, norm_fits hf]
      rw [e] at h
      obtain ⟨p1, p2, p3⟩ := real_facts n hf
      obtain ⟨w1, w2, w3⟩ := word_at ht h p3 hb
      obtain ⟨c, r, ec, hc⟩ := real_head n hf
      have hq := num_head hc
      rw [plain_case d (show l.drop t = c :: (r ++ rest) by rw [h, ec]; rfl) hq.2.1 hq.2.2.1 hq.2.2.2.1 hq.2.2.2.2.1, if_pos (by simp [dpO])]
      have hno : (wholeV (realL n) 4096).2 = false := by
        unfold wholeV wholeOk
        have : (realL n).all isDig = false := by
          cases hx : (realL n).all isDig with
          | false => rfl
          | true => exact absurd (List.all_eq_true.1 hx 46 (List.contains_iff_mem.1 p2)) (by decide)
        rw [this]; simp
      rw [plexW_num l t 3 n _ w1 ⟨c, r, ec, hc⟩ (by unfold refR; rw [hno]; simp) (by unfold numR; rw [p2, p1]; rfl), w2]
      simp [plainO, pvO, pvL, pv0]
  | name D st s hs =>
    intro _ l t rest d ht h hb _
    have e : prO (.mk 4 0 s [] [] []) = 47 :: s.flatMap nmE := by simp [prO, nmT]
    rw [e] at h
    obtain ⟨h1, h2, h3⟩ := head_at h
    have := objP_at true l (d : Int) t 47 h1
    rw [Int.toNat_natCast, if_pos rfl] at this
    rw [this, if_pos (by simp [dpO])]
    unfold nameO
    rw [nameP_at (by omega) h3 hs hb]
    simp [pvO, pvL, pv0]
  | text D st s hs =>
    intro _ l t rest d ht h hb _
    have e : prO (.mk 5 0 s [] [] []) = txT s := by simp [prO]
    rw [e] at h
    obtain ⟨h1, h2, h3⟩ := head_at (show l.drop t = 40 :: ((s.flatMap txE ++ [41]) ++ rest) by rw [h]; rfl)
    have := objP_at true l (d : Int) t 40 h1
    rw [Int.toNat_natCast, if_neg (by decide), if_neg (by decide), if_pos rfl] at this
    rw [this, if_pos (by simp [dpO])]
    unfold textP
    rw [textR_at ht h hs]
    simp [pvO, pvL, pv0]
  | ref D st n hn =>
    intro _ l t rest d ht h hb _
    have hf : fitsB n = true := by simp [fitsB]; omega
    have e : prO (.mk 8 n [] [] [] []) = decL n ++ [32, 48, 32, 82] := by simp [prO]
    rw [e, List.append_assoc] at h
    obtain ⟨w1, w2, w3⟩ := word_at ht h (dec_reg n hf) (Bnd.cons (by decide))
    obtain ⟨c, r, ec, hc⟩ := dec_head n hf
    have hq := num_head hc
    have hlen := congrArg List.length h
    simp only [List.length_drop, List.length_append, List.length_cons, List.length_nil] at hlen
    rw [plain_case d (show l.drop t = c :: (r ++ ([32, 48, 32, 82] ++ rest)) by rw [h, ec]; rfl) hq.2.1 hq.2.2.1 hq.2.2.2.1 hq.2.2.2.2.1, if_pos (by simp [dpO])]
    have s1 : skipS false (l.drop (wordAt l t)) = 48 :: 32 :: 82 :: rest := by rw [w3]; exact (skipS_32 _).trans (skipS_stop (by decide) (by decide))
    obtain ⟨-, a1⟩ := skip_at s1
    obtain ⟨u1, u2, u3⟩ := word_at (skipAt_le _ _ _) (show l.drop (skipAt false l (wordAt l t)) = [48] ++ (32 :: 82 :: rest) by rw [a1]; rfl) (by decide) (Bnd.cons (by decide))
    have s2 : skipS false (l.drop (wordAt l (skipAt false l (wordAt l t)))) = 82 :: rest := by rw [u3]; exact (skipS_32 _).trans (skipS_stop (by decide) (by decide))
    obtain ⟨-, a2⟩ := skip_at s2
    obtain ⟨v1, v2, v3⟩ := word_at (skipAt_le _ _ _) (show l.drop (skipAt false l (wordAt l (skipAt false l (wordAt l t)))) = [82] ++ rest by rw [a2]; rfl) (by decide) hb
    have hR : refR true l (decL n) (wordAt l t) = some (n, l.length - rest.length) := by
      unfold refR
      rw [wholeV_dec n hn, u1, v1, v2]
      simp; omega
    unfold plexW
    rw [w1, if_neg (by rw [ec]; intro h; exact hq.2.2.2.2.2.1 (List.cons.inj h).1), if_neg (by rw [ec]; intro h; exact hq.2.2.2.2.2.2.1 (List.cons.inj h).1), if_neg (by rw [ec]; intro h; exact hq.2.2.2.2.2.2.2 (List.cons.inj h).1), hR]
    simp [plainO, pvO, pvL, pv0, refK, refT]
  | arr D st L hD hl hS ih =>
    intro _ l t rest d ht h hb _
    have e : prO (.mk 6 0 [] [] L []) = 91 :: ((prB L).drop 1 ++ [93]) := by simp [prO]
    rw [e] at h
    obtain ⟨h1, h2, h3⟩ := head_at (show l.drop t = 91 :: ((prB L).drop 1 ++ [93] ++ rest) by rw [h]; rfl)
    have := objP_at true l (d : Int) t 91 h1
    rw [Int.toNat_natCast, if_neg (by decide), if_pos rfl] at this
    rw [this]
    have hdp : dpO (.mk 6 0 [] [] L []) = dpL L + 1 := by simp [dpO]
    rw [hdp]
    by_cases hd : (d : Int) < 1
    · rw [if_pos hd, if_neg (by omega)]
    · rw [if_neg hd, show ((d : Int) - 1).toNat = d - 1 by omega]
      have hlen := congrArg List.length h3
      have hge := prB_ge L
      simp only [List.length_drop, List.length_append, List.length_cons, List.length_nil] at hlen
      rw [listP_print l (d - 1) rest L [] (t + 1) (l.length + 1) hS (fun o ho => ih o ho (snd_no9 (hS o ho))) (by omega) (by
        rw [h3]
        cases L with
        | nil => simp only [prB, List.drop_nil, List.nil_append, List.cons_append]; exact skipS_stop (by decide) (by decide)
        | cons o r =>
          rw [show (prB (o :: r)).drop 1 ++ [93] ++ rest = prO o ++ (prB r ++ 93 :: rest) by simp [prB], pr_skip (hS o (by simp))]
          simp [prB]) (by omega) (by simpa using hl)]
      by_cases h5 : dpL L ≤ d - 1
      · rw [if_pos h5, if_pos (by omega)]; simp [listO, pvO]
      · rw [if_neg h5, if_neg (by omega)]; rfl
  | dict D st k ks L dd hk hD hl hkl hn hnd hS ih =>
    intro h9 l t rest d ht h hb _
    rcases hk with ⟨rfl, rfl⟩ | ⟨rfl, -⟩
    · have e : prO (.mk 7 0 [] ks L []) = 60 :: 60 :: (prP ks L ++ [32, 62, 62]) := by simp [prO]
      rw [e] at h
      obtain ⟨h1, h2, h3⟩ := head_at (show l.drop t = 60 :: (60 :: (prP ks L ++ [32, 62, 62] ++ rest)) by rw [h]; rfl)
      obtain ⟨h4, h5, h6⟩ := head_at h3
      have := objP_at true l (d : Int) t 60 h1
      rw [Int.toNat_natCast, if_neg (by decide), if_neg (by decide), if_neg (by decide), if_pos rfl, if_neg (by omega), if_neg (fun h => h h4)] at this
      rw [this]
      have hdp : dpO (.mk 7 0 [] ks L []) = dpL L + 1 := by simp [dpO]
      rw [hdp]
      by_cases hd : (d : Int) < 1
      · rw [if_pos hd, if_neg (by omega)]
      · rw [if_neg hd, show ((d : Int) - 1).toNat = d - 1 by omega]
        have hlen := congrArg List.length h6
        have hge := prP_ge ks L hkl
        simp only [List.length_drop, List.length_append, List.length_cons, List.length_nil] at hlen
        obtain ⟨c2, y2, e2, hc2⟩ := pairs_head ks L (62 :: rest)
        have e3 : l.drop (t + 1 + 1) = 32 :: c2 :: y2 := by rw [h6, ← e2]; simp
        rw [pairsP_print l (d - 1) rest ks L [] [] (t + 2) (l.length + 1) hkl hn (by simpa using hnd) hS (fun o ho => ih o ho (snd_no9 (hS o ho))) (by omega) (by
          rw [show t + 2 = t + 1 + 1 from rfl, e3, e2, skipS_32, skipS_stop (by rcases hc2 with rfl | rfl <;> decide) (by rcases hc2 with rfl | rfl <;> decide)]; rfl) (by omega) (by simpa using hl)]
        by_cases h5 : dpL L ≤ d - 1
        · rw [if_pos h5, if_pos (by omega)]; simp [pairsO, pvO]
        · rw [if_neg h5, if_neg (by omega)]; rfl
    · exact absurd rfl h9
end Go.Proofs.YtjghbcjnplcleaaGreatDoor

namespace Go.Proofs.YtjghbcjnplcleaaGreatDoor
open Go.Proofs.Tryz
open Go.RowKit
theorem ref_Print_not (n : Int) (w : World) (h : fitsB n = false) :
  Calls Tryz.prog 65 #[.int .i64 n] w fun e w' => e = .returned (.string (bs [48])) ∧ Below w.heap.size w w' := by
 go_enter func65, ntmps65
 go_wp2_with (go_at_call 62; refine (ref_Fits _ _).mono ?_; rintro e w1 ⟨rfl, rfl⟩)
 go_ret
 exact ⟨rfl, Below.refl _ _⟩
theorem decL_pos (n : Int) (h : 0 ≤ n) : decL n = digitsL n.toNat := by
 unfold decL; rw [if_neg (by omega)]; congr 1; omega
theorem printL_of (n m : Int) (hm : m = (n.natAbs : Int)) : printL n = signL n ++ decL (m / 65536) ++ (if 0 < m % 65536 then [46] else []) ++ fracL (m % 65536).toNat := by
  subst hm
  rw [decL_pos _ (by omega)]
  have e1 : ((n.natAbs : Int) / 65536).toNat = n.natAbs / 65536 := by omega
  have e2 : ((n.natAbs : Int) % 65536).toNat = n.natAbs % 65536 := by omega
  rw [e1, e2]
  unfold printL wholeL restL
  by_cases h0 : n.natAbs % 65536 = 0
  · have hc : ¬ (0 : Int) < (n.natAbs : Int) % 65536 := by omega
    simp [hc, h0, fracL_zero]
  · have hc : (0 : Int) < (n.natAbs : Int) % 65536 := by omega
    simp [hc, fracL_ne _ (show 0 < n.natAbs % 65536 by omega) (by omega)]
theorem bs_nil : (⟨#[]⟩ : ByteArray) = bs [] := rfl
theorem bs_one (c : UInt8) : (⟨#[c]⟩ : ByteArray) = bs [c] := rfl
set_option maxHeartbeats 400000 in
theorem ref_Print_pos (n : Int) (w : World) (h : 0 ≤ n) (h' : n ≤ 2147483647) :
    Calls Tryz.prog 65 #[.int .i64 n] w fun e w' => e = .returned (.string (bs (printL n))) ∧ Below w.heap.size w w' := by
  have hf := fitsB_yes (n := n) (by omega) h'
  have hd := decL_size (n / 65536) (by omega) (by omega)
  have hP := printL_of n n (by omega)
  rw [signL, if_neg (by omega)] at hP
  by_cases hr : 0 < n % 65536
  all_goals
    first | rw [if_pos hr] at hP | rw [if_neg hr] at hP
    have HP := hid hP; clear hP
    go_enter func65, ntmps65
    go_wp2_with first | (go_at_call 62; refine (ref_Fits _ _).mono ?_; rintro e w1 ⟨rfl, rfl⟩) | (go_at_call 37; go_must (refine (ref_Dec _ _ (by omega) (by omega)).mono ?_); rintro e w1 ⟨rfl, hb1⟩)
    go_loopw [3, 4] (fun s r wr => ∃ (t : List UInt8) (m : Nat), s = .string (bs t) ∧ r = .int .i64 m ∧ m < 65536 ∧ Below w.heap.size w wr ∧ t.length + (fracL m).length ≤ 60 ∧ printL n = t ++ fracL m) (fun _ r _ => (fracL (intOf r).toNat).length)
    case atStart =>
      have hl := fracL_len (n % 65536).toNat
      rw [bs_size] at hd
      refine ⟨_, (n % 65536).toNat, ?_, by go_num, by omega, hb1, ?_, HP.out⟩
      · simp [bs_nil, bs_one, bs_append]
      · simp; omega
    case round =>
      obtain ⟨t, m, rfl, rfl, hm, hb, hlen, hp⟩ := hrel
      have Hp := hid hp; clear hp HP
      by_cases hm0 : 0 < m
      · have hst := fracL_step m hm0 hm
        have Hst := hid hst; clear hst
        have hl2 := congrArg List.length Hst.out
        simp only [List.length_cons] at hl2
        have hs1 : (bs t).size ≤ 60 := by rw [bs_size]; omega
        have hs2 := decL_size ((m : Int) * 10 / 65536) (by omega) (by omega)
        clear hd hb1
        have hsz := hb.size
        go_wp2_with (go_at_call 37; go_must (refine (ref_Dec _ _ (by omega) (by omega)).mono ?_); rintro e w1 ⟨rfl, hb1⟩)
        have e1 : decL ((m : Int) * 10 / 65536) = [ch (48 + ((m * 10 / 65536 : Nat) : Int))] := by
          rw [decL_pos _ (by omega), digitsL_lt _ (by omega), Int.toNat_of_nonneg (by omega), Int.natCast_ediv, Int.natCast_mul]; rfl
        refine ⟨⟨t ++ decL ((m : Int) * 10 / 65536), m * 10 % 65536, by rw [bs_append], by go_num, by omega, hb.trans (hb1.mono hsz), ?_, ?_⟩, ?_⟩
        · rw [e1]; simp; omega
        · rw [Hp.out, Hst.out, e1]; simp
        · have e2 : ((m : Int) * 10 % 65536).toNat = m * 10 % 65536 := by omega
          have e3 : ((m : Int)).toNat = m := by omega
          simp only [intOf, e2, e3]; omega
      · have hm00 : m = 0 := by omega
        have Hm := hid hm00; clear hm00
        go_wp2
        go_ret
        exact ⟨ret_str (by rw [Hp.out, Hm.out, fracL_zero, List.append_nil]), hb⟩
set_option maxHeartbeats 400000 in
theorem ref_Print_neg (k : Int) (w : World) (h : 0 < k) (h' : k ≤ 2147483648) :
    Calls Tryz.prog 65 #[.int .i64 (-k)] w fun e w' => e = .returned (.string (bs (printL (-k)))) ∧ Below w.heap.size w w' := by
  have hf := fitsB_yes (n := -k) (by omega) (by omega)
  have hd := decL_size (k / 65536) (by omega) (by omega)
  have hP := printL_of (-k) k (by omega)
  rw [signL, if_pos (by omega)] at hP
  by_cases hr : 0 < k % 65536
  all_goals
    first | rw [if_pos hr] at hP | rw [if_neg hr] at hP
    have HP := hid hP; clear hP
    go_enter func65, ntmps65
    go_wp2_with first | (go_at_call 62; refine (ref_Fits _ _).mono ?_; rintro e w1 ⟨rfl, rfl⟩) | (go_at_call 37; go_must (refine (ref_Dec _ _ (by omega) (by omega)).mono ?_); rintro e w1 ⟨rfl, hb1⟩)
    go_loopw [3, 4] (fun s r wr => ∃ (t : List UInt8) (m : Nat), s = .string (bs t) ∧ r = .int .i64 m ∧ m < 65536 ∧ Below w.heap.size w wr ∧ t.length + (fracL m).length ≤ 60 ∧ printL (-k) = t ++ fracL m) (fun _ r _ => (fracL (intOf r).toNat).length)
    case atStart =>
      have hl := fracL_len (k % 65536).toNat
      rw [bs_size] at hd
      refine ⟨_, (k % 65536).toNat, ?_, by go_num, by omega, hb1, ?_, HP.out⟩
      · simp [bs_one, bs_append]
      · simp; omega
    case round =>
      obtain ⟨t, m, rfl, rfl, hm, hb, hlen, hp⟩ := hrel
      have Hp := hid hp; clear hp HP
      by_cases hm0 : 0 < m
      · have hst := fracL_step m hm0 hm
        have Hst := hid hst; clear hst
        have hl2 := congrArg List.length Hst.out
        simp only [List.length_cons] at hl2
        have hs1 : (bs t).size ≤ 60 := by rw [bs_size]; omega
        have hs2 := decL_size ((m : Int) * 10 / 65536) (by omega) (by omega)
        clear hd hb1
        have hsz := hb.size
        go_wp2_with (go_at_call 37; go_must (refine (ref_Dec _ _ (by omega) (by omega)).mono ?_); rintro e w1 ⟨rfl, hb1⟩)
        have e1 : decL ((m : Int) * 10 / 65536) = [ch (48 + ((m * 10 / 65536 : Nat) : Int))] := by
          rw [decL_pos _ (by omega), digitsL_lt _ (by omega), Int.toNat_of_nonneg (by omega), Int.natCast_ediv, Int.natCast_mul]; rfl
        refine ⟨⟨t ++ decL ((m : Int) * 10 / 65536), m * 10 % 65536, by rw [bs_append], by go_num, by omega, hb.trans (hb1.mono hsz), ?_, ?_⟩, ?_⟩
        · rw [e1]; simp; omega
        · rw [Hp.out, Hst.out, e1]; simp
        · have e2 : ((m : Int) * 10 % 65536).toNat = m * 10 % 65536 := by omega
          have e3 : ((m : Int)).toNat = m := by omega
          simp only [intOf, e2, e3]; omega
      · have hm00 : m = 0 := by omega
        have Hm := hid hm00; clear hm00
        go_wp2
        go_ret
        exact ⟨ret_str (by rw [Hp.out, Hm.out, fracL_zero, List.append_nil]), hb⟩
theorem ref_Print (n : Int) (w : World) :
    Calls Tryz.prog 65 #[.int .i64 n] w fun e w' => e = .returned (.string (bs (printL (norm n)))) ∧ Below w.heap.size w w' := by
  have e0 : printL 0 = [48] := by
    have hz : restL 0 = [] := rfl
    have hd : digitsL 0 = [48] := by rw [digitsL_lt 0 (by omega)]; rfl
    simp [printL, signL, wholeL, hz, hd]
  unfold norm
  by_cases h1 : n < -2147483648
  · rw [fitsB_lo h1]; simp only [Bool.false_eq_true, if_false, e0]; exact ref_Print_not n w (fitsB_lo h1)
  · by_cases h2 : 2147483647 < n
    · rw [fitsB_hi h2]; simp only [Bool.false_eq_true, if_false, e0]; exact ref_Print_not n w (fitsB_hi h2)
    · rw [fitsB_yes (by omega) (by omega)]
      by_cases h3 : n < 0
      · have h := ref_Print_neg (-n) w (by omega) (by omega)
        rw [Int.neg_neg] at h; exact h
      · exact ref_Print_pos n w (by omega) (by omega)
theorem tmod_zero (n : Int) : ((n.tmod 65536) == 0) = decide (n.natAbs % 65536 = 0) := by
 rw [Bool.eq_iff_iff]
 simp only [beq_iff_eq, decide_eq_true_eq]
 rcases Int.le_total 0 n with h | h
 ·
  rw [Int.tmod_eq_emod_of_nonneg h]; omega
 ·
  have e : n.tmod 65536 = -((-n) % 65536) := by
   rw [← Int.tmod_eq_emod_of_nonneg (by omega), Int.neg_tmod, Int.neg_neg]
  rw [e]; omega
theorem printL_size (n : Int) : (bs (printL (norm n))).size ≤ 60 := by
 have h1 := signL_size (norm n)
 have h2 := wholeL_size (norm n) (norm_lo n) (norm_hi n)
 have h3 := restL_size (norm n)
 rw [bs_size] at *
 unfold printL
 split <;> simp <;> omega
set_option maxHeartbeats 400000 in
theorem ref_PrintReal (n : Int) (w : World) :
    Calls Tryz.prog 38 #[.int .i64 n] w fun e w' => e = .returned (.string (bs (realL (norm n)))) ∧ Below w.heap.size w w' := by
  have hs := printL_size n
  by_cases hf : fitsB n = true
  · have hn : norm n = n := by rw [norm, hf]; rfl
    by_cases h0 : n.natAbs % 65536 = 0
    · have ht : (n.tmod 65536 == 0) = true := by rw [tmod_zero]; simpa using h0
      have hr := (restL_iff n).2 h0
      have Hr := hid hr; have Hn := hid hn; clear hr hn h0
      go_enter func38, ntmps38
      go_wp2_with first | (go_at_call 62; refine (ref_Fits _ _).mono ?_; rintro e w1 ⟨rfl, rfl⟩) | (go_at_call 65; go_must (refine (ref_Print _ _).mono ?_); rintro e w1 ⟨rfl, hb1⟩)
      go_ret
      refine ⟨ret_str ?_, hb1⟩
      rw [Hn.out, realL, printL, if_pos Hr.out, if_pos Hr.out]
      show bs _ ++ bs [46, 48] = _
      rw [bs_append]; simp
    · have ht : (n.tmod 65536 == 0) = false := by rw [tmod_zero]; simpa using h0
      have hr := fun x => h0 ((restL_iff n).1 x)
      have Hr := hid hr; have Hn := hid hn; clear hr hn h0
      go_enter func38, ntmps38
      go_wp2_with first | (go_at_call 62; refine (ref_Fits _ _).mono ?_; rintro e w1 ⟨rfl, rfl⟩) | (go_at_call 65; go_must (refine (ref_Print _ _).mono ?_); rintro e w1 ⟨rfl, hb1⟩)
      go_ret
      refine ⟨ret_str ?_, hb1⟩
      rw [Hn.out, realL, printL, if_neg Hr.out, if_neg Hr.out]
  · have hf' : fitsB n = false := by simpa using hf
    have hn : norm n = 0 := by rw [norm, hf']; rfl
    have Hn := hid hn; clear hf hn
    have hs0 := printL_size 0
    go_enter func38, ntmps38
    go_wp2_with first | (go_at_call 62; refine (ref_Fits _ _).mono ?_; rintro e w1 ⟨rfl, rfl⟩) | (go_at_call 65; go_must (refine (ref_Print _ _).mono ?_); rintro e w1 ⟨rfl, hb1⟩)
    go_ret
    refine ⟨ret_str ?_, hb1⟩
    have hz : restL 0 = [] := rfl
    have h0 : norm 0 = 0 := rfl
    rw [Hn.out, h0, realL, printL, if_pos hz, if_pos hz]
    show bs _ ++ bs [46, 48] = _
    rw [bs_append]; simp
end Go.Proofs.YtjghbcjnplcleaaGreatDoor
