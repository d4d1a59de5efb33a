/-
  What the claim leans on, part 3: pruned and joined by my own tool out of the texts that stand in wip/ as templates.
-/
import Derived.Test.YtjghbcjnplcleaaGreatDoorPb2
import Derived.WalkKit
import Derived.WalkSpells
import Derived.WalkLawsBesides
import Derived.Test.YtjghbcjnplcleaaGreatDoorRows
import Derived.Shelf.Strings.Builder1
import Derived.Shelf.Strings.Builder2
import Derived.Shelf.Strings.Trim
import Derived.Shelf.Small.Utf8
import Derived.Shelf.Small.Strs
import Derived.Shelf.Strings.BuilderF
import Derived.Shelf.Strings.BuilderK
import Derived.Shelf.Strings.Builder2Cap
import Derived.Shelf.Strconv.Itoa0
import Derived.Shelf.Strings.Search1
import Derived.Shelf.Strings.Search2
import Derived.Shelf.Strings.Search3
import Derived.Shelf.Strings.Cut
import Derived.Shelf.Strings.Count
import Derived.Shelf.LaysM
import Derived.Shelf.Strings.Shaped
import Derived.Shelf.Strings.Prefix
import Derived.Shelf.Unicode.Decode
import Derived.Shelf.Strings.Runes
import Derived.Shelf.Strings.IndexAny
import Derived.Shelf.Strings.AsciiSet
import Derived.Shelf.Strings.IndexAnyAll
import Derived.Shelf.Bits.Mul64
import Derived.Shelf.Strings.Repeat
import Derived.Shelf.Unicode.DecodeSlow
import Derived.Shelf.Unicode.DecodeAny
import Derived.Shelf.Unicode.DecodeLast
import Derived.Shelf.Strings.BuilderCap
import Derived.Test.YtjghbcjnplcleaaGreatDoorProg
import Derived.Shelf.Strings.SlTrimAscii
import Derived.Deep.QuietTactic
import Derived.BigQuiet
import Derived.Deep.DeepCutAuto
import Derived.StillTail
import Derived.Laws.BytesString
import Derived.Laws.Slices
import Derived.Carry
import Derived.ChangeSlices
import Derived.Lib.ConvBytes
import Derived.Laws.AppendOwn
import Derived.Laws.CopyRow
import Derived.Deep.MidRow
import Derived.Lib.SliceRun
import Derived.Recover
import Derived.Lib.AppendZerosOnto
import Derived.Laws.OwnMore
import Derived.Deep.Slices
import Derived.ProofKit
import Derived.OpenShut
import Derived.Lib.FrozenHead
import Derived.Lib.AppendStr
import Derived.Test.YtjghbcjnplcleaaGreatDoorCards
import Derived.Test.YtjghbcjnplcleaaGreatDoorTie
import Derived.Deep.DeepHandedRow
import Derived.Lib.LaidTab
namespace Go.Proofs.YtjghbcjnplcleaaGreatDoor
open Go.Proofs.Tryz
open Go.RowKit
theorem or_16 (h d : Nat) (hh : h < 16) (hd : d < 16) : bits .or .i64 ((h : Int) * 16) (d : Int) = (h : Int) * 16 + d := by
 have key : ∀ h d : Fin 16, bits .or .i64 ((h.1 : Int) * 16) (d.1 : Int) = (h.1 : Int) * 16 + d.1 := by decide +kernel
 exact key ⟨h, hh⟩ ⟨d, hd⟩
theorem Pure.shl4 {P : Program} {f : Fr} {x : Operand} {tx ty : TypeId} {a : Int} (hx : evo f x = some (.int .i64 a)) (r : Int) (hr : IntKind.i64.wrap (a * 16) = r) : Pure P (.binOp .shl tx x (.const (.int .u64 4)) ty) f (.int .i64 r) := fun ρ hρ d ty' pos aft g w => by
 have h4 : ρ (.const (.int .u64 4)) = .int .u64 4 := hρ _ _ rfl
 simp [execOp, hρ _ _ hx, h4, eqGuard, binOp, shift_shl_i64, hr]
theorem Pure.or {P : Program} {f : Fr} {x y : Operand} {k : IntKind} {tx ty : TypeId} {a b r : Int} (hx : evo f x = some (.int k a)) (hy : evo f y = some (.int k b)) (hr : bits .or k a b = r) : Pure P (.binOp .or tx x y ty) f (.int k r) := fun ρ hρ d ty' pos aft g w => by
 simp [execOp, hρ _ _ hx, hρ _ _ hy, eqGuard, binOp, intBits_or, hr]
theorem takeS_err {l : List UInt8} {t : Nat} {k : Int} (h : takeS l t = .error k) : l.length ≤ t ∧ k = 14 := by
 unfold takeS at h
 split at h
 ·
  cases h
 ·
  next h1 => cases h; exact ⟨List.getElem?_eq_none_iff.1 h1, rfl⟩
theorem takeS_ok {l : List UInt8} {t : Nat} {x : UInt8} (h : takeS l t = .ok x) : ∃ ht : t < l.length, x = l[t]'ht := by
 unfold takeS at h
 split at h
 ·
  next h1 => cases h; obtain ⟨h2, h3⟩ := List.getElem?_eq_some_iff.1 h1; exact ⟨h2, h3.symm⟩
 ·
  cases h
theorem textS_err {e : Int} {s r : List UInt8} (h : (if 65535 < s.length then (.error 9 : Except Int TokV) else .ok ⟨6, 0, s⟩) = .error e) : textS (some (s, r)) = .error e := by
 simp only [textS]
 split at h
 ·
  next h1 => rw [if_pos h1]; cases h; rfl
 ·
  cases h
theorem textS_ok {s r : List UInt8} {a : TokV} (h : (if 65535 < s.length then (.error 9 : Except Int TokV) else .ok ⟨6, 0, s⟩) = .ok a) : textS (some (s, r)) = .ok (a, r) := by
 simp only [textS]
 split at h
 ·
  cases h
 ·
  next h1 => rw [if_neg h1]; cases h; rfl
theorem scan_hex (r : Nat) (p : Option Addr) (l : List UInt8) (c t : Nat) (w : World) (h : RdOk w r p l c t) (hne : 0 < l.length → (pA p).block ≠ r) (hc : l.length ≤ c) (hl : l.length ≤ 100000000) (ht : t ≤ l.length) :
  Calls Tryz.prog 239 #[.pointer (some ⟨r, 0, none⟩)] w (Ends 35 (textS (hexS none [] (l.drop t))) (fun a => a.1.val) (Read w r p l c) (fun w' => Touch w.heap.size r w w')) := by
 have hr := h.1
 have hb := h.2
 obtain ⟨R, hR⟩ : ∃ R, R = hexS none [] (l.drop t) := ⟨_, rfl⟩
 rw [← hR]
 obtain ⟨a, rfl⟩ : ∃ a, a = t := ⟨t, rfl⟩
 refine W.enter func239 rfl ntmps239 (Nat.le_of_ble_eq_true rfl) ?_
 have hB0 := Touch.refl (w.heap.size) r w
 refine W.seq <| W.reg <| WL.alloc zeroValue143 rfl (fun b1 wb1 eb1 hkb1 hub1 hsb1 => ?_)
 have hl3 : r < b1 := by rw [eb1]; exact hr.lt
 have hk2 := hr.upd hub1 (Nat.ne_of_lt hl3)
 have hvl5 := fun h0 => eb1 ▸ hb.lt h0
 have hv4 := BytesAt.upd hb hub1 (fun h0 => Nat.ne_of_lt (hvl5 h0))
 have hgeb1 : w.heap.size ≤ b1 := by rw [eb1]; exact hB0.size
 have hB6 := Touch.trans hB0 (Touch.of_new hub1 hgeb1)
 refine WL.nil <| ?_
 refine W.seq ?_
 have hpB : 0 < l.length → (pA p).block < b1 + 1 := fun h0 => by have := hb.lt h0; omega
 have hrB : r < b1 := by have := hr.lt; omega
 refine W.reg <| WL.p (.as rfl) rfl <| WL.nil <| ?_
 refine W.seq <| W.reg <| WL.p (.as rfl) rfl <| WL.nil <| ?_
 refine W.seq <| W.block ?_
 refine W.loop (α := Value × List UInt8 × Option Nat × Nat) (fun t => [(0, .pointer (some ⟨r, 0, none⟩)), (2, .pointer (some ⟨b1, 0, none⟩)), (3, t.1), (4, .int .i64 (hexI t.2.2.1))]) (fun t w' => RdOk w' r p l c t.2.2.2 ∧ Touch w.heap.size r w w' ∧ Blk w' b1 #[.int .i64 0, .int .i64 0, .string ⟨#[]⟩] 143 ∧ Own 5 (b1 + 1) w' t.1 (byteVals t.2.1) ∧ hexS t.2.2.1 t.2.1 (l.drop t.2.2.2) = R ∧ (∀ x, t.2.2.1 = some x → x < 16) ∧ t.2.1.length ≤ t.2.2.2 ∧ t.2.2.2 ≤ l.length) (fun t => l.length - t.2.2.2) ((.slice none 0 0, [], none, a)) ⟨rfl, rfl, rfl, rfl, trivial⟩ (⟨⟨hk2, hv4⟩, hB6, hkb1, Own.nil _ _ _, hR.symm, fun x hx => (by cases hx), Nat.zero_le _, ht⟩) (fun t w1 hR => ?_)
 obtain ⟨v, o, h, s⟩ := t
 obtain ⟨hrd, hT, hbk, hown, hw, hx16, hol, hs⟩ := hR
 simp only at hrd hT hbk hown hw hx16 hol hs ⊢
 refine W.block <| W.seq <| W.reg <| WL.p (.mv rfl) rfl <| WL.ce hb235 rfl rfl ((scan_take r p l c s _ ⟨hrd.1, hrd.2⟩ hne hl)) (fun k9 w7 hrw7 hw7 => ?_) (fun a8 w7 hrw7 hw7 => ?_)
 ·
  skip
  have hBew7 := Touch.trans hT (Touch.mono hw7 hT.size)
  exact pn_is (Ends.err k9 (by rw [(takeS_err hrw7).2, ← hw, List.drop_eq_nil_of_le (takeS_err hrw7).1]; (first | done | rfl)) hBew7)
 have ho10 := Own.touch' hown hw7.2 (by omega)
 have hk11 := hw7.1.1
 have hk12 := Blk.touch hbk hw7.2 hbk.lt (by omega)
 have hv13 := hw7.1.2
 have hB14 := Touch.trans hT (Touch.mono hw7.2 hT.size)
 obtain ⟨hlt, hx⟩ := takeS_ok hrw7
 obtain ⟨x, hxx⟩ : ∃ x, x = a8 := ⟨_, rfl⟩
 rw [← hxx] at hx ⊢
 have hst := hexS_cons h o l s hlt
 rw [← hx] at hst
 refine WL.p (.as rfl) rfl <| WL.nil <| ?_
 refine W.seq <| W.seq <| W.reg <| WL.p (.mv rfl) rfl <| WL.c1 hb234 rfl rfl ((scan_blank x _)) (fun w15 hw15 => ?_)
 obtain rfl := hw15
 refine WL.nil <| ?_
 refine W.cond rfl (fun h16 => ?_) (fun h16 => ?_)
 ·
  skip
  refine W.exit ?_
  exact ⟨(_, o, h, s + 1), ⟨rfl, rfl, rfl, rfl, trivial⟩, ⟨⟨hk11, hv13⟩, hB14, hk12, ho10, (by rw [← hw, hst, if_pos (by assumption)]), hx16, by ((try simp only) <;> omega), by ((try simp only) <;> omega)⟩, by ((try simp only) <;> omega)⟩
 refine W.skip <| W.seq <| W.seq <| W.reg <| WL.p (.mv rfl) rfl <| WL.p (.eql rfl rfl) rfl <| WL.nil <| ?_
 refine W.cond rfl (fun h17 => ?_) (fun h17 => ?_)
 ·
  have h17' := of_decide_eq_true h17
  refine W.exit <| W.seq <| W.seq <| W.reg <| WL.p (.mv rfl) rfl <| WL.p (.geq rfl rfl) rfl <| WL.nil <| ?_
  refine W.cond rfl (fun h18 => ?_) (fun h18 => ?_)
  ·
   have h18' := of_decide_eq_true h18
   obtain ⟨y, rfl⟩ : ∃ y, h = some y := by cases h with | none => exfalso; have : hexI none = -1 := rfl; omega | some y => exact ⟨y, rfl⟩
   have hy := hx16 y rfl
   have hyi : hexI (some y) = (y : Int) := rfl
   refine W.reg <| WL.p (.mv rfl) rfl <| WL.p (.mv rfl) rfl <| WL.p (.iis ((y : Int) * 16) (.shl4 rfl _ (i64w (by omega))) (by omega)) rfl <| WL.p (.cvt underlying3 underlying5 rfl (u8w (by omega))) rfl <| WL.bsl (ps := _) underlying22 sizeOf5 zeroValue5 rfl rfl rfl rfl rfl (by simp only [put1, List.map, List.zip, List.zipWith, List.set, List.replicate] <;> rfl) rfl (fun b19 wb19 eb19 hkb19 hub19 hsb19 => ?_)
   have ho20 := Own.new ho10 eb19 hub19
   have hl22 : r < b19 := by rw [eb19]; exact hk11.lt
   have hk21 := hk11.upd hub19 (Nat.ne_of_lt hl22)
   have hl24 : b1 < b19 := by rw [eb19]; exact hk12.lt
   have hk23 := hk12.upd hub19 (Nat.ne_of_lt hl24)
   have hvl26 := fun h0 => eb19 ▸ hv13.lt h0
   have hv25 := BytesAt.upd hv13 hub19 (fun h0 => Nat.ne_of_lt (hvl26 h0))
   have hgeb19 : w.heap.size ≤ b19 := by rw [eb19]; exact hB14.size
   have hB27 := Touch.trans hB14 (Touch.of_new hub19 hgeb19)
   refine WL.appm underlying22 inf5 rfl rfl rfl ho20 rfl hkb19 rfl (by rw [byteVals_len]; omega) (hk23.lt) rfl (fun v28 w29 how29 hbw29 hgw29 => ?_)
   have hk30 := hk21.below hbw29 (by omega)
   have hk31 := hk23.below hbw29 (by omega)
   have hv32 := BytesAt.below hv25 hbw29 hpB
   have hB33 := Touch.trans hB27 (Touch.of_below (hbw29.mono (by omega)))
   have ho34 := Own.snoc how29 (ch ((y * 16 : Nat) : Int)) (by rw [ch_val _ (by omega) (by omega)]; omega)
   refine WL.p (.as rfl) rfl <| WL.nil <| ?_
   refine W.seq ?_
   obtain ⟨q, cq, rfl, hqb, hqB⟩ := Own.bytes ho34
   refine W.reg <| WL.p (.mv rfl) rfl <| WL.ce hb238 rfl rfl ((scan_text q _ cq _ hqb (by first | omega | (simp only [List.length_append, List.length_cons, List.length_nil]; omega)))) (fun k37 w35 hrw35 hw35 => ?_) (fun a36 w35 hrw35 hw35 => ?_)
   ·
    skip
    have hBew35 := Touch.trans hB33 (Touch.mono (Touch.of_below hw35) hB33.size)
    exact pn_is (Ends.err k37 (by rw [← hw, hst, if_neg (bF (by assumption)), if_pos (u8_eq (d := 62) (by assumption))]; exact textS_err hrw35) hBew35)
   have hk39 := hk30.below hw35 hk30.lt
   have hk40 := hk31.below hw35 hk31.lt
   have hv41 := BytesAt.below hv32 hw35 (fun h0 => hv32.lt h0)
   have hB42 := Touch.trans hB33 (Touch.mono (Touch.of_below hw35) hB33.size)
   obtain ⟨a0, ha0⟩ : ∃ a0, a0 = a36 := ⟨_, rfl⟩
   have hra := hrw35
   refine WL.stL rfl rfl hk40 isz143 rfl rfl (fun w43 hkw43 huw43 hsw43 => ?_)
   have hk45 := hk39.upd huw43 (by ((try simp only) <;> omega))
   have hv46 := BytesAt.upd hv41 huw43 (fun h0 => Nat.ne_of_lt (hvl5 h0))
   have hB47 := Touch.trans hB42 (Touch.of_new huw43 (by omega))
   refine WL.nil <| ?_
   refine W.ret (W.retc1 rfl rfl (ldRow hkw43 underlying143 rfl isz143)  ?_)
   exact Ends.ok (_, l.drop (s + 1)) (by rw [← hw, hst, if_neg (bF (by assumption)), if_pos (u8_eq (d := 62) (by assumption))]; exact textS_ok hra) rfl ⟨_, rfl, by omega, ⟨hk45, hv46⟩, hB47⟩
  have h18' := of_decide_eq_false h18
  obtain rfl : h = none := by cases h with | none => rfl | some y => exfalso; have : hexI (some y) = (y : Int) := rfl; omega
  refine W.skip <| W.seq ?_
  obtain ⟨q, cq, rfl, hqb, hqB⟩ := Own.bytes ho10
  refine W.reg <| WL.p (.mv rfl) rfl <| WL.ce hb238 rfl rfl ((scan_text q _ cq _ hqb (by first | omega | (simp only [List.length_append, List.length_cons, List.length_nil]; omega)))) (fun k50 w48 hrw48 hw48 => ?_) (fun a49 w48 hrw48 hw48 => ?_)
  ·
   skip
   have hBew48 := Touch.trans hB14 (Touch.mono (Touch.of_below hw48) hB14.size)
   exact pn_is (Ends.err k50 (by rw [← hw, hst, if_neg (bF (by assumption)), if_pos (u8_eq (d := 62) (by assumption))]; exact textS_err hrw48) hBew48)
  have hk52 := hk11.below hw48 hk11.lt
  have hk53 := hk12.below hw48 hk12.lt
  have hv54 := BytesAt.below hv13 hw48 (fun h0 => hv13.lt h0)
  have hB55 := Touch.trans hB14 (Touch.mono (Touch.of_below hw48) hB14.size)
  obtain ⟨a0, ha0⟩ : ∃ a0, a0 = a49 := ⟨_, rfl⟩
  have hra := hrw48
  refine WL.stL rfl rfl hk53 isz143 rfl rfl (fun w56 hkw56 huw56 hsw56 => ?_)
  have hk58 := hk52.upd huw56 (by ((try simp only) <;> omega))
  have hv59 := BytesAt.upd hv54 huw56 (fun h0 => Nat.ne_of_lt (hvl5 h0))
  have hB60 := Touch.trans hB55 (Touch.of_new huw56 (by omega))
  refine WL.nil <| ?_
  refine W.ret (W.retc1 rfl rfl (ldRow hkw56 underlying143 rfl isz143)  ?_)
  exact Ends.ok (_, l.drop (s + 1)) (by rw [← hw, hst, if_neg (bF (by assumption)), if_pos (u8_eq (d := 62) (by assumption))]; exact textS_ok hra) rfl ⟨_, rfl, by omega, ⟨hk58, hv59⟩, hB60⟩
 have h17' := of_decide_eq_false h17
 refine W.skip <| W.seq <| W.reg <| WL.p (.mv rfl) rfl <| WL.c1 hb257 rfl rfl ((scan_digit x _)) (fun w61 hw61 => ?_)
 obtain rfl := hw61
 have hdg := digI_cases x
 refine WL.p (.as rfl) rfl <| WL.nil <| ?_
 refine W.block <| W.seq <| W.reg <| WL.p (.mv rfl) rfl <| WL.p (.lss rfl rfl) rfl <| WL.p (.as rfl) rfl <| WL.nil <| ?_
 refine W.cond rfl (fun h62 => ?_) (fun h62 => ?_)
 ·
  have h62' := of_decide_eq_true h62
  refine W.reg <| WL.p (.mkI underlying35 rfl) rfl <| WL.panic rfl (pn_is ?_)
  exact Ends.err 14 (by rw [← hw, hst, if_neg (bF (by assumption)), if_neg (u8_ne (d := 62) (by assumption)), if_pos (by omega)]; (first | done | rfl)) hB14
 have h62' := of_decide_eq_false h62
 refine W.seq <| W.reg <| WL.p (.mv rfl) rfl <| WL.p (.lss rfl rfl) rfl <| WL.p (.as rfl) rfl <| WL.nil <| ?_
 refine W.cond rfl (fun h63 => ?_) (fun h63 => ?_)
 ·
  have h63' := of_decide_eq_true h63
  obtain rfl : h = none := by cases h with | none => rfl | some y => exfalso; have : hexI (some y) = (y : Int) := rfl; omega
  refine W.reg <| WL.p (.mv rfl) rfl <| WL.p (.as rfl) rfl <| WL.nil <| ?_
  exact ⟨(_, o, some (hexN x), s + 1), ⟨rfl, rfl, rfl, lk_i rfl (by show digI x = (hexN x : Int); omega), trivial⟩, ⟨⟨hk11, hv13⟩, hB14, hk12, ho10, (by rw [← hw, hst, if_neg (bF (by assumption)), if_neg (u8_ne (d := 62) (by assumption)), if_neg (by omega)]), fun z hz => (by obtain rfl := Option.some.inj hz; omega), by ((try simp only) <;> omega), by ((try simp only) <;> omega)⟩, by ((try simp only) <;> omega)⟩
 have h63' := of_decide_eq_false h63
 obtain ⟨y, rfl⟩ : ∃ y, h = some y := by cases h with | none => exfalso; have : hexI none = -1 := rfl; omega | some y => exact ⟨y, rfl⟩
 have hy := hx16 y rfl
 have hyi : hexI (some y) = (y : Int) := rfl
 refine W.seq <| W.reg <| WL.p (.mv rfl) rfl <| WL.p (.mv rfl) rfl <| WL.p (.iis ((y : Int) * 16) (.shl4 rfl _ (i64w (by omega))) (by omega)) rfl <| WL.p (.mv rfl) rfl <| WL.p (.or rfl rfl (show bits .or .i64 ((y : Int) * 16) (digI x) = (y : Int) * 16 + (hexN x : Int) by rw [(hdg.resolve_left (fun h => by have := h.1; omega)).1]; exact or_16 _ _ hy (by omega))) rfl <| WL.p (.cvt underlying3 underlying5 rfl (u8w (by omega))) rfl <| WL.bsl (ps := _) underlying22 sizeOf5 zeroValue5 rfl rfl rfl rfl rfl (by simp only [put1, List.map, List.zip, List.zipWith, List.set, List.replicate] <;> rfl) rfl (fun b64 wb64 eb64 hkb64 hub64 hsb64 => ?_)
 have ho65 := Own.new ho10 eb64 hub64
 have hl67 : r < b64 := by rw [eb64]; exact hk11.lt
 have hk66 := hk11.upd hub64 (Nat.ne_of_lt hl67)
 have hl69 : b1 < b64 := by rw [eb64]; exact hk12.lt
 have hk68 := hk12.upd hub64 (Nat.ne_of_lt hl69)
 have hvl71 := fun h0 => eb64 ▸ hv13.lt h0
 have hv70 := BytesAt.upd hv13 hub64 (fun h0 => Nat.ne_of_lt (hvl71 h0))
 have hgeb64 : w.heap.size ≤ b64 := by rw [eb64]; exact hB14.size
 have hB72 := Touch.trans hB14 (Touch.of_new hub64 hgeb64)
 refine WL.appm underlying22 inf5 rfl rfl rfl ho65 rfl hkb64 rfl (by rw [byteVals_len]; omega) (hk68.lt) rfl (fun v73 w74 how74 hbw74 hgw74 => ?_)
 have hk75 := hk66.below hbw74 (by omega)
 have hk76 := hk68.below hbw74 (by omega)
 have hv77 := BytesAt.below hv70 hbw74 hpB
 have hB78 := Touch.trans hB72 (Touch.of_below (hbw74.mono (by omega)))
 have ho79 := Own.snoc how74 (ch ((y * 16 + hexN x : Nat) : Int)) (by rw [ch_val _ (by omega) (by omega)]; omega)
 refine WL.p (.as rfl) rfl <| WL.nil <| ?_
 refine W.reg <| WL.p (.as rfl) rfl <| WL.nil <| ?_
 exact ⟨(_, o ++ [_], none, s + 1), ⟨rfl, rfl, rfl, rfl, trivial⟩, ⟨⟨hk75, hv77⟩, hB78, hk76, ho79, (by rw [← hw, hst, if_neg (bF (by assumption)), if_neg (u8_ne (d := 62) (by assumption)), if_neg (by omega)]), fun z hz => (by cases hz), (by simp only [List.length_append, List.length_cons, List.length_nil]; omega), by ((try simp only) <;> omega)⟩, by ((try simp only) <;> omega)⟩
theorem BytesAt.two {w : World} {b : Nat} {c d : UInt8} {t : TypeId} (h : Blk w b #[.int .u8 (c.toNat : Int), .int .u8 (d.toNat : Int)] t) : BytesAt w (some ⟨b, 0, none⟩) [c, d] :=
 ⟨fun _ => rfl, fun j hj => by
  have e1 : (pA (some ⟨b, 0, none⟩)).add j = ⟨b, j, none⟩ := by
   show (⟨b, 0, none⟩ : Addr).add j = _
   unfold Addr.add; split
   ·
    next h => subst h; rfl
   ·
    simp
  rw [e1, h.cell j]
  match j, hj with
  | 0, _ => rfl
  | 1, _ => rfl⟩
theorem scan_angle (r : Nat) (p : Option Addr) (l : List UInt8) (c t : Nat) (x : UInt8) (w : World) (h : RdOk w r p l c t) (hne : 0 < l.length → (pA p).block ≠ r) (hc : l.length ≤ c) (hl : l.length ≤ 100000000) (ht : t ≤ l.length) (hx : x ≠ 0) :
  Calls Tryz.prog 204 #[.pointer (some ⟨r, 0, none⟩), .int .u8 (x.toNat : Int)] w (Ends 35 (angleS x (l.drop t)) (fun a => a.1.val) (Read w r p l c) (fun w' => Touch w.heap.size r w w')) := by
 have hr := h.1
 have hb := h.2
 have hy := angle_eq (l := l) (s := t) (c := x) (d := (l[t]?).getD 0) hx rfl
 refine W.enter func204 rfl ntmps204 (Nat.le_of_ble_eq_true rfl) ?_
 have hB0 := Touch.refl (w.heap.size) r w
 refine W.seq <| W.reg <| WL.alloc zeroValue143 rfl (fun b1 wb1 eb1 hkb1 hub1 hsb1 => ?_)
 have hl3 : r < b1 := by rw [eb1]; exact hr.lt
 have hk2 := hr.upd hub1 (Nat.ne_of_lt hl3)
 have hvl5 := fun h0 => eb1 ▸ hb.lt h0
 have hv4 := BytesAt.upd hb hub1 (fun h0 => Nat.ne_of_lt (hvl5 h0))
 have hgeb1 : w.heap.size ≤ b1 := by rw [eb1]; exact hB0.size
 have hB6 := Touch.trans hB0 (Touch.of_new hub1 hgeb1)
 refine WL.nil <| ?_
 refine W.seq <| W.block <| W.seq <| W.reg <| WL.p (.mv rfl) rfl <| WL.p (.mv rfl) rfl <| WL.c1 hb237 rfl rfl ((scan_next r p l c t x _ ⟨hk2, hv4⟩ hne hl ht)) (fun w7 hw7 => ?_)
 have hk8 := hw7.1.1
 have hk9 := Blk.touch hkb1 hw7.2 hkb1.lt (by omega)
 have hv10 := hw7.1.2
 have hB11 := Touch.trans hB6 (Touch.mono hw7.2 hB6.size)
 refine WL.p (.as rfl) rfl <| WL.nil <| ?_
 refine W.cond rfl (fun h12 => ?_) (fun h12 => ?_)
 ·
  skip
  obtain ⟨hn1, hn2⟩ := nextB_t (x := x) (by assumption)
  rw [if_pos (by assumption)] at hk8
  rw [if_pos (by rw [List.getElem?_eq_getElem hn1, hn2]; rfl)] at hy
  refine W.seq <| W.reg <| WL.p (.mv rfl) rfl <| WL.p (.mv rfl) rfl <| WL.bsl (ps := _) underlying22 sizeOf5 zeroValue5 rfl rfl rfl rfl rfl (by simp only [put1, List.map, List.zip, List.zipWith, List.set, List.replicate] <;> rfl) rfl (fun b13 wb13 eb13 hkb13 hub13 hsb13 => ?_)
  have hl15 : r < b13 := by rw [eb13]; exact hk8.lt
  have hk14 := hk8.upd hub13 (Nat.ne_of_lt hl15)
  have hl17 : b1 < b13 := by rw [eb13]; exact hk9.lt
  have hk16 := hk9.upd hub13 (Nat.ne_of_lt hl17)
  have hvl19 := fun h0 => eb13 ▸ hv10.lt h0
  have hv18 := BytesAt.upd hv10 hub13 (fun h0 => Nat.ne_of_lt (hvl19 h0))
  have hgeb13 : w.heap.size ≤ b13 := by rw [eb13]; exact hB11.size
  have hB20 := Touch.trans hB11 (Touch.of_new hub13 hgeb13)
  refine WL.r (Rd.b2s (l := [x, x]) underlying22 underlying5 underlying9 rfl (BytesAt.two hkb13)) rfl <| ?_
  refine WL.p (.buildL (ps := _) blt143 rfl rfl rfl (by simp only [put1, List.map, List.zip, List.zipWith, List.set] <;> rfl)) rfl ?_
  refine WL.stL rfl rfl hk16 isz143 rfl rfl (fun w21 hkw21 huw21 hsw21 => ?_)
  have hk22 := hk14.upd huw21 (by ((try simp only) <;> omega))
  have hv24 := BytesAt.upd hv18 huw21 (fun h0 => Nat.ne_of_lt (hvl5 h0))
  have hB25 := Touch.trans hB20 (Touch.of_new huw21 (by omega))
  refine WL.nil <| ?_
  refine W.ret (W.retc1 rfl rfl (ldRow hkw21 underlying143 rfl isz143)  ?_)
  exact Ends.ok (⟨3, 0, [x, x]⟩, l.drop (t + 1)) hy rfl ⟨_, rfl, by omega, ⟨hk22, hv24⟩, hB25⟩
 rw [if_neg (bF (by assumption))] at hk8
 rw [if_neg (by
  by_cases hq : t < l.length
  ·
   rw [List.getElem?_eq_getElem hq]; exact nextB_f (x := x) (by assumption) hq
  ·
   rw [List.getElem?_eq_none (by omega)]; exact fun e => hx e.symm)] at hy
 refine W.seq <| W.reg <| WL.p (.mv rfl) rfl <| WL.p (.eql rfl rfl) rfl <| WL.p (.as rfl) rfl <| WL.nil <| ?_
 refine W.cond rfl (fun h26 => ?_) (fun h26 => ?_)
 ·
  have h26' := of_decide_eq_true h26
  refine W.seq <| W.reg <| WL.p (.mv rfl) rfl <| WL.ce hb239 rfl rfl ((scan_hex r p l c t _ ⟨hk8, hv10⟩ hne hc hl ht)) (fun k29 w27 hrw27 hw27 => ?_) (fun a28 w27 hrw27 hw27 => ?_)
  ·
   skip
   have hBew27 := Touch.trans hB11 (Touch.mono hw27 hB11.size)
   exact pn_is (Ends.err k29 (by rw [hy, if_pos (u8_eq (by assumption))]; exact hrw27) hBew27)
  obtain ⟨kr, hkr, hkl, hw27⟩ := hw27
  have hk30 := hw27.1.1
  have hk31 := Blk.touch hk9 hw27.2 hk9.lt (by omega)
  have hv32 := hw27.1.2
  have hB33 := Touch.trans hB11 (Touch.mono hw27.2 hB11.size)
  have hra := hrw27
  obtain ⟨a0, ha0⟩ : ∃ a0, a0 = a28 := ⟨_, rfl⟩
  refine WL.stL rfl rfl hk31 isz143 rfl rfl (fun w34 hkw34 huw34 hsw34 => ?_)
  have hk35 := hk30.upd huw34 (by ((try simp only) <;> omega))
  have hv36 := BytesAt.upd hv32 huw34 (fun h0 => Nat.ne_of_lt (hvl5 h0))
  have hB37 := Touch.trans hB33 (Touch.of_new huw34 (by omega))
  refine WL.nil <| ?_
  refine W.ret (W.retc1 rfl rfl (ldRow hkw34 underlying143 rfl isz143)  ?_)
  exact Ends.ok _ (by rw [hy, if_pos (u8_eq (by assumption))]; exact hra) rfl ⟨_, hkr, hkl, ⟨hk35, hv36⟩, hB37⟩
 have h26' := of_decide_eq_false h26
 refine W.skip <| W.reg <| WL.p (.mkI underlying35 rfl) rfl <| WL.panic rfl (pn_is ?_)
 exact Ends.err 14 (by rw [hy, if_neg (u8_ne (d := 60) (by assumption))]) hB11
end Go.Proofs.YtjghbcjnplcleaaGreatDoor

namespace Go.Proofs.YtjghbcjnplcleaaGreatDoor
open Go.Proofs.Tryz
open Go.RowKit
theorem next_lf (l : List UInt8) (t : Nat) (ht : t ≤ l.length) : t ≤ (if nextB l t 10 then t + 1 else t) ∧ (if nextB l t 10 then t + 1 else t) ≤ l.length ∧ l.drop (if nextB l t 10 then t + 1 else t) = dropLF (l.drop t) := by
 have e : nextB l t 10 = lfB l t := rfl
 rw [e]
 cases hb : lfB l t with
 | true => have := lfB_t hb; rw [if_pos rfl]; exact ⟨by omega, by omega, this.2.symm⟩
 | false => rw [if_neg (by simp)]; exact ⟨Nat.le_refl _, ht, (lfB_f hb).symm⟩
theorem scan_escape (B r : Nat) (p : Option Addr) (l : List UInt8) (c t : Nat) (x : UInt8) (v : Value) (o : List UInt8) (w : World) (h : RdOk w r p l c t) (hne : 0 < l.length → (pA p).block ≠ r) (hl : l.length ≤ 100000000) (ht : t ≤ l.length)
  (hrB : r < B) (hBw : B ≤ w.heap.size) (hpB : 0 < l.length → (pA p).block < B) (hown : Own 5 B w v (byteVals o)) (hol : o.length ≤ 500000000) :
  Calls Tryz.prog 236 #[.pointer (some ⟨r, 0, none⟩), v, .int .u8 (x.toNat : Int)] w fun e w' => ∃ v', e = .returned v' ∧ ∃ k, RdOk w' r p l c k ∧ Touch B r w w' ∧ Own 5 B w' v' (byteVals (o ++ (escS x (l.drop t)).1)) ∧ t ≤ k ∧ k ≤ l.length ∧ l.drop k = (escS x (l.drop t)).2 := by
 have hr := h.1
 have hb := h.2
 refine W.enter func236 rfl ntmps236 (Nat.le_of_ble_eq_true rfl) ?_
 have hB0 := Touch.refl (B) r w
 refine W.seq <| W.reg <| WL.p (.as rfl) rfl <| WL.nil <| ?_
 refine W.seq <| W.seq <| W.reg <| WL.p (.mv rfl) rfl <| WL.nil <| ?_
 refine W.block <| W.seq <| W.reg <| WL.p (.eql rfl rfl) rfl <| WL.p (.as rfl) rfl <| WL.nil <| ?_
 refine W.cond rfl (fun h1 => ?_) (fun h1 => ?_)
 ·
  have h1' := of_decide_eq_true h1
  refine W.seq <| W.reg <| WL.p (.mv rfl) rfl <| WL.bsl (ps := _) underlying22 sizeOf5 zeroValue5 rfl rfl rfl rfl rfl (by simp only [put1, List.map, List.zip, List.zipWith, List.set, List.replicate] <;> rfl) rfl (fun b2 wb2 eb2 hkb2 hub2 hsb2 => ?_)
  have ho3 := Own.new hown eb2 hub2
  have hl5 : r < b2 := by rw [eb2]; exact hr.lt
  have hk4 := hr.upd hub2 (Nat.ne_of_lt hl5)
  have hvl7 := fun h0 => eb2 ▸ hb.lt h0
  have hv6 := BytesAt.upd hb hub2 (fun h0 => Nat.ne_of_lt (hvl7 h0))
  have hgeb2 : w.heap.size ≤ b2 := by rw [eb2]; exact hB0.size
  have hB8 := Touch.trans hB0 (Touch.of_new hub2 (Nat.le_trans hBw hgeb2))
  refine WL.appm underlying22 inf5 rfl rfl rfl ho3 rfl hkb2 rfl (by rw [byteVals_len]; omega) ((Nat.le_trans hBw hB8.size)) rfl (fun v9 w10 how10 hbw10 hgw10 => ?_)
  have hk11 := hk4.below hbw10 (by omega)
  have hv12 := BytesAt.below hv6 hbw10 hpB
  have hB13 := Touch.trans hB8 (Touch.of_below (hbw10.mono (Nat.le_refl _)))
  have ho14 := Own.snoc how10 (10) (rfl)
  refine WL.p (.as rfl) rfl <| WL.nil <| ?_
  refine W.ret (W.ret1 rfl rfl ?_)
  exact ⟨_, rfl, t, ⟨hk11, hv12⟩, hB13, (by rw [show x = 110 from u8_eq (by assumption), esc110]; exact ho14), Nat.le_refl _, ht, (by rw [show x = 110 from u8_eq (by assumption), esc110])⟩
 have h1' := of_decide_eq_false h1
 refine W.seq <| W.reg <| WL.p (.eql rfl rfl) rfl <| WL.p (.as rfl) rfl <| WL.nil <| ?_
 refine W.cond rfl (fun h15 => ?_) (fun h15 => ?_)
 ·
  have h15' := of_decide_eq_true h15
  refine W.seq <| W.reg <| WL.p (.mv rfl) rfl <| WL.bsl (ps := _) underlying22 sizeOf5 zeroValue5 rfl rfl rfl rfl rfl (by simp only [put1, List.map, List.zip, List.zipWith, List.set, List.replicate] <;> rfl) rfl (fun b16 wb16 eb16 hkb16 hub16 hsb16 => ?_)
  have ho17 := Own.new hown eb16 hub16
  have hl19 : r < b16 := by rw [eb16]; exact hr.lt
  have hk18 := hr.upd hub16 (Nat.ne_of_lt hl19)
  have hvl21 := fun h0 => eb16 ▸ hb.lt h0
  have hv20 := BytesAt.upd hb hub16 (fun h0 => Nat.ne_of_lt (hvl21 h0))
  have hgeb16 : w.heap.size ≤ b16 := by rw [eb16]; exact hB0.size
  have hB22 := Touch.trans hB0 (Touch.of_new hub16 (Nat.le_trans hBw hgeb16))
  refine WL.appm underlying22 inf5 rfl rfl rfl ho17 rfl hkb16 rfl (by rw [byteVals_len]; omega) ((Nat.le_trans hBw hB22.size)) rfl (fun v23 w24 how24 hbw24 hgw24 => ?_)
  have hk25 := hk18.below hbw24 (by omega)
  have hv26 := BytesAt.below hv20 hbw24 hpB
  have hB27 := Touch.trans hB22 (Touch.of_below (hbw24.mono (Nat.le_refl _)))
  have ho28 := Own.snoc how24 (13) (rfl)
  refine WL.p (.as rfl) rfl <| WL.nil <| ?_
  refine W.ret (W.ret1 rfl rfl ?_)
  exact ⟨_, rfl, t, ⟨hk25, hv26⟩, hB27, (by rw [show x = 114 from u8_eq (by assumption), esc114]; exact ho28), Nat.le_refl _, ht, (by rw [show x = 114 from u8_eq (by assumption), esc114])⟩
 have h15' := of_decide_eq_false h15
 refine W.seq <| W.reg <| WL.p (.eql rfl rfl) rfl <| WL.p (.as rfl) rfl <| WL.nil <| ?_
 refine W.cond rfl (fun h29 => ?_) (fun h29 => ?_)
 ·
  have h29' := of_decide_eq_true h29
  refine W.seq <| W.reg <| WL.p (.mv rfl) rfl <| WL.bsl (ps := _) underlying22 sizeOf5 zeroValue5 rfl rfl rfl rfl rfl (by simp only [put1, List.map, List.zip, List.zipWith, List.set, List.replicate] <;> rfl) rfl (fun b30 wb30 eb30 hkb30 hub30 hsb30 => ?_)
  have ho31 := Own.new hown eb30 hub30
  have hl33 : r < b30 := by rw [eb30]; exact hr.lt
  have hk32 := hr.upd hub30 (Nat.ne_of_lt hl33)
  have hvl35 := fun h0 => eb30 ▸ hb.lt h0
  have hv34 := BytesAt.upd hb hub30 (fun h0 => Nat.ne_of_lt (hvl35 h0))
  have hgeb30 : w.heap.size ≤ b30 := by rw [eb30]; exact hB0.size
  have hB36 := Touch.trans hB0 (Touch.of_new hub30 (Nat.le_trans hBw hgeb30))
  refine WL.appm underlying22 inf5 rfl rfl rfl ho31 rfl hkb30 rfl (by rw [byteVals_len]; omega) ((Nat.le_trans hBw hB36.size)) rfl (fun v37 w38 how38 hbw38 hgw38 => ?_)
  have hk39 := hk32.below hbw38 (by omega)
  have hv40 := BytesAt.below hv34 hbw38 hpB
  have hB41 := Touch.trans hB36 (Touch.of_below (hbw38.mono (Nat.le_refl _)))
  have ho42 := Own.snoc how38 (9) (rfl)
  refine WL.p (.as rfl) rfl <| WL.nil <| ?_
  refine W.ret (W.ret1 rfl rfl ?_)
  exact ⟨_, rfl, t, ⟨hk39, hv40⟩, hB41, (by rw [show x = 116 from u8_eq (by assumption), esc116]; exact ho42), Nat.le_refl _, ht, (by rw [show x = 116 from u8_eq (by assumption), esc116])⟩
 have h29' := of_decide_eq_false h29
 refine W.seq <| W.reg <| WL.p (.eql rfl rfl) rfl <| WL.p (.as rfl) rfl <| WL.nil <| ?_
 refine W.cond rfl (fun h43 => ?_) (fun h43 => ?_)
 ·
  have h43' := of_decide_eq_true h43
  refine W.seq <| W.reg <| WL.p (.mv rfl) rfl <| WL.bsl (ps := _) underlying22 sizeOf5 zeroValue5 rfl rfl rfl rfl rfl (by simp only [put1, List.map, List.zip, List.zipWith, List.set, List.replicate] <;> rfl) rfl (fun b44 wb44 eb44 hkb44 hub44 hsb44 => ?_)
  have ho45 := Own.new hown eb44 hub44
  have hl47 : r < b44 := by rw [eb44]; exact hr.lt
  have hk46 := hr.upd hub44 (Nat.ne_of_lt hl47)
  have hvl49 := fun h0 => eb44 ▸ hb.lt h0
  have hv48 := BytesAt.upd hb hub44 (fun h0 => Nat.ne_of_lt (hvl49 h0))
  have hgeb44 : w.heap.size ≤ b44 := by rw [eb44]; exact hB0.size
  have hB50 := Touch.trans hB0 (Touch.of_new hub44 (Nat.le_trans hBw hgeb44))
  refine WL.appm underlying22 inf5 rfl rfl rfl ho45 rfl hkb44 rfl (by rw [byteVals_len]; omega) ((Nat.le_trans hBw hB50.size)) rfl (fun v51 w52 how52 hbw52 hgw52 => ?_)
  have hk53 := hk46.below hbw52 (by omega)
  have hv54 := BytesAt.below hv48 hbw52 hpB
  have hB55 := Touch.trans hB50 (Touch.of_below (hbw52.mono (Nat.le_refl _)))
  have ho56 := Own.snoc how52 (8) (rfl)
  refine WL.p (.as rfl) rfl <| WL.nil <| ?_
  refine W.ret (W.ret1 rfl rfl ?_)
  exact ⟨_, rfl, t, ⟨hk53, hv54⟩, hB55, (by rw [show x = 98 from u8_eq (by assumption), esc98]; exact ho56), Nat.le_refl _, ht, (by rw [show x = 98 from u8_eq (by assumption), esc98])⟩
 have h43' := of_decide_eq_false h43
 refine W.seq <| W.reg <| WL.p (.eql rfl rfl) rfl <| WL.p (.as rfl) rfl <| WL.nil <| ?_
 refine W.cond rfl (fun h57 => ?_) (fun h57 => ?_)
 ·
  have h57' := of_decide_eq_true h57
  refine W.seq <| W.reg <| WL.p (.mv rfl) rfl <| WL.bsl (ps := _) underlying22 sizeOf5 zeroValue5 rfl rfl rfl rfl rfl (by simp only [put1, List.map, List.zip, List.zipWith, List.set, List.replicate] <;> rfl) rfl (fun b58 wb58 eb58 hkb58 hub58 hsb58 => ?_)
  have ho59 := Own.new hown eb58 hub58
  have hl61 : r < b58 := by rw [eb58]; exact hr.lt
  have hk60 := hr.upd hub58 (Nat.ne_of_lt hl61)
  have hvl63 := fun h0 => eb58 ▸ hb.lt h0
  have hv62 := BytesAt.upd hb hub58 (fun h0 => Nat.ne_of_lt (hvl63 h0))
  have hgeb58 : w.heap.size ≤ b58 := by rw [eb58]; exact hB0.size
  have hB64 := Touch.trans hB0 (Touch.of_new hub58 (Nat.le_trans hBw hgeb58))
  refine WL.appm underlying22 inf5 rfl rfl rfl ho59 rfl hkb58 rfl (by rw [byteVals_len]; omega) ((Nat.le_trans hBw hB64.size)) rfl (fun v65 w66 how66 hbw66 hgw66 => ?_)
  have hk67 := hk60.below hbw66 (by omega)
  have hv68 := BytesAt.below hv62 hbw66 hpB
  have hB69 := Touch.trans hB64 (Touch.of_below (hbw66.mono (Nat.le_refl _)))
  have ho70 := Own.snoc how66 (12) (rfl)
  refine WL.p (.as rfl) rfl <| WL.nil <| ?_
  refine W.ret (W.ret1 rfl rfl ?_)
  exact ⟨_, rfl, t, ⟨hk67, hv68⟩, hB69, (by rw [show x = 102 from u8_eq (by assumption), esc102]; exact ho70), Nat.le_refl _, ht, (by rw [show x = 102 from u8_eq (by assumption), esc102])⟩
 have h57' := of_decide_eq_false h57
 refine W.seq <| W.reg <| WL.p (.eql rfl rfl) rfl <| WL.p (.as rfl) rfl <| WL.nil <| ?_
 refine W.cond rfl (fun h71 => ?_) (fun h71 => ?_)
 ·
  have h71' := of_decide_eq_true h71
  refine W.seq <| W.reg <| WL.p (.mv rfl) rfl <| WL.p (.as rfl) rfl <| WL.nil <| ?_
  refine W.ret (W.ret1 rfl rfl ?_)
  exact ⟨_, rfl, t, ⟨hr, hb⟩, hB0, (by rw [show x = 10 from u8_eq (by assumption), esc10, List.append_nil]; exact hown), Nat.le_refl _, ht, (by rw [show x = 10 from u8_eq (by assumption), esc10])⟩
 have h71' := of_decide_eq_false h71
 refine W.seq <| W.reg <| WL.p (.eql rfl rfl) rfl <| WL.p (.as rfl) rfl <| WL.nil <| ?_
 refine W.cond rfl (fun h72 => ?_) (fun h72 => ?_)
 ·
  have h72' := of_decide_eq_true h72
  have hx13 : x = 13 := u8_eq (by assumption)
  refine W.seq <| W.reg <| WL.p (.mv rfl) rfl <| WL.c1 hb237 rfl rfl ((scan_next r p l c t 10 _ ⟨hr, hb⟩ hne hl ht)) (fun w73 hw73 => ?_)
  have ho74 := Own.touch' hown hw73.2 (by omega)
  have hk75 := hw73.1.1
  have hv76 := hw73.1.2
  have hB77 := Touch.trans hB0 (Touch.mono hw73.2 (Nat.le_trans hBw hB0.size))
  refine WL.nil <| ?_
  refine W.seq <| W.reg <| WL.p (.mv rfl) rfl <| WL.p (.as rfl) rfl <| WL.nil <| ?_
  refine W.ret (W.ret1 rfl rfl ?_)
  exact ⟨_, rfl, _, ⟨hk75, hv76⟩, hB77, (by rw [hx13, esc13, List.append_nil]; exact ho74), (next_lf l t ht).1, (next_lf l t ht).2.1, (by rw [hx13, esc13]; exact (next_lf l t ht).2.2)⟩
 have h72' := of_decide_eq_false h72
 refine W.skip <| W.seq <| W.seq <| W.reg <| WL.p (.mv rfl) rfl <| WL.p (.lss rfl rfl) rfl <| WL.p (.mv rfl) rfl <| WL.gd rfl rfl rfl (fun g78 => ?_) (fun g78 => ?_)
 ·
  have g78' := of_decide_eq_false g78
  refine WL.p (.mv rfl) rfl <| WL.gy rfl rfl rfl g78 <| WL.p (.gtr rfl rfl) rfl <| WL.p (.pkF rfl g78 rfl) rfl <| WL.nil <| ?_
  refine W.cond rfl (fun h79 => ?_) (fun h79 => ?_)
  ·
   have h79' := of_decide_eq_true h79
   refine W.seq <| W.reg <| WL.p (.mv rfl) rfl <| WL.p (.mv rfl) rfl <| WL.bsl (ps := _) underlying22 sizeOf5 zeroValue5 rfl rfl rfl rfl rfl (by simp only [put1, List.map, List.zip, List.zipWith, List.set, List.replicate] <;> rfl) rfl (fun b80 wb80 eb80 hkb80 hub80 hsb80 => ?_)
   have ho81 := Own.new hown eb80 hub80
   have hl83 : r < b80 := by rw [eb80]; exact hr.lt
   have hk82 := hr.upd hub80 (Nat.ne_of_lt hl83)
   have hvl85 := fun h0 => eb80 ▸ hb.lt h0
   have hv84 := BytesAt.upd hb hub80 (fun h0 => Nat.ne_of_lt (hvl85 h0))
   have hgeb80 : w.heap.size ≤ b80 := by rw [eb80]; exact hB0.size
   have hB86 := Touch.trans hB0 (Touch.of_new hub80 (Nat.le_trans hBw hgeb80))
   refine WL.appm underlying22 inf5 rfl rfl rfl ho81 rfl hkb80 rfl (by rw [byteVals_len]; omega) ((Nat.le_trans hBw hB86.size)) rfl (fun v87 w88 how88 hbw88 hgw88 => ?_)
   have hk89 := hk82.below hbw88 (by omega)
   have hv90 := BytesAt.below hv84 hbw88 hpB
   have hB91 := Touch.trans hB86 (Touch.of_below (hbw88.mono (Nat.le_refl _)))
   have ho92 := Own.snoc how88 (x) (rfl)
   refine WL.p (.as rfl) rfl <| WL.nil <| ?_
   refine W.ret (W.ret1 rfl rfl ?_)
   exact ⟨_, rfl, t, ⟨hk89, hv90⟩, hB91, (by rw [esc_else _ (by omega) (by omega) (by omega) (by omega) (by omega) (by omega) (by omega) (by omega)]; exact ho92), Nat.le_refl _, ht, (by rw [esc_else _ (by omega) (by omega) (by omega) (by omega) (by omega) (by omega) (by omega) (by omega)])⟩
  have h79' := of_decide_eq_false h79
  refine W.skip <| W.seq <| W.reg <| WL.p (.mv rfl) rfl <| WL.p (.sub rfl rfl (u8w (by omega))) rfl <| WL.p (.cvt underlying5 underlying3 rfl (i64w (by omega))) rfl <| WL.p (.as rfl) rfl <| WL.nil <| ?_
  refine W.seq <| W.seq <| W.reg <| WL.p (.as rfl) rfl <| WL.nil <| ?_
  refine W.block ?_
  obtain ⟨tt, htt⟩ : ∃ tt, tt = t := ⟨t, rfl⟩
  have h48 : 48 ≤ (x.toNat : Int) := by omega
  have h55 : (x.toNat : Int) ≤ 55 := by omega
  refine W.loop (α := Nat × Nat × Nat) (fun t => [(0, .pointer (some ⟨r, 0, none⟩)), (1, v), (7, .int .i64 (t.1 : Int)), (8, .int .i64 (t.2.1 : Int))]) (fun t w' => RdOk w' r p l c t.2.2 ∧ Touch B r w w' ∧ Own 5 B w' v (byteVals o) ∧ tt ≤ t.2.2 ∧ t.2.2 ≤ l.length ∧ (t.2.1 = 0 ∧ t.1 ≤ 7 ∨ t.2.1 = 1 ∧ t.1 ≤ 63 ∨ t.2.1 = 2 ∧ t.1 ≤ 511) ∧ octS (2 - t.2.1) t.1 (l.drop t.2.2) = octS 2 (x.toNat - 48) (l.drop tt)) (fun t => 2 - t.2.1) ((x.toNat - 48, 0, tt)) ⟨rfl, rfl, lk_i rfl (by ((try simp only) <;> omega)), rfl, trivial⟩ (⟨⟨by rw [htt]; exact hr, hb⟩, hB0, hown, Nat.le_refl _, by rw [htt]; exact ht, Or.inl ⟨rfl, by ((try simp only) <;> omega)⟩, rfl⟩) (fun t w1 hR => ?_)
  subst htt
  obtain ⟨m, k, u⟩ := t
  obtain ⟨hrd, hT, hown1, hu1, hu2, hm, hoc⟩ := hR
  simp only at hrd hT hown1 hu1 hu2 hm hoc ⊢
  refine W.seq ?_
  refine W.cutBQ 87 (octT l k u) ?_ (fun w93 dw93 => ?_)
  ·
   skip
   refine W.regQ mixed (by kernel_rfl) ?_
   refine WQ.p (.mv rfl) rfl <| WQ.p (.lss rfl rfl) rfl <| WQ.p (.mv rfl) rfl <| WQ.gd rfl rfl rfl (fun g94 => ?_) (fun g94 => ?_)
   ·
    have g94' := of_decide_eq_true g94
    refine WQ.p (.mv rfl) rfl <| WQ.gy rfl rfl rfl g94 <| WQ.c1 hb202 rfl rfl (fun m => (more_q r p l c u _ ⟨hrd.1, hrd.2⟩ m)) <| WQ.p (.pkT rfl g94 rfl) rfl <| WQ.p (.mv rfl) rfl <| WQ.gd rfl rfl rfl (fun g95 => ?_) (fun g95 => ?_)
    ·
     have g95' := of_decide_eq_true g95
     refine WQ.p (.mv rfl) rfl <| WQ.gy rfl rfl rfl g95 <| WQ.p (.nck rfl) rfl <| WQ.gy rfl rfl rfl g95 <| WQ.p (.fa underlying185 rfl sizeOf22 (by decide) rfl) rfl <| WQ.gy rfl rfl rfl g95 <| WQ.r (fun m => Rd.ld (isAgg22 _) rfl hrd.1 rfl) rfl <| WQ.gy rfl rfl rfl g95 <| WQ.p (.mv rfl) rfl <| WQ.gy rfl rfl rfl g95 <| WQ.p (.nck rfl) rfl <| WQ.gy rfl rfl rfl g95 <| WQ.p (.fa underlying185 rfl sizeOf3 (by decide) rfl) rfl <| WQ.gy rfl rfl rfl g95 <| WQ.r (fun m => Rd.ld (isAgg3 _) rfl hrd.1 rfl) rfl <| WQ.gy rfl rfl rfl g95 <| WQ.p (.ixb underlying22 sizeOf5 rfl rfl (hrd.2.isp (by omega)) (u) (by omega) (by omega)) rfl <| WQ.gy rfl rfl rfl g95 <| WQ.r (fun m => Rd.ldc (isAgg5 _) rfl ((hrd.2.drewN m).cells (u) (by omega))) rfl <| WQ.gy rfl rfl rfl g95 <| WQ.p (.geq rfl rfl) rfl <| WQ.p (.pkT rfl g95 rfl) rfl <| WQ.p (.mv rfl) rfl <| WQ.gd rfl rfl rfl (fun g96 => ?_) (fun g96 => ?_)
     ·
      have g96' := of_decide_eq_true g96
      refine WQ.p (.mv rfl) rfl <| WQ.gy rfl rfl rfl g96 <| WQ.p (.nck rfl) rfl <| WQ.gy rfl rfl rfl g96 <| WQ.p (.fa underlying185 rfl sizeOf22 (by decide) rfl) rfl <| WQ.gy rfl rfl rfl g96 <| WQ.r (fun m => Rd.ld (isAgg22 _) rfl hrd.1 rfl) rfl <| WQ.gy rfl rfl rfl g96 <| WQ.p (.mv rfl) rfl <| WQ.gy rfl rfl rfl g96 <| WQ.p (.nck rfl) rfl <| WQ.gy rfl rfl rfl g96 <| WQ.p (.fa underlying185 rfl sizeOf3 (by decide) rfl) rfl <| WQ.gy rfl rfl rfl g96 <| WQ.r (fun m => Rd.ld (isAgg3 _) rfl hrd.1 rfl) rfl <| WQ.gy rfl rfl rfl g96 <| WQ.p (.ixb underlying22 sizeOf5 rfl rfl (hrd.2.isp (by omega)) (u) (by omega) (by omega)) rfl <| WQ.gy rfl rfl rfl g96 <| WQ.r (fun m => Rd.ldc (isAgg5 _) rfl ((hrd.2.drewN m).cells (u) (by omega))) rfl <| WQ.gy rfl rfl rfl g96 <| WQ.p (.leq rfl rfl) rfl <| WQ.p (.pkT rfl g96 rfl) rfl <| WQ.nil (fun w97 dw97 => ?_)
      exact ⟨⟨lk_b rfl (by (by_cases hq : u < l.length) <;> (unfold octT; first | (exfalso; omega) | (rw [getElem!_pos l u hq]; (apply Bool.eq_iff_iff.2; (try simp only [Bool.and_eq_true, Bool.or_eq_true, Bool.not_eq_true', decide_eq_true_eq, decide_eq_false_iff_not, Bool.false_eq_true, Bool.not_eq_false', false_iff, iff_false, true_iff, iff_true]); omega)) | (apply Bool.eq_iff_iff.2; (try simp only [Bool.and_eq_true, Bool.or_eq_true, Bool.not_eq_true', decide_eq_true_eq, decide_eq_false_iff_not, Bool.false_eq_true, Bool.not_eq_false', false_iff, iff_false, true_iff, iff_true]); omega))), by repeat (first | exact Le.refl _ | refine Le.cons rfl ?_)⟩, dw97⟩
     have g96' := of_decide_eq_false g96
     refine WQ.gn rfl rfl rfl g96 <| WQ.gn rfl rfl rfl g96 <| WQ.gn rfl rfl rfl g96 <| WQ.gn rfl rfl rfl g96 <| WQ.gn rfl rfl rfl g96 <| WQ.gn rfl rfl rfl g96 <| WQ.gn rfl rfl rfl g96 <| WQ.gn rfl rfl rfl g96 <| WQ.gn rfl rfl rfl g96 <| WQ.gn rfl rfl rfl g96 <| WQ.p (.pkF rfl g96 rfl) rfl <| WQ.nil (fun w102 dw102 => ?_)
     exact ⟨⟨lk_b rfl (by (by_cases hq : u < l.length) <;> (unfold octT; first | (exfalso; omega) | (rw [getElem!_pos l u hq]; (apply Bool.eq_iff_iff.2; (try simp only [Bool.and_eq_true, Bool.or_eq_true, Bool.not_eq_true', decide_eq_true_eq, decide_eq_false_iff_not, Bool.false_eq_true, Bool.not_eq_false', false_iff, iff_false, true_iff, iff_true]); omega)) | (apply Bool.eq_iff_iff.2; (try simp only [Bool.and_eq_true, Bool.or_eq_true, Bool.not_eq_true', decide_eq_true_eq, decide_eq_false_iff_not, Bool.false_eq_true, Bool.not_eq_false', false_iff, iff_false, true_iff, iff_true]); omega))), by repeat (first | exact Le.refl _ | refine Le.cons rfl ?_)⟩, dw102⟩
    have g95' := of_decide_eq_false g95
    refine WQ.gn rfl rfl rfl g95 <| WQ.gn rfl rfl rfl g95 <| WQ.gn rfl rfl rfl g95 <| WQ.gn rfl rfl rfl g95 <| WQ.gn rfl rfl rfl g95 <| WQ.gn rfl rfl rfl g95 <| WQ.gn rfl rfl rfl g95 <| WQ.gn rfl rfl rfl g95 <| WQ.gn rfl rfl rfl g95 <| WQ.gn rfl rfl rfl g95 <| WQ.p (.pkF rfl g95 rfl) rfl <| WQ.p (.mv rfl) rfl <| WQ.gn rfl rfl rfl rfl <| WQ.gn rfl rfl rfl rfl <| WQ.gn rfl rfl rfl rfl <| WQ.gn rfl rfl rfl rfl <| WQ.gn rfl rfl rfl rfl <| WQ.gn rfl rfl rfl rfl <| WQ.gn rfl rfl rfl rfl <| WQ.gn rfl rfl rfl rfl <| WQ.gn rfl rfl rfl rfl <| WQ.gn rfl rfl rfl rfl <| WQ.gn rfl rfl rfl rfl <| WQ.p (.pkF rfl rfl rfl) rfl <| WQ.nil (fun w107 dw107 => ?_)
    exact ⟨⟨lk_b rfl (by (by_cases hq : u < l.length) <;> (unfold octT; first | (exfalso; omega) | (rw [getElem!_pos l u hq]; (apply Bool.eq_iff_iff.2; (try simp only [Bool.and_eq_true, Bool.or_eq_true, Bool.not_eq_true', decide_eq_true_eq, decide_eq_false_iff_not, Bool.false_eq_true, Bool.not_eq_false', false_iff, iff_false, true_iff, iff_true]); omega)) | (apply Bool.eq_iff_iff.2; (try simp only [Bool.and_eq_true, Bool.or_eq_true, Bool.not_eq_true', decide_eq_true_eq, decide_eq_false_iff_not, Bool.false_eq_true, Bool.not_eq_false', false_iff, iff_false, true_iff, iff_true]); omega))), by repeat (first | exact Le.refl _ | refine Le.cons rfl ?_)⟩, dw107⟩
   have g94' := of_decide_eq_false g94
   refine WQ.gn rfl rfl rfl g94 <| WQ.p (.pkF rfl g94 rfl) rfl <| WQ.p (.mv rfl) rfl <| WQ.gn rfl rfl rfl rfl <| WQ.gn rfl rfl rfl rfl <| WQ.gn rfl rfl rfl rfl <| WQ.gn rfl rfl rfl rfl <| WQ.gn rfl rfl rfl rfl <| WQ.gn rfl rfl rfl rfl <| WQ.gn rfl rfl rfl rfl <| WQ.gn rfl rfl rfl rfl <| WQ.gn rfl rfl rfl rfl <| WQ.gn rfl rfl rfl rfl <| WQ.gn rfl rfl rfl rfl <| WQ.p (.pkF rfl rfl rfl) rfl <| WQ.p (.mv rfl) rfl <| WQ.gn rfl rfl rfl rfl <| WQ.gn rfl rfl rfl rfl <| WQ.gn rfl rfl rfl rfl <| WQ.gn rfl rfl rfl rfl <| WQ.gn rfl rfl rfl rfl <| WQ.gn rfl rfl rfl rfl <| WQ.gn rfl rfl rfl rfl <| WQ.gn rfl rfl rfl rfl <| WQ.gn rfl rfl rfl rfl <| WQ.gn rfl rfl rfl rfl <| WQ.gn rfl rfl rfl rfl <| WQ.p (.pkF rfl rfl rfl) rfl <| WQ.nil (fun w112 dw112 => ?_)
   exact ⟨⟨lk_b rfl (by (by_cases hq : u < l.length) <;> (unfold octT; first | (exfalso; omega) | (rw [getElem!_pos l u hq]; (apply Bool.eq_iff_iff.2; (try simp only [Bool.and_eq_true, Bool.or_eq_true, Bool.not_eq_true', decide_eq_true_eq, decide_eq_false_iff_not, Bool.false_eq_true, Bool.not_eq_false', false_iff, iff_false, true_iff, iff_true]); omega)) | (apply Bool.eq_iff_iff.2; (try simp only [Bool.and_eq_true, Bool.or_eq_true, Bool.not_eq_true', decide_eq_true_eq, decide_eq_false_iff_not, Bool.false_eq_true, Bool.not_eq_false', false_iff, iff_false, true_iff, iff_true]); omega))), by repeat (first | exact Le.refl _ | refine Le.cons rfl ?_)⟩, dw112⟩
  have ho117 := Own.drew hown1 dw93
  have hk118 := hrd.1.drew dw93
  have hv119 := hrd.2.drew dw93
  have hB120 := Touch.trans hT (Touch.of_drew dw93)
  refine W.cond rfl (fun h121 => ?_) (fun h121 => ?_)
  ·
   skip
   obtain ⟨hk2', hul, h48', h55', hoct⟩ := octT_t (by assumption)
   refine W.skip <| W.seq <| W.block <| W.reg <| WL.p (.mv rfl) rfl <| WL.p (.mul rfl rfl (i64w (by omega))) rfl <| WL.p (.mv rfl) rfl <| WL.ce hb235 rfl rfl ((scan_take r p l c u _ ⟨hk118, hv119⟩ hne hl)) (fun k124 w122 hrw122 hw122 => ?_) (fun a123 w122 hrw122 hw122 => ?_)
   ·
    skip
    exact absurd (takeS_err hrw122).1 (by omega)
   have ho125 := Own.touch' ho117 hw122.2 (by omega)
   have hk126 := hw122.1.1
   have hv127 := hw122.1.2
   have hB128 := Touch.trans hB120 (Touch.mono hw122.2 (Nat.le_trans hBw hB120.size))
   obtain ⟨hlt, hx⟩ := takeS_ok hrw122
   rw [hx]
   refine WL.p (.sub rfl rfl (u8w (by omega))) rfl <| WL.p (.cvt underlying5 underlying3 rfl (i64w (by omega))) rfl <| WL.p (.add rfl rfl (i64w (by omega))) rfl <| WL.p (.as rfl) rfl <| WL.nil <| ?_
   refine W.reg <| WL.p (.mv rfl) rfl <| WL.p (.add rfl rfl (i64w (by omega))) rfl <| WL.p (.as rfl) rfl <| WL.nil <| ?_
   exact ⟨(8 * m + ((l[u]'hul).toNat - 48), k + 1, u + 1), ⟨rfl, rfl, lk_i rfl (by ((try simp only) <;> omega)), lk_i rfl (by ((try simp only) <;> omega)), trivial⟩, ⟨⟨hk126, hv127⟩, hB128, ho125, by ((try simp only) <;> omega), by ((try simp only) <;> omega), by ((try simp only) <;> omega), by rw [← hoc, hoct m]⟩, by ((try simp only) <;> omega)⟩
  have hoct := octT_f (by assumption) m
  rw [hoc] at hoct
  refine W.exit <| W.seq <| W.reg <| WL.p (.mv rfl) rfl <| WL.p (.mv rfl) rfl <| WL.p (.cvt underlying3 underlying5 rfl (show IntKind.u8.wrap (m : Int) = ((m % 256 : Nat) : Int) by rw [IntKind.wrap_u8']; (first | done | rfl))) rfl <| WL.bsl (ps := _) underlying22 sizeOf5 zeroValue5 rfl rfl rfl rfl rfl (by simp only [put1, List.map, List.zip, List.zipWith, List.set, List.replicate] <;> rfl) rfl (fun b129 wb129 eb129 hkb129 hub129 hsb129 => ?_)
  have ho130 := Own.new ho117 eb129 hub129
  have hl132 : r < b129 := by rw [eb129]; exact hk118.lt
  have hk131 := hk118.upd hub129 (Nat.ne_of_lt hl132)
  have hvl134 := fun h0 => eb129 ▸ hv119.lt h0
  have hv133 := BytesAt.upd hv119 hub129 (fun h0 => Nat.ne_of_lt (hvl134 h0))
  have hgeb129 : w.heap.size ≤ b129 := by rw [eb129]; exact hB120.size
  have hB135 := Touch.trans hB120 (Touch.of_new hub129 (Nat.le_trans hBw hgeb129))
  refine WL.appm underlying22 inf5 rfl rfl rfl ho130 rfl hkb129 rfl (by rw [byteVals_len]; omega) ((Nat.le_trans hBw hB135.size)) rfl (fun v136 w137 how137 hbw137 hgw137 => ?_)
  have hk138 := hk131.below hbw137 (by omega)
  have hv139 := BytesAt.below hv133 hbw137 hpB
  have hB140 := Touch.trans hB135 (Touch.of_below (hbw137.mono (Nat.le_refl _)))
  have ho141 := Own.snoc how137 (ch ((m % 256 : Nat) : Int)) (by rw [ch_val _ (by omega) (by omega)])
  refine WL.p (.as rfl) rfl <| WL.nil <| ?_
  refine W.ret (W.ret1 rfl rfl ?_)
  exact ⟨_, rfl, u, ⟨hk138, hv139⟩, hB140, (by rw [esc_oct _ h48 h55, hoct]; exact ho141), hu1, hu2, (by rw [esc_oct _ h48 h55, hoct])⟩
 have g78' := of_decide_eq_true g78
 refine WL.gn rfl rfl rfl g78 <| WL.p (.pkT rfl g78 rfl) rfl <| WL.nil <| ?_
 refine W.condT rfl rfl ?_
 refine W.seq <| W.reg <| WL.p (.mv rfl) rfl <| WL.p (.mv rfl) rfl <| WL.bsl (ps := _) underlying22 sizeOf5 zeroValue5 rfl rfl rfl rfl rfl (by simp only [put1, List.map, List.zip, List.zipWith, List.set, List.replicate] <;> rfl) rfl (fun b142 wb142 eb142 hkb142 hub142 hsb142 => ?_)
 have ho143 := Own.new hown eb142 hub142
 have hl145 : r < b142 := by rw [eb142]; exact hr.lt
 have hk144 := hr.upd hub142 (Nat.ne_of_lt hl145)
 have hvl147 := fun h0 => eb142 ▸ hb.lt h0
 have hv146 := BytesAt.upd hb hub142 (fun h0 => Nat.ne_of_lt (hvl147 h0))
 have hgeb142 : w.heap.size ≤ b142 := by rw [eb142]; exact hB0.size
 have hB148 := Touch.trans hB0 (Touch.of_new hub142 (Nat.le_trans hBw hgeb142))
 refine WL.appm underlying22 inf5 rfl rfl rfl ho143 rfl hkb142 rfl (by rw [byteVals_len]; omega) ((Nat.le_trans hBw hB148.size)) rfl (fun v149 w150 how150 hbw150 hgw150 => ?_)
 have hk151 := hk144.below hbw150 (by omega)
 have hv152 := BytesAt.below hv146 hbw150 hpB
 have hB153 := Touch.trans hB148 (Touch.of_below (hbw150.mono (Nat.le_refl _)))
 have ho154 := Own.snoc how150 (x) (rfl)
 refine WL.p (.as rfl) rfl <| WL.nil <| ?_
 refine W.ret (W.ret1 rfl rfl ?_)
 exact ⟨_, rfl, t, ⟨hk151, hv152⟩, hB153, (by rw [esc_else _ (by omega) (by omega) (by omega) (by omega) (by omega) (by omega) (by omega) (by omega)]; exact ho154), Nat.le_refl _, ht, (by rw [esc_else _ (by omega) (by omega) (by omega) (by omega) (by omega) (by omega) (by omega) (by omega)])⟩
theorem escS_one (x : UInt8) (r : List UInt8) : (escS x r).1.length ≤ 1 := by
 unfold escS
 repeat' split
 all_goals simp
theorem scan_round (r : Nat) (p : Option Addr) (l : List UInt8) (c t : Nat) (w : World) (h : RdOk w r p l c t) (hne : 0 < l.length → (pA p).block ≠ r) (hc : l.length ≤ c) (hl : l.length ≤ 100000000) (ht : t ≤ l.length) :
  Calls Tryz.prog 203 #[.pointer (some ⟨r, 0, none⟩)] w (Ends 35 (textS (roundS 1 [] (l.drop t))) (fun a => a.1.val) (Read w r p l c) (fun w' => Touch w.heap.size r w w')) := by
 have hr := h.1
 have hb := h.2
 obtain ⟨R, hR⟩ : ∃ R, R = roundS 1 [] (l.drop t) := ⟨_, rfl⟩
 rw [← hR]
 obtain ⟨a, rfl⟩ : ∃ a, a = t := ⟨t, rfl⟩
 refine W.enter func203 rfl ntmps203 (Nat.le_of_ble_eq_true rfl) ?_
 have hB0 := Touch.refl (w.heap.size) r w
 refine W.seq <| W.reg <| WL.alloc zeroValue143 rfl (fun b1 wb1 eb1 hkb1 hub1 hsb1 => ?_)
 have hl3 : r < b1 := by rw [eb1]; exact hr.lt
 have hk2 := hr.upd hub1 (Nat.ne_of_lt hl3)
 have hvl5 := fun h0 => eb1 ▸ hb.lt h0
 have hv4 := BytesAt.upd hb hub1 (fun h0 => Nat.ne_of_lt (hvl5 h0))
 have hgeb1 : w.heap.size ≤ b1 := by rw [eb1]; exact hB0.size
 have hB6 := Touch.trans hB0 (Touch.of_new hub1 hgeb1)
 refine WL.nil <| ?_
 refine W.seq ?_
 have hpB : 0 < l.length → (pA p).block < b1 + 1 := fun h0 => by have := hb.lt h0; omega
 have hrB : r < b1 := by have := hr.lt; omega
 refine W.reg <| WL.p (.as rfl) rfl <| WL.nil <| ?_
 refine W.seq <| W.reg <| WL.p (.as rfl) rfl <| WL.nil <| ?_
 refine W.block ?_
 refine W.loop (α := Value × List UInt8 × Nat × Nat) (fun t => [(0, .pointer (some ⟨r, 0, none⟩)), (2, .pointer (some ⟨b1, 0, none⟩)), (3, t.1), (4, .int .i64 (t.2.2.1 : Int))]) (fun t w' => RdOk w' r p l c t.2.2.2 ∧ Touch w.heap.size r w w' ∧ Blk w' b1 #[.int .i64 0, .int .i64 0, .string ⟨#[]⟩] 143 ∧ Own 5 (b1 + 1) w' t.1 (byteVals t.2.1) ∧ roundS t.2.2.1 t.2.1 (l.drop t.2.2.2) = R ∧ 1 ≤ t.2.2.1 ∧ t.2.2.1 ≤ t.2.2.2 + 1 ∧ t.2.1.length ≤ t.2.2.2 ∧ t.2.2.2 ≤ l.length) (fun t => l.length - t.2.2.2) ((.slice none 0 0, [], 1, a)) ⟨rfl, rfl, rfl, rfl, trivial⟩ (⟨⟨hk2, hv4⟩, hB6, hkb1, Own.nil _ _ _, hR.symm, Nat.le_refl _, by ((try simp only) <;> omega), Nat.zero_le _, ht⟩) (fun t w1 hR => ?_)
 obtain ⟨v, o, d, s⟩ := t
 obtain ⟨hrd, hT, hbk, hown, hw, hd1, hds, hol, hs⟩ := hR
 simp only at hrd hT hbk hown hw hd1 hds hol hs ⊢
 refine W.block <| W.seq <| W.reg <| WL.p (.mv rfl) rfl <| WL.ce hb235 rfl rfl ((scan_take r p l c s _ ⟨hrd.1, hrd.2⟩ hne hl)) (fun k9 w7 hrw7 hw7 => ?_) (fun a8 w7 hrw7 hw7 => ?_)
 ·
  skip
  have hBew7 := Touch.trans hT (Touch.mono hw7 hT.size)
  exact pn_is (Ends.err k9 (by rw [(takeS_err hrw7).2, ← hw, List.drop_eq_nil_of_le (takeS_err hrw7).1, roundS.eq_def]; (first | done | rfl)) hBew7)
 have ho10 := Own.touch' hown hw7.2 (by omega)
 have hk11 := hw7.1.1
 have hk12 := Blk.touch hbk hw7.2 hbk.lt (by omega)
 have hv13 := hw7.1.2
 have hB14 := Touch.trans hT (Touch.mono hw7.2 hT.size)
 obtain ⟨hlt, hx⟩ := takeS_ok hrw7
 obtain ⟨x, hxx⟩ : ∃ x, x = a8 := ⟨_, rfl⟩
 rw [← hxx] at hx ⊢
 have hst := roundS_at d o l s hlt
 rw [← hx] at hst
 refine WL.p (.as rfl) rfl <| WL.nil <| ?_
 refine W.seq <| W.seq <| W.reg <| WL.p (.mv rfl) rfl <| WL.nil <| ?_
 refine W.block <| W.seq <| W.reg <| WL.p (.eql rfl rfl) rfl <| WL.p (.as rfl) rfl <| WL.nil <| ?_
 refine W.cond rfl (fun h15 => ?_) (fun h15 => ?_)
 ·
  have h15' := of_decide_eq_true h15
  refine W.reg <| WL.p (.mv rfl) rfl <| WL.p (.iis (((d + 1 : Nat) : Int)) (.add rfl rfl (i64w (by omega))) (by omega)) rfl <| WL.p (.as rfl) rfl <| WL.nil <| ?_
  refine W.seq <| W.seq <| W.reg <| WL.p (.mv rfl) rfl <| WL.p (.eql rfl rfl) rfl <| WL.nil <| ?_
  refine W.cond rfl (fun h16 => ?_) (fun h16 => ?_)
  ·
   have h16' := of_decide_eq_true h16
   refine W.seq ?_
   obtain ⟨q, cq, rfl, hqb, hqB⟩ := Own.bytes ho10
   refine W.reg <| WL.p (.mv rfl) rfl <| WL.ce hb238 rfl rfl ((scan_text q _ cq _ hqb (by omega))) (fun k19 w17 hrw17 hw17 => ?_) (fun a18 w17 hrw17 hw17 => ?_)
   ·
    skip
    (exfalso; omega)
   have hk22 := hk12.below hw17 hk12.lt
   obtain ⟨a0, ha0⟩ : ∃ a0, a0 = a18 := ⟨_, rfl⟩
   have hra := hrw17
   refine WL.stL rfl rfl hk22 isz143 rfl rfl (fun w25 hkw25 huw25 hsw25 => ?_)
   refine WL.nil <| ?_
   refine W.ret (W.retc1 rfl rfl (ldRow hkw25 underlying143 rfl isz143)  ?_)
   (exfalso; omega)
  have h16' := of_decide_eq_false h16
  refine W.skip <| W.reg <| WL.p (.mv rfl) rfl <| WL.p (.mv rfl) rfl <| WL.bsl (ps := _) underlying22 sizeOf5 zeroValue5 rfl rfl rfl rfl rfl (by simp only [put1, List.map, List.zip, List.zipWith, List.set, List.replicate] <;> rfl) rfl (fun b30 wb30 eb30 hkb30 hub30 hsb30 => ?_)
  have ho31 := Own.new ho10 eb30 hub30
  have hl33 : r < b30 := by rw [eb30]; exact hk11.lt
  have hk32 := hk11.upd hub30 (Nat.ne_of_lt hl33)
  have hl35 : b1 < b30 := by rw [eb30]; exact hk12.lt
  have hk34 := hk12.upd hub30 (Nat.ne_of_lt hl35)
  have hvl37 := fun h0 => eb30 ▸ hv13.lt h0
  have hv36 := BytesAt.upd hv13 hub30 (fun h0 => Nat.ne_of_lt (hvl37 h0))
  have hgeb30 : w.heap.size ≤ b30 := by rw [eb30]; exact hB14.size
  have hB38 := Touch.trans hB14 (Touch.of_new hub30 hgeb30)
  refine WL.appm underlying22 inf5 rfl rfl rfl ho31 rfl hkb30 rfl (by rw [byteVals_len]; omega) (hk34.lt) rfl (fun v39 w40 how40 hbw40 hgw40 => ?_)
  have hk41 := hk32.below hbw40 (by omega)
  have hk42 := hk34.below hbw40 (by omega)
  have hv43 := BytesAt.below hv36 hbw40 hpB
  have hB44 := Touch.trans hB38 (Touch.of_below (hbw40.mono (by omega)))
  have ho45 := Own.snoc how40 (x) (rfl)
  refine WL.p (.as rfl) rfl <| WL.nil <| ?_
  exact ⟨(_, o ++ [_], d + 1, s + 1), ⟨rfl, rfl, rfl, rfl, trivial⟩, ⟨⟨hk41, hv43⟩, hB44, hk42, ho45, (by rw [← hw, hst, show x = 40 from u8_eq (by assumption), if_pos rfl]), by ((try simp only) <;> omega), by ((try simp only) <;> omega), (by simp only [List.length_append, List.length_cons, List.length_nil]; omega), by ((try simp only) <;> omega)⟩, by ((try simp only) <;> omega)⟩
 have h15' := of_decide_eq_false h15
 refine W.seq <| W.reg <| WL.p (.eql rfl rfl) rfl <| WL.p (.as rfl) rfl <| WL.nil <| ?_
 refine W.cond rfl (fun h46 => ?_) (fun h46 => ?_)
 ·
  have h46' := of_decide_eq_true h46
  refine W.reg <| WL.p (.mv rfl) rfl <| WL.p (.iis (((d - 1 : Nat) : Int)) (.sub rfl rfl (i64w (by omega))) (by omega)) rfl <| WL.p (.as rfl) rfl <| WL.nil <| ?_
  refine W.seq <| W.seq <| W.reg <| WL.p (.mv rfl) rfl <| WL.p (.eql rfl rfl) rfl <| WL.nil <| ?_
  refine W.cond rfl (fun h47 => ?_) (fun h47 => ?_)
  ·
   have h47' := of_decide_eq_true h47
   refine W.seq ?_
   obtain ⟨q, cq, rfl, hqb, hqB⟩ := Own.bytes ho10
   refine W.reg <| WL.p (.mv rfl) rfl <| WL.ce hb238 rfl rfl ((scan_text q _ cq _ hqb (by omega))) (fun k50 w48 hrw48 hw48 => ?_) (fun a49 w48 hrw48 hw48 => ?_)
   ·
    skip
    have hBew48 := Touch.trans hB14 (Touch.mono (Touch.of_below hw48) hB14.size)
    exact pn_is (Ends.err k50 (by rw [← hw, hst, show x = 41 from u8_eq (by assumption), if_neg (by decide), if_pos rfl, if_pos (by omega)]; exact textS_err hrw48) hBew48)
   have hk52 := hk11.below hw48 hk11.lt
   have hk53 := hk12.below hw48 hk12.lt
   have hv54 := BytesAt.below hv13 hw48 (fun h0 => hv13.lt h0)
   have hB55 := Touch.trans hB14 (Touch.mono (Touch.of_below hw48) hB14.size)
   obtain ⟨a0, ha0⟩ : ∃ a0, a0 = a49 := ⟨_, rfl⟩
   have hra := hrw48
   refine WL.stL rfl rfl hk53 isz143 rfl rfl (fun w56 hkw56 huw56 hsw56 => ?_)
   have hk58 := hk52.upd huw56 (by ((try simp only) <;> omega))
   have hv59 := BytesAt.upd hv54 huw56 (fun h0 => Nat.ne_of_lt (hvl5 h0))
   have hB60 := Touch.trans hB55 (Touch.of_new huw56 (by omega))
   refine WL.nil <| ?_
   refine W.ret (W.retc1 rfl rfl (ldRow hkw56 underlying143 rfl isz143)  ?_)
   exact Ends.ok (_, l.drop (s + 1)) (by rw [← hw, hst, show x = 41 from u8_eq (by assumption), if_neg (by decide), if_pos rfl, if_pos (by omega)]; exact textS_ok hra) rfl ⟨_, rfl, by omega, ⟨hk58, hv59⟩, hB60⟩
  have h47' := of_decide_eq_false h47
  refine W.skip <| W.reg <| WL.p (.mv rfl) rfl <| WL.p (.mv rfl) rfl <| WL.bsl (ps := _) underlying22 sizeOf5 zeroValue5 rfl rfl rfl rfl rfl (by simp only [put1, List.map, List.zip, List.zipWith, List.set, List.replicate] <;> rfl) rfl (fun b61 wb61 eb61 hkb61 hub61 hsb61 => ?_)
  have ho62 := Own.new ho10 eb61 hub61
  have hl64 : r < b61 := by rw [eb61]; exact hk11.lt
  have hk63 := hk11.upd hub61 (Nat.ne_of_lt hl64)
  have hl66 : b1 < b61 := by rw [eb61]; exact hk12.lt
  have hk65 := hk12.upd hub61 (Nat.ne_of_lt hl66)
  have hvl68 := fun h0 => eb61 ▸ hv13.lt h0
  have hv67 := BytesAt.upd hv13 hub61 (fun h0 => Nat.ne_of_lt (hvl68 h0))
  have hgeb61 : w.heap.size ≤ b61 := by rw [eb61]; exact hB14.size
  have hB69 := Touch.trans hB14 (Touch.of_new hub61 hgeb61)
  refine WL.appm underlying22 inf5 rfl rfl rfl ho62 rfl hkb61 rfl (by rw [byteVals_len]; omega) (hk65.lt) rfl (fun v70 w71 how71 hbw71 hgw71 => ?_)
  have hk72 := hk63.below hbw71 (by omega)
  have hk73 := hk65.below hbw71 (by omega)
  have hv74 := BytesAt.below hv67 hbw71 hpB
  have hB75 := Touch.trans hB69 (Touch.of_below (hbw71.mono (by omega)))
  have ho76 := Own.snoc how71 (x) (rfl)
  refine WL.p (.as rfl) rfl <| WL.nil <| ?_
  exact ⟨(_, o ++ [_], d - 1, s + 1), ⟨rfl, rfl, rfl, rfl, trivial⟩, ⟨⟨hk72, hv74⟩, hB75, hk73, ho76, (by rw [← hw, hst, show x = 41 from u8_eq (by assumption), if_neg (by decide), if_pos rfl, if_neg (by omega)]), by ((try simp only) <;> omega), by ((try simp only) <;> omega), (by simp only [List.length_append, List.length_cons, List.length_nil]; omega), by ((try simp only) <;> omega)⟩, by ((try simp only) <;> omega)⟩
 have h46' := of_decide_eq_false h46
 refine W.seq <| W.reg <| WL.p (.eql rfl rfl) rfl <| WL.p (.as rfl) rfl <| WL.nil <| ?_
 refine W.cond rfl (fun h77 => ?_) (fun h77 => ?_)
 ·
  have h77' := of_decide_eq_true h77
  refine W.seq <| W.reg <| WL.p (.mv rfl) rfl <| WL.p (.mv rfl) rfl <| WL.p (.mv rfl) rfl <| WL.ce hb235 rfl rfl ((scan_take r p l c (s + 1) _ ⟨hk11, hv13⟩ hne hl)) (fun k80 w78 hrw78 hw78 => ?_) (fun a79 w78 hrw78 hw78 => ?_)
  ·
   skip
   have hBew78 := Touch.trans hB14 (Touch.mono hw78 hB14.size)
   exact pn_is (Ends.err k80 (by rw [(takeS_err hrw78).2, ← hw, hst, show x = 92 from u8_eq (by assumption), if_neg (by decide), if_neg (by decide), if_pos rfl, List.drop_eq_nil_of_le (takeS_err hrw78).1]; (first | done | rfl)) hBew78)
  have ho81 := Own.touch' ho10 hw78.2 (by omega)
  have hk82 := hw78.1.1
  have hk83 := Blk.touch hk12 hw78.2 hk12.lt (by omega)
  have hv84 := hw78.1.2
  have hB85 := Touch.trans hB14 (Touch.mono hw78.2 hB14.size)
  obtain ⟨hlt2, hx2⟩ := takeS_ok hrw78
  obtain ⟨y, hyy⟩ : ∃ y, y = a79 := ⟨_, rfl⟩
  rw [← hyy] at hx2 ⊢
  refine WL.call hb236 rfl rfl ((scan_escape (b1 + 1) r p l c (s + 1 + 1) y v o _ ⟨hk82, hv84⟩ hne hl (by omega) (by omega) (hk83).lt hpB ho81 (by omega))) (fun v2 w86 hw86 => ?_)
  obtain ⟨k2, hrd2, hT2, ho2, hk2a, hk2b, hk2c⟩ := hw86
  have hbk2 := Blk.touch hk83 hT2 (by omega) (by omega)
  have hB2 := Touch.trans hB85 (hT2.mono (by omega))
  have hol2 := escS_one y (l.drop (s + 1 + 1))
  refine WL.p (.as rfl) rfl <| WL.nil <| ?_
  refine W.exit ?_
  exact ⟨(v2, o ++ (escS y (l.drop (s + 1 + 1))).1, d, k2), ⟨rfl, rfl, rfl, rfl, trivial⟩, ⟨⟨hrd2.1, hrd2.2⟩, hB2, hbk2, ho2, (by rw [hk2c, ← hw, hst, show x = 92 from u8_eq (by assumption), if_neg (by decide), if_neg (by decide), if_pos rfl, List.drop_eq_getElem_cons hlt2, ← hx2]), hd1, by ((try simp only) <;> omega), (by simp only [List.length_append, List.length_cons, List.length_nil]; omega), by ((try simp only) <;> omega)⟩, by ((try simp only) <;> omega)⟩
 have h77' := of_decide_eq_false h77
 refine W.seq <| W.reg <| WL.p (.eql rfl rfl) rfl <| WL.p (.as rfl) rfl <| WL.nil <| ?_
 refine W.cond rfl (fun h87 => ?_) (fun h87 => ?_)
 ·
  have h87' := of_decide_eq_true h87
  refine W.seq <| W.reg <| WL.p (.mv rfl) rfl <| WL.c1 hb237 rfl rfl ((scan_next r p l c (s + 1) 10 _ ⟨hk11, hv13⟩ hne hl (by omega))) (fun w88 hw88 => ?_)
  have ho89 := Own.touch' ho10 hw88.2 (by omega)
  have hk90 := hw88.1.1
  have hk91 := Blk.touch hk12 hw88.2 hk12.lt (by omega)
  have hv92 := hw88.1.2
  have hB93 := Touch.trans hB14 (Touch.mono hw88.2 hB14.size)
  have hnl := next_lf l (s + 1) (by omega)
  refine WL.nil <| ?_
  refine W.reg <| WL.p (.as rfl) rfl <| WL.nil <| ?_
  refine W.seq <| W.seq <| W.reg <| WL.p (.mv rfl) rfl <| WL.p (.eql rfl rfl) rfl <| WL.nil <| ?_
  refine W.cond rfl (fun h94 => ?_) (fun h94 => ?_)
  ·
   have h94' := of_decide_eq_true h94
   refine W.seq ?_
   obtain ⟨q, cq, rfl, hqb, hqB⟩ := Own.bytes ho89
   refine W.reg <| WL.p (.mv rfl) rfl <| WL.ce hb238 rfl rfl ((scan_text q _ cq _ hqb (by omega))) (fun k97 w95 hrw95 hw95 => ?_) (fun a96 w95 hrw95 hw95 => ?_)
   ·
    skip
    (exfalso; omega)
   have hk100 := hk91.below hw95 hk91.lt
   obtain ⟨a0, ha0⟩ : ∃ a0, a0 = a96 := ⟨_, rfl⟩
   have hra := hrw95
   refine WL.stL rfl rfl hk100 isz143 rfl rfl (fun w103 hkw103 huw103 hsw103 => ?_)
   refine WL.nil <| ?_
   refine W.ret (W.retc1 rfl rfl (ldRow hkw103 underlying143 rfl isz143)  ?_)
   (exfalso; omega)
  have h94' := of_decide_eq_false h94
  refine W.skip <| W.reg <| WL.p (.mv rfl) rfl <| WL.p (.mv rfl) rfl <| WL.bsl (ps := _) underlying22 sizeOf5 zeroValue5 rfl rfl rfl rfl rfl (by simp only [put1, List.map, List.zip, List.zipWith, List.set, List.replicate] <;> rfl) rfl (fun b108 wb108 eb108 hkb108 hub108 hsb108 => ?_)
  have ho109 := Own.new ho89 eb108 hub108
  have hl111 : r < b108 := by rw [eb108]; exact hk90.lt
  have hk110 := hk90.upd hub108 (Nat.ne_of_lt hl111)
  have hl113 : b1 < b108 := by rw [eb108]; exact hk91.lt
  have hk112 := hk91.upd hub108 (Nat.ne_of_lt hl113)
  have hvl115 := fun h0 => eb108 ▸ hv92.lt h0
  have hv114 := BytesAt.upd hv92 hub108 (fun h0 => Nat.ne_of_lt (hvl115 h0))
  have hgeb108 : w.heap.size ≤ b108 := by rw [eb108]; exact hB93.size
  have hB116 := Touch.trans hB93 (Touch.of_new hub108 hgeb108)
  refine WL.appm underlying22 inf5 rfl rfl rfl ho109 rfl hkb108 rfl (by rw [byteVals_len]; omega) (hk112.lt) rfl (fun v117 w118 how118 hbw118 hgw118 => ?_)
  have hk119 := hk110.below hbw118 (by omega)
  have hk120 := hk112.below hbw118 (by omega)
  have hv121 := BytesAt.below hv114 hbw118 hpB
  have hB122 := Touch.trans hB116 (Touch.of_below (hbw118.mono (by omega)))
  have ho123 := Own.snoc how118 (10) (rfl)
  refine WL.p (.as rfl) rfl <| WL.nil <| ?_
  exact ⟨(_, o ++ [_], d, (if nextB l (s + 1) 10 then s + 1 + 1 else s + 1)), ⟨rfl, rfl, rfl, rfl, trivial⟩, ⟨⟨hk119, hv121⟩, hB122, hk120, ho123, (by show roundS d (o ++ [10]) (l.drop (if nextB l (s + 1) 10 then s + 1 + 1 else s + 1)) = R; rw [hnl.2.2, ← hw, hst, show x = 13 from u8_eq (by assumption), if_neg (by decide), if_neg (by decide), if_neg (by decide), if_pos rfl]), by ((try simp only) <;> omega), by ((try simp only) <;> omega), (by simp only [List.length_append, List.length_cons, List.length_nil]; omega), by ((try simp only) <;> omega)⟩, by ((try simp only) <;> omega)⟩
 have h87' := of_decide_eq_false h87
 refine W.skip <| W.seq <| W.seq <| W.reg <| WL.p (.mv rfl) rfl <| WL.p (.eql rfl rfl) rfl <| WL.nil <| ?_
 refine W.cond rfl (fun h124 => ?_) (fun h124 => ?_)
 ·
  have h124' := of_decide_eq_true h124
  refine W.seq ?_
  obtain ⟨q, cq, rfl, hqb, hqB⟩ := Own.bytes ho10
  refine W.reg <| WL.p (.mv rfl) rfl <| WL.ce hb238 rfl rfl ((scan_text q _ cq _ hqb (by omega))) (fun k127 w125 hrw125 hw125 => ?_) (fun a126 w125 hrw125 hw125 => ?_)
  ·
   skip
   (exfalso; omega)
  have hk130 := hk12.below hw125 hk12.lt
  obtain ⟨a0, ha0⟩ : ∃ a0, a0 = a126 := ⟨_, rfl⟩
  have hra := hrw125
  refine WL.stL rfl rfl hk130 isz143 rfl rfl (fun w133 hkw133 huw133 hsw133 => ?_)
  refine WL.nil <| ?_
  refine W.ret (W.retc1 rfl rfl (ldRow hkw133 underlying143 rfl isz143)  ?_)
  (exfalso; omega)
 have h124' := of_decide_eq_false h124
 refine W.skip <| W.reg <| WL.p (.mv rfl) rfl <| WL.p (.mv rfl) rfl <| WL.bsl (ps := _) underlying22 sizeOf5 zeroValue5 rfl rfl rfl rfl rfl (by simp only [put1, List.map, List.zip, List.zipWith, List.set, List.replicate] <;> rfl) rfl (fun b138 wb138 eb138 hkb138 hub138 hsb138 => ?_)
 have ho139 := Own.new ho10 eb138 hub138
 have hl141 : r < b138 := by rw [eb138]; exact hk11.lt
 have hk140 := hk11.upd hub138 (Nat.ne_of_lt hl141)
 have hl143 : b1 < b138 := by rw [eb138]; exact hk12.lt
 have hk142 := hk12.upd hub138 (Nat.ne_of_lt hl143)
 have hvl145 := fun h0 => eb138 ▸ hv13.lt h0
 have hv144 := BytesAt.upd hv13 hub138 (fun h0 => Nat.ne_of_lt (hvl145 h0))
 have hgeb138 : w.heap.size ≤ b138 := by rw [eb138]; exact hB14.size
 have hB146 := Touch.trans hB14 (Touch.of_new hub138 hgeb138)
 refine WL.appm underlying22 inf5 rfl rfl rfl ho139 rfl hkb138 rfl (by rw [byteVals_len]; omega) (hk142.lt) rfl (fun v147 w148 how148 hbw148 hgw148 => ?_)
 have hk149 := hk140.below hbw148 (by omega)
 have hk150 := hk142.below hbw148 (by omega)
 have hv151 := BytesAt.below hv144 hbw148 hpB
 have hB152 := Touch.trans hB146 (Touch.of_below (hbw148.mono (by omega)))
 have ho153 := Own.snoc how148 (x) (rfl)
 refine WL.p (.as rfl) rfl <| WL.nil <| ?_
 exact ⟨(_, o ++ [_], d, s + 1), ⟨rfl, rfl, rfl, rfl, trivial⟩, ⟨⟨hk149, hv151⟩, hB152, hk150, ho153, (by rw [← hw, hst, if_neg (u8_ne (d := 40) (by assumption)), if_neg (u8_ne (d := 41) (by assumption)), if_neg (u8_ne (d := 92) (by assumption)), if_neg (u8_ne (d := 13) (by assumption))]), by ((try simp only) <;> omega), by ((try simp only) <;> omega), (by simp only [List.length_append, List.length_cons, List.length_nil]; omega), by ((try simp only) <;> omega)⟩, by ((try simp only) <;> omega)⟩
end Go.Proofs.YtjghbcjnplcleaaGreatDoor

namespace Go.Proofs.YtjghbcjnplcleaaGreatDoor
open Go.Proofs.Tryz
open Go.RowKit
theorem scan_token (r : Nat) (p : Option Addr) (l : List UInt8) (c n : Nat) (w : World) (h : RdOk w r p l c n) (hne : 0 < l.length → (pA p).block ≠ r) (hc : l.length ≤ c) (hl : l.length ≤ 100000000) (ht : n ≤ l.length) :
  Calls Tryz.prog 151 #[.pointer (some ⟨r, 0, none⟩)] w (Ends 35 (tokS (l.drop n)) (fun a => a.1.val) (Read w r p l c) (fun w' => Touch w.heap.size r w w')) := by
 have hr := h.1
 have hb := h.2
 refine W.enter func151 rfl ntmps151 (Nat.le_of_ble_eq_true rfl) ?_
 have hB0 := Touch.refl (w.heap.size) r w
 refine W.seq <| W.reg <| WL.alloc zeroValue143 rfl (fun b1 wb1 eb1 hkb1 hub1 hsb1 => ?_)
 have hl3 : r < b1 := by rw [eb1]; exact hr.lt
 have hk2 := hr.upd hub1 (Nat.ne_of_lt hl3)
 have hvl5 := fun h0 => eb1 ▸ hb.lt h0
 have hv4 := BytesAt.upd hb hub1 (fun h0 => Nat.ne_of_lt (hvl5 h0))
 have hgeb1 : w.heap.size ≤ b1 := by rw [eb1]; exact hB0.size
 have hB6 := Touch.trans hB0 (Touch.of_new hub1 hgeb1)
 refine WL.nil <| ?_
 refine W.seq ?_
 have hrB : r < b1 := by have := hr.lt; omega
 refine W.reg <| WL.p (.mv rfl) rfl <| WL.c1 hb201 rfl rfl ((scan_skip r p l c n _ ⟨hk2, hv4⟩ hne hl ht)) (fun w7 hw7 => ?_)
 have hk8 := hw7.1.1
 have hk9 := Blk.touch hkb1 hw7.2 hkb1.lt (by omega)
 have hv10 := hw7.1.2
 have hB11 := Touch.trans hB6 (Touch.mono hw7.2 hB6.size)
 have hsd := skipAt_drop false l n
 have hsl := skipAt_le false l n
 generalize skipAt false l n = s at *
 refine WL.nil <| ?_
 refine W.seq <| W.seq <| W.reg <| WL.p (.mv rfl) rfl <| WL.c1 hb202 rfl rfl ((scan_more r p l c s _ ⟨hk8, hv10⟩)) (fun w12 hw12 => ?_)
 have hk13 := hk8.drew hw12
 have hk14 := hk9.drew hw12
 have hv15 := hv10.drew hw12
 have hB16 := Touch.trans hB11 (Touch.of_drew hw12)
 refine WL.p (.not rfl) rfl <| WL.nil <| ?_
 refine W.cond rfl (fun h17 => ?_) (fun h17 => ?_)
 ·
  have h17' := (nT h17)
  refine W.seq <| W.reg <| WL.p (.buildL (ps := _) blt143 rfl rfl rfl (by simp only [put1, List.map, List.zip, List.zipWith] <;> rfl)) rfl ?_
  refine WL.stL rfl rfl hk14 isz143 rfl rfl (fun w18 hkw18 huw18 hsw18 => ?_)
  have hk19 := hk13.upd huw18 (by ((try simp only) <;> omega))
  have hv20 := BytesAt.upd hv15 huw18 (fun h0 => Nat.ne_of_lt (hvl5 h0))
  have hB21 := Touch.trans hB16 (Touch.of_new huw18 (by omega))
  refine WL.nil <| ?_
  refine W.ret (W.retc1 rfl rfl (ldRow hkw18 underlying143 rfl isz143)  ?_)
  exact Ends.ok (⟨0, 0, []⟩, []) (tokS_end hsd (by simp_all)) rfl ⟨s, by rw [List.drop_eq_nil_of_le (by simp_all)], by omega, ⟨hk19, hv20⟩, hB21⟩
 have h17' := (nF h17)
 have hlt : s < l.length := by simp_all
 have hT := tokS_at hsd hlt
 obtain ⟨x, hx⟩ : ∃ x, x = l[s]'hlt := ⟨_, rfl⟩
 rw [← hx] at hT
 have hwl := wordAt_le l s (by omega)
 refine W.skip <| W.seq <| W.seq <| W.regQ mixed (by kernel_rfl) ?_
 refine WQ.p (.mv rfl) rfl <| WQ.p (.nck rfl) rfl <| WQ.p (.fa underlying185 rfl sizeOf22 (by decide) rfl) rfl <| WQ.r (fun m => Rd.ld (isAgg22 _) rfl hk13 rfl) rfl <| WQ.p (.mv rfl) rfl <| WQ.p (.nck rfl) rfl <| WQ.p (.fa underlying185 rfl sizeOf3 (by decide) rfl) rfl <| WQ.r (fun m => Rd.ld (isAgg3 _) rfl hk13 rfl) rfl <| WQ.p (.ixb underlying22 sizeOf5 rfl rfl (hv15.isp (by omega)) (s) (by omega) (by omega)) rfl <| WQ.r (fun m => Rd.iis ((x.toNat : Int)) (Rd.ldc (isAgg5 _) rfl ((hv15.drewN m).cells (s) (by omega))) (by rw [hx])) rfl <| WQ.p (.as rfl) rfl <| WQ.nil (fun w22 dw22 => ?_)
 have hk23 := hk13.drew dw22
 have hk24 := hk14.drew dw22
 have hv25 := hv15.drew dw22
 have hB26 := Touch.trans hB16 (Touch.of_drew dw22)
 refine W.seq <| W.reg <| WL.p (.mv rfl) rfl <| WL.nil <| ?_
 refine W.block <| W.seq <| W.reg <| WL.p (.eql rfl rfl) rfl <| WL.p (.as rfl) rfl <| WL.nil <| ?_
 refine W.cond rfl (fun h27 => ?_) (fun h27 => ?_)
 ·
  have h27' := of_decide_eq_true h27
  refine W.seq <| W.reg <| WL.p (.mv rfl) rfl <| WL.p (.nck rfl) rfl <| WL.p (.fa underlying185 rfl sizeOf3 (by decide) rfl) rfl <| WL.r (Rd.ld (isAgg3 _) rfl hk23 rfl) rfl <| WL.p (.iis (((s + 1 : Nat) : Int)) (.add rfl rfl (i64w (by omega))) (by omega)) rfl <| WL.p (.nck rfl) rfl <| WL.p (.fa underlying185 rfl sizeOf3 (by decide) rfl) rfl <| WL.st sizeOf3 rfl rfl rfl hk23 (by first | decide | exact Nat.le_of_ble_eq_true rfl) (fun w28 hkw28 huw28 hsw28 => ?_)
  have hkw28 : Blk w28 r _ _ := hkw28
  have huw28 : Upd r _ _ := huw28
  have hk29 := hk24.upd huw28 (by ((try simp only) <;> omega))
  have hv30 := BytesAt.upd hv25 huw28 hne
  have hB31 := Touch.trans hB26 (Touch.of_upd huw28)
  refine WL.nil <| ?_
  refine W.seq <| W.reg <| WL.p (.mv rfl) rfl <| WL.ce hb203 rfl rfl ((scan_round r p l c (s + 1) _ ⟨hkw28, hv30⟩ hne hc hl (by omega))) (fun k34 w32 hrw32 hw32 => ?_) (fun a33 w32 hrw32 hw32 => ?_)
  ·
   skip
   have hBew32 := Touch.trans hB31 (Touch.mono hw32 hB31.size)
   exact pn_is (Ends.err k34 (by rw [hT, show x = 40 from u8_eq (by assumption), tokC40]; exact hrw32) hBew32)
  obtain ⟨kr, hkr, hkl, hw32⟩ := hw32
  have hk35 := hw32.1.1
  have hk36 := Blk.touch hk29 hw32.2 hk29.lt (by omega)
  have hv37 := hw32.1.2
  have hB38 := Touch.trans hB31 (Touch.mono hw32.2 hB31.size)
  have hra := hrw32
  obtain ⟨a0, ha0⟩ : ∃ a0, a0 = a33 := ⟨_, rfl⟩
  refine WL.stL rfl rfl hk36 isz143 rfl rfl (fun w39 hkw39 huw39 hsw39 => ?_)
  have hk40 := hk35.upd huw39 (by ((try simp only) <;> omega))
  have hv41 := BytesAt.upd hv37 huw39 (fun h0 => Nat.ne_of_lt (hvl5 h0))
  have hB42 := Touch.trans hB38 (Touch.of_new huw39 (by omega))
  refine WL.nil <| ?_
  refine W.ret (W.retc1 rfl rfl (ldRow hkw39 underlying143 rfl isz143)  ?_)
  exact Ends.ok _ (by rw [hT, show x = 40 from u8_eq (by assumption), tokC40]; exact hra) rfl ⟨_, hkr, hkl, ⟨hk40, hv41⟩, hB42⟩
 have h27' := of_decide_eq_false h27
 refine W.seq <| W.reg <| WL.p (.eql rfl rfl) rfl <| WL.p (.as rfl) rfl <| WL.nil <| ?_
 refine W.cond rfl (fun h43 => ?_) (fun h43 => ?_)
 ·
  have h43' := of_decide_eq_true h43
  refine W.reg <| WL.p (.mkI underlying35 rfl) rfl <| WL.panic rfl (pn_is ?_)
  exact Ends.err 14 (by rw [hT, show x = 41 from u8_eq (by assumption), tokC41]) hB26
 have h43' := of_decide_eq_false h43
 refine W.seq <| W.seq <| W.reg <| WL.p (.eql rfl rfl) rfl <| WL.p (.as rfl) rfl <| WL.nil <| ?_
 refine W.cond rfl (fun h44 => ?_) (fun h44 => ?_)
 ·
  have h44' := of_decide_eq_true h44
  refine W.skip <| W.condT rfl h44 ?_
  refine W.seq <| W.reg <| WL.p (.mv rfl) rfl <| WL.p (.nck rfl) rfl <| WL.p (.fa underlying185 rfl sizeOf3 (by decide) rfl) rfl <| WL.r (Rd.ld (isAgg3 _) rfl hk23 rfl) rfl <| WL.p (.iis (((s + 1 : Nat) : Int)) (.add rfl rfl (i64w (by omega))) (by omega)) rfl <| WL.p (.nck rfl) rfl <| WL.p (.fa underlying185 rfl sizeOf3 (by decide) rfl) rfl <| WL.st sizeOf3 rfl rfl rfl hk23 (by first | decide | exact Nat.le_of_ble_eq_true rfl) (fun w45 hkw45 huw45 hsw45 => ?_)
  have hkw45 : Blk w45 r _ _ := hkw45
  have huw45 : Upd r _ _ := huw45
  have hk46 := hk24.upd huw45 (by ((try simp only) <;> omega))
  have hv47 := BytesAt.upd hv25 huw45 hne
  have hB48 := Touch.trans hB26 (Touch.of_upd huw45)
  refine WL.nil <| ?_
  refine W.seq <| W.reg <| WL.p (.mv rfl) rfl <| WL.p (.mv rfl) rfl <| WL.ce hb204 rfl rfl ((scan_angle r p l c (s + 1) x _ ⟨hkw45, hv47⟩ hne hc hl (by omega) (by rintro rfl; first | exact absurd (show (0 : Int) = 60 by assumption) (by decide) | exact absurd (show (0 : Int) = 62 by assumption) (by decide)))) (fun k51 w49 hrw49 hw49 => ?_) (fun a50 w49 hrw49 hw49 => ?_)
  ·
   skip
   have hBew49 := Touch.trans hB48 (Touch.mono hw49 hB48.size)
   exact pn_is (Ends.err k51 (by rw [hT, show x = 60 from u8_eq (by assumption), tokC60, ← show x = 60 from u8_eq (by assumption)]; exact hrw49) hBew49)
  obtain ⟨kr, hkr, hkl, hw49⟩ := hw49
  have hk52 := hw49.1.1
  have hk53 := Blk.touch hk46 hw49.2 hk46.lt (by omega)
  have hv54 := hw49.1.2
  have hB55 := Touch.trans hB48 (Touch.mono hw49.2 hB48.size)
  have hra := hrw49
  obtain ⟨a0, ha0⟩ : ∃ a0, a0 = a50 := ⟨_, rfl⟩
  refine WL.stL rfl rfl hk53 isz143 rfl rfl (fun w56 hkw56 huw56 hsw56 => ?_)
  have hk57 := hk52.upd huw56 (by ((try simp only) <;> omega))
  have hv58 := BytesAt.upd hv54 huw56 (fun h0 => Nat.ne_of_lt (hvl5 h0))
  have hB59 := Touch.trans hB55 (Touch.of_new huw56 (by omega))
  refine WL.nil <| ?_
  refine W.ret (W.retc1 rfl rfl (ldRow hkw56 underlying143 rfl isz143)  ?_)
  exact Ends.ok _ (by rw [hT, show x = 60 from u8_eq (by assumption), tokC60, ← show x = 60 from u8_eq (by assumption)]; exact hra) rfl ⟨_, hkr, hkl, ⟨hk57, hv58⟩, hB59⟩
 have h44' := of_decide_eq_false h44
 refine W.reg <| WL.p (.eql rfl rfl) rfl <| WL.p (.as rfl) rfl <| WL.nil <| ?_
 refine W.cond rfl (fun h60 => ?_) (fun h60 => ?_)
 ·
  have h60' := of_decide_eq_true h60
  refine W.seq <| W.reg <| WL.p (.mv rfl) rfl <| WL.p (.nck rfl) rfl <| WL.p (.fa underlying185 rfl sizeOf3 (by decide) rfl) rfl <| WL.r (Rd.ld (isAgg3 _) rfl hk23 rfl) rfl <| WL.p (.iis (((s + 1 : Nat) : Int)) (.add rfl rfl (i64w (by omega))) (by omega)) rfl <| WL.p (.nck rfl) rfl <| WL.p (.fa underlying185 rfl sizeOf3 (by decide) rfl) rfl <| WL.st sizeOf3 rfl rfl rfl hk23 (by first | decide | exact Nat.le_of_ble_eq_true rfl) (fun w61 hkw61 huw61 hsw61 => ?_)
  have hkw61 : Blk w61 r _ _ := hkw61
  have huw61 : Upd r _ _ := huw61
  have hk62 := hk24.upd huw61 (by ((try simp only) <;> omega))
  have hv63 := BytesAt.upd hv25 huw61 hne
  have hB64 := Touch.trans hB26 (Touch.of_upd huw61)
  refine WL.nil <| ?_
  refine W.seq <| W.reg <| WL.p (.mv rfl) rfl <| WL.p (.mv rfl) rfl <| WL.ce hb204 rfl rfl ((scan_angle r p l c (s + 1) x _ ⟨hkw61, hv63⟩ hne hc hl (by omega) (by rintro rfl; first | exact absurd (show (0 : Int) = 60 by assumption) (by decide) | exact absurd (show (0 : Int) = 62 by assumption) (by decide)))) (fun k67 w65 hrw65 hw65 => ?_) (fun a66 w65 hrw65 hw65 => ?_)
  ·
   skip
   have hBew65 := Touch.trans hB64 (Touch.mono hw65 hB64.size)
   exact pn_is (Ends.err k67 (by rw [hT, show x = 62 from u8_eq (by assumption), tokC62, ← show x = 62 from u8_eq (by assumption)]; exact hrw65) hBew65)
  obtain ⟨kr, hkr, hkl, hw65⟩ := hw65
  have hk68 := hw65.1.1
  have hk69 := Blk.touch hk62 hw65.2 hk62.lt (by omega)
  have hv70 := hw65.1.2
  have hB71 := Touch.trans hB64 (Touch.mono hw65.2 hB64.size)
  have hra := hrw65
  obtain ⟨a0, ha0⟩ : ∃ a0, a0 = a66 := ⟨_, rfl⟩
  refine WL.stL rfl rfl hk69 isz143 rfl rfl (fun w72 hkw72 huw72 hsw72 => ?_)
  have hk73 := hk68.upd huw72 (by ((try simp only) <;> omega))
  have hv74 := BytesAt.upd hv70 huw72 (fun h0 => Nat.ne_of_lt (hvl5 h0))
  have hB75 := Touch.trans hB71 (Touch.of_new huw72 (by omega))
  refine WL.nil <| ?_
  refine W.ret (W.retc1 rfl rfl (ldRow hkw72 underlying143 rfl isz143)  ?_)
  exact Ends.ok _ (by rw [hT, show x = 62 from u8_eq (by assumption), tokC62, ← show x = 62 from u8_eq (by assumption)]; exact hra) rfl ⟨_, hkr, hkl, ⟨hk73, hv74⟩, hB75⟩
 have h60' := of_decide_eq_false h60
 refine W.seq <| W.seq <| W.reg <| WL.p (.eql rfl rfl) rfl <| WL.p (.as rfl) rfl <| WL.nil <| ?_
 refine W.cond rfl (fun h76 => ?_) (fun h76 => ?_)
 ·
  have h76' := of_decide_eq_true h76
  refine W.skip <| W.condT rfl h76 ?_
  refine W.seq <| W.reg <| WL.p (.mv rfl) rfl <| WL.p (.nck rfl) rfl <| WL.p (.fa underlying185 rfl sizeOf3 (by decide) rfl) rfl <| WL.r (Rd.ld (isAgg3 _) rfl hk23 rfl) rfl <| WL.p (.iis (((s + 1 : Nat) : Int)) (.add rfl rfl (i64w (by omega))) (by omega)) rfl <| WL.p (.nck rfl) rfl <| WL.p (.fa underlying185 rfl sizeOf3 (by decide) rfl) rfl <| WL.st sizeOf3 rfl rfl rfl hk23 (by first | decide | exact Nat.le_of_ble_eq_true rfl) (fun w77 hkw77 huw77 hsw77 => ?_)
  have hkw77 : Blk w77 r _ _ := hkw77
  have huw77 : Upd r _ _ := huw77
  have hk78 := hk24.upd huw77 (by ((try simp only) <;> omega))
  have hv79 := BytesAt.upd hv25 huw77 hne
  have hB80 := Touch.trans hB26 (Touch.of_upd huw77)
  refine WL.nil <| ?_
  refine W.seq <| W.seq <| W.reg <| WL.p (.mv rfl) rfl <| WL.p (.eql rfl rfl) rfl <| WL.nil <| ?_
  refine W.cond rfl (fun h81 => ?_) (fun h81 => ?_)
  ·
   have h81' := of_decide_eq_true h81
   refine W.seq <| W.reg <| WL.p (.buildL (ps := _) blt143 rfl rfl rfl (by simp only [put1, List.map, List.zip, List.zipWith, List.set] <;> rfl)) rfl ?_
   refine WL.stL rfl rfl hk78 isz143 rfl rfl (fun w82 hkw82 huw82 hsw82 => ?_)
   have hk83 := hkw77.upd huw82 (by ((try simp only) <;> omega))
   have hv84 := BytesAt.upd hv79 huw82 (fun h0 => Nat.ne_of_lt (hvl5 h0))
   have hB85 := Touch.trans hB80 (Touch.of_new huw82 (by omega))
   refine WL.nil <| ?_
   refine W.ret (W.retc1 rfl rfl (ldRow hkw82 underlying143 rfl isz143)  ?_)
   exact Ends.ok (⟨7, 0, []⟩, l.drop (s + 1)) (by rw [hT, show x = 123 from u8_eq (by assumption), tokC123]) rfl ⟨_, rfl, by omega, ⟨hk83, hv84⟩, hB85⟩
  have h81' := of_decide_eq_false h81
  refine W.skip <| W.seq <| W.reg <| WL.p (.buildL (ps := _) blt143 rfl rfl rfl (by simp only [put1, List.map, List.zip, List.zipWith, List.set] <;> rfl)) rfl ?_
  refine WL.stL rfl rfl hk78 isz143 rfl rfl (fun w86 hkw86 huw86 hsw86 => ?_)
  refine WL.nil <| ?_
  refine W.ret (W.retc1 rfl rfl (ldRow hkw86 underlying143 rfl isz143)  ?_)
  (exfalso; omega)
 have h76' := of_decide_eq_false h76
 refine W.reg <| WL.p (.eql rfl rfl) rfl <| WL.p (.as rfl) rfl <| WL.nil <| ?_
 refine W.cond rfl (fun h90 => ?_) (fun h90 => ?_)
 ·
  have h90' := of_decide_eq_true h90
  refine W.seq <| W.reg <| WL.p (.mv rfl) rfl <| WL.p (.nck rfl) rfl <| WL.p (.fa underlying185 rfl sizeOf3 (by decide) rfl) rfl <| WL.r (Rd.ld (isAgg3 _) rfl hk23 rfl) rfl <| WL.p (.iis (((s + 1 : Nat) : Int)) (.add rfl rfl (i64w (by omega))) (by omega)) rfl <| WL.p (.nck rfl) rfl <| WL.p (.fa underlying185 rfl sizeOf3 (by decide) rfl) rfl <| WL.st sizeOf3 rfl rfl rfl hk23 (by first | decide | exact Nat.le_of_ble_eq_true rfl) (fun w91 hkw91 huw91 hsw91 => ?_)
  have hkw91 : Blk w91 r _ _ := hkw91
  have huw91 : Upd r _ _ := huw91
  have hk92 := hk24.upd huw91 (by ((try simp only) <;> omega))
  have hv93 := BytesAt.upd hv25 huw91 hne
  have hB94 := Touch.trans hB26 (Touch.of_upd huw91)
  refine WL.nil <| ?_
  refine W.seq <| W.seq <| W.reg <| WL.p (.mv rfl) rfl <| WL.p (.eql rfl rfl) rfl <| WL.nil <| ?_
  refine W.cond rfl (fun h95 => ?_) (fun h95 => ?_)
  ·
   have h95' := of_decide_eq_true h95
   refine W.seq <| W.reg <| WL.p (.buildL (ps := _) blt143 rfl rfl rfl (by simp only [put1, List.map, List.zip, List.zipWith, List.set] <;> rfl)) rfl ?_
   refine WL.stL rfl rfl hk92 isz143 rfl rfl (fun w96 hkw96 huw96 hsw96 => ?_)
   refine WL.nil <| ?_
   refine W.ret (W.retc1 rfl rfl (ldRow hkw96 underlying143 rfl isz143)  ?_)
   (exfalso; omega)
  have h95' := of_decide_eq_false h95
  refine W.skip <| W.seq <| W.reg <| WL.p (.buildL (ps := _) blt143 rfl rfl rfl (by simp only [put1, List.map, List.zip, List.zipWith, List.set] <;> rfl)) rfl ?_
  refine WL.stL rfl rfl hk92 isz143 rfl rfl (fun w100 hkw100 huw100 hsw100 => ?_)
  have hk101 := hkw91.upd huw100 (by ((try simp only) <;> omega))
  have hv102 := BytesAt.upd hv93 huw100 (fun h0 => Nat.ne_of_lt (hvl5 h0))
  have hB103 := Touch.trans hB94 (Touch.of_new huw100 (by omega))
  refine WL.nil <| ?_
  refine W.ret (W.retc1 rfl rfl (ldRow hkw100 underlying143 rfl isz143)  ?_)
  exact Ends.ok (⟨8, 0, []⟩, l.drop (s + 1)) (by rw [hT, show x = 125 from u8_eq (by assumption), tokC125]) rfl ⟨_, rfl, by omega, ⟨hk101, hv102⟩, hB103⟩
 have h90' := of_decide_eq_false h90
 refine W.seq <| W.seq <| W.reg <| WL.p (.eql rfl rfl) rfl <| WL.p (.as rfl) rfl <| WL.nil <| ?_
 refine W.cond rfl (fun h104 => ?_) (fun h104 => ?_)
 ·
  have h104' := of_decide_eq_true h104
  refine W.skip <| W.condT rfl h104 ?_
  refine W.seq <| W.reg <| WL.p (.mv rfl) rfl <| WL.p (.nck rfl) rfl <| WL.p (.fa underlying185 rfl sizeOf3 (by decide) rfl) rfl <| WL.r (Rd.ld (isAgg3 _) rfl hk23 rfl) rfl <| WL.p (.iis (((s + 1 : Nat) : Int)) (.add rfl rfl (i64w (by omega))) (by omega)) rfl <| WL.p (.nck rfl) rfl <| WL.p (.fa underlying185 rfl sizeOf3 (by decide) rfl) rfl <| WL.st sizeOf3 rfl rfl rfl hk23 (by first | decide | exact Nat.le_of_ble_eq_true rfl) (fun w105 hkw105 huw105 hsw105 => ?_)
  have hkw105 : Blk w105 r _ _ := hkw105
  have huw105 : Upd r _ _ := huw105
  have hk106 := hk24.upd huw105 (by ((try simp only) <;> omega))
  have hv107 := BytesAt.upd hv25 huw105 hne
  have hB108 := Touch.trans hB26 (Touch.of_upd huw105)
  refine WL.nil <| ?_
  refine W.seq <| W.reg <| WL.p (.mv rfl) rfl <| WL.bsl (ps := _) underlying22 sizeOf5 zeroValue5 rfl rfl rfl rfl rfl (by simp only [put1, List.map, List.zip, List.zipWith, List.set, List.replicate] <;> rfl) rfl (fun b109 wb109 eb109 hkb109 hub109 hsb109 => ?_)
  have hl111 : r < b109 := by rw [eb109]; exact hkw105.lt
  have hk110 := hkw105.upd hub109 (Nat.ne_of_lt hl111)
  have hl113 : b1 < b109 := by rw [eb109]; exact hk106.lt
  have hk112 := hk106.upd hub109 (Nat.ne_of_lt hl113)
  have hvl115 := fun h0 => eb109 ▸ hv107.lt h0
  have hv114 := BytesAt.upd hv107 hub109 (fun h0 => Nat.ne_of_lt (hvl115 h0))
  have hgeb109 : w.heap.size ≤ b109 := by rw [eb109]; exact hB108.size
  have hB116 := Touch.trans hB108 (Touch.of_new hub109 hgeb109)
  refine WL.r (Rd.b2s (l := [x]) underlying22 underlying5 underlying9 rfl (BytesAt.one hkb109 rfl)) rfl <| ?_
  refine WL.p (.buildL (ps := _) blt143 rfl rfl rfl (by simp only [put1, List.map, List.zip, List.zipWith, List.set] <;> rfl)) rfl ?_
  refine WL.stL rfl rfl hk112 isz143 rfl rfl (fun w117 hkw117 huw117 hsw117 => ?_)
  have hk118 := hk110.upd huw117 (by ((try simp only) <;> omega))
  have hv120 := BytesAt.upd hv114 huw117 (fun h0 => Nat.ne_of_lt (hvl5 h0))
  have hB121 := Touch.trans hB116 (Touch.of_new huw117 (by omega))
  refine WL.nil <| ?_
  refine W.ret (W.retc1 rfl rfl (ldRow hkw117 underlying143 rfl isz143)  ?_)
  exact Ends.ok (⟨3, 0, [x]⟩, l.drop (s + 1)) (by rw [hT, show x = 91 from u8_eq (by assumption), tokC91]) rfl ⟨_, rfl, by omega, ⟨hk118, hv120⟩, hB121⟩
 have h104' := of_decide_eq_false h104
 refine W.reg <| WL.p (.eql rfl rfl) rfl <| WL.p (.as rfl) rfl <| WL.nil <| ?_
 refine W.cond rfl (fun h122 => ?_) (fun h122 => ?_)
 ·
  have h122' := of_decide_eq_true h122
  refine W.seq <| W.reg <| WL.p (.mv rfl) rfl <| WL.p (.nck rfl) rfl <| WL.p (.fa underlying185 rfl sizeOf3 (by decide) rfl) rfl <| WL.r (Rd.ld (isAgg3 _) rfl hk23 rfl) rfl <| WL.p (.iis (((s + 1 : Nat) : Int)) (.add rfl rfl (i64w (by omega))) (by omega)) rfl <| WL.p (.nck rfl) rfl <| WL.p (.fa underlying185 rfl sizeOf3 (by decide) rfl) rfl <| WL.st sizeOf3 rfl rfl rfl hk23 (by first | decide | exact Nat.le_of_ble_eq_true rfl) (fun w123 hkw123 huw123 hsw123 => ?_)
  have hkw123 : Blk w123 r _ _ := hkw123
  have huw123 : Upd r _ _ := huw123
  have hk124 := hk24.upd huw123 (by ((try simp only) <;> omega))
  have hv125 := BytesAt.upd hv25 huw123 hne
  have hB126 := Touch.trans hB26 (Touch.of_upd huw123)
  refine WL.nil <| ?_
  refine W.seq <| W.reg <| WL.p (.mv rfl) rfl <| WL.bsl (ps := _) underlying22 sizeOf5 zeroValue5 rfl rfl rfl rfl rfl (by simp only [put1, List.map, List.zip, List.zipWith, List.set, List.replicate] <;> rfl) rfl (fun b127 wb127 eb127 hkb127 hub127 hsb127 => ?_)
  have hl129 : r < b127 := by rw [eb127]; exact hkw123.lt
  have hk128 := hkw123.upd hub127 (Nat.ne_of_lt hl129)
  have hl131 : b1 < b127 := by rw [eb127]; exact hk124.lt
  have hk130 := hk124.upd hub127 (Nat.ne_of_lt hl131)
  have hvl133 := fun h0 => eb127 ▸ hv125.lt h0
  have hv132 := BytesAt.upd hv125 hub127 (fun h0 => Nat.ne_of_lt (hvl133 h0))
  have hgeb127 : w.heap.size ≤ b127 := by rw [eb127]; exact hB126.size
  have hB134 := Touch.trans hB126 (Touch.of_new hub127 hgeb127)
  refine WL.r (Rd.b2s (l := [x]) underlying22 underlying5 underlying9 rfl (BytesAt.one hkb127 rfl)) rfl <| ?_
  refine WL.p (.buildL (ps := _) blt143 rfl rfl rfl (by simp only [put1, List.map, List.zip, List.zipWith, List.set] <;> rfl)) rfl ?_
  refine WL.stL rfl rfl hk130 isz143 rfl rfl (fun w135 hkw135 huw135 hsw135 => ?_)
  have hk136 := hk128.upd huw135 (by ((try simp only) <;> omega))
  have hv138 := BytesAt.upd hv132 huw135 (fun h0 => Nat.ne_of_lt (hvl5 h0))
  have hB139 := Touch.trans hB134 (Touch.of_new huw135 (by omega))
  refine WL.nil <| ?_
  refine W.ret (W.retc1 rfl rfl (ldRow hkw135 underlying143 rfl isz143)  ?_)
  exact Ends.ok (⟨3, 0, [x]⟩, l.drop (s + 1)) (by rw [hT, show x = 93 from u8_eq (by assumption), tokC93]) rfl ⟨_, rfl, by omega, ⟨hk136, hv138⟩, hB139⟩
 have h122' := of_decide_eq_false h122
 refine W.seq <| W.reg <| WL.p (.eql rfl rfl) rfl <| WL.p (.as rfl) rfl <| WL.nil <| ?_
 refine W.cond rfl (fun h140 => ?_) (fun h140 => ?_)
 ·
  have h140' := of_decide_eq_true h140
  refine W.seq <| W.reg <| WL.p (.mv rfl) rfl <| WL.p (.nck rfl) rfl <| WL.p (.fa underlying185 rfl sizeOf3 (by decide) rfl) rfl <| WL.r (Rd.ld (isAgg3 _) rfl hk23 rfl) rfl <| WL.p (.iis (((s + 1 : Nat) : Int)) (.add rfl rfl (i64w (by omega))) (by omega)) rfl <| WL.p (.nck rfl) rfl <| WL.p (.fa underlying185 rfl sizeOf3 (by decide) rfl) rfl <| WL.st sizeOf3 rfl rfl rfl hk23 (by first | decide | exact Nat.le_of_ble_eq_true rfl) (fun w141 hkw141 huw141 hsw141 => ?_)
  have hkw141 : Blk w141 r _ _ := hkw141
  have huw141 : Upd r _ _ := huw141
  have hk142 := hk24.upd huw141 (by ((try simp only) <;> omega))
  have hv143 := BytesAt.upd hv25 huw141 hne
  have hB144 := Touch.trans hB26 (Touch.of_upd huw141)
  refine WL.nil <| ?_
  refine W.seq <| W.reg <| WL.p (.mv rfl) rfl <| WL.ce hb205 rfl rfl ((scan_slash r p l c (s + 1) _ ⟨hkw141, hv143⟩ hne hc hl (by omega))) (fun k147 w145 hrw145 hw145 => ?_) (fun a146 w145 hrw145 hw145 => ?_)
  ·
   skip
   have hBew145 := Touch.trans hB144 (Touch.mono hw145 hB144.size)
   exact pn_is (Ends.err k147 (by rw [hT, show x = 47 from u8_eq (by assumption), tokC47]; exact hrw145) hBew145)
  obtain ⟨kr, hkr, hkl, hw145⟩ := hw145
  have hk148 := hw145.1.1
  have hk149 := Blk.touch hk142 hw145.2 hk142.lt (by omega)
  have hv150 := hw145.1.2
  have hB151 := Touch.trans hB144 (Touch.mono hw145.2 hB144.size)
  have hra := hrw145
  obtain ⟨a0, ha0⟩ : ∃ a0, a0 = a146 := ⟨_, rfl⟩
  refine WL.stL rfl rfl hk149 isz143 rfl rfl (fun w152 hkw152 huw152 hsw152 => ?_)
  have hk153 := hk148.upd huw152 (by ((try simp only) <;> omega))
  have hv154 := BytesAt.upd hv150 huw152 (fun h0 => Nat.ne_of_lt (hvl5 h0))
  have hB155 := Touch.trans hB151 (Touch.of_new huw152 (by omega))
  refine WL.nil <| ?_
  refine W.ret (W.retc1 rfl rfl (ldRow hkw152 underlying143 rfl isz143)  ?_)
  exact Ends.ok _ (by rw [hT, show x = 47 from u8_eq (by assumption), tokC47]; exact hra) rfl ⟨_, hkr, hkl, ⟨hk153, hv154⟩, hB155⟩
 have h140' := of_decide_eq_false h140
 refine W.skip <| W.seq <| W.reg <| WL.p (.mv rfl) rfl <| WL.c1 hb206 rfl rfl ((scan_word r p l c s _ ⟨hk23, hv25⟩ hne hc hl (by omega))) (fun w156 hw156 => ?_)
 have hk157 := hw156.1.1
 have hk158 := Blk.touch hk24 hw156.2 hk24.lt (by omega)
 have hv159 := hw156.1.2
 have hB160 := Touch.trans hB26 (Touch.mono hw156.2 hB26.size)
 refine WL.p (.as rfl) rfl <| WL.nil <| ?_
 refine W.seq ?_
 obtain ⟨T, hTk⟩ : ∃ T, T = tokenL ((l.drop s).takeWhile regB) := ⟨_, rfl⟩
 have hX : tokS (l.drop n) = if T.e ≠ 0 then .error T.e else if T.ok then .ok (⟨T.kind, T.n, []⟩, l.drop (wordAt l s)) else nameS 3 (l.drop s) := by rw [hT, tokC_word _ (by omega) (by omega) (by omega) (by omega) (by omega) (by omega) (by omega) (by omega) (by omega), hx, ← List.drop_eq_getElem_cons hlt, ← word_drop, hTk]; rfl
 have hTc : ∀ w, Calls Tryz.prog 115 #[.string (bs ((l.drop s).takeWhile regB))] w fun e w' => e = .returned T.val ∧ Below w.heap.size w w' := fun w => by rw [hTk]; exact dec_Token _ w
 refine W.reg <| WL.p (.mv rfl) rfl <| WL.c1 hb115 rfl rfl ((hTc _)) (fun w161 hw161 => ?_)
 have hk162 := hk157.below hw161 hk157.lt
 have hk163 := hk158.below hw161 hk158.lt
 have hv164 := BytesAt.below hv159 hw161 (fun h0 => hv159.lt h0)
 have hB165 := Touch.trans hB160 (Touch.mono (Touch.of_below hw161) hB160.size)
 refine WL.p (.mv rfl) rfl <| WL.p (.ext rfl rfl) rfl <| WL.p (.ext rfl rfl) rfl <| WL.p (.ext rfl rfl) rfl <| WL.alloc zeroValue143 rfl (fun b166 wb166 eb166 hkb166 hub166 hsb166 => ?_)
 have hl168 : r < b166 := by rw [eb166]; exact hk162.lt
 have hk167 := hk162.upd hub166 (Nat.ne_of_lt hl168)
 have hl170 : b1 < b166 := by rw [eb166]; exact hk163.lt
 have hk169 := hk163.upd hub166 (Nat.ne_of_lt hl170)
 have hvl172 := fun h0 => eb166 ▸ hv164.lt h0
 have hv171 := BytesAt.upd hv164 hub166 (fun h0 => Nat.ne_of_lt (hvl172 h0))
 have hgeb166 : w.heap.size ≤ b166 := by rw [eb166]; exact hB165.size
 have hB173 := Touch.trans hB165 (Touch.of_new hub166 hgeb166)
 refine WL.stL rfl rfl hkb166 isz143 rfl rfl (fun w174 hkw174 huw174 hsw174 => ?_)
 have hk175 := hk167.upd huw174 (by ((try simp only) <;> omega))
 have hk176 := hk169.upd huw174 (by ((try simp only) <;> omega))
 have hv177 := BytesAt.upd hv171 huw174 (fun h0 => Nat.ne_of_lt (hvl172 h0))
 have hB178 := Touch.trans hB173 (Touch.of_new huw174 (by omega))
 refine WL.p (.as rfl) rfl <| WL.p (.as rfl) rfl <| WL.nil <| ?_
 refine W.seq <| W.block <| W.seq <| W.reg <| WL.p (.mv rfl) rfl <| WL.p (.neq rfl rfl) rfl <| WL.p (.as rfl) rfl <| WL.nil <| ?_
 refine W.cond rfl (fun h179 => ?_) (fun h179 => ?_)
 ·
  have h179' := ndT h179
  refine W.reg <| WL.p (.mv rfl) rfl <| WL.p (.mkI underlying35 rfl) rfl <| WL.panic rfl (pn_is ?_)
  exact Ends.err T.e (by rw [hX, if_pos (by assumption)]) hB178
 have h179' := ndF h179
 refine W.seq <| W.reg <| WL.p (.mv rfl) rfl <| WL.p (.as rfl) rfl <| WL.nil <| ?_
 refine W.cond rfl (fun h180 => ?_) (fun h180 => ?_)
 ·
  skip
  refine W.seq <| W.reg <| WL.r (Rd.ldA rfl hkw174 underlying143 rfl isz143) rfl <| WL.stL rfl rfl hk176 isz143 rfl rfl (fun w181 hkw181 huw181 hsw181 => ?_)
  have hk182 := hk175.upd huw181 (by ((try simp only) <;> omega))
  have hv184 := BytesAt.upd hv177 huw181 (fun h0 => Nat.ne_of_lt (hvl5 h0))
  have hB185 := Touch.trans hB178 (Touch.of_new huw181 (by omega))
  refine WL.nil <| ?_
  refine W.ret (W.retc1 rfl rfl (ldRow hkw181 underlying143 rfl isz143)  ?_)
  exact Ends.ok (⟨T.kind, T.n, []⟩, l.drop (wordAt l s)) (by rw [hX, if_neg (fun h => h (by assumption)), if_pos (by assumption)]) rfl ⟨_, rfl, hwl.2, ⟨hk182, hv184⟩, hB185⟩
 refine W.skip <| W.seq <| W.reg <| WL.p (.mv rfl) rfl <| WL.ce hb207 rfl rfl ((scan_name 3 _ _ (by have := word_len l s; omega))) (fun k188 w186 hrw186 hw186 => ?_) (fun a187 w186 hrw186 hw186 => ?_)
 ·
  skip
  have hBew186 := Touch.trans hB178 (Touch.mono (Touch.of_below hw186) hB178.size)
  exact pn_is (Ends.err k188 (by rw [hX, if_neg (fun h => h (by assumption)), if_neg (bF (by assumption))]; exact nameS_err hrw186) hBew186)
 have hk189 := hk175.below hw186 hk175.lt
 have hk190 := hk176.below hw186 hk176.lt
 have hv192 := BytesAt.below hv177 hw186 (fun h0 => hv177.lt h0)
 have hB193 := Touch.trans hB178 (Touch.mono (Touch.of_below hw186) hB178.size)
 obtain ⟨a0, ha0⟩ : ∃ a0, a0 = a187 := ⟨_, rfl⟩
 have hra := hrw186
 refine WL.stL rfl rfl hk190 isz143 rfl rfl (fun w194 hkw194 huw194 hsw194 => ?_)
 have hk195 := hk189.upd huw194 (by ((try simp only) <;> omega))
 have hv197 := BytesAt.upd hv192 huw194 (fun h0 => Nat.ne_of_lt (hvl5 h0))
 have hB198 := Touch.trans hB193 (Touch.of_new huw194 (by omega))
 refine WL.nil <| ?_
 refine W.ret (W.retc1 rfl rfl (ldRow hkw194 underlying143 rfl isz143)  ?_)
 exact Ends.ok (_, l.drop (wordAt l s)) (by rw [hX, if_neg (fun h => h (by assumption)), if_neg (bF (by assumption)), nameS_ok hra, word_drop]) rfl ⟨_, rfl, hwl.2, ⟨hk195, hv197⟩, hB198⟩
end Go.Proofs.YtjghbcjnplcleaaGreatDoor

namespace Go.Proofs.YtjghbcjnplcleaaGreatDoor
open Go.Proofs.Tryz
open Go.RowKit
set_option maxRecDepth 4000
theorem scan_quiet (b1 b2 b5 : Nat) (w : World) :
  CallsD Tryz.prog 150 #[.pointer (some ⟨b1, 0, none⟩), .pointer (some ⟨b2, 0, none⟩), .pointer (some ⟨b5, 0, none⟩)] .returning w fun e u' w' => u' = .returning ∧ (∃ v, e = .returned v) ∧ w' = w := by
 refine CallsD.rec func150 rfl ntmps150 (Nat.le_of_ble_eq_true rfl) rfl ?_
 refine WL.p (.as rfl) rfl <| WL.nil <| ?_
 refine W.seq <| W.reg <| WL.p (.mv rfl) rfl <| WL.p (.neNil0 (by kernel_rfl) rfl) rfl <| WL.nil <| ?_
 refine W.condF rfl rfl ?_
 refine W.skip ?_
 refine W.norm (W.ret0 rfl ?_)
 exact ⟨⟨_, rfl⟩, rfl⟩
theorem scan_caught (b1 b2 b5 B : Nat) (x y : Int) (z : ByteArray) (i j k : Int) (w : World) (h1 : Blk w b1 #[.int .i64 x, .int .i64 y, .string z] 143) (h2 : Blk w b2 #[.int .i64 i] 3) (h5 : Blk w b5 #[.int .i64 j] 35) (hB1 : B ≤ b1) (h12 : b1 < b2) (h25 : b2 < b5) :
  CallsD Tryz.prog 150 #[.pointer (some ⟨b1, 0, none⟩), .pointer (some ⟨b2, 0, none⟩), .pointer (some ⟨b5, 0, none⟩)] (.panicking [{ v := .iface 35 (.int .i64 k), recovered := false }]) w
   fun e u' w' => u' = .panicking [{ v := .iface 35 (.int .i64 k), recovered := true }] ∧ (∃ v, e = .returned v) ∧
    Blk w' b1 #[.int .i64 0, .int .i64 0, .string ⟨#[]⟩] 143 ∧ Blk w' b2 #[.int .i64 0] 3 ∧ Blk w' b5 #[.int .i64 k] 35 ∧ Below B w w' := by
 refine CallsD.rec func150 rfl ntmps150 (Nat.le_of_ble_eq_true rfl) rfl ?_
 have hB0 := Below.refl (B) w
 refine WL.p (.as rfl) rfl <| WL.nil <| ?_
 refine W.seq <| W.reg <| WL.p (.mv rfl) rfl <| WL.p (.neNil (by kernel_rfl) rfl) rfl <| WL.nil <| ?_
 refine W.condT rfl rfl ?_
 refine W.seq <| W.reg <| WL.p (.mv rfl) rfl <| WL.p (.tas underlying35 rfl) rfl <| WL.p (.mv rfl) rfl <| WL.p (.ext rfl rfl) rfl <| WL.p (.ext rfl rfl) rfl <| WL.p (.as rfl) rfl <| WL.p (.as rfl) rfl <| WL.nil <| ?_
 refine W.seq <| W.seq <| W.reg <| WL.p (.mv rfl) rfl <| WL.p (.not rfl) rfl <| WL.nil <| ?_
 refine W.condF rfl rfl ?_
 refine W.skip <| W.reg <| WL.p (.buildL (ps := _) blt143 rfl rfl rfl (by simp only [put1, List.map, List.zip, List.zipWith] <;> rfl)) rfl ?_
 refine WL.p (.mv rfl) rfl <| WL.stL rfl rfl h1 isz143 rfl rfl (fun w1 hkw1 huw1 hsw1 => ?_)
 have hk2 := h2.upd huw1 (by ((try simp only) <;> omega))
 have hk3 := h5.upd huw1 (by ((try simp only) <;> omega))
 have hB4 := Upd.below hB0 (by omega) huw1
 refine WL.st sizeOf3 rfl rfl rfl hk2 (by first | decide | exact Nat.le_of_ble_eq_true rfl) (fun w5 hkw5 huw5 hsw5 => ?_)
 have hkw5 : Blk w5 b2 _ _ := hkw5
 have huw5 : Upd b2 _ _ := huw5
 have hk6 := hkw1.upd huw5 (by ((try simp only) <;> omega))
 have hk7 := hk3.upd huw5 (by ((try simp only) <;> omega))
 have hB8 := Upd.below hB4 (by omega) huw5
 refine WL.st sizeOf35 rfl rfl rfl hk7 (by first | decide | exact Nat.le_of_ble_eq_true rfl) (fun w9 hkw9 huw9 hsw9 => ?_)
 have hkw9 : Blk w9 b5 _ _ := hkw9
 have huw9 : Upd b5 _ _ := huw9
 have hk10 := hk6.upd huw9 (by ((try simp only) <;> omega))
 have hk11 := hkw5.upd huw9 (by ((try simp only) <;> omega))
 have hB12 := Upd.below hB8 (by omega) huw9
 refine WL.nil <| ?_
 refine W.norm (W.ret0 rfl ?_)
 exact ⟨⟨_, rfl⟩, hk10, hk11, hkw9, hB12⟩
theorem scan_Next (a : Int) (p : Option Addr) (l : List UInt8) (c : Nat) (w : World) (hb : BytesAt w p l) (hc : l.length ≤ c) (hl : l.length ≤ 100000000) :
    Calls Tryz.prog 107 #[.slice p l.length c, .int .i64 a] w fun e w' => e = .returned (nextR l a).val ∧ Below w.heap.size w w' := by
  refine W.enterD func107 rfl ntmps107 (Nat.le_of_ble_eq_true rfl) ?_
  have hB0 := Below.refl (w.heap.size) w
  refine WD.seq ?_
  refine W.reg <| WL.alloc zeroValue143 rfl (fun b1 wb1 eb1 hkb1 hub1 hsb1 => ?_)
  have hvl3 := fun h0 => eb1 ▸ hb.lt h0
  have hv2 := BytesAt.upd hb hub1 (fun h0 => Nat.ne_of_lt (hvl3 h0))
  have hB4 := Upd.below hB0 (by rw [eb1]; exact hB0.size) hub1
  have hgeb1 : w.heap.size ≤ b1 := by rw [eb1]; exact hB0.size
  refine WL.alloc zeroValue3 rfl (fun b5 wb5 eb5 hkb5 hub5 hsb5 => ?_)
  have hl7 : b1 < b5 := by rw [eb5]; exact hkb1.lt
  have hk6 := hkb1.upd hub5 (Nat.ne_of_lt hl7)
  have hvl9 := fun h0 => eb5 ▸ hv2.lt h0
  have hv8 := BytesAt.upd hv2 hub5 (fun h0 => Nat.ne_of_lt (hvl9 h0))
  have hB10 := Upd.below hB4 (by rw [eb5]; exact hB4.size) hub5
  have hgeb5 : w.heap.size ≤ b5 := by rw [eb5]; exact hB4.size
  refine WL.alloc zeroValue35 rfl (fun b11 wb11 eb11 hkb11 hub11 hsb11 => ?_)
  have hl13 : b1 < b11 := by rw [eb11]; exact hk6.lt
  have hk12 := hk6.upd hub11 (Nat.ne_of_lt hl13)
  have hl15 : b5 < b11 := by rw [eb11]; exact hkb5.lt
  have hk14 := hkb5.upd hub11 (Nat.ne_of_lt hl15)
  have hvl17 := fun h0 => eb11 ▸ hv8.lt h0
  have hv16 := BytesAt.upd hv8 hub11 (fun h0 => Nat.ne_of_lt (hvl17 h0))
  have hB18 := Upd.below hB10 (by rw [eb11]; exact hB10.size) hub11
  have hgeb11 : w.heap.size ≤ b11 := by rw [eb11]; exact hB10.size
  refine WL.nil <| ?_
  refine WD.seq ?_
  refine W.cutB 15 (decide (a < 0 ∨ (l.length : Int) < a)) ?_ ?_
  · skip
    refine W.reg <| WL.p (.mv rfl) rfl <| WL.p (.lss rfl rfl) rfl <| WL.p (.mv rfl) rfl <| WL.gd rfl rfl rfl (fun g19 => ?_) (fun g19 => ?_)
    · have g19' := of_decide_eq_false g19
      refine WL.p (.mv rfl) rfl <| WL.gy rfl rfl rfl g19 <| WL.p (.mv rfl) rfl <| WL.gy rfl rfl rfl g19 <| WL.p (.lenS underlying22 rfl) rfl <| WL.gy rfl rfl rfl g19 <| WL.p (.gtr rfl rfl) rfl <| WL.p (.pkF rfl g19 rfl) rfl <| WL.nil <| ?_
      exact ⟨⟨lk_b rfl (by (apply Bool.eq_iff_iff.2; (try simp only [Bool.and_eq_true, Bool.or_eq_true, Bool.not_eq_true', decide_eq_true_eq, decide_eq_false_iff_not, Bool.false_eq_true, Bool.not_eq_false', false_iff, iff_false, true_iff, iff_true]); omega)), by repeat (first | exact Le.refl _ | refine Le.cons rfl ?_)⟩, rfl⟩
    have g19' := of_decide_eq_true g19
    refine WL.gn rfl rfl rfl g19 <| WL.gn rfl rfl rfl g19 <| WL.gn rfl rfl rfl g19 <| WL.p (.pkT rfl g19 rfl) rfl <| WL.nil <| ?_
    exact ⟨⟨lk_b rfl (by (apply Bool.eq_iff_iff.2; (try simp only [Bool.and_eq_true, Bool.or_eq_true, Bool.not_eq_true', decide_eq_true_eq, decide_eq_false_iff_not, Bool.false_eq_true, Bool.not_eq_false', false_iff, iff_false, true_iff, iff_true]); omega)), by repeat (first | exact Le.refl _ | refine Le.cons rfl ?_)⟩, rfl⟩
  refine W.cond rfl (fun h20 => ?_) (fun h20 => ?_)
  · have h20' := of_decide_eq_true h20
    refine W.seq <| W.reg <| WL.p (.buildL (ps := _) blt143 rfl rfl rfl (by simp only [put1, List.map, List.zip, List.zipWith] <;> rfl)) rfl ?_
    refine WL.stL rfl rfl hk12 isz143 rfl rfl (fun w21 hkw21 huw21 hsw21 => ?_)
    have hk22 := hk14.upd huw21 (by ((try simp only) <;> omega))
    have hk23 := hkb11.upd huw21 (by ((try simp only) <;> omega))
    have hB25 := Upd.below hB18 (by omega) huw21
    refine WL.st sizeOf3 rfl rfl rfl hk22 (by first | decide | exact Nat.le_of_ble_eq_true rfl) (fun w26 hkw26 huw26 hsw26 => ?_)
    have hkw26 : Blk w26 b5 _ _ := hkw26
    have huw26 : Upd b5 _ _ := huw26
    have hk27 := hkw21.upd huw26 (by ((try simp only) <;> omega))
    have hk28 := hk23.upd huw26 (by ((try simp only) <;> omega))
    have hB30 := Upd.below hB25 (by omega) huw26
    refine WL.st sizeOf35 rfl rfl rfl hk28 (by first | decide | exact Nat.le_of_ble_eq_true rfl) (fun w31 hkw31 huw31 hsw31 => ?_)
    have hkw31 : Blk w31 b11 _ _ := hkw31
    have huw31 : Upd b11 _ _ := huw31
    have hk32 := hk27.upd huw31 (by ((try simp only) <;> omega))
    have hk33 := hkw26.upd huw31 (by ((try simp only) <;> omega))
    have hB35 := Upd.below hB30 (by omega) huw31
    refine WL.nil <| ?_
    refine W.ret ?_
    exact PostD.ret0 (ResOk.cells3 rfl rfl rfl rfl (ldRow hk32 underlying143 rfl isz143) (ldCell hk33 (isAgg3 _) rfl) (ldCell hkw31 (isAgg35 _) rfl)) ⟨ret_val (by unfold nextR; rw [if_pos (by omega)]; (first | done | rfl)), hB35⟩
  have h20' := of_decide_eq_false h20
  obtain ⟨n, rfl⟩ := Int.eq_ofNat_of_zero_le (a := a) (by omega)
  have hN : nextR l (n : Int) = nrOf l (tokS (l.drop n)) := by unfold nextR; rw [if_neg (by omega)]; rfl
  refine W.skip ?_
  refine WD.defer rfl rfl ?_
  refine WD.of ?_
  refine W.seq <| W.reg <| WL.p (.mv rfl) rfl <| WL.p (.mv rfl) rfl <| ?_
  refine WL.p (.buildL (ps := _) blt185 rfl rfl rfl (by simp only [put1, List.map, List.zip, List.zipWith, List.set] <;> rfl)) rfl ?_
  refine WL.box rfl rfl (fun b36 wb36 eb36 hkb36 hub36 hsb36 => ?_)
  have hl38 : b1 < b36 := by rw [eb36]; exact hk12.lt
  have hk37 := hk12.upd hub36 (Nat.ne_of_lt hl38)
  have hl40 : b5 < b36 := by rw [eb36]; exact hk14.lt
  have hk39 := hk14.upd hub36 (Nat.ne_of_lt hl40)
  have hl42 : b11 < b36 := by rw [eb36]; exact hkb11.lt
  have hk41 := hkb11.upd hub36 (Nat.ne_of_lt hl42)
  have hvl44 := fun h0 => eb36 ▸ hv16.lt h0
  have hv43 := BytesAt.upd hv16 hub36 (fun h0 => Nat.ne_of_lt (hvl44 h0))
  have hB45 := Upd.below hB18 (by rw [eb36]; exact hB18.size) hub36
  have hgeb36 : w.heap.size ≤ b36 := by rw [eb36]; exact hB18.size
  refine WL.p (.as rfl) rfl <| WL.nil <| ?_
  refine W.seq <| W.reg <| WL.p (.mv rfl) rfl <| WL.ce hb151 rfl rfl ((scan_token b36 p l c n _ ⟨hkb36, hv43⟩ (fun h0 => by have := hb.lt h0; omega) hc hl (by omega))) (fun k48 w46 hrw46 hw46 => ?_) (fun a47 w46 hrw46 hw46 => ?_)
  · skip
    have hBew46 := Below.trans hB45 (Touch.below hw46 hB45.size (by omega))
    exact PostD.caught hb150 (fun w' => _) (scan_caught b1 b5 b11 w.heap.size _ _ _ _ _ k48 _ (Blk.touch hk37 hw46 hk37.lt (by omega)) (Blk.touch hk39 hw46 hk39.lt (by omega)) (Blk.touch hk41 hw46 hk41.lt (by omega)) (by omega) (by omega) (by omega))
      (fun w' hS => ⟨_, ResOk.cells3 rfl rfl rfl rfl (ldRow hS.1 underlying143 rfl isz143) (ldCell hS.2.1 (isAgg3 _) rfl) (ldCell hS.2.2.1 (isAgg35 _) rfl), ret_val (by rw [hN, hrw46]; (first | done | rfl)), hBew46.trans hS.2.2.2⟩)
  obtain ⟨kr, hkr, hkl, hw46⟩ := hw46
  have hk49 := Blk.touch hk37 hw46.2 hk37.lt (by omega)
  have hk50 := Blk.touch hk39 hw46.2 hk39.lt (by omega)
  have hk51 := Blk.touch hk41 hw46.2 hk41.lt (by omega)
  have hk52 := hw46.1.1
  have hB54 := Below.trans hB45 (Touch.below hw46.2 hB45.size (by omega))
  have hra := hrw46
  obtain ⟨t0, rest⟩ := a47
  obtain rfl : rest = l.drop kr := hkr
  refine WL.stL rfl rfl hk49 isz143 rfl rfl (fun w55 hkw55 huw55 hsw55 => ?_)
  have hk56 := hk50.upd huw55 (by ((try simp only) <;> omega))
  have hk57 := hk51.upd huw55 (by ((try simp only) <;> omega))
  have hk58 := hk52.upd huw55 (by ((try simp only) <;> omega))
  have hB60 := Upd.below hB54 (by omega) huw55
  refine WL.nil <| ?_
  refine W.seq ?_
  refine W.noPn ?_
  refine W.regY 8 rfl mixed (fun w61 dw61 => ?_)
  have hk62 := hkw55.drew dw61
  have hk63 := hk56.drew dw61
  have hk64 := hk57.drew dw61
  have hk65 := hk58.drew dw61
  have hB67 := Drew.below hB60 dw61
  refine WY.tk 1 rfl (.mv rfl) rfl ?_
  refine WY.tk 2 rfl (.nck rfl) rfl ?_
  refine WY.tk 3 rfl (.fa underlying185 rfl sizeOf3 (by decide) rfl) rfl ?_
  refine WY.br2 0 rfl 4 rfl ?_ ?_
  · skip
    refine WL.r (Rd.ldA rfl hk62 underlying143 rfl isz143) rfl <| WL.nil <| ?_
    refine WY.br2 4 rfl 5 rfl ?_ ?_
    · skip
      refine WL.r (Rd.ld (isAgg3 _) rfl hk65 rfl) rfl <| WL.nil <| ?_
      refine WY.br1 5 rfl ?_
      refine WL.stL rfl rfl hk62 isz143 rfl rfl (fun w68 hkw68 huw68 hsw68 => ?_)
      have hk69 := hk63.upd huw68 (by ((try simp only) <;> omega))
      have hk70 := hk64.upd huw68 (by ((try simp only) <;> omega))
      have hB73 := Upd.below hB67 (by omega) huw68
      refine WL.nil <| ?_
      refine WY.br1 6 rfl ?_
      refine WL.st sizeOf3 rfl rfl rfl hk69 (by first | decide | exact Nat.le_of_ble_eq_true rfl) (fun w74 hkw74 huw74 hsw74 => ?_)
      have hkw74 : Blk w74 b5 _ _ := hkw74
      have huw74 : Upd b5 _ _ := huw74
      have hk75 := hkw68.upd huw74 (by ((try simp only) <;> omega))
      have hk76 := hk70.upd huw74 (by ((try simp only) <;> omega))
      have hB79 := Upd.below hB73 (by omega) huw74
      refine WL.nil <| ?_
      refine WY.br1 7 rfl ?_
      refine WL.st sizeOf35 rfl rfl rfl hk76 (by first | decide | exact Nat.le_of_ble_eq_true rfl) (fun w80 hkw80 huw80 hsw80 => ?_)
      have hkw80 : Blk w80 b11 _ _ := hkw80
      have huw80 : Upd b11 _ _ := huw80
      have hk81 := hk75.upd huw80 (by ((try simp only) <;> omega))
      have hk82 := hkw74.upd huw80 (by ((try simp only) <;> omega))
      have hB85 := Upd.below hB79 (by omega) huw80
      refine WL.nil <| ?_
      refine WY.done (by kernel_rfl) ?_
      refine W.ret ?_
      exact PostD.ret hb150 (fun w' => _) (scan_quiet b1 b5 b11 _)
        (fun w' hS => by subst hS; exact ⟨_, ResOk.cells3 rfl rfl rfl rfl (ldRow hk81 underlying143 rfl isz143) (ldCell hk82 (isAgg3 _) rfl) (ldCell hkw80 (isAgg35 _) rfl), ret_val (by rw [hN, hra, nrOf_drop _ _ _ hkl]; (first | done | rfl)), hB85⟩)
    refine WL.stL rfl rfl hk62 isz143 rfl rfl (fun w86 hkw86 huw86 hsw86 => ?_)
    have hk87 := hk63.upd huw86 (by ((try simp only) <;> omega))
    have hk88 := hk64.upd huw86 (by ((try simp only) <;> omega))
    have hk89 := hk65.upd huw86 (by ((try simp only) <;> omega))
    have hB91 := Upd.below hB67 (by omega) huw86
    refine WL.nil <| ?_
    refine WY.br1 4 rfl ?_
    refine WL.r (Rd.ld (isAgg3 _) rfl hk89 rfl) rfl <| WL.nil <| ?_
    refine WY.br1 6 rfl ?_
    refine WL.st sizeOf3 rfl rfl rfl hk87 (by first | decide | exact Nat.le_of_ble_eq_true rfl) (fun w92 hkw92 huw92 hsw92 => ?_)
    have hkw92 : Blk w92 b5 _ _ := hkw92
    have huw92 : Upd b5 _ _ := huw92
    have hk93 := hkw86.upd huw92 (by ((try simp only) <;> omega))
    have hk94 := hk88.upd huw92 (by ((try simp only) <;> omega))
    have hB97 := Upd.below hB91 (by omega) huw92
    refine WL.nil <| ?_
    refine WY.br1 7 rfl ?_
    refine WL.st sizeOf35 rfl rfl rfl hk94 (by first | decide | exact Nat.le_of_ble_eq_true rfl) (fun w98 hkw98 huw98 hsw98 => ?_)
    have hkw98 : Blk w98 b11 _ _ := hkw98
    have huw98 : Upd b11 _ _ := huw98
    have hk99 := hk93.upd huw98 (by ((try simp only) <;> omega))
    have hk100 := hkw92.upd huw98 (by ((try simp only) <;> omega))
    have hB103 := Upd.below hB97 (by omega) huw98
    refine WL.nil <| ?_
    refine WY.done (by kernel_rfl) ?_
    refine W.ret ?_
    exact PostD.ret hb150 (fun w' => _) (scan_quiet b1 b5 b11 _)
      (fun w' hS => by subst hS; exact ⟨_, ResOk.cells3 rfl rfl rfl rfl (ldRow hk99 underlying143 rfl isz143) (ldCell hk100 (isAgg3 _) rfl) (ldCell hkw98 (isAgg35 _) rfl), ret_val (by rw [hN, hra, nrOf_drop _ _ _ hkl]; (first | done | rfl)), hB103⟩)
  refine WL.r (Rd.ld (isAgg3 _) rfl hk65 rfl) rfl <| WL.nil <| ?_
  refine WY.br1 0 rfl ?_
  refine WL.r (Rd.ldA rfl hk62 underlying143 rfl isz143) rfl <| WL.nil <| ?_
  refine WY.br1 5 rfl ?_
  refine WL.stL rfl rfl hk62 isz143 rfl rfl (fun w104 hkw104 huw104 hsw104 => ?_)
  have hk105 := hk63.upd huw104 (by ((try simp only) <;> omega))
  have hk106 := hk64.upd huw104 (by ((try simp only) <;> omega))
  have hB109 := Upd.below hB67 (by omega) huw104
  refine WL.nil <| ?_
  refine WY.br1 6 rfl ?_
  refine WL.st sizeOf3 rfl rfl rfl hk105 (by first | decide | exact Nat.le_of_ble_eq_true rfl) (fun w110 hkw110 huw110 hsw110 => ?_)
  have hkw110 : Blk w110 b5 _ _ := hkw110
  have huw110 : Upd b5 _ _ := huw110
  have hk111 := hkw104.upd huw110 (by ((try simp only) <;> omega))
  have hk112 := hk106.upd huw110 (by ((try simp only) <;> omega))
  have hB115 := Upd.below hB109 (by omega) huw110
  refine WL.nil <| ?_
  refine WY.br1 7 rfl ?_
  refine WL.st sizeOf35 rfl rfl rfl hk112 (by first | decide | exact Nat.le_of_ble_eq_true rfl) (fun w116 hkw116 huw116 hsw116 => ?_)
  have hkw116 : Blk w116 b11 _ _ := hkw116
  have huw116 : Upd b11 _ _ := huw116
  have hk117 := hk111.upd huw116 (by ((try simp only) <;> omega))
  have hk118 := hkw110.upd huw116 (by ((try simp only) <;> omega))
  have hB121 := Upd.below hB115 (by omega) huw116
  refine WL.nil <| ?_
  refine WY.done (by kernel_rfl) ?_
  refine W.ret ?_
  exact PostD.ret hb150 (fun w' => _) (scan_quiet b1 b5 b11 _)
    (fun w' hS => by subst hS; exact ⟨_, ResOk.cells3 rfl rfl rfl rfl (ldRow hk117 underlying143 rfl isz143) (ldCell hk118 (isAgg3 _) rfl) (ldCell hkw116 (isAgg35 _) rfl), ret_val (by rw [hN, hra, nrOf_drop _ _ _ hkl]; (first | done | rfl)), hB121⟩)
end Go.Proofs.YtjghbcjnplcleaaGreatDoor

namespace Go.Proofs.YtjghbcjnplcleaaGreatDoor
open Go.Proofs.Tryz
open Go.RowKit
section
variable {P : Program} {f : Fr} {x y : Operand} {tx ty : TypeId} {a b r : Int} {k : IntKind}
theorem Pure.shr6 (hx : evo f x = some (.int .u8 a)) (hr : a.fdiv 64 = r) : Pure P (.binOp .shr tx x (.const (.int .u64 6)) ty) f (.int .u8 r) := fun ρ hρ d ty' pos aft g w => by
 have h4 : ρ (.const (.int .u64 6)) = .int .u64 6 := hρ _ _ rfl
 have e : (Op.shift .shr .u8 a .u64 6).run P w = .ok (.int .u8 r) w := by
  subst hr; rfl
 simp [execOp, hρ _ _ hx, h4, eqGuard, binOp, e]
theorem Pure.and (hx : evo f x = some (.int k a)) (hy : evo f y = some (.int k b)) (hr : bits .and k a b = r) : Pure P (.binOp .and tx x y ty) f (.int k r) := fun ρ hρ d ty' pos aft g w => by
 simp [execOp, hρ _ _ hx, hρ _ _ hy, eqGuard, binOp, intBits_and, hr]
end
/-- a letter made small -/
def lowC (c : UInt8) : UInt8 := c ||| ((32 : UInt8) * ((c >>> (6 : UInt8)) &&& (1 : UInt8)))
theorem low_shr (c : UInt8) : (c.toNat : Int).fdiv 64 = ((c >>> (6 : UInt8)).toNat : Int) := by
 have key : ∀ n : Fin 256, ((UInt8.ofNat n.1).toNat : Int).fdiv 64 = (((UInt8.ofNat n.1) >>> (6 : UInt8)).toNat : Int) := by decide +kernel
 have h := key ⟨c.toNat, UInt8.toNat_lt c⟩
 have e : UInt8.ofNat (⟨c.toNat, UInt8.toNat_lt c⟩ : Fin 256).1 = c := UInt8.ofNat_toNat
 rw [e] at h
 exact h
theorem low_and (c : UInt8) : bits .and .u8 ((c >>> (6 : UInt8)).toNat : Int) 1 = (((c >>> (6 : UInt8)) &&& (1 : UInt8)).toNat : Int) := by
 have key : ∀ n : Fin 256, bits .and .u8 (((UInt8.ofNat n.1) >>> (6 : UInt8)).toNat : Int) 1 = ((((UInt8.ofNat n.1) >>> (6 : UInt8)) &&& (1 : UInt8)).toNat : Int) := by decide +kernel
 have h := key ⟨c.toNat, UInt8.toNat_lt c⟩
 have e : UInt8.ofNat (⟨c.toNat, UInt8.toNat_lt c⟩ : Fin 256).1 = c := UInt8.ofNat_toNat
 rw [e] at h
 exact h
theorem low_mul (c : UInt8) : IntKind.u8.wrap (32 * (((c >>> (6 : UInt8)) &&& (1 : UInt8)).toNat : Int)) = (((32 : UInt8) * ((c >>> (6 : UInt8)) &&& (1 : UInt8))).toNat : Int) := by
 have key : ∀ n : Fin 256, IntKind.u8.wrap (32 * ((((UInt8.ofNat n.1) >>> (6 : UInt8)) &&& (1 : UInt8)).toNat : Int)) = (((32 : UInt8) * (((UInt8.ofNat n.1) >>> (6 : UInt8)) &&& (1 : UInt8))).toNat : Int) := by decide +kernel
 have h := key ⟨c.toNat, UInt8.toNat_lt c⟩
 have e : UInt8.ofNat (⟨c.toNat, UInt8.toNat_lt c⟩ : Fin 256).1 = c := UInt8.ofNat_toNat
 rw [e] at h
 exact h
theorem low_or (c : UInt8) : bits .or .u8 (c.toNat : Int) (((32 : UInt8) * ((c >>> (6 : UInt8)) &&& (1 : UInt8))).toNat : Int) = ((lowC c).toNat : Int) := by
 have key : ∀ n : Fin 256, bits .or .u8 ((UInt8.ofNat n.1).toNat : Int) (((32 : UInt8) * (((UInt8.ofNat n.1) >>> (6 : UInt8)) &&& (1 : UInt8))).toNat : Int) = ((lowC (UInt8.ofNat n.1)).toNat : Int) := by decide +kernel
 have h := key ⟨c.toNat, UInt8.toNat_lt c⟩
 have e : UInt8.ofNat (⟨c.toNat, UInt8.toNat_lt c⟩ : Fin 256).1 = c := UInt8.ofNat_toNat
 rw [e] at h
 exact h
theorem low_idx (c : UInt8) : Lib.indexByte [48, 49, 50, 51, 52, 53, 54, 55, 56, 57, 97, 98, 99, 100, 101, 102] (lowC c) = digI c := by
 have key : ∀ n : Fin 256, Lib.indexByte [48, 49, 50, 51, 52, 53, 54, 55, 56, 57, 97, 98, 99, 100, 101, 102] (lowC (UInt8.ofNat n.1)) = digI (UInt8.ofNat n.1) := by decide +kernel
 have h := key ⟨c.toNat, UInt8.toNat_lt c⟩
 have e : UInt8.ofNat (⟨c.toNat, UInt8.toNat_lt c⟩ : Fin 256).1 = c := UInt8.ofNat_toNat
 rw [e] at h
 exact h
theorem plex_digit (c : UInt8) (w : World) : Calls Tryz.prog 104 #[.int .u8 (c.toNat : Int)] w fun e w' => e = .returned (.int .i64 (digI c)) ∧ w = w' := by
 refine W.enter func104 rfl ntmps104 (Nat.le_of_ble_eq_true rfl) ?_
 refine W.seq <| W.reg <| WL.p (.as rfl) rfl <| WL.nil <| ?_
 refine W.seq <| W.reg <| WL.p (.mv rfl) rfl <| WL.p (.mv rfl) rfl <| WL.p (.shr6 rfl (low_shr c)) rfl <| WL.p (.and rfl rfl (low_and c)) rfl <| WL.p (.mul rfl rfl (low_mul c)) rfl <| WL.p (.or rfl rfl (low_or c)) rfl <| WL.c1 hb60 rfl rfl ((lib_ib [48, 49, 50, 51, 52, 53, 54, 55, 56, 57, 97, 98, 99, 100, 101, 102] (lowC c) _)) (fun w1 hw1 => ?_)
 obtain rfl := hw1
 refine WL.p (.as rfl) rfl <| WL.nil <| ?_
 refine W.ret (W.ret1 rfl rfl ?_)
 exact ⟨ret_int (low_idx c), rfl⟩
theorem digit_q (c : UInt8) (w : World) (m : Nat) : Calls Tryz.prog 104 #[.int .u8 (c.toNat : Int)] (w.drewN m) fun e w' => e = .returned (.int .i64 (digI c)) ∧ ∃ k, w' = w.drewN k :=
 (plex_digit c (w.drewN m)).mono fun e w' h => ⟨h.1, m, h.2.symm⟩
theorem decN_cons (c : UInt8) (r : List UInt8) : decN (c :: r) = if c = 35 then (match r with | a :: b :: r' => if hexN a < 16 ∧ hexN b < 16 then (decN r').map (ch ((16 * hexN a + hexN b : Nat) : Int) :: ·) else none | _ => none) else (decN r).map (c :: ·) := by
 match r with
 | [] => by_cases h : c = 35 <;> simp [decN, h]
 | [a] => by_cases h : c = 35 <;> simp [decN, h]
 | a :: b :: r' => by_cases h : c = 35 <;> simp [decN, h]
/-- what has been read, and what is left -/
def decR (acc s : List UInt8) : Option (List UInt8) := (decN s).map (acc ++ ·)
theorem decR_nil (acc : List UInt8) : decR acc [] = some acc := by simp [decR, decN]
theorem decR_plain (acc s : List UInt8) (i : Nat) (h : i < s.length) (hc : s[i] ≠ 35) : decR acc (s.drop i) = decR (acc ++ [s[i]]) (s.drop (i + 1)) := by
 unfold decR
 rw [List.drop_eq_getElem_cons h, decN_cons, if_neg hc, Option.map_map]
 congr 1
 funext x
 simp
theorem decR_short (acc s : List UInt8) (i : Nat) (h : i < s.length) (hc : s[i] = 35) (h2 : s.length ≤ i + 2) : decR acc (s.drop i) = none := by
 unfold decR
 rw [List.drop_eq_getElem_cons h, decN_cons, if_pos hc]
 have hl : (s.drop (i + 1)).length ≤ 1 := by rw [List.length_drop]; omega
 match s.drop (i + 1), hl with
 | [], _ => rfl
 | [a], _ => rfl
theorem decR_hash (acc s : List UInt8) (i : Nat) (h : i + 2 < s.length) (hc : s[i] = 35) : decR acc (s.drop i) = if hexN s[i + 1] < 16 ∧ hexN s[i + 2] < 16 then decR (acc ++ [ch ((16 * hexN s[i + 1] + hexN s[i + 2] : Nat) : Int)]) (s.drop (i + 3)) else none := by
 unfold decR
 rw [List.drop_eq_getElem_cons (show i < s.length by omega), decN_cons, if_pos hc, List.drop_eq_getElem_cons (show i + 1 < s.length by omega), List.drop_eq_getElem_cons (show i + 1 + 1 < s.length by omega)]
 simp only
 split
 ·
  rw [Option.map_map]
  congr 1
  funext x
  simp
 ·
  rfl
theorem lib_idx (q : Option Addr) (s : List UInt8) (c : Nat) (x : UInt8) (w : World) (hb : BytesAt w q s) (hl : s.length ≤ 1000000000) :
  Calls Tryz.prog 149 #[.slice q s.length c, .int .u8 (x.toNat : Int)] w fun e w' => (∃ a : Int, e = .returned (.int .i64 a) ∧ (0 ≤ a ↔ x ∈ s)) ∧ w = w' := by
 refine W.enter func149 rfl ntmps149 (Nat.le_of_ble_eq_true rfl) ?_
 refine W.seq <| W.reg <| WL.p (.as rfl) rfl <| WL.nil <| ?_
 refine W.seq <| W.seq <| W.reg <| WL.p (.mv rfl) rfl <| WL.p (.lenS underlying22 rfl) rfl <| WL.p (.mv rfl) rfl <| WL.nil <| ?_
 refine W.block ?_
 refine W.loop (α := Nat) (fun t => [(0, .slice q s.length c), (1, .int .u8 (x.toNat : Int)), (7, .int .i64 (s.length : Int)), (8, .int .i64 (t : Int))]) (fun t w' => w = w' ∧ t ≤ s.length ∧ x ∉ s.take t) (fun t => s.length - t) (0) ⟨rfl, rfl, rfl, rfl, trivial⟩ (⟨rfl, Nat.zero_le _, by simp⟩) (fun t w1 hR => ?_)
 obtain ⟨i, rfl⟩ : ∃ i, i = t := ⟨t, rfl⟩
 obtain ⟨rfl, hi, hno⟩ := hR
 refine W.seq <| W.reg <| WL.p (.lss rfl rfl) rfl <| WL.nil <| ?_
 refine W.seq <| W.cond rfl (fun h1 => ?_) (fun h1 => ?_)
 ·
  have h1' := of_decide_eq_true h1
  refine W.skip <| W.seq <| W.block <| W.seq <| W.reg <| WL.p (.mv rfl) rfl <| WL.p (.as rfl) rfl <| WL.nil <| ?_
  refine W.seq <| W.reg <| WL.p (.mv rfl) rfl <| WL.p (.mv rfl) rfl <| WL.p (.mv rfl) rfl <| WL.p (.ixb underlying22 sizeOf5 rfl rfl (hb.isp (by omega)) (i) (rfl) (by omega)) rfl <| WL.r (Rd.ldc (isAgg5 _) rfl (hb.cells (i) (by omega))) rfl <| WL.p (.eql rfl rfl) rfl <| WL.nil <| ?_
  refine W.cond rfl (fun h2 => ?_) (fun h2 => ?_)
  ·
   have h2' := of_decide_eq_true h2
   refine W.seq <| W.reg <| WL.p (.mv rfl) rfl <| WL.p (.as rfl) rfl <| WL.nil <| ?_
   refine W.ret (W.ret1 rfl rfl ?_)
   exact ⟨⟨_, rfl, fun _ => by rw [show x = s[i]'(by omega) from u8_eq (by assumption)]; exact List.getElem_mem _, fun _ => by omega⟩, rfl⟩
  have h2' := of_decide_eq_false h2
  refine W.skip <| W.reg <| WL.p (.iis (((i + 1 : Nat) : Int)) (.add rfl rfl (i64w (by omega))) (by omega)) rfl <| WL.p (.mv rfl) rfl <| WL.nil <| ?_
  exact ⟨i + 1, ⟨rfl, rfl, rfl, rfl, trivial⟩, ⟨rfl, by ((try simp only) <;> omega), by
   rw [List.take_add_one, List.getElem?_eq_getElem (by omega), Option.toList_some, List.mem_append, List.mem_singleton]
   exact fun h => h.elim hno (u8_ne (by assumption))⟩, by ((try simp only) <;> omega)⟩
 have h1' := of_decide_eq_false h1
 refine W.exit <| W.seq <| W.reg <| WL.p (.as rfl) rfl <| WL.nil <| ?_
 refine W.ret (W.ret1 rfl rfl ?_)
 exact ⟨⟨_, rfl, fun h => absurd h (by decide), fun h => by rw [show s.take i = s from List.take_of_length_le (by omega)] at hno; exact absurd h hno⟩, rfl⟩
theorem lib_has (q : Option Addr) (s : List UInt8) (c : Nat) (x : UInt8) (w : World) (hb : BytesAt w q s) (hl : s.length ≤ 1000000000) :
  Calls Tryz.prog 105 #[.slice q s.length c, .int .u8 (x.toNat : Int)] w fun e w' => e = .returned (.bool (decide (x ∈ s))) ∧ w = w' := by
 have hI : ∀ w1, BytesAt w1 q s → Calls Tryz.prog 149 #[.slice q s.length c, .int .u8 (x.toNat : Int)] w1 fun e w' => ∃ a : { a : Int // 0 ≤ a ↔ x ∈ s }, e = .returned (.int .i64 a.1) ∧ w1 = w' := fun w1 h1 =>
  (lib_idx q s c x w1 h1 hl).mono fun e w' ⟨⟨a, h2, h3⟩, h4⟩ => ⟨⟨a, h3⟩, h2, h4⟩
 refine W.enter func105 rfl ntmps105 (Nat.le_of_ble_eq_true rfl) ?_
 refine W.seq <| W.reg <| WL.p (.as rfl) rfl <| WL.nil <| ?_
 refine W.seq <| W.reg <| WL.p (.mv rfl) rfl <| WL.p (.mv rfl) rfl <| WL.call hb149 rfl rfl ((hI _ hb)) (fun a w1 hw1 => ?_)
 obtain rfl := hw1
 refine WL.p (.geq rfl rfl) rfl <| WL.p (.as rfl) rfl <| WL.nil <| ?_
 refine W.ret (W.ret1 rfl rfl ?_)
 exact ⟨ret_bool (decide_eq_decide.2 a.2), rfl⟩
theorem plex_name (r : Nat) (p : Option Addr) (l : List UInt8) (c t : Nat) (refs : Bool) (w : World) (h : PRd w r p l c t refs) (hne : 0 < l.length → (pA p).block ≠ r) (hc : l.length ≤ c) (hl : l.length ≤ 100000000) (ht : t ≤ l.length) :
  Calls Tryz.prog 67 #[.pointer (some ⟨r, 0, none⟩)] w (Ends 35 (nameP l t) (fun a => .string (bs a.1)) (fun a w' => PRd w' r p l c a.2 refs ∧ Touch w.heap.size r w w') (fun w' => Touch w.heap.size r w w')) := by
 have hr := h.1
 have hb := h.2
 obtain ⟨X, hX⟩ : ∃ X, X = nameP l t := ⟨_, rfl⟩
 rw [← hX]
 unfold nameP at hX
 have hwt := wordAt_le l t ht
 have hsl := wordL_len l t
 have hWq : ∀ w1, BytesAt w1 p l → ∀ m, Calls Tryz.prog 11 #[.slice p l.length c, .int .i64 (t : Int)] (w1.drewN m) fun e w' => e = .returned (.tuple #[.string (bs (wordL l t)), .int .i64 (wordAt l t : Int)]) ∧ ∃ k, w' = w1.drewN k := fun w1 h1 m => word_q p l c t w1 h1 hc ht hl m
 generalize wordL l t = s at hX hsl hWq
 generalize wordAt l t = t1 at hX hwt hWq
 obtain ⟨D, hD⟩ : ∃ D, D = decN s := ⟨_, rfl⟩
 rw [← hD] at hX
 refine W.enter func67 rfl ntmps67 (Nat.le_of_ble_eq_true rfl) ?_
 have hB0 := Touch.refl (w.heap.size) r w
 refine W.seq <| W.reg <| WL.p (.as rfl) rfl <| WL.nil <| ?_
 refine W.seq ?_
 have hrB : r < w.heap.size := hr.lt
 have hbl : 0 < l.length → (pA p).block < w.heap.size := fun h0 => hb.lt h0
 refine W.regQ mixed (by kernel_rfl) ?_
 refine WQ.p (.mv rfl) rfl <| WQ.p (.nck rfl) rfl <| WQ.p (.fa underlying63 rfl sizeOf22 (by decide) rfl) rfl <| WQ.r (fun m => Rd.ld (isAgg22 _) rfl hr rfl) rfl <| WQ.p (.mv rfl) rfl <| WQ.p (.nck rfl) rfl <| WQ.p (.fa underlying63 rfl sizeOf3 (by decide) rfl) rfl <| WQ.r (fun m => Rd.ld (isAgg3 _) rfl hr rfl) rfl <| WQ.c1 hb11 rfl rfl (fun m => (hWq _ hb m)) <| WQ.p (.mv rfl) rfl <| WQ.p (.ext rfl rfl) rfl <| WQ.p (.ext rfl rfl) rfl <| WQ.p (.as rfl) rfl <| WQ.p (.as rfl) rfl <| WQ.nil (fun w1 dw1 => ?_)
 have hk2 := hr.drew dw1
 have hv3 := hb.drew dw1
 have hB4 := Touch.trans hB0 (Touch.of_drew dw1)
 refine W.seq <| W.reg <| WL.p (.mv rfl) rfl <| WL.p (.mv rfl) rfl <| WL.p (.nck rfl) rfl <| WL.p (.fa underlying63 rfl sizeOf3 (by decide) rfl) rfl <| WL.st sizeOf3 rfl rfl rfl hk2 (by first | decide | exact Nat.le_of_ble_eq_true rfl) (fun w5 hkw5 huw5 hsw5 => ?_)
 have hkw5 : Blk w5 r _ _ := hkw5
 have huw5 : Upd r _ _ := huw5
 have hv6 := BytesAt.upd hv3 huw5 hne
 have hB7 := Touch.trans hB4 (Touch.of_upd huw5)
 refine WL.nil <| ?_
 refine W.seq <| W.reg <| WL.p (.as rfl) rfl <| WL.nil <| ?_
 refine W.seq <| W.seq <| W.reg <| WL.p (.as rfl) rfl <| WL.nil <| ?_
 refine W.block ?_
 refine W.loop (α := Value × List UInt8 × Nat) (fun t => [(0, .pointer (some ⟨r, 0, none⟩)), (3, .string (bs s)), (5, t.1), (6, .int .i64 (t.2.2 : Int))]) (fun t w' => PRd w' r p l c t1 refs ∧ Touch w.heap.size r w w' ∧ Own 5 w.heap.size w' t.1 (byteVals t.2.1) ∧ decR t.2.1 (s.drop t.2.2) = D ∧ t.2.1.length ≤ t.2.2 ∧ t.2.2 ≤ s.length) (fun t => s.length - t.2.2) ((.slice none 0 0, [], 0)) ⟨rfl, rfl, rfl, rfl, trivial⟩ (⟨⟨hkw5, hv6⟩, hB7, Own.nil _ _ _, by rw [hD, List.drop_zero]; simp [decR], Nat.zero_le _, Nat.zero_le _⟩) (fun t w1 hR => ?_)
 obtain ⟨v, o, i⟩ := t
 obtain ⟨hrd, hT, hown, hw, hol, hi⟩ := hR
 simp only at hrd hT hown hw hol hi ⊢
 refine W.seq <| W.seq <| W.reg <| WL.p (.mv rfl) rfl <| WL.p (.mv rfl) rfl <| WL.p (.len underlying9 rfl) rfl <| WL.p (.lss rfl rfl) rfl <| WL.nil <| ?_
 refine W.cond rfl (fun h8 => ?_) (fun h8 => ?_)
 ·
  have h8' := of_decide_eq_true h8
  refine W.skip <| W.seq <| W.block <| W.seq <| W.reg <| WL.p (.mv rfl) rfl <| WL.p (.mv rfl) rfl <| WL.p (.ix underlying9 rfl rfl (i) (rfl) (by omega)) rfl <| WL.p (.as rfl) rfl <| WL.nil <| ?_
  refine W.seq <| W.seq <| W.reg <| WL.p (.mv rfl) rfl <| WL.p (.eql rfl rfl) rfl <| WL.nil <| ?_
  refine W.cond rfl (fun h9 => ?_) (fun h9 => ?_)
  ·
   have h9' := of_decide_eq_true h9
   have h35 : s[i]'(by omega) = 35 := u8_eq (by assumption)
   refine W.seq <| W.seq <| W.reg <| WL.p (.mv rfl) rfl <| WL.p (.add rfl rfl (i64w (by omega))) rfl <| WL.p (.mv rfl) rfl <| WL.p (.len underlying9 rfl) rfl <| WL.p (.geq rfl rfl) rfl <| WL.p (.mv rfl) rfl <| WL.gd rfl rfl rfl (fun g10 => ?_) (fun g10 => ?_)
   ·
    have g10' := of_decide_eq_false g10
    refine WL.p (.mv rfl) rfl <| WL.gy rfl rfl rfl g10 <| WL.p (.mv rfl) rfl <| WL.gy rfl rfl rfl g10 <| WL.p (.iis (((i + 1 : Nat) : Int)) (.add rfl rfl (i64w (by omega))) (by omega)) rfl <| WL.gy rfl rfl rfl g10 <| WL.p (.ix underlying9 rfl rfl (i + 1) (rfl) (by omega)) rfl <| WL.gy rfl rfl rfl g10 <| WL.c1 hb104 rfl rfl ((plex_digit _ _)) (fun w11 hw11 => ?_)
    obtain rfl := hw11
    have hd1 := digI_cases (s[i + 1]'(by omega))
    refine WL.gy rfl rfl rfl g10 <| WL.p (.lss rfl rfl) rfl <| WL.p (.pkF rfl g10 rfl) rfl <| WL.p (.mv rfl) rfl <| WL.gd rfl rfl rfl (fun g12 => ?_) (fun g12 => ?_)
    ·
     have g12' := of_decide_eq_false g12
     refine WL.p (.mv rfl) rfl <| WL.gy rfl rfl rfl g12 <| WL.p (.mv rfl) rfl <| WL.gy rfl rfl rfl g12 <| WL.p (.iis (((i + 2 : Nat) : Int)) (.add rfl rfl (i64w (by omega))) (by omega)) rfl <| WL.gy rfl rfl rfl g12 <| WL.p (.ix underlying9 rfl rfl (i + 2) (rfl) (by omega)) rfl <| WL.gy rfl rfl rfl g12 <| WL.c1 hb104 rfl rfl ((plex_digit _ _)) (fun w13 hw13 => ?_)
     obtain rfl := hw13
     have hd2 := digI_cases (s[i + 2]'(by omega))
     refine WL.gy rfl rfl rfl g12 <| WL.p (.lss rfl rfl) rfl <| WL.p (.pkF rfl g12 rfl) rfl <| WL.nil <| ?_
     refine W.cond rfl (fun h14 => ?_) (fun h14 => ?_)
     ·
      have h14' := of_decide_eq_true h14
      refine W.reg <| WL.cp hb68 rfl ((plex_fail 23 _)) (fun w15 hw15 => ?_)
      obtain rfl := hw15
      exact pn_is (Ends.err 23 (by rw [hX, ← hw, decR_hash _ _ _ (by omega) h35, if_neg (by omega)]) hT)
     have h14' := of_decide_eq_false h14
     refine W.skip <| W.seq <| W.regQ mixed (by kernel_rfl) ?_
     refine WQ.p (.mv rfl) rfl <| WQ.p (.mv rfl) rfl <| WQ.p (.iis (((i + 1 : Nat) : Int)) (.add rfl rfl (i64w (by omega))) (by omega)) rfl <| WQ.p (.ix underlying9 rfl rfl (i + 1) (rfl) (by omega)) rfl <| WQ.c1 hb104 rfl rfl (fun m => (digit_q (s[i + 1]'(by omega)) _ m)) <| WQ.p (.iis (((hexN (s[i + 1]'(by omega)) : Nat) : Int) * 16) (.shl4 rfl _ (i64w (by omega))) (by omega)) rfl <| WQ.p (.mv rfl) rfl <| WQ.p (.mv rfl) rfl <| WQ.p (.iis (((i + 2 : Nat) : Int)) (.add rfl rfl (i64w (by omega))) (by omega)) rfl <| WQ.p (.ix underlying9 rfl rfl (i + 2) (rfl) (by omega)) rfl <| WQ.c1 hb104 rfl rfl (fun m => (digit_q (s[i + 2]'(by omega)) _ m)) <| WQ.p (.or rfl rfl (show bits .or .i64 (((hexN (s[i + 1]'(by omega)) : Nat) : Int) * 16) (digI (s[i + 2]'(by omega))) = ((hexN (s[i + 1]'(by omega)) : Nat) : Int) * 16 + ((hexN (s[i + 2]'(by omega)) : Nat) : Int) by rw [(hd2.resolve_left (fun h => by have := h.1; omega)).1]; exact or_16 _ _ (by omega) (by omega))) rfl <| WQ.p (.cvt underlying3 underlying5 rfl (u8w (by omega))) rfl <| WQ.p (.as rfl) rfl <| WQ.nil (fun w16 dw16 => ?_)
     have ho17 := Own.drew hown dw16
     have hk18 := hrd.1.drew dw16
     have hv19 := hrd.2.drew dw16
     have hB20 := Touch.trans hT (Touch.of_drew dw16)
     refine W.reg <| WL.p (.mv rfl) rfl <| WL.p (.add rfl rfl (i64w (by omega))) rfl <| WL.p (.as rfl) rfl <| WL.nil <| ?_
     refine W.reg <| WL.p (.mv rfl) rfl <| WL.p (.mv rfl) rfl <| WL.bsl (ps := _) underlying22 sizeOf5 zeroValue5 rfl rfl rfl rfl rfl (by simp only [put1, List.map, List.zip, List.zipWith, List.set, List.replicate] <;> rfl) rfl (fun b21 wb21 eb21 hkb21 hub21 hsb21 => ?_)
     have ho22 := Own.new ho17 eb21 hub21
     have hl24 : r < b21 := by rw [eb21]; exact hk18.lt
     have hk23 := hk18.upd hub21 (Nat.ne_of_lt hl24)
     have hvl26 := fun h0 => eb21 ▸ hv19.lt h0
     have hv25 := BytesAt.upd hv19 hub21 (fun h0 => Nat.ne_of_lt (hvl26 h0))
     have hgeb21 : w.heap.size ≤ b21 := by rw [eb21]; exact hB20.size
     have hB27 := Touch.trans hB20 (Touch.of_new hub21 hgeb21)
     refine WL.appm underlying22 inf5 rfl rfl rfl ho22 rfl hkb21 rfl (by rw [byteVals_len]; omega) (hB27.size) rfl (fun v28 w29 how29 hbw29 hgw29 => ?_)
     have hk30 := hk23.below hbw29 (by omega)
     have hv31 := BytesAt.below hv25 hbw29 hbl
     have hB32 := Touch.trans hB27 (Touch.of_below (hbw29.mono (Nat.le_refl _)))
     have ho33 := Own.snoc how29 (ch ((16 * hexN (s[i + 1]'(by omega)) + hexN (s[i + 2]'(by omega)) : Nat) : Int)) (by rw [ch_val _ (by omega) (by omega)]; omega)
     refine WL.p (.as rfl) rfl <| WL.nil <| ?_
     refine W.reg <| WL.p (.mv rfl) rfl <| WL.p (.add rfl rfl (i64w (by omega))) rfl <| WL.p (.as rfl) rfl <| WL.nil <| ?_
     exact ⟨(_, o ++ [_], i + 3), ⟨rfl, rfl, rfl, lk_i rfl (by ((try simp only) <;> omega)), trivial⟩, ⟨⟨hk30, hv31⟩, hB32, ho33, by rw [← hw, decR_hash _ _ _ (by omega) h35, if_pos (by omega)], by simp only [List.length_append, List.length_cons, List.length_nil]; omega, by ((try simp only) <;> omega)⟩, by ((try simp only) <;> omega)⟩
    have g12' := of_decide_eq_true g12
    refine WL.gn rfl rfl rfl g12 <| WL.gn rfl rfl rfl g12 <| WL.gn rfl rfl rfl g12 <| WL.gn rfl rfl rfl g12 <| WL.gn rfl rfl rfl g12 <| WL.p (.pkT rfl g12 rfl) rfl <| WL.nil <| ?_
    refine W.condT rfl rfl ?_
    refine W.reg <| WL.cp hb68 rfl ((plex_fail 23 _)) (fun w34 hw34 => ?_)
    obtain rfl := hw34
    exact pn_is (Ends.err 23 (by rw [hX, ← hw, decR_hash _ _ _ (by omega) h35, if_neg (by omega)]) hT)
   have g10' := of_decide_eq_true g10
   refine WL.gn rfl rfl rfl g10 <| WL.gn rfl rfl rfl g10 <| WL.gn rfl rfl rfl g10 <| WL.gn rfl rfl rfl g10 <| WL.gn rfl rfl rfl g10 <| WL.p (.pkT rfl g10 rfl) rfl <| WL.p (.mv rfl) rfl <| WL.gn rfl rfl rfl rfl <| WL.gn rfl rfl rfl rfl <| WL.gn rfl rfl rfl rfl <| WL.gn rfl rfl rfl rfl <| WL.gn rfl rfl rfl rfl <| WL.gn rfl rfl rfl rfl <| WL.p (.pkT rfl rfl rfl) rfl <| WL.nil <| ?_
   refine W.condT rfl rfl ?_
   refine W.reg <| WL.cp hb68 rfl ((plex_fail 23 _)) (fun w35 hw35 => ?_)
   obtain rfl := hw35
   exact pn_is (Ends.err 23 (by rw [hX, ← hw, decR_short _ _ _ (by omega) h35 (by omega)]) hT)
  have h9' := of_decide_eq_false h9
  have h35 : s[i]'(by omega) ≠ 35 := u8_ne (d := 35) (by assumption)
  refine W.skip <| W.reg <| WL.p (.mv rfl) rfl <| WL.p (.mv rfl) rfl <| WL.bsl (ps := _) underlying22 sizeOf5 zeroValue5 rfl rfl rfl rfl rfl (by simp only [put1, List.map, List.zip, List.zipWith, List.set, List.replicate] <;> rfl) rfl (fun b36 wb36 eb36 hkb36 hub36 hsb36 => ?_)
  have ho37 := Own.new hown eb36 hub36
  have hl39 : r < b36 := by rw [eb36]; exact hrd.1.lt
  have hk38 := hrd.1.upd hub36 (Nat.ne_of_lt hl39)
  have hvl41 := fun h0 => eb36 ▸ hrd.2.lt h0
  have hv40 := BytesAt.upd hrd.2 hub36 (fun h0 => Nat.ne_of_lt (hvl41 h0))
  have hgeb36 : w.heap.size ≤ b36 := by rw [eb36]; exact hT.size
  have hB42 := Touch.trans hT (Touch.of_new hub36 hgeb36)
  refine WL.appm underlying22 inf5 rfl rfl rfl ho37 rfl hkb36 rfl (by rw [byteVals_len]; omega) (hB42.size) rfl (fun v43 w44 how44 hbw44 hgw44 => ?_)
  have hk45 := hk38.below hbw44 (by omega)
  have hv46 := BytesAt.below hv40 hbw44 hbl
  have hB47 := Touch.trans hB42 (Touch.of_below (hbw44.mono (Nat.le_refl _)))
  have ho48 := Own.snoc how44 (s[i]'(by omega)) (rfl)
  refine WL.p (.as rfl) rfl <| WL.nil <| ?_
  refine W.reg <| WL.p (.mv rfl) rfl <| WL.p (.add rfl rfl (i64w (by omega))) rfl <| WL.p (.as rfl) rfl <| WL.nil <| ?_
  exact ⟨(_, o ++ [_], i + 1), ⟨rfl, rfl, rfl, lk_i rfl (by ((try simp only) <;> omega)), trivial⟩, ⟨⟨hk45, hv46⟩, hB47, ho48, by rw [← hw, decR_plain _ _ _ (by omega) h35], by simp only [List.length_append, List.length_cons, List.length_nil]; omega, by ((try simp only) <;> omega)⟩, by ((try simp only) <;> omega)⟩
 have h8' := of_decide_eq_false h8
 refine W.exit <| W.seq <| W.block <| W.seq ?_
 obtain ⟨q, cq, rfl, hqb, hqB⟩ := Own.bytes hown
 have hDo : D = some o := by rw [← hw, show i = s.length by omega, List.drop_length, decR_nil]
 refine W.reg <| WL.p (.mv rfl) rfl <| WL.p (.lenS underlying22 rfl) rfl <| WL.p (.eql rfl rfl) rfl <| WL.p (.mv rfl) rfl <| WL.gd rfl rfl rfl (fun g49 => ?_) (fun g49 => ?_)
 ·
  have g49' := of_decide_eq_false g49
  refine WL.p (.mv rfl) rfl <| WL.gy rfl rfl rfl g49 <| WL.c1 hb105 rfl rfl ((lib_has q o cq 0 _ hqb (by omega))) (fun w50 hw50 => ?_)
  obtain rfl := hw50
  refine WL.p (.pkF rfl g49 rfl) rfl <| WL.p (.as rfl) rfl <| WL.nil <| ?_
  refine W.cond rfl (fun h51 => ?_) (fun h51 => ?_)
  ·
   skip
   refine W.reg <| WL.cp hb68 rfl ((plex_fail 23 _)) (fun w52 hw52 => ?_)
   obtain rfl := hw52
   exact pn_is (Ends.err 23 (by rw [hX, hDo]; simp only []; rw [if_pos (.inr (of_decide_eq_true (by assumption)))]) hT)
  refine W.seq ?_
  have hno : ¬ (o = [] ∨ 0 ∈ o) := fun h => h.elim (fun h => by rw [h] at *; simp_all) (fun h => by simp_all)
  refine W.reg <| WL.p (.mv rfl) rfl <| WL.p (.lenS underlying22 rfl) rfl <| WL.p (.gtr rfl rfl) rfl <| WL.p (.as rfl) rfl <| WL.nil <| ?_
  refine W.cond rfl (fun h53 => ?_) (fun h53 => ?_)
  ·
   have h53' := of_decide_eq_true h53
   refine W.reg <| WL.cp hb68 rfl ((plex_fail 25 _)) (fun w54 hw54 => ?_)
   obtain rfl := hw54
   exact pn_is (Ends.err 25 (by rw [hX, hDo]; simp only []; rw [if_neg hno, if_pos (by omega)]) hT)
  have h53' := of_decide_eq_false h53
  refine W.skip <| W.seq <| W.reg <| WL.p (.mv rfl) rfl <| WL.r (Rd.b2s (l := o) underlying22 underlying5 underlying9 rfl (hqb)) rfl <| WL.p (.as rfl) rfl <| WL.nil <| ?_
  refine W.ret (W.ret1 rfl rfl ?_)
  exact Ends.ok (o, t1) (by rw [hX, hDo]; simp only []; rw [if_neg hno, if_neg (by omega)]) rfl ⟨⟨hrd.1, hrd.2⟩, hT⟩
 have g49' := of_decide_eq_true g49
 refine WL.gn rfl rfl rfl g49 <| WL.p (.pkT rfl g49 rfl) rfl <| WL.p (.as rfl) rfl <| WL.nil <| ?_
 refine W.condT rfl rfl ?_
 refine W.reg <| WL.cp hb68 rfl ((plex_fail 23 _)) (fun w55 hw55 => ?_)
 obtain rfl := hw55
 exact pn_is (Ends.err 23 (by rw [hX, hDo]; simp only []; rw [if_pos (.inl (List.length_eq_zero_iff.1 (by omega)))]) hT)
end Go.Proofs.YtjghbcjnplcleaaGreatDoor

namespace Go.Proofs.YtjghbcjnplcleaaGreatDoor
open Go.Proofs.Tryz
open Go.RowKit
theorem all_step (l : List UInt8) (i : Nat) (h : i < l.length) : (l.drop i).all pOpen = (pOpen l[i] && (l.drop (i + 1)).all pOpen) := by
 rw [List.drop_eq_getElem_cons h, List.all_cons]
theorem pOpen_no {c : UInt8} (h : c = 62 ∨ (blankB c = false ∧ digI c < 0)) : pOpen c = false := by
 rcases h with rfl | ⟨h1, h2⟩
 ·
  rfl
 ·
  unfold pOpen
  rcases digI_cases c with h3 | h3
  ·
   rw [h1, decide_eq_false (by omega)]; simp
  ·
   omega
theorem pOpen_yes {c : UInt8} (h : c ≠ 62) (h2 : blankB c = true ∨ ¬ digI c < 0) : pOpen c = true := by
 unfold pOpen
 rw [bne_iff_ne.2 h, Bool.true_and]
 rcases h2 with h2 | h2
 ·
  rw [h2]; rfl
 ·
  rcases digI_cases c with h3 | h3
  ·
   omega
  ·
   rw [decide_eq_true h3.2]; simp
theorem plex_open (r : Nat) (p : Option Addr) (l : List UInt8) (c t : Nat) (refs : Bool) (w : World) (h : PRd w r p l c t refs) (hl : l.length ≤ 100000000) (ht : t < l.length) :
  Calls Tryz.prog 108 #[.pointer (some ⟨r, 0, none⟩)] w fun e w' => e = .returned (.bool (openB l t)) ∧ Below w.heap.size w w' := by
 have hr := h.1
 have hb := h.2
 have hg : l[t]? = some l[t] := List.getElem?_eq_getElem ht
 refine W.enter func108 rfl ntmps108 (Nat.le_of_ble_eq_true rfl) ?_
 have hB0 := Below.refl (w.heap.size) w
 refine W.seq <| W.reg <| WL.p (.as rfl) rfl <| WL.nil <| ?_
 refine W.seq <| W.reg <| WL.p (.as rfl) rfl <| WL.nil <| ?_
 refine W.seq <| W.seq <| W.regQ mixed (by kernel_rfl) ?_
 refine WQ.p (.mv rfl) rfl <| WQ.p (.nck rfl) rfl <| WQ.p (.fa underlying63 rfl sizeOf22 (by decide) rfl) rfl <| WQ.r (fun m => Rd.ld (isAgg22 _) rfl hr rfl) rfl <| WQ.p (.mv rfl) rfl <| WQ.p (.nck rfl) rfl <| WQ.p (.fa underlying63 rfl sizeOf3 (by decide) rfl) rfl <| WQ.r (fun m => Rd.ld (isAgg3 _) rfl hr rfl) rfl <| WQ.p (.ixb underlying22 sizeOf5 rfl rfl (hb.isp (by omega)) (t) (rfl) (ht)) rfl <| WQ.r (fun m => Rd.ldc (isAgg5 _) rfl ((hb.drewN m).cells (t) (by omega))) rfl <| WQ.p (.eql rfl rfl) rfl <| WQ.nil (fun w1 dw1 => ?_)
 have hk2 := hr.drew dw1
 have hv3 := hb.drew dw1
 have hB4 := Drew.below hB0 dw1
 refine W.cond rfl (fun h5 => ?_) (fun h5 => ?_)
 ·
  have h5' := of_decide_eq_true h5
  refine W.reg <| WL.p (.as rfl) rfl <| WL.nil <| ?_
  refine W.seq <| W.seq <| W.reg <| WL.p (.mv rfl) rfl <| WL.p (.nck rfl) rfl <| WL.p (.fa underlying63 rfl sizeOf3 (by decide) rfl) rfl <| WL.r (Rd.ld (isAgg3 _) rfl hk2 rfl) rfl <| WL.p (.iis (((t + 1 : Nat) : Int)) (.add rfl rfl (i64w (by omega))) (by omega)) rfl <| WL.p (.as rfl) rfl <| WL.nil <| ?_
  refine W.block ?_
  obtain ⟨T0, hT0⟩ : ∃ T0, T0 = t := ⟨t, rfl⟩
  subst hT0
  refine W.loop (α := Nat × Int) (fun t => [(0, .pointer (some ⟨r, 0, none⟩)), (3, .int .u8 t.2), (4, .int .i64 (t.1 : Int))]) (fun t w' => Below w.heap.size w w' ∧ PRd w' r p l c T0 refs ∧ T0 + 1 ≤ t.1 ∧ t.1 ≤ l.length ∧ ((t.2 = 62 ∧ l[T0]? = some 60 ∧ (l.drop (T0 + 1)).all pOpen = (l.drop t.1).all pOpen) ∨ (t.2 = 41 ∧ l[T0]? ≠ some 60))) (fun t => l.length - t.1) ((T0 + 1, _)) ⟨rfl, rfl, rfl, trivial⟩ (⟨hB4, ⟨hk2, hv3⟩, Nat.le_refl _, ht, by first | exact .inl ⟨rfl, by rw [hg, show l[T0] = 60 from u8_eq (by assumption)], rfl⟩ | exact .inr ⟨rfl, by rw [hg]; exact fun h => absurd (Option.some.inj h) (u8_ne (d := 60) (by assumption))⟩⟩) (fun t w1 hR => ?_)
  obtain ⟨i, z⟩ := t
  obtain ⟨hT, hrd, hi0, hi, hz⟩ := hR
  simp only at hi0 hi hz ⊢
  refine W.seq ?_
  refine W.cutB 32 (decide (i < l.length ∧ z = 62)) ?_ ?_
  ·
   skip
   refine W.reg <| WL.p (.mv rfl) rfl <| WL.p (.mv rfl) rfl <| WL.p (.nck rfl) rfl <| WL.p (.fa underlying63 rfl sizeOf22 (by decide) rfl) rfl <| WL.r (Rd.ld (isAgg22 _) rfl hrd.1 rfl) rfl <| WL.p (.lenS underlying22 rfl) rfl <| WL.p (.lss rfl rfl) rfl <| WL.p (.mv rfl) rfl <| WL.gd rfl rfl rfl (fun g6 => ?_) (fun g6 => ?_)
   ·
    have g6' := of_decide_eq_true g6
    refine WL.p (.mv rfl) rfl <| WL.gy rfl rfl rfl g6 <| WL.p (.eql rfl rfl) rfl <| WL.p (.pkT rfl g6 rfl) rfl <| WL.nil <| ?_
    exact ⟨⟨lk_b rfl (by (apply Bool.eq_iff_iff.2; (try simp) <;> omega)), by repeat (first | exact Le.refl _ | refine Le.cons rfl ?_)⟩, rfl⟩
   have g6' := of_decide_eq_false g6
   refine WL.gn rfl rfl rfl g6 <| WL.p (.pkF rfl g6 rfl) rfl <| WL.nil <| ?_
   exact ⟨⟨lk_b rfl (by (apply Bool.eq_iff_iff.2; (try simp) <;> omega)), by repeat (first | exact Le.refl _ | refine Le.cons rfl ?_)⟩, rfl⟩
  refine W.cond rfl (fun h7 => ?_) (fun h7 => ?_)
  ·
   have h7' := of_decide_eq_true h7
   have hz2 : l[T0]? = some 60 ∧ (l.drop (T0 + 1)).all pOpen = (l.drop i).all pOpen := by rcases hz with h | h; exact h.2; omega
   have hst := all_step l i (by omega)
   refine W.skip <| W.seq <| W.block <| W.seq <| W.reg <| WL.p (.mv rfl) rfl <| WL.p (.nck rfl) rfl <| WL.p (.fa underlying63 rfl sizeOf22 (by decide) rfl) rfl <| WL.r (Rd.ld (isAgg22 _) rfl hrd.1 rfl) rfl <| WL.p (.mv rfl) rfl <| WL.p (.ixb underlying22 sizeOf5 rfl rfl (hrd.2.isp (by omega)) (i) (rfl) (by omega)) rfl <| WL.r (Rd.ldc (isAgg5 _) rfl (hrd.2.cells (i) (by omega))) rfl <| WL.p (.as rfl) rfl <| WL.nil <| ?_
   refine W.seq <| W.reg <| WL.p (.mv rfl) rfl <| WL.p (.eql rfl rfl) rfl <| WL.p (.mv rfl) rfl <| WL.gd rfl rfl rfl (fun g8 => ?_) (fun g8 => ?_)
   ·
    have g8' := of_decide_eq_false g8
    refine WL.p (.mv rfl) rfl <| WL.gy rfl rfl rfl g8 <| WL.c1 hb34 rfl rfl ((plex_blank _ _)) (fun w9 hw9 => ?_)
    obtain rfl := hw9
    refine WL.gy rfl rfl rfl g8 <| WL.p (.not rfl) rfl <| WL.gy rfl rfl rfl g8 <| WL.p (.mv rfl) rfl <| WL.gd rfl rfl rfl (fun g10 => ?_) (fun g10 => ?_)
    ·
     have g10' := (nT g10)
     refine WL.p (.mv rfl) rfl <| WL.gy rfl rfl rfl (by rw [(nT g10)] <;> rfl) <| WL.c1 hb104 rfl rfl ((plex_digit _ _)) (fun w11 hw11 => ?_)
     obtain rfl := hw11
     refine WL.gy rfl rfl rfl (by rw [(nT g10)] <;> rfl) <| WL.p (.lss rfl rfl) rfl <| WL.gy rfl rfl rfl g8 <| WL.p (.pkT rfl (by rw [(nT g10)] <;> rfl) rfl) rfl <| WL.p (.pkF rfl g8 rfl) rfl <| WL.nil <| ?_
     refine W.cond rfl (fun h12 => ?_) (fun h12 => ?_)
     ·
      have h12' := of_decide_eq_true h12
      refine W.seq <| W.reg <| WL.p (.as rfl) rfl <| WL.nil <| ?_
      refine W.ret (W.ret1 rfl rfl ?_)
      exact ⟨ret_bool (by unfold openB; rw [if_pos hz2.1, hz2.2, hst, pOpen_no (.inr ⟨by assumption, by assumption⟩)]; rfl), hT⟩
     have h12' := of_decide_eq_false h12
     refine W.skip <| W.reg <| WL.p (.mv rfl) rfl <| WL.p (.iis (((i + 1 : Nat) : Int)) (.add rfl rfl (i64w (by omega))) (by omega)) rfl <| WL.p (.as rfl) rfl <| WL.nil <| ?_
     exact ⟨(i + 1, z), ⟨rfl, rfl, rfl, trivial⟩, ⟨hT, ⟨hrd.1, hrd.2⟩, by ((try simp only) <;> omega), by ((try simp only) <;> omega), .inl ⟨by omega, hz2.1, by rw [hz2.2, hst, pOpen_yes (u8_ne (d := 62) (by assumption)) (.inr (by assumption)), Bool.true_and]⟩⟩, by ((try simp only) <;> omega)⟩
    have g10' := (nF g10)
    refine WL.gn rfl rfl rfl (by rw [(nF g10)] <;> rfl) <| WL.gn rfl rfl rfl (by rw [(nF g10)] <;> rfl) <| WL.gy rfl rfl rfl g8 <| WL.p (.pkF rfl (by rw [(nF g10)] <;> rfl) rfl) rfl <| WL.p (.pkF rfl g8 rfl) rfl <| WL.nil <| ?_
    refine W.condF rfl rfl ?_
    refine W.skip <| W.reg <| WL.p (.mv rfl) rfl <| WL.p (.iis (((i + 1 : Nat) : Int)) (.add rfl rfl (i64w (by omega))) (by omega)) rfl <| WL.p (.as rfl) rfl <| WL.nil <| ?_
    exact ⟨(i + 1, z), ⟨rfl, rfl, rfl, trivial⟩, ⟨hT, ⟨hrd.1, hrd.2⟩, by ((try simp only) <;> omega), by ((try simp only) <;> omega), .inl ⟨by omega, hz2.1, by rw [hz2.2, hst, pOpen_yes (u8_ne (d := 62) (by assumption)) (.inl (by assumption)), Bool.true_and]⟩⟩, by ((try simp only) <;> omega)⟩
   have g8' := of_decide_eq_true g8
   refine WL.gn rfl rfl rfl g8 <| WL.gn rfl rfl rfl g8 <| WL.gn rfl rfl rfl g8 <| WL.gu rfl rfl rfl <| WL.gu rfl rfl rfl <| WL.gu rfl rfl rfl <| WL.gn rfl rfl rfl g8 <| WL.p (.pkT rfl g8 rfl) rfl <| WL.nil <| ?_
   refine W.condT rfl rfl ?_
   refine W.seq <| W.reg <| WL.p (.as rfl) rfl <| WL.nil <| ?_
   refine W.ret (W.ret1 rfl rfl ?_)
   exact ⟨ret_bool (by unfold openB; rw [if_pos hz2.1, hz2.2, hst, pOpen_no (.inl (u8_eq (d := 62) (by assumption)))]; rfl), hT⟩
  have h7' := of_decide_eq_false h7
  refine W.exit <| W.seq <| W.reg <| WL.p (.as rfl) rfl <| WL.nil <| ?_
  refine W.ret (W.ret1 rfl rfl ?_)
  exact ⟨ret_bool (by
   unfold openB
   rcases hz with h | h
   ·
    rw [if_pos h.2.1, h.2.2, List.drop_eq_nil_of_le (by omega)]; rfl
   ·
    rw [if_neg h.2]), hT⟩
 have h5' := of_decide_eq_false h5
 refine W.skip <| W.seq <| W.seq <| W.reg <| WL.p (.mv rfl) rfl <| WL.p (.nck rfl) rfl <| WL.p (.fa underlying63 rfl sizeOf3 (by decide) rfl) rfl <| WL.r (Rd.ld (isAgg3 _) rfl hk2 rfl) rfl <| WL.p (.iis (((t + 1 : Nat) : Int)) (.add rfl rfl (i64w (by omega))) (by omega)) rfl <| WL.p (.as rfl) rfl <| WL.nil <| ?_
 refine W.block ?_
 obtain ⟨T0, hT0⟩ : ∃ T0, T0 = t := ⟨t, rfl⟩
 subst hT0
 refine W.loop (α := Nat × Int) (fun t => [(0, .pointer (some ⟨r, 0, none⟩)), (3, .int .u8 t.2), (4, .int .i64 (t.1 : Int))]) (fun t w' => Below w.heap.size w w' ∧ PRd w' r p l c T0 refs ∧ T0 + 1 ≤ t.1 ∧ t.1 ≤ l.length ∧ ((t.2 = 62 ∧ l[T0]? = some 60 ∧ (l.drop (T0 + 1)).all pOpen = (l.drop t.1).all pOpen) ∨ (t.2 = 41 ∧ l[T0]? ≠ some 60))) (fun t => l.length - t.1) ((T0 + 1, _)) ⟨rfl, rfl, rfl, trivial⟩ (⟨hB4, ⟨hk2, hv3⟩, Nat.le_refl _, ht, by first | exact .inl ⟨rfl, by rw [hg, show l[T0] = 60 from u8_eq (by assumption)], rfl⟩ | exact .inr ⟨rfl, by rw [hg]; exact fun h => absurd (Option.some.inj h) (u8_ne (d := 60) (by assumption))⟩⟩) (fun t w1 hR => ?_)
 obtain ⟨i, z⟩ := t
 obtain ⟨hT, hrd, hi0, hi, hz⟩ := hR
 simp only at hi0 hi hz ⊢
 refine W.seq ?_
 refine W.cutB 32 (decide (i < l.length ∧ z = 62)) ?_ ?_
 ·
  skip
  refine W.reg <| WL.p (.mv rfl) rfl <| WL.p (.mv rfl) rfl <| WL.p (.nck rfl) rfl <| WL.p (.fa underlying63 rfl sizeOf22 (by decide) rfl) rfl <| WL.r (Rd.ld (isAgg22 _) rfl hrd.1 rfl) rfl <| WL.p (.lenS underlying22 rfl) rfl <| WL.p (.lss rfl rfl) rfl <| WL.p (.mv rfl) rfl <| WL.gd rfl rfl rfl (fun g13 => ?_) (fun g13 => ?_)
  ·
   have g13' := of_decide_eq_true g13
   refine WL.p (.mv rfl) rfl <| WL.gy rfl rfl rfl g13 <| WL.p (.eql rfl rfl) rfl <| WL.p (.pkT rfl g13 rfl) rfl <| WL.nil <| ?_
   exact ⟨⟨lk_b rfl (by (apply Bool.eq_iff_iff.2; (try simp) <;> omega)), by repeat (first | exact Le.refl _ | refine Le.cons rfl ?_)⟩, rfl⟩
  have g13' := of_decide_eq_false g13
  refine WL.gn rfl rfl rfl g13 <| WL.p (.pkF rfl g13 rfl) rfl <| WL.nil <| ?_
  exact ⟨⟨lk_b rfl (by (apply Bool.eq_iff_iff.2; (try simp) <;> omega)), by repeat (first | exact Le.refl _ | refine Le.cons rfl ?_)⟩, rfl⟩
 refine W.cond rfl (fun h14 => ?_) (fun h14 => ?_)
 ·
  have h14' := of_decide_eq_true h14
  have hz2 : l[T0]? = some 60 ∧ (l.drop (T0 + 1)).all pOpen = (l.drop i).all pOpen := by rcases hz with h | h; exact h.2; omega
  have hst := all_step l i (by omega)
  refine W.skip <| W.seq <| W.block <| W.seq <| W.reg <| WL.p (.mv rfl) rfl <| WL.p (.nck rfl) rfl <| WL.p (.fa underlying63 rfl sizeOf22 (by decide) rfl) rfl <| WL.r (Rd.ld (isAgg22 _) rfl hrd.1 rfl) rfl <| WL.p (.mv rfl) rfl <| WL.p (.ixb underlying22 sizeOf5 rfl rfl (hrd.2.isp (by omega)) (i) (rfl) (by omega)) rfl <| WL.r (Rd.ldc (isAgg5 _) rfl (hrd.2.cells (i) (by omega))) rfl <| WL.p (.as rfl) rfl <| WL.nil <| ?_
  refine W.seq <| W.reg <| WL.p (.mv rfl) rfl <| WL.p (.eql rfl rfl) rfl <| WL.p (.mv rfl) rfl <| WL.gd rfl rfl rfl (fun g15 => ?_) (fun g15 => ?_)
  ·
   have g15' := of_decide_eq_false g15
   refine WL.p (.mv rfl) rfl <| WL.gy rfl rfl rfl g15 <| WL.c1 hb34 rfl rfl ((plex_blank _ _)) (fun w16 hw16 => ?_)
   obtain rfl := hw16
   refine WL.gy rfl rfl rfl g15 <| WL.p (.not rfl) rfl <| WL.gy rfl rfl rfl g15 <| WL.p (.mv rfl) rfl <| WL.gd rfl rfl rfl (fun g17 => ?_) (fun g17 => ?_)
   ·
    have g17' := (nT g17)
    refine WL.p (.mv rfl) rfl <| WL.gy rfl rfl rfl (by rw [(nT g17)] <;> rfl) <| WL.c1 hb104 rfl rfl ((plex_digit _ _)) (fun w18 hw18 => ?_)
    obtain rfl := hw18
    refine WL.gy rfl rfl rfl (by rw [(nT g17)] <;> rfl) <| WL.p (.lss rfl rfl) rfl <| WL.gy rfl rfl rfl g15 <| WL.p (.pkT rfl (by rw [(nT g17)] <;> rfl) rfl) rfl <| WL.p (.pkF rfl g15 rfl) rfl <| WL.nil <| ?_
    refine W.cond rfl (fun h19 => ?_) (fun h19 => ?_)
    ·
     have h19' := of_decide_eq_true h19
     refine W.seq <| W.reg <| WL.p (.as rfl) rfl <| WL.nil <| ?_
     refine W.ret (W.ret1 rfl rfl ?_)
     exact ⟨ret_bool (by unfold openB; rw [if_pos hz2.1, hz2.2, hst, pOpen_no (.inr ⟨by assumption, by assumption⟩)]; rfl), hT⟩
    have h19' := of_decide_eq_false h19
    refine W.skip <| W.reg <| WL.p (.mv rfl) rfl <| WL.p (.iis (((i + 1 : Nat) : Int)) (.add rfl rfl (i64w (by omega))) (by omega)) rfl <| WL.p (.as rfl) rfl <| WL.nil <| ?_
    exact ⟨(i + 1, z), ⟨rfl, rfl, rfl, trivial⟩, ⟨hT, ⟨hrd.1, hrd.2⟩, by ((try simp only) <;> omega), by ((try simp only) <;> omega), .inl ⟨by omega, hz2.1, by rw [hz2.2, hst, pOpen_yes (u8_ne (d := 62) (by assumption)) (.inr (by assumption)), Bool.true_and]⟩⟩, by ((try simp only) <;> omega)⟩
   have g17' := (nF g17)
   refine WL.gn rfl rfl rfl (by rw [(nF g17)] <;> rfl) <| WL.gn rfl rfl rfl (by rw [(nF g17)] <;> rfl) <| WL.gy rfl rfl rfl g15 <| WL.p (.pkF rfl (by rw [(nF g17)] <;> rfl) rfl) rfl <| WL.p (.pkF rfl g15 rfl) rfl <| WL.nil <| ?_
   refine W.condF rfl rfl ?_
   refine W.skip <| W.reg <| WL.p (.mv rfl) rfl <| WL.p (.iis (((i + 1 : Nat) : Int)) (.add rfl rfl (i64w (by omega))) (by omega)) rfl <| WL.p (.as rfl) rfl <| WL.nil <| ?_
   exact ⟨(i + 1, z), ⟨rfl, rfl, rfl, trivial⟩, ⟨hT, ⟨hrd.1, hrd.2⟩, by ((try simp only) <;> omega), by ((try simp only) <;> omega), .inl ⟨by omega, hz2.1, by rw [hz2.2, hst, pOpen_yes (u8_ne (d := 62) (by assumption)) (.inl (by assumption)), Bool.true_and]⟩⟩, by ((try simp only) <;> omega)⟩
  have g15' := of_decide_eq_true g15
  refine WL.gn rfl rfl rfl g15 <| WL.gn rfl rfl rfl g15 <| WL.gn rfl rfl rfl g15 <| WL.gu rfl rfl rfl <| WL.gu rfl rfl rfl <| WL.gu rfl rfl rfl <| WL.gn rfl rfl rfl g15 <| WL.p (.pkT rfl g15 rfl) rfl <| WL.nil <| ?_
  refine W.condT rfl rfl ?_
  refine W.seq <| W.reg <| WL.p (.as rfl) rfl <| WL.nil <| ?_
  refine W.ret (W.ret1 rfl rfl ?_)
  exact ⟨ret_bool (by unfold openB; rw [if_pos hz2.1, hz2.2, hst, pOpen_no (.inl (u8_eq (d := 62) (by assumption)))]; rfl), hT⟩
 have h14' := of_decide_eq_false h14
 refine W.exit <| W.seq <| W.reg <| WL.p (.as rfl) rfl <| WL.nil <| ?_
 refine W.ret (W.ret1 rfl rfl ?_)
 exact ⟨ret_bool (by
  unfold openB
  rcases hz with h | h
  ·
   rw [if_pos h.2.1, h.2.2, List.drop_eq_nil_of_le (by omega)]; rfl
  ·
   rw [if_neg h.2]), hT⟩
theorem plex_text (r : Nat) (p : Option Addr) (l : List UInt8) (c t : Nat) (refs : Bool) (w : World) (h : PRd w r p l c t refs) (hne : 0 < l.length → (pA p).block ≠ r) (hc : l.length ≤ c) (hl : l.length ≤ 100000000) (ht : t < l.length) :
  Calls Tryz.prog 70 #[.pointer (some ⟨r, 0, none⟩)] w (Ends 35 (textR l t) (fun a => .agg (pobj 5 0 a.1).toArray) (fun a w' => PRd w' r p l c a.2 refs ∧ Touch w.heap.size r w w') (fun w' => Touch w.heap.size r w w')) := by
 have hr := h.1
 have hb := h.2
 obtain ⟨X, hX⟩ : ∃ X, X = textR l t := ⟨_, rfl⟩
 rw [← hX]
 unfold textR at hX
 have hN : ∀ w1, BytesAt w1 p l → Calls Tryz.prog 107 #[.slice p l.length c, .int .i64 (t : Int)] w1 fun e w' => e = .returned (nextR l t).val ∧ Below w1.heap.size w1 w' := fun w1 h1 => scan_Next t p l c w1 h1 hc hl
 have hstep := nextR_step l t (by omega)
 generalize nextR l t = N at hX hN hstep
 refine W.enter func70 rfl ntmps70 (Nat.le_of_ble_eq_true rfl) ?_
 have hB0 := Touch.refl (w.heap.size) r w
 refine W.seq <| W.reg <| WL.alloc zeroValue31 rfl (fun b1 wb1 eb1 hkb1 hub1 hsb1 => ?_)
 have hl3 : r < b1 := by rw [eb1]; exact hr.lt
 have hk2 := hr.upd hub1 (Nat.ne_of_lt hl3)
 have hvl5 := fun h0 => eb1 ▸ hb.lt h0
 have hv4 := BytesAt.upd hb hub1 (fun h0 => Nat.ne_of_lt (hvl5 h0))
 have hgeb1 : w.heap.size ≤ b1 := by rw [eb1]; exact hB0.size
 have hB6 := Touch.trans hB0 (Touch.of_new hub1 hgeb1)
 refine WL.nil <| ?_
 obtain ⟨t0, ht0⟩ : ∃ t0, t0 = t := ⟨t, rfl⟩
 refine W.cut (α := Nat) (fun t => [(0, .pointer (some ⟨r, 0, none⟩)), (2, .pointer (some ⟨b1, 0, none⟩)), (3, .pointer (some ⟨t, 0, none⟩)), (4, .int .i64 N.at'), (5, .int .i64 N.e)]) (fun t w' => Touch w.heap.size r w w' ∧ Blk w' r #[.slice p l.length c, .int .i64 (t0 : Int), .bool refs] 63 ∧ BytesAt w' p l ∧ Blk w' b1 (pobj 0 0 []).toArray 31 ∧ Blk w' t #[.int .i64 N.k, .int .i64 N.n, .string (bs N.s)] 143 ∧ b1 < t) ?_ (fun t w1 hR => ?_)
 ·
  skip
  have hrB : r < b1 := by have := hr.lt; omega
  refine W.regY 17 rfl mixed (fun w7 dw7 => ?_)
  have hk8 := hk2.drew dw7
  have hk9 := hkb1.drew dw7
  have hv10 := hv4.drew dw7
  have hB11 := Touch.trans hB6 (Touch.of_drew dw7)
  refine WY.tk 0 rfl (.mv rfl) rfl ?_
  refine WY.tk 1 rfl (.nck rfl) rfl ?_
  refine WY.tk 2 rfl (.fa underlying63 rfl sizeOf22 (by decide) rfl) rfl ?_
  refine WY.tk 4 rfl (.mv rfl) rfl ?_
  refine WY.tk 5 rfl (.nck rfl) rfl ?_
  refine WY.tk 6 rfl (.fa underlying63 rfl sizeOf3 (by decide) rfl) rfl ?_
  refine WY.br [3, 7, 13] (by kernel_rfl) rfl ⟨⟨_, rfl, ?_⟩, ⟨_, rfl, ?_⟩, ⟨_, rfl, ?_⟩, trivial⟩
  ·
   skip
   refine WL.r (Rd.ld (isAgg22 _) rfl hk8 rfl) rfl <| WL.nil <| ?_
   refine WY.br2 7 rfl 13 rfl ?_ ?_
   ·
    skip
    refine WL.r (Rd.ld (isAgg3 _) rfl hk8 rfl) rfl <| WL.nil <| ?_
    refine WY.br2 8 rfl 13 rfl ?_ ?_
    ·
     skip
     refine WL.c1 hb107 rfl rfl ((hN _ hv10)) (fun w12 hw12 => ?_)
     have hk13 := hk8.below hw12 hk8.lt
     have hk14 := hk9.below hw12 hk9.lt
     have hv15 := BytesAt.below hv10 hw12 (fun h0 => hv10.lt h0)
     have hB16 := Touch.trans hB11 (Touch.mono (Touch.of_below hw12) hB11.size)
     refine WL.nil <| ?_
     refine WY.tk 9 rfl (.mv rfl) rfl ?_
     refine WY.tk 10 rfl (.ext rfl rfl) rfl ?_
     refine WY.tk 11 rfl (.ext rfl rfl) rfl ?_
     refine WY.tk 12 rfl (.ext rfl rfl) rfl ?_
     refine WY.br1 13 rfl ?_
     refine WL.alloc zeroValue143 rfl (fun b17 wb17 eb17 hkb17 hub17 hsb17 => ?_)
     have hl19 : r < b17 := by rw [eb17]; exact hk13.lt
     have hk18 := hk13.upd hub17 (Nat.ne_of_lt hl19)
     have hl21 : b1 < b17 := by rw [eb17]; exact hk14.lt
     have hk20 := hk14.upd hub17 (Nat.ne_of_lt hl21)
     have hvl23 := fun h0 => eb17 ▸ hv15.lt h0
     have hv22 := BytesAt.upd hv15 hub17 (fun h0 => Nat.ne_of_lt (hvl23 h0))
     have hgeb17 : w.heap.size ≤ b17 := by rw [eb17]; exact hB16.size
     have hB24 := Touch.trans hB16 (Touch.of_new hub17 hgeb17)
     refine WL.nil <| ?_
     refine WY.br1 14 rfl ?_
     refine WL.stL rfl rfl hkb17 isz143 rfl rfl (fun w25 hkw25 huw25 hsw25 => ?_)
     have hk26 := hk18.upd huw25 (by ((try simp only) <;> omega))
     have hk27 := hk20.upd huw25 (by ((try simp only) <;> omega))
     have hv28 := BytesAt.upd hv22 huw25 (fun h0 => Nat.ne_of_lt (hvl23 h0))
     have hB29 := Touch.trans hB24 (Touch.of_new huw25 (by omega))
     refine WL.nil <| ?_
     refine WY.tk 15 rfl (.as rfl) rfl ?_
     refine WY.tk 16 rfl (.as rfl) rfl ?_
     refine WY.done (by kernel_rfl) ?_
     exact ⟨_, ⟨rfl, rfl, rfl, rfl, rfl, trivial⟩, hB29, by rw [ht0]; exact hk26, hv28, hk27, hkw25, by omega⟩
    refine WL.alloc zeroValue143 rfl (fun b30 wb30 eb30 hkb30 hub30 hsb30 => ?_)
    have hl32 : r < b30 := by rw [eb30]; exact hk8.lt
    have hk31 := hk8.upd hub30 (Nat.ne_of_lt hl32)
    have hl34 : b1 < b30 := by rw [eb30]; exact hk9.lt
    have hk33 := hk9.upd hub30 (Nat.ne_of_lt hl34)
    have hvl36 := fun h0 => eb30 ▸ hv10.lt h0
    have hv35 := BytesAt.upd hv10 hub30 (fun h0 => Nat.ne_of_lt (hvl36 h0))
    have hgeb30 : w.heap.size ≤ b30 := by rw [eb30]; exact hB11.size
    have hB37 := Touch.trans hB11 (Touch.of_new hub30 hgeb30)
    refine WL.nil <| ?_
    refine WY.br1 8 rfl ?_
    refine WL.c1 hb107 rfl rfl ((hN _ hv35)) (fun w38 hw38 => ?_)
    have hk39 := hk31.below hw38 hk31.lt
    have hk40 := hk33.below hw38 hk33.lt
    have hk41 := hkb30.below hw38 hkb30.lt
    have hv42 := BytesAt.below hv35 hw38 (fun h0 => hv35.lt h0)
    have hB43 := Touch.trans hB37 (Touch.mono (Touch.of_below hw38) hB37.size)
    refine WL.nil <| ?_
    refine WY.tk 9 rfl (.mv rfl) rfl ?_
    refine WY.tk 10 rfl (.ext rfl rfl) rfl ?_
    refine WY.tk 11 rfl (.ext rfl rfl) rfl ?_
    refine WY.tk 12 rfl (.ext rfl rfl) rfl ?_
    refine WY.br1 14 rfl ?_
    refine WL.stL rfl rfl hk41 isz143 rfl rfl (fun w44 hkw44 huw44 hsw44 => ?_)
    have hk45 := hk39.upd huw44 (by ((try simp only) <;> omega))
    have hk46 := hk40.upd huw44 (by ((try simp only) <;> omega))
    have hv47 := BytesAt.upd hv42 huw44 (fun h0 => Nat.ne_of_lt (hvl36 h0))
    have hB48 := Touch.trans hB43 (Touch.of_new huw44 (by omega))
    refine WL.nil <| ?_
    refine WY.tk 15 rfl (.as rfl) rfl ?_
    refine WY.tk 16 rfl (.as rfl) rfl ?_
    refine WY.done (by kernel_rfl) ?_
    exact ⟨_, ⟨rfl, rfl, rfl, rfl, rfl, trivial⟩, hB48, by rw [ht0]; exact hk45, hv47, hk46, hkw44, by omega⟩
   refine WL.alloc zeroValue143 rfl (fun b49 wb49 eb49 hkb49 hub49 hsb49 => ?_)
   have hl51 : r < b49 := by rw [eb49]; exact hk8.lt
   have hk50 := hk8.upd hub49 (Nat.ne_of_lt hl51)
   have hl53 : b1 < b49 := by rw [eb49]; exact hk9.lt
   have hk52 := hk9.upd hub49 (Nat.ne_of_lt hl53)
   have hvl55 := fun h0 => eb49 ▸ hv10.lt h0
   have hv54 := BytesAt.upd hv10 hub49 (fun h0 => Nat.ne_of_lt (hvl55 h0))
   have hgeb49 : w.heap.size ≤ b49 := by rw [eb49]; exact hB11.size
   have hB56 := Touch.trans hB11 (Touch.of_new hub49 hgeb49)
   refine WL.nil <| ?_
   refine WY.br1 7 rfl ?_
   refine WL.r (Rd.ld (isAgg3 _) rfl hk50 rfl) rfl <| WL.nil <| ?_
   refine WY.br1 8 rfl ?_
   refine WL.c1 hb107 rfl rfl ((hN _ hv54)) (fun w57 hw57 => ?_)
   have hk58 := hk50.below hw57 hk50.lt
   have hk59 := hk52.below hw57 hk52.lt
   have hk60 := hkb49.below hw57 hkb49.lt
   have hv61 := BytesAt.below hv54 hw57 (fun h0 => hv54.lt h0)
   have hB62 := Touch.trans hB56 (Touch.mono (Touch.of_below hw57) hB56.size)
   refine WL.nil <| ?_
   refine WY.tk 9 rfl (.mv rfl) rfl ?_
   refine WY.tk 10 rfl (.ext rfl rfl) rfl ?_
   refine WY.tk 11 rfl (.ext rfl rfl) rfl ?_
   refine WY.tk 12 rfl (.ext rfl rfl) rfl ?_
   refine WY.br1 14 rfl ?_
   refine WL.stL rfl rfl hk60 isz143 rfl rfl (fun w63 hkw63 huw63 hsw63 => ?_)
   have hk64 := hk58.upd huw63 (by ((try simp only) <;> omega))
   have hk65 := hk59.upd huw63 (by ((try simp only) <;> omega))
   have hv66 := BytesAt.upd hv61 huw63 (fun h0 => Nat.ne_of_lt (hvl55 h0))
   have hB67 := Touch.trans hB62 (Touch.of_new huw63 (by omega))
   refine WL.nil <| ?_
   refine WY.tk 15 rfl (.as rfl) rfl ?_
   refine WY.tk 16 rfl (.as rfl) rfl ?_
   refine WY.done (by kernel_rfl) ?_
   exact ⟨_, ⟨rfl, rfl, rfl, rfl, rfl, trivial⟩, hB67, by rw [ht0]; exact hk64, hv66, hk65, hkw63, by omega⟩
  ·
   skip
   refine WL.r (Rd.ld (isAgg3 _) rfl hk8 rfl) rfl <| WL.nil <| ?_
   refine WY.br2 3 rfl 13 rfl ?_ ?_
   ·
    skip
    refine WL.r (Rd.ld (isAgg22 _) rfl hk8 rfl) rfl <| WL.nil <| ?_
    refine WY.br2 8 rfl 13 rfl ?_ ?_
    ·
     skip
     refine WL.c1 hb107 rfl rfl ((hN _ hv10)) (fun w68 hw68 => ?_)
     have hk69 := hk8.below hw68 hk8.lt
     have hk70 := hk9.below hw68 hk9.lt
     have hv71 := BytesAt.below hv10 hw68 (fun h0 => hv10.lt h0)
     have hB72 := Touch.trans hB11 (Touch.mono (Touch.of_below hw68) hB11.size)
     refine WL.nil <| ?_
     refine WY.tk 9 rfl (.mv rfl) rfl ?_
     refine WY.tk 10 rfl (.ext rfl rfl) rfl ?_
     refine WY.tk 11 rfl (.ext rfl rfl) rfl ?_
     refine WY.tk 12 rfl (.ext rfl rfl) rfl ?_
     refine WY.br1 13 rfl ?_
     refine WL.alloc zeroValue143 rfl (fun b73 wb73 eb73 hkb73 hub73 hsb73 => ?_)
     have hl75 : r < b73 := by rw [eb73]; exact hk69.lt
     have hk74 := hk69.upd hub73 (Nat.ne_of_lt hl75)
     have hl77 : b1 < b73 := by rw [eb73]; exact hk70.lt
     have hk76 := hk70.upd hub73 (Nat.ne_of_lt hl77)
     have hvl79 := fun h0 => eb73 ▸ hv71.lt h0
     have hv78 := BytesAt.upd hv71 hub73 (fun h0 => Nat.ne_of_lt (hvl79 h0))
     have hgeb73 : w.heap.size ≤ b73 := by rw [eb73]; exact hB72.size
     have hB80 := Touch.trans hB72 (Touch.of_new hub73 hgeb73)
     refine WL.nil <| ?_
     refine WY.br1 14 rfl ?_
     refine WL.stL rfl rfl hkb73 isz143 rfl rfl (fun w81 hkw81 huw81 hsw81 => ?_)
     have hk82 := hk74.upd huw81 (by ((try simp only) <;> omega))
     have hk83 := hk76.upd huw81 (by ((try simp only) <;> omega))
     have hv84 := BytesAt.upd hv78 huw81 (fun h0 => Nat.ne_of_lt (hvl79 h0))
     have hB85 := Touch.trans hB80 (Touch.of_new huw81 (by omega))
     refine WL.nil <| ?_
     refine WY.tk 15 rfl (.as rfl) rfl ?_
     refine WY.tk 16 rfl (.as rfl) rfl ?_
     refine WY.done (by kernel_rfl) ?_
     exact ⟨_, ⟨rfl, rfl, rfl, rfl, rfl, trivial⟩, hB85, by rw [ht0]; exact hk82, hv84, hk83, hkw81, by omega⟩
    refine WL.alloc zeroValue143 rfl (fun b86 wb86 eb86 hkb86 hub86 hsb86 => ?_)
    have hl88 : r < b86 := by rw [eb86]; exact hk8.lt
    have hk87 := hk8.upd hub86 (Nat.ne_of_lt hl88)
    have hl90 : b1 < b86 := by rw [eb86]; exact hk9.lt
    have hk89 := hk9.upd hub86 (Nat.ne_of_lt hl90)
    have hvl92 := fun h0 => eb86 ▸ hv10.lt h0
    have hv91 := BytesAt.upd hv10 hub86 (fun h0 => Nat.ne_of_lt (hvl92 h0))
    have hgeb86 : w.heap.size ≤ b86 := by rw [eb86]; exact hB11.size
    have hB93 := Touch.trans hB11 (Touch.of_new hub86 hgeb86)
    refine WL.nil <| ?_
    refine WY.br1 8 rfl ?_
    refine WL.c1 hb107 rfl rfl ((hN _ hv91)) (fun w94 hw94 => ?_)
    have hk95 := hk87.below hw94 hk87.lt
    have hk96 := hk89.below hw94 hk89.lt
    have hk97 := hkb86.below hw94 hkb86.lt
    have hv98 := BytesAt.below hv91 hw94 (fun h0 => hv91.lt h0)
    have hB99 := Touch.trans hB93 (Touch.mono (Touch.of_below hw94) hB93.size)
    refine WL.nil <| ?_
    refine WY.tk 9 rfl (.mv rfl) rfl ?_
    refine WY.tk 10 rfl (.ext rfl rfl) rfl ?_
    refine WY.tk 11 rfl (.ext rfl rfl) rfl ?_
    refine WY.tk 12 rfl (.ext rfl rfl) rfl ?_
    refine WY.br1 14 rfl ?_
    refine WL.stL rfl rfl hk97 isz143 rfl rfl (fun w100 hkw100 huw100 hsw100 => ?_)
    have hk101 := hk95.upd huw100 (by ((try simp only) <;> omega))
    have hk102 := hk96.upd huw100 (by ((try simp only) <;> omega))
    have hv103 := BytesAt.upd hv98 huw100 (fun h0 => Nat.ne_of_lt (hvl92 h0))
    have hB104 := Touch.trans hB99 (Touch.of_new huw100 (by omega))
    refine WL.nil <| ?_
    refine WY.tk 15 rfl (.as rfl) rfl ?_
    refine WY.tk 16 rfl (.as rfl) rfl ?_
    refine WY.done (by kernel_rfl) ?_
    exact ⟨_, ⟨rfl, rfl, rfl, rfl, rfl, trivial⟩, hB104, by rw [ht0]; exact hk101, hv103, hk102, hkw100, by omega⟩
   refine WL.alloc zeroValue143 rfl (fun b105 wb105 eb105 hkb105 hub105 hsb105 => ?_)
   have hl107 : r < b105 := by rw [eb105]; exact hk8.lt
   have hk106 := hk8.upd hub105 (Nat.ne_of_lt hl107)
   have hl109 : b1 < b105 := by rw [eb105]; exact hk9.lt
   have hk108 := hk9.upd hub105 (Nat.ne_of_lt hl109)
   have hvl111 := fun h0 => eb105 ▸ hv10.lt h0
   have hv110 := BytesAt.upd hv10 hub105 (fun h0 => Nat.ne_of_lt (hvl111 h0))
   have hgeb105 : w.heap.size ≤ b105 := by rw [eb105]; exact hB11.size
   have hB112 := Touch.trans hB11 (Touch.of_new hub105 hgeb105)
   refine WL.nil <| ?_
   refine WY.br1 3 rfl ?_
   refine WL.r (Rd.ld (isAgg22 _) rfl hk106 rfl) rfl <| WL.nil <| ?_
   refine WY.br1 8 rfl ?_
   refine WL.c1 hb107 rfl rfl ((hN _ hv110)) (fun w113 hw113 => ?_)
   have hk114 := hk106.below hw113 hk106.lt
   have hk115 := hk108.below hw113 hk108.lt
   have hk116 := hkb105.below hw113 hkb105.lt
   have hv117 := BytesAt.below hv110 hw113 (fun h0 => hv110.lt h0)
   have hB118 := Touch.trans hB112 (Touch.mono (Touch.of_below hw113) hB112.size)
   refine WL.nil <| ?_
   refine WY.tk 9 rfl (.mv rfl) rfl ?_
   refine WY.tk 10 rfl (.ext rfl rfl) rfl ?_
   refine WY.tk 11 rfl (.ext rfl rfl) rfl ?_
   refine WY.tk 12 rfl (.ext rfl rfl) rfl ?_
   refine WY.br1 14 rfl ?_
   refine WL.stL rfl rfl hk116 isz143 rfl rfl (fun w119 hkw119 huw119 hsw119 => ?_)
   have hk120 := hk114.upd huw119 (by ((try simp only) <;> omega))
   have hk121 := hk115.upd huw119 (by ((try simp only) <;> omega))
   have hv122 := BytesAt.upd hv117 huw119 (fun h0 => Nat.ne_of_lt (hvl111 h0))
   have hB123 := Touch.trans hB118 (Touch.of_new huw119 (by omega))
   refine WL.nil <| ?_
   refine WY.tk 15 rfl (.as rfl) rfl ?_
   refine WY.tk 16 rfl (.as rfl) rfl ?_
   refine WY.done (by kernel_rfl) ?_
   exact ⟨_, ⟨rfl, rfl, rfl, rfl, rfl, trivial⟩, hB123, by rw [ht0]; exact hk120, hv122, hk121, hkw119, by omega⟩
  refine WL.alloc zeroValue143 rfl (fun b124 wb124 eb124 hkb124 hub124 hsb124 => ?_)
  have hl126 : r < b124 := by rw [eb124]; exact hk8.lt
  have hk125 := hk8.upd hub124 (Nat.ne_of_lt hl126)
  have hl128 : b1 < b124 := by rw [eb124]; exact hk9.lt
  have hk127 := hk9.upd hub124 (Nat.ne_of_lt hl128)
  have hvl130 := fun h0 => eb124 ▸ hv10.lt h0
  have hv129 := BytesAt.upd hv10 hub124 (fun h0 => Nat.ne_of_lt (hvl130 h0))
  have hgeb124 : w.heap.size ≤ b124 := by rw [eb124]; exact hB11.size
  have hB131 := Touch.trans hB11 (Touch.of_new hub124 hgeb124)
  refine WL.nil <| ?_
  refine WY.br2 3 rfl 7 rfl ?_ ?_
  ·
   skip
   refine WL.r (Rd.ld (isAgg22 _) rfl hk125 rfl) rfl <| WL.nil <| ?_
   refine WY.br1 7 rfl ?_
   refine WL.r (Rd.ld (isAgg3 _) rfl hk125 rfl) rfl <| WL.nil <| ?_
   refine WY.br1 8 rfl ?_
   refine WL.c1 hb107 rfl rfl ((hN _ hv129)) (fun w132 hw132 => ?_)
   have hk133 := hk125.below hw132 hk125.lt
   have hk134 := hk127.below hw132 hk127.lt
   have hk135 := hkb124.below hw132 hkb124.lt
   have hv136 := BytesAt.below hv129 hw132 (fun h0 => hv129.lt h0)
   have hB137 := Touch.trans hB131 (Touch.mono (Touch.of_below hw132) hB131.size)
   refine WL.nil <| ?_
   refine WY.tk 9 rfl (.mv rfl) rfl ?_
   refine WY.tk 10 rfl (.ext rfl rfl) rfl ?_
   refine WY.tk 11 rfl (.ext rfl rfl) rfl ?_
   refine WY.tk 12 rfl (.ext rfl rfl) rfl ?_
   refine WY.br1 14 rfl ?_
   refine WL.stL rfl rfl hk135 isz143 rfl rfl (fun w138 hkw138 huw138 hsw138 => ?_)
   have hk139 := hk133.upd huw138 (by ((try simp only) <;> omega))
   have hk140 := hk134.upd huw138 (by ((try simp only) <;> omega))
   have hv141 := BytesAt.upd hv136 huw138 (fun h0 => Nat.ne_of_lt (hvl130 h0))
   have hB142 := Touch.trans hB137 (Touch.of_new huw138 (by omega))
   refine WL.nil <| ?_
   refine WY.tk 15 rfl (.as rfl) rfl ?_
   refine WY.tk 16 rfl (.as rfl) rfl ?_
   refine WY.done (by kernel_rfl) ?_
   exact ⟨_, ⟨rfl, rfl, rfl, rfl, rfl, trivial⟩, hB142, by rw [ht0]; exact hk139, hv141, hk140, hkw138, by omega⟩
  refine WL.r (Rd.ld (isAgg3 _) rfl hk125 rfl) rfl <| WL.nil <| ?_
  refine WY.br1 3 rfl ?_
  refine WL.r (Rd.ld (isAgg22 _) rfl hk125 rfl) rfl <| WL.nil <| ?_
  refine WY.br1 8 rfl ?_
  refine WL.c1 hb107 rfl rfl ((hN _ hv129)) (fun w143 hw143 => ?_)
  have hk144 := hk125.below hw143 hk125.lt
  have hk145 := hk127.below hw143 hk127.lt
  have hk146 := hkb124.below hw143 hkb124.lt
  have hv147 := BytesAt.below hv129 hw143 (fun h0 => hv129.lt h0)
  have hB148 := Touch.trans hB131 (Touch.mono (Touch.of_below hw143) hB131.size)
  refine WL.nil <| ?_
  refine WY.tk 9 rfl (.mv rfl) rfl ?_
  refine WY.tk 10 rfl (.ext rfl rfl) rfl ?_
  refine WY.tk 11 rfl (.ext rfl rfl) rfl ?_
  refine WY.tk 12 rfl (.ext rfl rfl) rfl ?_
  refine WY.br1 14 rfl ?_
  refine WL.stL rfl rfl hk146 isz143 rfl rfl (fun w149 hkw149 huw149 hsw149 => ?_)
  have hk150 := hk144.upd huw149 (by ((try simp only) <;> omega))
  have hk151 := hk145.upd huw149 (by ((try simp only) <;> omega))
  have hv152 := BytesAt.upd hv147 huw149 (fun h0 => Nat.ne_of_lt (hvl130 h0))
  have hB153 := Touch.trans hB148 (Touch.of_new huw149 (by omega))
  refine WL.nil <| ?_
  refine WY.tk 15 rfl (.as rfl) rfl ?_
  refine WY.tk 16 rfl (.as rfl) rfl ?_
  refine WY.done (by kernel_rfl) ?_
  exact ⟨_, ⟨rfl, rfl, rfl, rfl, rfl, trivial⟩, hB153, by rw [ht0]; exact hk150, hv152, hk151, hkw149, by omega⟩
 obtain ⟨b3, rfl⟩ : ∃ b3, b3 = t := ⟨t, rfl⟩
 subst ht0
 obtain ⟨hT, hr2, hb2, hk1, hk3, h13⟩ := hR
 refine W.seq <| W.block <| W.seq <| W.reg <| WL.p (.mv rfl) rfl <| WL.p (.eql rfl rfl) rfl <| WL.p (.mv rfl) rfl <| WL.gd rfl rfl rfl (fun g154 => ?_) (fun g154 => ?_)
 ·
  have g154' := of_decide_eq_true g154
  refine WL.p (.mv rfl) rfl <| WL.gy rfl rfl rfl g154 <| WL.c1 hb108 rfl rfl ((plex_open r p l c t0 refs _ ⟨hr2, hb2⟩ hl ht)) (fun w155 hw155 => ?_)
  have hk156 := hr2.below hw155 hr2.lt
  have hk157 := hk1.below hw155 hk1.lt
  have hk158 := hk3.below hw155 hk3.lt
  have hv159 := BytesAt.below hb2 hw155 (fun h0 => hb2.lt h0)
  have hB160 := Touch.trans hT (Touch.mono (Touch.of_below hw155) hT.size)
  refine WL.p (.pkT rfl g154 rfl) rfl <| WL.p (.as rfl) rfl <| WL.nil <| ?_
  refine W.cond rfl (fun h161 => ?_) (fun h161 => ?_)
  ·
   skip
   refine W.reg <| WL.cp hb68 rfl ((plex_fail 24 _)) (fun w162 hw162 => ?_)
   obtain rfl := hw162
   exact pn_is (Ends.err 24 (by rw [hX, if_pos ⟨by assumption, by assumption⟩]) hB160)
  refine W.seq <| W.reg <| WL.p (.mv rfl) rfl <| WL.p (.eql rfl rfl) rfl <| WL.p (.as rfl) rfl <| WL.nil <| ?_
  refine W.cond rfl (fun h163 => ?_) (fun h163 => ?_)
  ·
   have h163' := of_decide_eq_true h163
   refine W.reg <| WL.cp hb68 rfl ((plex_fail 25 _)) (fun w164 hw164 => ?_)
   obtain rfl := hw164
   exact pn_is (Ends.err 25 (by rw [hX, if_neg (by rintro ⟨h1, h2⟩; simp_all), if_pos (by assumption)]) hB160)
  have h163' := of_decide_eq_false h163
  refine W.seq <| W.reg <| WL.p (.mv rfl) rfl <| WL.p (.neq rfl rfl) rfl <| WL.p (.mv rfl) rfl <| WL.gd rfl rfl rfl (fun g165 => ?_) (fun g165 => ?_)
  ·
   have g165' := ndF g165
   refine WL.p (.fa underlying143 rfl sizeOf3 (by decide) rfl) rfl <| WL.gy rfl rfl rfl g165 <| WL.r (Rd.ld (isAgg3 _) rfl hk158 rfl) rfl <| WL.gy rfl rfl rfl g165 <| WL.p (.neq rfl rfl) rfl <| WL.p (.pkF rfl g165 rfl) rfl <| WL.p (.as rfl) rfl <| WL.nil <| ?_
   refine W.cond rfl (fun h166 => ?_) (fun h166 => ?_)
   ·
    have h166' := ndT h166
    refine W.reg <| WL.cp hb68 rfl ((plex_fail 23 _)) (fun w167 hw167 => ?_)
    obtain rfl := hw167
    exact pn_is (Ends.err 23 (by rw [hX, if_neg (by rintro ⟨h1, h2⟩; simp_all), if_neg (by assumption), if_pos (.inr (by assumption))]) hB160)
   have h166' := ndF h166
   refine W.skip <| W.seq <| W.reg <| WL.p (.mv rfl) rfl <| WL.p (.iis (((N.at'.toNat : Nat) : Int)) (.mv rfl) (by omega)) rfl <| WL.p (.nck rfl) rfl <| WL.p (.fa underlying63 rfl sizeOf3 (by decide) rfl) rfl <| WL.st sizeOf3 rfl rfl rfl hk156 (by first | decide | exact Nat.le_of_ble_eq_true rfl) (fun w168 hkw168 huw168 hsw168 => ?_)
   have hkw168 : Blk w168 r _ _ := hkw168
   have huw168 : Upd r _ _ := huw168
   have hk169 := hk157.upd huw168 (by ((try simp only) <;> omega))
   have hk170 := hk158.upd huw168 (by ((try simp only) <;> omega))
   have hv171 := BytesAt.upd hv159 huw168 hne
   have hB172 := Touch.trans hB160 (Touch.of_upd huw168)
   refine WL.nil <| ?_
   refine W.seq <| W.reg <| WL.p (.fa underlying143 rfl sizeOf9 (by decide) rfl) rfl <| WL.r (Rd.ld (isAgg9 _) rfl hk170 rfl) rfl <| ?_
   refine WL.p (.buildL (ps := _) blt31 rfl rfl rfl (by simp only [put1, List.map, List.zip, List.zipWith, List.set] <;> rfl)) rfl ?_
   refine WL.stL rfl rfl hk169 isz31 rfl rfl (fun w173 hkw173 huw173 hsw173 => ?_)
   have hk174 := hkw168.upd huw173 (by ((try simp only) <;> omega))
   have hv176 := BytesAt.upd hv171 huw173 (fun h0 => Nat.ne_of_lt (hvl5 h0))
   have hB177 := Touch.trans hB172 (Touch.of_new huw173 (by omega))
   refine WL.nil <| ?_
   refine W.ret (W.retc1 rfl rfl (ldRow hkw173 underlying31 rfl isz31)  ?_)
   exact Ends.ok (N.s, N.at'.toNat) (by rw [hX, if_neg (by rintro ⟨h1, h2⟩; simp_all), if_neg (by assumption), if_neg (by omega)]) rfl ⟨⟨hk174, hv176⟩, hB177⟩
  have g165' := ndT g165
  refine WL.gn rfl rfl rfl g165 <| WL.gn rfl rfl rfl g165 <| WL.p (.pkT rfl g165 rfl) rfl <| WL.p (.as rfl) rfl <| WL.nil <| ?_
  refine W.condT rfl rfl ?_
  refine W.reg <| WL.cp hb68 rfl ((plex_fail 23 _)) (fun w178 hw178 => ?_)
  obtain rfl := hw178
  exact pn_is (Ends.err 23 (by rw [hX, if_neg (by rintro ⟨h1, h2⟩; simp_all), if_neg (by assumption), if_pos (.inl (by assumption))]) hB160)
 have g154' := of_decide_eq_false g154
 refine WL.gn rfl rfl rfl g154 <| WL.p (.pkF rfl g154 rfl) rfl <| WL.p (.as rfl) rfl <| WL.nil <| ?_
 refine W.condF rfl rfl ?_
 refine W.seq <| W.reg <| WL.p (.mv rfl) rfl <| WL.p (.eql rfl rfl) rfl <| WL.p (.as rfl) rfl <| WL.nil <| ?_
 refine W.cond rfl (fun h179 => ?_) (fun h179 => ?_)
 ·
  have h179' := of_decide_eq_true h179
  refine W.reg <| WL.cp hb68 rfl ((plex_fail 25 _)) (fun w180 hw180 => ?_)
  obtain rfl := hw180
  exact pn_is (Ends.err 25 (by rw [hX, if_neg (by rintro ⟨h1, h2⟩; simp_all), if_pos (by assumption)]) hT)
 have h179' := of_decide_eq_false h179
 refine W.seq <| W.reg <| WL.p (.mv rfl) rfl <| WL.p (.neq rfl rfl) rfl <| WL.p (.mv rfl) rfl <| WL.gd rfl rfl rfl (fun g181 => ?_) (fun g181 => ?_)
 ·
  have g181' := ndF g181
  refine WL.p (.fa underlying143 rfl sizeOf3 (by decide) rfl) rfl <| WL.gy rfl rfl rfl g181 <| WL.r (Rd.ld (isAgg3 _) rfl hk3 rfl) rfl <| WL.gy rfl rfl rfl g181 <| WL.p (.neq rfl rfl) rfl <| WL.p (.pkF rfl g181 rfl) rfl <| WL.p (.as rfl) rfl <| WL.nil <| ?_
  refine W.cond rfl (fun h182 => ?_) (fun h182 => ?_)
  ·
   have h182' := ndT h182
   refine W.reg <| WL.cp hb68 rfl ((plex_fail 23 _)) (fun w183 hw183 => ?_)
   obtain rfl := hw183
   exact pn_is (Ends.err 23 (by rw [hX, if_neg (by rintro ⟨h1, h2⟩; simp_all), if_neg (by assumption), if_pos (.inr (by assumption))]) hT)
  have h182' := ndF h182
  refine W.skip <| W.seq <| W.reg <| WL.p (.mv rfl) rfl <| WL.p (.iis (((N.at'.toNat : Nat) : Int)) (.mv rfl) (by omega)) rfl <| WL.p (.nck rfl) rfl <| WL.p (.fa underlying63 rfl sizeOf3 (by decide) rfl) rfl <| WL.st sizeOf3 rfl rfl rfl hr2 (by first | decide | exact Nat.le_of_ble_eq_true rfl) (fun w184 hkw184 huw184 hsw184 => ?_)
  have hkw184 : Blk w184 r _ _ := hkw184
  have huw184 : Upd r _ _ := huw184
  have hk185 := hk1.upd huw184 (by ((try simp only) <;> omega))
  have hk186 := hk3.upd huw184 (by ((try simp only) <;> omega))
  have hv187 := BytesAt.upd hb2 huw184 hne
  have hB188 := Touch.trans hT (Touch.of_upd huw184)
  refine WL.nil <| ?_
  refine W.seq <| W.reg <| WL.p (.fa underlying143 rfl sizeOf9 (by decide) rfl) rfl <| WL.r (Rd.ld (isAgg9 _) rfl hk186 rfl) rfl <| ?_
  refine WL.p (.buildL (ps := _) blt31 rfl rfl rfl (by simp only [put1, List.map, List.zip, List.zipWith, List.set] <;> rfl)) rfl ?_
  refine WL.stL rfl rfl hk185 isz31 rfl rfl (fun w189 hkw189 huw189 hsw189 => ?_)
  have hk190 := hkw184.upd huw189 (by ((try simp only) <;> omega))
  have hv192 := BytesAt.upd hv187 huw189 (fun h0 => Nat.ne_of_lt (hvl5 h0))
  have hB193 := Touch.trans hB188 (Touch.of_new huw189 (by omega))
  refine WL.nil <| ?_
  refine W.ret (W.retc1 rfl rfl (ldRow hkw189 underlying31 rfl isz31)  ?_)
  exact Ends.ok (N.s, N.at'.toNat) (by rw [hX, if_neg (by rintro ⟨h1, h2⟩; simp_all), if_neg (by assumption), if_neg (by omega)]) rfl ⟨⟨hk190, hv192⟩, hB193⟩
 have g181' := ndT g181
 refine WL.gn rfl rfl rfl g181 <| WL.gn rfl rfl rfl g181 <| WL.p (.pkT rfl g181 rfl) rfl <| WL.p (.as rfl) rfl <| WL.nil <| ?_
 refine W.condT rfl rfl ?_
 refine W.reg <| WL.cp hb68 rfl ((plex_fail 23 _)) (fun w194 hw194 => ?_)
 obtain rfl := hw194
 exact pn_is (Ends.err 23 (by rw [hX, if_neg (by rintro ⟨h1, h2⟩; simp_all), if_neg (by assumption), if_pos (.inl (by assumption))]) hT)
def skipE (l : List UInt8) (t : Nat) : Except Int UInt8 := match l[skipAt false l t]? with | none => .error 24 | some x => .ok x
theorem plex_skip (r : Nat) (p : Option Addr) (l : List UInt8) (c t : Nat) (refs : Bool) (w : World) (h : PRd w r p l c t refs) (hne : 0 < l.length → (pA p).block ≠ r) (hl : l.length ≤ 100000000) (ht : t ≤ l.length) :
  Calls Tryz.prog 106 #[.pointer (some ⟨r, 0, none⟩)] w (Ends 35 (skipE l t) (fun x => .int .u8 (x.toNat : Int)) (fun _ w' => PRd w' r p l c (skipAt false l t) refs ∧ Touch w.heap.size r w w') (fun w' => Touch w.heap.size r w w')) := by
 have hr := h.1
 have hb := h.2
 unfold skipE
 obtain ⟨s, hs⟩ : ∃ s, s = skipAt false l t := ⟨_, rfl⟩
 have hsl : s ≤ l.length := by rw [hs]; exact skipAt_le _ _ _
 rw [← hs]
 have hS : ∀ w1, BytesAt w1 p l → Calls Tryz.prog 13 #[.slice p l.length c, .int .i64 (t : Int)] w1 fun e w' => e = .returned (.int .i64 (s : Int)) ∧ w1 = w' := fun w1 h1 => (plex_Skip p l c t w1 h1 hl).mono fun e w' h => ⟨by rw [h.1, insA_nat l t ht, hs], h.2⟩
 refine W.enter func106 rfl ntmps106 (Nat.le_of_ble_eq_true rfl) ?_
 have hB0 := Touch.refl (w.heap.size) r w
 refine W.seq <| W.reg <| WL.p (.as rfl) rfl <| WL.nil <| ?_
 refine W.seq <| W.regY 13 rfl mixed (fun w1 dw1 => ?_)
 have hk2 := hr.drew dw1
 have hv3 := hb.drew dw1
 have hB4 := Touch.trans hB0 (Touch.of_drew dw1)
 refine WY.tk 0 rfl (.mv rfl) rfl ?_
 refine WY.tk 1 rfl (.mv rfl) rfl ?_
 refine WY.tk 2 rfl (.nck rfl) rfl ?_
 refine WY.tk 3 rfl (.fa underlying63 rfl sizeOf22 (by decide) rfl) rfl ?_
 refine WY.tk 5 rfl (.mv rfl) rfl ?_
 refine WY.tk 6 rfl (.nck rfl) rfl ?_
 refine WY.tk 7 rfl (.fa underlying63 rfl sizeOf3 (by decide) rfl) rfl ?_
 refine WY.br2 4 rfl 8 rfl ?_ ?_
 ·
  skip
  refine WL.r (Rd.ld (isAgg22 _) rfl hk2 rfl) rfl <| WL.nil <| ?_
  refine WY.br1 8 rfl ?_
  refine WL.r (Rd.ld (isAgg3 _) rfl hk2 rfl) rfl <| WL.nil <| ?_
  refine WY.br1 9 rfl ?_
  refine WL.c1 hb13 rfl rfl ((hS _ hv3)) (fun w5 hw5 => ?_)
  obtain rfl := hw5
  refine WL.nil <| ?_
  refine WY.tk 10 rfl (.nck rfl) rfl ?_
  refine WY.tk 11 rfl (.fa underlying63 rfl sizeOf3 (by decide) rfl) rfl ?_
  refine WY.br1 12 rfl ?_
  refine WL.st sizeOf3 rfl rfl rfl hk2 (by first | decide | exact Nat.le_of_ble_eq_true rfl) (fun w6 hkw6 huw6 hsw6 => ?_)
  have hkw6 : Blk w6 r _ _ := hkw6
  have huw6 : Upd r _ _ := huw6
  have hv7 := BytesAt.upd hv3 huw6 hne
  have hB8 := Touch.trans hB4 (Touch.of_upd huw6)
  refine WL.nil <| ?_
  refine WY.done (by kernel_rfl) ?_
  refine W.seq <| W.seq <| W.regQ mixed (by kernel_rfl) ?_
  refine WQ.p (.mv rfl) rfl <| WQ.p (.nck rfl) rfl <| WQ.p (.fa underlying63 rfl sizeOf3 (by decide) rfl) rfl <| WQ.r (fun m => Rd.ld (isAgg3 _) rfl hkw6 rfl) rfl <| WQ.p (.mv rfl) rfl <| WQ.p (.nck rfl) rfl <| WQ.p (.fa underlying63 rfl sizeOf22 (by decide) rfl) rfl <| WQ.r (fun m => Rd.ld (isAgg22 _) rfl hkw6 rfl) rfl <| WQ.p (.lenS underlying22 rfl) rfl <| WQ.p (.geq rfl rfl) rfl <| WQ.nil (fun w9 dw9 => ?_)
  have hk10 := hkw6.drew dw9
  have hv11 := hv7.drew dw9
  have hB12 := Touch.trans hB8 (Touch.of_drew dw9)
  refine W.cond rfl (fun h13 => ?_) (fun h13 => ?_)
  ·
   have h13' := of_decide_eq_true h13
   refine W.reg <| WL.cp hb68 rfl ((plex_fail 24 _)) (fun w14 hw14 => ?_)
   obtain rfl := hw14
   exact pn_is (Ends.err 24 (by rw [List.getElem?_eq_none (by omega)]) hB12)
  have h13' := of_decide_eq_false h13
  refine W.skip <| W.seq <| W.regQ mixed (by kernel_rfl) ?_
  refine WQ.p (.mv rfl) rfl <| WQ.p (.nck rfl) rfl <| WQ.p (.fa underlying63 rfl sizeOf22 (by decide) rfl) rfl <| WQ.r (fun m => Rd.ld (isAgg22 _) rfl hk10 rfl) rfl <| WQ.p (.mv rfl) rfl <| WQ.p (.nck rfl) rfl <| WQ.p (.fa underlying63 rfl sizeOf3 (by decide) rfl) rfl <| WQ.r (fun m => Rd.ld (isAgg3 _) rfl hk10 rfl) rfl <| WQ.p (.ixb underlying22 sizeOf5 rfl rfl (hv11.isp (by omega)) (s) (rfl) (by omega)) rfl <| WQ.r (fun m => Rd.ldc (isAgg5 _) rfl ((hv11.drewN m).cells (s) (by omega))) rfl <| WQ.p (.as rfl) rfl <| WQ.nil (fun w15 dw15 => ?_)
  have hk16 := hk10.drew dw15
  have hv17 := hv11.drew dw15
  have hB18 := Touch.trans hB12 (Touch.of_drew dw15)
  refine W.ret (W.ret1 rfl rfl ?_)
  exact Ends.ok (l[s]'(by omega)) (by rw [List.getElem?_eq_getElem (by omega)]) rfl ⟨⟨hk16, hv17⟩, hB18⟩
 refine WL.r (Rd.ld (isAgg3 _) rfl hk2 rfl) rfl <| WL.nil <| ?_
 refine WY.br1 4 rfl ?_
 refine WL.r (Rd.ld (isAgg22 _) rfl hk2 rfl) rfl <| WL.nil <| ?_
 refine WY.br1 9 rfl ?_
 refine WL.c1 hb13 rfl rfl ((hS _ hv3)) (fun w19 hw19 => ?_)
 obtain rfl := hw19
 refine WL.nil <| ?_
 refine WY.tk 10 rfl (.nck rfl) rfl ?_
 refine WY.tk 11 rfl (.fa underlying63 rfl sizeOf3 (by decide) rfl) rfl ?_
 refine WY.br1 12 rfl ?_
 refine WL.st sizeOf3 rfl rfl rfl hk2 (by first | decide | exact Nat.le_of_ble_eq_true rfl) (fun w20 hkw20 huw20 hsw20 => ?_)
 have hkw20 : Blk w20 r _ _ := hkw20
 have huw20 : Upd r _ _ := huw20
 have hv21 := BytesAt.upd hv3 huw20 hne
 have hB22 := Touch.trans hB4 (Touch.of_upd huw20)
 refine WL.nil <| ?_
 refine WY.done (by kernel_rfl) ?_
 refine W.seq <| W.seq <| W.regQ mixed (by kernel_rfl) ?_
 refine WQ.p (.mv rfl) rfl <| WQ.p (.nck rfl) rfl <| WQ.p (.fa underlying63 rfl sizeOf3 (by decide) rfl) rfl <| WQ.r (fun m => Rd.ld (isAgg3 _) rfl hkw20 rfl) rfl <| WQ.p (.mv rfl) rfl <| WQ.p (.nck rfl) rfl <| WQ.p (.fa underlying63 rfl sizeOf22 (by decide) rfl) rfl <| WQ.r (fun m => Rd.ld (isAgg22 _) rfl hkw20 rfl) rfl <| WQ.p (.lenS underlying22 rfl) rfl <| WQ.p (.geq rfl rfl) rfl <| WQ.nil (fun w23 dw23 => ?_)
 have hk24 := hkw20.drew dw23
 have hv25 := hv21.drew dw23
 have hB26 := Touch.trans hB22 (Touch.of_drew dw23)
 refine W.cond rfl (fun h27 => ?_) (fun h27 => ?_)
 ·
  have h27' := of_decide_eq_true h27
  refine W.reg <| WL.cp hb68 rfl ((plex_fail 24 _)) (fun w28 hw28 => ?_)
  obtain rfl := hw28
  exact pn_is (Ends.err 24 (by rw [List.getElem?_eq_none (by omega)]) hB26)
 have h27' := of_decide_eq_false h27
 refine W.skip <| W.seq <| W.regQ mixed (by kernel_rfl) ?_
 refine WQ.p (.mv rfl) rfl <| WQ.p (.nck rfl) rfl <| WQ.p (.fa underlying63 rfl sizeOf22 (by decide) rfl) rfl <| WQ.r (fun m => Rd.ld (isAgg22 _) rfl hk24 rfl) rfl <| WQ.p (.mv rfl) rfl <| WQ.p (.nck rfl) rfl <| WQ.p (.fa underlying63 rfl sizeOf3 (by decide) rfl) rfl <| WQ.r (fun m => Rd.ld (isAgg3 _) rfl hk24 rfl) rfl <| WQ.p (.ixb underlying22 sizeOf5 rfl rfl (hv25.isp (by omega)) (s) (rfl) (by omega)) rfl <| WQ.r (fun m => Rd.ldc (isAgg5 _) rfl ((hv25.drewN m).cells (s) (by omega))) rfl <| WQ.p (.as rfl) rfl <| WQ.nil (fun w29 dw29 => ?_)
 have hk30 := hk24.drew dw29
 have hv31 := hv25.drew dw29
 have hB32 := Touch.trans hB26 (Touch.of_drew dw29)
 refine W.ret (W.ret1 rfl rfl ?_)
 exact Ends.ok (l[s]'(by omega)) (by rw [List.getElem?_eq_getElem (by omega)]) rfl ⟨⟨hk30, hv31⟩, hB32⟩
end Go.Proofs.YtjghbcjnplcleaaGreatDoor

namespace Go.Proofs.YtjghbcjnplcleaaGreatDoor
open Go.Proofs.Tryz
open Go.RowKit
/-- objects that lie in blocks of S -/
structure LInv (w : World) (S : Nat → Prop) (cs : List PC) (acc : List PV) : Prop where
 len : cs.length = acc.length
 sub : ∀ i (h : i < cs.length) (h2 : i < acc.length), PRep w S cs[i] acc[i]
theorem LInv.nil (w : World) (S : Nat → Prop) : LInv w S [] [] := ⟨rfl, fun i h => by simp at h⟩
theorem LInv.same {w w1 : World} {S : Nat → Prop} {cs : List PC} {acc : List PV} (h : LInv w S cs acc) (hb : ∀ k, S k → k < w.heap.size → w1.heap[k]? = w.heap[k]?) : LInv w1 S cs acc := ⟨h.len, fun i h1 h2 => (h.sub i h1 h2).same hb⟩
theorem LInv.mono {w : World} {S T : Nat → Prop} {cs : List PC} {acc : List PV} (h : LInv w S cs acc) (hST : ∀ k, S k → k < w.heap.size → T k) : LInv w T cs acc := ⟨h.len, fun i h1 h2 => (h.sub i h1 h2).mono hST⟩
theorem LInv.grow {w w1 : World} {S T : Nat → Prop} {cs : List PC} {acc : List PV} (h : LInv w S cs acc) (hb : ∀ k, S k → k < w.heap.size → w1.heap[k]? = w.heap[k]?) (hT : ∀ k, S k → k < w.heap.size → T k) : LInv w1 T cs acc :=
 ((h.mono (T := fun k => S k ∧ k < w.heap.size) (fun k hk hl => ⟨hk, hl⟩)).same (fun k hk _ => hb k hk.1 hk.2)).mono (fun k hk _ => hT k hk.1 hk.2)
theorem LInv.push {w : World} {S : Nat → Prop} {cs : List PC} {acc : List PV} {x : PC} {o : PV} (h : LInv w S cs acc) (hx : PRep w S x o) : LInv w S (cs ++ [x]) (acc ++ [o]) :=
  ⟨by simp [h.len], fun i h1 h2 => by
    have hl := h.len
    rcases Nat.lt_or_ge i cs.length with h3 | h3
    · rw [List.getElem_append_left h3, List.getElem_append_left (by omega)]
      exact h.sub i h3 (by omega)
    · obtain rfl : i = cs.length := by simp at h1; omega
      rw [List.getElem_append_right (Nat.le_refl _), List.getElem_append_right (by omega)]
      simpa [hl] using hx⟩
theorem PRep.ofRow {w : World} {S : Nat → Prop} {k n : Int} {s : List UInt8} {kp lp : Option Addr} {kl kc lc : Nat} {keys : List (List UInt8)} {cs : List PC} {acc : List PV} (hk : StrsAt S w (.slice kp kl kc) keys) (hr : RowIn S w (.slice lp cs.length lc) cs) (h : LInv w S cs acc) :
  PRep w S ⟨k, n, s, kp, kl, kc, lp, cs.length, lc⟩ (.mk k n s keys acc) := PRep.mk ⟨k, n, s, kp, kl, kc, lp, cs.length, lc⟩ keys acc cs hk hr h.len h.sub
theorem inf31 : (Tryz.prog.info? 31).map (fun i => (i.zero, i.size, i.bytes)) = some (some (.agg (pobj 0 0 []).toArray), 6, 104) := by kernel_rfl
/-- what an object's reading leaves -/
def ObjS (w : World) (r : Nat) (p : Option Addr) (l : List UInt8) (c : Nat) (refs : Bool) (a : PV × Nat) (v : Value) (w' : World) : Prop :=
 ∃ x : PC, v = .agg (pcV x).toArray ∧ PRep w' (fun k => w.heap.size ≤ k) x a.1 ∧ PRd w' r p l c a.2 refs ∧ Touch w.heap.size r w w'
/-- a call of object at depth d keeps its word -/
def ObjC (p : Option Addr) (l : List UInt8) (c : Nat) (refs : Bool) (D : Int) : Prop :=
 ∀ (r t : Nat) (w : World), PRd w r p l c t refs → (0 < l.length → (pA p).block ≠ r) → t < l.length →
  Calls Tryz.prog 43 #[.pointer (some ⟨r, 0, none⟩), .int .i64 D] w (EndsV 35 (objP refs l D.toNat t) (ObjS w r p l c refs) (fun w' => Touch w.heap.size r w w'))
theorem skipE_ok {l : List UInt8} {t : Nat} {x : UInt8} (h : skipE l t = .ok x) : l[skipAt false l t]? = some x := by
 unfold skipE at h
 split at h
 ·
  cases h
 ·
  next h1 => rw [h1]; cases h; rfl
theorem skipE_err {l : List UInt8} {t : Nat} {k : Int} (h : skipE l t = .error k) : l[skipAt false l t]? = none ∧ k = 24 := by
 unfold skipE at h
 split at h
 ·
  next h1 => cases h; exact ⟨h1, rfl⟩
 ·
  cases h
theorem skipAt_ge (l : List UInt8) (t : Nat) (ht : t ≤ l.length) : t ≤ skipAt false l t := by
 unfold skipAt
 have h1 := skipS_len (l.drop t) false
 rw [List.length_drop] at h1
 omega
theorem listP_step {obj : Nat → ObjE} {l : List UInt8} {f : Nat} {acc : List PV} {t : Nat} (hf : 0 < f) : listP obj l f acc t = (match l[skipAt false l t]? with
  | none => .error 24
  | some c => if c = 93 then .ok (acc, skipAt false l t + 1) else if 65535 ≤ acc.length then .error 25 else match obj (skipAt false l t) with | .error k => .error k | .ok (o, t') => listP obj l (f - 1) (acc ++ [o]) t') := by
 cases f with
 | zero => omega
 | succ f => rfl
theorem plex_list (p : Option Addr) (l : List UInt8) (c : Nat) (refs : Bool) (D : Int) (hO : ObjC p l c refs D) (hadv : ∀ t o t', t < l.length → objP refs l D.toNat t = .ok (o, t') → t < t' ∧ t' ≤ l.length) (r t : Nat) (w : World) (h : PRd w r p l c t refs) (hne : 0 < l.length → (pA p).block ≠ r) (hl : l.length ≤ 100000000) (ht : t ≤ l.length) :
  Calls Tryz.prog 69 #[.pointer (some ⟨r, 0, none⟩), .int .i64 D] w (EndsV 35 (listO (listP (objP refs l D.toNat) l (l.length + 1) [] t)) (ObjS w r p l c refs) (fun w' => Touch w.heap.size r w w')) := by
 have hr := h.1
 have hb := h.2
 have hbl : 0 < l.length → (pA p).block < w.heap.size := fun h0 => hb.lt h0
 obtain ⟨R, hR⟩ : ∃ R, R = listP (objP refs l D.toNat) l (l.length + 1) [] t := ⟨_, rfl⟩
 rw [← hR]
 obtain ⟨t0, ht0⟩ : ∃ t0, t0 = t := ⟨t, rfl⟩
 subst ht0
 refine W.enter func69 rfl ntmps69 (Nat.le_of_ble_eq_true rfl) ?_
 have hB0 := Touch.refl (w.heap.size) r w
 refine W.seq ?_
 have hrw : r < w.heap.size := hr.lt
 refine W.reg <| WL.alloc zeroValue31 rfl (fun b1 wb1 eb1 hkb1 hub1 hsb1 => ?_)
 have hl3 : r < b1 := by rw [eb1]; exact hr.lt
 have hk2 := hr.upd hub1 (Nat.ne_of_lt hl3)
 have hvl5 := fun h0 => eb1 ▸ hb.lt h0
 have hv4 := BytesAt.upd hb hub1 (fun h0 => Nat.ne_of_lt (hvl5 h0))
 have hgeb1 : w.heap.size ≤ b1 := by rw [eb1]; exact hB0.size
 have hB6 := Touch.trans hB0 (Touch.of_new hub1 hgeb1)
 refine WL.nil <| ?_
 refine W.seq <| W.reg <| WL.p (.buildL (ps := _) blt31 rfl rfl rfl (by simp only [put1, List.map, List.zip, List.zipWith, List.set] <;> rfl)) rfl ?_
 refine WL.alloc zeroValue31 rfl (fun b7 wb7 eb7 hkb7 hub7 hsb7 => ?_)
 have hl9 : r < b7 := by rw [eb7]; exact hk2.lt
 have hk8 := hk2.upd hub7 (Nat.ne_of_lt hl9)
 have hl11 : b1 < b7 := by rw [eb7]; exact hkb1.lt
 have hk10 := hkb1.upd hub7 (Nat.ne_of_lt hl11)
 have hvl13 := fun h0 => eb7 ▸ hv4.lt h0
 have hv12 := BytesAt.upd hv4 hub7 (fun h0 => Nat.ne_of_lt (hvl13 h0))
 have hgeb7 : w.heap.size ≤ b7 := by rw [eb7]; exact hB6.size
 have hB14 := Touch.trans hB6 (Touch.of_new hub7 hgeb7)
 refine WL.stL rfl rfl hkb7 isz31 rfl rfl (fun w15 hkw15 huw15 hsw15 => ?_)
 have hk16 := hk8.upd huw15 (by ((try simp only) <;> omega))
 have hk17 := hk10.upd huw15 (by ((try simp only) <;> omega))
 have hv18 := BytesAt.upd hv12 huw15 (fun h0 => Nat.ne_of_lt (hvl13 h0))
 have hB19 := Touch.trans hB14 (Touch.of_new huw15 (by omega))
 refine WL.nil <| ?_
 refine W.seq <| W.block ?_
 have hpB : 0 < l.length → (pA p).block < b7 + 1 := fun h0 => by have := hbl h0; omega
 have hrb : r < b7 := by omega
 refine W.loop (α := Value × List PC × List PV × Nat × Nat) (fun t => [(0, .pointer (some ⟨r, 0, none⟩)), (1, .int .i64 D), (4, .pointer (some ⟨b1, 0, none⟩)), (5, .pointer (some ⟨b7, 0, none⟩))]) (fun t w' => PRd w' r p l c t.2.2.2.1 refs ∧ Touch w.heap.size r w w' ∧ Blk w' b1 (pobj 0 0 []).toArray 31 ∧ Blk w' b7 #[.int .i64 6, .int .i64 0, .string ⟨#[]⟩, .slice none 0 0, t.1, .slice none 0 0] 31 ∧ OwnM pcL 31 (b7 + 1) w' t.1 t.2.1 ∧ LInv w' (fun k => b7 < k ∧ t.1.ownBlock ≠ some k) t.2.1 t.2.2.1 ∧ listP (objP refs l D.toNat) l t.2.2.2.2 t.2.2.1 t.2.2.2.1 = R ∧ l.length < t.2.2.2.2 + t.2.2.2.1 ∧ t.2.2.2.1 ≤ l.length ∧ t.2.2.1.length ≤ 65535) (fun t => t.2.2.2.2) ((.slice none 0 0, [], [], t0, l.length + 1)) ⟨rfl, rfl, rfl, rfl, trivial⟩ (⟨⟨hk16, hv18⟩, hB19, hk17, hkw15, OwnM.nil _ _ _ _, LInv.nil _ _, hR.symm, by ((try simp only) <;> omega), ht, by simp⟩) (fun t w1 hR => ?_)
 obtain ⟨v, cs, acc, t, f⟩ := t
 obtain ⟨hrd, hT, hk1, hk2, hown, hsub, hw, hft, htl, hal⟩ := hR
 simp only at hrd hk2 hown hsub hw hft htl hal ⊢
 have hst := listP_step (obj := objP refs l D.toNat) (l := l) (acc := acc) (t := t) (f := f) (by omega)
 have hsge := skipAt_ge l t htl
 have hcl := hsub.len
 obtain ⟨pl, cl, rfl, -⟩ := hown.row
 refine W.seq <| W.seq <| W.reg <| WL.p (.mv rfl) rfl <| WL.ce hb106 rfl rfl ((plex_skip r p l c t refs _ ⟨hrd.1, hrd.2⟩ hne hl htl)) (fun k22 w20 hrw20 hw20 => ?_) (fun a21 w20 hrw20 hw20 => ?_)
 ·
  skip
  have hBew20 := Touch.trans hT (Touch.mono hw20 hT.size)
  exact pn_is (EndsV.err k22 (by rw [← hw, hst, (skipE_err hrw20).1, (skipE_err hrw20).2]; rfl) hBew20)
 have ho23 := OwnM.touch' hown hw20.2 (by omega)
 have hF24 := LInv.same (w1 := w20) hsub (fun k hk hl => hw20.2.block k hl (by first | omega | (have := hk.1; omega)))
 have hk25 := hw20.1.1
 have hk26 := Blk.touch hk1 hw20.2 hk1.lt (by omega)
 have hk27 := Blk.touch hk2 hw20.2 hk2.lt (by omega)
 have hv28 := hw20.1.2
 have hB29 := Touch.trans hT (Touch.mono hw20.2 hT.size)
 have hsk := skipE_ok hrw20
 rw [hsk] at hst
 obtain ⟨hsl, hsx⟩ := List.getElem?_eq_some_iff.1 hsk
 obtain ⟨x0, hx0⟩ : ∃ x0, x0 = a21 := ⟨_, rfl⟩
 rw [← hx0] at hst hsx hsk ⊢
 generalize skipAt false l t = s at *
 refine WL.p (.neq rfl rfl) rfl <| WL.nil <| ?_
 refine W.cond rfl (fun h30 => ?_) (fun h30 => ?_)
 ·
  have h30' := ndT h30
  refine W.skip <| W.block <| W.seq <| W.seq <| W.reg <| WL.p (.fa underlying31 rfl sizeOf29 (by decide) rfl) rfl <| WL.r (Rd.ld (isAgg29 _) rfl hk27 rfl) rfl <| WL.p (.lenS underlying29 rfl) rfl <| WL.p (.geq rfl rfl) rfl <| WL.nil <| ?_
  refine W.cond rfl (fun h31 => ?_) (fun h31 => ?_)
  ·
   have h31' := of_decide_eq_true h31
   refine W.reg <| WL.cp hb68 rfl ((plex_fail 25 _)) (fun w32 hw32 => ?_)
   obtain rfl := hw32
   exact pn_is (EndsV.err 25 (by rw [← hw, hst]; simp only []; rw [if_neg (u8_ne (d := 93) (by assumption)), if_pos (by omega)]; rfl) hB29)
  have h31' := of_decide_eq_false h31
  refine W.skip <| W.regY 9 rfl mixed (fun w33 dw33 => ?_)
  have ho34 := OwnM.drew ho23 dw33
  have hF35 := LInv.same (w1 := w33) hF24 (fun k hk hl => (by obtain ⟨m, rfl⟩ := dw33; rfl))
  have hk36 := hk25.drew dw33
  have hk37 := hk26.drew dw33
  have hk38 := hk27.drew dw33
  have hv39 := hv28.drew dw33
  have hB40 := Touch.trans hB29 (Touch.of_drew dw33)
  refine WY.tk 0 rfl (.fa underlying31 rfl sizeOf29 (by decide) rfl) rfl ?_
  refine WY.tk 2 rfl (.mv rfl) rfl ?_
  refine WY.tk 3 rfl (.mv rfl) rfl ?_
  refine WY.br2 1 rfl 4 rfl ?_ ?_
  ·
   skip
   refine WL.r (Rd.ld (isAgg29 _) rfl hk38 rfl) rfl <| WL.nil <| ?_
   refine WY.br1 4 rfl ?_
   refine WL.cx hb43 rfl rfl ((hO r s _ ⟨hk36, hv39⟩ hne hsl)) (fun k43 w41 hrw41 hw41 => ?_) (fun a42 x44 w41 hrw41 hw41 => ?_)
   ·
    skip
    have hBew41 := Touch.trans hB40 (Touch.mono hw41 hB40.size)
    exact pn_is (EndsV.err k43 (by rw [← hw, hst]; simp only []; rw [if_neg (u8_ne (d := 93) (by assumption)), if_neg (by omega), hrw41]; rfl) hBew41)
   have hrr := hrw41
   obtain ⟨oX, tX⟩ := a42
   obtain ⟨x1, rfl, hpx, hrd1, hT1⟩ := hw41
   have had := hadv s oX tX hsl hrr
   have ho1 := OwnM.touch' ho34 hT1 (by omega)
   have hsub1 := LInv.same hF35 (fun k hk hl => hT1.block k hl (by have := hk.1; omega))
   have hk11 := Blk.touch hk37 hT1 (hk37).lt (by omega)
   have hk21 := Blk.touch hk38 hT1 (hk38).lt (by omega)
   have hB1 := Touch.trans hB40 (Touch.mono hT1 hB40.size)
   have hpx1 := hpx.mono (T := fun k => b7 < k ∧ (Value.slice pl cs.length cl).ownBlock ≠ some k) (fun k hk _ => ⟨by have := (hk38).lt; omega, fun e => by have := ((ho34).lt k e).2; omega⟩)
   have hsub2 := hsub1.push hpx1
   have hr1 := hrd1.1
   have hv1 := hrd1.2
   refine WL.nil <| ?_
   refine WY.br1 5 rfl ?_
   refine WL.bslM (L := pcL) (ps := _) ([x1]) underlying29 sizeOf31 zeroValue31 rfl rfl rfl rfl rfl (by first | rfl | decide) rfl rfl (fun b45 wb45 eb45 hob45 hub45 hsb45 => ?_)
   have ho46 := OwnM.new ho1 eb45 hub45
   have hF47 := LInv.same (w1 := wb45) hsub2 (fun k hk hl => hub45.other k (by omega))
   have hl49 : r < b45 := by rw [eb45]; exact hr1.lt
   have hk48 := hr1.upd hub45 (Nat.ne_of_lt hl49)
   have hl51 : b1 < b45 := by rw [eb45]; exact hk11.lt
   have hk50 := hk11.upd hub45 (Nat.ne_of_lt hl51)
   have hl53 : b7 < b45 := by rw [eb45]; exact hk21.lt
   have hk52 := hk21.upd hub45 (Nat.ne_of_lt hl53)
   have hvl55 := fun h0 => eb45 ▸ hv1.lt h0
   have hv54 := BytesAt.upd hv1 hub45 (fun h0 => Nat.ne_of_lt (hvl55 h0))
   have hgeb45 : w.heap.size ≤ b45 := by rw [eb45]; exact hB1.size
   have hB56 := Touch.trans hB1 (Touch.of_new hub45 hgeb45)
   have hleb45 : b45 ≤ wb45.heap.size := by omega
   refine WL.nil <| ?_
   refine WY.br1 6 rfl ?_
   refine WL.appM underlying29 inf31 rfl rfl rfl ho46 rfl (hob45).rowp (by simp only [List.length_cons, List.length_nil]; omega) ((hk52).lt) rfl (fun h => nomatch h) (fun v57 w58 how58 hbw58 hgw58 hfw58 => ?_)
   have hk59 := hk48.below hbw58 (by omega)
   have hk60 := hk50.below hbw58 (by omega)
   have hk61 := hk52.below hbw58 (by omega)
   have hF62 := LInv.grow (T := fun k => b7 < k ∧ (v57).ownBlock ≠ some k) hF47 (fun k hk hl => hgw58.block k hl (fun e => hk.2 e.symm)) (fun k hk hl => ⟨hk.1, fun e => by rcases hfw58 k e with h | h; exact hk.2 h; omega⟩)
   have hv63 := BytesAt.below hv54 hbw58 hpB
   have hB64 := Touch.trans hB56 (Touch.of_below (hbw58.mono (by omega)))
   refine WL.nil <| ?_
   refine WY.tk 7 rfl (.fa underlying31 rfl sizeOf29 (by decide) rfl) rfl ?_
   refine WY.br1 8 rfl ?_
   refine WL.st sizeOf29 rfl rfl (how58).one hk61 (by first | decide | exact Nat.le_of_ble_eq_true rfl) (fun w65 hkw65 huw65 hsw65 => ?_)
   have hkw65 : Blk w65 b7 _ _ := hkw65
   have huw65 : Upd b7 _ _ := huw65
   have ho66 := OwnM.touch how58 huw65 (by ((try simp only) <;> omega))
   have hF67 := LInv.same (w1 := w65) hF62 (fun k hk hl => huw65.other k (by first | ((try simp only) <;> omega) | (have := hk.1; ((try simp only) <;> omega))))
   have hk68 := hk59.upd huw65 (by ((try simp only) <;> omega))
   have hk69 := hk60.upd huw65 (by ((try simp only) <;> omega))
   have hv70 := BytesAt.upd hv63 huw65 (fun h0 => Nat.ne_of_lt (hvl13 h0))
   have hB71 := Touch.trans hB64 (Touch.of_new huw65 (by omega))
   refine WL.nil <| ?_
   refine WY.done (by kernel_rfl) ?_
   exact ⟨(_, cs ++ [x1], acc ++ [oX], tX, f - 1), ⟨rfl, rfl, rfl, rfl, trivial⟩, ⟨⟨hk68, hv70⟩, hB71, hk69, hkw65, ho66, hF67, by rw [← hw, hst]; simp only []; rw [if_neg (u8_ne (d := 93) (by assumption)), if_neg (by omega), hrr], by ((try simp only) <;> omega), had.2, by simp only [List.length_append, List.length_cons, List.length_nil]; omega⟩, by ((try simp only) <;> omega)⟩
  refine WL.cx hb43 rfl rfl ((hO r s _ ⟨hk36, hv39⟩ hne hsl)) (fun k74 w72 hrw72 hw72 => ?_) (fun a73 x75 w72 hrw72 hw72 => ?_)
  ·
   skip
   have hBew72 := Touch.trans hB40 (Touch.mono hw72 hB40.size)
   exact pn_is (EndsV.err k74 (by rw [← hw, hst]; simp only []; rw [if_neg (u8_ne (d := 93) (by assumption)), if_neg (by omega), hrw72]; rfl) hBew72)
  have hrr := hrw72
  obtain ⟨oX, tX⟩ := a73
  obtain ⟨x1, rfl, hpx, hrd1, hT1⟩ := hw72
  have had := hadv s oX tX hsl hrr
  have ho1 := OwnM.touch' ho34 hT1 (by omega)
  have hsub1 := LInv.same hF35 (fun k hk hl => hT1.block k hl (by have := hk.1; omega))
  have hk11 := Blk.touch hk37 hT1 (hk37).lt (by omega)
  have hk21 := Blk.touch hk38 hT1 (hk38).lt (by omega)
  have hB1 := Touch.trans hB40 (Touch.mono hT1 hB40.size)
  have hpx1 := hpx.mono (T := fun k => b7 < k ∧ (Value.slice pl cs.length cl).ownBlock ≠ some k) (fun k hk _ => ⟨by have := (hk38).lt; omega, fun e => by have := ((ho34).lt k e).2; omega⟩)
  have hsub2 := hsub1.push hpx1
  have hr1 := hrd1.1
  have hv1 := hrd1.2
  refine WL.nil <| ?_
  refine WY.br2 1 rfl 5 rfl ?_ ?_
  ·
   skip
   refine WL.r (Rd.ld (isAgg29 _) rfl hk21 rfl) rfl <| WL.nil <| ?_
   refine WY.br1 5 rfl ?_
   refine WL.bslM (L := pcL) (ps := _) ([x1]) underlying29 sizeOf31 zeroValue31 rfl rfl rfl rfl rfl (by first | rfl | decide) rfl rfl (fun b76 wb76 eb76 hob76 hub76 hsb76 => ?_)
   have ho77 := OwnM.new ho1 eb76 hub76
   have hF78 := LInv.same (w1 := wb76) hsub2 (fun k hk hl => hub76.other k (by omega))
   have hl80 : r < b76 := by rw [eb76]; exact hr1.lt
   have hk79 := hr1.upd hub76 (Nat.ne_of_lt hl80)
   have hl82 : b1 < b76 := by rw [eb76]; exact hk11.lt
   have hk81 := hk11.upd hub76 (Nat.ne_of_lt hl82)
   have hl84 : b7 < b76 := by rw [eb76]; exact hk21.lt
   have hk83 := hk21.upd hub76 (Nat.ne_of_lt hl84)
   have hvl86 := fun h0 => eb76 ▸ hv1.lt h0
   have hv85 := BytesAt.upd hv1 hub76 (fun h0 => Nat.ne_of_lt (hvl86 h0))
   have hgeb76 : w.heap.size ≤ b76 := by rw [eb76]; exact hB1.size
   have hB87 := Touch.trans hB1 (Touch.of_new hub76 hgeb76)
   have hleb76 : b76 ≤ wb76.heap.size := by omega
   refine WL.nil <| ?_
   refine WY.br1 6 rfl ?_
   refine WL.appM underlying29 inf31 rfl rfl rfl ho77 rfl (hob76).rowp (by simp only [List.length_cons, List.length_nil]; omega) ((hk83).lt) rfl (fun h => nomatch h) (fun v88 w89 how89 hbw89 hgw89 hfw89 => ?_)
   have hk90 := hk79.below hbw89 (by omega)
   have hk91 := hk81.below hbw89 (by omega)
   have hk92 := hk83.below hbw89 (by omega)
   have hF93 := LInv.grow (T := fun k => b7 < k ∧ (v88).ownBlock ≠ some k) hF78 (fun k hk hl => hgw89.block k hl (fun e => hk.2 e.symm)) (fun k hk hl => ⟨hk.1, fun e => by rcases hfw89 k e with h | h; exact hk.2 h; omega⟩)
   have hv94 := BytesAt.below hv85 hbw89 hpB
   have hB95 := Touch.trans hB87 (Touch.of_below (hbw89.mono (by omega)))
   refine WL.nil <| ?_
   refine WY.tk 7 rfl (.fa underlying31 rfl sizeOf29 (by decide) rfl) rfl ?_
   refine WY.br1 8 rfl ?_
   refine WL.st sizeOf29 rfl rfl (how89).one hk92 (by first | decide | exact Nat.le_of_ble_eq_true rfl) (fun w96 hkw96 huw96 hsw96 => ?_)
   have hkw96 : Blk w96 b7 _ _ := hkw96
   have huw96 : Upd b7 _ _ := huw96
   have ho97 := OwnM.touch how89 huw96 (by ((try simp only) <;> omega))
   have hF98 := LInv.same (w1 := w96) hF93 (fun k hk hl => huw96.other k (by first | ((try simp only) <;> omega) | (have := hk.1; ((try simp only) <;> omega))))
   have hk99 := hk90.upd huw96 (by ((try simp only) <;> omega))
   have hk100 := hk91.upd huw96 (by ((try simp only) <;> omega))
   have hv101 := BytesAt.upd hv94 huw96 (fun h0 => Nat.ne_of_lt (hvl13 h0))
   have hB102 := Touch.trans hB95 (Touch.of_new huw96 (by omega))
   refine WL.nil <| ?_
   refine WY.done (by kernel_rfl) ?_
   exact ⟨(_, cs ++ [x1], acc ++ [oX], tX, f - 1), ⟨rfl, rfl, rfl, rfl, trivial⟩, ⟨⟨hk99, hv101⟩, hB102, hk100, hkw96, ho97, hF98, by rw [← hw, hst]; simp only []; rw [if_neg (u8_ne (d := 93) (by assumption)), if_neg (by omega), hrr], by ((try simp only) <;> omega), had.2, by simp only [List.length_append, List.length_cons, List.length_nil]; omega⟩, by ((try simp only) <;> omega)⟩
  refine WL.bslM (L := pcL) (ps := _) ([x1]) underlying29 sizeOf31 zeroValue31 rfl rfl rfl rfl rfl (by first | rfl | decide) rfl rfl (fun b103 wb103 eb103 hob103 hub103 hsb103 => ?_)
  have ho104 := OwnM.new ho1 eb103 hub103
  have hF105 := LInv.same (w1 := wb103) hsub2 (fun k hk hl => hub103.other k (by omega))
  have hl107 : r < b103 := by rw [eb103]; exact hr1.lt
  have hk106 := hr1.upd hub103 (Nat.ne_of_lt hl107)
  have hl109 : b1 < b103 := by rw [eb103]; exact hk11.lt
  have hk108 := hk11.upd hub103 (Nat.ne_of_lt hl109)
  have hl111 : b7 < b103 := by rw [eb103]; exact hk21.lt
  have hk110 := hk21.upd hub103 (Nat.ne_of_lt hl111)
  have hvl113 := fun h0 => eb103 ▸ hv1.lt h0
  have hv112 := BytesAt.upd hv1 hub103 (fun h0 => Nat.ne_of_lt (hvl113 h0))
  have hgeb103 : w.heap.size ≤ b103 := by rw [eb103]; exact hB1.size
  have hB114 := Touch.trans hB1 (Touch.of_new hub103 hgeb103)
  have hleb103 : b103 ≤ wb103.heap.size := by omega
  refine WL.nil <| ?_
  refine WY.br1 1 rfl ?_
  refine WL.r (Rd.ld (isAgg29 _) rfl hk110 rfl) rfl <| WL.nil <| ?_
  refine WY.br1 6 rfl ?_
  refine WL.appM underlying29 inf31 rfl rfl rfl ho104 rfl (hob103).rowp (by simp only [List.length_cons, List.length_nil]; omega) ((hk110).lt) rfl (fun h => nomatch h) (fun v115 w116 how116 hbw116 hgw116 hfw116 => ?_)
  have hk117 := hk106.below hbw116 (by omega)
  have hk118 := hk108.below hbw116 (by omega)
  have hk119 := hk110.below hbw116 (by omega)
  have hF120 := LInv.grow (T := fun k => b7 < k ∧ (v115).ownBlock ≠ some k) hF105 (fun k hk hl => hgw116.block k hl (fun e => hk.2 e.symm)) (fun k hk hl => ⟨hk.1, fun e => by rcases hfw116 k e with h | h; exact hk.2 h; omega⟩)
  have hv121 := BytesAt.below hv112 hbw116 hpB
  have hB122 := Touch.trans hB114 (Touch.of_below (hbw116.mono (by omega)))
  refine WL.nil <| ?_
  refine WY.tk 7 rfl (.fa underlying31 rfl sizeOf29 (by decide) rfl) rfl ?_
  refine WY.br1 8 rfl ?_
  refine WL.st sizeOf29 rfl rfl (how116).one hk119 (by first | decide | exact Nat.le_of_ble_eq_true rfl) (fun w123 hkw123 huw123 hsw123 => ?_)
  have hkw123 : Blk w123 b7 _ _ := hkw123
  have huw123 : Upd b7 _ _ := huw123
  have ho124 := OwnM.touch how116 huw123 (by ((try simp only) <;> omega))
  have hF125 := LInv.same (w1 := w123) hF120 (fun k hk hl => huw123.other k (by first | ((try simp only) <;> omega) | (have := hk.1; ((try simp only) <;> omega))))
  have hk126 := hk117.upd huw123 (by ((try simp only) <;> omega))
  have hk127 := hk118.upd huw123 (by ((try simp only) <;> omega))
  have hv128 := BytesAt.upd hv121 huw123 (fun h0 => Nat.ne_of_lt (hvl13 h0))
  have hB129 := Touch.trans hB122 (Touch.of_new huw123 (by omega))
  refine WL.nil <| ?_
  refine WY.done (by kernel_rfl) ?_
  exact ⟨(_, cs ++ [x1], acc ++ [oX], tX, f - 1), ⟨rfl, rfl, rfl, rfl, trivial⟩, ⟨⟨hk126, hv128⟩, hB129, hk127, hkw123, ho124, hF125, by rw [← hw, hst]; simp only []; rw [if_neg (u8_ne (d := 93) (by assumption)), if_neg (by omega), hrr], by ((try simp only) <;> omega), had.2, by simp only [List.length_append, List.length_cons, List.length_nil]; omega⟩, by ((try simp only) <;> omega)⟩
 have h30' := ndF h30
 refine W.exit <| W.seq <| W.reg <| WL.p (.mv rfl) rfl <| WL.p (.nck rfl) rfl <| WL.p (.fa underlying63 rfl sizeOf3 (by decide) rfl) rfl <| WL.r (Rd.ld (isAgg3 _) rfl hk25 rfl) rfl <| WL.p (.iis (((s + 1 : Nat) : Int)) (.add rfl rfl (i64w (by omega))) (by omega)) rfl <| WL.p (.nck rfl) rfl <| WL.p (.fa underlying63 rfl sizeOf3 (by decide) rfl) rfl <| WL.st sizeOf3 rfl rfl rfl hk25 (by first | decide | exact Nat.le_of_ble_eq_true rfl) (fun w130 hkw130 huw130 hsw130 => ?_)
 have hkw130 : Blk w130 r _ _ := hkw130
 have huw130 : Upd r _ _ := huw130
 have ho131 := OwnM.touch ho23 huw130 (by ((try simp only) <;> omega))
 have hF132 := LInv.same (w1 := w130) hF24 (fun k hk hl => huw130.other k (by first | ((try simp only) <;> omega) | (have := hk.1; ((try simp only) <;> omega))))
 have hk133 := hk26.upd huw130 (by ((try simp only) <;> omega))
 have hk134 := hk27.upd huw130 (by ((try simp only) <;> omega))
 have hv135 := BytesAt.upd hv28 huw130 hne
 have hB136 := Touch.trans hB29 (Touch.of_upd huw130)
 refine WL.nil <| ?_
 refine W.seq <| W.reg <| WL.r (Rd.ldA rfl hk134 underlying31 rfl isz31) rfl <| WL.stL rfl rfl hk133 isz31 rfl rfl (fun w137 hkw137 huw137 hsw137 => ?_)
 have ho138 := OwnM.touch ho131 huw137 (by ((try simp only) <;> omega))
 have hF139 := LInv.same (w1 := w137) hF132 (fun k hk hl => huw137.other k (by first | ((try simp only) <;> omega) | (have := hk.1; ((try simp only) <;> omega))))
 have hk140 := hkw130.upd huw137 (by ((try simp only) <;> omega))
 have hv142 := BytesAt.upd hv135 huw137 (fun h0 => Nat.ne_of_lt (hvl5 h0))
 have hB143 := Touch.trans hB136 (Touch.of_new huw137 (by omega))
 refine WL.nil <| ?_
 refine W.ret (W.retc1 rfl rfl (ldRow hkw137 underlying31 rfl isz31)  ?_)
 exact EndsV.ok (.mk 6 0 [] [] acc, s + 1) _ (by rw [← hw, hst]; simp only []; rw [if_pos (u8_eq (d := 93) (by assumption))]; rfl) rfl ⟨⟨6, 0, [], none, 0, 0, pl, cs.length, cl⟩, rfl, PRep.ofRow ⟨OwnM.nil _ _ _ _, fun g h => by cases h⟩ ⟨(ho138).base (fun g hg => Nat.zero_le _), fun g hg => by have := (ho138).lt g hg; omega⟩ ((hF139).mono (fun k hk _ => by have := hk.1; omega)), ⟨hk140, hv142⟩, hB143⟩
end Go.Proofs.YtjghbcjnplcleaaGreatDoor

namespace Go.Proofs.YtjghbcjnplcleaaGreatDoor
open Go.Proofs.Tryz
open Go.RowKit
theorem inf9 : (Tryz.prog.info? 9).map (fun i => (i.zero, i.size, i.bytes)) = some (some (.string ⟨#[]⟩), 1, 16) := by kernel_rfl
theorem lib_idxS (q : Option Addr) (s : List (List UInt8)) (c : Nat) (x : List UInt8) (w : World) (hb : RowAt strV w q s) (hl : s.length ≤ 1000000000) :
  Calls Tryz.prog 152 #[.slice q s.length c, .string (bs x)] w fun e w' => ∃ a : { a : Int // 0 ≤ a ↔ x ∈ s }, e = .returned (.int .i64 a.1) ∧ w = w' := by
 refine W.enter func152 rfl ntmps152 (Nat.le_of_ble_eq_true rfl) ?_
 refine W.seq <| W.reg <| WL.p (.as rfl) rfl <| WL.nil <| ?_
 refine W.seq <| W.seq <| W.reg <| WL.p (.mv rfl) rfl <| WL.p (.lenS underlying28 rfl) rfl <| WL.p (.mv rfl) rfl <| WL.nil <| ?_
 refine W.block ?_
 refine W.loop (α := Nat) (fun t => [(0, .slice q s.length c), (1, .string (bs x)), (7, .int .i64 (s.length : Int)), (8, .int .i64 (t : Int))]) (fun t w' => w = w' ∧ t ≤ s.length ∧ x ∉ s.take t) (fun t => s.length - t) (0) ⟨rfl, rfl, rfl, rfl, trivial⟩ (⟨rfl, Nat.zero_le _, by simp⟩) (fun t w1 hR => ?_)
 obtain ⟨i, rfl⟩ : ∃ i, i = t := ⟨t, rfl⟩
 obtain ⟨rfl, hi, hno⟩ := hR
 refine W.seq <| W.reg <| WL.p (.lss rfl rfl) rfl <| WL.nil <| ?_
 refine W.seq <| W.cond rfl (fun h1 => ?_) (fun h1 => ?_)
 ·
  have h1' := of_decide_eq_true h1
  refine W.skip <| W.seq <| W.block <| W.seq <| W.reg <| WL.p (.mv rfl) rfl <| WL.p (.as rfl) rfl <| WL.nil <| ?_
  refine W.seq <| W.reg <| WL.p (.mv rfl) rfl <| WL.p (.mv rfl) rfl <| WL.p (.mv rfl) rfl <| WL.p (.ixb underlying28 sizeOf9 rfl rfl (hb.isp (by omega)) (i) (rfl) (by omega)) rfl <| WL.r (Rd.ldc (isAgg9 _) rfl (hb.cells (i) (by omega))) rfl <| WL.p (.eqs rfl rfl) rfl <| WL.nil <| ?_
  refine W.cond rfl (fun h2 => ?_) (fun h2 => ?_)
  ·
   have h2' := of_decide_eq_true h2
   refine W.seq <| W.reg <| WL.p (.mv rfl) rfl <| WL.p (.as rfl) rfl <| WL.nil <| ?_
   refine W.ret (W.ret1 rfl rfl ?_)
   exact ⟨⟨(i : Int), fun _ => by rw [show x = s[i]'(by omega) by assumption]; exact List.getElem_mem _, fun _ => by omega⟩, rfl, rfl⟩
  have h2' := of_decide_eq_false h2
  refine W.skip <| W.reg <| WL.p (.iis (((i + 1 : Nat) : Int)) (.add rfl rfl (i64w (by omega))) (by omega)) rfl <| WL.p (.mv rfl) rfl <| WL.nil <| ?_
  exact ⟨i + 1, ⟨rfl, rfl, rfl, rfl, trivial⟩, ⟨rfl, by ((try simp only) <;> omega), by
   rw [List.take_add_one, List.getElem?_eq_getElem (by omega), Option.toList_some, List.mem_append, List.mem_singleton]
   exact fun h => h.elim hno (by assumption)⟩, by ((try simp only) <;> omega)⟩
 have h1' := of_decide_eq_false h1
 refine W.exit <| W.seq <| W.reg <| WL.p (.as rfl) rfl <| WL.nil <| ?_
 refine W.ret (W.ret1 rfl rfl ?_)
 exact ⟨⟨-1, fun h => absurd h (by decide), fun h => by rw [show s.take i = s from List.take_of_length_le (by omega)] at hno; exact absurd h hno⟩, rfl, rfl⟩
theorem lib_hasS (q : Option Addr) (s : List (List UInt8)) (c : Nat) (x : List UInt8) (w : World) (hb : RowAt strV w q s) (hl : s.length ≤ 1000000000) :
  Calls Tryz.prog 109 #[.slice q s.length c, .string (bs x)] w fun e w' => e = .returned (.bool (decide (x ∈ s))) ∧ w = w' := by
 refine W.enter func109 rfl ntmps109 (Nat.le_of_ble_eq_true rfl) ?_
 refine W.seq <| W.reg <| WL.p (.as rfl) rfl <| WL.nil <| ?_
 refine W.seq <| W.reg <| WL.p (.mv rfl) rfl <| WL.p (.mv rfl) rfl <| WL.call hb152 rfl rfl ((lib_idxS q s c x _ hb hl)) (fun a w1 hw1 => ?_)
 obtain rfl := hw1
 refine WL.p (.geq rfl rfl) rfl <| WL.p (.as rfl) rfl <| WL.nil <| ?_
 refine W.ret (W.ret1 rfl rfl ?_)
 exact ⟨ret_bool (decide_eq_decide.2 a.2), rfl⟩
theorem nameP_le {l : List UInt8} {t : Nat} {k : List UInt8} {t1 : Nat} (ht : t ≤ l.length) (h : nameP l t = .ok (k, t1)) : t ≤ t1 ∧ t1 ≤ l.length := by
 have hw := wordAt_le l t ht
 unfold nameP at h
 split at h
 ·
  cases h
 ·
  split at h
  ·
   cases h
  ·
   split at h
   ·
    cases h
   ·
    cases h; exact hw
theorem pairsP_step {obj : Nat → ObjE} {l : List UInt8} {f : Nat} {ks : List (List UInt8)} {os : List PV} {t : Nat} (hf : 0 < f) : pairsP obj l f ks os t = (match l[skipAt false l t]? with
  | none => .error 24
  | some c =>
   if c = 62 ∧ l.length ≤ skipAt false l t + 1 then .error 24
   else if c = 62 ∧ l[skipAt false l t + 1]? = some 62 then .ok (ks, os, skipAt false l t + 2)
   else if c ≠ 47 then .error 23
   else match nameP l (skipAt false l t + 1) with
    | .error k => .error k
    | .ok (k, t1) =>
     if k ∈ ks then .error 23
     else if 65535 ≤ os.length then .error 25
     else match l[skipAt false l t1]? with
      | none => .error 24
      | some _ => match obj (skipAt false l t1) with
       | .error k => .error k
       | .ok (o, t') => pairsP obj l (f - 1) (ks ++ [k]) (os ++ [o]) t') := by
 cases f with
 | zero => omega
 | succ f => rfl
theorem nextB_62 {l : List UInt8} {t : Nat} (h : nextB l t 62 = true) : l[t]? = some 62 := by
 obtain ⟨h1, h2⟩ := nextB_t h
 rw [List.getElem?_eq_getElem h1, h2]
theorem nextB_not62 {l : List UInt8} {t : Nat} (h : nextB l t 62 = false) : l[t]? ≠ some 62 := fun e => by
 obtain ⟨h1, h2⟩ := List.getElem?_eq_some_iff.1 e
 exact nextB_f h h1 h2
theorem plex_pairs (p : Option Addr) (l : List UInt8) (c : Nat) (refs : Bool) (D : Int) (hO : ObjC p l c refs D) (hadv : ∀ t o t', t < l.length → objP refs l D.toNat t = .ok (o, t') → t < t' ∧ t' ≤ l.length) (r t : Nat) (w : World) (h : PRd w r p l c t refs) (hne : 0 < l.length → (pA p).block ≠ r) (hc : l.length ≤ c) (hl : l.length ≤ 100000000) (ht : t ≤ l.length) :
  Calls Tryz.prog 71 #[.pointer (some ⟨r, 0, none⟩), .int .i64 D] w (EndsV 35 (pairsO (pairsP (objP refs l D.toNat) l (l.length + 1) [] [] t)) (ObjS w r p l c refs) (fun w' => Touch w.heap.size r w w')) := by
 have hr := h.1
 have hb := h.2
 have hbl : 0 < l.length → (pA p).block < w.heap.size := fun h0 => hb.lt h0
 obtain ⟨R, hR⟩ : ∃ R, R = pairsP (objP refs l D.toNat) l (l.length + 1) [] [] t := ⟨_, rfl⟩
 rw [← hR]
 obtain ⟨t0, ht0⟩ : ∃ t0, t0 = t := ⟨t, rfl⟩
 subst ht0
 refine W.enter func71 rfl ntmps71 (Nat.le_of_ble_eq_true rfl) ?_
 have hB0 := Touch.refl (w.heap.size) r w
 refine W.seq ?_
 have hrw : r < w.heap.size := hr.lt
 refine W.reg <| WL.alloc zeroValue31 rfl (fun b1 wb1 eb1 hkb1 hub1 hsb1 => ?_)
 have hl3 : r < b1 := by rw [eb1]; exact hr.lt
 have hk2 := hr.upd hub1 (Nat.ne_of_lt hl3)
 have hvl5 := fun h0 => eb1 ▸ hb.lt h0
 have hv4 := BytesAt.upd hb hub1 (fun h0 => Nat.ne_of_lt (hvl5 h0))
 have hgeb1 : w.heap.size ≤ b1 := by rw [eb1]; exact hB0.size
 have hB6 := Touch.trans hB0 (Touch.of_new hub1 hgeb1)
 refine WL.nil <| ?_
 refine W.seq <| W.reg <| WL.p (.buildL (ps := _) blt31 rfl rfl rfl (by simp only [put1, List.map, List.zip, List.zipWith, List.set] <;> rfl)) rfl ?_
 refine WL.alloc zeroValue31 rfl (fun b7 wb7 eb7 hkb7 hub7 hsb7 => ?_)
 have hl9 : r < b7 := by rw [eb7]; exact hk2.lt
 have hk8 := hk2.upd hub7 (Nat.ne_of_lt hl9)
 have hl11 : b1 < b7 := by rw [eb7]; exact hkb1.lt
 have hk10 := hkb1.upd hub7 (Nat.ne_of_lt hl11)
 have hvl13 := fun h0 => eb7 ▸ hv4.lt h0
 have hv12 := BytesAt.upd hv4 hub7 (fun h0 => Nat.ne_of_lt (hvl13 h0))
 have hgeb7 : w.heap.size ≤ b7 := by rw [eb7]; exact hB6.size
 have hB14 := Touch.trans hB6 (Touch.of_new hub7 hgeb7)
 refine WL.stL rfl rfl hkb7 isz31 rfl rfl (fun w15 hkw15 huw15 hsw15 => ?_)
 have hk16 := hk8.upd huw15 (by ((try simp only) <;> omega))
 have hk17 := hk10.upd huw15 (by ((try simp only) <;> omega))
 have hv18 := BytesAt.upd hv12 huw15 (fun h0 => Nat.ne_of_lt (hvl13 h0))
 have hB19 := Touch.trans hB14 (Touch.of_new huw15 (by omega))
 refine WL.nil <| ?_
 refine W.block ?_
 have hpB : 0 < l.length → (pA p).block < b7 + 1 := fun h0 => by have := hbl h0; omega
 have hrb : r < b7 := by omega
 refine W.loop (α := Value × Value × List (List UInt8) × List PC × List PV × Nat × Nat) (fun t => [(0, .pointer (some ⟨r, 0, none⟩)), (1, .int .i64 D), (4, .pointer (some ⟨b1, 0, none⟩)), (5, .pointer (some ⟨b7, 0, none⟩))]) (fun t w' => PRd w' r p l c t.2.2.2.2.2.1 refs ∧ Touch w.heap.size r w w' ∧ Blk w' b1 (pobj 0 0 []).toArray 31 ∧ Blk w' b7 #[.int .i64 7, .int .i64 0, .string ⟨#[]⟩, t.1, t.2.1, .slice none 0 0] 31 ∧ OwnM strL 9 (b7 + 1) w' t.1 t.2.2.1 ∧ OwnM pcL 31 (b7 + 1) w' t.2.1 t.2.2.2.1 ∧ (∀ g, t.1.ownBlock = some g → t.2.1.ownBlock ≠ some g) ∧ LInv w' (fun k => b7 < k ∧ t.1.ownBlock ≠ some k ∧ t.2.1.ownBlock ≠ some k) t.2.2.2.1 t.2.2.2.2.1 ∧ pairsP (objP refs l D.toNat) l t.2.2.2.2.2.2 t.2.2.1 t.2.2.2.2.1 t.2.2.2.2.2.1 = R ∧ l.length < t.2.2.2.2.2.2 + t.2.2.2.2.2.1 ∧ t.2.2.2.2.2.1 ≤ l.length ∧ t.2.2.2.2.1.length ≤ 65535 ∧ t.2.2.1.length = t.2.2.2.2.1.length) (fun t => t.2.2.2.2.2.2) ((.slice none 0 0, .slice none 0 0, [], [], [], t0, l.length + 1)) ⟨rfl, rfl, rfl, rfl, trivial⟩ (⟨⟨hk16, hv18⟩, hB19, hk17, hkw15, OwnM.nil _ _ _ _, OwnM.nil _ _ _ _, fun g h => (by cases h), LInv.nil _ _, hR.symm, by ((try simp only) <;> omega), ht, Nat.zero_le _, rfl⟩) (fun t w1 hR => ?_)
 obtain ⟨kv, v, ks, cs, acc, t, f⟩ := t
 obtain ⟨hrd, hT, hk1, hk2, hkeys, hown, hsep, hsub, hw, hft, htl, hal, hkl⟩ := hR
 simp only at hrd hk2 hkeys hown hsep hsub hw hft htl hal hkl ⊢
 have hst := pairsP_step (obj := objP refs l D.toNat) (l := l) (ks := ks) (os := acc) (t := t) (f := f) (by omega)
 have hsge := skipAt_ge l t htl
 have hcl := hsub.len
 obtain ⟨pl, cl, rfl, -⟩ := hown.row
 obtain ⟨pk, ck, rfl, -⟩ := hkeys.row
 refine W.block <| W.seq <| W.seq <| W.reg <| WL.p (.mv rfl) rfl <| WL.ce hb106 rfl rfl ((plex_skip r p l c t refs _ ⟨hrd.1, hrd.2⟩ hne hl htl)) (fun k22 w20 hrw20 hw20 => ?_) (fun a21 w20 hrw20 hw20 => ?_)
 ·
  skip
  have hBew20 := Touch.trans hT (Touch.mono hw20 hT.size)
  exact pn_is (EndsV.err k22 (by rw [← hw, hst, (skipE_err hrw20).1, (skipE_err hrw20).2]; rfl) hBew20)
 have ho23 := OwnM.touch' hkeys hw20.2 (by omega)
 have ho24 := OwnM.touch' hown hw20.2 (by omega)
 have hF25 := LInv.same (w1 := w20) hsub (fun k hk hl => hw20.2.block k hl (by first | omega | (have := hk.1; omega)))
 have hk26 := hw20.1.1
 have hk27 := Blk.touch hk1 hw20.2 hk1.lt (by omega)
 have hk28 := Blk.touch hk2 hw20.2 hk2.lt (by omega)
 have hv29 := hw20.1.2
 have hB30 := Touch.trans hT (Touch.mono hw20.2 hT.size)
 have hsk := skipE_ok hrw20
 rw [hsk] at hst
 obtain ⟨hsl, hsx⟩ := List.getElem?_eq_some_iff.1 hsk
 obtain ⟨x0, hx0⟩ : ∃ x0, x0 = a21 := ⟨_, rfl⟩
 rw [← hx0] at hst hsx hsk ⊢
 generalize skipAt false l t = s at *
 refine WL.p (.as rfl) rfl <| WL.nil <| ?_
 refine W.block ?_
 refine W.cutBQ 11 (decide ((x0.toNat : Int) = 62 ∧ (l.length : Int) ≤ (s : Int) + 1)) ?_ (fun w31 dw31 => ?_)
 ·
  skip
  refine W.regQ mixed (by kernel_rfl) ?_
  refine WQ.p (.mv rfl) rfl <| WQ.p (.eql rfl rfl) rfl <| WQ.p (.mv rfl) rfl <| WQ.gd rfl rfl rfl (fun g32 => ?_) (fun g32 => ?_)
  ·
   have g32' := of_decide_eq_true g32
   refine WQ.p (.mv rfl) rfl <| WQ.gy rfl rfl rfl g32 <| WQ.p (.nck rfl) rfl <| WQ.gy rfl rfl rfl g32 <| WQ.p (.fa underlying63 rfl sizeOf3 (by decide) rfl) rfl <| WQ.gy rfl rfl rfl g32 <| WQ.r (fun m => Rd.ld (isAgg3 _) rfl hk26 rfl) rfl <| WQ.gy rfl rfl rfl g32 <| WQ.p (.iis ((s : Int) + 1) (.add rfl rfl (i64w (by omega))) (by omega)) rfl <| WQ.gy rfl rfl rfl g32 <| WQ.p (.mv rfl) rfl <| WQ.gy rfl rfl rfl g32 <| WQ.p (.nck rfl) rfl <| WQ.gy rfl rfl rfl g32 <| WQ.p (.fa underlying63 rfl sizeOf22 (by decide) rfl) rfl <| WQ.gy rfl rfl rfl g32 <| WQ.r (fun m => Rd.ld (isAgg22 _) rfl hk26 rfl) rfl <| WQ.gy rfl rfl rfl g32 <| WQ.p (.lenS underlying22 rfl) rfl <| WQ.gy rfl rfl rfl g32 <| WQ.p (.geq rfl rfl) rfl <| WQ.p (.pkT rfl g32 rfl) rfl <| WQ.p (.as rfl) rfl <| WQ.nil (fun w33 dw33 => ?_)
   exact ⟨⟨lk_b rfl (by (apply Bool.eq_iff_iff.2; (try simp) <;> omega)), by repeat (first | exact Le.refl _ | refine Le.cons rfl ?_)⟩, dw33⟩
  have g32' := of_decide_eq_false g32
  refine WQ.gn rfl rfl rfl g32 <| WQ.gn rfl rfl rfl g32 <| WQ.gn rfl rfl rfl g32 <| WQ.gn rfl rfl rfl g32 <| WQ.gn rfl rfl rfl g32 <| WQ.gn rfl rfl rfl g32 <| WQ.gn rfl rfl rfl g32 <| WQ.gn rfl rfl rfl g32 <| WQ.gn rfl rfl rfl g32 <| WQ.gn rfl rfl rfl g32 <| WQ.p (.pkF rfl g32 rfl) rfl <| WQ.p (.as rfl) rfl <| WQ.nil (fun w42 dw42 => ?_)
  exact ⟨⟨lk_b rfl (by (apply Bool.eq_iff_iff.2; (try simp) <;> omega)), by repeat (first | exact Le.refl _ | refine Le.cons rfl ?_)⟩, dw42⟩
 have ho51 := OwnM.drew ho23 dw31
 have ho52 := OwnM.drew ho24 dw31
 have hF53 := LInv.same (w1 := w31) hF25 (fun k hk hl => (by obtain ⟨m, rfl⟩ := dw31; rfl))
 have hk54 := hk26.drew dw31
 have hk55 := hk27.drew dw31
 have hk56 := hk28.drew dw31
 have hv57 := hv29.drew dw31
 have hB58 := Touch.trans hB30 (Touch.of_drew dw31)
 refine W.cond rfl (fun h59 => ?_) (fun h59 => ?_)
 ·
  have h59' := of_decide_eq_true h59
  refine W.reg <| WL.cp hb68 rfl ((plex_fail 24 _)) (fun w60 hw60 => ?_)
  obtain rfl := hw60
  exact pn_is (EndsV.err 24 (by rw [← hw, hst]; (try simp only []); rw [if_pos ⟨u8_eq (d := 62) (show (x0.toNat : Int) = 62 by omega), by omega⟩]; rfl) hB58)
 have h59' := of_decide_eq_false h59
 have hn1 : ¬ (x0 = 62 ∧ l.length ≤ s + 1) := fun h => by (have h2 : (x0.toNat : Int) = 62 := by rw [h.1]; rfl); omega
 refine W.cutBQ 28 (decide ((x0.toNat : Int) = 62) && nextB l (s + 1) 62) ?_ (fun w61 dw61 => ?_)
 ·
  skip
  refine W.regQ mixed (by kernel_rfl) ?_
  refine WQ.p (.mv rfl) rfl <| WQ.p (.eql rfl rfl) rfl <| WQ.p (.mv rfl) rfl <| WQ.gd rfl rfl rfl (fun g62 => ?_) (fun g62 => ?_)
  ·
   have g62' := of_decide_eq_true g62
   refine WQ.p (.mv rfl) rfl <| WQ.gy rfl rfl rfl g62 <| WQ.p (.nck rfl) rfl <| WQ.gy rfl rfl rfl g62 <| WQ.p (.fa underlying63 rfl sizeOf22 (by decide) rfl) rfl <| WQ.gy rfl rfl rfl g62 <| WQ.r (fun m => Rd.ld (isAgg22 _) rfl hk54 rfl) rfl <| WQ.gy rfl rfl rfl g62 <| WQ.p (.mv rfl) rfl <| WQ.gy rfl rfl rfl g62 <| WQ.p (.nck rfl) rfl <| WQ.gy rfl rfl rfl g62 <| WQ.p (.fa underlying63 rfl sizeOf3 (by decide) rfl) rfl <| WQ.gy rfl rfl rfl g62 <| WQ.r (fun m => Rd.ld (isAgg3 _) rfl hk54 rfl) rfl <| WQ.gy rfl rfl rfl g62 <| WQ.p (.iis (((s + 1 : Nat) : Int)) (.add rfl rfl (i64w (by omega))) (by omega)) rfl <| WQ.gy rfl rfl rfl g62 <| WQ.p (.ixb underlying22 sizeOf5 rfl rfl (hv57.isp (by omega)) (s + 1) (by omega) (by omega)) rfl <| WQ.gy rfl rfl rfl g62 <| WQ.r (fun m => Rd.ldc (isAgg5 _) rfl ((hv57.drewN m).cells (s + 1) (by omega))) rfl <| WQ.gy rfl rfl rfl g62 <| WQ.p (.eql rfl rfl) rfl <| WQ.p (.pkT rfl g62 rfl) rfl <| WQ.p (.as rfl) rfl <| WQ.nil (fun w63 dw63 => ?_)
   exact ⟨⟨lk_b rfl (by first | (rw [show decide ((x0.toNat : Int) = 62) = false from decide_eq_false (by assumption)]; rfl) | (rw [show decide ((x0.toNat : Int) = 62) = true from decide_eq_true (by assumption), Bool.true_and]; unfold nextB; rw [show decide (s + 1 < l.length) = true from decide_eq_true (by omega), Bool.true_and, getElem!_pos l (s + 1) (by omega)]; rfl)), by repeat (first | exact Le.refl _ | refine Le.cons rfl ?_)⟩, dw63⟩
  have g62' := of_decide_eq_false g62
  refine WQ.gn rfl rfl rfl g62 <| WQ.gn rfl rfl rfl g62 <| WQ.gn rfl rfl rfl g62 <| WQ.gn rfl rfl rfl g62 <| WQ.gn rfl rfl rfl g62 <| WQ.gn rfl rfl rfl g62 <| WQ.gn rfl rfl rfl g62 <| WQ.gn rfl rfl rfl g62 <| WQ.gn rfl rfl rfl g62 <| WQ.gn rfl rfl rfl g62 <| WQ.gn rfl rfl rfl g62 <| WQ.p (.pkF rfl g62 rfl) rfl <| WQ.p (.as rfl) rfl <| WQ.nil (fun w72 dw72 => ?_)
  exact ⟨⟨lk_b rfl (by first | (rw [show decide ((x0.toNat : Int) = 62) = false from decide_eq_false (by assumption)]; rfl) | (rw [show decide ((x0.toNat : Int) = 62) = true from decide_eq_true (by assumption), Bool.true_and]; unfold nextB; rw [show decide (s + 1 < l.length) = true from decide_eq_true (by omega), Bool.true_and, getElem!_pos l (s + 1) (by omega)]; rfl)), by repeat (first | exact Le.refl _ | refine Le.cons rfl ?_)⟩, dw72⟩
 have ho81 := OwnM.drew ho51 dw61
 have ho82 := OwnM.drew ho52 dw61
 have hF83 := LInv.same (w1 := w61) hF53 (fun k hk hl => (by obtain ⟨m, rfl⟩ := dw61; rfl))
 have hk84 := hk54.drew dw61
 have hk85 := hk55.drew dw61
 have hk86 := hk56.drew dw61
 have hv87 := hv57.drew dw61
 have hB88 := Touch.trans hB58 (Touch.of_drew dw61)
 refine W.cond rfl (fun h89 => ?_) (fun h89 => ?_)
 ·
  skip
  have hx62 : (x0.toNat : Int) = 62 ∧ nextB l (s + 1) 62 = true := by simp_all
  have hs2 := (nextB_t hx62.2).1
  refine W.seq <| W.reg <| WL.p (.mv rfl) rfl <| WL.p (.nck rfl) rfl <| WL.p (.fa underlying63 rfl sizeOf3 (by decide) rfl) rfl <| WL.r (Rd.ld (isAgg3 _) rfl hk84 rfl) rfl <| WL.p (.iis (((s + 2 : Nat) : Int)) (.add rfl rfl (i64w (by omega))) (by omega)) rfl <| WL.p (.nck rfl) rfl <| WL.p (.fa underlying63 rfl sizeOf3 (by decide) rfl) rfl <| WL.st sizeOf3 rfl rfl rfl hk84 (by first | decide | exact Nat.le_of_ble_eq_true rfl) (fun w90 hkw90 huw90 hsw90 => ?_)
  have hkw90 : Blk w90 r _ _ := hkw90
  have huw90 : Upd r _ _ := huw90
  have ho91 := OwnM.touch ho81 huw90 (by ((try simp only) <;> omega))
  have ho92 := OwnM.touch ho82 huw90 (by ((try simp only) <;> omega))
  have hF93 := LInv.same (w1 := w90) hF83 (fun k hk hl => huw90.other k (by first | ((try simp only) <;> omega) | (have := hk.1; ((try simp only) <;> omega))))
  have hk94 := hk85.upd huw90 (by ((try simp only) <;> omega))
  have hk95 := hk86.upd huw90 (by ((try simp only) <;> omega))
  have hv96 := BytesAt.upd hv87 huw90 hne
  have hB97 := Touch.trans hB88 (Touch.of_upd huw90)
  refine WL.nil <| ?_
  refine W.seq <| W.reg <| WL.r (Rd.ldA rfl hk95 underlying31 rfl isz31) rfl <| WL.stL rfl rfl hk94 isz31 rfl rfl (fun w98 hkw98 huw98 hsw98 => ?_)
  have ho99 := OwnM.touch ho91 huw98 (by ((try simp only) <;> omega))
  have ho100 := OwnM.touch ho92 huw98 (by ((try simp only) <;> omega))
  have hF101 := LInv.same (w1 := w98) hF93 (fun k hk hl => huw98.other k (by first | ((try simp only) <;> omega) | (have := hk.1; ((try simp only) <;> omega))))
  have hk102 := hkw90.upd huw98 (by ((try simp only) <;> omega))
  have hv104 := BytesAt.upd hv96 huw98 (fun h0 => Nat.ne_of_lt (hvl5 h0))
  have hB105 := Touch.trans hB97 (Touch.of_new huw98 (by omega))
  refine WL.nil <| ?_
  refine W.ret (W.retc1 rfl rfl (ldRow hkw98 underlying31 rfl isz31)  ?_)
  exact EndsV.ok (.mk 7 0 [] ks acc, s + 2) _ (by rw [← hw, hst]; (try simp only []); rw [if_neg hn1, if_pos ⟨u8_eq (d := 62) hx62.1, nextB_62 hx62.2⟩]; rfl) rfl ⟨⟨7, 0, [], pk, ks.length, ck, pl, cs.length, cl⟩, rfl, PRep.ofRow ⟨(ho99).base (fun g hg => Nat.zero_le _), fun g hg => by have := (ho99).lt g hg; omega⟩ ⟨(ho100).base (fun g hg => Nat.zero_le _), fun g hg => by have := (ho100).lt g hg; omega⟩ ((hF101).mono (fun k hk _ => by have := hk.1; omega)), ⟨hk102, hv104⟩, hB105⟩
 have hn2 : ¬ (x0 = 62 ∧ l[s + 1]? = some 62) := fun h => by (have h2 : (x0.toNat : Int) = 62 := by rw [h.1]; rfl); (have h3 := nextB_not62 (l := l) (t := s + 1) (by simp_all)); exact h3 h.2
 refine W.seq <| W.reg <| WL.p (.mv rfl) rfl <| WL.p (.neq rfl rfl) rfl <| WL.p (.as rfl) rfl <| WL.nil <| ?_
 refine W.cond rfl (fun h106 => ?_) (fun h106 => ?_)
 ·
  have h106' := ndT h106
  refine W.reg <| WL.cp hb68 rfl ((plex_fail 23 _)) (fun w107 hw107 => ?_)
  obtain rfl := hw107
  exact pn_is (EndsV.err 23 (by rw [← hw, hst]; (try simp only []); rw [if_neg hn1, if_neg hn2, if_pos (u8_ne (d := 47) (by assumption))]; rfl) hB88)
 have h106' := ndF h106
 have h47 : x0 = 47 := u8_eq (d := 47) (by assumption)
 refine W.skip <| W.seq <| W.reg <| WL.p (.mv rfl) rfl <| WL.p (.nck rfl) rfl <| WL.p (.fa underlying63 rfl sizeOf3 (by decide) rfl) rfl <| WL.r (Rd.ld (isAgg3 _) rfl hk84 rfl) rfl <| WL.p (.iis (((s + 1 : Nat) : Int)) (.add rfl rfl (i64w (by omega))) (by omega)) rfl <| WL.p (.nck rfl) rfl <| WL.p (.fa underlying63 rfl sizeOf3 (by decide) rfl) rfl <| WL.st sizeOf3 rfl rfl rfl hk84 (by first | decide | exact Nat.le_of_ble_eq_true rfl) (fun w108 hkw108 huw108 hsw108 => ?_)
 have hkw108 : Blk w108 r _ _ := hkw108
 have huw108 : Upd r _ _ := huw108
 have ho109 := OwnM.touch ho81 huw108 (by ((try simp only) <;> omega))
 have ho110 := OwnM.touch ho82 huw108 (by ((try simp only) <;> omega))
 have hF111 := LInv.same (w1 := w108) hF83 (fun k hk hl => huw108.other k (by first | ((try simp only) <;> omega) | (have := hk.1; ((try simp only) <;> omega))))
 have hk112 := hk85.upd huw108 (by ((try simp only) <;> omega))
 have hk113 := hk86.upd huw108 (by ((try simp only) <;> omega))
 have hv114 := BytesAt.upd hv87 huw108 hne
 have hB115 := Touch.trans hB88 (Touch.of_upd huw108)
 refine WL.nil <| ?_
 refine W.seq <| W.reg <| WL.p (.mv rfl) rfl <| WL.ce hb67 rfl rfl ((plex_name r p l c (s + 1) refs _ ⟨hkw108, hv114⟩ hne hc hl (by omega))) (fun k118 w116 hrw116 hw116 => ?_) (fun a117 w116 hrw116 hw116 => ?_)
 ·
  skip
  have hBew116 := Touch.trans hB115 (Touch.mono hw116 hB115.size)
  exact pn_is (EndsV.err k118 (by rw [← hw, hst]; (try simp only []); rw [if_neg hn1, if_neg hn2, if_neg (by rw [h47]; simp), hrw116]; rfl) hBew116)
 have ho119 := OwnM.touch' ho109 hw116.2 (by omega)
 have ho120 := OwnM.touch' ho110 hw116.2 (by omega)
 have hF121 := LInv.same (w1 := w116) hF111 (fun k hk hl => hw116.2.block k hl (by first | omega | (have := hk.1; omega)))
 have hk122 := hw116.1.1
 have hk123 := Blk.touch hk112 hw116.2 hk112.lt (by omega)
 have hk124 := Blk.touch hk113 hw116.2 hk113.lt (by omega)
 have hv125 := hw116.1.2
 have hB126 := Touch.trans hB115 (Touch.mono hw116.2 hB115.size)
 have hnm := hrw116
 obtain ⟨kX, t1⟩ := a117
 have hle := nameP_le (by omega) hnm
 simp only [] at *
 refine WL.p (.as rfl) rfl <| WL.nil <| ?_
 refine W.seq <| W.seq <| W.reg <| WL.p (.fa underlying31 rfl sizeOf28 (by decide) rfl) rfl <| WL.r (Rd.ld (isAgg28 _) rfl hk124 rfl) rfl <| WL.p (.mv rfl) rfl <| WL.c1 hb109 rfl rfl ((lib_hasS pk ks ck kX _ ((ho119).rowp.strs) (by omega))) (fun w127 hw127 => ?_)
 obtain rfl := hw127
 refine WL.nil <| ?_
 refine W.cond rfl (fun h128 => ?_) (fun h128 => ?_)
 ·
  skip
  refine W.reg <| WL.cp hb68 rfl ((plex_fail 23 _)) (fun w129 hw129 => ?_)
  obtain rfl := hw129
  exact pn_is (EndsV.err 23 (by rw [← hw, hst]; (try simp only []); rw [if_neg hn1, if_neg hn2, if_neg (by rw [h47]; simp), hnm]; (try simp only []); rw [if_pos (of_decide_eq_true (by assumption))]; rfl) hB126)
 refine W.skip <| W.seq <| W.seq <| W.reg <| WL.p (.fa underlying31 rfl sizeOf29 (by decide) rfl) rfl <| WL.r (Rd.ld (isAgg29 _) rfl hk124 rfl) rfl <| WL.p (.lenS underlying29 rfl) rfl <| WL.p (.geq rfl rfl) rfl <| WL.nil <| ?_
 refine W.cond rfl (fun h130 => ?_) (fun h130 => ?_)
 ·
  have h130' := of_decide_eq_true h130
  refine W.reg <| WL.cp hb68 rfl ((plex_fail 25 _)) (fun w131 hw131 => ?_)
  obtain rfl := hw131
  exact pn_is (EndsV.err 25 (by rw [← hw, hst]; (try simp only []); rw [if_neg hn1, if_neg hn2, if_neg (by rw [h47]; simp), hnm]; (try simp only []); rw [if_neg (of_decide_eq_false (by assumption)), if_pos (by omega)]; rfl) hB126)
 have h130' := of_decide_eq_false h130
 refine W.skip <| W.seq <| W.reg <| WL.p (.fa underlying31 rfl sizeOf28 (by decide) rfl) rfl <| WL.r (Rd.ld (isAgg28 _) rfl hk124 rfl) rfl <| WL.p (.mv rfl) rfl <| WL.bsl (ps := _) underlying28 sizeOf9 zeroValue9 rfl rfl rfl rfl rfl (by simp only [put1, List.map, List.zip, List.zipWith, List.set, List.replicate] <;> rfl) rfl (fun b132 wb132 eb132 hkb132 hub132 hsb132 => ?_)
 have ho133 := OwnM.new ho119 eb132 hub132
 have ho134 := OwnM.new ho120 eb132 hub132
 have hF135 := LInv.same (w1 := wb132) hF121 (fun k hk hl => hub132.other k (by omega))
 have hl137 : r < b132 := by rw [eb132]; exact hk122.lt
 have hk136 := hk122.upd hub132 (Nat.ne_of_lt hl137)
 have hl139 : b1 < b132 := by rw [eb132]; exact hk123.lt
 have hk138 := hk123.upd hub132 (Nat.ne_of_lt hl139)
 have hl141 : b7 < b132 := by rw [eb132]; exact hk124.lt
 have hk140 := hk124.upd hub132 (Nat.ne_of_lt hl141)
 have hvl143 := fun h0 => eb132 ▸ hv125.lt h0
 have hv142 := BytesAt.upd hv125 hub132 (fun h0 => Nat.ne_of_lt (hvl143 h0))
 have hgeb132 : w.heap.size ≤ b132 := by rw [eb132]; exact hB126.size
 have hB144 := Touch.trans hB126 (Touch.of_new hub132 hgeb132)
 have hzz := RowM.lit (V := strL) (l := [kX]) hkb132 (rfl)
 have hlo := (ho134).lt
 refine WL.appM underlying28 inf9 rfl rfl rfl ho133 rfl hzz (by simp only [List.length_cons, List.length_nil]; omega) ((hk140).lt) rfl (fun h => nomatch h) (fun v145 w146 how146 hbw146 hgw146 hfw146 => ?_)
 have hk147 := hk136.below hbw146 (by omega)
 have hk148 := hk138.below hbw146 (by omega)
 have hk149 := hk140.below hbw146 (by omega)
 have hF150 := LInv.grow (T := fun k => b7 < k ∧ (v145).ownBlock ≠ some k ∧ (Value.slice pl cs.length cl).ownBlock ≠ some k) hF135 (fun k hk hl => hgw146.block k hl (fun e => hk.2.1 e.symm)) (fun k hk hl => ⟨hk.1, fun e => by rcases hfw146 k e with h | h; exact hk.2.1 h; omega, hk.2.2⟩)
 have ho151 := OwnM.same ho134 (fun g hg => hgw146.block g ((ho134).lt g hg).2 (fun hx => hsep g hx.symm hg))
 have hv152 := BytesAt.below hv142 hbw146 hpB
 have hB153 := Touch.trans hB144 (Touch.of_below (hbw146.mono (by omega)))
 have hsep2 : ∀ g, (v145).ownBlock = some g → (Value.slice pl cs.length cl).ownBlock ≠ some g := fun g hg => by rcases hfw146 g hg with h | h; exact hsep g h; exact fun h2 => by have := hlo g h2; omega
 obtain ⟨kv2, rfl⟩ : ∃ kv2, kv2 = v145 := ⟨v145, rfl⟩
 refine WL.p (.fa underlying31 rfl sizeOf28 (by decide) rfl) rfl <| WL.st sizeOf28 rfl rfl (how146).one hk149 (by first | decide | exact Nat.le_of_ble_eq_true rfl) (fun w154 hkw154 huw154 hsw154 => ?_)
 have hkw154 : Blk w154 b7 _ _ := hkw154
 have huw154 : Upd b7 _ _ := huw154
 have ho155 := OwnM.touch how146 huw154 (by ((try simp only) <;> omega))
 have ho156 := OwnM.touch ho151 huw154 (by ((try simp only) <;> omega))
 have hF157 := LInv.same (w1 := w154) hF150 (fun k hk hl => huw154.other k (by first | ((try simp only) <;> omega) | (have := hk.1; ((try simp only) <;> omega))))
 have hk158 := hk147.upd huw154 (by ((try simp only) <;> omega))
 have hk159 := hk148.upd huw154 (by ((try simp only) <;> omega))
 have hv160 := BytesAt.upd hv152 huw154 (fun h0 => Nat.ne_of_lt (hvl13 h0))
 have hB161 := Touch.trans hB153 (Touch.of_new huw154 (by omega))
 refine WL.nil <| ?_
 refine W.seq <| W.reg <| WL.p (.mv rfl) rfl <| WL.ce hb106 rfl rfl ((plex_skip r p l c t1 refs _ ⟨hk158, hv160⟩ hne hl hle.2)) (fun k164 w162 hrw162 hw162 => ?_) (fun a163 w162 hrw162 hw162 => ?_)
 ·
  skip
  have hBew162 := Touch.trans hB161 (Touch.mono hw162 hB161.size)
  exact pn_is (EndsV.err k164 (by rw [← hw, hst]; (try simp only []); rw [if_neg hn1, if_neg hn2, if_neg (by rw [h47]; simp), hnm]; (try simp only []); rw [if_neg (of_decide_eq_false (by assumption)), if_neg (by omega), (skipE_err hrw162).1, (skipE_err hrw162).2]; rfl) hBew162)
 have ho165 := OwnM.touch' ho155 hw162.2 (by omega)
 have ho166 := OwnM.touch' ho156 hw162.2 (by omega)
 have hF167 := LInv.same (w1 := w162) hF157 (fun k hk hl => hw162.2.block k hl (by first | omega | (have := hk.1; omega)))
 have hk168 := hw162.1.1
 have hk169 := Blk.touch hk159 hw162.2 hk159.lt (by omega)
 have hk170 := Blk.touch hkw154 hw162.2 hkw154.lt (by omega)
 have hv171 := hw162.1.2
 have hB172 := Touch.trans hB161 (Touch.mono hw162.2 hB161.size)
 have hsk2 := skipE_ok hrw162
 obtain ⟨hsl2, -⟩ := List.getElem?_eq_some_iff.1 hsk2
 have hsge2 := skipAt_ge l t1 hle.2
 refine WL.nil <| ?_
 refine W.regY 9 rfl mixed (fun w173 dw173 => ?_)
 have ho174 := OwnM.drew ho165 dw173
 have ho175 := OwnM.drew ho166 dw173
 have hF176 := LInv.same (w1 := w173) hF167 (fun k hk hl => (by obtain ⟨m, rfl⟩ := dw173; rfl))
 have hk177 := hk168.drew dw173
 have hk178 := hk169.drew dw173
 have hk179 := hk170.drew dw173
 have hv180 := hv171.drew dw173
 have hB181 := Touch.trans hB172 (Touch.of_drew dw173)
 refine WY.tk 0 rfl (.fa underlying31 rfl sizeOf29 (by decide) rfl) rfl ?_
 refine WY.tk 2 rfl (.mv rfl) rfl ?_
 refine WY.tk 3 rfl (.mv rfl) rfl ?_
 refine WY.br2 1 rfl 4 rfl ?_ ?_
 ·
  skip
  refine WL.r (Rd.ld (isAgg29 _) rfl hk179 rfl) rfl <| WL.nil <| ?_
  refine WY.br1 4 rfl ?_
  refine WL.cx hb43 rfl rfl ((hO r _ _ ⟨hk177, hv180⟩ hne hsl2)) (fun k184 w182 hrw182 hw182 => ?_) (fun a183 x185 w182 hrw182 hw182 => ?_)
  ·
   skip
   have hBew182 := Touch.trans hB181 (Touch.mono hw182 hB181.size)
   exact pn_is (EndsV.err k184 (by rw [← hw, hst]; (try simp only []); rw [if_neg hn1, if_neg hn2, if_neg (by rw [h47]; simp), hnm]; (try simp only []); rw [if_neg (of_decide_eq_false (by assumption)), if_neg (by omega), hsk2]; (try simp only []); rw [hrw182]; rfl) hBew182)
  have hrr := hrw182
  obtain ⟨oX, tX⟩ := a183
  obtain ⟨x1, rfl, hpx, hrd1, hT1⟩ := hw182
  have had := hadv _ oX tX hsl2 hrr
  have ho1 := OwnM.touch' ho175 hT1 (by omega)
  have hq1 := OwnM.touch' ho174 hT1 (by omega)
  have hsub1 := LInv.same (w1 := w182) hF176 (fun k hk hl => hT1.block k hl (by have := hk.1; omega))
  have hk11 := Blk.touch hk178 hT1 (hk178).lt (by omega)
  have hk21 := Blk.touch hk179 hT1 (hk179).lt (by omega)
  have hB1 := Touch.trans hB181 (Touch.mono hT1 hB181.size)
  have hpx1 := hpx.mono (T := fun k => b7 < k ∧ kv2.ownBlock ≠ some k ∧ (Value.slice pl cs.length cl).ownBlock ≠ some k) (fun k hk _ => ⟨by have := (hk179).lt; omega, fun e => by have := ((ho174).lt k e).2; omega, fun e => by have := ((ho175).lt k e).2; omega⟩)
  have hsub2 := hsub1.push hpx1
  have hr1 := hrd1.1
  have hv1 := hrd1.2
  refine WL.nil <| ?_
  refine WY.br1 5 rfl ?_
  refine WL.bslM (L := pcL) (ps := _) ([x1]) underlying29 sizeOf31 zeroValue31 rfl rfl rfl rfl rfl (by first | rfl | decide) rfl rfl (fun b186 wb186 eb186 hob186 hub186 hsb186 => ?_)
  have ho187 := OwnM.new hq1 eb186 hub186
  have ho188 := OwnM.new ho1 eb186 hub186
  have hF189 := LInv.same (w1 := wb186) hsub2 (fun k hk hl => hub186.other k (by omega))
  have hl191 : r < b186 := by rw [eb186]; exact hr1.lt
  have hk190 := hr1.upd hub186 (Nat.ne_of_lt hl191)
  have hl193 : b1 < b186 := by rw [eb186]; exact hk11.lt
  have hk192 := hk11.upd hub186 (Nat.ne_of_lt hl193)
  have hl195 : b7 < b186 := by rw [eb186]; exact hk21.lt
  have hk194 := hk21.upd hub186 (Nat.ne_of_lt hl195)
  have hvl197 := fun h0 => eb186 ▸ hv1.lt h0
  have hv196 := BytesAt.upd hv1 hub186 (fun h0 => Nat.ne_of_lt (hvl197 h0))
  have hgeb186 : w.heap.size ≤ b186 := by rw [eb186]; exact hB1.size
  have hB198 := Touch.trans hB1 (Touch.of_new hub186 hgeb186)
  have hleb186 : b186 ≤ wb186.heap.size := by omega
  refine WL.nil <| ?_
  refine WY.br1 6 rfl ?_
  have hlk := (ho187).lt
  refine WL.appM underlying29 inf31 rfl rfl rfl ho188 rfl (hob186).rowp (by simp only [List.length_cons, List.length_nil]; omega) ((hk194).lt) rfl (fun h => nomatch h) (fun v199 w200 how200 hbw200 hgw200 hfw200 => ?_)
  have hk201 := hk190.below hbw200 (by omega)
  have hk202 := hk192.below hbw200 (by omega)
  have hk203 := hk194.below hbw200 (by omega)
  have hF204 := LInv.grow (T := fun k => b7 < k ∧ kv2.ownBlock ≠ some k ∧ (v199).ownBlock ≠ some k) hF189 (fun k hk hl => hgw200.block k hl (fun e => hk.2.2 e.symm)) (fun k hk hl => ⟨hk.1, hk.2.1, fun e => by rcases hfw200 k e with h | h; exact hk.2.2 h; omega⟩)
  have ho205 := OwnM.same ho187 (fun g hg => hgw200.block g ((ho187).lt g hg).2 (fun hx => hsep2 g hg hx.symm))
  have hv206 := BytesAt.below hv196 hbw200 hpB
  have hB207 := Touch.trans hB198 (Touch.of_below (hbw200.mono (by omega)))
  have hsep3 : ∀ g, kv2.ownBlock = some g → (v199).ownBlock ≠ some g := fun g hg h2 => by rcases hfw200 g h2 with h | h; exact hsep2 g hg h; have := hlk g hg; omega
  refine WL.nil <| ?_
  refine WY.tk 7 rfl (.fa underlying31 rfl sizeOf29 (by decide) rfl) rfl ?_
  refine WY.br1 8 rfl ?_
  refine WL.st sizeOf29 rfl rfl (how200).one hk203 (by first | decide | exact Nat.le_of_ble_eq_true rfl) (fun w208 hkw208 huw208 hsw208 => ?_)
  have hkw208 : Blk w208 b7 _ _ := hkw208
  have huw208 : Upd b7 _ _ := huw208
  have ho209 := OwnM.touch ho205 huw208 (by ((try simp only) <;> omega))
  have ho210 := OwnM.touch how200 huw208 (by ((try simp only) <;> omega))
  have hF211 := LInv.same (w1 := w208) hF204 (fun k hk hl => huw208.other k (by first | ((try simp only) <;> omega) | (have := hk.1; ((try simp only) <;> omega))))
  have hk212 := hk201.upd huw208 (by ((try simp only) <;> omega))
  have hk213 := hk202.upd huw208 (by ((try simp only) <;> omega))
  have hv214 := BytesAt.upd hv206 huw208 (fun h0 => Nat.ne_of_lt (hvl13 h0))
  have hB215 := Touch.trans hB207 (Touch.of_new huw208 (by omega))
  refine WL.nil <| ?_
  refine WY.done (by kernel_rfl) ?_
  exact ⟨(_, _, ks ++ [kX], cs ++ [x1], acc ++ [oX], tX, f - 1), ⟨rfl, rfl, rfl, rfl, trivial⟩, ⟨⟨hk212, hv214⟩, hB215, hk213, hkw208, ho209, ho210, hsep3, hF211, by rw [← hw, hst]; (try simp only []); rw [if_neg hn1, if_neg hn2, if_neg (by rw [h47]; simp), hnm]; (try simp only []); rw [if_neg (of_decide_eq_false (by assumption)), if_neg (by omega), hsk2]; (try simp only []); rw [hrr], by ((try simp only) <;> omega), had.2, by simp only [List.length_append, List.length_cons, List.length_nil]; omega, by simp only [List.length_append, List.length_cons, List.length_nil]; omega⟩, by ((try simp only) <;> omega)⟩
 refine WL.cx hb43 rfl rfl ((hO r _ _ ⟨hk177, hv180⟩ hne hsl2)) (fun k218 w216 hrw216 hw216 => ?_) (fun a217 x219 w216 hrw216 hw216 => ?_)
 ·
  skip
  have hBew216 := Touch.trans hB181 (Touch.mono hw216 hB181.size)
  exact pn_is (EndsV.err k218 (by rw [← hw, hst]; (try simp only []); rw [if_neg hn1, if_neg hn2, if_neg (by rw [h47]; simp), hnm]; (try simp only []); rw [if_neg (of_decide_eq_false (by assumption)), if_neg (by omega), hsk2]; (try simp only []); rw [hrw216]; rfl) hBew216)
 have hrr := hrw216
 obtain ⟨oX, tX⟩ := a217
 obtain ⟨x1, rfl, hpx, hrd1, hT1⟩ := hw216
 have had := hadv _ oX tX hsl2 hrr
 have ho1 := OwnM.touch' ho175 hT1 (by omega)
 have hq1 := OwnM.touch' ho174 hT1 (by omega)
 have hsub1 := LInv.same (w1 := w216) hF176 (fun k hk hl => hT1.block k hl (by have := hk.1; omega))
 have hk11 := Blk.touch hk178 hT1 (hk178).lt (by omega)
 have hk21 := Blk.touch hk179 hT1 (hk179).lt (by omega)
 have hB1 := Touch.trans hB181 (Touch.mono hT1 hB181.size)
 have hpx1 := hpx.mono (T := fun k => b7 < k ∧ kv2.ownBlock ≠ some k ∧ (Value.slice pl cs.length cl).ownBlock ≠ some k) (fun k hk _ => ⟨by have := (hk179).lt; omega, fun e => by have := ((ho174).lt k e).2; omega, fun e => by have := ((ho175).lt k e).2; omega⟩)
 have hsub2 := hsub1.push hpx1
 have hr1 := hrd1.1
 have hv1 := hrd1.2
 refine WL.nil <| ?_
 refine WY.br2 1 rfl 5 rfl ?_ ?_
 ·
  skip
  refine WL.r (Rd.ld (isAgg29 _) rfl hk21 rfl) rfl <| WL.nil <| ?_
  refine WY.br1 5 rfl ?_
  refine WL.bslM (L := pcL) (ps := _) ([x1]) underlying29 sizeOf31 zeroValue31 rfl rfl rfl rfl rfl (by first | rfl | decide) rfl rfl (fun b220 wb220 eb220 hob220 hub220 hsb220 => ?_)
  have ho221 := OwnM.new hq1 eb220 hub220
  have ho222 := OwnM.new ho1 eb220 hub220
  have hF223 := LInv.same (w1 := wb220) hsub2 (fun k hk hl => hub220.other k (by omega))
  have hl225 : r < b220 := by rw [eb220]; exact hr1.lt
  have hk224 := hr1.upd hub220 (Nat.ne_of_lt hl225)
  have hl227 : b1 < b220 := by rw [eb220]; exact hk11.lt
  have hk226 := hk11.upd hub220 (Nat.ne_of_lt hl227)
  have hl229 : b7 < b220 := by rw [eb220]; exact hk21.lt
  have hk228 := hk21.upd hub220 (Nat.ne_of_lt hl229)
  have hvl231 := fun h0 => eb220 ▸ hv1.lt h0
  have hv230 := BytesAt.upd hv1 hub220 (fun h0 => Nat.ne_of_lt (hvl231 h0))
  have hgeb220 : w.heap.size ≤ b220 := by rw [eb220]; exact hB1.size
  have hB232 := Touch.trans hB1 (Touch.of_new hub220 hgeb220)
  have hleb220 : b220 ≤ wb220.heap.size := by omega
  refine WL.nil <| ?_
  refine WY.br1 6 rfl ?_
  have hlk := (ho221).lt
  refine WL.appM underlying29 inf31 rfl rfl rfl ho222 rfl (hob220).rowp (by simp only [List.length_cons, List.length_nil]; omega) ((hk228).lt) rfl (fun h => nomatch h) (fun v233 w234 how234 hbw234 hgw234 hfw234 => ?_)
  have hk235 := hk224.below hbw234 (by omega)
  have hk236 := hk226.below hbw234 (by omega)
  have hk237 := hk228.below hbw234 (by omega)
  have hF238 := LInv.grow (T := fun k => b7 < k ∧ kv2.ownBlock ≠ some k ∧ (v233).ownBlock ≠ some k) hF223 (fun k hk hl => hgw234.block k hl (fun e => hk.2.2 e.symm)) (fun k hk hl => ⟨hk.1, hk.2.1, fun e => by rcases hfw234 k e with h | h; exact hk.2.2 h; omega⟩)
  have ho239 := OwnM.same ho221 (fun g hg => hgw234.block g ((ho221).lt g hg).2 (fun hx => hsep2 g hg hx.symm))
  have hv240 := BytesAt.below hv230 hbw234 hpB
  have hB241 := Touch.trans hB232 (Touch.of_below (hbw234.mono (by omega)))
  have hsep3 : ∀ g, kv2.ownBlock = some g → (v233).ownBlock ≠ some g := fun g hg h2 => by rcases hfw234 g h2 with h | h; exact hsep2 g hg h; have := hlk g hg; omega
  refine WL.nil <| ?_
  refine WY.tk 7 rfl (.fa underlying31 rfl sizeOf29 (by decide) rfl) rfl ?_
  refine WY.br1 8 rfl ?_
  refine WL.st sizeOf29 rfl rfl (how234).one hk237 (by first | decide | exact Nat.le_of_ble_eq_true rfl) (fun w242 hkw242 huw242 hsw242 => ?_)
  have hkw242 : Blk w242 b7 _ _ := hkw242
  have huw242 : Upd b7 _ _ := huw242
  have ho243 := OwnM.touch ho239 huw242 (by ((try simp only) <;> omega))
  have ho244 := OwnM.touch how234 huw242 (by ((try simp only) <;> omega))
  have hF245 := LInv.same (w1 := w242) hF238 (fun k hk hl => huw242.other k (by first | ((try simp only) <;> omega) | (have := hk.1; ((try simp only) <;> omega))))
  have hk246 := hk235.upd huw242 (by ((try simp only) <;> omega))
  have hk247 := hk236.upd huw242 (by ((try simp only) <;> omega))
  have hv248 := BytesAt.upd hv240 huw242 (fun h0 => Nat.ne_of_lt (hvl13 h0))
  have hB249 := Touch.trans hB241 (Touch.of_new huw242 (by omega))
  refine WL.nil <| ?_
  refine WY.done (by kernel_rfl) ?_
  exact ⟨(_, _, ks ++ [kX], cs ++ [x1], acc ++ [oX], tX, f - 1), ⟨rfl, rfl, rfl, rfl, trivial⟩, ⟨⟨hk246, hv248⟩, hB249, hk247, hkw242, ho243, ho244, hsep3, hF245, by rw [← hw, hst]; (try simp only []); rw [if_neg hn1, if_neg hn2, if_neg (by rw [h47]; simp), hnm]; (try simp only []); rw [if_neg (of_decide_eq_false (by assumption)), if_neg (by omega), hsk2]; (try simp only []); rw [hrr], by ((try simp only) <;> omega), had.2, by simp only [List.length_append, List.length_cons, List.length_nil]; omega, by simp only [List.length_append, List.length_cons, List.length_nil]; omega⟩, by ((try simp only) <;> omega)⟩
 refine WL.bslM (L := pcL) (ps := _) ([x1]) underlying29 sizeOf31 zeroValue31 rfl rfl rfl rfl rfl (by first | rfl | decide) rfl rfl (fun b250 wb250 eb250 hob250 hub250 hsb250 => ?_)
 have ho251 := OwnM.new hq1 eb250 hub250
 have ho252 := OwnM.new ho1 eb250 hub250
 have hF253 := LInv.same (w1 := wb250) hsub2 (fun k hk hl => hub250.other k (by omega))
 have hl255 : r < b250 := by rw [eb250]; exact hr1.lt
 have hk254 := hr1.upd hub250 (Nat.ne_of_lt hl255)
 have hl257 : b1 < b250 := by rw [eb250]; exact hk11.lt
 have hk256 := hk11.upd hub250 (Nat.ne_of_lt hl257)
 have hl259 : b7 < b250 := by rw [eb250]; exact hk21.lt
 have hk258 := hk21.upd hub250 (Nat.ne_of_lt hl259)
 have hvl261 := fun h0 => eb250 ▸ hv1.lt h0
 have hv260 := BytesAt.upd hv1 hub250 (fun h0 => Nat.ne_of_lt (hvl261 h0))
 have hgeb250 : w.heap.size ≤ b250 := by rw [eb250]; exact hB1.size
 have hB262 := Touch.trans hB1 (Touch.of_new hub250 hgeb250)
 have hleb250 : b250 ≤ wb250.heap.size := by omega
 refine WL.nil <| ?_
 refine WY.br1 1 rfl ?_
 refine WL.r (Rd.ld (isAgg29 _) rfl hk258 rfl) rfl <| WL.nil <| ?_
 refine WY.br1 6 rfl ?_
 have hlk := (ho251).lt
 refine WL.appM underlying29 inf31 rfl rfl rfl ho252 rfl (hob250).rowp (by simp only [List.length_cons, List.length_nil]; omega) ((hk258).lt) rfl (fun h => nomatch h) (fun v263 w264 how264 hbw264 hgw264 hfw264 => ?_)
 have hk265 := hk254.below hbw264 (by omega)
 have hk266 := hk256.below hbw264 (by omega)
 have hk267 := hk258.below hbw264 (by omega)
 have hF268 := LInv.grow (T := fun k => b7 < k ∧ kv2.ownBlock ≠ some k ∧ (v263).ownBlock ≠ some k) hF253 (fun k hk hl => hgw264.block k hl (fun e => hk.2.2 e.symm)) (fun k hk hl => ⟨hk.1, hk.2.1, fun e => by rcases hfw264 k e with h | h; exact hk.2.2 h; omega⟩)
 have ho269 := OwnM.same ho251 (fun g hg => hgw264.block g ((ho251).lt g hg).2 (fun hx => hsep2 g hg hx.symm))
 have hv270 := BytesAt.below hv260 hbw264 hpB
 have hB271 := Touch.trans hB262 (Touch.of_below (hbw264.mono (by omega)))
 have hsep3 : ∀ g, kv2.ownBlock = some g → (v263).ownBlock ≠ some g := fun g hg h2 => by rcases hfw264 g h2 with h | h; exact hsep2 g hg h; have := hlk g hg; omega
 refine WL.nil <| ?_
 refine WY.tk 7 rfl (.fa underlying31 rfl sizeOf29 (by decide) rfl) rfl ?_
 refine WY.br1 8 rfl ?_
 refine WL.st sizeOf29 rfl rfl (how264).one hk267 (by first | decide | exact Nat.le_of_ble_eq_true rfl) (fun w272 hkw272 huw272 hsw272 => ?_)
 have hkw272 : Blk w272 b7 _ _ := hkw272
 have huw272 : Upd b7 _ _ := huw272
 have ho273 := OwnM.touch ho269 huw272 (by ((try simp only) <;> omega))
 have ho274 := OwnM.touch how264 huw272 (by ((try simp only) <;> omega))
 have hF275 := LInv.same (w1 := w272) hF268 (fun k hk hl => huw272.other k (by first | ((try simp only) <;> omega) | (have := hk.1; ((try simp only) <;> omega))))
 have hk276 := hk265.upd huw272 (by ((try simp only) <;> omega))
 have hk277 := hk266.upd huw272 (by ((try simp only) <;> omega))
 have hv278 := BytesAt.upd hv270 huw272 (fun h0 => Nat.ne_of_lt (hvl13 h0))
 have hB279 := Touch.trans hB271 (Touch.of_new huw272 (by omega))
 refine WL.nil <| ?_
 refine WY.done (by kernel_rfl) ?_
 exact ⟨(_, _, ks ++ [kX], cs ++ [x1], acc ++ [oX], tX, f - 1), ⟨rfl, rfl, rfl, rfl, trivial⟩, ⟨⟨hk276, hv278⟩, hB279, hk277, hkw272, ho273, ho274, hsep3, hF275, by rw [← hw, hst]; (try simp only []); rw [if_neg hn1, if_neg hn2, if_neg (by rw [h47]; simp), hnm]; (try simp only []); rw [if_neg (of_decide_eq_false (by assumption)), if_neg (by omega), hsk2]; (try simp only []); rw [hrr], by ((try simp only) <;> omega), had.2, by simp only [List.length_append, List.length_cons, List.length_nil]; omega, by simp only [List.length_append, List.length_cons, List.length_nil]; omega⟩, by ((try simp only) <;> omega)⟩
end Go.Proofs.YtjghbcjnplcleaaGreatDoor
