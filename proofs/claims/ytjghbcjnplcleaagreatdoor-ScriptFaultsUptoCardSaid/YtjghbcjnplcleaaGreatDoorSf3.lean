/-
  What the claim leans on, part 3: pruned and joined by my own tool out of the texts that stand in wip/ as templates.
-/
import Derived.Test.YtjghbcjnplcleaaGreatDoorSf2
namespace Go.Proofs.YtjghbcjnplcleaaGreatDoor
open Go.RowKit
open Go.Proofs.Tryz
section
theorem hb119 : HasBody Tryz.prog 119 := hasBody func119 kR
theorem hb83 : HasBody Tryz.prog 83 := hasBody func83 kR
theorem hb85 : HasBody Tryz.prog 85 := hasBody func85 kR
theorem hb87 : HasBody Tryz.prog 87 := hasBody func87 kR
theorem hb88 : HasBody Tryz.prog 88 := hasBody func88 kR
theorem inf5 : (Tryz.prog.info? 5).map (fun i => (i.zero, i.size, i.bytes)) = some (some (.int .u8 0), 1, 1) := by kernel_rfl
/-- block b is a printer that has written l, in slice v -/
structure Prt (w : World) (b : Nat) (v : Value) (l : List UInt8) : Prop where
 blk : ∃ a : Option Addr, (a = none ∨ a = some ⟨b, 0, none⟩) ∧ Blk w b #[.pointer a, v] 115
 own : Own 5 (b + 1) w v (byteVals l)
/-- what a writing method changes: block b and the slice's own block -/
def Wr (b : Nat) (v v' : Value) (w w' : World) : Prop := KeepB w.heap.size (b :: v.ownBlock.toList) w w' ∧ ∀ g, v'.ownBlock = some g → v.ownBlock = some g ∨ w.heap.size ≤ g
theorem prt_copyCheck {w : World} {b : Nat} {v : Value} {l : List UInt8} (h : Prt w b v l) :
    Calls Tryz.prog 119 #[.pointer (some ⟨b, 0, none⟩)] w fun e w' => e = .returned (.tuple #[]) ∧ Blk w' b #[.pointer (some ⟨b, 0, none⟩), v] 115 ∧ Upd b w w' ∧ w'.heap.size = w.heap.size := by
  obtain ⟨a, ha, hk⟩ := h.blk
  rcases ha with rfl | rfl
  · refine (copyCheck_fresh b w (by rw [hk.cell]; rfl) (by unfold Blk at hk; simp [World.shape?, hk]) (by unfold Blk at hk; simp [World.frozen?, hk])).mono ?_
    rintro e w' ⟨rfl, rfl⟩
    exact ⟨rfl, hk.setCell 0 _, Upd.setCell w b 0 _, by simp [World.setCell]⟩
  · refine (copyCheck_used b w (by rw [hk.cell]; rfl)).mono ?_
    rintro e w' ⟨rfl, rfl⟩
    exact ⟨rfl, hk, ⟨rfl, rfl, rfl, Nat.le_refl _, fun _ _ => rfl⟩, rfl⟩
theorem prt_WriteString (b : Nat) (v : Value) (l s : List UInt8) (w : World) (h : Prt w b v l) (hn : l.length + s.length ≤ 1000000000) :
  Calls Tryz.prog 83 #[.pointer (some ⟨b, 0, none⟩), .string (bs s)] w fun e w' => ∃ r, e = .returned r ∧ ∃ v', Prt w' b v' (l ++ s) ∧ Wr b v v' w w' := by
 obtain ⟨p', c', hv⟩ := h.own.slice
 obtain ⟨a0, ha0, hr⟩ := h.blk
 have hown := h.own
 have hbl := hr.lt
 subst hv
 refine W.enter func83 rfl ntmps83 (Nat.le_of_ble_eq_true rfl) ?_
 have hB0 := KeepB.refl w.heap.size (b :: (Value.slice p' (byteVals l).length c').ownBlock.toList) w
 refine W.sr <| WL.a rfl rfl <| WL.z rfl rfl ?_
 refine W.sr <| WL.m rfl rfl <| WL.c1 hb119 rfl rfl ((prt_copyCheck ⟨⟨a0, ha0, hr⟩, hown⟩)) (fun w1 hw1 => ?_)
 obtain ⟨hkc, huc, hzc⟩ := hw1
 have hoc := (hown).touch huc (Nat.lt_succ_self _)
 have hBc := KeepB.trans hB0 (KeepB.of_mem huc (List.mem_cons_self ..))
 refine WL.nil <| ?_
 refine W.sr <| WL.m rfl rfl <| WL.m rfl rfl <| WL.p (.nck rfl) rfl <| WL.p (.fa underlying113 rfl sizeOf22 dD rfl) rfl <| WL.r (Rd.ld (isAgg22 _) rfl hkc rfl) rfl <| WL.m rfl rfl <| WL.appSf underlying22 underlying9 inf5 rfl hoc rfl (by rw [byteVals_len]; omega) ((Nat.lt_of_lt_of_le hbl hBc.size)) rfl (fun v2 w3 how3 hbw3 hgw3 hfw3 => ?_)
 have hk4 := hkc.below hbw3 oO
 have hB5 := KeepB.trans hBc (KeepB.of_grown hgw3 (fun g hg => .inl (List.mem_cons_of_mem _ (Option.mem_toList.2 hg))) hBc.size)
 refine WL.p (.nck rfl) rfl <| WL.p (.fa underlying113 rfl sizeOf22 dD rfl) rfl <| WL.st sizeOf22 rfl rfl (by obtain ⟨pq, cq, e⟩ := (how3).slice; rw [e]; rfl) hk4 oD (fun w6 hkw6 huw6 hsw6 => ?_)
 have hkw6 : Blk w6 b _ _ := hkw6
 have huw6 : Upd b _ _ := huw6
 have ho7 := Own.touch how3 huw6 oM
 have hB8 := KeepB.trans hB5 (by first | exact KeepB.of_new huw6 oO | exact KeepB.of_mem huw6 (by simp))
 refine WL.nil <| ?_
 refine W.sr <| WL.m rfl rfl <| WL.p (.len underlying9 rfl) rfl <| WL.a rfl rfl <| WL.z rfl rfl ?_
 refine W.ret (W.ret2 rfl rfl rfl ?_)
 exact ⟨_, rfl, _, ⟨⟨_, .inr rfl, hkw6⟩, by rw [show byteVals (l ++ s) = byteVals l ++ byteVals s by simp [byteVals]]; exact ho7⟩, hB8, fun g hg => (hfw3 g hg).imp id fun h => Nat.le_trans hBc.size h⟩
theorem prt_WriteByte (b : Nat) (v : Value) (l : List UInt8) (c : UInt8) (w : World) (h : Prt w b v l) (hn : l.length ≤ 1000000) :
  Calls Tryz.prog 85 #[.pointer (some ⟨b, 0, none⟩), .int .u8 (c.toNat : Int)] w fun e w' => ∃ r, e = .returned r ∧ ∃ v', Prt w' b v' (l ++ [c]) ∧ Wr b v v' w w' := by
 obtain ⟨p', c', hv⟩ := h.own.slice
 obtain ⟨a0, ha0, hr⟩ := h.blk
 have hown := h.own
 have hbl := hr.lt
 subst hv
 refine W.enter func85 rfl ntmps85 (Nat.le_of_ble_eq_true rfl) ?_
 have hB0 := KeepB.refl w.heap.size (b :: (Value.slice p' (byteVals l).length c').ownBlock.toList) w
 refine W.sr <| WL.z rfl rfl ?_
 refine W.sr <| WL.m rfl rfl <| WL.c1 hb119 rfl rfl ((prt_copyCheck ⟨⟨a0, ha0, hr⟩, hown⟩)) (fun w1 hw1 => ?_)
 obtain ⟨hkc, huc, hzc⟩ := hw1
 have hoc := (hown).touch huc (Nat.lt_succ_self _)
 have hBc := KeepB.trans hB0 (KeepB.of_mem huc (List.mem_cons_self ..))
 refine WL.nil <| ?_
 refine W.sr <| WL.m rfl rfl <| WL.m rfl rfl <| WL.p (.nck rfl) rfl <| WL.p (.fa underlying113 rfl sizeOf22 dD rfl) rfl <| WL.r (Rd.ld (isAgg22 _) rfl hkc rfl) rfl <| WL.m rfl rfl <| WL.bsl (ps := _) underlying22 sizeOf5 zeroValue5 rfl rfl rfl rfl rfl pR rfl (fun b2 wb2 eb2 hkb2 hub2 hsb2 => ?_)
 have ho3 := Own.new hoc eb2 hub2
 have hl5 : b < b2 := by rw [eb2]; exact hkc.lt
 have hk4 := hkc.upd hub2 (Nat.ne_of_lt hl5)
 have hgeb2 : w.heap.size ≤ b2 := by rw [eb2]; exact hBc.size
 have hB6 := KeepB.trans hBc (KeepB.of_new hub2 hgeb2)
 refine WL.appmf underlying22 inf5 rfl rfl rfl ho3 rfl hkb2 rfl (by rw [byteVals_len]; omega) ((Nat.lt_of_lt_of_le hbl hB6.size)) rfl (fun v7 w8 how8 hbw8 hgw8 hfw8 => ?_)
 have hk9 := hk4.below hbw8 oO
 have hB10 := KeepB.trans hB6 (KeepB.of_grown hgw8 (fun g hg => .inl (List.mem_cons_of_mem _ (Option.mem_toList.2 hg))) hB6.size)
 refine WL.p (.nck rfl) rfl <| WL.p (.fa underlying113 rfl sizeOf22 dD rfl) rfl <| WL.st sizeOf22 rfl rfl (by obtain ⟨pq, cq, e⟩ := (how8).slice; rw [e]; rfl) hk9 oD (fun w11 hkw11 huw11 hsw11 => ?_)
 have hkw11 : Blk w11 b _ _ := hkw11
 have huw11 : Upd b _ _ := huw11
 have ho12 := Own.touch how8 huw11 oM
 have hB13 := KeepB.trans hB10 (by first | exact KeepB.of_new huw11 oO | exact KeepB.of_mem huw11 (by simp))
 refine WL.nil <| ?_
 refine W.sr <| WL.z rfl rfl ?_
 refine W.ret (W.ret1 rfl rfl ?_)
 exact ⟨_, rfl, _, ⟨⟨_, .inr rfl, hkw11⟩, Own.snoc ho12 c rfl⟩, hB13, fun g hg => (hfw8 g hg).imp id fun h => Nat.le_trans hB6.size h⟩
theorem prt_Len (b : Nat) (v : Value) (l : List UInt8) (w : World) (h : Prt w b v l) :
  Calls Tryz.prog 87 #[.pointer (some ⟨b, 0, none⟩)] w fun e w' => e = .returned (.int .i64 (l.length : Int)) ∧ w = w' := by
 obtain ⟨p', c', hv⟩ := h.own.slice
 obtain ⟨a0, ha0, hr⟩ := h.blk
 subst hv
 refine W.enter func87 rfl ntmps87 (Nat.le_of_ble_eq_true rfl) ?_
 refine W.sr <| WL.z rfl rfl ?_
 refine W.sr <| WL.m rfl rfl <| WL.p (.nck rfl) rfl <| WL.p (.fa underlying113 rfl sizeOf22 dD rfl) rfl <| WL.r (Rd.ld (isAgg22 _) rfl hr rfl) rfl <| WL.p (.lenS underlying22 rfl) rfl <| WL.z rfl rfl ?_
 refine W.ret (W.ret1 rfl rfl ?_)
 exact ⟨by rw [byteVals_len], rfl⟩
end
section
theorem Wr.trans {b : Nat} {v v1 v2 : Value} {w w1 w2 : World} (h : Wr b v v1 w w1) (k : Wr b v1 v2 w1 w2) : Wr b v v2 w w2 :=
 ⟨⟨k.1.os.trans h.1.os, k.1.tape.trans h.1.tape, k.1.output.trans h.1.output, Nat.le_trans h.1.size k.1.size, fun i hi hn => by
  rw [k.1.block i (Nat.lt_of_lt_of_le hi h.1.size) (fun hm => ?_), h.1.block i hi hn]
  simp only [List.mem_cons, Option.mem_toList, not_or] at hn hm
  rcases hm with e | e
  ·
   exact hn.1 e
  ·
   rcases h.2 i e with e2 | e2
   ·
    exact hn.2 e2
   ·
    omega⟩, fun g hg => by
  rcases k.2 g hg with e | e
  ·
   exact h.2 g e
  ·
   exact .inr (Nat.le_trans h.1.size e)⟩
theorem Wr.of_below {b : Nat} {v : Value} {w w1 : World} (h : Below w.heap.size w w1) : Wr b v v w w1 := ⟨KeepB.of_below h (Nat.le_refl _), fun _ hg => .inl hg⟩
theorem Wr.refl (b : Nat) (v : Value) (w : World) : Wr b v v w w := Wr.of_below (Below.refl _ _)
theorem Prt.below {w w1 : World} {b : Nat} {v : Value} {l : List UInt8} (h : Prt w b v l) (hb : Below w.heap.size w w1) : Prt w1 b v l := by
 obtain ⟨a, ha, hk⟩ := h.blk
 exact ⟨⟨a, ha, hk.below hb hk.lt⟩, h.own.below hb⟩
theorem Prt.lt {w : World} {b : Nat} {v : Value} {l : List UInt8} (h : Prt w b v l) : b < w.heap.size := by
 obtain ⟨a, -, hk⟩ := h.blk; exact hk.lt
/-- a block that is neither the printer's nor its slice's stands as it stood -/
theorem Blk.wr {b c : Nat} {v v' : Value} {w w1 : World} {cs : Array Value} {t : TypeId} (h : Blk w c cs t) (hw : Wr b v v' w w1) (h1 : c ≠ b) (h2 : v.ownBlock ≠ some c) : Blk w1 c cs t :=
 Blk.keepB h hw.1 h.lt (by simp only [List.mem_cons, Option.mem_toList, not_or]; exact ⟨h1, h2⟩)
theorem Wr.below {b : Nat} {v v' : Value} {w w1 : World} (hw : Wr b v v' w w1) {B : Nat} (hB : B ≤ w.heap.size) (hb : B ≤ b) (hv : ∀ g, v.ownBlock = some g → B ≤ g) : Below B w w1 :=
 KeepB.below hw.1 hB fun k hk => by
  simp only [List.mem_cons, Option.mem_toList] at hk
  rcases hk with rfl | e
  ·
   exact hb
  ·
   exact hv k e
theorem Prt.ge {w : World} {b : Nat} {v : Value} {l : List UInt8} (h : Prt w b v l) : ∀ g, v.ownBlock = some g → b < g := fun g hg => (h.own.lt g hg).1
theorem prt_word (b : Nat) (v : Value) (l s : List UInt8) (w : World) (h : Prt w b v l) (hn : l.length ≤ 1000000) (hs : s.length ≤ 1000) :
  Calls Tryz.prog 120 #[.pointer (some ⟨b, 0, none⟩), .string (bs s)] w fun e w' => ∃ r, e = .returned r ∧ r = .tuple #[] ∧ ∃ v', Prt w' b v' (l ++ 32 :: s) ∧ Wr b v v' w w' := by
 refine W.enter func120 rfl ntmps120 (Nat.le_of_ble_eq_true rfl) ?_
 refine W.reg <| WL.m rfl rfl <| WL.p (.nck rfl) rfl <| WL.p (.fa underlying115 rfl sizeOf113 dD rfl) rfl <| WL.m rfl rfl <| WL.p (.cat rfl rfl (by simp only [List.length_append, List.length_cons, List.length_nil] <;> omega)) rfl <| WL.call hb83 rfl rfl ((prt_WriteString b v l (32 :: s) _ h (by simp only [List.length_cons]; omega))) (fun r w1 hw1 => ?_)
 obtain ⟨v', hp', hw'⟩ := hw1
 refine WL.nil <| ?_
 refine W.norm (W.ret0 rfl ?_)
 exact ⟨_, rfl, rfl, v', hp', hw'⟩
end
section
theorem hb221 : HasBody Tryz.prog 221 := hasBody func221 kR
theorem ch_nat (k : Nat) : ch (48 + (k : Int)) = UInt8.ofNat (48 + k) := by
 have e : (48 + (k : Int)).toNat = 48 + k := by omega
 unfold ch; rw [e]
theorem decDigits_L : ∀ n : Nat, Lib.decDigits n = digitsL n := by
 intro n
 induction n using Nat.strongRecOn with
 | _ n ih =>
  rw [Lib.decDigits, digitsL]
  by_cases h : n < 10
  ·
   rw [dif_pos h, if_pos h, ch_nat]
  ·
   rw [dif_neg h, if_neg h, ch_nat, ih (n / 10) oO]
theorem decL_nat (i : Nat) : decL (i : Int) = digitsL i := by unfold decL; rw [if_neg oO]; simp
theorem lib_Itoa_small (n : Int) (h0 : 0 ≤ n) (h1 : n < 100) (w : World) : Calls Tryz.prog 179 #[.int .i64 n] w fun e w' => e = .returned (.string (bs (decL n))) ∧ w = w' := by
 obtain ⟨i, rfl⟩ : ∃ i : Nat, n = i := ⟨n.toNat, by omega⟩
 have hc := fun w1 => Tryz.internal_strconv_Itoa_small i oO w1
 refine W.enter func179 rfl ntmps179 (Nat.le_of_ble_eq_true rfl) ?_
 refine W.sr <| WL.z rfl rfl ?_
 refine W.sr <| WL.m rfl rfl <| WL.c1 hb221 rfl rfl (((hc _).mono fun e w1 h => ⟨h.1, h.2.symm⟩)) (fun w1 hw1 => ?_)
 obtain rfl := hw1
 refine WL.z rfl rfl ?_
 refine W.ret (W.ret1 rfl rfl ?_)
 exact ⟨by rw [decL_nat, ← decDigits_L]; rfl, rfl⟩
theorem prt_small (b : Nat) (v : Value) (l : List UInt8) (n : Int) (w : World) (h : Prt w b v l) (hn : l.length ≤ 1000000) (h0 : 0 ≤ n) (h1 : n < 100) :
  Calls Tryz.prog 124 #[.pointer (some ⟨b, 0, none⟩), .int .i64 n] w fun e w' => ∃ r, e = .returned r ∧ r = .tuple #[] ∧ ∃ v', Prt w' b v' (l ++ smT n) ∧ Wr b v v' w w' := by
 have hd := decL_le n oO oO
 refine W.enter func124 rfl ntmps124 (Nat.le_of_ble_eq_true rfl) ?_
 refine W.reg <| WL.m rfl rfl <| WL.m rfl rfl <| WL.c1 hb179 rfl rfl ((lib_Itoa_small n h0 h1 _)) (fun w1 hw1 => ?_)
 obtain rfl := hw1
 refine WL.call hb120 rfl rfl ((prt_word b v l (decL n) _ h hn oO)) (fun r w2 hw2 => ?_)
 obtain ⟨rfl, v', hp', hw'⟩ := hw2
 refine WL.nil <| ?_
 refine W.norm (W.ret0 rfl ?_)
 exact ⟨_, rfl, rfl, v', hp', hw'⟩
theorem prt_numbers (b : Nat) (v : Value) (l : List UInt8) (p : Option Addr) (ns : List Int) (c : Nat) (w : World) (h : Prt w b v l) (hr : RowAt intV w p ns) (hp : 0 < ns.length → (pA p).block ≠ b ∧ v.ownBlock ≠ some (pA p).block) (hn : l.length + 61 * ns.length ≤ 1000000) :
  Calls Tryz.prog 84 #[.pointer (some ⟨b, 0, none⟩), .slice p ns.length c] w fun e w' => ∃ r, e = .returned r ∧ r = .tuple #[] ∧ ∃ v', Prt w' b v' (l ++ numsT ns) ∧ Wr b v v' w w' := by
 have hrlt : 0 < ns.length → (pA p).block < w.heap.size := fun h0 => hr.lt h0
 refine W.enter func84 rfl ntmps84 (Nat.le_of_ble_eq_true rfl) ?_
 refine W.sr <| WL.m rfl rfl <| WL.p (.lenS underlying82 rfl) rfl <| WL.m rfl rfl <| WL.nil <| ?_
 refine W.block ?_
 refine W.loop (α := Nat × Value) (fun t => [(0, .pointer (some ⟨b, 0, none⟩)), (6, .slice p ns.length c), (7, .int .i64 (ns.length : Int)), (8, .int .i64 (t.1 : Int))]) (fun t w' => Prt w' b t.2 (l ++ numsT (ns.take t.1)) ∧ Wr b v t.2 w w' ∧ t.1 ≤ ns.length) (fun t => ns.length - t.1) ((0, v)) ⟨rfl, rfl, rfl, rfl, trivial⟩ (⟨by simpa [numsT] using h, Wr.refl _ _ _, Nat.zero_le _⟩) (fun t w1 hR => ?_)
 obtain ⟨i, v1⟩ := t
 obtain ⟨hP, hW, hi⟩ := hR
 simp only at hP hW hi ⊢
 have hrx : RowAt intV w1 p ns := ⟨hr.isp, fun j hj => by
  have h0 : 0 < ns.length := by omega
  rw [World.cell?_of_block (w := w) (hW.1.block _ (by rw [add_block]; exact hrlt h0) (by rw [add_block]; simp only [List.mem_cons, Option.mem_toList, not_or]; exact hp h0))]
  exact hr.cells j hj⟩
 have hlen := fm_take_len numT_len ns i
 refine W.sr <| WL.p (.lss rfl rfl) rfl <| WL.nil <| ?_
 refine W.seq <| W.cond rfl (fun h1 => ?_) (fun h1 => ?_)
 have h1' := dT h1
 have hil : i < ns.length := by omega
 have hnt : numsT (ns.take (i + 1)) = numsT (ns.take i) ++ numT ns[i] := flatMap_take hil
 have hnl := numT_len ns[i]
 have hpl : (printL (norm ns[i])).length ≤ 60 := by have := printL_size ns[i]; rw [bs_size] at this; exact this
 refine W.skip <| W.seq <| W.block <| W.sr <| WL.p (.ixb underlying82 sizeOf3 rfl rfl (hrx.isp oO) (i) (rfl) oO) rfl <| WL.r (Rd.ldc (isAgg3 _) rfl (hrx.cells (i) oO)) rfl <| WL.z rfl rfl ?_
 refine W.reg <| WL.m rfl rfl <| WL.m rfl rfl <| WL.c1 hb121 rfl rfl ((dec_Print _ _)) (fun w2 hw2 => ?_)
 have hbl := hw2
 refine WL.call hb120 rfl rfl ((prt_word b v1 _ (printL (norm ns[i])) _ (hP.below hbl) (by simp only [List.length_append, numsT]; omega) oO)) (fun r w3 hw3 => ?_)
 obtain ⟨rfl, v2, hp2, hw2⟩ := hw3
 refine WL.nil <| ?_
 refine W.reg <| WL.p (.iis (((i + 1 : Nat) : Int)) (.add rfl rfl (i64w oO)) oO) rfl <| WL.m rfl rfl <| WL.nil <| ?_
 exact ⟨(i + 1, v2), ⟨rfl, rfl, rfl, rfl, trivial⟩, ⟨by simp only []; rw [hnt, ← List.append_assoc]; exact hp2, (hW.trans (Wr.of_below hbl)).trans hw2, by ((try simp only) <;> omega)⟩, by ((try simp only) <;> omega)⟩
 have h1' := dF h1
 refine W.exit ?_
 refine W.norm (W.ret0 rfl ?_)
 exact ⟨_, rfl, rfl, v1, by rw [List.take_of_length_le oO] at hP; exact hP, hW⟩
end
section
section
variable {P : Program} {f : Fr}
theorem Pure.shr {x y : Operand} {tx ty : TypeId} {a r : Int} (hx : evo f x = some (.int .u8 a)) (hy : evo f y = some (.int .u64 4)) (hr : a / 16 = r) : Pure P (.binOp .shr tx x y ty) f (.int .u8 r) := fun ρ hρ d ty pos aft g w => by
 have e := shift_shr .u8 .u64 a 4 dD dD
 rw [show (2 : Int) ^ (4 : Int).toNat = 16 from rfl, hr] at e
 simp [execOp, hρ _ _ hx, hρ _ _ hy, eqGuard, binOp_shr, e]
theorem Pure.and {x y : Operand} {k : IntKind} {tx ty : TypeId} {a b r : Int} (hx : evo f x = some (.int k a)) (hy : evo f y = some (.int k b)) (hr : bits .and k a b = r) : Pure P (.binOp .and tx x y ty) f (.int k r) := fun ρ hρ d ty pos aft g w => by
 simp [execOp, hρ _ _ hx, hρ _ _ hy, eqGuard, binOp_and, intBits_and, hr]
end
end
section
theorem prt_color (b : Nat) (v : Value) (l : List UInt8) (x : ColorV) (w : World) (h : Prt w b v l) (hn : l.length ≤ 999000) (hs : x.fSpace = 1 ∨ x.fSpace = 3 ∨ x.fSpace = 4) :
  Calls Tryz.prog 123 #[.pointer (some ⟨b, 0, none⟩), .agg (colorV x).toArray] w fun e w' => ∃ r, e = .returned r ∧ r = .tuple #[] ∧ ∃ v', Prt w' b v' (l ++ colorT x) ∧ Wr b v v' w w' := by
 have hbw := h.lt
 have hvw : ∀ g, v.ownBlock = some g → g < w.heap.size := fun g hg => (h.own.lt g hg).2
 have hsl : (smT x.fSpace).length ≤ 22 := by have := decL_le x.fSpace oO oO; unfold smT; simp only [List.length_cons]; omega
 refine W.enter func123 rfl ntmps123 (Nat.le_of_ble_eq_true rfl) ?_
 refine W.sr <| WL.box rfl rfl (fun b1 wb1 eb1 hkb1 hub1 hsb1 => ?_)
 have hBx : Below w.heap.size w wb1 := Upd.below (Below.refl _ _) oO hub1
 refine WL.nil <| ?_
 refine W.sr <| WL.m rfl rfl <| WL.p (.fa underlying80 rfl sizeOf3 dD rfl) rfl <| WL.r (Rd.ld (isAgg3 _) rfl hkb1 rfl) rfl <| WL.call hb124 rfl rfl ((prt_small b v l x.fSpace _ (h.below hBx) oO oO oO)) (fun r w2 hw2 => ?_)
 obtain ⟨rfl, v1, hp1, hw1⟩ := hw2
 have hk1 := (hkb1).wr hw1 oO (fun e => by have := hvw _ e; omega)
 refine WL.nil <| ?_
 refine W.reg <| WL.m rfl rfl <| WL.p (.fa underlying80 rfl sizeOf78 dD rfl) rfl <| WL.p (.fa underlying80 rfl sizeOf3 dD rfl) rfl <| WL.r (Rd.ld (isAgg3 _) rfl hk1 rfl) rfl <| WL.p (.slaT underlying78 sizeOf3 rfl rfl (x.fSpace.toNat) oO oO) rfl <| WL.call hb84 rfl rfl ((by have hq := prt_numbers b v1 (l ++ smT x.fSpace) (some ⟨b1, 1, none⟩) ((parts x).take x.fSpace.toNat) 4 _ hp1 ⟨fun _ => rfl, fun j hj => by rw [(parts_row hk1).cells j (by simp only [List.length_take] at hj; omega), List.getElem_take]⟩ (fun _ => ⟨by show b1 ≠ b; omega, fun e => by rcases hw1.2 _ e with e2 | e2; exact absurd (hvw _ e2) (by show ¬ b1 < _; omega); exact absurd e2 (by show ¬ _ ≤ b1; omega)⟩) (by simp only [List.length_append, List.length_take]; omega); rw [List.length_take, Nat.min_eq_left (show x.fSpace.toNat ≤ (parts x).length by simp [parts]; omega)] at hq; exact hq)) (fun r2 w3 hw3 => ?_)
 obtain ⟨rfl, v2, hp2, hw2⟩ := hw3
 refine WL.nil <| ?_
 refine W.norm (W.ret0 rfl ?_)
 exact ⟨_, rfl, rfl, v2, by unfold colorT; rw [← List.append_assoc]; exact hp2, ((Wr.of_below hBx).trans hw1).trans hw2⟩
theorem hexT_two (c : UInt8) : hexT c = [digS[c.toNat / 16]'(by have := UInt8.toNat_lt c; simp [digS]; omega), digS[c.toNat % 16]'(by simp [digS]; omega)] := by
 have h1 : c.toNat / 16 < digS.length := by have := UInt8.toNat_lt c; simp [digS]; omega
 have h2 : c.toNat % 16 < digS.length := by simp [digS]; omega
 unfold hexT
 rw [List.drop_eq_getElem_cons h1, List.drop_eq_getElem_cons h2, show c.toNat / 16 + 1 - c.toNat / 16 = 1 by omega, show c.toNat % 16 + 1 - c.toNat % 16 = 1 by omega]; rfl
theorem bits15 (c : UInt8) : bits .and .u8 (c.toNat : Int) 15 = ((c.toNat % 16 : Nat) : Int) := by
 have key : ∀ n : Nat, n < 256 → bits .and .u8 (n : Int) 15 = ((n % 16 : Nat) : Int) := by decide +kernel
 exact key _ (UInt8.toNat_lt c)
def bytesT (s : List UInt8) : List UInt8 := [32, 120] ++ s.flatMap hexT
theorem prt_bytes (b : Nat) (v : Value) (l : List UInt8) (p : Option Addr) (s : List UInt8) (c : Nat) (w : World) (h : Prt w b v l) (hr : BytesAt w p s) (hp : 0 < s.length → (pA p).block ≠ b ∧ v.ownBlock ≠ some (pA p).block) (hn : l.length + 2 * s.length ≤ 990000) :
  Calls Tryz.prog 125 #[.pointer (some ⟨b, 0, none⟩), .slice p s.length c] w fun e w' => ∃ r, e = .returned r ∧ r = .tuple #[] ∧ ∃ v', Prt w' b v' (l ++ bytesT s) ∧ Wr b v v' w w' := by
 have hrlt : 0 < s.length → (pA p).block < w.heap.size := fun h0 => hr.lt h0
 refine W.enter func125 rfl ntmps125 (Nat.le_of_ble_eq_true rfl) ?_
 refine W.sr <| WL.m rfl rfl <| WL.call hb120 rfl rfl ((prt_word b v l [120] _ h oO dD)) (fun r w1 hw1 => ?_)
 obtain ⟨rfl, v0, hp0, hw0⟩ := hw1
 refine WL.nil <| ?_
 refine W.sr <| WL.m rfl rfl <| WL.p (.lenS underlying22 rfl) rfl <| WL.m rfl rfl <| WL.nil <| ?_
 refine W.block ?_
 refine W.loop (α := Nat × Value) (fun t => [(0, .pointer (some ⟨b, 0, none⟩)), (8, .slice p s.length c), (9, .int .i64 (s.length : Int)), (10, .int .i64 (t.1 : Int))]) (fun t w' => Prt w' b t.2 (l ++ [32, 120] ++ (s.take t.1).flatMap hexT) ∧ Wr b v t.2 w w' ∧ t.1 ≤ s.length) (fun t => s.length - t.1) ((0, v0)) ⟨rfl, rfl, rfl, rfl, trivial⟩ (⟨by simpa using hp0, hw0, Nat.zero_le _⟩) (fun t w1 hR => ?_)
 obtain ⟨i, v1⟩ := t
 obtain ⟨hP, hW, hi⟩ := hR
 simp only at hP hW hi ⊢
 have hrx : BytesAt w1 p s := ⟨hr.isp, fun j hj => by
  have h0 : 0 < s.length := by omega
  rw [World.cell?_of_block (w := w) (hW.1.block _ (by rw [add_block]; exact hrlt h0) (by rw [add_block]; simp only [List.mem_cons, Option.mem_toList, not_or]; exact hp h0))]
  exact hr.cells j hj⟩
 have hlen := fm_take_len hexT_len s i
 refine W.sr <| WL.p (.lss rfl rfl) rfl <| WL.nil <| ?_
 refine W.seq <| W.cond rfl (fun h2 => ?_) (fun h2 => ?_)
 have h2' := dT h2
 have hil : i < s.length := by omega
 have hnt : (s.take (i + 1)).flatMap hexT = (s.take i).flatMap hexT ++ hexT s[i] := flatMap_take hil
 have hd1 : s[i].toNat / 16 < digS.length := by have := UInt8.toNat_lt s[i]; simp [digS]; omega
 have hd2 : s[i].toNat % 16 < digS.length := by simp [digS]; omega
 refine W.skip <| W.seq <| W.block <| W.sr <| WL.p (.ixb underlying22 sizeOf5 rfl rfl (hrx.isp oO) (i) (rfl) oO) rfl <| WL.r (Rd.ldc (isAgg5 _) rfl (hrx.cells (i) oO)) rfl <| WL.z rfl rfl ?_
 refine W.seq <| W.regY 7 rfl mixed (fun w3 dw3 => ?_)
 refine WY.tk 0 rfl (.mv rfl) rfl ?_
 refine WY.tk 1 rfl (.nck rfl) rfl ?_
 refine WY.tk 2 rfl (.fa underlying115 rfl sizeOf113 dD rfl) rfl ?_
 refine WY.tk 3 rfl (.mv rfl) rfl ?_
 refine WY.tk 4 rfl (.shr rfl rfl (show ((s[i].toNat : Int)) / 16 = ((s[i].toNat / 16 : Nat) : Int) by omega)) rfl ?_
 refine WY.tk 5 rfl (.ixk underlying9 rfl rfl (s[i].toNat / 16) (rfl) (hd1)) rfl ?_
 refine WY.br1 6 rfl ?_
 refine WL.call hb85 rfl rfl ((prt_WriteByte b v1 _ digS[s[i].toNat / 16] _ (hP.below (dw3.below (Below.refl _ _))) (by simp only [List.length_append, List.length_cons, List.length_nil]; omega))) (fun r w4 hw4 => ?_)
 obtain ⟨v2, hp2, hw2⟩ := hw4
 have hW2 := (hW.trans (Wr.of_below (dw3.below (Below.refl _ _)))).trans hw2
 refine WL.nil <| ?_
 refine WY.done kR ?_
 refine W.regY 7 rfl mixed (fun w5 dw5 => ?_)
 refine WY.tk 0 rfl (.mv rfl) rfl ?_
 refine WY.tk 1 rfl (.nck rfl) rfl ?_
 refine WY.tk 2 rfl (.fa underlying115 rfl sizeOf113 dD rfl) rfl ?_
 refine WY.tk 3 rfl (.mv rfl) rfl ?_
 refine WY.tk 4 rfl (.and rfl rfl (bits15 s[i])) rfl ?_
 refine WY.tk 5 rfl (.ixk underlying9 rfl rfl (s[i].toNat % 16) (rfl) (hd2)) rfl ?_
 refine WY.br1 6 rfl ?_
 refine WL.call hb85 rfl rfl ((prt_WriteByte b v2 _ digS[s[i].toNat % 16] _ (hp2.below (dw5.below (Below.refl _ _))) (by simp only [List.length_append, List.length_cons, List.length_nil]; omega))) (fun r w6 hw6 => ?_)
 obtain ⟨v3, hp3, hw3⟩ := hw6
 have hW3 := (hW2.trans (Wr.of_below (dw5.below (Below.refl _ _)))).trans hw3
 refine WL.nil <| ?_
 refine WY.done kR ?_
 refine W.reg <| WL.p (.iis (((i + 1 : Nat) : Int)) (.add rfl rfl (i64w oO)) oO) rfl <| WL.m rfl rfl <| WL.nil <| ?_
 exact ⟨(i + 1, v3), ⟨rfl, rfl, rfl, rfl, trivial⟩, ⟨by simp only []; rw [hnt, hexT_two]; simpa using hp3, hW3, by ((try simp only) <;> omega)⟩, by ((try simp only) <;> omega)⟩
 have h2' := dF h2
 refine W.exit ?_
 refine W.norm (W.ret0 rfl ?_)
 exact ⟨_, rfl, rfl, v1, by rw [List.take_of_length_le oO] at hP; unfold bytesT; rw [← List.append_assoc]; exact hP, hW⟩
end
section
set_option maxHeartbeats 1600000 in
theorem prt_path (b : Nat) (v : Value) (t0 : List UInt8) (p : Option Addr) (l : List SegV) (c : Nat) (w : World) (h : Prt w b v t0) (hr : RowM segL w p l) (hp : 0 < l.length → (pA p).block ≠ b ∧ v.ownBlock ≠ some (pA p).block) (hn : t0.length + 368 * l.length ≤ 990000) :
  Calls Tryz.prog 122 #[.pointer (some ⟨b, 0, none⟩), .slice p l.length c] w fun e w' => ∃ r, e = .returned r ∧ r = .tuple #[] ∧ ∃ v', Prt w' b v' (t0 ++ pathT l) ∧ Wr b v v' w w' := by
 have hrlt : 0 < l.length → (pA p).block < w.heap.size := fun h0 => hr.lt h0
 refine W.enter func122 rfl ntmps122 (Nat.le_of_ble_eq_true rfl) ?_
 refine W.sr <| WL.m rfl rfl <| WL.p (.lenS underlying77 rfl) rfl <| WL.m rfl rfl <| WL.nil <| ?_
 refine W.block ?_
 refine W.loop (α := Nat × Value) (fun t => [(0, .pointer (some ⟨b, 0, none⟩)), (6, .slice p l.length c), (7, .int .i64 (l.length : Int)), (8, .int .i64 (t.1 : Int))]) (fun t w' => Prt w' b t.2 (t0 ++ pathT (l.take t.1)) ∧ Wr b v t.2 w w' ∧ t.1 ≤ l.length) (fun t => l.length - t.1) ((0, v)) ⟨rfl, rfl, rfl, rfl, trivial⟩ (⟨by simpa [pathT] using h, Wr.refl _ _ _, Nat.zero_le _⟩) (fun t w1 hR => ?_)
 obtain ⟨i, v1⟩ := t
 obtain ⟨hP, hW, hi⟩ := hR
 simp only at hP hW hi ⊢
 have hrx : RowM segL w1 p l := RowM.keepB hr hW.1 (fun h0 => ⟨hrlt h0, by simp only [List.mem_cons, Option.mem_toList, not_or]; exact hp h0⟩)
 have hlen := pathT_len (l.take i)
 rw [List.length_take] at hlen
 have hbw := hP.lt
 refine W.sr <| WL.p (.lss rfl rfl) rfl <| WL.nil <| ?_
 refine W.seq <| W.cond rfl (fun h1 => ?_) (fun h1 => ?_)
 have h1' := dT h1
 have hil : i < l.length := by omega
 have hnt : pathT (l.take (i + 1)) = pathT (l.take i) ++ segT l[i] := flatMap_take hil
 have hsl := segT_len l[i]
 have hp30 : 0 < [l[i].fP_0, l[i].fP_1, l[i].fP_2].length := by simp
 have hp31 : 1 < [l[i].fP_0, l[i].fP_1, l[i].fP_2].length := by simp
 have hp32 : 2 < [l[i].fP_0, l[i].fP_1, l[i].fP_2].length := by simp
 refine W.skip <| W.seq <| W.block <| W.sr <| WL.p (.ixm underlying77 sizeOf170 rfl rfl (hrx.isp oO) (i) (rfl) oO) rfl <| WL.r (Rd.ldS underlying170 rfl isz170 hrx (i) oO rfl) rfl <| WL.alloc zeroValue170 rfl (fun b2 wb2 eb2 hkb2 hub2 hsb2 => ?_)
 refine WL.stL rfl rfl hkb2 isz170 rfl rfl (fun w5 hkw5 huw5 hsw5 => ?_)
 refine WL.nil <| ?_
 refine W.seq ?_
 have hBx : Below w1.heap.size w1 w5 := Upd.below (Upd.below (Below.refl _ _) oO hub2) oO huw5
 refine W.reg <| WL.p (.fa underlying170 rfl sizeOf3 dD rfl) rfl <| WL.r (Rd.ld (isAgg3 _) rfl hkw5 rfl) rfl <| WL.nil <| ?_
 refine W.block <| W.sr <| WL.p (.eql rfl rfl) rfl <| WL.z rfl rfl ?_
 refine W.cond rfl (fun h7 => ?_) (fun h7 => ?_)
 have h7' := dT h7
 refine W.sr <| WL.m rfl rfl <| WL.call hb120 rfl rfl ((prt_word b v1 _ [109] _ (hP.below hBx) (by simp only [List.length_append]; omega) dD)) (fun r w8 hw8 => ?_)
 obtain ⟨rfl, v2, hp2, hw2⟩ := hw8
 have hk5 := (hkw5).wr hw2 oO (fun e => by have := (hP.own.lt _ e).2; omega)
 have hW2 := (hW.trans (Wr.of_below hBx)).trans hw2
 refine WL.nil <| ?_
 refine W.reg <| WL.m rfl rfl <| WL.p (.fa underlying170 rfl sizeOf168 dD rfl) rfl <| WL.p (.ixr underlying168 sizeOf167 rfl rfl 0 rfl oO) rfl <| WL.p (.fa underlying167 rfl sizeOf3 dD rfl) rfl <| WL.r (Rd.ldc (isAgg3 _) rfl (((seg_row0 hk5).field (0) oO 0 dD).trans rfl)) rfl <| WL.p (.fa underlying170 rfl sizeOf168 dD rfl) rfl <| WL.p (.ixr underlying168 sizeOf167 rfl rfl 0 rfl oO) rfl <| WL.p (.fa underlying167 rfl sizeOf3 dD rfl) rfl <| WL.r (Rd.ldc (isAgg3 _) rfl (((seg_row0 hk5).field (0) oO 1 dD).trans rfl)) rfl <| WL.bsl (ps := _) underlying82 sizeOf3 zeroValue3 rfl rfl rfl rfl rfl pR rfl (fun b9 wb9 eb9 hkb9 hub9 hsb9 => ?_)
 have hl11 : b2 < b9 := by rw [eb9]; exact hk5.lt
 have hz29 := RowAt.lit (V := intV) (l := [l[i].fP_0.fX, l[i].fP_0.fY]) hkb9 (rfl)
 refine WL.call hb84 rfl rfl ((prt_numbers b v2 _ _ [l[i].fP_0.fX, l[i].fP_0.fY] 2 _ (hp2.below (Upd.below (Below.refl _ _) oO hub9)) hz29 (fun _ => ⟨by show b9 ≠ b; have := hp2.lt; omega, fun e => by have := (hp2.own.lt _ e).2; have h3 : (pA (some (⟨b9, 0, none⟩ : Addr))).block = b9 := rfl; rw [h3] at this; omega⟩) (by simp only [List.length_append, List.length_cons, List.length_nil]; omega))) (fun r2 w12 hw12 => ?_)
 obtain ⟨rfl, v3, hp3, hw3⟩ := hw12
 have hW3 := (hW2.trans (Wr.of_below (Upd.below (Below.refl _ _) oO hub9))).trans hw3
 refine WL.nil <| ?_
 refine W.reg <| WL.p (.iis (((i + 1 : Nat) : Int)) (.add rfl rfl (i64w oO)) oO) rfl <| WL.m rfl rfl <| WL.nil <| ?_
 first
 | exact ⟨(i + 1, v3), ⟨rfl, rfl, rfl, rfl, trivial⟩, ⟨by simp only []; rw [hnt, segT, if_pos aS]; simpa [numsT] using hp3, hW3, by ((try simp only) <;> omega)⟩, by ((try simp only) <;> omega)⟩
 | exact ⟨(i + 1, v3), ⟨rfl, rfl, rfl, rfl, trivial⟩, ⟨by simp only []; rw [hnt, segT, if_neg oO, if_pos aS]; simpa [numsT] using hp3, hW3, by ((try simp only) <;> omega)⟩, by ((try simp only) <;> omega)⟩
 | exact ⟨(i + 1, v3), ⟨rfl, rfl, rfl, rfl, trivial⟩, ⟨by simp only []; rw [hnt, segT, if_neg oO, if_neg oO, if_pos aS]; simpa [numsT] using hp3, hW3, by ((try simp only) <;> omega)⟩, by ((try simp only) <;> omega)⟩
 | exact ⟨(i + 1, v2), ⟨rfl, rfl, rfl, rfl, trivial⟩, ⟨by simp only []; rw [hnt, segT, if_neg oO, if_neg oO, if_neg oO]; simpa using hp2, hW2, by ((try simp only) <;> omega)⟩, by ((try simp only) <;> omega)⟩
 have h7' := dF h7
 refine W.sr <| WL.p (.eql rfl rfl) rfl <| WL.z rfl rfl ?_
 refine W.cond rfl (fun h13 => ?_) (fun h13 => ?_)
 have h13' := dT h13
 refine W.sr <| WL.m rfl rfl <| WL.call hb120 rfl rfl ((prt_word b v1 _ [108] _ (hP.below hBx) (by simp only [List.length_append]; omega) dD)) (fun r w14 hw14 => ?_)
 obtain ⟨rfl, v2, hp2, hw2⟩ := hw14
 have hk5 := (hkw5).wr hw2 oO (fun e => by have := (hP.own.lt _ e).2; omega)
 have hW2 := (hW.trans (Wr.of_below hBx)).trans hw2
 refine WL.nil <| ?_
 refine W.reg <| WL.m rfl rfl <| WL.p (.fa underlying170 rfl sizeOf168 dD rfl) rfl <| WL.p (.ixr underlying168 sizeOf167 rfl rfl 0 rfl oO) rfl <| WL.p (.fa underlying167 rfl sizeOf3 dD rfl) rfl <| WL.r (Rd.ldc (isAgg3 _) rfl (((seg_row0 hk5).field (0) oO 0 dD).trans rfl)) rfl <| WL.p (.fa underlying170 rfl sizeOf168 dD rfl) rfl <| WL.p (.ixr underlying168 sizeOf167 rfl rfl 0 rfl oO) rfl <| WL.p (.fa underlying167 rfl sizeOf3 dD rfl) rfl <| WL.r (Rd.ldc (isAgg3 _) rfl (((seg_row0 hk5).field (0) oO 1 dD).trans rfl)) rfl <| WL.bsl (ps := _) underlying82 sizeOf3 zeroValue3 rfl rfl rfl rfl rfl pR rfl (fun b15 wb15 eb15 hkb15 hub15 hsb15 => ?_)
 have hl17 : b2 < b15 := by rw [eb15]; exact hk5.lt
 have hz44 := RowAt.lit (V := intV) (l := [l[i].fP_0.fX, l[i].fP_0.fY]) hkb15 (rfl)
 refine WL.call hb84 rfl rfl ((prt_numbers b v2 _ _ [l[i].fP_0.fX, l[i].fP_0.fY] 2 _ (hp2.below (Upd.below (Below.refl _ _) oO hub15)) hz44 (fun _ => ⟨by show b15 ≠ b; have := hp2.lt; omega, fun e => by have := (hp2.own.lt _ e).2; have h3 : (pA (some (⟨b15, 0, none⟩ : Addr))).block = b15 := rfl; rw [h3] at this; omega⟩) (by simp only [List.length_append, List.length_cons, List.length_nil]; omega))) (fun r2 w18 hw18 => ?_)
 obtain ⟨rfl, v3, hp3, hw3⟩ := hw18
 have hW3 := (hW2.trans (Wr.of_below (Upd.below (Below.refl _ _) oO hub15))).trans hw3
 refine WL.nil <| ?_
 refine W.reg <| WL.p (.iis (((i + 1 : Nat) : Int)) (.add rfl rfl (i64w oO)) oO) rfl <| WL.m rfl rfl <| WL.nil <| ?_
 first
 | exact ⟨(i + 1, v3), ⟨rfl, rfl, rfl, rfl, trivial⟩, ⟨by simp only []; rw [hnt, segT, if_pos aS]; simpa [numsT] using hp3, hW3, by ((try simp only) <;> omega)⟩, by ((try simp only) <;> omega)⟩
 | exact ⟨(i + 1, v3), ⟨rfl, rfl, rfl, rfl, trivial⟩, ⟨by simp only []; rw [hnt, segT, if_neg oO, if_pos aS]; simpa [numsT] using hp3, hW3, by ((try simp only) <;> omega)⟩, by ((try simp only) <;> omega)⟩
 | exact ⟨(i + 1, v3), ⟨rfl, rfl, rfl, rfl, trivial⟩, ⟨by simp only []; rw [hnt, segT, if_neg oO, if_neg oO, if_pos aS]; simpa [numsT] using hp3, hW3, by ((try simp only) <;> omega)⟩, by ((try simp only) <;> omega)⟩
 | exact ⟨(i + 1, v2), ⟨rfl, rfl, rfl, rfl, trivial⟩, ⟨by simp only []; rw [hnt, segT, if_neg oO, if_neg oO, if_neg oO]; simpa using hp2, hW2, by ((try simp only) <;> omega)⟩, by ((try simp only) <;> omega)⟩
 have h13' := dF h13
 refine W.sr <| WL.p (.eql rfl rfl) rfl <| WL.z rfl rfl ?_
 refine W.cond rfl (fun h19 => ?_) (fun h19 => ?_)
 have h19' := dT h19
 refine W.sr <| WL.m rfl rfl <| WL.call hb120 rfl rfl ((prt_word b v1 _ [99] _ (hP.below hBx) (by simp only [List.length_append]; omega) dD)) (fun r w20 hw20 => ?_)
 obtain ⟨rfl, v2, hp2, hw2⟩ := hw20
 have hk5 := (hkw5).wr hw2 oO (fun e => by have := (hP.own.lt _ e).2; omega)
 have hW2 := (hW.trans (Wr.of_below hBx)).trans hw2
 refine WL.nil <| ?_
 refine W.reg <| WL.m rfl rfl <| WL.p (.fa underlying170 rfl sizeOf168 dD rfl) rfl <| WL.p (.ixr underlying168 sizeOf167 rfl rfl 0 rfl oO) rfl <| WL.p (.fa underlying167 rfl sizeOf3 dD rfl) rfl <| WL.r (Rd.ldc (isAgg3 _) rfl (((seg_row0 hk5).field (0) oO 0 dD).trans rfl)) rfl <| WL.p (.fa underlying170 rfl sizeOf168 dD rfl) rfl <| WL.p (.ixr underlying168 sizeOf167 rfl rfl 0 rfl oO) rfl <| WL.p (.fa underlying167 rfl sizeOf3 dD rfl) rfl <| WL.r (Rd.ldc (isAgg3 _) rfl (((seg_row0 hk5).field (0) oO 1 dD).trans rfl)) rfl <| WL.p (.fa underlying170 rfl sizeOf168 dD rfl) rfl <| WL.p (.ixr underlying168 sizeOf167 rfl rfl 1 rfl oO) rfl <| WL.p (.fa underlying167 rfl sizeOf3 dD rfl) rfl <| WL.r (Rd.ldc (isAgg3 _) rfl (((seg_row0 hk5).field (1) oO 0 dD).trans rfl)) rfl <| WL.p (.fa underlying170 rfl sizeOf168 dD rfl) rfl <| WL.p (.ixr underlying168 sizeOf167 rfl rfl 1 rfl oO) rfl <| WL.p (.fa underlying167 rfl sizeOf3 dD rfl) rfl <| WL.r (Rd.ldc (isAgg3 _) rfl (((seg_row0 hk5).field (1) oO 1 dD).trans rfl)) rfl <| WL.p (.fa underlying170 rfl sizeOf168 dD rfl) rfl <| WL.p (.ixr underlying168 sizeOf167 rfl rfl 2 rfl oO) rfl <| WL.p (.fa underlying167 rfl sizeOf3 dD rfl) rfl <| WL.r (Rd.ldc (isAgg3 _) rfl (((seg_row0 hk5).field (2) oO 0 dD).trans rfl)) rfl <| WL.p (.fa underlying170 rfl sizeOf168 dD rfl) rfl <| WL.p (.ixr underlying168 sizeOf167 rfl rfl 2 rfl oO) rfl <| WL.p (.fa underlying167 rfl sizeOf3 dD rfl) rfl <| WL.r (Rd.ldc (isAgg3 _) rfl (((seg_row0 hk5).field (2) oO 1 dD).trans rfl)) rfl <| WL.bsl (ps := _) underlying82 sizeOf3 zeroValue3 rfl rfl rfl rfl rfl pR rfl (fun b21 wb21 eb21 hkb21 hub21 hsb21 => ?_)
 have hl23 : b2 < b21 := by rw [eb21]; exact hk5.lt
 have hz75 := RowAt.lit (V := intV) (l := [l[i].fP_0.fX, l[i].fP_0.fY, l[i].fP_1.fX, l[i].fP_1.fY, l[i].fP_2.fX, l[i].fP_2.fY]) hkb21 (rfl)
 refine WL.call hb84 rfl rfl ((prt_numbers b v2 _ _ [l[i].fP_0.fX, l[i].fP_0.fY, l[i].fP_1.fX, l[i].fP_1.fY, l[i].fP_2.fX, l[i].fP_2.fY] 6 _ (hp2.below (Upd.below (Below.refl _ _) oO hub21)) hz75 (fun _ => ⟨by show b21 ≠ b; have := hp2.lt; omega, fun e => by have := (hp2.own.lt _ e).2; have h3 : (pA (some (⟨b21, 0, none⟩ : Addr))).block = b21 := rfl; rw [h3] at this; omega⟩) (by simp only [List.length_append, List.length_cons, List.length_nil]; omega))) (fun r2 w24 hw24 => ?_)
 obtain ⟨rfl, v3, hp3, hw3⟩ := hw24
 have hW3 := (hW2.trans (Wr.of_below (Upd.below (Below.refl _ _) oO hub21))).trans hw3
 refine WL.nil <| ?_
 refine W.reg <| WL.p (.iis (((i + 1 : Nat) : Int)) (.add rfl rfl (i64w oO)) oO) rfl <| WL.m rfl rfl <| WL.nil <| ?_
 first
 | exact ⟨(i + 1, v3), ⟨rfl, rfl, rfl, rfl, trivial⟩, ⟨by simp only []; rw [hnt, segT, if_pos aS]; simpa [numsT] using hp3, hW3, by ((try simp only) <;> omega)⟩, by ((try simp only) <;> omega)⟩
 | exact ⟨(i + 1, v3), ⟨rfl, rfl, rfl, rfl, trivial⟩, ⟨by simp only []; rw [hnt, segT, if_neg oO, if_pos aS]; simpa [numsT] using hp3, hW3, by ((try simp only) <;> omega)⟩, by ((try simp only) <;> omega)⟩
 | exact ⟨(i + 1, v3), ⟨rfl, rfl, rfl, rfl, trivial⟩, ⟨by simp only []; rw [hnt, segT, if_neg oO, if_neg oO, if_pos aS]; simpa [numsT] using hp3, hW3, by ((try simp only) <;> omega)⟩, by ((try simp only) <;> omega)⟩
 | exact ⟨(i + 1, v2), ⟨rfl, rfl, rfl, rfl, trivial⟩, ⟨by simp only []; rw [hnt, segT, if_neg oO, if_neg oO, if_neg oO]; simpa using hp2, hW2, by ((try simp only) <;> omega)⟩, by ((try simp only) <;> omega)⟩
 have h19' := dF h19
 refine W.reg <| WL.m rfl rfl <| WL.call hb120 rfl rfl ((prt_word b v1 _ [104] _ (hP.below hBx) (by simp only [List.length_append]; omega) dD)) (fun r w25 hw25 => ?_)
 obtain ⟨rfl, v2, hp2, hw2⟩ := hw25
 have hk5 := (hkw5).wr hw2 oO (fun e => by have := (hP.own.lt _ e).2; omega)
 have hW2 := (hW.trans (Wr.of_below hBx)).trans hw2
 refine WL.nil <| ?_
 refine W.reg <| WL.p (.iis (((i + 1 : Nat) : Int)) (.add rfl rfl (i64w oO)) oO) rfl <| WL.m rfl rfl <| WL.nil <| ?_
 first
 | exact ⟨(i + 1, v3), ⟨rfl, rfl, rfl, rfl, trivial⟩, ⟨by simp only []; rw [hnt, segT, if_pos aS]; simpa [numsT] using hp3, hW3, by ((try simp only) <;> omega)⟩, by ((try simp only) <;> omega)⟩
 | exact ⟨(i + 1, v3), ⟨rfl, rfl, rfl, rfl, trivial⟩, ⟨by simp only []; rw [hnt, segT, if_neg oO, if_pos aS]; simpa [numsT] using hp3, hW3, by ((try simp only) <;> omega)⟩, by ((try simp only) <;> omega)⟩
 | exact ⟨(i + 1, v3), ⟨rfl, rfl, rfl, rfl, trivial⟩, ⟨by simp only []; rw [hnt, segT, if_neg oO, if_neg oO, if_pos aS]; simpa [numsT] using hp3, hW3, by ((try simp only) <;> omega)⟩, by ((try simp only) <;> omega)⟩
 | exact ⟨(i + 1, v2), ⟨rfl, rfl, rfl, rfl, trivial⟩, ⟨by simp only []; rw [hnt, segT, if_neg oO, if_neg oO, if_neg oO]; simpa using hp2, hW2, by ((try simp only) <;> omega)⟩, by ((try simp only) <;> omega)⟩
 have h1' := dF h1
 refine W.exit ?_
 refine W.norm (W.ret0 rfl ?_)
 exact ⟨_, rfl, rfl, v1, by rw [List.take_of_length_le oO] at hP; exact hP, hW⟩
end
section
theorem inf3 : (Tryz.prog.info? 3).map (fun i => (i.zero, i.size, i.bytes)) = some (some (.int .i64 0), 1, 8) := by kernel_rfl
def intL : Lay Int := ⟨1, fun n => [.int .i64 n], by decide, fun _ => rfl, fun x u hu => by simp only [List.mem_singleton] at hu; subst hu; rfl⟩
theorem RowAt.rowI {w : World} {p : Option Addr} {l : List Int} (h : RowAt intV w p l) : RowM intL w p l := ⟨h.isp, fun j hj i hi => by
 have h1 : i < 1 := hi
 obtain rfl : i = 0 := by omega
 rw [show j * intL.m + 0 = j by show j * 1 + 0 = j; omega, h.cells j hj]; rfl⟩
theorem RowM.atI {w : World} {p : Option Addr} {l : List Int} (h : RowM intL w p l) : RowAt intV w p l := ⟨h.isp, fun j hj => by
 have := h.cells j hj 0 dD
 rw [show j * intL.m + 0 = j by show j * 1 + 0 = j; omega] at this
 exact this⟩
theorem lib_CloneI (p : Option Addr) (l : List Int) (c : Nat) (w : World) (h : RowM intL w p l) (hc : l = [] → c = 0 ∨ p ≠ none) (hl : l.length ≤ 10000000) :
  Calls Tryz.prog 180 #[.slice p l.length c] w fun e w' => ∃ v, e = .returned v ∧ Below w.heap.size w w' ∧ OwnM intL 3 w.heap.size w' v l := by
 refine W.enter func180 rfl ntmps180 (Nat.le_of_ble_eq_true rfl) ?_
 have hB0 := Below.refl (w.heap.size) w
 refine W.sr <| WL.z rfl rfl ?_
 refine W.seq <| W.sr <| WL.m rfl rfl <| WL.p (.eqSN underlying82 rfl) rfl <| WL.nil <| ?_
 refine W.cond rfl (fun h1 => ?_) (fun h1 => ?_)
 have hp : p = none := by cases p with | none => rfl | some a => exact absurd (show (some a).isNone = true by assumption) (by simp)
 have hl0 : l = [] := by
  cases l with
  | nil => rfl
  | cons x r => have := h.isp (by simp); rw [hp] at this; cases this
 refine W.sr <| WL.z rfl rfl ?_
 refine W.ret (W.ret1 rfl rfl ?_)
 first
 | exact ⟨_, rfl, hB0, by rw [hl0]; exact OwnM.nil _ _ _ _⟩
 | exact ⟨_, rfl, hB0, (OWN).base (fun g hg => Nat.le_trans (Nat.le_of_eq eb2.symm) ((OWN).lt g hg).1)⟩
 refine W.skip <| W.sr <| WL.bsl0 underlying82 sizeOf3 rfl (fun b2 wb2 eb2 hob2 hub2 hsb2 => ?_)
 have hvl4 := fun h0 => eb2 ▸ h.lt h0
 have hv3 := RowM.upd h hub2 (fun h0 => Nat.ne_of_lt (hvl4 h0))
 have hB5 := Upd.below hB0 (by rw [eb2]; exact hB0.size) hub2
 have hgeb2 : w.heap.size ≤ b2 := by rw [eb2]; exact hB0.size
 have hob2 := OwnM.of (L := intL) (l := []) (hob2 b2 (Nat.le_refl _))
 have hleb2 : b2 ≤ wb2.heap.size := by omega
 refine WL.m rfl rfl <| WL.appM underlying82 inf3 rfl rfl rfl hob2 rfl hv3 (by simp only [List.length_nil]; omega) (hleb2) rfl (hc) (fun v6 w7 how7 hbw7 hgw7 hfw7 => ?_)
 have hB9 := Below.trans hB5 (hbw7.mono (hgeb2))
 have hle10 := Nat.le_trans hleb2 hbw7.size
 refine WL.z rfl rfl ?_
 refine W.ret (W.ret1 rfl rfl ?_)
 first
 | exact ⟨_, rfl, hB9, by rw [hl0]; exact OwnM.nil _ _ _ _⟩
 | exact ⟨_, rfl, hB9, (how7).base (fun g hg => Nat.le_trans (Nat.le_of_eq eb2.symm) ((how7).lt g hg).1)⟩
end
section
theorem cb8 : Tryz.prog.cellsOf 5 = 1 := by kernel_rfl
set_option maxHeartbeats 1000000 in
set_option maxRecDepth 100000 in
theorem prt_String (b : Nat) (v : Value) (l : List UInt8) (w : World) (h : Prt w b v l) (h0 : l ≠ []) :
  Calls Tryz.prog 88 #[.pointer (some ⟨b, 0, none⟩)] w fun e w' => e = .returned (.string (bs l)) ∧ Below (b + 1) w w' := by
 have hown := h.own
 obtain ⟨p, hp, hbk⟩ := h.blk
 have hl0 : (byteVals l).length ≠ 0 := by rw [byteVals_len]; simpa using h0
 obtain ⟨g, cap, cur, rfl, hbg, hg, hnc, hcm, hcs, htake⟩ : ∃ g cap cur, v = .slice (some ⟨g, 0, none⟩) (byteVals l).length cap ∧ b + 1 ≤ g ∧ w.heap[g]? = some (.cells cur 5 (0, 0)) ∧ (byteVals l).length ≤ cap ∧ cap ≤ maxLen ∧ cur.size = cap * 1 ∧ cur.toList.take ((byteVals l).length * 1) = byteVals l := by
  rcases hown.2 with ⟨_, hz⟩ | ⟨g, cap, cur, hv, r⟩
  ·
   exact absurd hz hl0
  ·
   exact ⟨g, cap, cur, hv, r⟩
 rw [byteVals_len] at *
 have c1 : w.drew.cell? ⟨b, 1, none⟩ = some (.slice (some ⟨g, 0, none⟩) l.length cap) := by
  have : w.drew.heap[b]? = some (.cells #[.pointer p, .slice (some ⟨g, 0, none⟩) l.length cap] 115 (0, 0)) := hbk
  rw [Lib.cell_of_heap this]; rfl
 have hSD : (Builtin.unsafeSliceData_ #[22] 160 #[.slice (some ⟨g, 0, none⟩) l.length cap]).run Tryz.prog w.drew = .ok (.pointer (some ⟨g, 0, none⟩)) w.drew :=
  Lib.run_unsafeSliceData_row _ _ _ _ _ _ oO
 have hUS : (Builtin.unsafeString_ #[160, 3] 9 #[.pointer (some ⟨g, 0, none⟩), .int .i64 l.length]).run Tryz.prog w.drew = .ok (.string ⟨l.toArray⟩) (w.drew.freeze ⟨g, 0, none⟩ l.length) := by
  refine Lib.run_unsafeString_row w.drew 160 3 9 5 underlying160 cb8 g cur.size (by have hg' : w.drew.heap[g]? = some (.cells cur 5 (0, 0)) := hg; simp [World.shape?, hg']) l h0 oO (by unfold maxLen at hcm; omega) ?_
  intro j x hx
  have := World.ownsRow.cells hown (g := g) rfl j (.int .u8 x.toNat) (by simp [byteVals, hx])
  exact this
 have mixed := mixed
 go_enter func88, ntmps88
 go_wp2
 go_region_o
 all_goals (go_wp2; go_ret; exact ⟨rfl, Lib.below_freeze (Below.drew (Below.refl _ w)) (p := ⟨g, 0, none⟩) hbg _⟩)
theorem unsafeString_none (W : World) (q : Option Addr) : (Builtin.unsafeString_ #[160, 3] 9 #[.pointer q, .int .i64 0]).run Tryz.prog W = .ok (.string .empty) W :=
 Lib.run_unsafeString_none W _ _ _ q
set_option maxHeartbeats 1000000 in
set_option maxRecDepth 100000 in
theorem prt_String0 (b : Nat) (p : Option Addr) (w : World) (hbk : Blk w b #[.pointer p, .slice none 0 0] 115) :
  Calls Tryz.prog 88 #[.pointer (some ⟨b, 0, none⟩)] w fun e w' => e = .returned (.string (bs [])) ∧ Below (b + 1) w w' := by
 have hUS := unsafeString_none
 have c1 : w.drew.cell? ⟨b, 1, none⟩ = some (.slice none 0 0) := by
  have : w.drew.heap[b]? = some (.cells #[.pointer p, .slice none 0 0] 115 (0, 0)) := hbk
  rw [Lib.cell_of_heap this]; rfl
 have hSD : (Builtin.unsafeSliceData_ #[22] 160 #[.slice none 0 0]).run Tryz.prog w.drew = .ok (.pointer none) w.drew := rfl
 have mixed := mixed
 go_enter func88, ntmps88
 go_wp2
 go_region_o
 all_goals (go_wp2; go_ret; exact ⟨rfl, Below.drew (Below.refl _ w)⟩)
end
section
open Go.RowKit Go.WideShapes Go.ChangeShapes
theorem fold_set : ∀ (vs : List Value) (s o : Nat) (pre mid post : List Value), pre.length = o + s → mid.length = vs.length →
  (vs.zipIdx s).foldl (fun (cs : Array Value) (x : Value × Nat) => cs.setIfInBounds (o + x.2) x.1) (pre ++ mid ++ post).toArray = (pre ++ vs ++ post).toArray
 | [], s, o, pre, mid, post, h1, h2 => by
  obtain rfl : mid = [] := List.length_eq_zero_iff.1 (by simpa using h2)
  rfl
 | v :: r, s, o, pre, [], post, h1, h2 => by simp at h2
 | v :: r, s, o, pre, m0 :: mr, post, h1, h2 => by
  have ih := fold_set r (s + 1) o (pre ++ [v]) mr post (by simp; omega) (by simpa using h2)
  rw [List.zipIdx_cons, List.foldl_cons]
  have e : (pre ++ m0 :: mr ++ post).toArray.setIfInBounds (o + s) v = (pre ++ [v] ++ mr ++ post).toArray := by
   rw [← h1]
   simp
  rw [e, ih]
  simp
theorem fill_flat {α : Type} (L : Lay α) : ∀ (xs : List α) (i : Nat) (pre post : List Value), pre.length = i * L.m → post.length = xs.length * L.m →
  Instr.fill (fun i => some (i * L.m, L.m)) (pre ++ post).toArray ((List.range' i xs.length).zip (xs.map fun x => Value.agg (L.V x).toArray)) = some (pre ++ L.flat xs).toArray
 | [], i, pre, post, h1, h2 => by
  obtain rfl : post = [] := List.length_eq_zero_iff.1 (by simpa using h2)
  rfl
 | x :: r, i, pre, post, h1, h2 => by
  have hlx := L.len x
  have h2' : post.length = r.length * L.m + L.m := by rw [h2, List.length_cons, Nat.succ_mul]
  have ih := fill_flat L r (i + 1) (pre ++ L.V x) (post.drop L.m) (by rw [List.length_append, h1, hlx, Nat.succ_mul]) (by rw [List.length_drop]; omega)
  have hf := fold_set (L.V x) 0 (i * L.m) pre (post.take L.m) (post.drop L.m) oO (by rw [List.length_take, hlx]; omega)
  rw [List.append_assoc pre, List.take_append_drop] at hf
  have hc : (Value.agg (L.V x).toArray).cells = (L.V x).toArray := rfl
  rw [List.length_cons, List.range'_succ, List.map_cons, List.zip_cons_cons]
  conv => lhs; unfold Instr.fill
  simp only [hc]
  rw [if_neg (by simp [hlx]; omega)]
  refine Eq.trans (congrArg (fun c => Instr.fill (fun i => some (i * L.m, L.m)) c ((List.range' (i + 1) r.length).zip (r.map fun x => Value.agg (L.V x).toArray))) ?_) (ih.trans (by simp [Lay.flat]))
  rw [← hf]
  simp
section
variable {P : Program} {n : Sh} {f : Fr} {α : Type} {L : Lay α}
/-- a slice made of its structs -/
theorem WL.bslM {ops : Array Oper} {Q : Exit → Fr → World → Prop} {w : World} {rest : List Oper} {d ty : Nat} {pos : String} {aft : Array Edge} {t e : TypeId} {len : Nat} {ps : List (Nat × Operand)} {vs : List Value} {z : Value} (xs : List α)
  (hu : P.underlying t = some (.slice e)) (hs : ∀ w, (sizeOf e).run P w = .ok L.m w) (hz : ∀ w, (zeroValue e).run P w = .ok z w) (_hzs : z.cells.size = L.m) (hl0 : Nat.blt 0 len = true) (hl1 : Nat.ble (len * L.m) 1000 = true)
  (hx : evs f (ps.map (·.2)) = some vs) (hi : ps.map (·.1) = List.range' 0 len) (hv : vs = xs.map fun x => Value.agg (L.V x).toArray) (hl : len = xs.length) (hd : Nat.blt d n.n = true)
  (k : ∀ b w1, b = w.heap.size → OwnM L e b w1 (.slice (some ⟨b, 0, none⟩) len len) xs → Upd b w w1 → w1.heap.size = b + 1 → WL P n ops Q rest ((d, .slice (some ⟨b, 0, none⟩) len len) :: f) w1) :
  WL P n ops Q (⟨some d, .buildSlice t len ps.toArray, ty, pos, aft, none⟩ :: rest) f w := by
 have h0 : 0 < len := by simpa [Nat.blt_eq] using hl0
 have h1 : len * L.m ≤ 1000 := by simpa using hl1
 have hlm : len ≤ len * L.m := Nat.le_mul_of_pos_right _ L.pos
 refine WL.run hd (w' := w.alloc (.cells (L.flat xs).toArray e)) (v := .slice (some ⟨w.heap.size, 0, none⟩) len len) (fun ρ hρ => ?_) (k _ _ rfl (.inr ⟨w.heap.size, len, _, by rw [← hl], Nat.le_refl _, Blk.alloc _ _ _, by rw [← hl]; exact Nat.le_refl _, by unfold maxLen; omega, by rw [List.size_toArray, L.flat_len, ← hl]; exact Nat.le_refl _, by show (L.flat xs).take _ = _; rw [List.take_of_length_le (by rw [L.flat_len]; exact Nat.le_refl _)]⟩) (Upd.alloc _ _) (by simp))
 have e1 := evs_map hρ _ _ hx
 have e2 : (ps.toArray.map fun (i, x) => (i, ρ x)).toList = (ps.map (·.1)).zip vs := by
  rw [← e1]
  simp only [List.map_map, Array.toList_map]
  clear hx hi hv e1
  induction ps with
  | nil => rfl
  | cons p r ih => simpa using ih
 have hfill := fill_flat L xs 0 [] ((Array.range (len * L.m)).map (fun x => z.cells[x % z.cells.size]!)).toList (by simp) (by simp [hl])
 simp only [List.nil_append, Array.toArray_toList] at hfill
 rw [hi, hl, hv] at e2
 rw [← hl] at e2 hfill
 have hne : ¬ len * L.m = 0 := by omega
 have hbig : ¬ 16777216 < len * L.m := by omega
 unfold execOp
 simp only [Instr.buildSlice, Sem.run_bind, run_underlying hu, hs, Result.andThen_ok, e2]
 rw [if_neg oO, if_neg hne]
 simp only [Sem.run_bind, hz, Sem.run_pure, Result.andThen_ok, hfill]
 simp [newRow]
theorem flat_set_field (L : Lay α) (l : List α) (k i : Nat) (hk : k < l.length) (hi : i < L.m) (o : α) (v : Value) (hv : L.V o = (L.V l[k]).set i v) : (L.flat l).set (k * L.m + i) v = L.flat (l.set k o) := by
 have e0 := list_set_flat L l k hk l[k]
 rw [List.set_getElem_self] at e0
 have hl := L.flat_len l
 have hkm : k * L.m + L.m ≤ l.length * L.m := by rw [← Nat.succ_mul]; exact Nat.mul_le_mul_right _ hk
 have ht : ((L.flat l).take (k * L.m)).length = k * L.m := by rw [List.length_take]; omega
 have hlk := L.len l[k]
 rw [← list_set_flat L l k hk o, hv]
 conv => lhs; rw [← e0]
 rw [List.append_assoc, List.set_append_right _ _ oO, ht, Nat.add_sub_cancel_left, List.set_append_left _ _ oO, List.append_assoc]
/-- a field of a struct written in a row of the call's own -/
theorem WL.stF {ops : Array Oper} {Q : Exit → Fr → World → Prop} {w : World} {rest : List Oper} {ty : Nat} {pos : String} {aft : Array Edge} {t e : TypeId} {x y : Operand} {B nn c : Nat} {p : Option Addr} {l : List α} {v : Value} (o : α) (k i : Nat)
  (hown : OwnM L e B w (.slice p nn c) l) (hk : k < l.length) (hi : i < L.m) (hs : ∀ w, (sizeOf t).run P w = .ok 1 w) (hx : evo f x = some (.pointer (some (((pA p).add (k * L.m)).add i)))) (hy : evo f y = some v) (h1 : v.oneCell' = true) (hv : L.V o = (L.V l[k]).set i v)
  (kk : ∀ w1 g, p = some ⟨g, 0, none⟩ → Upd g w w1 → OwnM L e B w1 (.slice p nn c) (l.set k o) → WL P n ops Q rest f w1) :
  WL P n ops Q (⟨none, .store t x y, ty, pos, aft, none⟩ :: rest) f w := by
 rcases hown with ⟨h1, h2⟩ | ⟨g, cap, cur, h2, hB, hg, hnc, hcm, hcs, htake⟩
 ·
  rw [h2] at hk; simp only [List.length_nil] at hk; omega
 ·
  cases h2
  have hkm : k * L.m + L.m ≤ l.length * L.m := by rw [← Nat.succ_mul]; exact Nat.mul_le_mul_right _ hk
  have hlm : l.length * L.m ≤ c * L.m := Nat.mul_le_mul_right _ hnc
  have hst := run_storeCells_at P g (k * L.m + i) e [v] 0 cur w hg (by simp only [List.length_cons, List.length_nil]; omega) (by simpa using h1)
  rw [show pA (some (⟨g, 0, none⟩ : Addr)) = ⟨g, 0, none⟩ from rfl, add_lit, add_lit, Nat.zero_add] at hx
  have hls : (l.set k o).length = l.length := List.length_set
  have hcv : v.cells = #[v] := by cases v <;> first | rfl | cases h1
  have hset : cur.toList.take (k * L.m + i + 0) ++ [v] ++ cur.toList.drop (k * L.m + i + 0 + [v].length) = cur.toList.set (k * L.m + i) v := by
   rw [List.set_eq_take_append_cons_drop, if_pos (by rw [Array.length_toList]; omega)]
   simp
  rw [hset] at hst
  refine WL.act (w' := w.setRow g (cur.toList.set (k * L.m + i) v).toArray) (fun ρ hρ => ?_)
   (kk _ g rfl (Upd.setRow _ _ _) (.inr ⟨g, c, _, by rw [hls], hB, setRow_heap w g cur _ e _ hg, by rw [hls]; exact hnc, hcm, ?_, ?_⟩))
  ·
   unfold execOp
   simp [hρ _ _ hx, hρ _ _ hy, Instr.storeAt, Instr.sureAddr, storeVar, Sem.run_bind, hs, hcv, hst]
  ·
   simpa using hcs
  ·
   rw [hls, ← flat_set_field L l k i hk hi o v hv, ← htake, List.take_set]
end
theorem OwnM.rowp {α : Type} {L : Lay α} {e : TypeId} {B n c : Nat} {w : World} {p : Option Addr} {l : List α} (h : OwnM L e B w (.slice p n c) l) : RowM L w p l := by
 obtain ⟨p', c', hv, hr, -⟩ := h.row
 cases hv
 exact hr
end
section
theorem smT_len {n : Int} (h0 : 0 ≤ n) (h1 : n < 100) : (smT n).length ≤ 22 := by have := decL_le n oO oO; unfold smT; simp only [List.length_cons]; omega
theorem numsT_len (l : List Int) : (numsT l).length ≤ 61 * l.length := fm_len numT_len l
theorem RowM.lit {w : World} {b : Nat} {cs : Array Value} {t : TypeId} {l : List Int} (h : Blk w b cs t) (e : cs = (l.map intV).toArray) : RowM intL w (some ⟨b, 0, none⟩) l := (RowAt.lit h e).rowI
set_option maxHeartbeats 1600000 in
theorem prt_pen (b : Nat) (v : Value) (t0 : List UInt8) (x : PenV) (w : World) (h : Prt w b v t0) (hr : RowAt intV w x.pfDash x.fDash) (hp : 0 < x.fDash.length → (pA x.pfDash).block ≠ b ∧ v.ownBlock ≠ some (pA x.pfDash).block)
  (hc1 : 0 ≤ x.fCap) (hc2 : x.fCap < 100) (hj1 : 0 ≤ x.fJoin) (hj2 : x.fJoin < 100) (hd : x.fDash.length < 100) (hcc : x.fDash = [] → x.cfDash = 0 ∨ x.pfDash ≠ none) (hn : t0.length ≤ 900000) :
  Calls Tryz.prog 126 #[.pointer (some ⟨b, 0, none⟩), .agg (penV x).toArray] w fun e w' => ∃ r, e = .returned r ∧ r = .tuple #[] ∧ ∃ v', Prt w' b v' (t0 ++ penT x) ∧ Wr b v v' w w' := by
 have hbw := h.lt
 have hvw : ∀ g, v.ownBlock = some g → g < w.heap.size := fun g hg => (h.own.lt g hg).2
 have hrlt : 0 < x.fDash.length → (pA x.pfDash).block < w.heap.size := fun h0 => hr.lt h0
 have w1' := numsT_len [x.fWidth]; have w2' := numsT_len [x.fMiter]
 have s1' := smT_len hc1 hc2; have s2' := smT_len hj1 hj2; have s3' : (smT (x.fDash.length : Int)).length ≤ 22 := smT_len oO oO
 have w3' := numsT_len (x.fDash ++ [x.fPhase])
 simp only [List.length_append, List.length_cons, List.length_nil] at w1' w2' w3'
 refine W.enter func126 rfl ntmps126 (Nat.le_of_ble_eq_true rfl) ?_
 have hB0 := Below.refl (w.heap.size) w
 refine W.sr <| WL.box rfl rfl (fun b1 wb1 eb1 hkb1 hub1 hsb1 => ?_)
 have hB2 := Upd.below hB0 (by rw [eb1]; exact hB0.size) hub1
 have hgeb1 : w.heap.size ≤ b1 := by rw [eb1]; exact hB0.size
 have hBx : Below w.heap.size w wb1 := Upd.below (Below.refl _ _) oO hub1
 have hk0 := hkb1
 have hX0 : Wr b v v wb1 wb1 := Wr.refl _ _ _
 have hp0 := h.below hBx
 have hne : b1 ≠ b := by omega
 have hnv : v.ownBlock ≠ some b1 := fun e => by have := hvw _ e; omega
 refine WL.nil <| ?_
 refine W.sr <| WL.m rfl rfl <| WL.p (.fa underlying84 rfl sizeOf3 dD rfl) rfl <| WL.r (Rd.ld (isAgg3 _) rfl hkb1 rfl) rfl <| WL.bsl (ps := _) underlying82 sizeOf3 zeroValue3 rfl rfl rfl rfl rfl pR rfl (fun b3 wb3 eb3 hkb3 hub3 hsb3 => ?_)
 have hl5 : b1 < b3 := by rw [eb3]; exact hkb1.lt
 have hk4 := hkb1.upd hub3 (Nat.ne_of_lt hl5)
 have hgeb3 : w.heap.size ≤ b3 := by rw [eb3]; exact hB2.size
 have hz7 := RowAt.lit (V := intV) (l := [x.fWidth]) hkb3 (rfl)
 refine WL.call hb84 rfl rfl ((prt_numbers b v t0 _ [x.fWidth] 1 _ (hp0.below (Upd.below (Below.refl _ _) oO hub3)) hz7 (fun _ => ⟨by show b3 ≠ b; have := hp0.lt; omega, fun e => by have := (hp0.own.lt _ e).2; have h3 : (pA (some (⟨b3, 0, none⟩ : Addr))).block = b3 := rfl; rw [h3] at this; omega⟩) (by simp only [List.length_cons, List.length_nil]; omega))) (fun r w7 hw7 => ?_)
 obtain ⟨rfl, v1, hp1, hw1⟩ := hw7
 have hX1 := (hX0.trans (Wr.of_below (Upd.below (Below.refl _ _) oO hub3))).trans hw1
 have hk1 := hk0.wr hX1 hne hnv
 refine WL.nil <| ?_
 refine W.sr <| WL.m rfl rfl <| WL.p (.fa underlying84 rfl sizeOf3 dD rfl) rfl <| WL.r (Rd.ld (isAgg3 _) rfl hk1 rfl) rfl <| WL.call hb124 rfl rfl ((prt_small b v1 _ x.fCap _ hp1 (by simp only [List.length_append]; omega) hc1 hc2)) (fun r w8 hw8 => ?_)
 obtain ⟨rfl, v2, hp2, hw2⟩ := hw8
 have hX2 := hX1.trans hw2
 have hk2 := hk0.wr hX2 hne hnv
 have hB2 := Below.refl w8.heap.size w8
 refine WL.nil <| ?_
 refine W.sr <| WL.m rfl rfl <| WL.p (.fa underlying84 rfl sizeOf3 dD rfl) rfl <| WL.r (Rd.ld (isAgg3 _) rfl hk2 rfl) rfl <| WL.call hb124 rfl rfl ((prt_small b v2 _ x.fJoin _ hp2 (by simp only [List.length_append]; omega) hj1 hj2)) (fun r w9 hw9 => ?_)
 obtain ⟨rfl, v3, hp3, hw3⟩ := hw9
 have hX3 := hX2.trans hw3
 have hk3 := hk0.wr hX3 hne hnv
 have hB3 := Below.refl w9.heap.size w9
 refine WL.nil <| ?_
 refine W.sr <| WL.m rfl rfl <| WL.p (.fa underlying84 rfl sizeOf3 dD rfl) rfl <| WL.r (Rd.ld (isAgg3 _) rfl hk3 rfl) rfl <| WL.bsl (ps := _) underlying82 sizeOf3 zeroValue3 rfl rfl rfl rfl rfl pR rfl (fun b10 wb10 eb10 hkb10 hub10 hsb10 => ?_)
 have hl12 : b1 < b10 := by rw [eb10]; exact hk3.lt
 have hgeb10 : w9.heap.size ≤ b10 := by rw [eb10]; exact hB3.size
 have hz20 := RowAt.lit (V := intV) (l := [x.fMiter]) hkb10 (rfl)
 refine WL.call hb84 rfl rfl ((prt_numbers b v3 _ _ [x.fMiter] 1 _ (hp3.below (Upd.below (Below.refl _ _) oO hub10)) hz20 (fun _ => ⟨by show b10 ≠ b; have := hp3.lt; omega, fun e => by have := (hp3.own.lt _ e).2; have h3 : (pA (some (⟨b10, 0, none⟩ : Addr))).block = b10 := rfl; rw [h3] at this; omega⟩) (by simp only [List.length_append, List.length_cons, List.length_nil]; omega))) (fun r w14 hw14 => ?_)
 obtain ⟨rfl, v4, hp4, hw4⟩ := hw14
 have hX4 := (hX3.trans (Wr.of_below (Upd.below (Below.refl _ _) oO hub10))).trans hw4
 have hk4 := hk0.wr hX4 hne hnv
 refine WL.nil <| ?_
 refine W.sr <| WL.m rfl rfl <| WL.p (.fa underlying84 rfl sizeOf82 dD rfl) rfl <| WL.r (Rd.ld (isAgg82 _) rfl hk4 rfl) rfl <| WL.p (.lenS underlying82 rfl) rfl <| WL.call hb124 rfl rfl ((prt_small b v4 _ (x.fDash.length : Int) _ hp4 (by simp only [List.length_append]; omega) oO oO)) (fun r w15 hw15 => ?_)
 obtain ⟨rfl, v5, hp5, hw5⟩ := hw15
 have hX5 := hX4.trans hw5
 have hk5 := hk0.wr hX5 hne hnv
 have hB5 := Below.refl w15.heap.size w15
 have hrd5 : RowM intL w15 x.pfDash x.fDash := RowM.keepB (hr.rowI) ((Wr.of_below hBx).trans hX5).1 (fun h0 => ⟨hrlt h0, by simp only [List.mem_cons, Option.mem_toList, not_or]; exact hp h0⟩)
 have hs5 : 0 ≤ w15.heap.size := Nat.zero_le _
 refine WL.nil <| ?_
 refine W.regY 9 rfl mixed (fun w16 dw16 => ?_)
 have hk17 := hk5.drew dw16
 have hv18 := hrd5.drew dw16
 have hB19 := Drew.below hB5 dw16
 refine WY.tk 0 rfl (.mv rfl) rfl ?_
 refine WY.tk 1 rfl (.fa underlying84 rfl sizeOf82 dD rfl) rfl ?_
 refine WY.tk 4 rfl (.fa underlying84 rfl sizeOf3 dD rfl) rfl ?_
 refine WY.br2 2 rfl 5 rfl ?_ ?_
 refine WL.r (Rd.ld (isAgg82 _) rfl hk17 rfl) rfl <| WL.nil <| ?_
 refine WY.br2 3 rfl 5 rfl ?_ ?_
 refine WL.call hb180 rfl rfl ((lib_CloneI _ _ _ _ hv18 hcc oO)) (fun vc w20 hw20 => ?_)
 have hk21 := hk17.below hw20.1 hk17.lt
 have hB23 := btr hB19 hw20.1
 have hoc := OwnM.base (C := w15.heap.size) (hw20).2 (fun g hg => by have h1 := ((hw20).2.lt g hg).1; have h3 := Drew.size dw16; first | exact h1 | omega)
 have hle30 : w15.heap.size ≤ w20.heap.size := by have h1 := (hw20).1.size; have h3 := Drew.size dw16; first | exact h1 | omega
 refine WL.nil <| ?_
 refine WY.br1 5 rfl ?_
 refine WL.r (Rd.ld (isAgg3 _) rfl hk21 rfl) rfl <| WL.nil <| ?_
 refine WY.br1 6 rfl ?_
 refine WL.bsl (ps := _) underlying82 sizeOf3 zeroValue3 rfl rfl rfl rfl rfl pR rfl (fun b24 wb24 eb24 hkb24 hub24 hsb24 => ?_)
 have hle26 := Nat.le_trans hle30 hub24.size
 have ho25 := OwnM.new hoc eb24 hub24
 have hl28 : b1 < b24 := by rw [eb24]; exact hk21.lt
 have hB31 := Upd.below hB23 (by rw [eb24]; exact hB23.size) hub24
 have hgeb24 : w15.heap.size ≤ b24 := by rw [eb24]; exact hB23.size
 have hz33 := RowM.lit (l := [x.fPhase]) hkb24 (rfl)
 refine WL.nil <| ?_
 refine WY.br1 7 rfl ?_
 refine WL.appM underlying82 inf3 rfl rfl rfl ho25 rfl hz33 (by simp only [List.length_cons, List.length_nil]; omega) (hle26) rfl (fun h => nomatch h) (fun v32 w33 how33 hbw33 hgw33 hfw33 => ?_)
 have hB35 := Below.trans hB31 (hbw33.mono (Nat.le_refl _))
 have hle36 := Nat.le_trans hle26 hbw33.size
 obtain ⟨pz, cz, ez, hz, hzb, hzc, hzn, hzo, -⟩ := OwnM.row how33
 subst ez
 refine WL.nil <| ?_
 refine WY.br1 8 rfl ?_
 refine WL.call hb84 rfl rfl ((prt_numbers b v5 _ pz (x.fDash ++ [x.fPhase]) cz _ (hp5.below hB35) hz.atI (fun h0 => by have h1 := hzb _ (hz.isp h0); exact ⟨fun e => by have := hp5.lt; omega, fun e => by have := (hp5.own.lt _ e).2; omega⟩) (by simp only [List.length_append, List.length_cons, List.length_nil]; omega))) (fun r w37 hw37 => ?_)
 obtain ⟨rfl, v6, hp6, hw6⟩ := hw37
 have hX6 := ((((Wr.of_below hBx).trans hX5).trans (Wr.of_below hB35)).trans hw6)
 refine WL.nil <| ?_
 refine WY.done kR ?_
 refine W.norm (W.ret0 rfl ?_)
 have epn : penT x = numsT [x.fWidth] ++ smT x.fCap ++ smT x.fJoin ++ numsT [x.fMiter] ++ smT (x.fDash.length : Int) ++ numsT (x.fDash ++ [x.fPhase]) := by simp [penT, numsT]
 exact ⟨_, rfl, rfl, v6, by rw [epn]; simp only [← List.append_assoc]; exact hp6, hX6⟩
 refine WL.r (Rd.ld (isAgg3 _) rfl hk17 rfl) rfl <| WL.nil <| ?_
 refine WY.br2 3 rfl 6 rfl ?_ ?_
 refine WL.call hb180 rfl rfl ((lib_CloneI _ _ _ _ hv18 hcc oO)) (fun vc w38 hw38 => ?_)
 have hk39 := hk17.below hw38.1 hk17.lt
 have hB41 := btr hB19 hw38.1
 have hoc := OwnM.base (C := w15.heap.size) (hw38).2 (fun g hg => by have h1 := ((hw38).2.lt g hg).1; have h3 := Drew.size dw16; first | exact h1 | omega)
 have hle30 : w15.heap.size ≤ w38.heap.size := by have h1 := (hw38).1.size; have h3 := Drew.size dw16; first | exact h1 | omega
 refine WL.nil <| ?_
 refine WY.br1 6 rfl ?_
 refine WL.bsl (ps := _) underlying82 sizeOf3 zeroValue3 rfl rfl rfl rfl rfl pR rfl (fun b42 wb42 eb42 hkb42 hub42 hsb42 => ?_)
 have hle44 := Nat.le_trans hle30 hub42.size
 have ho43 := OwnM.new hoc eb42 hub42
 have hl46 : b1 < b42 := by rw [eb42]; exact hk39.lt
 have hB49 := Upd.below hB41 (by rw [eb42]; exact hB41.size) hub42
 have hgeb42 : w15.heap.size ≤ b42 := by rw [eb42]; exact hB41.size
 have hz33 := RowM.lit (l := [x.fPhase]) hkb42 (rfl)
 refine WL.nil <| ?_
 refine WY.br1 7 rfl ?_
 refine WL.appM underlying82 inf3 rfl rfl rfl ho43 rfl hz33 (by simp only [List.length_cons, List.length_nil]; omega) (hle44) rfl (fun h => nomatch h) (fun v50 w51 how51 hbw51 hgw51 hfw51 => ?_)
 have hB53 := Below.trans hB49 (hbw51.mono (Nat.le_refl _))
 have hle54 := Nat.le_trans hle44 hbw51.size
 obtain ⟨pz, cz, ez, hz, hzb, hzc, hzn, hzo, -⟩ := OwnM.row how51
 subst ez
 refine WL.nil <| ?_
 refine WY.br1 8 rfl ?_
 refine WL.call hb84 rfl rfl ((prt_numbers b v5 _ pz (x.fDash ++ [x.fPhase]) cz _ (hp5.below hB53) hz.atI (fun h0 => by have h1 := hzb _ (hz.isp h0); exact ⟨fun e => by have := hp5.lt; omega, fun e => by have := (hp5.own.lt _ e).2; omega⟩) (by simp only [List.length_append, List.length_cons, List.length_nil]; omega))) (fun r w55 hw55 => ?_)
 obtain ⟨rfl, v6, hp6, hw6⟩ := hw55
 have hX6 := ((((Wr.of_below hBx).trans hX5).trans (Wr.of_below hB53)).trans hw6)
 refine WL.nil <| ?_
 refine WY.done kR ?_
 refine W.norm (W.ret0 rfl ?_)
 have epn : penT x = numsT [x.fWidth] ++ smT x.fCap ++ smT x.fJoin ++ numsT [x.fMiter] ++ smT (x.fDash.length : Int) ++ numsT (x.fDash ++ [x.fPhase]) := by simp [penT, numsT]
 exact ⟨_, rfl, rfl, v6, by rw [epn]; simp only [← List.append_assoc]; exact hp6, hX6⟩
 refine WL.bsl (ps := _) underlying82 sizeOf3 zeroValue3 rfl rfl rfl rfl rfl pR rfl (fun b56 wb56 eb56 hkb56 hub56 hsb56 => ?_)
 have hl58 : b1 < b56 := by rw [eb56]; exact hk17.lt
 have hvl60 := fun h0 => eb56 ▸ hv18.lt h0
 have hv59 := RowM.upd hv18 hub56 (fun h0 => Nat.ne_of_lt (hvl60 h0))
 have hB61 := Upd.below hB19 (by rw [eb56]; exact hB19.size) hub56
 have hgeb56 : w15.heap.size ≤ b56 := by rw [eb56]; exact hB19.size
 have hz33 := RowM.lit (l := [x.fPhase]) hkb56 (rfl)
 refine WL.nil <| ?_
 refine WY.br1 3 rfl ?_
 refine WL.call hb180 rfl rfl ((lib_CloneI _ _ _ _ hv59 hcc oO)) (fun vc w62 hw62 => ?_)
 have hv65 := RowM.below hz33 hw62.1 (fun h0 => hz33.lt h0)
 have hB66 := btr hB61 hw62.1
 have hoc := OwnM.base (C := w15.heap.size) (hw62).2 (fun g hg => by have h1 := ((hw62).2.lt g hg).1; have h3 := Drew.size dw16; first | exact h1 | omega)
 have hle30 : w15.heap.size ≤ w62.heap.size := by have h1 := (hw62).1.size; have h3 := Drew.size dw16; first | exact h1 | omega
 refine WL.nil <| ?_
 refine WY.br1 7 rfl ?_
 refine WL.appM underlying82 inf3 rfl rfl rfl hoc rfl hv65 (by simp only [List.length_cons, List.length_nil]; omega) (hle30) rfl (fun h => nomatch h) (fun v67 w68 how68 hbw68 hgw68 hfw68 => ?_)
 have hB70 := Below.trans hB66 (hbw68.mono (Nat.le_refl _))
 have hle71 := Nat.le_trans hle30 hbw68.size
 obtain ⟨pz, cz, ez, hz, hzb, hzc, hzn, hzo, -⟩ := OwnM.row how68
 subst ez
 refine WL.nil <| ?_
 refine WY.br1 8 rfl ?_
 refine WL.call hb84 rfl rfl ((prt_numbers b v5 _ pz (x.fDash ++ [x.fPhase]) cz _ (hp5.below hB70) hz.atI (fun h0 => by have h1 := hzb _ (hz.isp h0); exact ⟨fun e => by have := hp5.lt; omega, fun e => by have := (hp5.own.lt _ e).2; omega⟩) (by simp only [List.length_append, List.length_cons, List.length_nil]; omega))) (fun r w72 hw72 => ?_)
 obtain ⟨rfl, v6, hp6, hw6⟩ := hw72
 have hX6 := ((((Wr.of_below hBx).trans hX5).trans (Wr.of_below hB70)).trans hw6)
 refine WL.nil <| ?_
 refine WY.done kR ?_
 refine W.norm (W.ret0 rfl ?_)
 have epn : penT x = numsT [x.fWidth] ++ smT x.fCap ++ smT x.fJoin ++ numsT [x.fMiter] ++ smT (x.fDash.length : Int) ++ numsT (x.fDash ++ [x.fPhase]) := by simp [penT, numsT]
 exact ⟨_, rfl, rfl, v6, by rw [epn]; simp only [← List.append_assoc]; exact hp6, hX6⟩
 refine WL.r (Rd.ld (isAgg3 _) rfl hk17 rfl) rfl <| WL.nil <| ?_
 refine WY.br2 2 rfl 6 rfl ?_ ?_
 refine WL.r (Rd.ld (isAgg82 _) rfl hk17 rfl) rfl <| WL.nil <| ?_
 refine WY.br2 3 rfl 6 rfl ?_ ?_
 refine WL.call hb180 rfl rfl ((lib_CloneI _ _ _ _ hv18 hcc oO)) (fun vc w73 hw73 => ?_)
 have hk74 := hk17.below hw73.1 hk17.lt
 have hB76 := btr hB19 hw73.1
 have hoc := OwnM.base (C := w15.heap.size) (hw73).2 (fun g hg => by have h1 := ((hw73).2.lt g hg).1; have h3 := Drew.size dw16; first | exact h1 | omega)
 have hle30 : w15.heap.size ≤ w73.heap.size := by have h1 := (hw73).1.size; have h3 := Drew.size dw16; first | exact h1 | omega
 refine WL.nil <| ?_
 refine WY.br1 6 rfl ?_
 refine WL.bsl (ps := _) underlying82 sizeOf3 zeroValue3 rfl rfl rfl rfl rfl pR rfl (fun b77 wb77 eb77 hkb77 hub77 hsb77 => ?_)
 have hle79 := Nat.le_trans hle30 hub77.size
 have ho78 := OwnM.new hoc eb77 hub77
 have hl81 : b1 < b77 := by rw [eb77]; exact hk74.lt
 have hB84 := Upd.below hB76 (by rw [eb77]; exact hB76.size) hub77
 have hgeb77 : w15.heap.size ≤ b77 := by rw [eb77]; exact hB76.size
 have hz33 := RowM.lit (l := [x.fPhase]) hkb77 (rfl)
 refine WL.nil <| ?_
 refine WY.br1 7 rfl ?_
 refine WL.appM underlying82 inf3 rfl rfl rfl ho78 rfl hz33 (by simp only [List.length_cons, List.length_nil]; omega) (hle79) rfl (fun h => nomatch h) (fun v85 w86 how86 hbw86 hgw86 hfw86 => ?_)
 have hB88 := Below.trans hB84 (hbw86.mono (Nat.le_refl _))
 have hle89 := Nat.le_trans hle79 hbw86.size
 obtain ⟨pz, cz, ez, hz, hzb, hzc, hzn, hzo, -⟩ := OwnM.row how86
 subst ez
 refine WL.nil <| ?_
 refine WY.br1 8 rfl ?_
 refine WL.call hb84 rfl rfl ((prt_numbers b v5 _ pz (x.fDash ++ [x.fPhase]) cz _ (hp5.below hB88) hz.atI (fun h0 => by have h1 := hzb _ (hz.isp h0); exact ⟨fun e => by have := hp5.lt; omega, fun e => by have := (hp5.own.lt _ e).2; omega⟩) (by simp only [List.length_append, List.length_cons, List.length_nil]; omega))) (fun r w90 hw90 => ?_)
 obtain ⟨rfl, v6, hp6, hw6⟩ := hw90
 have hX6 := ((((Wr.of_below hBx).trans hX5).trans (Wr.of_below hB88)).trans hw6)
 refine WL.nil <| ?_
 refine WY.done kR ?_
 refine W.norm (W.ret0 rfl ?_)
 have epn : penT x = numsT [x.fWidth] ++ smT x.fCap ++ smT x.fJoin ++ numsT [x.fMiter] ++ smT (x.fDash.length : Int) ++ numsT (x.fDash ++ [x.fPhase]) := by simp [penT, numsT]
 exact ⟨_, rfl, rfl, v6, by rw [epn]; simp only [← List.append_assoc]; exact hp6, hX6⟩
 refine WL.bsl (ps := _) underlying82 sizeOf3 zeroValue3 rfl rfl rfl rfl rfl pR rfl (fun b91 wb91 eb91 hkb91 hub91 hsb91 => ?_)
 have hl93 : b1 < b91 := by rw [eb91]; exact hk17.lt
 have hvl95 := fun h0 => eb91 ▸ hv18.lt h0
 have hv94 := RowM.upd hv18 hub91 (fun h0 => Nat.ne_of_lt (hvl95 h0))
 have hB96 := Upd.below hB19 (by rw [eb91]; exact hB19.size) hub91
 have hgeb91 : w15.heap.size ≤ b91 := by rw [eb91]; exact hB19.size
 have hz33 := RowM.lit (l := [x.fPhase]) hkb91 (rfl)
 refine WL.nil <| ?_
 refine WY.br1 3 rfl ?_
 refine WL.call hb180 rfl rfl ((lib_CloneI _ _ _ _ hv94 hcc oO)) (fun vc w97 hw97 => ?_)
 have hv100 := RowM.below hz33 hw97.1 (fun h0 => hz33.lt h0)
 have hB101 := btr hB96 hw97.1
 have hoc := OwnM.base (C := w15.heap.size) (hw97).2 (fun g hg => by have h1 := ((hw97).2.lt g hg).1; have h3 := Drew.size dw16; first | exact h1 | omega)
 have hle30 : w15.heap.size ≤ w97.heap.size := by have h1 := (hw97).1.size; have h3 := Drew.size dw16; first | exact h1 | omega
 refine WL.nil <| ?_
 refine WY.br1 7 rfl ?_
 refine WL.appM underlying82 inf3 rfl rfl rfl hoc rfl hv100 (by simp only [List.length_cons, List.length_nil]; omega) (hle30) rfl (fun h => nomatch h) (fun v102 w103 how103 hbw103 hgw103 hfw103 => ?_)
 have hB105 := Below.trans hB101 (hbw103.mono (Nat.le_refl _))
 have hle106 := Nat.le_trans hle30 hbw103.size
 obtain ⟨pz, cz, ez, hz, hzb, hzc, hzn, hzo, -⟩ := OwnM.row how103
 subst ez
 refine WL.nil <| ?_
 refine WY.br1 8 rfl ?_
 refine WL.call hb84 rfl rfl ((prt_numbers b v5 _ pz (x.fDash ++ [x.fPhase]) cz _ (hp5.below hB105) hz.atI (fun h0 => by have h1 := hzb _ (hz.isp h0); exact ⟨fun e => by have := hp5.lt; omega, fun e => by have := (hp5.own.lt _ e).2; omega⟩) (by simp only [List.length_append, List.length_cons, List.length_nil]; omega))) (fun r w107 hw107 => ?_)
 obtain ⟨rfl, v6, hp6, hw6⟩ := hw107
 have hX6 := ((((Wr.of_below hBx).trans hX5).trans (Wr.of_below hB105)).trans hw6)
 refine WL.nil <| ?_
 refine WY.done kR ?_
 refine W.norm (W.ret0 rfl ?_)
 have epn : penT x = numsT [x.fWidth] ++ smT x.fCap ++ smT x.fJoin ++ numsT [x.fMiter] ++ smT (x.fDash.length : Int) ++ numsT (x.fDash ++ [x.fPhase]) := by simp [penT, numsT]
 exact ⟨_, rfl, rfl, v6, by rw [epn]; simp only [← List.append_assoc]; exact hp6, hX6⟩
 refine WL.bsl (ps := _) underlying82 sizeOf3 zeroValue3 rfl rfl rfl rfl rfl pR rfl (fun b108 wb108 eb108 hkb108 hub108 hsb108 => ?_)
 have hl110 : b1 < b108 := by rw [eb108]; exact hk17.lt
 have hk109 := hk17.upd hub108 (Nat.ne_of_lt hl110)
 have hvl112 := fun h0 => eb108 ▸ hv18.lt h0
 have hv111 := RowM.upd hv18 hub108 (fun h0 => Nat.ne_of_lt (hvl112 h0))
 have hB113 := Upd.below hB19 (by rw [eb108]; exact hB19.size) hub108
 have hgeb108 : w15.heap.size ≤ b108 := by rw [eb108]; exact hB19.size
 have hz33 := RowM.lit (l := [x.fPhase]) hkb108 (rfl)
 refine WL.nil <| ?_
 refine WY.br1 2 rfl ?_
 refine WL.r (Rd.ld (isAgg82 _) rfl hk109 rfl) rfl <| WL.nil <| ?_
 refine WY.br1 3 rfl ?_
 refine WL.call hb180 rfl rfl ((lib_CloneI _ _ _ _ hv111 hcc oO)) (fun vc w114 hw114 => ?_)
 have hv117 := RowM.below hz33 hw114.1 (fun h0 => hz33.lt h0)
 have hB118 := btr hB113 hw114.1
 have hoc := OwnM.base (C := w15.heap.size) (hw114).2 (fun g hg => by have h1 := ((hw114).2.lt g hg).1; have h3 := Drew.size dw16; first | exact h1 | omega)
 have hle30 : w15.heap.size ≤ w114.heap.size := by have h1 := (hw114).1.size; have h3 := Drew.size dw16; first | exact h1 | omega
 refine WL.nil <| ?_
 refine WY.br1 7 rfl ?_
 refine WL.appM underlying82 inf3 rfl rfl rfl hoc rfl hv117 (by simp only [List.length_cons, List.length_nil]; omega) (hle30) rfl (fun h => nomatch h) (fun v119 w120 how120 hbw120 hgw120 hfw120 => ?_)
 have hB122 := Below.trans hB118 (hbw120.mono (Nat.le_refl _))
 have hle123 := Nat.le_trans hle30 hbw120.size
 obtain ⟨pz, cz, ez, hz, hzb, hzc, hzn, hzo, -⟩ := OwnM.row how120
 subst ez
 refine WL.nil <| ?_
 refine WY.br1 8 rfl ?_
 refine WL.call hb84 rfl rfl ((prt_numbers b v5 _ pz (x.fDash ++ [x.fPhase]) cz _ (hp5.below hB122) hz.atI (fun h0 => by have h1 := hzb _ (hz.isp h0); exact ⟨fun e => by have := hp5.lt; omega, fun e => by have := (hp5.own.lt _ e).2; omega⟩) (by simp only [List.length_append, List.length_cons, List.length_nil]; omega))) (fun r w124 hw124 => ?_)
 obtain ⟨rfl, v6, hp6, hw6⟩ := hw124
 have hX6 := ((((Wr.of_below hBx).trans hX5).trans (Wr.of_below hB122)).trans hw6)
 refine WL.nil <| ?_
 refine WY.done kR ?_
 refine W.norm (W.ret0 rfl ?_)
 have epn : penT x = numsT [x.fWidth] ++ smT x.fCap ++ smT x.fJoin ++ numsT [x.fMiter] ++ smT (x.fDash.length : Int) ++ numsT (x.fDash ++ [x.fPhase]) := by simp [penT, numsT]
 exact ⟨_, rfl, rfl, v6, by rw [epn]; simp only [← List.append_assoc]; exact hp6, hX6⟩
end
section
theorem clips_pre : ∀ (l : List ClipV) (i : Nat) (hi : i < l.length), ((l.take i).flatMap clipT).length + 368 * (5 + l[i].fPath.length) ≤ 368 * (5 * l.length + sumOf (fun c : ClipV => c.fPath.length) l)
 | [], i, hi => absurd hi (by simp)
 | c :: l, 0, hi => by
  have e : sumOf (fun c : ClipV => c.fPath.length) (c :: l) = c.fPath.length + sumOf (fun c : ClipV => c.fPath.length) l := by simp [sumOf]
  rw [e]; simp only [List.take_zero, List.flatMap_nil, List.length_nil, List.getElem_cons_zero, List.length_cons]; omega
 | c :: l, i + 1, hi => by
  have ih := clips_pre l i (by simpa using hi)
  have e : sumOf (fun c : ClipV => c.fPath.length) (c :: l) = c.fPath.length + sumOf (fun c : ClipV => c.fPath.length) l := by simp [sumOf]
  have hc : (clipT c).length ≤ 7 + 368 * c.fPath.length := by
   have := pathT_len c.fPath
   unfold clipT; split <;> simp only [List.length_append, List.length_cons, List.length_nil] <;> omega
  rw [e]; simp only [List.take_succ_cons, List.flatMap_cons, List.length_append, List.getElem_cons_succ, List.length_cons]; omega
theorem clips_len (l : List ClipV) : (l.flatMap clipT).length ≤ 368 * (5 * l.length + sumOf (fun c : ClipV => c.fPath.length) l) := by
 induction l with
 | nil => simp
 | cons c l ih =>
  have hc : (clipT c).length ≤ 7 + 368 * c.fPath.length := by
   have := pathT_len c.fPath
   unfold clipT; split <;> simp only [List.length_append, List.length_cons, List.length_nil] <;> omega
  have e : sumOf (fun c : ClipV => c.fPath.length) (c :: l) = c.fPath.length + sumOf (fun c : ClipV => c.fPath.length) l := by simp [sumOf]
  rw [e]
  simp only [List.flatMap_cons, List.length_append, List.length_cons]; omega
theorem itemB_font {x : ItemV} (h : itemB x = true) (h4 : x.fKind = 4) : 0 ≤ x.fFont ∧ x.fFont ≤ 13 := by
 unfold itemB at h
 simp only [Bool.and_eq_true, if_pos h4] at h
 have := h.2
 simp only [Bool.and_eq_true, lettersB, decide_eq_true_eq] at this
 omega
theorem itemB_pen {x : ItemV} (h : itemB x = true) (h3 : x.fKind = 3) : 0 ≤ x.fPen.fCap ∧ x.fPen.fCap ≤ 2 ∧ 0 ≤ x.fPen.fJoin ∧ x.fPen.fJoin ≤ 2 ∧ x.fPen.fDash.length ≤ 11 := by
 unfold itemB at h
 simp only [Bool.and_eq_true, if_neg (show ¬ x.fKind = 4 by omega), if_neg (show ¬ (x.fKind = 1 ∨ x.fKind = 2) by omega), if_pos h3] at h
 have h2 : penB x.fPen = true := h.2.2
 unfold penB at h2
 simp only [Bool.and_eq_true] at h2
 have h5 : penH x.fPen = false := by simpa using h2.1.1
 simp only [penH, Bool.or_eq_false_iff, decide_eq_false_iff_not] at h5
 omega
theorem colorT_len (x : ColorV) (h : x.fSpace = 1 ∨ x.fSpace = 3 ∨ x.fSpace = 4) : (colorT x).length ≤ 266 := by
 have h1 := smT_len (n := x.fSpace) oO oO
 have h2 := parts_take_len x x.fSpace.toNat
 unfold colorT; simp only [List.length_append]; omega
theorem penT_len {x : PenV} (hc1 : 0 ≤ x.fCap) (hc2 : x.fCap ≤ 2) (hj1 : 0 ≤ x.fJoin) (hj2 : x.fJoin ≤ 2) (hd : x.fDash.length ≤ 11) : (penT x).length ≤ 249 + 61 * x.fDash.length := by
 have a1 := numT_len x.fWidth; have a2 := numT_len x.fMiter; have a3 := numT_len x.fPhase
 have c1 := smT_len hc1 oO; have c2 := smT_len hj1 oO; have c3 : (smT (x.fDash.length : Int)).length ≤ 22 := smT_len oO oO
 have c4 := numsT_len x.fDash
 unfold penT; simp only [List.length_append]; omega
set_option maxHeartbeats 3200000 in
theorem prt_item (b : Nat) (v : Value) (t0 : List UInt8) (x : ItemV) (w0 w : World) (h : Prt w b v t0) (hx : ItemOk w0 x) (hB0 : Below w0.heap.size w0 w) (hb : w0.heap.size ≤ b) (hk : itemB x = true) (hn : t0.length + 368 * (5 + itemW x + clipW x) ≤ 800000) :
  Calls Tryz.prog 86 #[.pointer (some ⟨b, 0, none⟩), .agg (itemV x).toArray] w fun e w' => ∃ r, e = .returned r ∧ r = .tuple #[] ∧ ∃ v', Prt w' b v' (t0 ++ itemT x) ∧ Wr b v v' w w' := by
 have hbw := h.lt
 have hvw : ∀ g, v.ownBlock = some g → g < w.heap.size := fun g hg => (h.own.lt g hg).2
 obtain ⟨hk1, hk4, hsp, hc16⟩ := itemB_kind hk
 have hcl := colorT_len x.fColor hsp
 have hcs := clips_len x.fClips
 have hpl := pathT_len x.fPath
 have hbl : (x.fBytes.flatMap hexT).length ≤ 2 * x.fBytes.length := fm_len hexT_len x.fBytes
 have hml := numsT_len (mats x)
 have hm6 : (mats x).length = 6 := rfl
 unfold itemW clipW at hn
 have hap : ∀ {α : Type} {p : Option Addr} {l : List α} {v' : Value} {w' : World} {m : List UInt8}, (0 < l.length → (pA p).block < w0.heap.size) → Prt w' b v' m → 0 < l.length → (pA p).block ≠ b ∧ v'.ownBlock ≠ some (pA p).block :=
  fun h1 hP h0 => ⟨by have := h1 h0; omega, fun e => by have := hP.ge _ e; have := h1 h0; omega⟩
 have hlc : 0 < x.fClips.length → (pA x.pfClips).block < w0.heap.size := fun h0 => hx.row_fClips.lt h0
 refine W.enter func86 rfl ntmps86 (Nat.le_of_ble_eq_true rfl) ?_
 refine W.sr <| WL.box rfl rfl (fun b1 wb1 eb1 hkb1 hub1 hsb1 => ?_)
 have hBx : Below w.heap.size w wb1 := Upd.below (Below.refl _ _) oO hub1
 have hk0 := hkb1
 have hX0 : Wr b v v wb1 wb1 := Wr.refl _ _ _
 have hp0 := h.below hBx
 have hne : b1 ≠ b := by omega
 have hnv : v.ownBlock ≠ some b1 := fun e => by have := hvw _ e; omega
 have hsz : w0.heap.size ≤ wb1.heap.size := Nat.le_trans hB0.size hBx.size
 have hbx0 : Below w0.heap.size w0 wb1 := hB0.trans (hBx.mono hB0.size)
 have hxw : ∀ {v' : Value} {w' : World}, Wr b v v' wb1 w' → ItemOk w' x := fun hW => hx.below (hbx0.trans (hW.below hsz hb fun g hg => by have := h.ge g hg; omega))
 have hrc0 := (hxw hX0).row_fClips
 refine WL.nil <| ?_
 refine W.seq <| W.sr <| WL.p (.fa underlying87 rfl sizeOf81 dD rfl) rfl <| WL.r (Rd.ld (isAgg81 _) rfl hkb1 rfl) rfl <| WL.p (.lenS underlying81 rfl) rfl <| WL.m rfl rfl <| WL.nil <| ?_
 refine W.block ?_
 refine W.loop (α := Nat × Value) (fun t => [(0, .pointer (some ⟨b, 0, none⟩)), (3, .pointer (some ⟨b1, 0, none⟩)), (7, .slice x.pfClips x.fClips.length x.cfClips), (8, .int .i64 (x.fClips.length : Int)), (9, .int .i64 (t.1 : Int))]) (fun t w' => Prt w' b t.2 (t0 ++ (x.fClips.take t.1).flatMap clipT) ∧ Wr b v t.2 wb1 w' ∧ t.1 ≤ x.fClips.length) (fun t => x.fClips.length - t.1) ((0, v)) ⟨rfl, rfl, rfl, rfl, rfl, trivial⟩ (⟨by simpa using hp0, hX0, Nat.zero_le _⟩) (fun t w1 hR => ?_)
 obtain ⟨i, v1⟩ := t
 obtain ⟨hP, hW, hi⟩ := hR
 simp only at hP hW hi ⊢
 have hrx := (hxw hW).row_fClips
 have hkb := hk0.wr hW hne hnv
 refine W.sr <| WL.p (.lss rfl rfl) rfl <| WL.nil <| ?_
 refine W.seq <| W.cond rfl (fun h2 => ?_) (fun h2 => ?_)
 have h2' := dT h2
 have hil : i < x.fClips.length := by omega
 have hnt : (x.fClips.take (i + 1)).flatMap clipT = (x.fClips.take i).flatMap clipT ++ clipT x.fClips[i] := flatMap_take hil
 have hpre := clips_pre x.fClips i hil
 have hxi := hx.all_fClips _ (List.getElem_mem hil)
 have hli : 0 < x.fClips[i].fPath.length → (pA x.fClips[i].pfPath).block < w0.heap.size := fun h0 => hxi.row_fPath.lt h0
 refine W.skip <| W.seq <| W.block <| W.sr <| WL.p (.ixm underlying81 sizeOf89 rfl rfl (hrx.isp oO) (i) (rfl) oO) rfl <| WL.r (Rd.ldS underlying89 rfl isz89 hrx (i) oO rfl) rfl <| WL.alloc zeroValue89 rfl (fun b3 wb3 eb3 hkb3 hub3 hsb3 => ?_)
 have hl5 : b1 < b3 := by rw [eb3]; exact hkb.lt
 have hk4 := hkb.upd hub3 (Nat.ne_of_lt hl5)
 refine WL.stL rfl rfl hkb3 isz89 rfl rfl (fun w8 hkw8 huw8 hsw8 => ?_)
 refine WL.nil <| ?_
 refine W.seq <| W.seq ?_
 have hBy : Below w1.heap.size w1 w8 := Upd.below (Upd.below (Below.refl _ _) oO hub3) oO huw8
 have hkc0 := hkw8
 have hpy := hP.below hBy
 have hWy := hW.trans (Wr.of_below hBy)
 have hw5 : b3 < w8.heap.size := hkc0.lt
 have hne5 : b3 ≠ b := by have := hP.lt; omega
 have hnv5 : v1.ownBlock ≠ some b3 := fun e => by have := (hP.own.lt _ e).2; omega
 have hY0 : Wr b v1 v1 w8 w8 := Wr.refl _ _ _
 refine W.reg <| WL.p (.fa underlying89 rfl sizeOf4 dD rfl) rfl <| WL.r (Rd.ld (isAgg4 _) rfl hkw8 rfl) rfl <| WL.nil <| ?_
 refine W.cond rfl (fun h11 => ?_) (fun h11 => ?_)
 refine W.reg <| WL.m rfl rfl <| WL.p (.nck rfl) rfl <| WL.p (.fa underlying115 rfl sizeOf113 dD rfl) rfl <| WL.call hb83 rfl rfl ((prt_WriteString b v1 _ [101, 111] _ hpy (by simp only [List.length_append, List.length_cons, List.length_nil]; omega))) (fun r w12 hw12 => ?_)
 obtain ⟨v2, hp2, hw2⟩ := hw12
 have hY2 := hY0.trans hw2
 have hkc2 := hkc0.wr hY2 hne5 hnv5
 have hpa := hp2
 have hYa := hY2
 refine WL.nil <| ?_
 refine W.sr <| WL.m rfl rfl <| WL.p (.nck rfl) rfl <| WL.p (.fa underlying115 rfl sizeOf113 dD rfl) rfl <| WL.call hb83 rfl rfl ((prt_WriteString b _ _ [99, 108, 105, 112] _ hpa (by simp only [List.length_append, List.length_cons, List.length_nil]; omega))) (fun r w13 hw13 => ?_)
 obtain ⟨v3, hp3, hw3⟩ := hw13
 have hY3 := hYa.trans hw3
 have hkc3 := hkc0.wr hY3 hne5 hnv5
 refine WL.nil <| ?_
 refine W.sr <| WL.m rfl rfl <| WL.p (.fa underlying89 rfl sizeOf77 dD rfl) rfl <| WL.r (Rd.ld (isAgg77 _) rfl hkc3 rfl) rfl <| WL.call hb122 rfl rfl ((prt_path b v3 _ x.fClips[i].pfPath x.fClips[i].fPath _ _ hp3 ((hxw (hWy.trans hY3)).all_fClips _ (List.getElem_mem hil)).row_fPath (hap hli hp3) (by simp only [List.length_append, List.length_cons, List.length_nil]; omega))) (fun r w14 hw14 => ?_)
 obtain ⟨rfl, v4, hp4, hw4⟩ := hw14
 have hY4 := hY3.trans hw4
 refine WL.nil <| ?_
 refine W.reg <| WL.m rfl rfl <| WL.p (.nck rfl) rfl <| WL.p (.fa underlying115 rfl sizeOf113 dD rfl) rfl <| WL.call hb85 rfl rfl ((prt_WriteByte b v4 _ 10 _ hp4 (by have := pathT_len x.fClips[i].fPath; simp only [List.length_append, List.length_cons, List.length_nil]; omega))) (fun r w15 hw15 => ?_)
 obtain ⟨v5, hp5, hw5⟩ := hw15
 have hY5 := hY4.trans hw5
 refine WL.nil <| ?_
 refine W.reg <| WL.p (.iis (((i + 1 : Nat) : Int)) (.add rfl rfl (i64w oO)) oO) rfl <| WL.m rfl rfl <| WL.nil <| ?_
 first
 | exact ⟨(i + 1, v5), ⟨rfl, rfl, rfl, rfl, rfl, trivial⟩, ⟨by simp only []; rw [hnt, clipT, if_pos aS]; simp only [← List.append_assoc]; exact hp5, hWy.trans hY5, by ((try simp only) <;> omega)⟩, by ((try simp only) <;> omega)⟩
 | exact ⟨(i + 1, v5), ⟨rfl, rfl, rfl, rfl, rfl, trivial⟩, ⟨by simp only []; rw [hnt, clipT, if_neg (by simp_all), List.nil_append]; simp only [← List.append_assoc]; exact hp5, hWy.trans hY5, by ((try simp only) <;> omega)⟩, by ((try simp only) <;> omega)⟩
 have hpa := hpy
 have hYa := hY0
 refine W.skip <| W.sr <| WL.m rfl rfl <| WL.p (.nck rfl) rfl <| WL.p (.fa underlying115 rfl sizeOf113 dD rfl) rfl <| WL.call hb83 rfl rfl ((prt_WriteString b _ _ [99, 108, 105, 112] _ hpa (by simp only [List.length_append, List.length_cons, List.length_nil]; omega))) (fun r w16 hw16 => ?_)
 obtain ⟨v3, hp3, hw3⟩ := hw16
 have hY3 := hYa.trans hw3
 have hkc3 := hkc0.wr hY3 hne5 hnv5
 refine WL.nil <| ?_
 refine W.sr <| WL.m rfl rfl <| WL.p (.fa underlying89 rfl sizeOf77 dD rfl) rfl <| WL.r (Rd.ld (isAgg77 _) rfl hkc3 rfl) rfl <| WL.call hb122 rfl rfl ((prt_path b v3 _ x.fClips[i].pfPath x.fClips[i].fPath _ _ hp3 ((hxw (hWy.trans hY3)).all_fClips _ (List.getElem_mem hil)).row_fPath (hap hli hp3) (by simp only [List.length_append, List.length_cons, List.length_nil]; omega))) (fun r w17 hw17 => ?_)
 obtain ⟨rfl, v4, hp4, hw4⟩ := hw17
 have hY4 := hY3.trans hw4
 refine WL.nil <| ?_
 refine W.reg <| WL.m rfl rfl <| WL.p (.nck rfl) rfl <| WL.p (.fa underlying115 rfl sizeOf113 dD rfl) rfl <| WL.call hb85 rfl rfl ((prt_WriteByte b v4 _ 10 _ hp4 (by have := pathT_len x.fClips[i].fPath; simp only [List.length_append, List.length_cons, List.length_nil]; omega))) (fun r w18 hw18 => ?_)
 obtain ⟨v5, hp5, hw5⟩ := hw18
 have hY5 := hY4.trans hw5
 refine WL.nil <| ?_
 refine W.reg <| WL.p (.iis (((i + 1 : Nat) : Int)) (.add rfl rfl (i64w oO)) oO) rfl <| WL.m rfl rfl <| WL.nil <| ?_
 first
 | exact ⟨(i + 1, v5), ⟨rfl, rfl, rfl, rfl, rfl, trivial⟩, ⟨by simp only []; rw [hnt, clipT, if_pos aS]; simp only [← List.append_assoc]; exact hp5, hWy.trans hY5, by ((try simp only) <;> omega)⟩, by ((try simp only) <;> omega)⟩
 | exact ⟨(i + 1, v5), ⟨rfl, rfl, rfl, rfl, rfl, trivial⟩, ⟨by simp only []; rw [hnt, clipT, if_neg (by simp_all), List.nil_append]; simp only [← List.append_assoc]; exact hp5, hWy.trans hY5, by ((try simp only) <;> omega)⟩, by ((try simp only) <;> omega)⟩
 have h2' := dF h2
 have hie : x.fClips.take i = x.fClips := List.take_of_length_le oO
 rw [hie] at hP
 have hb1l : b1 < w1.heap.size := hkb.lt
 refine W.exit <| W.seq <| W.sr <| WL.p (.fa underlying87 rfl sizeOf3 dD rfl) rfl <| WL.r (Rd.ld (isAgg3 _) rfl hkb rfl) rfl <| WL.nil <| ?_
 refine W.block <| W.sr <| WL.p (.eql rfl rfl) rfl <| WL.z rfl rfl ?_
 refine W.cond rfl (fun h19 => ?_) (fun h19 => ?_)
 have h19' := dT h19
 obtain ⟨hf1, hf2⟩ := itemB_font hk aS
 have hsf := smT_len (n := x.fFont) oO oO
 refine W.sr <| WL.m rfl rfl <| WL.p (.nck rfl) rfl <| WL.p (.fa underlying115 rfl sizeOf113 dD rfl) rfl <| WL.call hb83 rfl rfl ((prt_WriteString b v1 _ [116, 101, 120, 116] _ hP (by simp only [List.length_append, List.length_cons, List.length_nil]; omega))) (fun r w20 hw20 => ?_)
 obtain ⟨v2, hp2, hw2⟩ := hw20
 have hX2 := hW.trans hw2
 have hk2 := hk0.wr hX2 hne hnv
 refine WL.nil <| ?_
 refine W.sr <| WL.m rfl rfl <| WL.p (.fa underlying87 rfl sizeOf80 dD rfl) rfl <| WL.r (Rd.ldF (L := colorL) underlying80 rfl isz80 hk2 (x.fColor) (rfl) rfl) rfl <| WL.call hb123 rfl rfl ((prt_color b v2 _ x.fColor _ hp2 (by simp only [List.length_append, List.length_cons, List.length_nil]; omega) hsp)) (fun r w21 hw21 => ?_)
 obtain ⟨rfl, v3, hp3, hw3⟩ := hw21
 have hX3 := hX2.trans hw3
 have hk3 := hk0.wr hX3 hne hnv
 refine WL.nil <| ?_
 refine W.sr <| WL.m rfl rfl <| WL.p (.fa underlying87 rfl sizeOf3 dD rfl) rfl <| WL.r (Rd.ld (isAgg3 _) rfl hk3 rfl) rfl <| WL.call hb124 rfl rfl ((prt_small b v3 _ x.fFont _ hp3 (by simp only [List.length_append, List.length_cons, List.length_nil]; omega) hf1 oO)) (fun r w22 hw22 => ?_)
 obtain ⟨rfl, v4, hp4, hw4⟩ := hw22
 have hX4 := hX3.trans hw4
 have hk4 := hk0.wr hX4 hne hnv
 refine WL.nil <| ?_
 refine W.sr <| WL.m rfl rfl <| WL.p (.fa underlying87 rfl sizeOf85 dD rfl) rfl <| WL.p (.sla underlying85 sizeOf3 rfl) rfl <| WL.call hb84 rfl rfl ((prt_numbers b v4 _ (some ⟨b1, 15, none⟩) (mats x) 6 _ hp4 (mats_row hk4) (fun _ => ⟨hne, fun e => by rcases hX4.2 _ e with e2 | e2; exact hnv e2; exact absurd e2 (by show ¬ _ ≤ b1; have := hk0.lt; omega)⟩) (by simp only [List.length_append, List.length_cons, List.length_nil]; omega))) (fun r w23 hw23 => ?_)
 obtain ⟨rfl, v5, hp5, hw5⟩ := hw23
 have hX5 := hX4.trans hw5
 have hk5 := hk0.wr hX5 hne hnv
 refine WL.nil <| ?_
 refine W.reg <| WL.m rfl rfl <| WL.p (.fa underlying87 rfl sizeOf22 dD rfl) rfl <| WL.r (Rd.ld (isAgg22 _) rfl hk5 rfl) rfl <| WL.call hb125 rfl rfl ((prt_bytes b v5 _ x.pfBytes x.fBytes x.cfBytes _ hp5 (hxw hX5).row_fBytes (hap (fun h0 => hx.row_fBytes.lt h0) hp5) (by simp only [List.length_append, List.length_cons, List.length_nil]; omega))) (fun r w24 hw24 => ?_)
 obtain ⟨rfl, v6, hp6, hw6⟩ := hw24
 have hX6 := hX5.trans hw6
 refine WL.nil <| ?_
 refine W.reg <| WL.m rfl rfl <| WL.p (.nck rfl) rfl <| WL.p (.fa underlying115 rfl sizeOf113 dD rfl) rfl <| WL.call hb85 rfl rfl ((prt_WriteByte b v6 _ 10 _ hp6 (by (try unfold bytesT); simp only [List.length_append, List.length_cons, List.length_nil]; omega))) (fun r w25 hw25 => ?_)
 obtain ⟨v7, hp7, hw7⟩ := hw25
 have hX7 := (Wr.of_below hBx).trans (hX6.trans hw7)
 refine WL.nil <| ?_
 refine W.norm (W.ret0 rfl ?_)
 first
 | exact ⟨_, rfl, rfl, v7, by rw [itemT, if_pos (show x.fKind = 4 by assumption), headT, if_neg oO, if_neg oO, if_neg oO]; simpa only [List.append_assoc, bytesT] using hp7, hX7⟩
 | exact ⟨_, rfl, rfl, v7, by rw [itemT, if_neg (show ¬ x.fKind = 4 by assumption), if_pos (show x.fKind = 3 by assumption), headT, if_neg oO, if_neg oO, if_pos aS]; simpa only [List.append_assoc] using hp7, hX7⟩
 | exact ⟨_, rfl, rfl, v7, by rw [itemT, if_neg (show ¬ x.fKind = 4 by assumption), if_neg (show ¬ x.fKind = 3 by assumption), headT, if_neg oO, if_pos (show x.fKind = 2 by assumption)]; simpa only [List.append_assoc, List.nil_append, List.cons_append] using hp7, hX7⟩
 | exact ⟨_, rfl, rfl, v7, by rw [itemT, if_neg (show ¬ x.fKind = 4 by assumption), if_neg (show ¬ x.fKind = 3 by assumption), headT, if_pos oO]; simpa only [List.append_assoc, List.nil_append, List.cons_append] using hp7, hX7⟩
 have h19' := dF h19
 refine W.sr <| WL.p (.eql rfl rfl) rfl <| WL.z rfl rfl ?_
 refine W.cond rfl (fun h26 => ?_) (fun h26 => ?_)
 have h26' := dT h26
 obtain ⟨hq1, hq2, hq3, hq4, hq5⟩ := itemB_pen hk aS
 have hpn := penT_len hq1 hq2 hq3 hq4 hq5
 refine W.sr <| WL.m rfl rfl <| WL.p (.nck rfl) rfl <| WL.p (.fa underlying115 rfl sizeOf113 dD rfl) rfl <| WL.call hb83 rfl rfl ((prt_WriteString b v1 _ [115, 116, 114, 111, 107, 101] _ hP (by simp only [List.length_append, List.length_cons, List.length_nil]; omega))) (fun r w27 hw27 => ?_)
 obtain ⟨v2, hp2, hw2⟩ := hw27
 have hX2 := hW.trans hw2
 have hk2 := hk0.wr hX2 hne hnv
 refine WL.nil <| ?_
 refine W.sr <| WL.m rfl rfl <| WL.p (.fa underlying87 rfl sizeOf80 dD rfl) rfl <| WL.r (Rd.ldF (L := colorL) underlying80 rfl isz80 hk2 (x.fColor) (rfl) rfl) rfl <| WL.call hb123 rfl rfl ((prt_color b v2 _ x.fColor _ hp2 (by simp only [List.length_append, List.length_cons, List.length_nil]; omega) hsp)) (fun r w28 hw28 => ?_)
 obtain ⟨rfl, v3, hp3, hw3⟩ := hw28
 have hX3 := hX2.trans hw3
 have hk3 := hk0.wr hX3 hne hnv
 refine WL.nil <| ?_
 refine W.sr <| WL.m rfl rfl <| WL.p (.fa underlying87 rfl sizeOf84 dD rfl) rfl <| WL.r (Rd.ldF (L := penL) underlying84 rfl isz84 hk3 (x.fPen) (rfl) rfl) rfl <| WL.call hb126 rfl rfl ((prt_pen b v3 _ x.fPen _ hp3 (hxw hX3).ok_fPen.row_fDash (hap (fun h0 => hx.ok_fPen.row_fDash.lt h0) hp3) hq1 oO hq3 oO oO hx.ok_fPen.sl_fDash.nil (by simp only [List.length_append, List.length_cons, List.length_nil]; omega))) (fun r w29 hw29 => ?_)
 obtain ⟨rfl, v4, hp4, hw4⟩ := hw29
 have hX4 := hX3.trans hw4
 have hk4 := hk0.wr hX4 hne hnv
 refine WL.nil <| ?_
 refine W.reg <| WL.m rfl rfl <| WL.p (.fa underlying87 rfl sizeOf77 dD rfl) rfl <| WL.r (Rd.ld (isAgg77 _) rfl hk4 rfl) rfl <| WL.call hb122 rfl rfl ((prt_path b v4 _ x.pfPath x.fPath _ _ hp4 (hxw hX4).row_fPath (hap (fun h0 => hx.row_fPath.lt h0) hp4) (by simp only [List.length_append, List.length_cons, List.length_nil]; omega))) (fun r w30 hw30 => ?_)
 obtain ⟨rfl, v6, hp6, hw6⟩ := hw30
 have hX6 := hX4.trans hw6
 refine WL.nil <| ?_
 refine W.reg <| WL.m rfl rfl <| WL.p (.nck rfl) rfl <| WL.p (.fa underlying115 rfl sizeOf113 dD rfl) rfl <| WL.call hb85 rfl rfl ((prt_WriteByte b v6 _ 10 _ hp6 (by (try unfold bytesT); simp only [List.length_append, List.length_cons, List.length_nil]; omega))) (fun r w31 hw31 => ?_)
 obtain ⟨v7, hp7, hw7⟩ := hw31
 have hX7 := (Wr.of_below hBx).trans (hX6.trans hw7)
 refine WL.nil <| ?_
 refine W.norm (W.ret0 rfl ?_)
 first
 | exact ⟨_, rfl, rfl, v7, by rw [itemT, if_pos (show x.fKind = 4 by assumption), headT, if_neg oO, if_neg oO, if_neg oO]; simpa only [List.append_assoc, bytesT] using hp7, hX7⟩
 | exact ⟨_, rfl, rfl, v7, by rw [itemT, if_neg (show ¬ x.fKind = 4 by assumption), if_pos (show x.fKind = 3 by assumption), headT, if_neg oO, if_neg oO, if_pos aS]; simpa only [List.append_assoc] using hp7, hX7⟩
 | exact ⟨_, rfl, rfl, v7, by rw [itemT, if_neg (show ¬ x.fKind = 4 by assumption), if_neg (show ¬ x.fKind = 3 by assumption), headT, if_neg oO, if_pos (show x.fKind = 2 by assumption)]; simpa only [List.append_assoc, List.nil_append, List.cons_append] using hp7, hX7⟩
 | exact ⟨_, rfl, rfl, v7, by rw [itemT, if_neg (show ¬ x.fKind = 4 by assumption), if_neg (show ¬ x.fKind = 3 by assumption), headT, if_pos oO]; simpa only [List.append_assoc, List.nil_append, List.cons_append] using hp7, hX7⟩
 have h26' := dF h26
 refine W.seq <| W.sr <| WL.p (.fa underlying87 rfl sizeOf3 dD rfl) rfl <| WL.r (Rd.ld (isAgg3 _) rfl hkb rfl) rfl <| WL.p (.eql rfl rfl) rfl <| WL.nil <| ?_
 refine W.cond rfl (fun h32 => ?_) (fun h32 => ?_)
 have h32' := dT h32
 refine W.reg <| WL.m rfl rfl <| WL.p (.nck rfl) rfl <| WL.p (.fa underlying115 rfl sizeOf113 dD rfl) rfl <| WL.call hb83 rfl rfl ((prt_WriteString b v1 _ [101, 111] _ hP (by simp only [List.length_append, List.length_cons, List.length_nil]; omega))) (fun r w33 hw33 => ?_)
 obtain ⟨v2, hp2, hw2⟩ := hw33
 have hX2 := hW.trans hw2
 have hk2 := hk0.wr hX2 hne hnv
 have hpa := hp2
 have hXa := hX2
 refine WL.nil <| ?_
 refine W.sr <| WL.m rfl rfl <| WL.p (.nck rfl) rfl <| WL.p (.fa underlying115 rfl sizeOf113 dD rfl) rfl <| WL.call hb83 rfl rfl ((prt_WriteString b _ _ [102, 105, 108, 108] _ hpa (by simp only [List.length_append, List.length_cons, List.length_nil]; omega))) (fun r w34 hw34 => ?_)
 obtain ⟨v3, hp3, hw3⟩ := hw34
 have hX3 := hXa.trans hw3
 have hk3 := hk0.wr hX3 hne hnv
 refine WL.nil <| ?_
 refine W.sr <| WL.m rfl rfl <| WL.p (.fa underlying87 rfl sizeOf80 dD rfl) rfl <| WL.r (Rd.ldF (L := colorL) underlying80 rfl isz80 hk3 (x.fColor) (rfl) rfl) rfl <| WL.call hb123 rfl rfl ((prt_color b v3 _ x.fColor _ hp3 (by simp only [List.length_append, List.length_cons, List.length_nil]; omega) hsp)) (fun r w35 hw35 => ?_)
 obtain ⟨rfl, v4, hp4, hw4⟩ := hw35
 have hX4 := hX3.trans hw4
 have hk4 := hk0.wr hX4 hne hnv
 refine WL.nil <| ?_
 refine W.reg <| WL.m rfl rfl <| WL.p (.fa underlying87 rfl sizeOf77 dD rfl) rfl <| WL.r (Rd.ld (isAgg77 _) rfl hk4 rfl) rfl <| WL.call hb122 rfl rfl ((prt_path b v4 _ x.pfPath x.fPath _ _ hp4 (hxw hX4).row_fPath (hap (fun h0 => hx.row_fPath.lt h0) hp4) (by simp only [List.length_append, List.length_cons, List.length_nil]; omega))) (fun r w36 hw36 => ?_)
 obtain ⟨rfl, v6, hp6, hw6⟩ := hw36
 have hX6 := hX4.trans hw6
 refine WL.nil <| ?_
 refine W.reg <| WL.m rfl rfl <| WL.p (.nck rfl) rfl <| WL.p (.fa underlying115 rfl sizeOf113 dD rfl) rfl <| WL.call hb85 rfl rfl ((prt_WriteByte b v6 _ 10 _ hp6 (by (try unfold bytesT); simp only [List.length_append, List.length_cons, List.length_nil]; omega))) (fun r w37 hw37 => ?_)
 obtain ⟨v7, hp7, hw7⟩ := hw37
 have hX7 := (Wr.of_below hBx).trans (hX6.trans hw7)
 refine WL.nil <| ?_
 refine W.norm (W.ret0 rfl ?_)
 first
 | exact ⟨_, rfl, rfl, v7, by rw [itemT, if_pos (show x.fKind = 4 by assumption), headT, if_neg oO, if_neg oO, if_neg oO]; simpa only [List.append_assoc, bytesT] using hp7, hX7⟩
 | exact ⟨_, rfl, rfl, v7, by rw [itemT, if_neg (show ¬ x.fKind = 4 by assumption), if_pos (show x.fKind = 3 by assumption), headT, if_neg oO, if_neg oO, if_pos aS]; simpa only [List.append_assoc] using hp7, hX7⟩
 | exact ⟨_, rfl, rfl, v7, by rw [itemT, if_neg (show ¬ x.fKind = 4 by assumption), if_neg (show ¬ x.fKind = 3 by assumption), headT, if_neg oO, if_pos (show x.fKind = 2 by assumption)]; simpa only [List.append_assoc, List.nil_append, List.cons_append] using hp7, hX7⟩
 | exact ⟨_, rfl, rfl, v7, by rw [itemT, if_neg (show ¬ x.fKind = 4 by assumption), if_neg (show ¬ x.fKind = 3 by assumption), headT, if_pos oO]; simpa only [List.append_assoc, List.nil_append, List.cons_append] using hp7, hX7⟩
 have h32' := dF h32
 have hpa := hP
 have hXa := hW
 refine W.skip <| W.sr <| WL.m rfl rfl <| WL.p (.nck rfl) rfl <| WL.p (.fa underlying115 rfl sizeOf113 dD rfl) rfl <| WL.call hb83 rfl rfl ((prt_WriteString b _ _ [102, 105, 108, 108] _ hpa (by simp only [List.length_append, List.length_cons, List.length_nil]; omega))) (fun r w38 hw38 => ?_)
 obtain ⟨v3, hp3, hw3⟩ := hw38
 have hX3 := hXa.trans hw3
 have hk3 := hk0.wr hX3 hne hnv
 refine WL.nil <| ?_
 refine W.sr <| WL.m rfl rfl <| WL.p (.fa underlying87 rfl sizeOf80 dD rfl) rfl <| WL.r (Rd.ldF (L := colorL) underlying80 rfl isz80 hk3 (x.fColor) (rfl) rfl) rfl <| WL.call hb123 rfl rfl ((prt_color b v3 _ x.fColor _ hp3 (by simp only [List.length_append, List.length_cons, List.length_nil]; omega) hsp)) (fun r w39 hw39 => ?_)
 obtain ⟨rfl, v4, hp4, hw4⟩ := hw39
 have hX4 := hX3.trans hw4
 have hk4 := hk0.wr hX4 hne hnv
 refine WL.nil <| ?_
 refine W.reg <| WL.m rfl rfl <| WL.p (.fa underlying87 rfl sizeOf77 dD rfl) rfl <| WL.r (Rd.ld (isAgg77 _) rfl hk4 rfl) rfl <| WL.call hb122 rfl rfl ((prt_path b v4 _ x.pfPath x.fPath _ _ hp4 (hxw hX4).row_fPath (hap (fun h0 => hx.row_fPath.lt h0) hp4) (by simp only [List.length_append, List.length_cons, List.length_nil]; omega))) (fun r w40 hw40 => ?_)
 obtain ⟨rfl, v6, hp6, hw6⟩ := hw40
 have hX6 := hX4.trans hw6
 refine WL.nil <| ?_
 refine W.reg <| WL.m rfl rfl <| WL.p (.nck rfl) rfl <| WL.p (.fa underlying115 rfl sizeOf113 dD rfl) rfl <| WL.call hb85 rfl rfl ((prt_WriteByte b v6 _ 10 _ hp6 (by (try unfold bytesT); simp only [List.length_append, List.length_cons, List.length_nil]; omega))) (fun r w41 hw41 => ?_)
 obtain ⟨v7, hp7, hw7⟩ := hw41
 have hX7 := (Wr.of_below hBx).trans (hX6.trans hw7)
 refine WL.nil <| ?_
 refine W.norm (W.ret0 rfl ?_)
 first
 | exact ⟨_, rfl, rfl, v7, by rw [itemT, if_pos (show x.fKind = 4 by assumption), headT, if_neg oO, if_neg oO, if_neg oO]; simpa only [List.append_assoc, bytesT] using hp7, hX7⟩
 | exact ⟨_, rfl, rfl, v7, by rw [itemT, if_neg (show ¬ x.fKind = 4 by assumption), if_pos (show x.fKind = 3 by assumption), headT, if_neg oO, if_neg oO, if_pos aS]; simpa only [List.append_assoc] using hp7, hX7⟩
 | exact ⟨_, rfl, rfl, v7, by rw [itemT, if_neg (show ¬ x.fKind = 4 by assumption), if_neg (show ¬ x.fKind = 3 by assumption), headT, if_neg oO, if_pos (show x.fKind = 2 by assumption)]; simpa only [List.append_assoc, List.nil_append, List.cons_append] using hp7, hX7⟩
 | exact ⟨_, rfl, rfl, v7, by rw [itemT, if_neg (show ¬ x.fKind = 4 by assumption), if_neg (show ¬ x.fKind = 3 by assumption), headT, if_pos oO]; simpa only [List.append_assoc, List.nil_append, List.cons_append] using hp7, hX7⟩
end
section
theorem pre_len {α : Type} {g : α → List UInt8} {m : α → Nat} : ∀ (l : List α), (∀ x ∈ l, (g x).length ≤ m x) → ∀ (i : Nat) (hi : i < l.length), ((l.take i).flatMap g).length + m l[i] ≤ (l.map m).sum
 | [], _, i, hi => absurd hi (by simp)
 | x :: l, h, 0, hi => by simp only [List.take_zero, List.flatMap_nil, List.length_nil, List.getElem_cons_zero, List.map_cons, List.sum_cons]; omega
 | x :: l, h, i + 1, hi => by
  have ih := pre_len l (fun y hy => h y (List.mem_cons_of_mem _ hy)) i (by simpa using hi)
  have hx := h x (List.mem_cons_self ..)
  simp only [List.take_succ_cons, List.flatMap_cons, List.length_append, List.getElem_cons_succ, List.map_cons, List.sum_cons]; omega
theorem sum_lin {α : Type} (c : Nat) (f : α → Nat) : ∀ l : List α, (l.map fun x => 368 * (c + f x)).sum = 368 * (c * l.length + sumOf f l)
 | [] => by simp [sumOf]
 | x :: l => by
  have ih := sum_lin c f l
  have e : sumOf f (x :: l) = f x + sumOf f l := by simp [sumOf]
  rw [e]
  simp only [List.map_cons, List.sum_cons, ih, List.length_cons, Nat.mul_succ]
  generalize c * l.length = k
  omega
theorem items_pre {w : World} {l : List ItemV} (h : ∀ y ∈ l, ItemOk w y ∧ itemB y = true ∧ ItemS y) (k : Nat) (hk : k < l.length) :
  ((l.take k).flatMap itemT).length + 368 * (5 + itemW l[k] + clipW l[k]) ≤ 368 * (5 * l.length + sumOf (fun y => itemW y + clipW y) l) := by
 have h1 := pre_len (g := itemT) (m := fun y => 368 * (5 + (itemW y + clipW y))) l (fun y hy => by have := itemT_len (h y hy).1 (h y hy).2.1 (h y hy).2.2; omega) k hk
 rw [sum_lin] at h1; omega
theorem items_len {w : World} {l : List ItemV} (h : ∀ y ∈ l, ItemOk w y ∧ itemB y = true ∧ ItemS y) :
  (l.flatMap itemT).length ≤ 368 * (5 * l.length + sumOf (fun y => itemW y + clipW y) l) := by
 induction l with
 | nil => simp
 | cons y m ih =>
  have h1 := ih fun z hz => h z (List.mem_cons_of_mem _ hz)
  have h2 := h y (List.mem_cons_self ..)
  have h3 := itemT_len h2.1 h2.2.1 h2.2.2
  have e : sumOf (fun y => itemW y + clipW y) (y :: m) = (itemW y + clipW y) + sumOf (fun y => itemW y + clipW y) m := by simp [sumOf]
  rw [e]
  simp only [List.flatMap_cons, List.length_append, List.length_cons]; omega
theorem pageH_len (x : PageV) : (pageH x).length ≤ 127 := by
 have n1 := numT_len x.fWidth; have n2 := numT_len x.fHeight
 unfold pageH; simp only [List.length_append, List.length_cons, List.length_nil]; omega
theorem page_items {w : World} {x : PageV} (ho : PageOk w x) (hb : pageB x = true) (hs : ∀ y ∈ x.fItems, ItemS y) : ∀ y ∈ x.fItems, ItemOk w y ∧ itemB y = true ∧ ItemS y := fun y hy => by
 unfold pageB at hb
 simp only [Bool.and_eq_true, List.all_eq_true] at hb
 exact ⟨ho.all_fItems y hy, hb.2 y hy, hs y hy⟩
theorem pages_pre {w : World} {l : List PageV} (ho : ∀ x ∈ l, PageOk w x) (hb : ∀ x ∈ l, pageB x = true) (hs : ∀ x ∈ l, ∀ y ∈ x.fItems, ItemS y) (i : Nat) (hi : i < l.length) :
  (pagesT (l.take i)).length + 368 * (1 + pageW l[i]) ≤ 368 * pagesW l := by
 have h1 := pre_len (g := pageT) (m := fun x => 368 * (1 + pageW x)) l (fun x hx => by
  have h2 := items_len (page_items (ho x hx) (hb x hx) (hs x hx))
  have h3 := pageH_len x
  unfold pageT pageW; rw [List.length_append]; omega) i hi
 rw [sum_lin] at h1
 unfold pagesT pagesW; omega
theorem all_bnot {α : Type} (q : α → Bool) (l : List α) : l.any (fun x => !q x) = !l.all q := by rw [List.all_eq_not_any_not, Bool.not_not]
set_option maxHeartbeats 3200000 in
theorem script_Print (p : Option Addr) (l : List PageV) (c : Nat) (w : World) (hF : Fonts w) (hr : RowM pageL w p l) (hs : PagesS l) (ho : ∀ x ∈ l, PageOk w x) (hW : pagesW l < 2000) :
  Calls Tryz.prog 50 #[.slice p l.length c] w fun e w' => e = .returned (.tuple #[.string (bs (if l.all pageB then pagesT l else [])), .int .i64 (if l.all pageB then 0 else 22)]) ∧ Below w.heap.size w w' := by
 have hrl : 0 < l.length → (pA p).block < w.heap.size := fun h0 => hr.lt h0
 have hl := hs.len
 refine W.enter func50 rfl ntmps50 (Nat.le_of_ble_eq_true rfl) ?_
 have hB0 := Below.refl (w.heap.size) w
 refine W.sr <| WL.a rfl rfl <| WL.z rfl rfl ?_
 refine W.seq <| W.sr <| WL.m rfl rfl <| WL.c1 hb54 rfl rfl ((lib_ContainsPage hb82 _ _ _ (fun x => !pageB x) _ hr oO (fun j h w1 hb1 => script_Print1 _ _ (hF.below hb1) ((ho _ (List.getElem_mem h)).below hb1)))) (fun w1 hw1 => ?_)
 have hB3 := btr hB0 hw1
 refine WL.nil <| ?_
 refine W.cond rfl (fun h4 => ?_) (fun h4 => ?_)
 have hno : l.all pageB = false := by have := all_bnot pageB l; simp_all
 refine W.sr <| WL.a rfl rfl <| WL.z rfl rfl ?_
 refine W.ret (W.ret2 rfl rfl rfl ?_)
 first
 | exact ⟨by rw [hno]; rfl, hB3⟩
 | exact ⟨by rw [hall]; rfl, hB3⟩
 have hall : l.all pageB = true := by have := all_bnot pageB l; simp_all
 have hbs : ∀ x ∈ l, pageB x = true := List.all_eq_true.1 hall
 refine W.skip <| W.sr <| WL.alloc zeroValue115 rfl (fun b5 wb5 eb5 hkb5 hub5 hsb5 => ?_)
 have hB8 := Upd.below hB3 (by rw [eb5]; exact hB3.size) hub5
 have hgeb5 : w.heap.size ≤ b5 := by rw [eb5]; exact hB3.size
 refine WL.nil <| ?_
 refine W.seq <| W.seq ?_
 have hk0 := hkb5
 have hP0 : Prt wb5 b5 (.slice none 0 0) [] := ⟨⟨none, .inl rfl, hk0⟩, Own.nil _ _ _⟩
 have hX0 : Wr b5 (.slice none 0 0) (.slice none 0 0) wb5 wb5 := Wr.refl _ _ _
 have hbx0 := hB8
 have hb0 : w.heap.size ≤ b5 := hgeb5
 have hsz : w.heap.size ≤ wb5.heap.size := hB8.size
 have hbe : ∀ {v' : Value} {w' : World}, Wr b5 (.slice none 0 0) v' wb5 w' → Below w.heap.size w w' := fun hW => hbx0.trans (hW.below hsz hb0 fun g hg => by cases hg)
 refine W.reg <| WL.m rfl rfl <| WL.p (.lenS underlying47 rfl) rfl <| WL.m rfl rfl <| WL.nil <| ?_
 refine W.block ?_
 refine W.loop (α := Nat × Value) (fun t => [(4, .pointer (some ⟨b5, 0, none⟩)), (11, .slice p l.length c), (12, .int .i64 (l.length : Int)), (13, .int .i64 (t.1 : Int))]) (fun t w' => Prt w' b5 t.2 (pagesT (l.take t.1)) ∧ Wr b5 (.slice none 0 0) t.2 wb5 w' ∧ t.1 ≤ l.length ∧ (t.1 = 0 → t.2 = .slice none 0 0)) (fun t => l.length - t.1) ((0, .slice none 0 0)) ⟨rfl, rfl, rfl, rfl, trivial⟩ (⟨by simpa [pagesT] using hP0, hX0, Nat.zero_le _, fun _ => rfl⟩) (fun t w1 hR => ?_)
 obtain ⟨i, v1⟩ := t
 obtain ⟨hP, hX, hi, hv0⟩ := hR
 simp only at hP hX hi hv0 ⊢
 have hB1 := hbe hX
 have hrb := hr.below hB1 hrl
 refine W.sr <| WL.p (.lss rfl rfl) rfl <| WL.nil <| ?_
 refine W.seq <| W.cond rfl (fun h9 => ?_) (fun h9 => ?_)
 have h9' := dT h9
 have hil : i < l.length := by omega
 have hpo := ho _ (List.getElem_mem hil)
 have hps := hs.items _ (List.getElem_mem hil)
 have hpb := hbs _ (List.getElem_mem hil)
 have hpre := pages_pre ho hbs (fun x hx => (hs.items x hx).2) i hil
 have hph := pageH_len l[i]
 have hft : pagesT (l.take (i + 1)) = pagesT (l.take i) ++ pageT l[i] := flatMap_take hil
 have hio := page_items hpo hpb hps.2
 have hiln := items_len hio
 unfold pageW at hpre
 have n1 := numT_len l[i].fWidth; have n2 := numT_len l[i].fHeight
 have hn2 := numsT_len [l[i].fWidth, l[i].fHeight]
 refine W.skip <| W.seq <| W.block <| W.sr <| WL.p (.ixm underlying47 sizeOf76 rfl rfl (hrb.isp oO) (i) (rfl) oO) rfl <| WL.r (Rd.ldS underlying76 rfl isz76 hrb (i) oO rfl) rfl <| WL.alloc zeroValue76 rfl (fun b10 wb10 eb10 hkb10 hub10 hsb10 => ?_)
 have hgeb10 : w.heap.size ≤ b10 := by rw [eb10]; exact hB1.size
 refine WL.stL rfl rfl hkb10 isz76 rfl rfl (fun w14 hkw14 huw14 hsw14 => ?_)
 refine WL.nil <| ?_
 refine W.seq ?_
 have hBy : Below w1.heap.size w1 w14 := Upd.below (Upd.below (Below.refl _ _) oO hub10) oO huw14
 have hkc0 := hkw14
 have hpy := hP.below hBy
 have hWy := hX.trans (Wr.of_below hBy)
 have hne6 : b10 ≠ b5 := by have := hP.lt; omega
 have hnv6 : v1.ownBlock ≠ some b10 := fun e => by have := (hP.own.lt _ e).2; omega
 have hY0 : Wr b5 v1 v1 w14 w14 := Wr.refl _ _ _
 refine W.reg <| WL.p (.fa underlying115 rfl sizeOf113 dD rfl) rfl <| WL.call hb83 rfl rfl ((prt_WriteString _ v1 _ [112, 97, 103, 101] _ hpy (by simp only [List.length_append, List.length_cons, List.length_nil]; omega))) (fun r w17 hw17 => ?_)
 obtain ⟨v2, hp2, hw2⟩ := hw17
 have hY2 := hY0.trans hw2
 have hkc2 := hkc0.wr hY2 hne6 hnv6
 have hB2 := Below.refl w17.heap.size w17
 refine WL.nil <| ?_
 refine W.sr <| WL.p (.fa underlying76 rfl sizeOf3 dD rfl) rfl <| WL.r (Rd.ld (isAgg3 _) rfl hkc2 rfl) rfl <| WL.p (.fa underlying76 rfl sizeOf3 dD rfl) rfl <| WL.r (Rd.ld (isAgg3 _) rfl hkc2 rfl) rfl <| WL.bsl (ps := _) underlying82 sizeOf3 zeroValue3 rfl rfl rfl rfl rfl pR rfl (fun b18 wb18 eb18 hkb18 hub18 hsb18 => ?_)
 have hl20 : b10 < b18 := by rw [eb18]; exact hkc2.lt
 have hB21 := Upd.below hB2 (by rw [eb18]; exact hB2.size) hub18
 have hgeb18 : w17.heap.size ≤ b18 := by rw [eb18]; exact hB2.size
 have hz23 := RowAt.lit (V := intV) (l := [l[i].fWidth, l[i].fHeight]) hkb18 (rfl)
 refine WL.call hb84 rfl rfl ((prt_numbers _ v2 _ _ [l[i].fWidth, l[i].fHeight] 2 _ (hp2.below hB21) hz23 (fun _ => ⟨by show b18 ≠ _; have := hp2.lt; omega, fun e => by have := (hp2.own.lt _ e).2; have h3 : (pA (some (⟨b18, 0, none⟩ : Addr))).block = b18 := rfl; rw [h3] at this; omega⟩) (by simp only [List.length_append, List.length_cons, List.length_nil]; omega))) (fun r w22 hw22 => ?_)
 obtain ⟨rfl, v3, hp3, hw3⟩ := hw22
 have hY3 := (hY2.trans (Wr.of_below hB21)).trans hw3
 have hkc3 := hkc0.wr hY3 hne6 hnv6
 have hB3 := Below.refl w22.heap.size w22
 refine WL.nil <| ?_
 refine W.sr <| WL.p (.fa underlying115 rfl sizeOf113 dD rfl) rfl <| WL.call hb85 rfl rfl ((prt_WriteByte _ v3 _ 10 _ hp3 (by simp only [List.length_append, List.length_cons, List.length_nil] at *; omega))) (fun r w23 hw23 => ?_)
 obtain ⟨v4, hp4, hw4⟩ := hw23
 have hY4 := hY3.trans hw4
 have hkc4 := hkc0.wr hY4 hne6 hnv6
 have hX4 := hWy.trans hY4
 refine WL.nil <| ?_
 refine W.seq ?_
 have hp4' : Prt w23 b5 v4 (pagesT (l.take i) ++ pageH l[i]) := by simpa [pageH, numsT] using hp4
 refine W.reg <| WL.p (.fa underlying76 rfl sizeOf74 dD rfl) rfl <| WL.r (Rd.ld (isAgg74 _) rfl hkc4 rfl) rfl <| WL.p (.lenS underlying74 rfl) rfl <| WL.m rfl rfl <| WL.nil <| ?_
 refine W.block ?_
 refine W.loop (α := Nat × Value) (fun t => [(4, .pointer (some ⟨b5, 0, none⟩)), (11, .slice p l.length c), (12, .int .i64 (l.length : Int)), (13, .int .i64 (i : Int)), (28, .slice l[i].pfItems l[i].fItems.length l[i].cfItems), (29, .int .i64 (l[i].fItems.length : Int)), (30, .int .i64 (t.1 : Int))]) (fun t w' => Prt w' b5 t.2 (pagesT (l.take i) ++ pageH l[i] ++ (l[i].fItems.take t.1).flatMap itemT) ∧ Wr b5 (.slice none 0 0) t.2 wb5 w' ∧ t.1 ≤ l[i].fItems.length) (fun t => l[i].fItems.length - t.1) ((0, v4)) ⟨rfl, rfl, rfl, rfl, rfl, rfl, rfl, trivial⟩ (⟨by simpa using hp4', hX4, Nat.zero_le _⟩) (fun t w1 hR => ?_)
 obtain ⟨k, v5⟩ := t
 obtain ⟨hP5, hX5, hk5⟩ := hR
 simp only at hP5 hX5 hk5 ⊢
 have hB5 := hbe hX5
 have hri := (hpo.below hB5).row_fItems
 refine W.sr <| WL.p (.lss rfl rfl) rfl <| WL.nil <| ?_
 refine W.seq <| W.cond rfl (fun h24 => ?_) (fun h24 => ?_)
 have h24' := dT h24
 have hkl : k < l[i].fItems.length := by omega
 have hik : (l[i].fItems.take (k + 1)).flatMap itemT = (l[i].fItems.take k).flatMap itemT ++ itemT l[i].fItems[k] := flatMap_take hkl
 have hit := hio _ (List.getElem_mem hkl)
 have hip := items_pre hio k hkl
 have hil2 := itemT_len hit.1 hit.2.1 hit.2.2
 refine W.skip <| W.seq <| W.block <| W.sr <| WL.p (.ixm underlying74 sizeOf87 rfl rfl (hri.isp oO) (k) (rfl) oO) rfl <| WL.r (Rd.ldS underlying87 rfl isz87 hri (k) oO rfl) rfl <| WL.alloc zeroValue87 rfl (fun b25 wb25 eb25 hkb25 hub25 hsb25 => ?_)
 have hgeb25 : w.heap.size ≤ b25 := by rw [eb25]; exact hB5.size
 refine WL.stL rfl rfl hkb25 isz87 rfl rfl (fun w29 hkw29 huw29 hsw29 => ?_)
 refine WL.nil <| ?_
 refine W.seq ?_
 have hBz : Below w1.heap.size w1 w29 := Upd.below (Upd.below (Below.refl _ _) oO hub25) oO huw29
 have hpz := hP5.below hBz
 have hWz := hX5.trans (Wr.of_below hBz)
 refine W.reg <| WL.r (Rd.ldA rfl hkw29 underlying87 rfl isz87) rfl <| WL.call hb86 rfl rfl ((prt_item _ v5 _ l[i].fItems[k] w _ hpz hit.1 (hbe hWz) hb0 hit.2.1 (by simp only [List.length_append]; omega))) (fun r w32 hw32 => ?_)
 obtain ⟨rfl, v6, hp6, hw6⟩ := hw32
 have hX6 := hWz.trans hw6
 refine WL.nil <| ?_
 refine W.sr <| WL.p (.fa underlying115 rfl sizeOf113 dD rfl) rfl <| WL.c1 hb87 rfl rfl ((prt_Len _ v6 _ _ hp6)) (fun w33 hw33 => ?_)
 obtain rfl := hw33
 refine WL.p (.gtr rfl rfl) rfl <| WL.nil <| ?_
 refine W.cond rfl (fun h34 => ?_) (fun h34 => ?_)
 have h34' := dT h34
 exfalso; have h38 : (1048576 : Int) < ((pagesT (l.take i) ++ pageH l[i] ++ (l[i].fItems.take k).flatMap itemT ++ itemT l[i].fItems[k]).length : Int) := by assumption
 simp only [List.length_append] at h38; omega
 have h34' := dF h34
 refine W.skip <| W.reg <| WL.p (.iis (((k + 1 : Nat) : Int)) (.add rfl rfl (i64w oO)) oO) rfl <| WL.m rfl rfl <| WL.nil <| ?_
 exact ⟨(k + 1, v6), ⟨rfl, rfl, rfl, rfl, rfl, rfl, rfl, trivial⟩, ⟨by simp only []; rw [hik, ← List.append_assoc]; exact hp6, hX6, by ((try simp only) <;> omega)⟩, by ((try simp only) <;> omega)⟩
 have h24' := dF h24
 have hke : l[i].fItems.take k = l[i].fItems := List.take_of_length_le oO
 refine W.exit <| W.reg <| WL.p (.iis (((i + 1 : Nat) : Int)) (.add rfl rfl (i64w oO)) oO) rfl <| WL.m rfl rfl <| WL.nil <| ?_
 exact ⟨(i + 1, v5), ⟨rfl, rfl, rfl, rfl, trivial⟩, ⟨by simp only []; rw [hft, pageT, ← List.append_assoc]; rw [hke] at hP5; exact hP5, hX5, by ((try simp only) <;> omega), fun h => by ((try simp only) <;> omega)⟩, by ((try simp only) <;> omega)⟩
 have h9' := dF h9
 have hie : l.take i = l := List.take_of_length_le oO
 rw [hie] at hP
 have hpl := pagesT_len l ho hbs (fun x hx => (hs.items x hx).2)
 refine W.exit <| W.seq <| W.sr <| WL.p (.fa underlying115 rfl sizeOf113 dD rfl) rfl <| WL.c1 hb87 rfl rfl ((prt_Len _ v1 _ _ hP)) (fun w35 hw35 => ?_)
 obtain rfl := hw35
 refine WL.p (.gtr rfl rfl) rfl <| WL.nil <| ?_
 refine W.cond rfl (fun h36 => ?_) (fun h36 => ?_)
 have h36' := dT h36
 exfalso; omega
 have h36' := dF h36
 have hStr : Calls Tryz.prog 88 #[.pointer (some ⟨b5, 0, none⟩)] w1 (fun e w' => e = .returned (.string (bs (pagesT l))) ∧ Below (b5 + 1) w1 w') := by
  cases l with
  | nil =>
   obtain rfl := hv0 (by simpa using hi)
   obtain ⟨a, -, hk⟩ := hP.blk
   exact prt_String0 _ a _ hk
  | cons x m => exact prt_String _ v1 _ _ hP (by simp [pagesT, pageT, pageH])
 refine W.skip <| W.sr <| WL.p (.fa underlying115 rfl sizeOf113 dD rfl) rfl <| WL.c1 hb88 rfl rfl (hStr) (fun w37 hw37 => ?_)
 have hB7 := hB1.trans ((hw37).mono oO)
 refine WL.a rfl rfl <| WL.z rfl rfl ?_
 refine W.ret (W.ret2 rfl rfl rfl ?_)
 first
 | exact ⟨by rw [hno]; rfl, hB7⟩
 | exact ⟨by rw [hall]; rfl, hB7⟩
end
section
def pg1 : PageV := ⟨65536, 131072, none, [], 0⟩
theorem pg1_ok (w : World) : PageOk w pg1 := ⟨rfl, rfl, RowM.nil w, SlOk.z, fun y hy => by cases hy⟩
theorem pg1_T : pagesT [pg1] = [112, 97, 103, 101, 32, 49, 32, 50, 10] := by decide +kernel
theorem pg1_S : PagesS [pg1] := ⟨by decide, fun x hx => by
 obtain rfl : x = pg1 := by simpa using hx
 exact ⟨by decide, fun y hy => by cases hy⟩⟩
theorem pg1_all (w : World) : ∀ x ∈ [pg1], PageOk w x := fun x hx => by
 obtain rfl : x = pg1 := by simpa using hx
 exact pg1_ok w
theorem pg1_b : [pg1].all pageB = true := by decide +kernel
theorem Print_pg1 (p : Option Addr) (w : World) (hF : Fonts w) (hr : RowM pageL w p [pg1]) :
  Calls Tryz.prog 50 #[.slice p 1 1] w fun e w' => e = .returned (.tuple #[.string (bs [112, 97, 103, 101, 32, 49, 32, 50, 10]), .int .i64 0]) ∧ Below w.heap.size w w' :=
 (script_Print p [pg1] 1 w hF hr pg1_S (pg1_all w) dD).mono fun e w' h => by
  rw [pg1_b, pg1_T] at h; exact h
theorem law26_answers (w : World) (hF : Fonts w) : Calls Tryz.prog 25 #[] w fun e w' => e = .returned (.bool true) ∧ Below w.heap.size w w' := by
 refine W.enter func25 rfl ntmps25 (Nat.le_of_ble_eq_true rfl) ?_
 have hB0 := Below.refl (w.heap.size) w
 refine W.sr <| WL.z rfl rfl ?_
 refine W.sr <| WL.p (.buildL (ps := _) blt76 rfl rfl rfl pS) rfl ?_
 refine WL.bslM (L := pageL) (ps := _) ([pg1]) underlying47 sizeOf76 zeroValue76 rfl rfl rfl rfl rfl (by first | rfl | decide) rfl rfl (fun b1 wb1 eb1 hob1 hub1 hsb1 => ?_)
 have hB2 := Upd.below hB0 (by rw [eb1]; exact hB0.size) hub1
 have hgeb1 : w.heap.size ≤ b1 := by rw [eb1]; exact hB0.size
 have hleb1 : b1 ≤ wb1.heap.size := by omega
 refine WL.c1 hb50 rfl rfl ((Print_pg1 _ _ (hF.below hB2) (hob1).rowp)) (fun w3 hw3 => ?_)
 have hle5 := Nat.le_trans hleb1 hw3.size
 have hB7 := btr hB2 hw3
 refine WL.m rfl rfl <| WL.p (.ext rfl rfl) rfl <| WL.p (.ext rfl rfl) rfl <| WL.a rfl rfl <| WL.z rfl rfl ?_
 refine W.sr <| WL.m rfl rfl <| WL.p (.bis (true) (.eql rfl rfl) (by rfl)) rfl <| WL.m rfl rfl <| WL.gy rfl rfl rfl rfl <| WL.m rfl rfl <| WL.gy rfl rfl rfl rfl <| WL.p (.bis (true) (.eqs rfl rfl) (by rfl)) rfl <| WL.p (.pkT rfl rfl rfl) rfl <| WL.z rfl rfl ?_
 refine W.ret (W.ret1 rfl rfl ?_)
 exact ⟨rfl, hB7⟩
end
section
theorem bs_toList (l : List UInt8) : (bs l).toList = l := by simp [bs]
theorem trimLeft0 (l : List UInt8) (w : World) :
  Calls Tryz.prog 210 #[.string (bs l), .string ⟨#[48]⟩] w fun e w' => e = .returned (.string (bs (l.dropWhile (· == 48)))) ∧ w = w' :=
 (Tryz.strings_TrimLeft_one (bs l) 48 dD w).mono fun _ _ ⟨h1, h2⟩ => ⟨h1, h2.symm⟩
theorem bs_extract (l : List UInt8) (a b : Nat) : (bs l).extract a b = bs ((l.drop a).take (b - a)) := by
 apply ByteArray.ext
 simp [bs, ByteArray.data_extract]
theorem indexByte_yes (c : UInt8) (B : List UInt8) : ∀ A : List UInt8, c ∉ A → Lib.indexByte (A ++ c :: B) c = (A.length : Int)
 | [], _ => by simp [Lib.indexByte]
 | b :: A, h => by
  simp only [List.mem_cons, not_or] at h
  have ih := indexByte_yes c B A h.2
  have e3 : (b == c) = false := by rw [beq_eq_false_iff_ne]; exact fun e => h.1 e.symm
  have e4 : ((A.length : Int) == -1) = false := by rw [beq_eq_false_iff_ne]; omega
  simp [Lib.indexByte, e3, ih]
theorem indexByte_no (c : UInt8) : ∀ l : List UInt8, c ∉ l → Lib.indexByte l c = -1
 | [], _ => rfl
 | b :: l, h => by
  simp only [List.mem_cons, not_or] at h
  have ih := indexByte_no c l h.2
  have e3 : (b == c) = false := by rw [beq_eq_false_iff_ne]; exact fun e => h.1 e.symm
  simp [Lib.indexByte, e3, ih]
/-- where a byte is, and what is ahead of it and behind it -/
theorem split_at (c : UInt8) : ∀ l : List UInt8, c ∈ l → ∃ A B, l = A ++ c :: B ∧ c ∉ A
 | [], h => by cases h
 | b :: l, h => by
  by_cases e : c = b
  ·
   exact ⟨[], l, by rw [e]; rfl, by simp⟩
  ·
   rcases List.mem_cons.1 h with h | h
   ·
    exact absurd h e
   ·
    obtain ⟨A, B, h1, h2⟩ := split_at c l h
    exact ⟨b :: A, B, by rw [h1]; rfl, by simp [e, h2]⟩
theorem index1_yes (A B : List UInt8) (c : UInt8) (w : World) (h : c ∉ A) :
  Calls Tryz.prog 186 #[.string (bs (A ++ c :: B)), .string ⟨#[c]⟩] w fun e w' => e = .returned (.int .i64 (A.length : Int)) ∧ w = w' := by
 rw [← indexByte_yes c B A h]
 exact (Tryz.stringslite_Index_one (bs _) c w).mono fun _ _ ⟨h1, h2⟩ => ⟨h1, h2.symm⟩
theorem index1_no (l : List UInt8) (c : UInt8) (w : World) (h : c ∉ l) :
  Calls Tryz.prog 186 #[.string (bs l), .string ⟨#[c]⟩] w fun e w' => e = .returned (.int .i64 (-1)) ∧ w = w' := by
 rw [← indexByte_no c l h]
 exact (Tryz.stringslite_Index_one (bs _) c w).mono fun _ _ ⟨h1, h2⟩ => ⟨h1, h2.symm⟩
theorem ret_bool {a b : Bool} (h : a = b) : Ending.returned (.bool a) = Ending.returned (.bool b) := by rw [h]
theorem ret_ssb {a b a' b' : ByteArray} {c : Bool} (h1 : a = a') (h2 : b = b') : Ending.returned (.tuple #[.string a, .string b, .bool c]) = Ending.returned (.tuple #[.string a', .string b', .bool c]) := by
 rw [h1, h2]
set_option maxHeartbeats 400000 in
theorem slCut1_yes (A B : List UInt8) (c : UInt8) (w : World) (hl : (A ++ c :: B).length ≤ 100000000) (hc : c ∉ A) :
  Calls Tryz.prog 241 #[.string (bs (A ++ c :: B)), .string ⟨#[c]⟩] w fun e w' => e = .returned (.tuple #[.string (bs A), .string (bs B), .bool true]) ∧ Below w.heap.size w w' := by
 have hk : A.length < (A ++ c :: B).length := by simp
 have hA : (bs (A ++ c :: B)).extract 0 A.length = bs A := by
  rw [bs_extract]; simp
 have hB : (bs (A ++ c :: B)).extract (A.length + 1) (A ++ c :: B).length = bs B := by
  rw [bs_extract]
  have e : (A ++ c :: B).drop (A.length + 1) = B := by
   rw [← List.drop_drop]; simp
  rw [e, List.take_of_length_le (by simp; omega)]
 have hI := fun w => index1_yes A B c w hc
 have hs : (bs (A ++ c :: B)).size = (A ++ c :: B).length := bs_size _
 generalize A ++ c :: B = l at *
 generalize hkk : A.length = k at *
 clear hkk
 have hA' := hid hA; have hB' := hid hB; clear hA hB hc
 go_enter func241, ntmps241
 go_wp2_with (go_at_call 186; go_must (refine (hI _).mono ?_); rintro e w' ⟨rfl, rfl⟩)
 go_quiet (fail)
 go_wp2
 go_ret3
 exact ⟨ret_ssb hA'.out hB'.out, bdrewN _ _⟩
theorem slCut1_no (l : List UInt8) (c : UInt8) (w : World) (hc : c ∉ l) :
  Calls Tryz.prog 241 #[.string (bs l), .string ⟨#[c]⟩] w fun e w' => e = .returned (.tuple #[.string (bs l), .string (bs []), .bool false]) ∧ Below w.heap.size w w' := by
 have hI := fun w => index1_no l c w hc
 clear hc
 go_enter func241, ntmps241
 go_wp2_with (go_at_call 186; go_must (refine (hI _).mono ?_); rintro e w' ⟨rfl, rfl⟩)
 go_ret3
 exact ⟨rfl, Below.refl _ _⟩
theorem cut1_yes (A B : List UInt8) (c : UInt8) (w : World) (hl : (A ++ c :: B).length ≤ 100000000) (hc : c ∉ A) :
  Calls Tryz.prog 208 #[.string (bs (A ++ c :: B)), .string ⟨#[c]⟩] w fun e w' => e = .returned (.tuple #[.string (bs A), .string (bs B), .bool true]) ∧ Below w.heap.size w w' := by
 have hI := fun w => slCut1_yes A B c w hl hc
 clear hc hl
 go_enter func208, ntmps208
 go_wp2_with (go_at_call 241; go_must (refine (hI _).mono ?_); rintro e w' ⟨rfl, hb⟩)
 go_ret3
 exact ⟨rfl, hb⟩
theorem cut1_no (l : List UInt8) (c : UInt8) (w : World) (hc : c ∉ l) :
  Calls Tryz.prog 208 #[.string (bs l), .string ⟨#[c]⟩] w fun e w' => e = .returned (.tuple #[.string (bs l), .string (bs []), .bool false]) ∧ Below w.heap.size w w' := by
 have hI := fun w => slCut1_no l c w hc
 clear hc
 go_enter func208, ntmps208
 go_wp2_with (go_at_call 241; go_must (refine (hI _).mono ?_); rintro e w' ⟨rfl, hb⟩)
 go_ret3
 exact ⟨rfl, hb⟩
def isDig (b : UInt8) : Bool := decide (48 ≤ b.toNat) && decide (b.toNat ≤ 57)
theorem digs_contains (b : UInt8) : ([48, 49, 50, 51, 52, 53, 54, 55, 56, 57] : List UInt8).contains b = isDig b := by
 unfold isDig
 rw [Bool.eq_iff_iff]
 simp [← UInt8.toNat_inj]
 omega
theorem dropWhile_nil_iff (p : UInt8 → Bool) : ∀ l : List UInt8, l.dropWhile p = [] ↔ l.all p = true
 | [] => by simp
 | b :: l => by
  cases h : p b with
  | true => simp [h, dropWhile_nil_iff p l]
  | false => simp [h]
theorem trimS_nil_iff (l cs : List UInt8) : Lib.trimS l cs = [] ↔ l.all (cs.contains ·) = true := by
 unfold Lib.trimS Lib.trimLeftS Lib.trimRightS
 rw [dropWhile_nil_iff]
 constructor
 ·
  intro h
  cases hd : l.reverse.dropWhile (cs.contains ·) with
  | nil =>
   rw [dropWhile_nil_iff] at hd
   simpa using hd
  | cons x r =>
   exfalso
   rw [hd] at h
   have hx : cs.contains x = true := by
    simp at h
    simpa using h.2
   have := List.head_dropWhile_not (p := (cs.contains ·)) (l := l.reverse) (by rw [hd]; simp)
   simp only [hd, List.head_cons] at this
   rw [hx] at this; cases this
 ·
  intro h
  have : l.reverse.dropWhile (cs.contains ·) = [] := by
   rw [dropWhile_nil_iff]; simpa using h
  rw [this]; rfl
set_option maxHeartbeats 400000 in
theorem dec_plain (l : List UInt8) (w : World) (hl : l.length ≤ 100000000) :
  Calls Tryz.prog 209 #[.string (bs l)] w fun e w' => e = .returned (.bool (l.all isDig)) ∧ Below w.heap.size w w' := by
 have hT := fun w => Any.strings_Trim_laid Tryz.lays160 kR (bs l) ⟨#[48, 49, 50, 51, 52, 53, 54, 55, 56, 57]⟩ w (by rw [bs_size]; omega) dD (ascii_of_all dD)
 have hN : Lib.trimS l [48, 49, 50, 51, 52, 53, 54, 55, 56, 57] = [] ↔ l.all isDig = true := by
  rw [trimS_nil_iff]
  have : (fun x => ([48, 49, 50, 51, 52, 53, 54, 55, 56, 57] : List UInt8).contains x) = isDig := funext digs_contains
  rw [this]
 have HN := hid hN; clear hN
 go_enter func209, ntmps209
 go_wp2_with (go_at_call 116; go_must (refine (hT _).mono ?_); rintro e w' ⟨rfl, hb⟩)
 go_ret
 exact ⟨ret_bool (by rw [Bool.eq_iff_iff, List.isEmpty_iff]; exact HN.out), hb⟩
theorem ret_bs {m : Bool} {a b : ByteArray} (h : a = b) : Ending.returned (.tuple #[.bool m, .string a]) = Ending.returned (.tuple #[.bool m, .string b]) := by rw [h]
theorem bs_get0 (c : UInt8) (r : List UInt8) (h : 0 < (bs (c :: r)).size) : (bs (c :: r))[0]'h = c := rfl
theorem bs_tail (c : UInt8) (r : List UInt8) : (bs (c :: r)).extract 1 (r.length + 1) = bs r := by
 rw [bs_extract]; simp
theorem bs_ne (c : UInt8) (r : List UInt8) : (bs (c :: r)).toList.isEmpty = false := by simp [bs]
/-- an optional sign -/
def signedL : List UInt8 → Bool × List UInt8
 | [] => (false, [])
 | c :: r => if c = 45 then (true, r) else if c = 43 then (false, r) else (false, c :: r)
set_option maxHeartbeats 400000 in
theorem dec_signed (l : List UInt8) (w : World) (hl : l.length ≤ 100000000) :
  Calls Tryz.prog 158 #[.string (bs l)] w fun e w' => e = .returned (.tuple #[.bool (signedL l).1, .string (bs (signedL l).2)]) ∧ Below w.heap.size w w' := by
 cases l with
 | nil =>
  have hT := bs_toList
  go_enter func158, ntmps158
  go_wp2
  go_ret2
  exact ⟨rfl, Below.refl _ _⟩
 | cons c r =>
  have h0 := bs_get0 c r
  have hs : (bs (c :: r)).size = r.length + 1 := by rw [bs_size]; rfl
  have he := bs_ne c r
  have hb := bs_tail c r
  have Hb := hid hb
  simp only [List.length_cons] at hl
  by_cases h1 : c = 45
  ·
   subst h1
   generalize bs (45 :: r) = s at *
   clear hb
   go_enter func158, ntmps158
   go_wp2
   go_quiet (fail)
   go_wp2
   go_ret2
   exact ⟨ret_bs Hb.out, bdrewN _ _⟩
  ·
   by_cases h2 : c = 43
   ·
    subst h2
    generalize bs (43 :: r) = s at *
    clear hb
    go_enter func158, ntmps158
    go_wp2
    go_quiet (fail)
    go_wp2
    go_ret2
    exact ⟨ret_bs Hb.out, bdrewN _ _⟩
   ·
    have e1 : ((c.toNat : Int) == 45) = false := by
     rw [beq_eq_false_iff_ne]; intro h; exact h1 (UInt8.toNat_inj.1 (by show c.toNat = 45; omega))
    have e2 : ((c.toNat : Int) == 43) = false := by
     rw [beq_eq_false_iff_ne]; intro h; exact h2 (UInt8.toNat_inj.1 (by show c.toNat = 43; omega))
    have e3 : signedL (c :: r) = (false, c :: r) := by simp [signedL, h1, h2]
    rw [e3]
    generalize bs (c :: r) = s at *
    clear hb e3 h1 h2
    go_enter func158, ntmps158
    go_wp2
    go_ret2
    exact ⟨rfl, Below.refl _ _⟩
theorem results4 {fn : Func} {t u v x : Tmp} (h : fn.results = #[.tmp t, .tmp u, .tmp v, .tmp x]) (tmps : Array Value) (P : Program) (w : World) :
  (results fn tmps).run P w = .ok (.tuple #[tmps.getD t undef, tmps.getD u undef, tmps.getD v undef, tmps.getD x undef]) w := by
 simp [results, h]
theorem ret_ssbb {a b a' b' : ByteArray} {c d d' : Bool} (h1 : a = a') (h2 : b = b') (h3 : d = d') : Ending.returned (.tuple #[.string a, .string b, .bool c, .bool d]) = Ending.returned (.tuple #[.string a', .string b', .bool c, .bool d']) := by
 rw [h1, h2, h3]
/-- the whole part, what is behind the point, is there a point -/
def cutDot : List UInt8 → List UInt8 × List UInt8 × Bool
 | [] => ([], [], false)
 | c :: r => if c = 46 then ([], r, true) else (c :: (cutDot r).1, (cutDot r).2)
theorem cutDot_yes (B : List UInt8) : ∀ A : List UInt8, 46 ∉ A → cutDot (A ++ 46 :: B) = (A, B, true)
 | [], _ => by simp [cutDot]
 | c :: A, h => by
  simp only [List.mem_cons, not_or] at h
  have ih := cutDot_yes B A h.2
  simp [cutDot, ih, Ne.symm h.1]
theorem cutDot_no : ∀ l : List UInt8, 46 ∉ l → cutDot l = (l, [], false)
 | [], _ => rfl
 | c :: l, h => by
  simp only [List.mem_cons, not_or] at h
  have ih := cutDot_no l h.2
  simp [cutDot, ih, Ne.symm h.1]
theorem cutDot_len (l : List UInt8) : (cutDot l).1.length + (cutDot l).2.1.length ≤ l.length := by
 induction l with
 | nil => simp [cutDot]
 | cons c r ih => unfold cutDot; split <;> simp; omega
theorem dec_cut (l : List UInt8) (w : World) (hl : l.length ≤ 100000000) :
  Calls Tryz.prog 208 #[.string (bs l), .string ⟨#[46]⟩] w fun e w' => e = .returned (.tuple #[.string (bs (cutDot l).1), .string (bs (cutDot l).2.1), .bool (cutDot l).2.2]) ∧ Below w.heap.size w w' := by
 by_cases h : 46 ∈ l
 ·
  obtain ⟨A, B, rfl, hA⟩ := split_at 46 l h
  rw [cutDot_yes B A hA]; exact cut1_yes A B 46 w hl hA
 ·
  rw [cutDot_no l h]; exact cut1_no l 46 w h
def mantOk (l : List UInt8) : Bool := (cutDot l).1.all isDig && (cutDot l).2.1.all isDig && decide (0 < (cutDot l).1.length + (cutDot l).2.1.length)
set_option maxHeartbeats 400000 in
theorem dec_mantissa (l : List UInt8) (w : World) (hl : l.length ≤ 100000000) :
    Calls Tryz.prog 159 #[.string (bs l)] w fun e w' => e = .returned (.tuple #[.string (bs (cutDot l).1), .string (bs (cutDot l).2.1), .bool (cutDot l).2.2, .bool (mantOk l)]) ∧ Below w.heap.size w w' := by
  have hlen := cutDot_len l
  have hm : mantOk l = ((cutDot l).1.all isDig && (cutDot l).2.1.all isDig && decide (0 < (cutDot l).1.length + (cutDot l).2.1.length)) := rfl
  have hcut := fun w => dec_cut l w hl
  generalize mantOk l = ok at *
  generalize cutDot l = p at *
  obtain ⟨A, B, f⟩ := p
  simp only at hlen hm hcut
  have Hm := hid hm; clear hm
  have s1 : (bs A).size = A.length := bs_size A
  have s2 : (bs B).size = B.length := bs_size B
  by_cases hA : A.all isDig = true
  · by_cases hB : B.all isDig = true
    · have hok : ok = decide (0 < A.length + B.length) := by rw [Hm.out, hA, hB]; rfl
      have HA := hid hA; have HB := hid hB; have Hok := hid hok; clear hok hA hB
      go_enter func159, ntmps159
      go_wp2_with first | (go_at_call 208; go_must (refine (hcut _).mono ?_); rintro e w1 ⟨rfl, hb1⟩) | (go_at_call_of 209 (Value.string (bs A)); go_must (refine (dec_plain A _ oO).mono ?_); rintro e w2 ⟨rfl, hb2⟩; rw [HA.out]) | (go_at_call_of 209 (Value.string (bs B)); go_must (refine (dec_plain B _ oO).mono ?_); rintro e w3 ⟨rfl, hb3⟩; rw [HB.out])
      refine bodyPost_ret (results4 rfl _ _ _) rfl ?_
      refine ⟨ret_ssbb rfl rfl ?_, btr (btr hb1 hb2) hb3⟩
      rw [Hok.out, Bool.eq_iff_iff]; simp; omega
    · have hB' : B.all isDig = false := by simpa using hB
      have hok : ok = false := by rw [Hm.out, hA, hB']; rfl
      have HA := hid hA; have HB := hid hB'; have Hok := hid hok; clear hok hA hB hB'
      go_enter func159, ntmps159
      go_wp2_with first | (go_at_call 208; go_must (refine (hcut _).mono ?_); rintro e w1 ⟨rfl, hb1⟩) | (go_at_call_of 209 (Value.string (bs A)); go_must (refine (dec_plain A _ oO).mono ?_); rintro e w2 ⟨rfl, hb2⟩; rw [HA.out]) | (go_at_call_of 209 (Value.string (bs B)); go_must (refine (dec_plain B _ oO).mono ?_); rintro e w3 ⟨rfl, hb3⟩; rw [HB.out])
      refine bodyPost_ret (results4 rfl _ _ _) rfl ?_
      exact ⟨ret_ssbb rfl rfl Hok.out.symm, btr (btr hb1 hb2) hb3⟩
  · have hA' : A.all isDig = false := by simpa using hA
    have hok : ok = false := by rw [Hm.out, hA']; rfl
    have HA := hid hA'; have Hok := hid hok; clear hok hA hA'
    go_enter func159, ntmps159
    go_wp2_with first | (go_at_call 208; go_must (refine (hcut _).mono ?_); rintro e w1 ⟨rfl, hb1⟩) | (go_at_call_of 209 (Value.string (bs A)); go_must (refine (dec_plain A _ oO).mono ?_); rintro e w2 ⟨rfl, hb2⟩; rw [HA.out])
    refine bodyPost_ret (results4 rfl _ _ _) rfl ?_
    exact ⟨ret_ssbb rfl rfl Hok.out.symm, btr hb1 hb2⟩
end
section
def dbl : List Nat → List Nat × Nat
 | [] => ([], 0)
 | x :: r => ((2 * x + (dbl r).2) % 10 :: (dbl r).1, (2 * x + (dbl r).2) / 10)
theorem dbl_len (l : List Nat) : (dbl l).1.length = l.length := by
 induction l with
 | nil => rfl
 | cons x r ih => simp [dbl, ih]
theorem dbl_carry (l : List Nat) (h : ∀ x ∈ l, x < 10) : (dbl l).2 ≤ 1 := by
 induction l with
 | nil => simp [dbl]
 | cons x r ih =>
  have h1 := h x (by simp)
  have h2 := ih (fun y hy => h y (by simp [hy]))
  simp [dbl]; omega
theorem dbl_digits (l : List Nat) : ∀ x ∈ (dbl l).1, x < 10 := by
 induction l with
 | nil => simp [dbl]
 | cons x r ih =>
  intro y hy
  simp [dbl] at hy
  rcases hy with rfl | hy
  ·
   omega
  ·
   exact ih y hy
def u8s (l : List Nat) : List Value := l.map fun (x : Nat) => Value.int .u8 (x : Int)
theorem u8s_len (l : List Nat) : (u8s l).length = l.length := by simp [u8s]
theorem dbl_step (ds : List Nat) (j : Nat) (hj : j < ds.length) :
  dbl (ds.drop j) = ((2 * ds[j] + (dbl (ds.drop (j + 1))).2) % 10 :: (dbl (ds.drop (j + 1))).1, (2 * ds[j] + (dbl (ds.drop (j + 1))).2) / 10) := by
 rw [List.drop_eq_getElem_cons hj]; rfl
set_option maxHeartbeats 400000 in
theorem dec_double (b : Nat) (cap : Nat) (ds : List Nat) (w : World) (hr : BRow w b (u8s ds)) (hd : ∀ x ∈ ds, x < 10) (hl : ds.length ≤ maxLen) (B : Nat) (hB : B ≤ b) :
  Calls Tryz.prog 211 #[.slice (some ⟨b, 0, none⟩) ds.length cap] w fun e w' => e = .returned (.int .i64 (dbl ds).2) ∧ BRow w' b (u8s (dbl ds).1) ∧ Below B w w' := by
 unfold maxLen at hl
 go_enter func211, ntmps211
 go_wp2_with fail
 go_loopw [3, 4] (fun c i wr => ∃ (k : Nat) (i0 : Int), k ≤ ds.length ∧ i0 = (k : Int) - 1 ∧ i = .int .i64 i0 ∧ c = .int .u8 ((dbl (ds.drop k)).2 : Int) ∧ BRow wr b (u8s (ds.take k ++ (dbl (ds.drop k)).1)) ∧ Below B w wr) (fun _ i _ => (intOf i + 1).toNat)
 case atStart => exact ⟨ds.length, _, Nat.le_refl _, rfl, rfl, by simp [dbl], by simpa [dbl] using hr, Below.refl _ _⟩
 case round =>
  obtain ⟨k, i0, hk, hi0, rfl, rfl, hrow, hbel⟩ := hrel
  cases k with
  | zero =>
   obtain rfl : i0 = -1 := by omega
   clear hi0
   have hc := dbl_carry ds hd
   have e0 : ds.drop 0 = ds := by simp
   rw [e0] at hrow ⊢
   have Hrow := hid hrow; clear hrow
   go_wp2
   go_ret
   exact ⟨rfl, by simpa using Hrow.out, hbel⟩
  | succ j =>
   obtain rfl : i0 = (j : Int) := by omega
   clear hi0
   have hj : j < ds.length := by omega
   have hc := dbl_carry (ds.drop (j + 1)) (fun x hx => hd x (List.mem_of_mem_drop hx))
   have hx := hd ds[j] (by simp)
   have hst := dbl_step ds j hj
   have hsz := hbel.size
   obtain ⟨hcell, hfz⟩ := hrow j (.int .u8 (ds[j] : Int)) (by
    have hl1 : j < (ds.take (j + 1)).length := by simp; omega
    rw [u8s, List.getElem?_map, List.getElem?_append_left hl1, List.getElem?_take, if_pos oO, List.getElem?_eq_getElem hj]; rfl)
   have hset := hrow.set j (.int .u8 ((2 * (ds[j] : Int) + ((dbl (ds.drop (j + 1))).2 : Int)) % 10)) (by simp [u8s]; omega)
   have Hset := hid hset; have Hst := hid hst; clear hset hst hrow hr
   generalize hgc : (dbl (ds.drop (j + 1))).2 = c at *
   generalize hgx : ds[j] = x at *
   have Hgc := hid hgc; have Hgx := hid hgx; clear hgc hgx
   go_wp2
   refine ⟨⟨j, _, by omega, rfl, rfl, ?_, ?_, hbel.setCell hB _⟩, by simp [intOf]⟩
   ·
    rw [Hst.out]; go_num
   ·
    have e : (u8s (List.take (j + 1) ds ++ (dbl (List.drop (j + 1) ds)).fst)).set j (Value.int IntKind.u8 ((2 * (x : Int) + (c : Int)) % 10)) = u8s (List.take j ds ++ (dbl (List.drop j ds)).fst) := by
     rw [Hst.out]
     rw [List.take_succ_eq_append_getElem hj]
     have hl1 : (List.map (fun (x : Nat) => Value.int .u8 (x : Int)) (List.take j ds)).length = j := by simp; omega
     simp only [u8s, List.map_append, List.append_assoc]
     rw [List.set_append_right _ _ oO, hl1, Nat.sub_self]
     simp
    rw [← e]; exact Hset.out
/-- k rounds: the whole part doubled, what goes over added -/
def rounds : Nat → Int → List Nat → Int × List Nat
 | 0, n, d => (n, d)
 | k + 1, n, d => rounds k (2 * n + (dbl d).2) (dbl d).1
def digitsOf (l : List UInt8) : List Nat := l.map fun c => c.toNat - 48
def natOf (l : List UInt8) : Nat := l.foldl (fun n c => 10 * n + (c.toNat - 48)) 0
/-- a number by its digits ahead of and behind the point, without its sign; none: too great -/
def rawL (whole rest : List UInt8) : Option Int :=
 if 5 < (whole.dropWhile (· == 48)).length then none
 else some ((rounds 16 (natOf (whole.dropWhile (· == 48))) (digitsOf rest)).1 + (dbl (rounds 16 (natOf (whole.dropWhile (· == 48))) (digitsOf rest)).2).2)
def valueL (minus : Bool) (whole rest : List UInt8) : Int × Bool :=
 match rawL whole rest with
 | none => (0, false)
 | some n => let m := if minus then -n else n; (m, fitsB m)
theorem natOf_snoc (l : List UInt8) (c : UInt8) : natOf (l ++ [c]) = 10 * natOf l + (c.toNat - 48) := by simp [natOf]
theorem natOf_from (l : List UInt8) (h : ∀ c ∈ l, isDig c = true) : ∀ n, l.foldl (fun n c => 10 * n + (c.toNat - 48)) n < (n + 1) * 10 ^ l.length := by
 induction l with
 | nil => intro n; simp
 | cons c r ih =>
  intro n
  have h1 := ih (fun x hx => h x (by simp [hx])) (10 * n + (c.toNat - 48))
  have h2 := h c (by simp)
  simp [isDig] at h2
  rw [List.foldl_cons, List.length_cons, Nat.pow_succ]
  have h3 : (10 * n + (c.toNat - 48) + 1) * 10 ^ r.length ≤ (n + 1) * (10 ^ r.length * 10) := by
   rw [Nat.mul_comm (10 ^ r.length) 10, ← Nat.mul_assoc]
   exact Nat.mul_le_mul_right _ oO
  omega
theorem natOf_lt (l : List UInt8) (h : ∀ c ∈ l, isDig c = true) : natOf l < 10 ^ l.length := by
 have := natOf_from l h 0
 rw [Nat.zero_add, Nat.one_mul] at this
 exact this
theorem digitsOf_lt (l : List UInt8) (h : ∀ c ∈ l, isDig c = true) : ∀ x ∈ digitsOf l, x < 10 := by
 intro x hx
 simp [digitsOf] at hx
 obtain ⟨c, hc, rfl⟩ := hx
 have h2 := h c hc
 simp [isDig] at h2
 omega
theorem dec_value_big (minus : Bool) (whole rest : List UInt8) (w : World) (hb : 5 < (whole.dropWhile (· == 48)).length) :
  Calls Tryz.prog 160 #[.bool minus, .string (bs whole), .string (bs rest)] w fun e w' => e = .returned (.tuple #[.int .i64 0, .bool false]) ∧ Below w.heap.size w w' := by
 have hs := bs_size (whole.dropWhile (· == 48))
 have hT := fun w => trimLeft0 whole w
 generalize whole.dropWhile (· == 48) = t at *
 go_enter func160, ntmps160
 go_wp2_with (go_at_call 210; go_must (refine (hT _).mono ?_); rintro e w1 ⟨rfl, rfl⟩)
 go_ret2
 exact ⟨rfl, Below.refl _ _⟩
theorem byteVals_at (l : List UInt8) (k : Nat) (h : k < l.length) : (byteVals l)[k]? = some (.int .u8 (l[k].toNat : Int)) := by
 unfold byteVals
 rw [List.getElem?_map, List.getElem?_eq_getElem h]; rfl
theorem natOf_take (l : List UInt8) (k : Nat) (h : k < l.length) : natOf (l.take (k + 1)) = 10 * natOf (l.take k) + (l[k].toNat - 48) := by
 rw [List.take_succ_eq_append_getElem h, natOf_snoc]
theorem natOf_take_lt (l : List UInt8) (k : Nat) (hl : l.length ≤ 5) (h : ∀ c ∈ l, isDig c = true) : natOf (l.take k) < 100000 := by
 have h1 := natOf_lt (l.take k) (fun c hc => h c (List.mem_of_mem_take hc))
 have h2 : 10 ^ (l.take k).length ≤ 10 ^ 5 := Nat.pow_le_pow_right dD (by simp; omega)
 omega
theorem isDig_bounds {c : UInt8} (h : isDig c = true) : 48 ≤ c.toNat ∧ c.toNat ≤ 57 := by
 simpa [isDig] using h
theorem dec_double' (b : Nat) (cap n : Nat) (ds : List Nat) (w : World) (hn : ds.length = n) (hr : BRow w b (u8s ds)) (hd : ∀ x ∈ ds, x < 10) (hl : n ≤ 3000) (B : Nat) (hB : B ≤ b) :
  Calls Tryz.prog 211 #[.slice (some ⟨b, 0, none⟩) n cap] w fun e w' => e = .returned (.int .i64 (dbl ds).2) ∧ BRow w' b (u8s (dbl ds).1) ∧ Below B w w' := by
 subst hn
 exact dec_double b cap ds w hr hd (by unfold maxLen; omega) B hB
theorem u8s_append (a b : List Nat) : u8s (a ++ b) = u8s a ++ u8s b := by simp [u8s]
theorem digitsOf_len (l : List UInt8) : (digitsOf l).length = l.length := by simp [digitsOf]
theorem mix_at (l : List UInt8) (k : Nat) (h : k < l.length) : (u8s ((digitsOf l).take k) ++ byteVals (l.drop k))[k]? = some (.int .u8 (l[k].toNat : Int)) := by
 have e : (u8s ((digitsOf l).take k)).length = k := by rw [u8s_len, List.length_take, digitsOf_len]; omega
 rw [List.getElem?_append_right oO, e, Nat.sub_self, List.drop_eq_getElem_cons h]; rfl
theorem mix_set (l : List UInt8) (k : Nat) (h : k < l.length) (h1 : 48 ≤ l[k].toNat) : (u8s ((digitsOf l).take k) ++ byteVals (l.drop k)).set k (.int .u8 ((l[k].toNat : Int) - 48)) = u8s ((digitsOf l).take (k + 1)) ++ byteVals (l.drop (k + 1)) := by
 have e : (u8s ((digitsOf l).take k)).length = k := by rw [u8s_len, List.length_take, digitsOf_len]; omega
 rw [List.set_append_right _ _ oO, e, Nat.sub_self, List.drop_eq_getElem_cons h, List.take_succ_eq_append_getElem (by rw [digitsOf_len]; exact h), u8s_append, List.append_assoc]
 congr 1
 have e2 : (digitsOf l)[k]'(by rw [digitsOf_len]; exact h) = l[k].toNat - 48 := by simp [digitsOf]
 have e3 : ((l[k].toNat - 48 : Nat) : Int) = (l[k].toNat : Int) - 48 := by omega
 rw [e2]
 simp only [u8s, List.map_cons, List.map_nil, e3]
 rfl
set_option maxRecDepth 100000 in
set_option maxHeartbeats 2000000 in
theorem dec_value_fit (minus : Bool) (whole rest : List UInt8) (w : World) (h1 : (whole.dropWhile (· == 48)).length ≤ 5) (h2 : rest.length ≤ 3000) (h3 : ∀ c ∈ whole, isDig c = true) (h4 : ∀ c ∈ rest, isDig c = true) :
    Calls Tryz.prog 160 #[.bool minus, .string (bs whole), .string (bs rest)] w fun e w' => e = .returned (.tuple #[.int .i64 (valueL minus whole rest).1, .bool (valueL minus whole rest).2]) ∧ Below w.heap.size w w' := by
  have hT := fun w => trimLeft0 whole w
  have hv : valueL minus whole rest = (let m := if minus then -((rounds 16 (natOf (whole.dropWhile (· == 48))) (digitsOf rest)).1 + (dbl (rounds 16 (natOf (whole.dropWhile (· == 48))) (digitsOf rest)).2).2) else ((rounds 16 (natOf (whole.dropWhile (· == 48))) (digitsOf rest)).1 + (dbl (rounds 16 (natOf (whole.dropWhile (· == 48))) (digitsOf rest)).2).2); (m, fitsB m)) := by
    unfold valueL rawL
    rw [if_neg oO]
  have ht : ∀ c ∈ whole.dropWhile (· == 48), isDig c = true := fun c hc => h3 c (List.dropWhile_sublist _ |>.subset hc)
  clear h3
  generalize whole.dropWhile (· == 48) = t at *
  have hs := bs_size t
  have hs2 := bs_size rest
  have Hv := hid hv; have Ht := hid ht; have H4 := hid h4; clear hv ht h4
  go_enter func160, ntmps160
  go_wp2_with first | (go_at_call 210; go_must (refine (hT _).mono ?_); rintro e w1 ⟨rfl, rfl⟩) | (refine wpList_conv_bytes rfl _ _ _ _ rfl underlying9 underlying22 underlying5 _ rfl ?_; intro cap w1 hcap hrow hg hsz)
  have hb1 := below_of_grown hg
  have Hrow := hid hrow; clear hrow hg hT
  go_loop [8, 10, 21] (fun n _ i => ∃ k : Nat, k ≤ t.length ∧ i = .int .i64 k ∧ n = .int .i64 (natOf (t.take k) : Int)) (fun _ _ i => t.length - (intOf i).toNat)
  case atStart => exact ⟨0, Nat.zero_le _, rfl, rfl⟩
  case round =>
    obtain ⟨k, hk, rfl, rfl⟩ := hrel
    have hlt := natOf_take_lt t k h1 Ht.out
    by_cases hkl : k < t.length
    · have hstep := natOf_take t k hkl
      have hd := isDig_bounds (Ht.out t[k] (by simp))
      have hc := (Hrow.out k _ (byteVals_at t k hkl)).1
      have Hstep := hid hstep; clear hstep
      generalize natOf (t.take k) = N at *
      generalize t[k].toNat = c at *
      go_wp2
      go_round
      case rel => exact ⟨k + 1, by omega, by go_num, by rw [Hstep.out]; go_num⟩
      case measure => simp [intOf]; omega
    · obtain rfl : k = t.length := by omega
      rw [List.take_length] at hlt
      rw [List.take_length]
      clear Hrow
      go_wp2_with (refine wpList_conv_bytes rfl _ _ _ _ rfl underlying9 underlying22 underlying5 _ rfl ?_; intro cap2 w2 hcap2 hrow hg hsz2)
      have hb2 := btr hb1 (below_of_grown hg)
      rw [hsz] at hrow
      have hB : w.heap.size ≤ w.heap.size + 1 := by omega
      clear hcap hg hb1
      go_loopw [12, 36] (fun _ i wr => ∃ k : Nat, k ≤ rest.length ∧ i = .int .i64 k ∧ BRow wr (w.heap.size + 1) (u8s ((digitsOf rest).take k) ++ byteVals (rest.drop k)) ∧ Below w.heap.size w wr) (fun _ i _ => rest.length - (intOf i).toNat)
      case atStart => exact ⟨0, Nat.zero_le _, rfl, by simpa [u8s] using (show BRow w2 (w.heap.size + 1) (byteVals rest) from hrow), hb2⟩
      case round =>
        obtain ⟨k, hk, rfl, hrow2, hbel⟩ := hrel
        clear hrow hb2 hsz hsz2 hcap2
        by_cases hkl : k < rest.length
        · have hd := isDig_bounds (H4.out rest[k] (by simp))
          obtain ⟨hc, hfz⟩ := hrow2 k _ (mix_at rest k hkl)
          have hset := hrow2.set k (.int .u8 ((rest[k].toNat : Int) - 48)) (by
            have := (List.getElem?_eq_some_iff.1 (mix_at rest k hkl)).1; exact this)
          rw [mix_set rest k hkl hd.1] at hset
          have Hset := hid hset; clear hset hrow2
          generalize rest[k].toNat = c at *
          go_wp2
          go_roundw
          case rel => exact ⟨k + 1, by omega, by go_num, Hset.out, hbel.setCell hB _⟩
          case measure => simp [intOf]; omega
        · obtain rfl : k = rest.length := by omega
          have hrow3 : BRow wr (w.heap.size + 1) (u8s (digitsOf rest)) := by
            have e1 : (digitsOf rest).take rest.length = digitsOf rest := List.take_of_length_le (by rw [digitsOf_len]; omega)
            have e2 : rest.drop rest.length = [] := by simp
            rw [e1, e2] at hrow2
            simpa [byteVals] using hrow2
          have Hrow3 := hid hrow3; clear hrow2 hrow3
          have hdl := digitsOf_len rest
          have hdd := digitsOf_lt rest H4.out
          have Hdl := hid hdl; have Hdd := hid hdd; clear hdl hdd
          generalize digitsOf rest = d0 at *
          generalize natOf t = n0 at *
          obtain ⟨wo, rfl⟩ : ∃ wo : World, wo = wr := ⟨_, rfl⟩
          go_wp2
          go_loopw [8, 46] (fun n i wr => ∃ (k : Nat) (N : Int) (d : List Nat), k ≤ 16 ∧ i = .int .i64 k ∧ n = .int .i64 N ∧ 0 ≤ N ∧ N + 1 ≤ 100000 * 2 ^ k ∧ d.length = rest.length ∧ (∀ x ∈ d, x < 10) ∧ BRow wr (w.heap.size + 1) (u8s d) ∧ Below w.heap.size w wr ∧ rounds (16 - k) N d = rounds 16 n0 d0) (fun _ i _ => 16 - (intOf i).toNat)
          case atStart => exact ⟨0, n0, d0, by omega, rfl, rfl, by omega, by simp; omega, Hdl.out, Hdd.out, Hrow3.out, hbel, rfl⟩
          case round =>
            obtain ⟨k, N, d, hk, rfl, rfl, hN0, hN1, hdl, hdd, hrow, hbel2, hrr⟩ := hrel
            have hpow : (2 : Int) ^ k ≤ 65536 := by
              have h := Nat.pow_le_pow_right (show 0 < 2 by decide) hk
              have h2 : ((2 ^ k : Nat) : Int) ≤ ((2 ^ 16 : Nat) : Int) := by exact_mod_cast h
              simpa using h2
            have hN2 : N < 6553600000 := by omega
            have hcy := dbl_carry d hdd
            have hsz3 := hbel2.size
            have Hrr := hid hrr; have Hdl2 := hid hdl; have Hdd2 := hid hdd; have HN1 := hid hN1
            have Hrow := hid hrow
            clear hrr hdl hdd hN1 hrow hbel hpow
            by_cases hk16 : k < 16
            · go_wp2_with (go_at_call 211; go_must (refine (dec_double' _ _ _ d _ Hdl2.out Hrow.out Hdd2.out h2 w.heap.size hB).mono ?_); rintro e w4 ⟨rfl, hrow4, hb4⟩)
              go_roundw
              case rel =>
                refine ⟨k + 1, 2 * N + (dbl d).2, (dbl d).1, by omega, by go_num, by go_num, by omega, ?_, by rw [dbl_len]; exact Hdl2.out, dbl_digits d, hrow4, hbel2.trans hb4, ?_⟩
                · have := HN1.out
                  rw [Int.pow_succ]; omega
                · rw [← Hrr.out, show 16 - k = (16 - (k + 1)) + 1 from by omega]; rfl
              case measure => simp [intOf]; omega
            · obtain rfl : k = 16 := by omega
              have hrd : (rounds 16 n0 d0) = (N, d) := by rw [← Hrr.out]; rfl
              have Hrd := hid hrd; clear hrd
              cases minus with
              | true =>
                go_wp2_with first | (go_at_call 211; go_must (refine (dec_double' _ _ _ d _ Hdl2.out Hrow.out Hdd2.out h2 w.heap.size hB).mono ?_); rintro e w4 ⟨rfl, hrow4, hb4⟩) | (go_at_call 195; go_must (refine (fix_Fits _ _).mono ?_); rintro e w5 ⟨rfl, rfl⟩)
                go_ret2
                refine ⟨?_, hbel2.trans hb4⟩
                rw [Hv.out, Hrd.out]; rfl
              | false =>
                go_wp2_with first | (go_at_call 211; go_must (refine (dec_double' _ _ _ d _ Hdl2.out Hrow.out Hdd2.out h2 w.heap.size hB).mono ?_); rintro e w4 ⟨rfl, hrow4, hb4⟩) | (go_at_call 195; go_must (refine (fix_Fits _ _).mono ?_); rintro e w5 ⟨rfl, rfl⟩)
                go_ret2
                refine ⟨?_, hbel2.trans hb4⟩
                rw [Hv.out, Hrd.out]; rfl
end
section
theorem natOf_trim (l : List UInt8) : natOf (l.dropWhile (· == 48)) = natOf l := by
 induction l with
 | nil => rfl
 | cons c r ih =>
  rw [List.dropWhile_cons]
  split
  ·
   next h =>
   rw [ih]
   have : c = 48 := by simpa using h
   subst this
   simp [natOf]
  ·
   rfl
theorem natOf_ge (l : List UInt8) (n : Nat) : n * 10 ^ l.length ≤ l.foldl (fun n c => 10 * n + (c.toNat - 48)) n := by
 induction l generalizing n with
 | nil => simp
 | cons c r ih =>
  rw [List.foldl_cons, List.length_cons, Nat.pow_succ]
  refine Nat.le_trans ?_ (ih _)
  rw [Nat.mul_comm (10 ^ r.length) 10, ← Nat.mul_assoc]
  exact Nat.mul_le_mul_right _ oO
theorem trim_long (l : List UInt8) (h : ∀ c ∈ l, isDig c = true) : 5 < (l.dropWhile (· == 48)).length ↔ 99999 < natOf l := by
 rw [← natOf_trim l]
 have ht : ∀ c ∈ l.dropWhile (· == 48), isDig c = true := fun c hc => h c (List.dropWhile_sublist _ |>.subset hc)
 constructor
 ·
  intro hl
  cases hd : l.dropWhile (· == 48) with
  | nil => rw [hd] at hl; simp at hl
  | cons c r =>
   have hc : (c == 48) = false := by
    have := List.head_dropWhile_not (p := (· == 48)) (l := l) (by rw [hd]; simp)
    simpa [hd] using this
   have hc1 := isDig_bounds (ht c (by rw [hd]; simp))
   have hc2 : c ≠ 48 := by simpa using hc
   have hc3 : 1 ≤ c.toNat - 48 := by
    rcases Nat.lt_or_ge 48 c.toNat with h' | h'
    ·
     omega
    ·
     exact absurd (UInt8.toNat_inj.1 (by show c.toNat = 48; omega)) hc2
   rw [hd] at hl
   simp only [List.length_cons] at hl
   have h1 := natOf_ge r (10 * 0 + (c.toNat - 48))
   have h2 : 1 * 10 ^ 5 ≤ (10 * 0 + (c.toNat - 48)) * 10 ^ r.length := Nat.mul_le_mul oO (Nat.pow_le_pow_right dD oO)
   unfold natOf
   rw [List.foldl_cons]
   omega
 ·
  intro hn
  rcases Nat.lt_or_ge 5 (l.dropWhile (· == 48)).length with h' | h'
  ·
   exact h'
  ·
   have h1 := natOf_lt _ ht
   have h2 : 10 ^ (l.dropWhile (· == 48)).length ≤ 10 ^ 5 := Nat.pow_le_pow_right dD h'
   omega
theorem rounds_digits (k : Nat) : ∀ (n : Int) (d : List Nat), (∀ x ∈ d, x < 10) → ∀ x ∈ (rounds k n d).2, x < 10 := by
 induction k with
 | zero => intro n d h; exact h
 | succ k ih => intro n d h; exact ih _ _ (dbl_digits d)
end
section
theorem dec_value (minus : Bool) (whole rest : List UInt8) (w : World) (h2 : rest.length ≤ 3000) (h3 : ∀ c ∈ whole, isDig c = true) (h4 : ∀ c ∈ rest, isDig c = true) :
    Calls Tryz.prog 160 #[.bool minus, .string (bs whole), .string (bs rest)] w fun e w' => e = .returned (.tuple #[.int .i64 (valueL minus whole rest).1, .bool (valueL minus whole rest).2]) ∧ Below w.heap.size w w' := by
  by_cases hb : 5 < (whole.dropWhile (· == 48)).length
  · have hv : valueL minus whole rest = (0, false) := by unfold valueL rawL; rw [if_pos hb]
    rw [hv]
    exact dec_value_big minus whole rest w hb
  · exact dec_value_fit minus whole rest w oO h2 h3 h4
/-- the number of a text, or false -/
def parseL (l : List UInt8) : Int × Bool :=
 if mantOk (signedL l).2 then
  (if (valueL (signedL l).1 (cutDot (signedL l).2).1 (cutDot (signedL l).2).2.1).2 then ((valueL (signedL l).1 (cutDot (signedL l).2).1 (cutDot (signedL l).2).2.1).1, true) else (0, false))
 else (0, false)
theorem signedL_len (l : List UInt8) : (signedL l).2.length ≤ l.length := by
 cases l with
 | nil => simp [signedL]
 | cons c r =>
  simp only [signedL]
  split
  ·
   simp
  ·
   split <;> simp
theorem mantOk_digits (l : List UInt8) (h : mantOk l = true) : (∀ c ∈ (cutDot l).1, isDig c = true) ∧ (∀ c ∈ (cutDot l).2.1, isDig c = true) := by
 simp only [mantOk, Bool.and_eq_true, List.all_eq_true] at h
 exact ⟨h.1.1, h.1.2⟩
theorem dec_Parse_long (l : List UInt8) (w : World) (hl : 64 < l.length) :
  Calls Tryz.prog 114 #[.string (bs l)] w fun e w' => e = .returned (.tuple #[.int .i64 0, .bool false]) ∧ w = w' := by
 have hs := bs_size l
 go_enter func114, ntmps114
 go_wp2_with fail
 go_ret2
 exact ⟨rfl, rfl⟩
set_option maxHeartbeats 1000000 in
theorem dec_Parse_short (l : List UInt8) (w : World) (hl : l.length ≤ 64) :
  Calls Tryz.prog 114 #[.string (bs l)] w fun e w' => e = .returned (.tuple #[.int .i64 (parseL l).1, .bool (parseL l).2]) ∧ Below w.heap.size w w' := by
 have hs := bs_size l
 have hS := fun w => dec_signed l w oO
 have hlen := signedL_len l
 have hP : parseL l = (if mantOk (signedL l).2 then (if (valueL (signedL l).1 (cutDot (signedL l).2).1 (cutDot (signedL l).2).2.1).2 then ((valueL (signedL l).1 (cutDot (signedL l).2).1 (cutDot (signedL l).2).2.1).1, true) else (0, false)) else (0, false)) := rfl
 generalize signedL l = sr at *
 obtain ⟨m, r⟩ := sr
 simp only at hP hS hlen
 have hM := fun w => dec_mantissa r w oO
 have hcl := cutDot_len r
 have hok := mantOk_digits r
 generalize mantOk r = ok at *
 generalize cutDot r = p at *
 obtain ⟨A, B, f⟩ := p
 simp only at hP hM hok hcl
 cases ok with
 | false =>
  rw [if_neg dD] at hP
  have HP := hid hP; clear hP hok
  go_enter func114, ntmps114
  go_wp2_with first | (go_at_call 158; go_must (refine (hS _).mono ?_); rintro e w1 ⟨rfl, hb1⟩) | (go_at_call 159; go_must (refine (hM _).mono ?_); rintro e w2 ⟨rfl, hb2⟩)
  go_ret2
  exact ⟨by rw [HP.out]; rfl, btr hb1 hb2⟩
 | true =>
  rw [if_pos rfl] at hP
  obtain ⟨hA, hB⟩ := hok rfl
  have hV := fun w => dec_value m A B w oO hA hB
  have HA := hid hA; have HB := hid hB; clear hok hA hB
  generalize valueL m A B = v at *
  obtain ⟨n, fit⟩ := v
  simp only at hP hV
  have HP := hid hP; clear hP
  cases fit
  all_goals
   go_enter func114, ntmps114
   go_wp2_with first | (go_at_call 158; go_must (refine (hS _).mono ?_); rintro e w1 ⟨rfl, hb1⟩) | (go_at_call 159; go_must (refine (hM _).mono ?_); rintro e w2 ⟨rfl, hb2⟩) | (go_at_call 160; go_must (refine (hV _).mono ?_); rintro e w3 ⟨rfl, hb3⟩)
   go_ret2
   exact ⟨by rw [HP.out]; rfl, btr (btr hb1 hb2) hb3⟩
/-- the sign, and does it fit -/
def signL2 (m : Bool) (o : Option Int) : Int × Bool :=
 match o with
 | none => (0, false)
 | some n => if fitsB (if m then -n else n) then (if m then -n else n, true) else (0, false)
theorem parseL_eq (l : List UInt8) : parseL l = if mantOk (signedL l).2 then signL2 (signedL l).1 (rawL (cutDot (signedL l).2).1 (cutDot (signedL l).2).2.1) else (0, false) := by
 unfold parseL
 split
 ·
  unfold valueL signL2
  cases rawL (cutDot (signedL l).2).1 (cutDot (signedL l).2).2.1 with
  | none => rfl
  | some n =>
   simp only
 ·
  rfl
end
section
def parseP (l : List UInt8) : Int × Bool := if 64 < l.length then (0, false) else parseL l
theorem dec_Parse (l : List UInt8) (w : World) :
  Calls Tryz.prog 114 #[.string (bs l)] w fun e w' => e = .returned (.tuple #[.int .i64 (parseP l).1, .bool (parseP l).2]) ∧ Below w.heap.size w w' := by
 unfold parseP
 split
 ·
  exact (dec_Parse_long l w aS).mono fun e w' h => ⟨h.1, h.2 ▸ Below.refl _ _⟩
 ·
  exact dec_Parse_short l w oO
end
section
/-- a reader: the words that are left, and whether something was wrong -/
structure RS where
 ws : List (List UInt8)
 bad : Bool
def rWord (s : RS) : List UInt8 × RS := match s.ws with
 | [] => ([], ⟨[], true⟩)
 | w :: r => (w, ⟨r, s.bad⟩)
def rNum (s : RS) : Int × RS := ((parseP (rWord s).1).1, ⟨(rWord s).2.ws, (rWord s).2.bad || !(parseP (rWord s).1).2 || !decide (printL (norm (parseP (rWord s).1).1) = (rWord s).1)⟩)
def rNums : Nat → RS → List Int × RS
 | 0, s => ([], s)
 | n + 1, s => ((rNums n s).1 ++ [(rNum (rNums n s).2).1], (rNum (rNums n s).2).2)
theorem rNums_len : ∀ (n : Nat) (s : RS), (rNums n s).1.length = n
 | 0, _ => rfl
 | n + 1, s => by simp only [rNums, List.length_append, rNums_len n s, List.length_cons, List.length_nil]
/-- a whole number from 0 to most, in its one spelling -/
def smallP (most : Int) (w : List UInt8) : Option Int := match Lib.atoiAll w with
 | .ok v => if 0 ≤ v ∧ v ≤ most ∧ decL v = w then some v else none
 | _ => none
def rSmall (most : Int) (s : RS) : Int × RS := match smallP most (rWord s).1 with
 | some v => (v, (rWord s).2)
 | none => (0, ⟨(rWord s).2.ws, true⟩)
theorem smallP_le {most : Int} {w : List UInt8} {v : Int} (h : smallP most w = some v) : 0 ≤ v ∧ v ≤ most ∧ decL v = w := by
 unfold smallP at h
 split at h
 ·
  split at h
  ·
   injection h with h; subst h; assumption
  ·
   cases h
 ·
  cases h
theorem rSmall_le (most : Int) (s : RS) (hm : 0 ≤ most) : 0 ≤ (rSmall most s).1 ∧ (rSmall most s).1 ≤ most := by
 unfold rSmall
 split
 ·
  rename_i v h; have := smallP_le h; exact ⟨this.1, this.2.1⟩
 ·
  exact ⟨Int.le_refl _, hm⟩
def colorOf (k : Int) (l : List Int) : ColorV := ⟨k, l.getD 0 0, l.getD 1 0, l.getD 2 0, l.getD 3 0⟩
def rColor (s : RS) : ColorV × RS := (colorOf (rSmall 4 s).1 (rNums (rSmall 4 s).1.toNat (rSmall 4 s).2).1, (rNums (rSmall 4 s).1.toNat (rSmall 4 s).2).2)
def rPoint (s : RS) : PointV × RS := (⟨(rNum s).1, (rNum (rNum s).2).1⟩, (rNum (rNum s).2).2)
def pt0 : PointV := ⟨0, 0⟩
def ptsOf (k : Int) (l : List PointV) : SegV := ⟨k, l.getD 0 pt0, l.getD 1 pt0, l.getD 2 pt0⟩
def rPts : Nat → RS → List PointV × RS
 | 0, s => ([], s)
 | n + 1, s => ((rPts n s).1 ++ [(rPoint (rPts n s).2).1], (rPoint (rPts n s).2).2)
theorem rPts_len : ∀ (n : Nat) (s : RS), (rPts n s).1.length = n
 | 0, _ => rfl
 | n + 1, s => by simp only [rPts, List.length_append, rPts_len n s, List.length_cons, List.length_nil]
/-- which segment a word opens, and how many points it has; none: it is none -/
def segOf (w : List UInt8) : Option (Int × Nat) := if w = [109] then some (1, 1) else if w = [108] then some (2, 1) else if w = [99] then some (3, 3) else if w = [104] then some (4, 0) else none
def rSeg (s : RS) : SegV × RS := match segOf (rWord s).1 with
 | some (k, n) => (ptsOf k (rPts n (rWord s).2).1, (rPts n (rWord s).2).2)
 | none => (ptsOf 0 [], ⟨(rWord s).2.ws, true⟩)
theorem rWord_ws (s : RS) : (rWord s).2.ws = s.ws.tail := by unfold rWord; split <;> simp_all
theorem rNum_ws (s : RS) : (rNum s).2.ws = s.ws.tail := rWord_ws s
theorem rSmall_ws (most : Int) (s : RS) : (rSmall most s).2.ws = s.ws.tail := by unfold rSmall; split <;> exact rWord_ws s
theorem rPoint_ws (s : RS) : (rPoint s).2.ws = s.ws.tail.tail := by unfold rPoint; rw [rNum_ws, rNum_ws]
theorem rPts_ws_le : ∀ (n : Nat) (s : RS), (rPts n s).2.ws.length ≤ s.ws.length
 | 0, _ => Nat.le_refl _
 | n + 1, s => by
  have h := rPts_ws_le n s
  simp only [rPts, rPoint_ws, List.length_tail]; omega
theorem rSeg_ws (s : RS) (h : s.ws ≠ []) : (rSeg s).2.ws.length < s.ws.length := by
 have h0 : 0 < s.ws.length := List.length_pos_iff.2 h
 have h1 : (rWord s).2.ws.length = s.ws.length - 1 := by rw [rWord_ws, List.length_tail]
 unfold rSeg
 split
 ·
  rename_i k n _; have := rPts_ws_le n (rWord s).2; simp only []; omega
 ·
  simp only []; omega
/-- all that is left, as segments -/
def rPath (s : RS) : List SegV × RS :=
 if h : s.ws ≠ [] ∧ s.bad = false then ((rSeg s).1 :: (rPath (rSeg s).2).1, (rPath (rSeg s).2).2) else ([], s)
 termination_by s.ws.length
 decreasing_by all_goals exact rSeg_ws s h.1
theorem rPath_go {s : RS} (h : s.ws ≠ [] ∧ s.bad = false) : rPath s = ((rSeg s).1 :: (rPath (rSeg s).2).1, (rPath (rSeg s).2).2) := by rw [rPath, dif_pos h]
theorem rPath_end {s : RS} (h : ¬ (s.ws ≠ [] ∧ s.bad = false)) : rPath s = ([], s) := by rw [rPath, dif_neg h]
/-- a pen, but for where its dash lies -/
def rPen (s : RS) : PenV × RS :=
  (⟨(rNum s).1, (rSmall 2 (rNum s).2).1, (rSmall 2 (rSmall 2 (rNum s).2).2).1, (rNum (rSmall 2 (rSmall 2 (rNum s).2).2).2).1, none,
    (rNums (rSmall 11 (rNum (rSmall 2 (rSmall 2 (rNum s).2).2).2).2).1.toNat (rSmall 11 (rNum (rSmall 2 (rSmall 2 (rNum s).2).2).2).2).2).1, 0,
    (rNum (rNums (rSmall 11 (rNum (rSmall 2 (rSmall 2 (rNum s).2).2).2).2).1.toNat (rSmall 11 (rNum (rSmall 2 (rSmall 2 (rNum s).2).2).2).2).2).2).1⟩,
   (rNum (rNums (rSmall 11 (rNum (rSmall 2 (rSmall 2 (rNum s).2).2).2).2).1.toNat (rSmall 11 (rNum (rSmall 2 (rSmall 2 (rNum s).2).2).2).2).2).2).2)
def hexV (c : UInt8) : Nat := if 48 ≤ c.toNat ∧ c.toNat ≤ 57 then c.toNat - 48 else c.toNat - 87
def hexB (c : UInt8) : Bool := digS.contains c
def unhex : List UInt8 → List UInt8
 | a :: b :: r => UInt8.ofNat (16 * hexV a + hexV b) :: unhex r
 | _ => []
/-- the bytes that a word is; none: it is none -/
def bytesP (w : List UInt8) : Option (List UInt8) := match w with
 | 120 :: r => if r.length % 2 = 0 ∧ r.all hexB = true then some (unhex r) else none
 | _ => none
def rBytes (s : RS) : List UInt8 × RS := match bytesP (rWord s).1 with
 | some l => (l, (rWord s).2)
 | none => ([], ⟨(rWord s).2.ws, true⟩)
def pen00 : PenV := ⟨0, 0, 0, 0, none, [], 0, 0⟩
def col0 : ColorV := ⟨0, 0, 0, 0, 0⟩
/-- an item of its first word, but for where it lies; none: there is none -/
def rItem (w : List UInt8) (s : RS) : Option ItemV × RS :=
 if w = [102, 105, 108, 108] ∨ w = [101, 111, 102, 105, 108, 108] then
  (some ⟨if w = [101, 111, 102, 105, 108, 108] then 2 else 1, none, (rPath (rColor s).2).1, 0, (rColor s).1, none, [], 0, pen00, 0, 0, 0, 0, 0, 0, 0, none, [], 0⟩, (rPath (rColor s).2).2)
 else if w = [115, 116, 114, 111, 107, 101] then
  (some ⟨3, none, (rPath (rPen (rColor s).2).2).1, 0, (rColor s).1, none, [], 0, (rPen (rColor s).2).1, 0, 0, 0, 0, 0, 0, 0, none, [], 0⟩, (rPath (rPen (rColor s).2).2).2)
 else if w = [116, 101, 120, 116] then
  (some ⟨4, none, [], 0, (rColor s).1, none, [], 0, pen00, (rSmall 2147483647 (rColor s).2).1,
   (rNums 6 (rSmall 2147483647 (rColor s).2).2).1.getD 0 0, (rNums 6 (rSmall 2147483647 (rColor s).2).2).1.getD 1 0, (rNums 6 (rSmall 2147483647 (rColor s).2).2).1.getD 2 0, (rNums 6 (rSmall 2147483647 (rColor s).2).2).1.getD 3 0, (rNums 6 (rSmall 2147483647 (rColor s).2).2).1.getD 4 0, (rNums 6 (rSmall 2147483647 (rColor s).2).2).1.getD 5 0,
   none, (rBytes (rNums 6 (rSmall 2147483647 (rColor s).2).2).2).1, 0⟩, (rBytes (rNums 6 (rSmall 2147483647 (rColor s).2).2).2).2)
 else (none, s)
/-- what was read, up to a line: pages, and clips that wait -/
structure PS where
 pages : List PageV
 clips : List ClipV
def addItem (l : List PageV) (it : ItemV) : List PageV := l.dropLast ++ (l.getLast?.map fun x : PageV => (⟨x.fWidth, x.fHeight, none, x.fItems ++ [it], 0⟩ : PageV)).toList
def fin (s : RS) : Bool := !s.bad && decide (s.ws = [])
/-- a line of words: what is read behind it, or none: it is none -/
def rLine (ws : List (List UInt8)) (p : PS) : Option PS :=
 let s0 : RS := ⟨ws, false⟩
 let w := (rWord s0).1
 let s := (rWord s0).2
 if w = [112, 97, 103, 101] then
  if p.clips ≠ [] then none
  else if fin (rNum (rNum s).2).2 then some ⟨p.pages ++ [⟨(rNum s).1, (rNum (rNum s).2).1, none, [], 0⟩], p.clips⟩ else none
 else if w = [99, 108, 105, 112] ∨ w = [101, 111, 99, 108, 105, 112] then
  if p.pages = [] then none
  else if fin (rPath s).2 then some ⟨p.pages, p.clips ++ [⟨none, (rPath s).1, 0, decide (w = [101, 111, 99, 108, 105, 112])⟩]⟩ else none
 else match (rItem w s).1 with
  | none => none
  | some it => if p.pages = [] then none
   else if fin (rItem w s).2 then some ⟨addItem p.pages { it with fClips := p.clips }, []⟩ else none
/-- what is said of the value alone, not of where it lies -/
def erPen (x : PenV) : PenV := { x with pfDash := none, cfDash := 0 }
def erClip (x : ClipV) : ClipV := { x with pfPath := none, cfPath := 0 }
def erItem (x : ItemV) : ItemV := { x with pfPath := none, cfPath := 0, pfClips := none, fClips := x.fClips.map erClip, cfClips := 0, fPen := erPen x.fPen, pfBytes := none, cfBytes := 0 }
def erPage (x : PageV) : PageV := { x with pfItems := none, fItems := x.fItems.map erItem, cfItems := 0 }
end
section
theorem var_below {w w1 : World} {n : String} {cs : Array Value} (h : w.var? Tryz.prog n = some cs) (hb : Below w.heap.size w w1) : w1.var? Tryz.prog n = some cs := by
 unfold World.var? at h ⊢
 cases hg : Tryz.prog.globalNamed n with
 | none => simp [hg] at h
 | some g =>
  simp only [hg, Option.bind_some] at h ⊢
  have hlt : g < w.heap.size := by
   rcases Nat.lt_or_ge g w.heap.size with h' | h'
   ·
    exact h'
   ·
    simp [Array.getElem?_eq_none h'] at h
  rw [hb.block g hlt]; exact h
theorem cell_lt {w : World} {a : Addr} {v : Value} (h : w.cell? a = some v) : a.block < w.heap.size := by
 unfold World.cell? at h
 cases hb : w.heap[a.block]? with
 | none => rw [hb] at h; cases h
 | some o => exact (Array.getElem?_eq_some_iff.1 hb).1
theorem cell_below {w w1 : World} {a : Addr} {v : Value} (h : w.cell? a = some v) (hb : Below w.heap.size w w1) : w1.cell? a = some v := by
 rw [World.cell?_of_block (w := w) (hb.block _ (cell_lt h))]; exact h
/-- what the package-level variables hold -/
structure Env (w : World) : Prop where
 fonts : Fonts w
 pow : Lib.TabIs Tryz.prog w "internal/strconv.uint64pow10" .u64 Lib.pow10Tab
 maxlen : ∃ m, w.cell? ⟨0, 0, none⟩ = some (.int .i64 m)
 es : ∃ tp p, w.var? Tryz.prog "strconv.ErrSyntax" = some #[.iface tp p]
 er : ∃ tp p, w.var? Tryz.prog "strconv.ErrRange" = some #[.iface tp p]
theorem Env.below {w w1 : World} (h : Env w) (hb : Below w.heap.size w w1) : Env w1 := by
 obtain ⟨m, hm⟩ := h.maxlen
 obtain ⟨t1, p1, h1⟩ := h.es
 obtain ⟨t2, p2, h2⟩ := h.er
 exact ⟨h.fonts.below hb, var_below h.pow hb, ⟨m, cell_below hm hb⟩, ⟨t1, p1, var_below h1 hb⟩, ⟨t2, p2, var_below h2 hb⟩⟩
/-- a text cut at every c -/
def splitC (c : UInt8) : List UInt8 → List (List UInt8)
 | [] => [[]]
 | x :: r => if x = c then [] :: splitC c r else match splitC c r with
  | [] => [[x]]
  | h :: t => (x :: h) :: t
theorem splitC_ne (c : UInt8) : ∀ l, splitC c l ≠ []
 | [] => by simp [splitC]
 | x :: r => by
  unfold splitC
  split
  ·
   simp
  ·
   split <;> simp
theorem splitK_C (c : UInt8) : ∀ l : List UInt8, Lib.splitK [c] 0 (Lib.count l [c]) l = splitC c l
  | [] => by rw [Lib.count_one]; rfl
  | x :: r => by
    have ih := splitK_C c r
    rw [Lib.count_one] at ih ⊢
    have hix : Lib.index (x :: r) [c] = if x == c then 0 else if Lib.index r [c] == -1 then -1 else Lib.index r [c] + 1 := by
      rw [Lib.index_one, Lib.index_one]; rfl
    by_cases hx : x = c
    · subst hx
      rw [List.count_cons_self, splitC, if_pos rfl]
      unfold Lib.splitK
      have hix0 : Lib.index (x :: r) [x] = 0 := by rw [hix]; simp
      rw [hix0, if_neg dD, ← ih]; rfl
    · have hx2 : (x == c) = false := by simpa using hx
      rw [List.count_cons_of_ne hx, splitC, if_neg hx]
      rw [hx2] at hix
      simp only [Bool.false_eq_true, if_false] at hix
      have hge := Lib.index_ge r [c]
      cases hk : r.count c with
      | zero =>
        rw [hk] at ih
        have e : splitC c r = [r] := ih.symm
        rw [e]; rfl
      | succ k =>
        rw [hk] at ih
        unfold Lib.splitK at ih
        by_cases hi : (Lib.index r [c] == -1) = true
        · rw [if_pos hi] at ih
          rw [if_pos hi] at hix
          unfold Lib.splitK
          rw [hix, if_pos dD, ← ih]
        · rw [if_neg hi] at ih
          rw [if_neg hi] at hix
          have hi0 : 0 ≤ Lib.index r [c] := by
            have : ¬ Lib.index r [c] = -1 := by simpa using hi
            omega
          unfold Lib.splitK
          rw [hix, if_neg (by simp; omega), ← ih]
          have e1 : (Lib.index r [c] + 1).toNat = (Lib.index r [c]).toNat + 1 := by omega
          rw [e1]
          simp only [Nat.add_zero, List.length_cons, List.length_nil, Nat.zero_add, List.take_succ_cons, List.drop_succ_cons]
theorem lib_Split (l : List UInt8) (c : UInt8) (w : World) (hE : Env w) (hl : l.length < 4294967281) :
  Calls Tryz.prog 52 #[.string (bs l), .string (bs [c])] w fun e w' => e = .returned (.slice (some ⟨w.heap.size, 0, none⟩) (splitC c l).length (splitC c l).length) ∧ Below w.heap.size w w' ∧ RowAt strV w' (some ⟨w.heap.size, 0, none⟩) (splitC c l) ∧ w'.heap.size = w.heap.size + 1 := by
 obtain ⟨m, hm⟩ := hE.maxlen
 refine (Tryz.strings_Split (bs l) (bs [c]) m w (by rw [bs_size]; exact hl) hm (by rw [bs_size]; exact Nat.le_refl 1)).mono ?_
 rintro e w' ⟨rfl, rfl⟩
 have h1 : (Lib.splitB (bs [c]) 0 (Lib.countB (bs l) (bs [c])) (bs l)).map (·.data.toList) = splitC c l := by
  rw [Lib.splitB_data, ← splitK_C c l]; rfl
 have h2 : Lib.countB (bs l) (bs [c]) + 1 = (splitC c l).length := by
  rw [← h1, List.length_map, Lib.splitB_all (bs [c]) (by rw [bs_size]; exact Nat.le_refl 1) 0 _ _ rfl]
 have h3 : (Lib.splitB (bs [c]) 0 (Lib.countB (bs l) (bs [c])) (bs l)).map Value.string = (splitC c l).map strV := by
  rw [← h1, List.map_map]
  refine List.map_congr_left fun x _ => ?_
  show Value.string x = .string (bs x.data.toList)
  rfl
 rw [h2, h3]
 refine ⟨rfl, Below.alloc (Below.refl _ _) (Nat.le_refl _) _, ⟨fun _ => rfl, fun j hj => ?_⟩, by show (w.heap.push _).size = _; rw [Array.size_push]⟩
 show (w.alloc _).cell? ((⟨w.heap.size, 0, none⟩ : Addr).add j) = _
 rw [add_lit, Nat.zero_add, (Blk.alloc w _ _).cell]
 simp [hj]
theorem lib_Itoa (n : Int) (h0 : -9223372036854775808 ≤ n) (h1 : n ≤ 9223372036854775807) (w : World) (hE : Env w) :
  Calls Tryz.prog 179 #[.int .i64 n] w fun e w' => e = .returned (.string (bs (decL n))) ∧ Below w.heap.size w w' := by
 refine (Tryz.strconv_Itoa n h0 h1 w hE.pow).mono ?_
 rintro e w' ⟨rfl, k, os, rfl⟩
 refine ⟨?_, ?_⟩
 ·
  have e : Lib.itoa n = decL n := by
   unfold Lib.itoa decL
   simp only [decDigits_L]
   split
   ·
    rfl
   ·
    rw [show n.toNat = n.natAbs by omega]
  rw [e]; rfl
 ·
  exact Below.trans (Drew.below (Below.refl _ _) ⟨k, rfl⟩) ⟨rfl, rfl, rfl, by show _ ≤ ((w.drewN k).heap ++ os).size; rw [Array.size_append]; omega, fun i hi => by
  show (w.heap ++ os)[i]? = w.heap[i]?
  rw [Array.getElem?_append_left hi]⟩
end
section
/-- a token that is a number: its kind, its number, is it one, the error -/
structure TokR where
 kind : Int
 n : Int
 ok : Bool
 e : Int
def TokR.val (t : TokR) : Value := .tuple #[.agg #[.int .i64 t.kind, .int .i64 t.n, .string ⟨#[]⟩], .bool t.ok, .int .i64 t.e]
end
section
theorem cutDot_none (r : List UInt8) (h : ∀ c ∈ r, isDig c = true) : cutDot r = (r, [], false) :=
 cutDot_no r fun hm => absurd (h 46 hm) dD
theorem mant_none (r : List UInt8) (h : ∀ c ∈ r, isDig c = true) (hr : r ≠ []) : mantOk r = true := by
 have hl : 0 < r.length := List.length_pos_iff.2 hr
 simp [mantOk, cutDot_none r h, hl]
 exact h
end
section
theorem signedL_dig (c : UInt8) (r : List UInt8) (h : isDig c = true) : signedL (c :: r) = (false, c :: r) := by
 have h1 : c ≠ 45 := by rintro rfl; exact absurd h dD
 have h2 : c ≠ 43 := by rintro rfl; exact absurd h dD
 simp [signedL, h1, h2]
end
section
/-- the number that digits write -/
def valD : List Nat → Nat
 | [] => 0
 | x :: r => x * 10 ^ r.length + valD r
theorem valD_lt (d : List Nat) (h : ∀ x ∈ d, x < 10) : valD d < 10 ^ d.length := by
 induction d with
 | nil => simp [valD]
 | cons x r ih =>
  have h1 := ih fun y hy => h y (by simp [hy])
  have h2 := h x (by simp)
  rw [valD, List.length_cons, Nat.pow_succ]
  have h3 : x * 10 ^ r.length ≤ 9 * 10 ^ r.length := Nat.mul_le_mul_right _ oO
  omega
theorem valD_append (a b : List Nat) : valD (a ++ b) = valD a * 10 ^ b.length + valD b := by
 induction a with
 | nil => simp [valD]
 | cons x r ih =>
  rw [List.cons_append, valD, valD, ih, List.length_append, Nat.pow_add, Nat.add_mul, Nat.mul_assoc, Nat.add_assoc]
theorem valD_zeros (k : Nat) : valD (List.replicate k 0) = 0 := by
 induction k with
 | zero => rfl
 | succ k ih => rw [List.replicate_succ, valD, ih]; simp
theorem dbl_val (d : List Nat) : valD (dbl d).1 + (dbl d).2 * 10 ^ d.length = 2 * valD d := by
 induction d with
 | nil => rfl
 | cons x r ih =>
  have hl := dbl_len r
  simp only [dbl, valD, hl, List.length_cons, Nat.pow_succ]
  have h1 : (2 * x + (dbl r).2) % 10 + 10 * ((2 * x + (dbl r).2) / 10) = 2 * x + (dbl r).2 := Nat.mod_add_div _ _
  have h2 : ((2 * x + (dbl r).2) % 10) * 10 ^ r.length + (2 * x + (dbl r).2) / 10 * (10 ^ r.length * 10) = (2 * x + (dbl r).2) * 10 ^ r.length := by
   conv => rhs; rw [← h1, Nat.add_mul]
   rw [Nat.mul_comm (10 ^ r.length) 10, ← Nat.mul_assoc, Nat.mul_comm _ 10]
  have h3 : (2 * x + (dbl r).2) * 10 ^ r.length = 2 * (x * 10 ^ r.length) + (dbl r).2 * 10 ^ r.length := by rw [Nat.add_mul, Nat.mul_assoc]
  omega
theorem rounds_len (k : Nat) : ∀ (n : Int) (d : List Nat), (rounds k n d).2.length = d.length := by
 induction k with
 | zero => intro n d; rfl
 | succ k ih => intro n d; rw [rounds, ih, dbl_len]
theorem rounds_val (k : Nat) : ∀ (n : Nat) (d : List Nat), ∃ m : Nat, (rounds k (n : Int) d).1 = (m : Int) ∧ m * 10 ^ d.length + valD (rounds k (n : Int) d).2 = 2 ^ k * (n * 10 ^ d.length + valD d) := by
 induction k with
 | zero => intro n d; exact ⟨n, rfl, by simp [rounds]⟩
 | succ k ih =>
  intro n d
  obtain ⟨m, h1, h2⟩ := ih (2 * n + (dbl d).2) (dbl d).1
  rw [dbl_len] at h2
  have hv := dbl_val d
  have hc : ((2 * n + (dbl d).2 : Nat) : Int) = 2 * (n : Int) + ((dbl d).2 : Int) := by omega
  rw [rounds, ← hc]
  refine ⟨m, h1, h2.trans ?_⟩
  rw [Nat.pow_succ, Nat.mul_assoc]
  congr 1
  rw [Nat.add_mul, Nat.mul_assoc]
  omega
theorem natOf_valD (l : List UInt8) : natOf l = valD (digitsOf l) := by
 have key : ∀ (l : List UInt8) (n : Nat), l.foldl (fun n c => 10 * n + (c.toNat - 48)) n = n * 10 ^ l.length + valD (digitsOf l) := by
  intro l
  induction l with
  | nil => intro n; simp [digitsOf, valD]
  | cons c r ih =>
   intro n
   have hl : (digitsOf r).length = r.length := digitsOf_len r
   have hd : digitsOf (c :: r) = (c.toNat - 48) :: digitsOf r := rfl
   rw [List.foldl_cons, ih, hd, valD, hl, List.length_cons, Nat.pow_succ, Nat.add_mul, Nat.mul_comm 10 n, Nat.mul_assoc, Nat.mul_comm 10 (10 ^ r.length), Nat.add_assoc]
 have := key l 0
 rw [Nat.zero_mul, Nat.zero_add] at this
 exact this
/-- digits behind the point that are exactly so many of 65536 -/
theorem rawL_exact (W R : List UInt8) (N f : Nat) (hW : ∀ c ∈ W, isDig c = true) (hN : natOf W = N) (hN5 : N ≤ 99999) (hR : ∀ c ∈ R, isDig c = true) (hv : valD (digitsOf R) * 65536 = f * 10 ^ R.length) :
  rawL W R = some ((N * 65536 + f : Nat) : Int) := by
 have ht : ¬ 5 < (W.dropWhile (· == 48)).length := fun h => by have := (trim_long W hW).1 h; omega
 unfold rawL
 rw [if_neg ht, natOf_trim, hN]
 obtain ⟨m, h1, h2⟩ := rounds_val 16 N (digitsOf R)
 have hd := rounds_digits 16 (N : Int) (digitsOf R) (digitsOf_lt R hR)
 have hl := rounds_len 16 (N : Int) (digitsOf R)
 have hlt := valD_lt _ hd
 rw [digitsOf_len] at h2 hl
 rw [hl] at hlt
 have hv2 := dbl_val (rounds 16 (N : Int) (digitsOf R)).2
 rw [hl] at hv2
 generalize (rounds 16 (N : Int) (digitsOf R)).2 = D at *
 generalize hP : 10 ^ R.length = P at *
 have hP0 : 0 < P := by rw [← hP]; exact Nat.pow_pos dD
 have e : m * P + valD D = (N * 65536 + f) * P := by
  rw [h2, Nat.add_mul, ← hv]
  have : (2 : Nat) ^ 16 = 65536 := by decide
  rw [this, Nat.mul_add, ← Nat.mul_assoc, Nat.mul_comm 65536 N, Nat.mul_comm 65536 (valD _)]
 have hm : m = N * 65536 + f := by
  have a : (m * P + valD D) / P = m := by rw [Nat.mul_comm, Nat.mul_add_div hP0, Nat.div_eq_of_lt hlt]; rfl
  have b : ((N * 65536 + f) * P) / P = N * 65536 + f := Nat.mul_div_cancel _ hP0
  rw [← a, e, b]
 have hD : valD D = 0 := by rw [hm] at e; omega
 have hc : (dbl D).2 = 0 := by
  rw [hD] at hv2
  rcases Nat.eq_zero_or_pos (dbl D).2 with h | h
  ·
   exact h
  ·
   have := Nat.mul_le_mul_right P h; omega
 rw [h1, hc, hm, Int.natCast_zero, Int.add_zero]
theorem isDig_ch (k : Nat) (h : k < 10) : isDig (ch (48 + (k : Int))) = true ∧ (ch (48 + (k : Int))).toNat = 48 + k := by
 have e : (ch (48 + (k : Int))).toNat = 48 + k := by
  unfold ch
  rw [show (48 + (k : Int)).toNat = 48 + k by omega, UInt8.toNat_ofNat']
  omega
 exact ⟨by unfold isDig; rw [e, decide_eq_true (show 48 ≤ 48 + k by omega), decide_eq_true (show 48 + k ≤ 57 by omega)]; rfl, e⟩
theorem fracK_val (k : Nat) : ∀ f : Nat, k ≤ 16 → f < 65536 → 2 ^ (16 - k) ∣ f → (∀ c ∈ fracK k f, isDig c = true) ∧ valD (digitsOf (fracK k f)) * 65536 = f * 10 ^ (fracK k f).length := by
 induction k with
 | zero =>
  intro f _ hf hd
  obtain ⟨c, hc⟩ := hd
  have : f = 0 := by simp at hc; omega
  subst this
  exact ⟨by simp [fracK], by simp [fracK, digitsOf, valD]⟩
 | succ k ih =>
  intro f hk hf hd
  rw [fracK]
  split
  ·
   next h => subst h; exact ⟨by simp, by simp [digitsOf, valD]⟩
  ·
   have h1 : 2 ^ (16 - k) ∣ f * 10 := by
    have e : 16 - k = (16 - (k + 1)) + 1 := by omega
    rw [e, Nat.pow_succ]
    exact Nat.mul_dvd_mul hd ⟨5, rfl⟩
   have h2 : 2 ^ (16 - k) ∣ 65536 := by
    rw [show (65536 : Nat) = 2 ^ 16 from rfl]
    exact Nat.pow_dvd_pow 2 oO
   obtain ⟨i1, i2⟩ := ih (f * 10 % 65536) oO oO ((Nat.dvd_mod_iff h2).2 h1)
   obtain ⟨c1, c2⟩ := isDig_ch (f * 10 / 65536) oO
   refine ⟨fun c hc => ?_, ?_⟩
   ·
    rcases List.mem_cons.1 hc with rfl | hc
    ·
     exact c1
    ·
     exact i1 c hc
   ·
    have hd2 : digitsOf (ch (48 + ((f * 10 / 65536 : Nat) : Int)) :: fracK k (f * 10 % 65536)) = (f * 10 / 65536) :: digitsOf (fracK k (f * 10 % 65536)) := by
     show (_ - 48) :: _ = _
     rw [c2]; congr 1; omega
    rw [hd2, valD, digitsOf_len, List.length_cons, Nat.pow_succ]
    generalize valD (digitsOf (fracK k (f * 10 % 65536))) = V at *
    generalize 10 ^ (fracK k (f * 10 % 65536)).length = P at *
    have hm := Nat.mod_add_div (f * 10) 65536
    generalize f * 10 % 65536 = r at *
    generalize f * 10 / 65536 = q at *
    rw [Nat.add_mul, i2, Nat.mul_comm P 10, ← Nat.mul_assoc, ← hm, Nat.add_mul, Nat.mul_right_comm, Nat.mul_comm q 65536]
    omega
theorem fracL_val (f : Nat) (h : f < 65536) : (∀ c ∈ fracL f, isDig c = true) ∧ valD (digitsOf (fracL f)) * 65536 = f * 10 ^ (fracL f).length :=
 fracK_val 16 f oO h (by simp)
theorem digitsL_val (n : Nat) : (∀ c ∈ digitsL n, isDig c = true) ∧ natOf (digitsL n) = n ∧ digitsL n ≠ [] := by
  induction n using Nat.strongRecOn with
  | _ n ih =>
    by_cases h : n < 10
    · rw [digitsL_lt n h]
      obtain ⟨c1, c2⟩ := isDig_ch n h
      exact ⟨by simpa using c1, by simp [natOf, c2], by simp⟩
    · rw [digitsL_ge n oO]
      obtain ⟨i1, i2, i3⟩ := ih (n / 10) oO
      obtain ⟨c1, c2⟩ := isDig_ch (n % 10) oO
      refine ⟨fun c hc => ?_, ?_, by simp⟩
      · rcases List.mem_append.1 hc with hc | hc
        · exact i1 c hc
        · rw [List.mem_singleton.1 hc]; exact c1
      · rw [natOf_snoc, i2, c2]; omega
/-- digits, then noughts -/
theorem digitsOf_append (a b : List UInt8) : digitsOf (a ++ b) = digitsOf a ++ digitsOf b := by simp [digitsOf]
theorem digitsOf_zeros (k : Nat) : digitsOf (List.replicate k 48) = List.replicate k 0 := by simp [digitsOf]
theorem val_zeros (R : List UInt8) (f k : Nat) (h : valD (digitsOf R) * 65536 = f * 10 ^ R.length) : valD (digitsOf (R ++ List.replicate k 48)) * 65536 = f * 10 ^ (R ++ List.replicate k 48).length := by
 rw [digitsOf_append, digitsOf_zeros, valD_append, valD_zeros, Nat.add_zero, List.length_append, List.length_replicate, List.length_replicate, Nat.pow_add, ← Nat.mul_assoc, ← h, Nat.mul_right_comm]
theorem natOf_zeros (k : Nat) (W : List UInt8) : natOf (List.replicate k 48 ++ W) = natOf W := by
 rw [natOf_valD, natOf_valD, digitsOf_append, digitsOf_zeros, valD_append, valD_zeros, Nat.zero_mul, Nat.zero_add]
theorem dig_zeros (k : Nat) (c : UInt8) (h : c ∈ List.replicate k (48 : UInt8)) : isDig c = true := by
 rw [List.mem_replicate] at h; rw [h.2]; rfl
/-- a sign, or none -/
def sgn (m : Option Bool) : List UInt8 := match m with | none => [] | some true => [45] | some false => [43]
def neg (m : Option Bool) : Bool := match m with | some true => true | _ => false
theorem signedL_sgn (m : Option Bool) (l : List UInt8) (h : ∀ c r, l = c :: r → isDig c = true) : signedL (sgn m ++ l) = (neg m, l) := by
 match m with
 | some true => rfl
 | some false => rfl
 | none =>
  cases l with
  | nil => rfl
  | cons c r => exact signedL_dig c r (h c r rfl)
theorem head_dig (W X : List UInt8) (hW : ∀ c ∈ W, isDig c = true) (h0 : W ≠ []) : ∀ c r, W ++ X = c :: r → isDig c = true := by
 intro c r e
 cases W with
 | nil => exact absurd rfl h0
 | cons d W =>
  simp only [List.cons_append, List.cons.injEq] at e
  rw [← e.1]; exact hW d (by simp)
theorem notdot (W : List UInt8) (hW : ∀ c ∈ W, isDig c = true) : 46 ∉ W := fun h => absurd (hW 46 h) dD
theorem mant_dot (W R : List UInt8) (hW : ∀ c ∈ W, isDig c = true) (hR : ∀ c ∈ R, isDig c = true) (h0 : W ≠ []) : mantOk (W ++ 46 :: R) = true := by
 have hl : 0 < W.length := List.length_pos_iff.2 h0
 unfold mantOk
 rw [cutDot_yes R W (notdot W hW)]
 simp only [Bool.and_eq_true, List.all_eq_true, decide_eq_true_eq]
 exact ⟨⟨hW, hR⟩, by omega⟩
/-- the number of digits with a point -/
theorem parseL_dot (m : Option Bool) (W R : List UInt8) (N f : Nat) (hW : ∀ c ∈ W, isDig c = true) (h0 : W ≠ []) (hR : ∀ c ∈ R, isDig c = true) (hN : natOf W = N) (hN5 : N ≤ 99999)
  (hv : valD (digitsOf R) * 65536 = f * 10 ^ R.length) (hfit : fitsB (if neg m then -((N * 65536 + f : Nat) : Int) else ((N * 65536 + f : Nat) : Int)) = true) :
  parseL (sgn m ++ (W ++ 46 :: R)) = (if neg m then -((N * 65536 + f : Nat) : Int) else ((N * 65536 + f : Nat) : Int), true) := by
 rw [parseL_eq, signedL_sgn m _ (head_dig W _ hW h0)]
 simp only
 rw [mant_dot W R hW hR h0, if_pos rfl, cutDot_yes R W (notdot W hW)]
 simp only
 rw [rawL_exact W R N f hW hN hN5 hR hv]
 unfold signL2
 simp only [hfit, if_true]
theorem parseL_int (m : Option Bool) (W : List UInt8) (N : Nat) (hW : ∀ c ∈ W, isDig c = true) (h0 : W ≠ []) (hN : natOf W = N) (hN5 : N ≤ 99999)
  (hfit : fitsB (if neg m then -((N * 65536 : Nat) : Int) else ((N * 65536 : Nat) : Int)) = true) :
  parseL (sgn m ++ W) = (if neg m then -((N * 65536 : Nat) : Int) else ((N * 65536 : Nat) : Int), true) := by
 rw [parseL_eq, signedL_sgn m _ (by have := head_dig W [] hW h0; rwa [List.append_nil] at this)]
 simp only
 rw [mant_none W hW h0, if_pos rfl, cutDot_none W hW]
 simp only
 have h := rawL_exact W [] N 0 hW hN hN5 (by simp) (by simp [digitsOf, valD])
 rw [Nat.add_zero] at h
 rw [h]
 unfold signL2
 simp only [hfit, if_true]
/-- a number's sign and its two parts -/
theorem signL_sgn (n : Int) : signL n = sgn (if n < 0 then some true else none) := by unfold signL sgn; split <;> rfl
theorem neg_of (n : Int) : (if neg (if n < 0 then some true else none) then -((n.natAbs / 65536 * 65536 + n.natAbs % 65536 : Nat) : Int) else ((n.natAbs / 65536 * 65536 + n.natAbs % 65536 : Nat) : Int)) = n := by
 have h : n.natAbs / 65536 * 65536 + n.natAbs % 65536 = n.natAbs := by omega
 rw [h]
 by_cases hn : n < 0
 ·
  rw [if_pos hn]; simp only [neg, if_true]; omega
 ·
  rw [if_neg hn]; simp only [neg, Bool.false_eq_true, if_false]; omega
theorem wholeL_facts (n : Int) (h1 : -2147483648 ≤ n) (h2 : n ≤ 2147483647) : (∀ c ∈ wholeL n, isDig c = true) ∧ wholeL n ≠ [] ∧ natOf (wholeL n) = n.natAbs / 65536 ∧ n.natAbs / 65536 ≤ 99999 ∧ (wholeL n).length ≤ 5 := by
 obtain ⟨a, b, c⟩ := digitsL_val (n.natAbs / 65536)
 exact ⟨a, c, b, by omega, digitsL_len 4 _ oO⟩
/-- what dec.PrintReal writes, with noughts ahead and behind, and with a sign of whatever kind -/
theorem parse_real (m : Option Bool) (n : Int) (a k : Nat) (h1 : -2147483648 ≤ n) (h2 : n ≤ 2147483647) (R : List UInt8) (hR : ∀ c ∈ R, isDig c = true) (hv : valD (digitsOf R) * 65536 = (n.natAbs % 65536) * 10 ^ R.length) (hm : neg m = decide (n < 0)) :
  parseL (sgn m ++ ((List.replicate a 48 ++ wholeL n) ++ 46 :: (R ++ List.replicate k 48))) = (n, true) := by
 obtain ⟨w1, w2, w3, w4, w5⟩ := wholeL_facts n h1 h2
 have hn : (if neg m then -((n.natAbs / 65536 * 65536 + n.natAbs % 65536 : Nat) : Int) else ((n.natAbs / 65536 * 65536 + n.natAbs % 65536 : Nat) : Int)) = n := by
  have := neg_of n
  rw [hm]
  by_cases h : n < 0
  ·
   rw [if_pos h] at this; rw [decide_eq_true h]; exact this
  ·
   rw [if_neg h] at this; rw [decide_eq_false h]; exact this
 rw [parseL_dot m _ _ (n.natAbs / 65536) (n.natAbs % 65536) (fun c hc => (List.mem_append.1 hc).elim (dig_zeros a c) (w1 c)) (by simp [w2]) (fun c hc => (List.mem_append.1 hc).elim (hR c) (dig_zeros k c)) (by rw [natOf_zeros, w3]) w4 (val_zeros R _ k hv) (by rw [hn]; exact fitsB_yes h1 h2), hn]
theorem parse_print (n : Int) (h1 : -2147483648 ≤ n) (h2 : n ≤ 2147483647) : parseL (printL n) = (n, true) := by
  obtain ⟨w1, w2, w3, w4, w5⟩ := wholeL_facts n h1 h2
  by_cases h0 : restL n = []
  · unfold printL
    rw [if_pos h0, List.append_nil, signL_sgn]
    have hf := (restL_iff n).1 h0
    have hn := neg_of n
    rw [hf, Nat.add_zero] at hn
    rw [parseL_int _ _ _ w1 w2 w3 w4 (by rw [hn]; exact fitsB_yes h1 h2), hn]
  · obtain ⟨g1, g2⟩ := fracL_val (n.natAbs % 65536) oO
    have h := parse_real (if n < 0 then some true else none) n 0 0 h1 h2 (restL n) g1 g2 (by split <;> simp_all [neg])
    unfold printL
    rw [if_neg h0, signL_sgn]
    simpa using h
end
section
def joinC (c : UInt8) : List (List UInt8) → List UInt8
 | [] => []
 | w :: r => w ++ r.flatMap (c :: ·)
theorem splitC_word (c : UInt8) : ∀ (w t : List UInt8), c ∉ w → splitC c (w ++ c :: t) = w :: splitC c t
 | [], t, _ => by rw [List.nil_append, splitC, if_pos rfl]
 | x :: w, t, h => by
  simp only [List.mem_cons, not_or] at h
  rw [List.cons_append, splitC, if_neg (fun e => h.1 e.symm), splitC_word c w t h.2]
theorem splitC_one (c : UInt8) : ∀ w : List UInt8, c ∉ w → splitC c w = [w]
 | [], _ => rfl
 | x :: w, h => by
  simp only [List.mem_cons, not_or] at h
  rw [splitC, if_neg (fun e => h.1 e.symm), splitC_one c w h.2]
theorem splitC_join (c : UInt8) : ∀ (r : List (List UInt8)) (w : List UInt8), c ∉ w → (∀ x ∈ r, c ∉ x) → splitC c (w ++ r.flatMap (c :: ·)) = w :: r
 | [], w, h, _ => by rw [List.flatMap_nil, List.append_nil]; exact splitC_one c w h
 | v :: r, w, h, hr => by
  rw [List.flatMap_cons, List.cons_append, splitC_word c w _ h, splitC_join c r v (hr v (by simp)) fun x hx => hr x (by simp [hx])]
theorem split_join (c : UInt8) {ws : List (List UInt8)} (h0 : ws ≠ []) (h : ∀ x ∈ ws, c ∉ x) : splitC c (joinC c ws) = ws := by
 cases ws with
 | nil => exact absurd rfl h0
 | cons w r => exact splitC_join c r w (h w (by simp)) fun x hx => h x (by simp [hx])
/-- lines, each with its end -/
def linesT (ls : List (List UInt8)) : List UInt8 := ls.flatMap (· ++ [10])
theorem splitC_lines : ∀ (ls : List (List UInt8)) (t : List UInt8), (∀ l ∈ ls, (10 : UInt8) ∉ l) → splitC 10 (linesT ls ++ t) = ls ++ splitC 10 t
 | [], t, _ => rfl
 | l :: ls, t, h => by
  have e : linesT (l :: ls) ++ t = l ++ 10 :: (linesT ls ++ t) := by simp [linesT]
  rw [e, splitC_word 10 l _ (h l (by simp)), splitC_lines ls t fun x hx => h x (by simp [hx])]; rfl
/-- a word's letters: no blank, no line's end -/
def okW (w : List UInt8) : Prop := (32 : UInt8) ∉ w ∧ (10 : UInt8) ∉ w
theorem okW.app {a b : List UInt8} (h : okW a) (h' : okW b) : okW (a ++ b) := ⟨by simp [h.1, h'.1], by simp [h.2, h'.2]⟩
theorem okW_dig {l : List UInt8} (h : ∀ c ∈ l, isDig c = true) : okW l := ⟨fun h1 => absurd (h _ h1) dD, fun h1 => absurd (h _ h1) dD⟩
theorem okW_printL (n : Int) : okW (printL (norm n)) := by
 have hn : -2147483648 ≤ norm n ∧ norm n ≤ 2147483647 := by
  unfold norm
  split
  ·
   rename_i h; unfold fitsB at h; simp at h; omega
  ·
   omega
 obtain ⟨w1, -⟩ := wholeL_facts (norm n) hn.1 hn.2
 obtain ⟨g1, -⟩ := fracL_val ((norm n).natAbs % 65536) oO
 unfold printL
 refine ((?_ : okW _).app (okW_dig w1)).app ?_
 ·
  unfold signL; split <;> exact ⟨by decide, by decide⟩
 ·
  split
  ·
   exact ⟨by simp, by simp⟩
  ·
   exact (show okW ([46] ++ restL (norm n)) from .app ⟨by decide, by decide⟩ (okW_dig g1))
theorem okW_decL (n : Int) : okW (decL n) := by
 have h := (digitsL_val n.natAbs).1
 unfold decL
 split
 ·
  exact (show okW ([45] ++ _) from .app ⟨by decide, by decide⟩ (okW_dig h))
 ·
  exact okW_dig h
theorem hexT_nib : ∀ a b : Fin 16, hexT (UInt8.ofNat (16 * a.val + b.val)) = [digS[a.val]!, digS[b.val]!] := by decide +kernel
theorem hexT_of (c : UInt8) : ∃ a b : Fin 16, c = UInt8.ofNat (16 * a.val + b.val) := ⟨⟨c.toNat / 16, by have := c.toNat_lt; omega⟩, ⟨c.toNat % 16, by omega⟩, by
 apply UInt8.toNat_inj.1
 rw [UInt8.toNat_ofNat']
 have := c.toNat_lt
 simp only []; omega⟩
theorem okW_hexT (c : UInt8) : okW (hexT c) := by
 obtain ⟨a, b, rfl⟩ := hexT_of c
 rw [hexT_nib]
 have key : ∀ a b : Fin 16, (32 : UInt8) ∉ [digS[a.val]!, digS[b.val]!] ∧ (10 : UInt8) ∉ [digS[a.val]!, digS[b.val]!] := by decide +kernel
 exact key a b
theorem okW_hexs : ∀ l : List UInt8, okW (l.flatMap hexT)
 | [] => ⟨by simp, by simp⟩
 | c :: l => by rw [List.flatMap_cons]; exact (okW_hexT c).app (okW_hexs l)
end
section
def numW (n : Int) : List UInt8 := printL (norm n)
def ptWs (p : PointV) : List (List UInt8) := [numW p.fX, numW p.fY]
def segWs (s : SegV) : List (List UInt8) :=
 if s.fKind = 1 then [109] :: ptWs s.fP_0
 else if s.fKind = 2 then [108] :: ptWs s.fP_0
 else if s.fKind = 3 then [99] :: (ptWs s.fP_0 ++ ptWs s.fP_1 ++ ptWs s.fP_2)
 else [[104]]
def pathWs (l : List SegV) : List (List UInt8) := l.flatMap segWs
def colorWs (c : ColorV) : List (List UInt8) := decL c.fSpace :: ((parts c).take c.fSpace.toNat).map numW
def penWs (p : PenV) : List (List UInt8) := numW p.fWidth :: decL p.fCap :: decL p.fJoin :: numW p.fMiter :: decL (p.fDash.length : Int) :: (p.fDash.map numW ++ [numW p.fPhase])
def clipWs (c : ClipV) : List (List UInt8) := ((if c.fEvenOdd then [101, 111] else []) ++ [99, 108, 105, 112]) :: pathWs c.fPath
def lastWs (x : ItemV) : List (List UInt8) := headT x.fKind :: (colorWs x.fColor ++
 (if x.fKind = 4 then decL x.fFont :: ((mats x).map numW ++ [120 :: x.fBytes.flatMap hexT]) else (if x.fKind = 3 then penWs x.fPen else []) ++ pathWs x.fPath))
def itemLs (x : ItemV) : List (List (List UInt8)) := x.fClips.map clipWs ++ [lastWs x]
def headPs (x : PageV) : List (List UInt8) := [[112, 97, 103, 101], numW x.fWidth, numW x.fHeight]
def pageLs (x : PageV) : List (List (List UInt8)) := headPs x :: x.fItems.flatMap itemLs
def pagesLs (l : List PageV) : List (List (List UInt8)) := l.flatMap pageLs
def tl (ws : List (List UInt8)) : List UInt8 := ws.flatMap (32 :: ·)
theorem tl_app (a b : List (List UInt8)) : tl (a ++ b) = tl a ++ tl b := List.flatMap_append
theorem tl_cons (a : List UInt8) (b : List (List UInt8)) : tl (a :: b) = 32 :: a ++ tl b := List.flatMap_cons
theorem tl_nil : tl [] = [] := rfl
theorem tl_pt (p : PointV) : tl (ptWs p) = numT p.fX ++ numT p.fY := by simp [tl, ptWs, numT, numW]
theorem tl_seg (s : SegV) : tl (segWs s) = segT s := by
 unfold segWs segT
 split
 ·
  simp [tl_cons, tl_pt]
 ·
  split
  ·
   simp [tl_cons, tl_pt]
  ·
   split
   ·
    simp [tl_cons, tl_app, tl_pt]
   ·
    rfl
theorem tl_path : ∀ l : List SegV, tl (pathWs l) = pathT l
 | [] => rfl
 | s :: l => by
  have h := tl_path l
  unfold pathWs pathT at *
  rw [List.flatMap_cons, tl_app, tl_seg, h, List.flatMap_cons]
theorem tl_nums : ∀ l : List Int, tl (l.map numW) = numsT l
 | [] => rfl
 | n :: l => by
  have h := tl_nums l
  unfold numsT at *
  rw [List.map_cons, tl_cons, h, List.flatMap_cons]; rfl
theorem tl_color (c : ColorV) : tl (colorWs c) = colorT c := by unfold colorWs colorT; rw [tl_cons, tl_nums]; rfl
theorem tl_pen (p : PenV) : tl (penWs p) = penT p := by
 unfold penWs penT
 simp [tl_cons, tl_app, tl_nums, tl_nil, numT, numW, smT]
theorem join_cons (w : List UInt8) (r : List (List UInt8)) : joinC 32 (w :: r) = w ++ tl r := rfl
theorem join_clip (c : ClipV) : joinC 32 (clipWs c) ++ [10] = clipT c := by
 unfold clipWs clipT; rw [join_cons, tl_path]
theorem join_last (x : ItemV) : joinC 32 (lastWs x) ++ [10] = headT x.fKind ++ colorT x.fColor ++ (if x.fKind = 4 then smT x.fFont ++ numsT (mats x) ++ ([32, 120] ++ x.fBytes.flatMap hexT) else (if x.fKind = 3 then penT x.fPen else []) ++ pathT x.fPath) ++ [10] := by
 unfold lastWs
 rw [join_cons, tl_app, tl_color]
 congr 1
 rw [List.append_assoc]
 congr 2
 split
 ·
  rw [tl_cons, tl_app, tl_nums, tl_cons, tl_nil]; simp [smT]
 ·
  rw [tl_app, tl_path]
  congr 1
  split
  ·
   exact tl_pen _
  ·
   rfl
theorem lines_app (a b : List (List UInt8)) : linesT (a ++ b) = linesT a ++ linesT b := List.flatMap_append
theorem lines_clips : ∀ l : List ClipV, linesT ((l.map clipWs).map (joinC 32)) = l.flatMap clipT
 | [] => rfl
 | c :: l => by
  have h := lines_clips l
  unfold linesT at *
  rw [List.map_cons, List.map_cons, List.flatMap_cons, h, join_clip, List.flatMap_cons]
theorem lines_item (x : ItemV) : linesT ((itemLs x).map (joinC 32)) = itemT x := by
 unfold itemLs itemT
 rw [List.map_append, lines_app, lines_clips]
 have e : linesT (([lastWs x] : List (List (List UInt8))).map (joinC 32)) = joinC 32 (lastWs x) ++ [10] := by simp [linesT]
 rw [e, join_last]
 simp only [List.append_assoc]
theorem lines_items : ∀ l : List ItemV, linesT ((l.flatMap itemLs).map (joinC 32)) = l.flatMap itemT
 | [] => rfl
 | x :: l => by
  rw [List.flatMap_cons, List.map_append, lines_app, lines_item, lines_items l, List.flatMap_cons]
theorem lines_page (x : PageV) : linesT ((pageLs x).map (joinC 32)) = pageT x := by
 unfold pageLs pageT
 rw [List.map_cons]
 have e : ∀ a (b : List (List UInt8)), linesT (a :: b) = a ++ [10] ++ linesT b := fun a b => by simp [linesT]
 rw [e, lines_items]
 congr 1
 simp [headPs, pageH, joinC, numT, numW]
theorem lines_pages : ∀ l : List PageV, linesT ((pagesLs l).map (joinC 32)) = pagesT l
 | [] => rfl
 | x :: l => by
  unfold pagesLs pagesT
  rw [List.flatMap_cons, List.map_append, lines_app, lines_page, List.flatMap_cons]
  congr 1
  exact lines_pages l
def okL (ws : List (List UInt8)) : Prop := ∀ w ∈ ws, okW w
theorem okL.app {a b : List (List UInt8)} (h : okL a) (h' : okL b) : okL (a ++ b) := fun w hw => (List.mem_append.1 hw).elim (h w) (h' w)
theorem okL.cons {a : List UInt8} {b : List (List UInt8)} (h : okW a) (h' : okL b) : okL (a :: b) := fun w hw => by
 rcases List.mem_cons.1 hw with e | hw
 ·
  exact e ▸ h
 ·
  exact h' w hw
theorem okL.nil : okL [] := fun w hw => by cases hw
theorem okL_nums (l : List Int) : okL (l.map numW) := fun w hw => by
 obtain ⟨n, -, rfl⟩ := List.mem_map.1 hw; exact okW_printL n
theorem okL_pt (p : PointV) : okL (ptWs p) := .cons (okW_printL _) (.cons (okW_printL _) .nil)
theorem okL_seg (s : SegV) : okL (segWs s) := by
 unfold segWs
 split
 ·
  exact .cons ⟨by decide, by decide⟩ (okL_pt _)
 ·
  split
  ·
   exact .cons ⟨by decide, by decide⟩ (okL_pt _)
  ·
   split
   ·
    exact .cons ⟨by decide, by decide⟩ (((okL_pt _).app (okL_pt _)).app (okL_pt _))
   ·
    exact .cons ⟨by decide, by decide⟩ .nil
theorem okL_path (l : List SegV) : okL (pathWs l) := fun w hw => by
 obtain ⟨s, -, h⟩ := List.mem_flatMap.1 hw; exact okL_seg s w h
theorem okL_color (c : ColorV) : okL (colorWs c) := .cons (okW_decL _) (okL_nums _)
theorem okL_pen (p : PenV) : okL (penWs p) := .cons (okW_printL _) (.cons (okW_decL _) (.cons (okW_decL _) (.cons (okW_printL _) (.cons (okW_decL _) ((okL_nums _).app (.cons (okW_printL _) .nil))))))
theorem okL_clip (c : ClipV) : okL (clipWs c) := by
 unfold clipWs
 refine .cons ?_ (okL_path _)
 split <;> exact ⟨by decide, by decide⟩
theorem okL_last (x : ItemV) : okL (lastWs x) := by
 unfold lastWs
 refine .cons ?_ ((okL_color _).app ?_)
 ·
  unfold headT
  split
  ·
   exact ⟨by decide, by decide⟩
  ·
   split
   ·
    exact ⟨by decide, by decide⟩
   ·
    split <;> exact ⟨by decide, by decide⟩
 ·
  split
  ·
   exact .cons (okW_decL _) ((okL_nums _).app (.cons (show okW ([120] ++ _) from .app ⟨by decide, by decide⟩ (okW_hexs _)) .nil))
  ·
   refine .app ?_ (okL_path _)
   split
   ·
    exact okL_pen _
   ·
    exact .nil
theorem okLs_pages (l : List PageV) : ∀ ws ∈ pagesLs l, okL ws ∧ ws ≠ [] := fun ws h => by
 obtain ⟨x, -, h⟩ := List.mem_flatMap.1 h
 rcases List.mem_cons.1 h with rfl | h
 ·
  exact ⟨.cons ⟨by decide, by decide⟩ (.cons (okW_printL _) (.cons (okW_printL _) .nil)), by simp [headPs]⟩
 ·
  obtain ⟨y, -, h⟩ := List.mem_flatMap.1 h
  rcases List.mem_append.1 h with h | h
  ·
   obtain ⟨c, -, rfl⟩ := List.mem_map.1 h
   exact ⟨okL_clip c, by simp [clipWs]⟩
  ·
   obtain rfl := List.mem_singleton.1 h
   exact ⟨okL_last y, by simp [lastWs]⟩
theorem no10_join {ws : List (List UInt8)} (h : okL ws) : (10 : UInt8) ∉ joinC 32 ws := by
 cases ws with
 | nil => simp [joinC]
 | cons w r =>
  rw [join_cons]
  intro h1
  rcases List.mem_append.1 h1 with h1 | h1
  ·
   exact (h w (by simp)).2 h1
  ·
   obtain ⟨v, hv, h1⟩ := List.mem_flatMap.1 h1
   rcases List.mem_cons.1 h1 with h1 | h1
   ·
    cases h1
   ·
    exact (h v (by simp [hv])).2 h1
end
section
theorem rWord_f (w : List UInt8) (r : List (List UInt8)) (b : Bool) : rWord ⟨w :: r, b⟩ = (w, ⟨r, b⟩) := rfl
theorem norm_fits {n : Int} (h : fitsB n = true) : norm n = n := by unfold norm; rw [if_pos h]
theorem rNum_f {n : Int} (h : fitsB n = true) (r : List (List UInt8)) : rNum ⟨numW n :: r, false⟩ = (n, ⟨r, false⟩) := by
 have hn := norm_fits h
 have hl : (printL n).length ≤ 60 := by have := printL_size n; rwa [bs_size, hn] at this
 have hb : -2147483648 ≤ n ∧ n ≤ 2147483647 := by simpa [fitsB] using h
 have hp : parseP (numW n) = (n, true) := by
  unfold parseP numW
  rw [hn, if_neg oO]; exact parse_print n hb.1 hb.2
 unfold rNum
 rw [rWord_f]
 simp only [hp]
 simp [numW]
theorem rNums_fk {l : List Int} (h : ∀ n ∈ l, fitsB n = true) (r : List (List UInt8)) : ∀ k, k ≤ l.length → rNums k ⟨l.map numW ++ r, false⟩ = (l.take k, ⟨(l.drop k).map numW ++ r, false⟩)
 | 0, _ => by simp [rNums]
 | k + 1, hk => by
  have ih := rNums_fk h r k oO
  have hlt : k < l.length := by omega
  simp only [rNums, ih]
  have e : (l.drop k).map numW ++ r = numW l[k] :: ((l.drop (k + 1)).map numW ++ r) := by rw [List.drop_eq_getElem_cons hlt]; rfl
  rw [e, rNum_f (h _ (List.getElem_mem hlt)), List.take_add_one, List.getElem?_eq_getElem hlt]
  rfl
theorem rNums_f {l : List Int} (h : ∀ n ∈ l, fitsB n = true) (r : List (List UInt8)) {k : Nat} (hk : k = l.length) : rNums k ⟨l.map numW ++ r, false⟩ = (l, ⟨r, false⟩) := by
 subst hk
 rw [rNums_fk h r _ (Nat.le_refl _)]; simp
theorem decL_fin : ∀ n : Fin 14, Lib.atoiAll (decL (n.val : Int)) = .ok (n.val : Int) := by
 intro ⟨n, hn⟩
 have key : n < 10 ∨ n = 10 ∨ n = 11 ∨ n = 12 ∨ n = 13 := by omega
 have e0 : decL (n : Int) = digitsL n := by unfold decL; rw [if_neg oO, Int.natAbs_natCast]
 simp only [e0]
 rcases key with h | rfl | rfl | rfl | rfl
 ·
  rw [digitsL_lt n h]
  have : ∀ m : Fin 10, Lib.atoiAll [ch (48 + (m.val : Int))] = .ok (m.val : Int) := by decide
  exact this ⟨n, h⟩
 all_goals (rw [digitsL_ge _ oO, digitsL_lt _ oO]; decide)
theorem rSmall_f {most n : Int} (h0 : 0 ≤ n) (h1 : n ≤ most) (h2 : n ≤ 13) (r : List (List UInt8)) : rSmall most ⟨decL n :: r, false⟩ = (n, ⟨r, false⟩) := by
 obtain ⟨k, rfl⟩ : ∃ k : Nat, n = (k : Int) := ⟨n.toNat, by omega⟩
 have hf := decL_fin ⟨k, by omega⟩
 have hs : smallP most (decL (k : Int)) = some (k : Int) := by
  unfold smallP
  simp only [] at hf
  rw [hf]
  exact if_pos ⟨h0, h1, rfl⟩
 unfold rSmall
 rw [rWord_f]
 simp only [hs]
theorem rColor_f {c : ColorV} (h : colorB c = true) (r : List (List UInt8)) : rColor ⟨colorWs c ++ r, false⟩ = (c, ⟨r, false⟩) := by
  obtain ⟨k, p0, p1, p2, p3⟩ := c
  have hq : ∀ {p : Int} {i : Nat}, (decide (0 ≤ p) && decide (p ≤ 65536) && (decide ((i : Int) < k) || decide (p = 0))) = true → 0 ≤ p ∧ p ≤ 65536 ∧ ((i : Int) < k ∨ p = 0) := fun h => by
    simp only [Bool.and_eq_true, Bool.or_eq_true, decide_eq_true_eq] at h; exact ⟨h.1.1, h.1.2, h.2⟩
  unfold colorB spaceB at h
  simp only [Bool.and_eq_true, Bool.not_eq_true', Bool.and_eq_false_iff, Bool.not_eq_false', decide_eq_true_eq] at h
  obtain ⟨hs, ⟨⟨h0, h1⟩, h2⟩, h3⟩ := h
  have h0 := hq (p := p0) (i := 0) h0
  have h1 := hq (p := p1) (i := 1) h1
  have h2 := hq (p := p2) (i := 2) h2
  have h3 := hq (p := p3) (i := 3) h3
  have hk : k = 1 ∨ k = 3 ∨ k = 4 := by omega
  have hf : ∀ n ∈ [p0, p1, p2, p3], fitsB n = true := fun n hn => by
    simp only [List.mem_cons, List.not_mem_nil, or_false] at hn
    rcases hn with rfl | rfl | rfl | rfl <;> exact fitsB_yes oO oO
  have hl : (([p0, p1, p2, p3] : List Int).take k.toNat).length = k.toNat := by rw [List.length_take]; simp; omega
  unfold rColor colorWs parts
  simp only [List.cons_append]
  rw [rSmall_f oO oO oO]
  simp only []
  rw [rNums_f (fun n hn => hf n (List.take_subset _ _ hn)) r hl.symm]
  rcases hk with rfl | rfl | rfl
  · have e1 : p1 = 0 := by omega
    have e2 : p2 = 0 := by omega
    have e3 : p3 = 0 := by omega
    subst e1 e2 e3; rfl
  · have e3 : p3 = 0 := by omega
    subst e3; rfl
  · rfl
theorem rPoint_f {p : PointV} (h : fitsP p = true) (r : List (List UInt8)) : rPoint ⟨ptWs p ++ r, false⟩ = (p, ⟨r, false⟩) := by
 unfold fitsP at h
 rw [Bool.and_eq_true] at h
 unfold rPoint ptWs
 simp only [List.cons_append, List.nil_append]
 rw [rNum_f h.1]
 simp only []
 rw [rNum_f h.2]
theorem pt_zero {p : PointV} (h : zeroP p = true) : p = pt0 := by
 unfold zeroP at h; simp at h
 cases p; simp_all [pt0]
theorem rSeg_f {s : SegV} {last : Int} (h : segB s last = true) (r : List (List UInt8)) : rSeg ⟨segWs s ++ r, false⟩ = (s, ⟨r, false⟩) := by
  obtain ⟨k, p0, p1, p2⟩ := s
  unfold segB at h
  simp only [Bool.and_eq_true, decide_eq_true_eq, List.all_cons, List.all_nil, Bool.and_true] at h
  obtain ⟨⟨⟨hk, -⟩, h0, h1, h2⟩, hz⟩ := h
  have hk4 : k = 1 ∨ k = 2 ∨ k = 3 ∨ k = 4 := by
    unfold segN at hk
    by_cases e1 : k = 1 ∨ k = 2
    · omega
    · rw [if_neg e1] at hk
      by_cases e3 : k = 3
      · omega
      · rw [if_neg e3] at hk
        by_cases e4 : k = 4
        · omega
        · rw [if_neg e4] at hk; omega
  unfold rSeg segWs
  rcases hk4 with rfl | rfl | rfl | rfl
  · have z1 := pt_zero (List.all_eq_true.1 hz p1 (by simp [segN]))
    have z2 := pt_zero (List.all_eq_true.1 hz p2 (by simp [segN]))
    subst z1 z2
    show (ptsOf 1 (rPts 1 ⟨ptWs p0 ++ r, false⟩).1, (rPts 1 ⟨ptWs p0 ++ r, false⟩).2) = _
    simp only [rPts, rPoint_f h0]; rfl
  · have z1 := pt_zero (List.all_eq_true.1 hz p1 (by simp [segN]))
    have z2 := pt_zero (List.all_eq_true.1 hz p2 (by simp [segN]))
    subst z1 z2
    show (ptsOf 2 (rPts 1 ⟨ptWs p0 ++ r, false⟩).1, (rPts 1 ⟨ptWs p0 ++ r, false⟩).2) = _
    simp only [rPts, rPoint_f h0]; rfl
  · show (ptsOf 3 (rPts 3 ⟨ptWs p0 ++ ptWs p1 ++ ptWs p2 ++ r, false⟩).1, (rPts 3 ⟨ptWs p0 ++ ptWs p1 ++ ptWs p2 ++ r, false⟩).2) = _
    simp only [rPts, List.append_assoc, rPoint_f h0, rPoint_f h1, rPoint_f h2]; rfl
  · have z0 := pt_zero (List.all_eq_true.1 hz p0 (by simp [segN]))
    have z1 := pt_zero (List.all_eq_true.1 hz p1 (by simp [segN]))
    have z2 := pt_zero (List.all_eq_true.1 hz p2 (by simp [segN]))
    subst z0 z1 z2; rfl
theorem segWs_ne (s : SegV) : segWs s ≠ [] := by unfold segWs; split; simp; split; simp; split <;> simp
theorem rPath_f : ∀ (l : List SegV) (k : Int), segsB k l = true → rPath ⟨pathWs l, false⟩ = (l, ⟨[], false⟩)
 | [], _, _ => rPath_end (by simp [pathWs])
 | s :: l, k, h => by
  unfold segsB at h
  rw [Bool.and_eq_true] at h
  have e : pathWs (s :: l) = segWs s ++ pathWs l := List.flatMap_cons
  rw [e, rPath_go ⟨by simp [segWs_ne], rfl⟩, rSeg_f h.1, rPath_f l _ h.2]
theorem rPen_f {p : PenV} (h : penB p = true) (r : List (List UInt8)) : rPen ⟨penWs p ++ r, false⟩ = (erPen p, ⟨r, false⟩) := by
 unfold penB penH dashB at h
 simp only [Bool.and_eq_true, Bool.not_eq_true', Bool.or_eq_false_iff, decide_eq_false_iff_not, List.all_eq_true, Bool.not_eq_false', decide_eq_true_eq] at h
 obtain ⟨⟨⟨⟨⟨⟨⟨⟨⟨⟨⟨⟨h1, h2⟩, h3⟩, h4⟩, h5⟩, h6⟩, h7⟩, h8⟩, h9⟩, h10⟩, h11⟩, hd⟩, -⟩ := h
 have e : penWs p ++ r = numW p.fWidth :: decL p.fCap :: decL p.fJoin :: numW p.fMiter :: decL (p.fDash.length : Int) :: (p.fDash.map numW ++ (numW p.fPhase :: r)) := by simp [penWs]
 rw [e]
 unfold rPen
 rw [rNum_f h2]
 simp only []
 rw [rSmall_f oO oO oO]
 simp only []
 rw [rSmall_f oO oO oO]
 simp only []
 rw [rNum_f h8]
 simp only []
 rw [rSmall_f oO oO oO]
 simp only []
 rw [rNums_f (fun n hn => (hd n hn).2) _ (by simp)]
 simp only []
 rw [rNum_f h10]
 rfl
theorem unhex_hexT (c : UInt8) (r : List UInt8) : unhex (hexT c ++ r) = c :: unhex r := by
 obtain ⟨a, b, rfl⟩ := hexT_of c
 rw [hexT_nib]
 have key : ∀ a b : Fin 16, UInt8.ofNat (16 * hexV digS[a.val]! + hexV digS[b.val]!) = UInt8.ofNat (16 * a.val + b.val) := by decide +kernel
 show UInt8.ofNat (16 * hexV digS[a.val]! + hexV digS[b.val]!) :: unhex r = _
 rw [key]
theorem hexs_len : ∀ l : List UInt8, (l.flatMap hexT).length = 2 * l.length
 | [] => rfl
 | c :: l => by
  obtain ⟨a, b, hc⟩ := hexT_of c
  have e : (hexT c).length = 2 := by rw [hc, hexT_nib]; rfl
  rw [List.flatMap_cons, List.length_append, hexs_len l, e, List.length_cons]; omega
theorem hexs_ok : ∀ l : List UInt8, (l.flatMap hexT).all hexB = true
 | [] => rfl
 | c :: l => by
  obtain ⟨a, b, hc⟩ := hexT_of c
  have key : ∀ a b : Fin 16, [digS[a.val]!, digS[b.val]!].all hexB = true := by decide +kernel
  rw [List.flatMap_cons, List.all_append, hexs_ok l, hc, hexT_nib, key]; rfl
theorem unhex_hexs : ∀ l : List UInt8, unhex (l.flatMap hexT) = l
 | [] => rfl
 | c :: l => by rw [List.flatMap_cons, unhex_hexT, unhex_hexs l]
theorem bytesP_f (l : List UInt8) : bytesP (120 :: l.flatMap hexT) = some l := by
 unfold bytesP
 simp only []
 rw [if_pos ⟨by rw [hexs_len]; omega, hexs_ok l⟩, unhex_hexs]
theorem rBytes_f (l : List UInt8) (r : List (List UInt8)) : rBytes ⟨(120 :: l.flatMap hexT) :: r, false⟩ = (l, ⟨r, false⟩) := by
 unfold rBytes
 rw [rWord_f]
 simp only [bytesP_f]
theorem pen_none {p : PenV} (h : noneB p = true) : erPen p = pen00 := by
 unfold noneB at h
 simp at h
 cases p; simp_all [erPen, pen00]
theorem rItem_f {x : ItemV} (h : itemB x = true) : rItem (headT x.fKind) ⟨(lastWs x).tail, false⟩ = (some { erItem x with fClips := [] }, ⟨[], false⟩) := by
  obtain ⟨hk1, hk4, -, -⟩ := itemB_kind h
  unfold itemB at h
  simp only [Bool.and_eq_true] at h
  obtain ⟨⟨hc, -⟩, hk⟩ := h
  have ht : (lastWs x).tail = colorWs x.fColor ++ (if x.fKind = 4 then decL x.fFont :: ((mats x).map numW ++ [120 :: x.fBytes.flatMap hexT]) else (if x.fKind = 3 then penWs x.fPen else []) ++ pathWs x.fPath) := rfl
  rw [ht]
  unfold rItem
  rw [rColor_f hc]
  simp only []
  by_cases h4 : x.fKind = 4
  · rw [if_pos h4] at hk ⊢
    unfold lettersB at hk
    simp only [Bool.and_eq_true, decide_eq_true_eq] at hk
    obtain ⟨⟨⟨⟨⟨⟨f0, f13⟩, -⟩, -⟩, hm⟩, hp⟩, hn⟩ := hk
    have hh : headT x.fKind = [116, 101, 120, 116] := by rw [h4]; rfl
    rw [hh, if_neg dD, if_neg dD, if_pos rfl, rSmall_f f0 oO f13]
    simp only []
    rw [rNums_f (List.all_eq_true.1 hm) _ (show 6 = (mats x).length from rfl)]
    simp only []
    rw [rBytes_f]
    have e1 := pen_none hn
    have e2 : x.fPath = [] := List.length_eq_zero_iff.1 oO
    simp only [erItem, e1, e2, h4]
    rfl
  · rw [if_neg h4] at hk ⊢
    unfold restB mat0 at hk
    simp only [Bool.and_eq_true, decide_eq_true_eq] at hk
    obtain ⟨⟨⟨⟨⟨f0, hm⟩, hb⟩, -⟩, hp⟩, hr⟩ := hk
    unfold pathB at hp
    rw [Bool.and_eq_true] at hp
    have e2 : x.fBytes = [] := List.length_eq_zero_iff.1 oO
    obtain ⟨m0, m1, m2, m3, m4, m5⟩ := hm
    by_cases h3 : x.fKind = 3
    · rw [if_neg oO, if_pos h3] at hr
      rw [if_pos h3]
      have hh : headT x.fKind = [115, 116, 114, 111, 107, 101] := by rw [h3]; rfl
      rw [hh, if_neg dD, if_pos rfl, rPen_f hr]
      simp only []
      rw [rPath_f _ _ hp.2]
      simp only [erItem, e2, h3, f0, m0, m1, m2, m3, m4, m5]
    · rw [if_neg h3, List.nil_append]
      rw [if_pos oO] at hr
      have e1 := pen_none hr
      have h12 : x.fKind = 1 ∨ x.fKind = 2 := by omega
      have hh : headT x.fKind = [102, 105, 108, 108] ∨ headT x.fKind = [101, 111, 102, 105, 108, 108] := by rcases h12 with e | e <;> rw [e] <;> simp [headT]
      rw [if_pos hh, rPath_f _ _ hp.2]
      have hkk : (if headT x.fKind = [101, 111, 102, 105, 108, 108] then (2 : Int) else 1) = x.fKind := by rcases h12 with e | e <;> rw [e] <;> decide
      simp only [erItem, e1, e2, f0, m0, m1, m2, m3, m4, m5, hkk]
end
section
section
variable {P : Program} {n : Sh} {fn : Func} {R : Ending → World → Prop} {f : Fr} {w : World}
/-- the slots hold what is known -/
def Holds (f : Fr) (tmps : Array Value) : Prop := ∀ i u, look f i = some u → tmps.getD i undef = u
/-- where a function that defers comes to its door -/
def PostD (P : Program) (fn : Func) (R : Ending → World → Prop) (D : List Deferred) : Exit → Fr → World → Prop
 | .normal, f, w | .ret, f, w => ∀ tmps, Holds f tmps → Leaves P fn tmps R D .returning w
 | .panic chain, f, w => ∀ tmps, Holds f tmps → Leaves P fn tmps R D (.panicking chain) w
 | .outgrown, _, w => R .outgrown w
 | _, _, _ => False
def WD (P : Program) (n : Sh) (fn : Func) (R : Ending → World → Prop) (c : Code) (f : Fr) (w : World) : Prop := ∀ a, Rep n f a → c.wp P (bodyPostD P fn R) a w
theorem postD_of {e : Exit} {a : Act} {w : World} (h : lift n (PostD P fn R n.D) e a w) : bodyPostD P fn R e a w := by
 obtain ⟨f, hr, hQ⟩ := h
 cases e with
 | normal => have := hQ a.tmps hr.2.2; rw [← hr.1] at this; exact this
 | ret => have := hQ a.tmps hr.2.2; rw [← hr.1] at this; exact this
 | panic ch => have := hQ a.tmps hr.2.2; rw [← hr.1] at this; exact this
 | outgrown => exact hQ
 | exit i => exact hQ.elim
 | goto l => exact hQ.elim
theorem WD.of {c : Code} (h : W P n c (PostD P fn R n.D) f w) : WD P n fn R c f w := by
 unfold W at h
 exact fun a ha => wp_mono (h a ha) fun _ _ _ => postD_of
theorem WD.seq {x y : Code} (h : W P n x (nx (fun f w => WD P n fn R y f w) (PostD P fn R n.D)) f w) : WD P n fn R (.seq x y) f w := by
 unfold W at h
 intro a ha
 refine wp_seq (wp_mono (h a ha) ?_)
 rintro e a' w' ⟨f', hr, hQ⟩
 cases e with
 | normal => exact hQ a' hr
 | exit i => exact postD_of (P := P) (fn := fn) (R := R) (n := n) (w := w') (e := .exit i) ⟨f', hr, hQ⟩
 | goto l => exact postD_of (P := P) (fn := fn) (R := R) (n := n) (w := w') (e := .goto l) ⟨f', hr, hQ⟩
 | ret => exact postD_of (P := P) (fn := fn) (R := R) (n := n) (w := w') (e := .ret) ⟨f', hr, hQ⟩
 | panic ch => exact postD_of (P := P) (fn := fn) (R := R) (n := n) (w := w') (e := .panic ch) ⟨f', hr, hQ⟩
 | outgrown => exact postD_of (P := P) (fn := fn) (R := R) (n := n) (w := w') (e := .outgrown) ⟨f', hr, hQ⟩
theorem run_callFunc_body {F : FuncId} {g : Func} (h1 : P.funcs[F]? = some g) (h2 : g.body ≠ none) (h3 : g.name ≠ "runtime.NumGoroutine") (args : Array Value) (w : World) : (callFunc F args).run P w = .ok (.enter F args) w := by
 cases hb : g.body with
 | none => exact absurd hb h2
 | some c => simp [callFunc, h1, h3, hb]
/-- no deferred call is left -/
theorem PostD.ret0 {v : Value} (hv : ResOk P fn f w v) (h : R (.returned v) w) : PostD P fn R [] .ret f w := fun tmps ht => ⟨v, hv tmps ht, h⟩
theorem PostD.norm {D : List Deferred} (h : PostD P fn R D .ret f w) : PostD P fn R D .normal f w := h
/-- the door of a function with one deferred closure that hands nothing back: behind a return -/
theorem PostD.ret {F : FuncId} {vs : List Value} (hb : HasBody P F) (S : World → Prop)
  (hc : CallsD P F vs.toArray .returning w fun e u' w' => u' = .returning ∧ (∃ v, e = .returned v) ∧ S w')
  (hr : ∀ w', S w' → ∃ v, ResOk P fn f w' v ∧ R (.returned v) w') : PostD P fn R [⟨.fn (.func F) vs.toArray, #[]⟩] .ret f w := by
 intro tmps ht
 obtain ⟨g, h1, h2, h3⟩ := hb
 refine leaves_cons (f := F) (args := vs.toArray) (by simp) ?_ (hc.mono ?_)
 ·
  simp only [invoke, Array.empty_append]
  exact run_callFunc_body h1 h2 h3 _ _
 ·
  rintro e u' w' ⟨rfl, ⟨v, rfl⟩, hS⟩
  obtain ⟨v, hv, hR⟩ := hr w' hS
  exact ⟨v, hv tmps ht, hR⟩
/-- an interface's value against nil -/
theorem Pure.neNil {x : Operand} {tx ty u : TypeId} {v : Value} (ht : P.underlying tx = some (.interface (P.methodsAt tx))) (hx : evo f x = some (.iface u v)) : Pure P (.binOp .neq tx x (.const .nilIface) ty) f (.bool true) := fun ρ hρ d ty' pos aft g w => by
 have h4 : ρ (.const .nilIface) = .nilIface := hρ _ _ rfl
 simp [execOp, hρ _ _ hx, h4, eqGuard, run_neq_held_nil w tx u v ht]
theorem Pure.neNil0 {x : Operand} {tx ty : TypeId} (ht : P.underlying tx = some (.interface (P.methodsAt tx))) (hx : evo f x = some .nilIface) : Pure P (.binOp .neq tx x (.const .nilIface) ty) f (.bool false) := fun ρ hρ d ty' pos aft g w => by
 have h4 : ρ (.const .nilIface) = .nilIface := hρ _ _ rfl
 simp [execOp, hρ _ _ hx, h4, eqGuard_nil_constR, run_neq_nil_nil w tx ht]
theorem ResOk.cells3 {a b c : Tmp} {ta tb tc : TypeId} {pa pb pc : Addr} {x y z : Value} (hr : fn.results = #[.cell a ta, .cell b tb, .cell c tc]) (ha : look f a = some (.pointer (some pa))) (hb : look f b = some (.pointer (some pb))) (hc : look f c = some (.pointer (some pc)))
  (hx : (loadVar ta pa).run P w = .ok x w) (hy : (loadVar tb pb).run P w = .ok y w) (hz : (loadVar tc pc).run P w = .ok z w) : ResOk P fn f w (.tuple #[x, y, z]) := fun tmps hh => by
 have e1 := hh _ _ ha; have e2 := hh _ _ hb; have e3 := hh _ _ hc
 simp only [Array.getD_eq_getD_getElem?] at e1 e2 e3
 simp [results, hr, e1, e2, e3, asAddr, hx, hy, hz]
end
end
section
/-- a call's end: a value of which S tells, or a panic by an error's number -/
def EndsV {α : Type} (E : TypeId) (res : Except Int α) (S : α → Value → World → Prop) (S' : World → Prop) (e : Ending) (w : World) : Prop :=
 match res with
 | .ok a => ∃ v, e = .returned v ∧ S a v w
 | .error k => e = .panicked [{ v := .iface E (.int .i64 k), recovered := false }] ∧ S' w
theorem EndsV.ok {α : Type} {E : TypeId} {res : Except Int α} {S : α → Value → World → Prop} {S' : World → Prop} {e : Ending} {w : World} (a : α) (v : Value) (h : res = .ok a) (he : e = .returned v) (hs : S a v w) : EndsV E res S S' e w := by
 unfold EndsV; rw [h]; exact ⟨v, he, hs⟩
theorem OwnM.touch' {α : Type} {L : Lay α} {e : TypeId} {B r : Nat} {w w1 : World} {v : Value} {l : List α} (h : OwnM L e B w v l) (hT : Touch w.heap.size r w w1) (hr : r < B) : OwnM L e B w1 v l :=
 h.same fun g hg => hT.block g (h.lt g hg).2 (by have := (h.lt g hg).1; omega)
end
section
/-- block r is a reader that stands at s -/
def Rdr (w : World) (r : Nat) (s : RS) : Prop := ∃ p c, Blk w r #[.slice p s.ws.length c, .bool s.bad] 129 ∧ RowAt strV w p s.ws ∧ (0 < s.ws.length → (pA p).block < r) ∧ s.ws.length ≤ c ∧ ∀ x ∈ s.ws, x.length ≤ 2000000
theorem Rdr.lt {w : World} {r : Nat} {s : RS} (h : Rdr w r s) : r < w.heap.size := by obtain ⟨p, c, hk, -⟩ := h; exact hk.lt
theorem Rdr.below {w w1 : World} {r B : Nat} {s : RS} (h : Rdr w r s) (hb : Below B w w1) (hB : r < B) : Rdr w1 r s := by
 obtain ⟨p, c, hk, hr, hp, hc⟩ := h
 exact ⟨p, c, hk.below hb hB, hr.below hb (fun h0 => Nat.lt_trans (hp h0) hB), hp, hc⟩
theorem RowAt.nil' {α : Type} {V : α → Value} (w : World) (p : Option Addr) : RowAt V w p [] := ⟨fun h => by simp at h, fun j h => by simp at h⟩
theorem RowAt.touch {α : Type} {V : α → Value} {B r : Nat} {w w1 : World} {p : Option Addr} {l : List α} (h : RowAt V w p l) (hT : Touch B r w w1) (hp : 0 < l.length → (pA p).block < B ∧ (pA p).block ≠ r) : RowAt V w1 p l :=
 ⟨h.isp, fun j hj => by
  have h0 : 0 < l.length := by omega
  rw [World.cell?_of_block (w := w) (hT.block _ (by rw [add_block]; exact (hp h0).1) (by rw [add_block]; exact (hp h0).2))]
  exact h.cells j hj⟩
theorem RowAt.tail {α : Type} {V : α → Value} {w : World} {p : Option Addr} {x : α} {l : List α} {c : Nat} (h : RowAt V w p (x :: l)) (hc : (x :: l).length ≤ c) : RowAt V w (pPart p c 1) l ∧ (0 < l.length → (pA (pPart p c 1)).block = (pA p).block) := by
 have hp := h.isp (by simp)
 have key : 0 < l.length → pPart p c 1 = some ((pA p).add 1) := fun h0 => by
  simp only [List.length_cons] at hc
  unfold pPart
  rw [if_neg oO, hp]; rfl
 refine ⟨⟨fun h0 => by rw [key h0]; rfl, fun j hj => ?_⟩, fun h0 => by rw [key h0]; show ((pA p).add 1).block = _; exact add_block _ _⟩
 have h0 : 0 < l.length := by omega
 rw [key h0]
 show w.cell? (((pA p).add 1).add j) = _
 rw [add_add, Nat.add_comm]
 exact h.cells (j + 1) (by simpa using hj)
theorem rdr_word0 (r : Nat) (bad : Bool) (w : World) (h : Rdr w r ⟨[], bad⟩) :
  Calls Tryz.prog 92 #[.pointer (some ⟨r, 0, none⟩)] w fun e w' => e = .returned (.string (bs [])) ∧ Rdr w' r ⟨[], true⟩ ∧ Touch w.heap.size r w w' := by
 obtain ⟨p, c, hk, hrow, hlt, hc, hx⟩ := h
 refine W.enter func92 rfl ntmps92 (Nat.le_of_ble_eq_true rfl) ?_
 have hB0 := Touch.refl (w.heap.size) r w
 refine W.sr <| WL.z rfl rfl ?_
 refine W.seq <| W.sr <| WL.m rfl rfl <| WL.p (.nck rfl) rfl <| WL.p (.fa underlying129 rfl sizeOf28 dD rfl) rfl <| WL.r (Rd.ld (isAgg28 _) rfl hk rfl) rfl <| WL.p (.lenS underlying28 rfl) rfl <| WL.p (.eql rfl rfl) rfl <| WL.nil <| ?_
 refine W.cond rfl (fun h1 => ?_) (fun h1 => ?_)
 have h1' := dT h1
 refine W.sr <| WL.m rfl rfl <| WL.p (.nck rfl) rfl <| WL.p (.fa underlying129 rfl sizeOf4 dD rfl) rfl <| WL.st sizeOf4 rfl rfl rfl hk oD (fun w2 hkw2 huw2 hsw2 => ?_)
 have hkw2 : Blk w2 r _ _ := hkw2
 have huw2 : Upd r _ _ := huw2
 have hB3 := Touch.trans hB0 (Touch.of_upd huw2)
 refine WL.nil <| ?_
 refine W.sr <| WL.z rfl rfl ?_
 refine W.ret (W.ret1 rfl rfl ?_)
 exact ⟨rfl, ⟨p, c, hkw2, RowAt.nil' _ _, fun h0 => by simp at h0, hc, hx⟩, hB3⟩
 have h1' := dF h1
 exfalso; simp_all
theorem rdr_word1 (r : Nat) (bad : Bool) (x : List UInt8) (l : List (List UInt8)) (w : World) (h : Rdr w r ⟨x :: l, bad⟩) :
  Calls Tryz.prog 92 #[.pointer (some ⟨r, 0, none⟩)] w fun e w' => e = .returned (.string (bs x)) ∧ Rdr w' r ⟨l, bad⟩ ∧ Touch w.heap.size r w w' := by
 obtain ⟨p, c, hk, hrow, hlt, hc, hx⟩ := h
 have hl : (x :: l).length = l.length + 1 := rfl
 refine W.enter func92 rfl ntmps92 (Nat.le_of_ble_eq_true rfl) ?_
 have hB0 := Touch.refl (w.heap.size) r w
 refine W.sr <| WL.z rfl rfl ?_
 refine W.seq <| W.sr <| WL.m rfl rfl <| WL.p (.nck rfl) rfl <| WL.p (.fa underlying129 rfl sizeOf28 dD rfl) rfl <| WL.r (Rd.ld (isAgg28 _) rfl hk rfl) rfl <| WL.p (.lenS underlying28 rfl) rfl <| WL.p (.eql rfl rfl) rfl <| WL.nil <| ?_
 refine W.cond rfl (fun h1 => ?_) (fun h1 => ?_)
 have h1' := dT h1
 exfalso; have h9 : (((x :: l).length : Nat) : Int) = 0 := by assumption
 simp only [List.length_cons] at h9; omega
 have h1' := dF h1
 refine W.skip <| W.sr <| WL.m rfl rfl <| WL.p (.nck rfl) rfl <| WL.p (.fa underlying129 rfl sizeOf28 dD rfl) rfl <| WL.r (Rd.ld (isAgg28 _) rfl hk rfl) rfl <| WL.p (.ixb underlying28 sizeOf9 rfl rfl (hrow.isp oO) 0 rfl oO) rfl <| WL.r (Rd.ldc (isAgg9 _) rfl (hrow.cells (0) oO)) rfl <| WL.z rfl rfl ?_
 refine W.sr <| WL.m rfl rfl <| WL.m rfl rfl <| WL.p (.nck rfl) rfl <| WL.p (.fa underlying129 rfl sizeOf28 dD rfl) rfl <| WL.r (Rd.ld (isAgg28 _) rfl hk rfl) rfl <| WL.p (.slbF underlying28 sizeOf9 rfl rfl  1 rfl oO) rfl <| WL.p (.nck rfl) rfl <| WL.p (.fa underlying129 rfl sizeOf28 dD rfl) rfl <| WL.st sizeOf28 rfl rfl rfl hk oD (fun w2 hkw2 huw2 hsw2 => ?_)
 have hkw2 : Blk w2 r _ _ := hkw2
 have huw2 : Upd r _ _ := huw2
 have hv3 := RowAt.upd hrow huw2 (fun h0 => Nat.ne_of_lt (hlt h0))
 have hB4 := Touch.trans hB0 (Touch.of_upd huw2)
 refine WL.nil <| ?_
 refine W.sr <| WL.m rfl rfl <| WL.z rfl rfl ?_
 refine W.ret (W.ret1 rfl rfl ?_)
 exact ⟨rfl, ⟨pPart p c 1, c - 1, hkw2, ((RowAt.tail hv3 hc).1), fun h0 => by rw [(RowAt.tail hv3 hc).2 h0]; exact hlt (by simp), by simp only [List.length_cons] at hc ⊢; omega, fun y hy => hx y (List.mem_cons_of_mem _ hy)⟩, hB4⟩
theorem rdr_word (r : Nat) (s : RS) (w : World) (h : Rdr w r s) :
  Calls Tryz.prog 92 #[.pointer (some ⟨r, 0, none⟩)] w fun e w' => e = .returned (.string (bs (rWord s).1)) ∧ Rdr w' r (rWord s).2 ∧ Touch w.heap.size r w w' := by
 obtain ⟨ws, bad⟩ := s
 cases ws with
 | nil => exact rdr_word0 r bad w h
 | cons x l => exact rdr_word1 r bad x l w h
theorem rWord_len {w : World} {r : Nat} {s : RS} (h : Rdr w r s) : (rWord s).1.length ≤ 2000000 := by
 obtain ⟨p, c, -, -, -, -, hx⟩ := h
 unfold rWord
 split
 ·
  simp
 ·
  rename_i x l e; exact hx x (by rw [e]; exact List.mem_cons_self ..)
/-- something is wrong -/
theorem Rdr.blk {w : World} {r : Nat} {s : RS} (h : Rdr w r s) : ∃ p c, Blk w r #[.slice p s.ws.length c, .bool s.bad] 129 ∧ ∀ (b : Bool) (w1 : World), Blk w1 r #[.slice p s.ws.length c, .bool b] 129 → Touch w.heap.size r w w1 → Rdr w1 r ⟨s.ws, b⟩ := by
 obtain ⟨p, c, hk, hr, hp, hc, hx⟩ := h
 exact ⟨p, c, hk, fun b w1 hk1 hT => ⟨p, c, hk1, hr.touch hT (fun h0 => ⟨hr.lt h0, Nat.ne_of_lt (hp h0)⟩), hp, hc, hx⟩⟩
theorem rdr_number (r : Nat) (s : RS) (w : World) (h : Rdr w r s) :
  Calls Tryz.prog 93 #[.pointer (some ⟨r, 0, none⟩)] w fun e w' => e = .returned (.int .i64 (rNum s).1) ∧ Rdr w' r (rNum s).2 ∧ Touch w.heap.size r w w' := by
 have hrl := h.lt
 refine W.enter func93 rfl ntmps93 (Nat.le_of_ble_eq_true rfl) ?_
 refine W.sr <| WL.z rfl rfl ?_
 refine W.sr <| WL.m rfl rfl <| WL.c1 hb92 rfl rfl ((rdr_word r s _ h)) (fun w1 hw1 => ?_)
 obtain ⟨hR1, hT1⟩ := hw1
 refine WL.z rfl rfl ?_
 refine W.sr <| WL.m rfl rfl <| WL.c1 hb114 rfl rfl ((dec_Parse _ _)) (fun w2 hw2 => ?_)
 have hR2 := hR1.below hw2 (by exact hR1.lt)
 have hT2 := Touch.trans hT1 (Touch.mono (Touch.of_below hw2) hT1.size)
 obtain ⟨p, c, hk, hset⟩ := hR2.blk
 have hTz := Touch.refl w2.heap.size r w2
 refine WL.m rfl rfl <| WL.p (.ext rfl rfl) rfl <| WL.p (.ext rfl rfl) rfl <| WL.a rfl rfl <| WL.z rfl rfl ?_
 refine W.sr <| WL.m rfl rfl <| WL.m rfl rfl <| WL.p (.nck rfl) rfl <| WL.p (.fa underlying129 rfl sizeOf4 dD rfl) rfl <| WL.r (Rd.ld (isAgg4 _) rfl hk rfl) rfl <| WL.m rfl rfl <| WL.gd rfl rfl rfl (fun g3 => ?_) (fun g3 => ?_)
 refine WL.m rfl rfl <| WL.gy rfl rfl rfl g3 <| WL.p (.not rfl) rfl <| WL.p (.pkF rfl g3 rfl) rfl <| WL.m rfl rfl <| WL.gd rfl rfl rfl (fun g4 => ?_) (fun g4 => ?_)
 have g4' := (nF g4)
 refine WL.m rfl rfl <| WL.gy rfl rfl rfl (by rw [(nF g4)] <;> rfl) <| WL.c1 hb121 rfl rfl ((dec_Print _ _)) (fun w5 hw5 => ?_)
 have hB3 := hw5
 have hk3 := hk.below hB3 hk.lt
 have hTz := Touch.trans hTz (Touch.of_below hB3)
 refine WL.gy rfl rfl rfl (by rw [(nF g4)] <;> rfl) <| WL.m rfl rfl <| WL.gy rfl rfl rfl (by rw [(nF g4)] <;> rfl) <| WL.p (.nes rfl rfl) rfl <| WL.p (.pkF rfl (by rw [(nF g4)] <;> rfl) rfl) rfl <| WL.p (.nck rfl) rfl <| WL.p (.fa underlying129 rfl sizeOf4 dD rfl) rfl <| WL.st sizeOf4 rfl rfl rfl hk3 oD (fun w6 hkw6 huw6 hsw6 => ?_)
 have hkw6 : Blk w6 r _ _ := hkw6
 have huw6 : Upd r _ _ := huw6
 refine WL.nil <| ?_
 refine W.sr <| WL.m rfl rfl <| WL.z rfl rfl ?_
 refine W.ret (W.ret1 rfl rfl ?_)
 have hTx := hTz.trans (Touch.of_upd huw6)
 have hTy := Touch.trans hT2 (Touch.mono hTx hT2.size)
 first
 | exact ⟨rfl, (show (rNum s).2 = ⟨(rWord s).2.ws, true⟩ by unfold rNum; simp_all) ▸ hset _ _ hkw6 hTx, hTy⟩
 | exact ⟨rfl, (show (rNum s).2 = ⟨(rWord s).2.ws, !decide (printL (norm (parseP (rWord s).1).1) = (rWord s).1)⟩ by unfold rNum; simp_all) ▸ hset _ _ hkw6 hTx, hTy⟩
 have g4' := (nT g4)
 refine WL.gn rfl rfl rfl (by rw [(nT g4)] <;> rfl) <| WL.gn rfl rfl rfl (by rw [(nT g4)] <;> rfl) <| WL.gn rfl rfl rfl (by rw [(nT g4)] <;> rfl) <| WL.p (.pkT rfl (by rw [(nT g4)] <;> rfl) rfl) rfl <| WL.p (.nck rfl) rfl <| WL.p (.fa underlying129 rfl sizeOf4 dD rfl) rfl <| WL.st sizeOf4 rfl rfl rfl hk oD (fun w7 hkw7 huw7 hsw7 => ?_)
 have hkw7 : Blk w7 r _ _ := hkw7
 have huw7 : Upd r _ _ := huw7
 refine WL.nil <| ?_
 refine W.sr <| WL.m rfl rfl <| WL.z rfl rfl ?_
 refine W.ret (W.ret1 rfl rfl ?_)
 have hTx := hTz.trans (Touch.of_upd huw7)
 have hTy := Touch.trans hT2 (Touch.mono hTx hT2.size)
 first
 | exact ⟨rfl, (show (rNum s).2 = ⟨(rWord s).2.ws, true⟩ by unfold rNum; simp_all) ▸ hset _ _ hkw7 hTx, hTy⟩
 | exact ⟨rfl, (show (rNum s).2 = ⟨(rWord s).2.ws, !decide (printL (norm (parseP (rWord s).1).1) = (rWord s).1)⟩ by unfold rNum; simp_all) ▸ hset _ _ hkw7 hTx, hTy⟩
 refine WL.gn rfl rfl rfl g3 <| WL.p (.pkT rfl g3 rfl) rfl <| WL.m rfl rfl <| WL.gn rfl rfl rfl rfl <| WL.gn rfl rfl rfl rfl <| WL.gn rfl rfl rfl rfl <| WL.gn rfl rfl rfl rfl <| WL.p (.pkT rfl rfl rfl) rfl <| WL.p (.nck rfl) rfl <| WL.p (.fa underlying129 rfl sizeOf4 dD rfl) rfl <| WL.st sizeOf4 rfl rfl rfl hk oD (fun w8 hkw8 huw8 hsw8 => ?_)
 have hkw8 : Blk w8 r _ _ := hkw8
 have huw8 : Upd r _ _ := huw8
 refine WL.nil <| ?_
 refine W.sr <| WL.m rfl rfl <| WL.z rfl rfl ?_
 refine W.ret (W.ret1 rfl rfl ?_)
 have hTx := hTz.trans (Touch.of_upd huw8)
 have hTy := Touch.trans hT2 (Touch.mono hTx hT2.size)
 first
 | exact ⟨rfl, (show (rNum s).2 = ⟨(rWord s).2.ws, true⟩ by unfold rNum; simp_all) ▸ hset _ _ hkw8 hTx, hTy⟩
 | exact ⟨rfl, (show (rNum s).2 = ⟨(rWord s).2.ws, !decide (printL (norm (parseP (rWord s).1).1) = (rWord s).1)⟩ by unfold rNum; simp_all) ▸ hset _ _ hkw8 hTx, hTy⟩
theorem rdr_numbers (r : Nat) (n : Int) (s : RS) (w : World) (h : Rdr w r s) (h0 : 0 ≤ n) (hn : n ≤ 1000) :
  Calls Tryz.prog 137 #[.pointer (some ⟨r, 0, none⟩), .int .i64 n] w fun e w' => ∃ v, e = .returned v ∧ Rdr w' r (rNums n.toNat s).2 ∧ OwnM intL 3 w.heap.size w' v (rNums n.toNat s).1 ∧ Touch w.heap.size r w w' := by
 have hrl := h.lt
 refine W.enter func137 rfl ntmps137 (Nat.le_of_ble_eq_true rfl) ?_
 refine W.sr <| WL.z rfl rfl ?_
 refine W.sr <| WL.z rfl rfl ?_
 refine W.seq <| W.sr <| WL.m rfl rfl <| WL.m rfl rfl <| WL.nil <| ?_
 refine W.block ?_
 refine W.loop (α := Nat × Value) (fun t => [(0, .pointer (some ⟨r, 0, none⟩)), (5, t.2), (6, .int .i64 n), (7, .int .i64 (t.1 : Int))]) (fun t w' => Rdr w' r (rNums t.1 s).2 ∧ OwnM intL 3 w.heap.size w' t.2 (rNums t.1 s).1 ∧ Touch w.heap.size r w w' ∧ t.1 ≤ n.toNat) (fun t => n.toNat - t.1) ((0, .slice none 0 0)) ⟨rfl, rfl, rfl, rfl, trivial⟩ (⟨h, OwnM.nil _ _ _ _, Touch.refl _ _ _, Nat.zero_le _⟩) (fun t w1 hR => ?_)
 obtain ⟨i, v⟩ := t
 obtain ⟨hR, ho, hT, hi⟩ := hR
 simp only at hR ho hT hi ⊢
 have hle := hT.size
 have hil := rNums_len i s
 refine W.sr <| WL.p (.lss rfl rfl) rfl <| WL.nil <| ?_
 refine W.seq <| W.cond rfl (fun h1 => ?_) (fun h1 => ?_)
 have h1' := dT h1
 have hin : i < n.toNat := by omega
 refine W.skip <| W.seq <| W.block <| W.reg <| WL.m rfl rfl <| WL.m rfl rfl <| WL.c1 hb93 rfl rfl ((rdr_number r _ _ hR)) (fun w2 hw2 => ?_)
 obtain ⟨hR1, hT1⟩ := hw2
 have ho1 := ho.touch' hT1 hrl
 have hle1 := Nat.le_trans hle hT1.size
 have hT2 := hT.trans (hT1.mono hle)
 have hrb1 := hR1.lt
 refine WL.bsl (ps := _) underlying82 sizeOf3 zeroValue3 rfl rfl rfl rfl rfl pR rfl (fun b3 wb3 eb3 hkb3 hub3 hsb3 => ?_)
 have hle5 := Nat.le_trans hle1 hub3.size
 have ho4 := OwnM.new ho1 eb3 hub3
 have hz12 := RowM.lit (l := [(rNum (rNums i s).2).1]) hkb3 (rfl)
 have hRz := hR1.below (Upd.below (Below.refl _ _) oO hub3) hR1.lt
 have hTz := hT2.trans (Touch.of_new hub3 oO)
 refine WL.appM underlying82 inf3 rfl rfl rfl ho4 rfl hz12 (by simp only [hil, List.length_cons, List.length_nil]; omega) (hle5) rfl (fun h => nomatch h) (fun v6 w7 how7 hbw7 hgw7 hfw7 => ?_)
 have hle8 := Nat.le_trans hle5 hbw7.size
 refine WL.z rfl rfl ?_
 refine W.reg <| WL.p (.iis (((i + 1 : Nat) : Int)) (.add rfl rfl (i64w oO)) oO) rfl <| WL.m rfl rfl <| WL.nil <| ?_
 exact ⟨(i + 1, v6), ⟨rfl, rfl, rfl, rfl, trivial⟩, ⟨hRz.below hbw7 hrl, how7, hTz.trans (Touch.of_below hbw7), by ((try simp only) <;> omega)⟩, by ((try simp only) <;> omega)⟩
 have h1' := dF h1
 refine W.exit <| W.sr <| WL.m rfl rfl <| WL.z rfl rfl ?_
 refine W.ret (W.ret1 rfl rfl ?_)
 obtain rfl : i = n.toNat := by omega
 exact ⟨_, rfl, hR, ho, hT⟩
end
section
section
variable {P : Program} {n : Sh} {f : Fr}
/-- one cell, at an address that is spelt otherwise -/
theorem WL.stC {ops : Array Oper} {Q : Exit → Fr → World → Prop} {w : World} {rest : List Oper} {ty : Nat} {pos : String} {aft : Array Edge} {t tb : TypeId} {x y : Operand} {p : Addr} {b o : Nat} {cs : Array Value} {v : Value} (new : Array Value)
  (hs : ∀ w, (sizeOf t).run P w = .ok 1 w) (hx : evo f x = some (.pointer (some p))) (hp : p = ⟨b, o, none⟩) (hy : evo f y = some v) (h1 : v.oneCell' = true) (hb : Blk w b cs tb) (ho : o < cs.size) (hn : cs.setIfInBounds o v = new)
  (k : ∀ w1, Blk w1 b new tb → Upd b w w1 → w1.heap.size = w.heap.size → WL P n ops Q rest f w1) : WL P n ops Q (⟨none, .store t x y, ty, pos, aft, none⟩ :: rest) f w := by
 subst hp
 exact WL.st hs hx hy h1 hb ho fun w1 hk hu hsz => k w1 (hn ▸ hk) hu hsz
/-- a struct or an array into the middle of a block -/
theorem WL.stB {ops : Array Oper} {Q : Exit → Fr → World → Prop} {w : World} {rest : List Oper} {ty : Nat} {pos : String} {aft : Array Edge} {t tb : TypeId} {x y : Operand} {p : Addr} {b o : Nat} {cs : Array Value} {vs : List Value} (new : Array Value)
  (hx : evo f x = some (.pointer (some p))) (hp : p = ⟨b, o, none⟩) (hy : evo f y = some (.agg vs.toArray)) (hb : Blk w b cs tb) (hi : (P.info? t).map (·.size) = some vs.length) (h1 : ones vs = true) (ho : o + vs.length ≤ cs.size) (hn : (cs.toList.take o ++ vs ++ cs.toList.drop (o + vs.length)).toArray = new)
  (k : ∀ w1, Blk w1 b new tb → Upd b w w1 → w1.heap.size = w.heap.size → WL P n ops Q rest f w1) : WL P n ops Q (⟨none, .store t x y, ty, pos, aft, none⟩ :: rest) f w := by
 subst hp
 have hst := run_storeCells_at P b o tb vs 0 cs w hb oO (ones_mem h1)
 simp only [Nat.add_zero] at hst
 have hlt := hb.lt
 refine WL.act (w' := w.setRow b (cs.toList.take o ++ vs ++ cs.toList.drop (o + vs.length)).toArray) (fun ρ hρ => ?_)
  (k _ (hn ▸ setRow_heap w b cs _ tb _ hb) (Upd.setRow _ _ _) (by simp [World.setRow]))
 cases hq : P.info? t with
 | none => simp [hq] at hi
 | some i =>
  have hs : i.size = vs.length := by simpa [hq] using hi
  unfold execOp
  simp [hρ _ _ hx, hρ _ _ hy, Instr.storeAt, Instr.sureAddr, storeVar, Sem.run_bind, sizeOf, typeInfo, hq, hs, Value.cells, hst]
end
end
section
theorem smallP_ok {most v : Int} {w : List UInt8} (h : Lib.atoiAll w = .ok v) : smallP most w = if 0 ≤ v ∧ v ≤ most ∧ decL v = w then some v else none := by unfold smallP; rw [h]
theorem smallP_no {most : Int} {w : List UInt8} (h : ∀ v, Lib.atoiAll w ≠ .ok v) : smallP most w = none := by
 unfold smallP
 cases hz : Lib.atoiAll w with
 | ok v => exact absurd hz (h v)
 | _ => rfl
theorem rSmall_no {most : Int} {s : RS} (h : smallP most (rWord s).1 = none) : rSmall most s = (0, ⟨(rWord s).2.ws, true⟩) := by unfold rSmall; rw [h]
theorem rSmall_yes {most v : Int} {s : RS} (h : smallP most (rWord s).1 = some v) : rSmall most s = (v, (rWord s).2) := by unfold rSmall; rw [h]
theorem lib_Atoi_ok (l : List UInt8) (v : Int) (hl : l.length ≤ 2000000) (h : Lib.atoiAll l = .ok v) (w : World) :
  Calls Tryz.prog 187 #[.string (bs l)] w fun e w' => e = .returned (.tuple #[.int .i64 v, .nilIface]) ∧ Below w.heap.size w w' := by
 refine (Tryz.strconv_Atoi_ok (bs l) (by rw [bs_size]; omega) v h w).mono ?_
 rintro e w' ⟨rfl, hw⟩
 refine ⟨rfl, ?_⟩
 rcases hw with rfl | ⟨t, rfl⟩
 ·
  exact Below.refl _ _
 ·
  exact Lib.bytesWorld_below _ _ _
theorem lib_Atoi_no (l : List UInt8) (hl : l.length ≤ 2000000) (h : ∀ v, Lib.atoiAll l ≠ .ok v) (w : World) (hE : Env w) :
  Calls Tryz.prog 187 #[.string (bs l)] w fun e w' => ∃ a : Int × Value, e = .returned (.tuple #[.int .i64 a.1, .iface 259 a.2]) ∧ Below w.heap.size w w' := by
 obtain ⟨t1, p1, h1⟩ := hE.es
 obtain ⟨t2, p2, h2⟩ := hE.er
 cases hz : Lib.atoiAll l with
 | ok v => exact absurd hz (h v)
 | range =>
  refine (Tryz.strconv_Atoi_range_var (bs l) (by rw [bs_size]; omega) hz t2 p2 w h2).mono ?_
  rintro e w' ⟨N, rfl, -, -, hb⟩
  exact ⟨(_, _), rfl, hb⟩
 | _ =>
  refine (Tryz.strconv_Atoi_syntax_var (bs l) (by rw [bs_size]; omega) hz t1 p1 w h1).mono ?_
  rintro e w' ⟨N, rfl, -, -, hb⟩
  exact ⟨(0, _), rfl, hb⟩
theorem rdr_small_ok (r : Nat) (most v : Int) (s : RS) (w : World) (h : Rdr w r s) (hE : ∀ w1, Below r w w1 → Env w1) (hm : most ≤ 2147483647) (ha : Lib.atoiAll (rWord s).1 = .ok v) :
    Calls Tryz.prog 136 #[.pointer (some ⟨r, 0, none⟩), .int .i64 most] w fun e w' => e = .returned (.int .i64 (rSmall most s).1) ∧ Rdr w' r (rSmall most s).2 ∧ Touch w.heap.size r w w' := by
  have hrl := h.lt
  have hwl := rWord_len h
  refine W.enter func136 rfl ntmps136 (Nat.le_of_ble_eq_true rfl) ?_
  refine W.sr <| WL.z rfl rfl ?_
  refine W.sr <| WL.m rfl rfl <| WL.c1 hb92 rfl rfl ((rdr_word r s _ h)) (fun w1 hw1 => ?_)
  obtain ⟨hR1, hT1⟩ := hw1
  refine WL.z rfl rfl ?_
  refine W.sr <| WL.m rfl rfl <| WL.c1 hb187 rfl rfl ((lib_Atoi_ok _ v hwl ha _)) (fun w2 hw2 => ?_)
  have hR2 := hR1.below hw2 hR1.lt
  have hT2 := Touch.trans hT1 (Touch.mono (Touch.of_below hw2) hT1.size)
  obtain ⟨p, c, hk, hset⟩ := hR2.blk
  have hTz := Touch.refl w2.heap.size r w2
  have hE2 := hE _ (hT2.below (Nat.le_of_lt hrl) (Nat.le_refl _))
  have hRz := hR2
  refine WL.m rfl rfl <| WL.p (.ext rfl rfl) rfl <| WL.p (.ext rfl rfl) rfl <| WL.a rfl rfl <| WL.z rfl rfl ?_
  refine W.seq <| W.sr <| WL.m rfl rfl <| WL.p (.neNil0 kR rfl) rfl <| WL.m rfl rfl <| WL.gy rfl rfl rfl rfl <| WL.m rfl rfl <| WL.gy rfl rfl rfl rfl <| WL.p (.lss rfl rfl) rfl <| WL.p (.pkF rfl rfl rfl) rfl <| WL.m rfl rfl <| WL.gd rfl rfl rfl (fun g3 => ?_) (fun g3 => ?_)
  · have g3' := dF g3
    refine WL.m rfl rfl <| WL.gy rfl rfl rfl g3 <| WL.m rfl rfl <| WL.gy rfl rfl rfl g3 <| WL.p (.gtr rfl rfl) rfl <| WL.p (.pkF rfl g3 rfl) rfl <| WL.m rfl rfl <| WL.gd rfl rfl rfl (fun g4 => ?_) (fun g4 => ?_)
    · have g4' := dF g4
      refine WL.m rfl rfl <| WL.gy rfl rfl rfl g4 <| WL.c1 hb179 rfl rfl ((lib_Itoa v oO oO _ hE2)) (fun w5 hw5 => ?_)
      have hB3 := hw5
      have hk3 := hk.below hB3 hk.lt
      have hTz := Touch.trans hTz (Touch.of_below hB3)
      have hRz := hR2.below hB3 hR2.lt
      refine WL.gy rfl rfl rfl g4 <| WL.m rfl rfl <| WL.gy rfl rfl rfl g4 <| WL.p (.nes rfl rfl) rfl <| WL.p (.pkF rfl g4 rfl) rfl <| WL.nil <| ?_
      refine W.cond rfl (fun h6 => ?_) (fun h6 => ?_)
      · have h6' := ndT h6
        refine W.sr <| WL.m rfl rfl <| WL.p (.nck rfl) rfl <| WL.p (.fa underlying129 rfl sizeOf4 dD rfl) rfl <| WL.st sizeOf4 rfl rfl rfl hk3 oD (fun w7 hkw7 huw7 hsw7 => ?_)
        have hkw7 : Blk w7 r _ _ := hkw7
        have huw7 : Upd r _ _ := huw7
        refine WL.nil <| ?_
        refine W.sr <| WL.z rfl rfl ?_
        refine W.ret (W.ret1 rfl rfl ?_)
        first
        | (have hTx := hTz.trans (Touch.of_upd huw7)
           have hTy := Touch.trans hT2 (Touch.mono hTx hT2.size)
           have hno : smallP most (rWord s).1 = none := (smallP_ok ha).trans (if_neg (by first | omega | exact fun hh => absurd hh.2.2 aS))
           exact ⟨by rw [rSmall_no hno], by rw [rSmall_no hno]; exact hset _ _ hkw7 hTx, hTy⟩)
        | (have hTy := Touch.trans hT2 (Touch.mono hTz hT2.size)
           have hye : smallP most (rWord s).1 = some v := (smallP_ok ha).trans (if_pos ⟨by omega, by omega, by assumption⟩)
           exact ⟨by rw [rSmall_yes hye]; rfl, by rw [rSmall_yes hye]; exact hRz, hTy⟩)
      have h6' := ndF h6
      refine W.skip <| W.sr <| WL.m rfl rfl <| WL.z rfl rfl ?_
      refine W.ret (W.ret1 rfl rfl ?_)
      first
      | (have hTx := hTz.trans (Touch.of_upd huw5)
         have hTy := Touch.trans hT2 (Touch.mono hTx hT2.size)
         have hno : smallP most (rWord s).1 = none := (smallP_ok ha).trans (if_neg (by first | omega | exact fun hh => absurd hh.2.2 aS))
         exact ⟨by rw [rSmall_no hno], by rw [rSmall_no hno]; exact hset _ _ hk3 hTx, hTy⟩)
      | (have hTy := Touch.trans hT2 (Touch.mono hTz hT2.size)
         have hye : smallP most (rWord s).1 = some v := (smallP_ok ha).trans (if_pos ⟨by omega, by omega, by assumption⟩)
         exact ⟨by rw [rSmall_yes hye]; rfl, by rw [rSmall_yes hye]; exact hRz, hTy⟩)
    have g4' := dT g4
    refine WL.gn rfl rfl rfl g4 <| WL.gn rfl rfl rfl g4 <| WL.gn rfl rfl rfl g4 <| WL.p (.pkT rfl g4 rfl) rfl <| WL.nil <| ?_
    refine W.condT rfl rfl ?_
    refine W.sr <| WL.m rfl rfl <| WL.p (.nck rfl) rfl <| WL.p (.fa underlying129 rfl sizeOf4 dD rfl) rfl <| WL.st sizeOf4 rfl rfl rfl hk oD (fun w8 hkw8 huw8 hsw8 => ?_)
    have hkw8 : Blk w8 r _ _ := hkw8
    have huw8 : Upd r _ _ := huw8
    refine WL.nil <| ?_
    refine W.sr <| WL.z rfl rfl ?_
    refine W.ret (W.ret1 rfl rfl ?_)
    first
    | (have hTx := hTz.trans (Touch.of_upd huw8)
       have hTy := Touch.trans hT2 (Touch.mono hTx hT2.size)
       have hno : smallP most (rWord s).1 = none := (smallP_ok ha).trans (if_neg (by first | omega | exact fun hh => absurd hh.2.2 aS))
       exact ⟨by rw [rSmall_no hno], by rw [rSmall_no hno]; exact hset _ _ hkw8 hTx, hTy⟩)
    | (have hTy := Touch.trans hT2 (Touch.mono hTz hT2.size)
       have hye : smallP most (rWord s).1 = some v := (smallP_ok ha).trans (if_pos ⟨by omega, by omega, by assumption⟩)
       exact ⟨by rw [rSmall_yes hye]; rfl, by rw [rSmall_yes hye]; exact hRz, hTy⟩)
  have g3' := dT g3
  refine WL.gn rfl rfl rfl g3 <| WL.gn rfl rfl rfl g3 <| WL.p (.pkT rfl g3 rfl) rfl <| WL.m rfl rfl <| WL.gn rfl rfl rfl rfl <| WL.gn rfl rfl rfl rfl <| WL.gn rfl rfl rfl rfl <| WL.gn rfl rfl rfl rfl <| WL.p (.pkT rfl rfl rfl) rfl <| WL.nil <| ?_
  refine W.condT rfl rfl ?_
  refine W.sr <| WL.m rfl rfl <| WL.p (.nck rfl) rfl <| WL.p (.fa underlying129 rfl sizeOf4 dD rfl) rfl <| WL.st sizeOf4 rfl rfl rfl hk oD (fun w9 hkw9 huw9 hsw9 => ?_)
  have hkw9 : Blk w9 r _ _ := hkw9
  have huw9 : Upd r _ _ := huw9
  refine WL.nil <| ?_
  refine W.sr <| WL.z rfl rfl ?_
  refine W.ret (W.ret1 rfl rfl ?_)
  first
  | (have hTx := hTz.trans (Touch.of_upd huw9)
     have hTy := Touch.trans hT2 (Touch.mono hTx hT2.size)
     have hno : smallP most (rWord s).1 = none := (smallP_ok ha).trans (if_neg (by first | omega | exact fun hh => absurd hh.2.2 aS))
     exact ⟨by rw [rSmall_no hno], by rw [rSmall_no hno]; exact hset _ _ hkw9 hTx, hTy⟩)
  | (have hTy := Touch.trans hT2 (Touch.mono hTz hT2.size)
     have hye : smallP most (rWord s).1 = some v := (smallP_ok ha).trans (if_pos ⟨by omega, by omega, by assumption⟩)
     exact ⟨by rw [rSmall_yes hye]; rfl, by rw [rSmall_yes hye]; exact hRz, hTy⟩)
theorem rdr_small_no (r : Nat) (most : Int) (s : RS) (w : World) (h : Rdr w r s) (hE : ∀ w1, Below r w w1 → Env w1) (ha : ∀ v, Lib.atoiAll (rWord s).1 ≠ .ok v) :
  Calls Tryz.prog 136 #[.pointer (some ⟨r, 0, none⟩), .int .i64 most] w fun e w' => e = .returned (.int .i64 (rSmall most s).1) ∧ Rdr w' r (rSmall most s).2 ∧ Touch w.heap.size r w w' := by
 have hrl := h.lt
 have hwl := rWord_len h
 refine W.enter func136 rfl ntmps136 (Nat.le_of_ble_eq_true rfl) ?_
 refine W.sr <| WL.z rfl rfl ?_
 refine W.sr <| WL.m rfl rfl <| WL.c1 hb92 rfl rfl ((rdr_word r s _ h)) (fun w1 hw1 => ?_)
 obtain ⟨hR1, hT1⟩ := hw1
 have hE1 := hE _ (hT1.below (Nat.le_of_lt hrl) (Nat.le_refl _))
 refine WL.z rfl rfl ?_
 refine W.sr <| WL.m rfl rfl <| WL.call hb187 rfl rfl ((lib_Atoi_no _ hwl ha _ hE1)) (fun a w2 hw2 => ?_)
 have hR2 := hR1.below hw2 hR1.lt
 have hT2 := Touch.trans hT1 (Touch.mono (Touch.of_below hw2) hT1.size)
 obtain ⟨p, c, hk, hset⟩ := hR2.blk
 have hTz := Touch.refl w2.heap.size r w2
 refine WL.m rfl rfl <| WL.p (.ext rfl rfl) rfl <| WL.p (.ext rfl rfl) rfl <| WL.a rfl rfl <| WL.z rfl rfl ?_
 refine W.seq <| W.sr <| WL.m rfl rfl <| WL.p (.neNil kR rfl) rfl <| WL.m rfl rfl <| WL.gn rfl rfl rfl rfl <| WL.gn rfl rfl rfl rfl <| WL.p (.pkT rfl rfl rfl) rfl <| WL.m rfl rfl <| WL.gn rfl rfl rfl rfl <| WL.gn rfl rfl rfl rfl <| WL.gn rfl rfl rfl rfl <| WL.p (.pkT rfl rfl rfl) rfl <| WL.m rfl rfl <| WL.gn rfl rfl rfl rfl <| WL.gn rfl rfl rfl rfl <| WL.gn rfl rfl rfl rfl <| WL.gn rfl rfl rfl rfl <| WL.p (.pkT rfl rfl rfl) rfl <| WL.nil <| ?_
 refine W.condT rfl rfl ?_
 refine W.sr <| WL.m rfl rfl <| WL.p (.nck rfl) rfl <| WL.p (.fa underlying129 rfl sizeOf4 dD rfl) rfl <| WL.st sizeOf4 rfl rfl rfl hk oD (fun w3 hkw3 huw3 hsw3 => ?_)
 have hkw3 : Blk w3 r _ _ := hkw3
 have huw3 : Upd r _ _ := huw3
 refine WL.nil <| ?_
 refine W.sr <| WL.z rfl rfl ?_
 refine W.ret (W.ret1 rfl rfl ?_)
 have hTx := hTz.trans (Touch.of_upd huw3)
 have hTy := Touch.trans hT2 (Touch.mono hTx hT2.size)
 have hno : smallP most (rWord s).1 = none := smallP_no ha
 exact ⟨by rw [rSmall_no hno], by rw [rSmall_no hno]; exact hset _ _ hkw3 hTx, hTy⟩
theorem rdr_small (r : Nat) (most : Int) (s : RS) (w : World) (h : Rdr w r s) (hE : ∀ w1, Below r w w1 → Env w1) (hm : most ≤ 2147483647) :
  Calls Tryz.prog 136 #[.pointer (some ⟨r, 0, none⟩), .int .i64 most] w fun e w' => e = .returned (.int .i64 (rSmall most s).1) ∧ Rdr w' r (rSmall most s).2 ∧ Touch w.heap.size r w w' := by
 cases hz : Lib.atoiAll (rWord s).1 with
 | ok v => exact rdr_small_ok r most v s w h hE hm hz
 | _ => exact rdr_small_no r most s w h hE (fun v e => by rw [hz] at e; cases e)
theorem color_set (k n : Int) : ∀ xs : List Int, xs.length < 4 → (colorV (colorOf k xs)).toArray.setIfInBounds (1 + xs.length) (.int .i64 n) = (colorV (colorOf k (xs ++ [n]))).toArray
 | [], _ => rfl
 | [_], _ => rfl
 | [_, _], _ => rfl
 | [_, _, _], _ => rfl
 | _ :: _ :: _ :: _ :: l, h => by simp only [List.length_cons] at h; omega
theorem rdr_color (r : Nat) (s : RS) (w : World) (h : Rdr w r s) (hE : ∀ w1, Below r w w1 → Env w1) :
  Calls Tryz.prog 134 #[.pointer (some ⟨r, 0, none⟩)] w fun e w' => e = .returned (.agg (colorV (rColor s).1).toArray) ∧ Rdr w' r (rColor s).2 ∧ Touch w.heap.size r w w' := by
 have hrl := h.lt
 have hk4 := rSmall_le 4 s dD
 generalize hz : rSmall 4 s = z at hk4
 refine W.enter func134 rfl ntmps134 (Nat.le_of_ble_eq_true rfl) ?_
 refine W.sr <| WL.alloc zeroValue80 rfl (fun b1 wb1 eb1 hkb1 hub1 hsb1 => ?_)
 refine WL.nil <| ?_
 refine W.sr <| WL.m rfl rfl <| WL.c1 hb136 rfl rfl ((rdr_small r 4 s _ (h.below (Upd.below (Below.refl w.heap.size _) oO hub1) hrl) (fun w1 hb => hE _ (Below.trans (Upd.below (Below.refl r _) oO hub1) hb)) dD)) (fun w2 hw2 => ?_)
 obtain ⟨hR1, hT1⟩ := hw2
 rw [hz] at hR1
 have hT1b := Touch.trans (Touch.of_new (r := r) hub1 (Nat.le_of_eq eb1.symm)) (hT1.mono oO)
 have hk1 := (hkb1).touch hT1 oO oO
 refine WL.p (.fa underlying80 rfl sizeOf3 dD rfl) rfl <| WL.stC (o := 0) ((colorV (colorOf z.1 [])).toArray) sizeOf3 rfl (rfl) rfl (rfl) hk1 (Nat.le_of_ble_eq_true rfl) (by rw [← hz]; rfl) (fun w3 hkw3 huw3 hsw3 => ?_)
 have hkw3 : Blk w3 b1 _ _ := hkw3
 have huw3 : Upd b1 _ _ := huw3
 have hT2 := hT1b.trans (Touch.of_new huw3 (Nat.le_of_eq eb1.symm))
 have hR2 := hR1.below (Upd.below (Below.refl b1 _) (Nat.le_refl _) huw3) oO
 refine WL.nil <| ?_
 refine W.seq <| W.sr <| WL.p (.fa underlying80 rfl sizeOf3 dD rfl) rfl <| WL.r (Rd.ld (isAgg3 _) rfl hkw3 rfl) rfl <| WL.m rfl rfl <| WL.nil <| ?_
 refine W.block ?_
 refine W.loop (α := Nat) (fun t => [(0, .pointer (some ⟨r, 0, none⟩)), (2, .pointer (some ⟨b1, 0, none⟩)), (8, .int .i64 z.1), (9, .int .i64 (t : Int))]) (fun t w' => Rdr w' r (rNums t z.2).2 ∧ Blk w' b1 (colorV (colorOf z.1 (rNums t z.2).1)).toArray 80 ∧ Touch w.heap.size r w w' ∧ t ≤ z.1.toNat) (fun t => z.1.toNat - t) (0) ⟨rfl, rfl, rfl, rfl, trivial⟩ (⟨hR2, hkw3, hT2, Nat.zero_le _⟩) (fun t w1 hR => ?_)
 obtain ⟨i, rfl⟩ : ∃ i, i = t := ⟨t, rfl⟩
 obtain ⟨hR, hkb, hT, hi⟩ := hR
 have hil := rNums_len i z.2
 have hbl := hkb.lt
 refine W.sr <| WL.p (.lss rfl rfl) rfl <| WL.nil <| ?_
 refine W.seq <| W.cond rfl (fun h4 => ?_) (fun h4 => ?_)
 have h4' := dT h4
 have hin : i < z.1.toNat := by omega
 refine W.skip <| W.seq <| W.block <| W.sr <| WL.m rfl rfl <| WL.z rfl rfl ?_
 refine W.reg <| WL.m rfl rfl <| WL.m rfl rfl <| WL.c1 hb93 rfl rfl ((rdr_number r _ _ hR)) (fun w5 hw5 => ?_)
 obtain ⟨hR3, hT3⟩ := hw5
 have hT4 := hT.trans (hT3.mono hT.size)
 have hk3 := hkb.touch hT3 hbl oO
 refine WL.p (.fa underlying80 rfl sizeOf78 dD rfl) rfl <| WL.p (.ixr1 underlying78 sizeOf3 rfl rfl (i) (rfl) oO) rfl <| WL.stC (o := 1 + i) ((colorV (colorOf z.1 (rNums (i + 1) z.2).1)).toArray) sizeOf3 rfl (add_lit _ _ _) rfl (rfl) hk3 ((by show 1 + i < 5; omega)) ((by have e := color_set z.1 (rNum (rNums i z.2).2).1 (rNums i z.2).1 oO; rw [hil] at e; exact e)) (fun w6 hkw6 huw6 hsw6 => ?_)
 have hkw6 : Blk w6 b1 _ _ := hkw6
 have huw6 : Upd b1 _ _ := huw6
 have hT5 := hT4.trans (Touch.of_new huw6 oO)
 have hR5 := hR3.below (Upd.below (Below.refl b1 _) (Nat.le_refl _) huw6) oO
 refine WL.nil <| ?_
 refine W.reg <| WL.p (.iis (((i + 1 : Nat) : Int)) (.add rfl rfl (i64w oO)) oO) rfl <| WL.m rfl rfl <| WL.nil <| ?_
 exact ⟨i + 1, ⟨rfl, rfl, rfl, rfl, trivial⟩, ⟨hR5, hkw6, hT5, by ((try simp only) <;> omega)⟩, by ((try simp only) <;> omega)⟩
 have h4' := dF h4
 obtain rfl : i = z.1.toNat := by omega
 refine W.exit <| W.sr <| WL.r (Rd.ldA rfl hkb underlying80 rfl isz80) rfl <| WL.stL rfl rfl hkb isz80 rfl rfl (fun w7 hkw7 huw7 hsw7 => ?_)
 have hTf := hT.trans (Touch.of_new huw7 oO)
 have hRf := hR.below (Upd.below (Below.refl b1 _) (Nat.le_refl _) huw7) oO
 refine WL.nil <| ?_
 refine W.ret (W.retc1 rfl rfl (ldRow hkw7 underlying80 rfl isz80)  ?_)
 unfold rColor
 rw [hz]
 exact ⟨rfl, hRf, hTf⟩
theorem rdr_point (r : Nat) (s : RS) (w : World) (h : Rdr w r s) :
  Calls Tryz.prog 133 #[.pointer (some ⟨r, 0, none⟩)] w fun e w' => e = .returned (.agg (pointV (rPoint s).1).toArray) ∧ Rdr w' r (rPoint s).2 ∧ Touch w.heap.size r w w' := by
 have hrl := h.lt
 refine W.enter func133 rfl ntmps133 (Nat.le_of_ble_eq_true rfl) ?_
 refine W.sr <| WL.alloc zeroValue167 rfl (fun b1 wb1 eb1 hkb1 hub1 hsb1 => ?_)
 refine WL.nil <| ?_
 refine W.sr <| WL.m rfl rfl <| WL.c1 hb93 rfl rfl ((rdr_number r s _ (h.below (Upd.below (Below.refl w.heap.size _) oO hub1) hrl))) (fun w2 hw2 => ?_)
 obtain ⟨hR1, hT1⟩ := hw2
 have hT1b := Touch.trans (Touch.of_new (r := r) hub1 (Nat.le_of_eq eb1.symm)) (hT1.mono oO)
 have hk1 := (hkb1).touch hT1 oO oO
 refine WL.z rfl rfl ?_
 refine W.sr <| WL.m rfl rfl <| WL.m rfl rfl <| WL.c1 hb93 rfl rfl ((rdr_number r _ _ hR1)) (fun w3 hw3 => ?_)
 obtain ⟨hR2, hT2⟩ := hw3
 have hT2b := hT1b.trans (hT2.mono hT1b.size)
 have hk2 := hk1.touch hT2 hk1.lt oO
 refine WL.p (.buildL (ps := _) blt167 rfl rfl rfl pS) rfl ?_
 refine WL.stL rfl rfl hk2 isz167 rfl rfl (fun w4 hkw4 huw4 hsw4 => ?_)
 have hTf := hT2b.trans (Touch.of_new huw4 oO)
 have hRf := hR2.below (Upd.below (Below.refl b1 _) (Nat.le_refl _) huw4) oO
 refine WL.nil <| ?_
 refine W.ret (W.retc1 rfl rfl (ldRow hkw4 underlying167 rfl isz167)  ?_)
 exact ⟨rfl, hRf, hTf⟩
end
section
theorem rSeg_some {s : RS} {k : Int} {n : Nat} (h : segOf (rWord s).1 = some (k, n)) : rSeg s = (ptsOf k (rPts n (rWord s).2).1, (rPts n (rWord s).2).2) := by unfold rSeg; rw [h]
theorem rSeg_none {s : RS} (h : segOf (rWord s).1 = none) : rSeg s = (ptsOf 0 [], ⟨(rWord s).2.ws, true⟩) := by unfold rSeg; rw [h]
theorem seg_set (k : Int) (q : PointV) : ∀ xs : List PointV, xs.length < 3 → ((segV (ptsOf k xs)).toArray.toList.take (1 + xs.length * 2) ++ pointV q ++ (segV (ptsOf k xs)).toArray.toList.drop (1 + xs.length * 2 + (pointV q).length)).toArray = (segV (ptsOf k (xs ++ [q]))).toArray
 | [], _ => rfl
 | [_], _ => rfl
 | [_, _], _ => rfl
 | _ :: _ :: _ :: l, h => by simp only [List.length_cons] at h; omega
theorem path_step {s s1 : RS} {acc : List SegV} (h : rPath s = (acc ++ (rPath s1).1, (rPath s1).2)) (hgo : s1.ws ≠ [] ∧ s1.bad = false) : rPath s = (acc ++ [(rSeg s1).1] ++ (rPath (rSeg s1).2).1, (rPath (rSeg s1).2).2) := by
 rw [h, rPath_go hgo]; simp
theorem inf170 : (Tryz.prog.info? 170).map (fun i => (i.zero, i.size, i.bytes)) = some (some (.agg #[.int .i64 0, .int .i64 0, .int .i64 0, .int .i64 0, .int .i64 0, .int .i64 0, .int .i64 0]), 7, 56) := by kernel_rfl
set_option maxHeartbeats 1600000 in
theorem rdr_path (r : Nat) (s : RS) (w : World) (h : Rdr w r s) (hs : s.ws.length ≤ 9000000) :
  Calls Tryz.prog 94 #[.pointer (some ⟨r, 0, none⟩)] w fun e w' => ∃ v, e = .returned v ∧ Rdr w' r (rPath s).2 ∧ OwnM segL 170 w.heap.size w' v (rPath s).1 ∧ Touch w.heap.size r w w' := by
 have hrl := h.lt
 refine W.enter func94 rfl ntmps94 (Nat.le_of_ble_eq_true rfl) ?_
 refine W.sr <| WL.z rfl rfl ?_
 refine W.seq <| W.block ?_
 refine W.loop (α := List SegV × RS × Value) (fun t => [(0, .pointer (some ⟨r, 0, none⟩)), (2, t.2.2)]) (fun t w' => Rdr w' r t.2.1 ∧ OwnM segL 170 w.heap.size w' t.2.2 t.1 ∧ Touch w.heap.size r w w' ∧ rPath s = (t.1 ++ (rPath t.2.1).1, (rPath t.2.1).2) ∧ t.1.length + t.2.1.ws.length ≤ s.ws.length) (fun t => t.2.1.ws.length) (([], s, .slice none 0 0)) ⟨rfl, rfl, trivial⟩ (⟨h, OwnM.nil _ _ _ _, Touch.refl _ _ _, by simp, by simp⟩) (fun t w1 hR => ?_)
 obtain ⟨acc, s1, v⟩ := t
 obtain ⟨hR, ho, hT, hP, hln⟩ := hR
 simp only at hR ho hT hP hln ⊢
 obtain ⟨p, c, hk, hset⟩ := hR.blk
 have hle := hT.size
 refine W.seq ?_
 refine W.cutB 17 (decide (0 < s1.ws.length) && !s1.bad) ?_ ?_
 refine W.reg <| WL.m rfl rfl <| WL.p (.nck rfl) rfl <| WL.p (.fa underlying129 rfl sizeOf28 dD rfl) rfl <| WL.r (Rd.ld (isAgg28 _) rfl hk rfl) rfl <| WL.p (.lenS underlying28 rfl) rfl <| WL.p (.gtr rfl rfl) rfl <| WL.m rfl rfl <| WL.gd rfl rfl rfl (fun g1 => ?_) (fun g1 => ?_)
 have g1' := dT g1
 refine WL.m rfl rfl <| WL.gy rfl rfl rfl g1 <| WL.p (.nck rfl) rfl <| WL.gy rfl rfl rfl g1 <| WL.p (.fa underlying129 rfl sizeOf4 dD rfl) rfl <| WL.gy rfl rfl rfl g1 <| WL.r (Rd.ld (isAgg4 _) rfl hk rfl) rfl <| WL.gy rfl rfl rfl g1 <| WL.p (.not rfl) rfl <| WL.p (.pkT rfl g1 rfl) rfl <| WL.nil <| ?_
 exact ⟨leE (lk_b rfl (by first | (simp_all; done) | (simp_all <;> omega))), rfl⟩
 have g1' := dF g1
 refine WL.gn rfl rfl rfl g1 <| WL.gn rfl rfl rfl g1 <| WL.gn rfl rfl rfl g1 <| WL.gn rfl rfl rfl g1 <| WL.p (.pkF rfl g1 rfl) rfl <| WL.nil <| ?_
 exact ⟨leE (lk_b rfl (by first | (simp_all; done) | (simp_all <;> omega))), rfl⟩
 refine W.cond rfl (fun h2 => ?_) (fun h2 => ?_)
 have hgo : s1.ws ≠ [] ∧ s1.bad = false := by
  have h17 : (decide (0 < s1.ws.length) && !s1.bad) = true := by assumption
  simp only [Bool.and_eq_true, decide_eq_true_eq, Bool.not_eq_true'] at h17
  exact ⟨List.length_pos_iff.1 h17.1, h17.2⟩
 have hPs := path_step hP hgo
 have hws := rSeg_ws s1 hgo.1
 refine W.skip <| W.block <| W.sr <| WL.alloc zeroValue170 rfl (fun b3 wb3 eb3 hkb3 hub3 hsb3 => ?_)
 have hl5 : r < b3 := by rw [eb3]; exact hk.lt
 have hk4 := hk.upd hub3 (Nat.ne_of_lt hl5)
 refine WL.nil <| ?_
 refine W.seq <| W.sr <| WL.m rfl rfl <| WL.c1 hb92 rfl rfl ((rdr_word r s1 _ (hR.below (Upd.below (Below.refl _ _) (Nat.le_of_eq eb3.symm) hub3) hR.lt))) (fun w6 hw6 => ?_)
 obtain ⟨hR1, hT1⟩ := hw6
 have hb3 : w.heap.size ≤ b3 := by omega
 have hT1b := hT.trans ((Touch.of_new (r := r) hub3 hb3).trans (hT1.mono oO))
 have hk3 := (hkb3).touch hT1 oO oO
 have ho1 := (ho.new eb3 hub3).touch' hT1 hrl
 have ho3ne : ∀ g, v.ownBlock = some g → g < b3 := fun g hg => by have := (ho.lt g hg).2; omega
 refine WL.nil <| ?_
 refine W.block <| W.sr <| WL.p (.eqs rfl rfl) rfl <| WL.z rfl rfl ?_
 refine W.cond rfl (fun h7 => ?_) (fun h7 => ?_)
 have h7' := dT h7
 have hsg := rSeg_some (s := s1) (k := 1) (n := 1) (by unfold segOf; rw [if_pos aS])
 refine W.reg <| WL.m rfl rfl <| WL.c1 hb133 rfl rfl ((rdr_point r _ _ hR1)) (fun w8 hw8 => ?_)
 obtain ⟨hR2, hT2⟩ := hw8
 have hT3 := hT1b.trans (hT2.mono hT1b.size)
 have hk4 := hk3.touch hT2 hk3.lt oO
 have ho2 := ho1.touch' hT2 hrl
 refine WL.p (.fa underlying170 rfl sizeOf3 dD rfl) rfl <| WL.stC (o := 0) ((segV (ptsOf 1 [])).toArray) sizeOf3 rfl (rfl) rfl (rfl) hk4 (Nat.le_of_ble_eq_true rfl) (rfl) (fun w9 hkw9 huw9 hsw9 => ?_)
 have hkw9 : Blk w9 b3 _ _ := hkw9
 have huw9 : Upd b3 _ _ := huw9
 have hT3 := hT3.trans (Touch.of_new huw9 oO)
 have hR2 := hR2.below (Upd.below (Below.refl w.heap.size _) oO huw9) hrl
 have ho2 := ho2.upd huw9 (fun g hg => by have := ho3ne g hg; omega)
 refine WL.p (.fa underlying170 rfl sizeOf168 dD rfl) rfl <| WL.p (.ixr underlying168 sizeOf167 rfl rfl 0 rfl oO) rfl <| WL.stB (o := 1 + 0 * 2) ((segV (ptsOf 1 (rPts 1 (rWord s1).2).1)).toArray) rfl (add_lit _ _ _) rfl hkw9 isz167 rfl (Nat.le_of_ble_eq_true rfl) (rfl) (fun w10 hkw10 huw10 hsw10 => ?_)
 have hkw10 : Blk w10 b3 _ _ := hkw10
 have huw10 : Upd b3 _ _ := huw10
 have hT3 := hT3.trans (Touch.of_new huw10 oO)
 have hR2 := hR2.below (Upd.below (Below.refl w.heap.size _) oO huw10) hrl
 have ho2 := ho2.upd huw10 (fun g hg => by have := ho3ne g hg; omega)
 refine WL.nil <| ?_
 have hkf : Blk w10 b3 (segV (rSeg s1).1).toArray 170 := by rw [hsg]; exact hkw10
 have hRf : Rdr w10 r (rSeg s1).2 := by rw [hsg]; exact hR2
 have hle3 := hT3.size
 refine W.reg <| WL.m rfl rfl <| WL.r (Rd.ldA rfl hkf underlying170 rfl isz170) rfl <| WL.bslM (L := segL) (ps := _) ([(rSeg s1).1]) underlying77 sizeOf170 zeroValue170 rfl rfl rfl rfl rfl (by first | rfl | decide) rfl rfl (fun b11 wb11 eb11 hob11 hub11 hsb11 => ?_)
 have hle13 := Nat.le_trans hle3 hub11.size
 have ho12 := OwnM.new ho2 eb11 hub11
 have hl15 : b3 < b11 := by rw [eb11]; exact hkf.lt
 have hleb11 : b11 ≤ wb11.heap.size := by omega
 have hTa := hT3.trans (Touch.of_new hub11 oO)
 have hRa := hRf.below (Upd.below (Below.refl w.heap.size _) oO hub11) hrl
 refine WL.appM underlying77 inf170 rfl rfl rfl ho12 rfl (hob11).rowp (by simp only [List.length_cons, List.length_nil]; omega) (hle13) rfl (fun h => nomatch h) (fun v16 w17 how17 hbw17 hgw17 hfw17 => ?_)
 have hle19 := Nat.le_trans hle13 hbw17.size
 refine WL.z rfl rfl ?_
 exact ⟨(acc ++ [(rSeg s1).1], (rSeg s1).2, v16), ⟨rfl, rfl, trivial⟩, ⟨hRa.below hbw17 hrl, how17, hTa.trans (Touch.of_below hbw17), hPs, by simp only [List.length_append, List.length_cons, List.length_nil]; omega⟩, by ((try simp only) <;> omega)⟩
 have h7' := dF h7
 refine W.sr <| WL.p (.eqs rfl rfl) rfl <| WL.z rfl rfl ?_
 refine W.cond rfl (fun h20 => ?_) (fun h20 => ?_)
 have h20' := dT h20
 have hsg := rSeg_some (s := s1) (k := 2) (n := 1) (by unfold segOf; rw [if_neg aS, if_pos aS])
 refine W.reg <| WL.m rfl rfl <| WL.c1 hb133 rfl rfl ((rdr_point r _ _ hR1)) (fun w21 hw21 => ?_)
 obtain ⟨hR2, hT2⟩ := hw21
 have hT3 := hT1b.trans (hT2.mono hT1b.size)
 have hk4 := hk3.touch hT2 hk3.lt oO
 have ho2 := ho1.touch' hT2 hrl
 refine WL.p (.fa underlying170 rfl sizeOf3 dD rfl) rfl <| WL.stC (o := 0) ((segV (ptsOf 2 [])).toArray) sizeOf3 rfl (rfl) rfl (rfl) hk4 (Nat.le_of_ble_eq_true rfl) (rfl) (fun w22 hkw22 huw22 hsw22 => ?_)
 have hkw22 : Blk w22 b3 _ _ := hkw22
 have huw22 : Upd b3 _ _ := huw22
 have hT3 := hT3.trans (Touch.of_new huw22 oO)
 have hR2 := hR2.below (Upd.below (Below.refl w.heap.size _) oO huw22) hrl
 have ho2 := ho2.upd huw22 (fun g hg => by have := ho3ne g hg; omega)
 refine WL.p (.fa underlying170 rfl sizeOf168 dD rfl) rfl <| WL.p (.ixr underlying168 sizeOf167 rfl rfl 0 rfl oO) rfl <| WL.stB (o := 1 + 0 * 2) ((segV (ptsOf 2 (rPts 1 (rWord s1).2).1)).toArray) rfl (add_lit _ _ _) rfl hkw22 isz167 rfl (Nat.le_of_ble_eq_true rfl) (rfl) (fun w23 hkw23 huw23 hsw23 => ?_)
 have hkw23 : Blk w23 b3 _ _ := hkw23
 have huw23 : Upd b3 _ _ := huw23
 have hT3 := hT3.trans (Touch.of_new huw23 oO)
 have hR2 := hR2.below (Upd.below (Below.refl w.heap.size _) oO huw23) hrl
 have ho2 := ho2.upd huw23 (fun g hg => by have := ho3ne g hg; omega)
 refine WL.nil <| ?_
 have hkf : Blk w23 b3 (segV (rSeg s1).1).toArray 170 := by rw [hsg]; exact hkw23
 have hRf : Rdr w23 r (rSeg s1).2 := by rw [hsg]; exact hR2
 have hle3 := hT3.size
 refine W.reg <| WL.m rfl rfl <| WL.r (Rd.ldA rfl hkf underlying170 rfl isz170) rfl <| WL.bslM (L := segL) (ps := _) ([(rSeg s1).1]) underlying77 sizeOf170 zeroValue170 rfl rfl rfl rfl rfl (by first | rfl | decide) rfl rfl (fun b24 wb24 eb24 hob24 hub24 hsb24 => ?_)
 have hle26 := Nat.le_trans hle3 hub24.size
 have ho25 := OwnM.new ho2 eb24 hub24
 have hl28 : b3 < b24 := by rw [eb24]; exact hkf.lt
 have hleb24 : b24 ≤ wb24.heap.size := by omega
 have hTa := hT3.trans (Touch.of_new hub24 oO)
 have hRa := hRf.below (Upd.below (Below.refl w.heap.size _) oO hub24) hrl
 refine WL.appM underlying77 inf170 rfl rfl rfl ho25 rfl (hob24).rowp (by simp only [List.length_cons, List.length_nil]; omega) (hle26) rfl (fun h => nomatch h) (fun v29 w30 how30 hbw30 hgw30 hfw30 => ?_)
 have hle32 := Nat.le_trans hle26 hbw30.size
 refine WL.z rfl rfl ?_
 exact ⟨(acc ++ [(rSeg s1).1], (rSeg s1).2, v29), ⟨rfl, rfl, trivial⟩, ⟨hRa.below hbw30 hrl, how30, hTa.trans (Touch.of_below hbw30), hPs, by simp only [List.length_append, List.length_cons, List.length_nil]; omega⟩, by ((try simp only) <;> omega)⟩
 have h20' := dF h20
 refine W.sr <| WL.p (.eqs rfl rfl) rfl <| WL.z rfl rfl ?_
 refine W.cond rfl (fun h33 => ?_) (fun h33 => ?_)
 have h33' := dT h33
 have hsg := rSeg_some (s := s1) (k := 3) (n := 3) (by unfold segOf; rw [if_neg aS, if_neg aS, if_pos aS])
 refine W.sr <| WL.p (.fa underlying170 rfl sizeOf3 dD rfl) rfl <| WL.stC (o := 0) ((segV (ptsOf 3 [])).toArray) sizeOf3 rfl (rfl) rfl (rfl) hk3 (Nat.le_of_ble_eq_true rfl) (rfl) (fun w34 hkw34 huw34 hsw34 => ?_)
 have hkw34 : Blk w34 b3 _ _ := hkw34
 have huw34 : Upd b3 _ _ := huw34
 have hT3 := hT1b.trans (Touch.of_new huw34 oO)
 have hR2 := hR1.below (Upd.below (Below.refl w.heap.size _) oO huw34) hrl
 have ho2 := ho1.upd huw34 (fun g hg => by have := ho3ne g hg; omega)
 refine WL.nil <| ?_
 refine W.sr <| WL.m rfl rfl <| WL.nil <| ?_
 refine W.block ?_
 refine W.loop (α := Nat) (fun t => [(0, .pointer (some ⟨r, 0, none⟩)), (2, v), (3, .pointer (some ⟨b3, 0, none⟩)), (40, .int .i64 (t : Int))]) (fun t w' => Rdr w' r (rPts t (rWord s1).2).2 ∧ Blk w' b3 (segV (ptsOf 3 (rPts t (rWord s1).2).1)).toArray 170 ∧ Touch w.heap.size r w w' ∧ OwnM segL 170 w.heap.size w' v acc ∧ t ≤ 3) (fun t => 3 - t) (0) ⟨rfl, rfl, rfl, rfl, trivial⟩ (⟨hR2, hkw34, hT3, ho2, Nat.zero_le _⟩) (fun t w1 hR => ?_)
 obtain ⟨i, rfl⟩ : ∃ i, i = t := ⟨t, rfl⟩
 obtain ⟨hR2, hk4, hT3, ho2, hi3⟩ := hR
 have hil := rPts_len i (rWord s1).2
 have hbl := hk4.lt
 refine W.sr <| WL.p (.lss rfl rfl) rfl <| WL.nil <| ?_
 refine W.seq <| W.cond rfl (fun h35 => ?_) (fun h35 => ?_)
 have h35' := dT h35
 refine W.skip <| W.seq <| W.block <| W.sr <| WL.m rfl rfl <| WL.z rfl rfl ?_
 refine W.reg <| WL.m rfl rfl <| WL.m rfl rfl <| WL.c1 hb133 rfl rfl ((rdr_point r _ _ hR2)) (fun w36 hw36 => ?_)
 obtain ⟨hR5, hT5⟩ := hw36
 have hT6 := hT3.trans (hT5.mono hT3.size)
 have hk6 := hk4.touch hT5 hk4.lt oO
 have ho6 := ho2.touch' hT5 hrl
 refine WL.p (.fa underlying170 rfl sizeOf168 dD rfl) rfl <| WL.p (.ixr underlying168 sizeOf167 rfl rfl (i) (rfl) oO) rfl <| WL.stB (o := 1 + i * 2) ((segV (ptsOf 3 (rPts (i + 1) (rWord s1).2).1)).toArray) rfl (add_lit _ _ _) rfl hk6 isz167 rfl ((by show 1 + i * 2 + 2 ≤ 7; omega)) ((by have e := seg_set 3 (rPoint (rPts i (rWord s1).2).2).1 (rPts i (rWord s1).2).1 oO; rw [hil] at e; exact e)) (fun w37 hkw37 huw37 hsw37 => ?_)
 have hkw37 : Blk w37 b3 _ _ := hkw37
 have huw37 : Upd b3 _ _ := huw37
 have hT7 := hT6.trans (Touch.of_new huw37 oO)
 have hR7 := hR5.below (Upd.below (Below.refl w.heap.size _) oO huw37) hrl
 have ho7 := ho6.upd huw37 (fun g hg => by have := ho3ne g hg; omega)
 refine WL.nil <| ?_
 refine W.reg <| WL.p (.iis (((i + 1 : Nat) : Int)) (.add rfl rfl (i64w oO)) oO) rfl <| WL.m rfl rfl <| WL.nil <| ?_
 exact ⟨i + 1, ⟨rfl, rfl, rfl, rfl, trivial⟩, ⟨hR7, hkw37, hT7, ho7, by ((try simp only) <;> omega)⟩, by ((try simp only) <;> omega)⟩
 have h35' := dF h35
 obtain rfl : i = 3 := by omega
 refine W.exit ?_
 have hkf : Blk w1 b3 (segV (rSeg s1).1).toArray 170 := by rw [hsg]; exact hk4
 have hRf : Rdr w1 r (rSeg s1).2 := by rw [hsg]; exact hR2
 have hle3 := hT3.size
 refine W.reg <| WL.m rfl rfl <| WL.r (Rd.ldA rfl hkf underlying170 rfl isz170) rfl <| WL.bslM (L := segL) (ps := _) ([(rSeg s1).1]) underlying77 sizeOf170 zeroValue170 rfl rfl rfl rfl rfl (by first | rfl | decide) rfl rfl (fun b38 wb38 eb38 hob38 hub38 hsb38 => ?_)
 have hle40 := Nat.le_trans hle3 hub38.size
 have ho39 := OwnM.new ho2 eb38 hub38
 have hl42 : b3 < b38 := by rw [eb38]; exact hkf.lt
 have hleb38 : b38 ≤ wb38.heap.size := by omega
 have hTa := hT3.trans (Touch.of_new hub38 oO)
 have hRa := hRf.below (Upd.below (Below.refl w.heap.size _) oO hub38) hrl
 refine WL.appM underlying77 inf170 rfl rfl rfl ho39 rfl (hob38).rowp (by simp only [List.length_cons, List.length_nil]; omega) (hle40) rfl (fun h => nomatch h) (fun v43 w44 how44 hbw44 hgw44 hfw44 => ?_)
 have hle46 := Nat.le_trans hle40 hbw44.size
 refine WL.z rfl rfl ?_
 exact ⟨(acc ++ [(rSeg s1).1], (rSeg s1).2, v43), ⟨rfl, rfl, trivial⟩, ⟨hRa.below hbw44 hrl, how44, hTa.trans (Touch.of_below hbw44), hPs, by simp only [List.length_append, List.length_cons, List.length_nil]; omega⟩, by ((try simp only) <;> omega)⟩
 have h33' := dF h33
 refine W.sr <| WL.p (.eqs rfl rfl) rfl <| WL.z rfl rfl ?_
 refine W.cond rfl (fun h47 => ?_) (fun h47 => ?_)
 have h47' := dT h47
 have hsg := rSeg_some (s := s1) (k := 4) (n := 0) (by unfold segOf; rw [if_neg aS, if_neg aS, if_neg aS, if_pos aS])
 refine W.reg <| WL.p (.fa underlying170 rfl sizeOf3 dD rfl) rfl <| WL.stC (o := 0) ((segV (ptsOf 4 [])).toArray) sizeOf3 rfl (rfl) rfl (rfl) hk3 (Nat.le_of_ble_eq_true rfl) (rfl) (fun w48 hkw48 huw48 hsw48 => ?_)
 have hkw48 : Blk w48 b3 _ _ := hkw48
 have huw48 : Upd b3 _ _ := huw48
 have hT3 := hT1b.trans (Touch.of_new huw48 oO)
 have hR2 := hR1.below (Upd.below (Below.refl w.heap.size _) oO huw48) hrl
 have ho2 := ho1.upd huw48 (fun g hg => by have := ho3ne g hg; omega)
 refine WL.nil <| ?_
 have hkf : Blk w48 b3 (segV (rSeg s1).1).toArray 170 := by rw [hsg]; exact hkw48
 have hRf : Rdr w48 r (rSeg s1).2 := by rw [hsg]; exact hR2
 have hle3 := hT3.size
 refine W.reg <| WL.m rfl rfl <| WL.r (Rd.ldA rfl hkf underlying170 rfl isz170) rfl <| WL.bslM (L := segL) (ps := _) ([(rSeg s1).1]) underlying77 sizeOf170 zeroValue170 rfl rfl rfl rfl rfl (by first | rfl | decide) rfl rfl (fun b49 wb49 eb49 hob49 hub49 hsb49 => ?_)
 have hle51 := Nat.le_trans hle3 hub49.size
 have ho50 := OwnM.new ho2 eb49 hub49
 have hl53 : b3 < b49 := by rw [eb49]; exact hkf.lt
 have hleb49 : b49 ≤ wb49.heap.size := by omega
 have hTa := hT3.trans (Touch.of_new hub49 oO)
 have hRa := hRf.below (Upd.below (Below.refl w.heap.size _) oO hub49) hrl
 refine WL.appM underlying77 inf170 rfl rfl rfl ho50 rfl (hob49).rowp (by simp only [List.length_cons, List.length_nil]; omega) (hle51) rfl (fun h => nomatch h) (fun v54 w55 how55 hbw55 hgw55 hfw55 => ?_)
 have hle57 := Nat.le_trans hle51 hbw55.size
 refine WL.z rfl rfl ?_
 exact ⟨(acc ++ [(rSeg s1).1], (rSeg s1).2, v54), ⟨rfl, rfl, trivial⟩, ⟨hRa.below hbw55 hrl, how55, hTa.trans (Touch.of_below hbw55), hPs, by simp only [List.length_append, List.length_cons, List.length_nil]; omega⟩, by ((try simp only) <;> omega)⟩
 have h47' := dF h47
 have hsg := rSeg_none (s := s1) (by unfold segOf; rw [if_neg aS, if_neg aS, if_neg aS, if_neg aS])
 obtain ⟨p2, c2, hkr, hset2⟩ := hR1.blk
 refine W.reg <| WL.m rfl rfl <| WL.p (.nck rfl) rfl <| WL.p (.fa underlying129 rfl sizeOf4 dD rfl) rfl <| WL.st sizeOf4 rfl rfl rfl hkr oD (fun w58 hkw58 huw58 hsw58 => ?_)
 have hkw58 : Blk w58 r _ _ := hkw58
 have huw58 : Upd r _ _ := huw58
 have hk59 := hk3.up huw58
 have hT3 := hT1b.trans (Touch.of_upd huw58)
 have hR2 := hset2 _ _ hkw58 (Touch.of_upd huw58)
 have ho2 := ho1.touch huw58 hrl
 refine WL.nil <| ?_
 have hkf : Blk w58 b3 (segV (rSeg s1).1).toArray 170 := by rw [hsg]; exact hk59
 have hRf : Rdr w58 r (rSeg s1).2 := by rw [hsg]; exact hR2
 have hle3 := hT3.size
 refine W.reg <| WL.m rfl rfl <| WL.r (Rd.ldA rfl hkf underlying170 rfl isz170) rfl <| WL.bslM (L := segL) (ps := _) ([(rSeg s1).1]) underlying77 sizeOf170 zeroValue170 rfl rfl rfl rfl rfl (by first | rfl | decide) rfl rfl (fun b60 wb60 eb60 hob60 hub60 hsb60 => ?_)
 have hle62 := Nat.le_trans hle3 hub60.size
 have ho61 := OwnM.new ho2 eb60 hub60
 have hl64 : b3 < b60 := by rw [eb60]; exact hkf.lt
 have hleb60 : b60 ≤ wb60.heap.size := by omega
 have hTa := hT3.trans (Touch.of_new hub60 oO)
 have hRa := hRf.below (Upd.below (Below.refl w.heap.size _) oO hub60) hrl
 refine WL.appM underlying77 inf170 rfl rfl rfl ho61 rfl (hob60).rowp (by simp only [List.length_cons, List.length_nil]; omega) (hle62) rfl (fun h => nomatch h) (fun v65 w66 how66 hbw66 hgw66 hfw66 => ?_)
 have hle68 := Nat.le_trans hle62 hbw66.size
 refine WL.z rfl rfl ?_
 exact ⟨(acc ++ [(rSeg s1).1], (rSeg s1).2, v65), ⟨rfl, rfl, trivial⟩, ⟨hRa.below hbw66 hrl, how66, hTa.trans (Touch.of_below hbw66), hPs, by simp only [List.length_append, List.length_cons, List.length_nil]; omega⟩, by ((try simp only) <;> omega)⟩
 have hend : ¬ (s1.ws ≠ [] ∧ s1.bad = false) := fun hh => by
  have h17 : (decide (0 < s1.ws.length) && !s1.bad) = false := by assumption
  rw [decide_eq_true (List.length_pos_iff.2 hh.1), hh.2] at h17
  cases h17
 rw [rPath_end hend] at hP
 simp only [List.append_nil] at hP
 refine W.exit <| W.sr <| WL.m rfl rfl <| WL.z rfl rfl ?_
 refine W.ret (W.ret1 rfl rfl ?_)
 rw [hP]
 exact ⟨_, rfl, hR, ho, hT⟩
end
section
theorem RowAt.same {α : Type} {V : α → Value} {w w1 : World} {p : Option Addr} {l : List α} (h : RowAt V w p l) (hb : 0 < l.length → w1.heap[(pA p).block]? = w.heap[(pA p).block]?) : RowAt V w1 p l :=
 ⟨h.isp, fun j hj => by rw [World.cell?_of_block (w := w) (by rw [add_block]; exact hb oO)]; exact h.cells j hj⟩
theorem BytesAt.same {w w1 : World} {p : Option Addr} {l : List UInt8} (h : BytesAt w p l) (hb : 0 < l.length → w1.heap[(pA p).block]? = w.heap[(pA p).block]?) : BytesAt w1 p l :=
 ⟨h.isp, fun j hj => by rw [World.cell?_of_block (w := w) (by rw [add_block]; exact hb oO)]; exact h.cells j hj⟩
theorem PointOk.any {w w1 : World} {x : PointV} (h : PointOk w x) : PointOk w1 x := ⟨h.wf_fX, h.wf_fY⟩
theorem SegOk.any {w w1 : World} {x : SegV} (h : SegOk w x) : SegOk w1 x := ⟨h.wf_fKind, h.ok_fP_0.any, h.ok_fP_1.any, h.ok_fP_2.any⟩
theorem ColorOk.any {w w1 : World} {x : ColorV} (h : ColorOk w x) : ColorOk w1 x := ⟨h.wf_fSpace, h.wf_fPart_0, h.wf_fPart_1, h.wf_fPart_2, h.wf_fPart_3⟩
structure ClipIn (D : Nat → Prop) (x : ClipV) : Prop where
 in_fPath : 0 < x.fPath.length → D (pA x.pfPath).block
theorem ClipIn.mono {D E : Nat → Prop} {x : ClipV} (h : ClipIn D x) (hD : ∀ g, D g → E g) : ClipIn E x := ⟨fun h0 => hD _ (h.in_fPath h0)⟩
theorem ClipOk.same {w w1 : World} {D : Nat → Prop} {x : ClipV} (h : ClipOk w x) (hi : ClipIn D x) (hs : ∀ g, D g → w1.heap[g]? = w.heap[g]?) : ClipOk w1 x := ⟨h.row_fPath.same (fun h0 => hs _ (hi.in_fPath h0)), h.sl_fPath, fun y hy => (h.all_fPath y hy).any⟩
structure PenIn (D : Nat → Prop) (x : PenV) : Prop where
 in_fDash : 0 < x.fDash.length → D (pA x.pfDash).block
theorem PenIn.mono {D E : Nat → Prop} {x : PenV} (h : PenIn D x) (hD : ∀ g, D g → E g) : PenIn E x := ⟨fun h0 => hD _ (h.in_fDash h0)⟩
theorem PenOk.same {w w1 : World} {D : Nat → Prop} {x : PenV} (h : PenOk w x) (hi : PenIn D x) (hs : ∀ g, D g → w1.heap[g]? = w.heap[g]?) : PenOk w1 x := ⟨h.wf_fWidth, h.wf_fCap, h.wf_fJoin, h.wf_fMiter, h.row_fDash.same (fun h0 => hs _ (hi.in_fDash h0)), h.sl_fDash, h.wfs_fDash, h.wf_fPhase⟩
structure ItemIn (D : Nat → Prop) (x : ItemV) : Prop where
 in_fPath : 0 < x.fPath.length → D (pA x.pfPath).block
 in_fClips : 0 < x.fClips.length → D (pA x.pfClips).block
 ins_fClips : ∀ y ∈ x.fClips, ClipIn D y
 in_fPen : PenIn D x.fPen
 in_fBytes : 0 < x.fBytes.length → D (pA x.pfBytes).block
theorem ItemIn.mono {D E : Nat → Prop} {x : ItemV} (h : ItemIn D x) (hD : ∀ g, D g → E g) : ItemIn E x := ⟨fun h0 => hD _ (h.in_fPath h0), fun h0 => hD _ (h.in_fClips h0), fun y hy => (h.ins_fClips y hy).mono hD, h.in_fPen.mono hD, fun h0 => hD _ (h.in_fBytes h0)⟩
theorem ItemOk.same {w w1 : World} {D : Nat → Prop} {x : ItemV} (h : ItemOk w x) (hi : ItemIn D x) (hs : ∀ g, D g → w1.heap[g]? = w.heap[g]?) : ItemOk w1 x := ⟨h.wf_fKind, h.row_fPath.same (fun h0 => hs _ (hi.in_fPath h0)), h.sl_fPath, fun y hy => (h.all_fPath y hy).any, h.ok_fColor.any, h.row_fClips.same (fun h0 => hs _ (hi.in_fClips h0)), h.sl_fClips, fun y hy => (h.all_fClips y hy).same (hi.ins_fClips y hy) hs, h.ok_fPen.same hi.in_fPen hs, h.wf_fFont, h.wf_fMatrix_0, h.wf_fMatrix_1, h.wf_fMatrix_2, h.wf_fMatrix_3, h.wf_fMatrix_4, h.wf_fMatrix_5, h.row_fBytes.same (fun h0 => hs _ (hi.in_fBytes h0)), h.sl_fBytes⟩
structure PageIn (D : Nat → Prop) (x : PageV) : Prop where
 in_fItems : 0 < x.fItems.length → D (pA x.pfItems).block
 ins_fItems : ∀ y ∈ x.fItems, ItemIn D y
theorem PageIn.mono {D E : Nat → Prop} {x : PageV} (h : PageIn D x) (hD : ∀ g, D g → E g) : PageIn E x := ⟨fun h0 => hD _ (h.in_fItems h0), fun y hy => (h.ins_fItems y hy).mono hD⟩
theorem PageOk.same {w w1 : World} {D : Nat → Prop} {x : PageV} (h : PageOk w x) (hi : PageIn D x) (hs : ∀ g, D g → w1.heap[g]? = w.heap[g]?) : PageOk w1 x := ⟨h.wf_fWidth, h.wf_fHeight, h.row_fItems.same (fun h0 => hs _ (hi.in_fItems h0)), h.sl_fItems, fun y hy => (h.all_fItems y hy).same (hi.ins_fItems y hy) hs⟩
/-- the blocks from a to b -/
def Btw (a b : Nat) (g : Nat) : Prop := a ≤ g ∧ g < b
theorem Btw.mono {a b c d g : Nat} (h : Btw a b g) (h1 : c ≤ a) (h2 : b ≤ d) : Btw c d g := ⟨Nat.le_trans h1 h.1, Nat.lt_of_lt_of_le h.2 h2⟩
theorem Btw.touch {a r : Nat} {w w1 : World} (hT : Touch w.heap.size r w w1) (hr : r < a) : ∀ g, Btw a w.heap.size g → w1.heap[g]? = w.heap[g]? := fun g hg => hT.block g hg.2 (by have := hg.1; omega)
/-- a row of the call's own, as a slice that a value holds -/
theorem OwnM.sl {α : Type} {L : Lay α} {e : TypeId} {B : Nat} {w : World} {v : Value} {l : List α} (h : OwnM L e B w v l) : ∃ p c, v = .slice p l.length c ∧ RowM L w p l ∧ SlOk p l c ∧ (0 < l.length → Btw B w.heap.size (pA p).block) := by
 obtain ⟨p, c, rfl, hr, hb, hc, hn, ho, hm, hx⟩ := h.row
 refine ⟨p, c, rfl, hr, ⟨hc, hm, hn, fun hp => ?_⟩, fun h0 => ⟨hb _ (hr.isp h0), hr.lt h0⟩⟩
 subst hp
 have hl : l = [] := by
  cases l with
  | nil => rfl
  | cons x r => have := hr.isp (by simp); cases this
 refine ⟨hl, ?_⟩
 rcases hn hl with h0 | h0
 ·
  exact h0
 ·
  exact absurd rfl h0
theorem parseP_fits (l : List UInt8) : fitsB (parseP l).1 = true := by
 unfold parseP
 split
 ·
  rfl
 ·
  unfold parseL
  split
  ·
   split
   ·
    rename_i h
    unfold valueL at h ⊢
    split at h
    ·
     cases h
    ·
     exact h
   ·
    rfl
  ·
   rfl
theorem fits_wf {n : Int} (h : fitsB n = true) : (Lit.int .i64 n).wf = true := by
 simp only [fitsB, Bool.and_eq_true, decide_eq_true_eq] at h
 simp only [Lit.wf, Bool.and_eq_true, decide_eq_true_eq]
 exact ⟨show (-9223372036854775808 : Int) ≤ n by omega, show n ≤ 9223372036854775807 by omega⟩
theorem rNum_fits (s : RS) : fitsB (rNum s).1 = true := parseP_fits _
theorem rNums_fits : ∀ (n : Nat) (s : RS), ∀ x ∈ (rNums n s).1, fitsB x = true
 | 0, _, x, hx => by simp [rNums] at hx
 | n + 1, s, x, hx => by
  simp only [rNums, List.mem_append, List.mem_singleton] at hx
  rcases hx with hx | rfl
  ·
   exact rNums_fits n s x hx
  ·
   exact rNum_fits _
theorem getD_fits {l : List Int} (h : ∀ x ∈ l, fitsB x = true) (i : Nat) : fitsB (l.getD i 0) = true := by
 rcases Nat.lt_or_ge i l.length with hi | hi
 ·
  rw [List.getD_eq_getElem?_getD, List.getElem?_eq_getElem hi]; exact h _ (List.getElem_mem hi)
 ·
  rw [List.getD_eq_getElem?_getD, List.getElem?_eq_none hi]; rfl
theorem small_wf {n m : Int} (h : 0 ≤ n ∧ n ≤ m) (hm : m ≤ 2147483647) : (Lit.int .i64 n).wf = true := by
 simp only [Lit.wf, Bool.and_eq_true, decide_eq_true_eq]
 exact ⟨show (-9223372036854775808 : Int) ≤ n by omega, show n ≤ 9223372036854775807 by omega⟩
theorem rColor_ok (s : RS) (w : World) : ColorOk w (rColor s).1 := by
 have h := rSmall_le 4 s dD
 have hf := rNums_fits (rSmall 4 s).1.toNat (rSmall 4 s).2
 exact ⟨small_wf h dD, fits_wf (getD_fits hf 0), fits_wf (getD_fits hf 1), fits_wf (getD_fits hf 2), fits_wf (getD_fits hf 3)⟩
theorem rPoint_ok (s : RS) (w : World) : PointOk w (rPoint s).1 := ⟨fits_wf (rNum_fits _), fits_wf (rNum_fits _)⟩
theorem rPts_ok (w : World) : ∀ (n : Nat) (s : RS), ∀ x ∈ (rPts n s).1, PointOk w x
 | 0, _, x, hx => by simp [rPts] at hx
 | n + 1, s, x, hx => by
  simp only [rPts, List.mem_append, List.mem_singleton] at hx
  rcases hx with hx | rfl
  ·
   exact rPts_ok w n s x hx
  ·
   exact rPoint_ok _ w
theorem ptsOf_ok {w : World} {k : Int} {l : List PointV} (hk : 0 ≤ k ∧ k ≤ 4) (h : ∀ x ∈ l, PointOk w x) : SegOk w (ptsOf k l) := by
 have key : ∀ i, PointOk w (l.getD i pt0) := fun i => by
  rcases Nat.lt_or_ge i l.length with hi | hi
  ·
   rw [List.getD_eq_getElem?_getD, List.getElem?_eq_getElem hi]; exact h _ (List.getElem_mem hi)
  ·
   rw [List.getD_eq_getElem?_getD, List.getElem?_eq_none hi]; exact ⟨rfl, rfl⟩
 exact ⟨small_wf hk dD, key 0, key 1, key 2⟩
theorem segOf_le {w : List UInt8} {k : Int} {n : Nat} (h : segOf w = some (k, n)) : 0 ≤ k ∧ k ≤ 4 := by
 unfold segOf at h
 repeat' split at h
 all_goals (first | (cases h; done) | (simp only [Option.some.injEq, Prod.mk.injEq] at h; omega))
theorem rSeg_ok (s : RS) (w : World) : SegOk w (rSeg s).1 := by
 unfold rSeg
 split
 ·
  rename_i k n h; exact ptsOf_ok (segOf_le h) (rPts_ok w _ _)
 ·
  exact ptsOf_ok dD (fun x hx => by cases hx)
theorem rPath_ok (w : World) (s : RS) : ∀ x ∈ (rPath s).1, SegOk w x := by
 generalize hn : s.ws.length = n
 induction n using Nat.strongRecOn generalizing s with
 | _ n ih =>
  by_cases hg : s.ws ≠ [] ∧ s.bad = false
  ·
   rw [rPath_go hg]
   intro x hx
   simp only [List.mem_cons] at hx
   rcases hx with rfl | hx
   ·
    exact rSeg_ok s w
   ·
    exact ih _ (hn ▸ rSeg_ws s hg.1) _ rfl x hx
  ·
   rw [rPath_end hg]; intro x hx; cases hx
set_option maxHeartbeats 1600000 in
theorem rdr_pen (r : Nat) (s : RS) (w : World) (h : Rdr w r s) (hE : ∀ w1, Below r w w1 → Env w1) :
  Calls Tryz.prog 135 #[.pointer (some ⟨r, 0, none⟩)] w fun e w' => ∃ x : PenV, e = .returned (.agg (penV x).toArray) ∧ erPen x = (rPen s).1 ∧ PenOk w' x ∧ PenIn (Btw w.heap.size w'.heap.size) x ∧ Rdr w' r (rPen s).2 ∧ Touch w.heap.size r w w' := by
 have hrl := h.lt
 have hr0 : ∀ {w1 : World}, Touch w.heap.size r w w1 → ∀ w2, Below r w1 w2 → Env w2 := fun hT w2 hb => hE w2 ((hT.below (Nat.le_of_lt hrl) (Nat.le_refl _)).trans hb)
 refine W.enter func135 rfl ntmps135 (Nat.le_of_ble_eq_true rfl) ?_
 refine W.sr <| WL.alloc zeroValue84 rfl (fun b1 wb1 eb1 hkb1 hub1 hsb1 => ?_)
 refine WL.nil <| ?_
 refine W.sr <| WL.m rfl rfl <| WL.c1 hb93 rfl rfl ((rdr_number r s _ (h.below (Upd.below (Below.refl w.heap.size _) oO hub1) hrl))) (fun w2 hw2 => ?_)
 obtain ⟨hR1, hT1⟩ := hw2
 have hTa := Touch.trans (Touch.of_new (r := r) hub1 (Nat.le_of_eq eb1.symm)) (hT1.mono oO)
 have hk1 := (hkb1).touch hT1 oO oO
 refine WL.p (.fa underlying84 rfl sizeOf3 dD rfl) rfl <| WL.stC (o := 0) ((penV ⟨(rNum s).1, 0, 0, 0, none, [], 0, 0⟩).toArray) sizeOf3 rfl (rfl) rfl (rfl) hk1 (Nat.le_of_ble_eq_true rfl) (rfl) (fun w3 hkw3 huw3 hsw3 => ?_)
 have hkw3 : Blk w3 b1 _ _ := hkw3
 have huw3 : Upd b1 _ _ := huw3
 have hTa := hTa.trans (Touch.of_new huw3 oO)
 have hRa := hR1.below (Upd.below (Below.refl b1 _) (Nat.le_refl _) huw3) oO
 refine WL.nil <| ?_
 refine W.sr <| WL.m rfl rfl <| WL.c1 hb136 rfl rfl ((rdr_small r 2 _ _ hRa (hr0 hTa) dD)) (fun w4 hw4 => ?_)
 obtain ⟨hR2, hT2⟩ := hw4
 have hTb := hTa.trans (hT2.mono hTa.size)
 have hk2 := (hkw3).touch hT2 (hkw3).lt oO
 refine WL.p (.fa underlying84 rfl sizeOf3 dD rfl) rfl <| WL.stC (o := 1) ((penV ⟨(rNum s).1, (rSmall 2 (rNum s).2).1, 0, 0, none, [], 0, 0⟩).toArray) sizeOf3 rfl (rfl) rfl (rfl) hk2 (Nat.le_of_ble_eq_true rfl) (rfl) (fun w5 hkw5 huw5 hsw5 => ?_)
 have hkw5 : Blk w5 b1 _ _ := hkw5
 have huw5 : Upd b1 _ _ := huw5
 have hTb := hTb.trans (Touch.of_new huw5 oO)
 have hRb := hR2.below (Upd.below (Below.refl b1 _) (Nat.le_refl _) huw5) oO
 refine WL.nil <| ?_
 refine W.sr <| WL.m rfl rfl <| WL.c1 hb136 rfl rfl ((rdr_small r 2 _ _ hRb (hr0 hTb) dD)) (fun w6 hw6 => ?_)
 obtain ⟨hR3, hT3⟩ := hw6
 have hTc := hTb.trans (hT3.mono hTb.size)
 have hk3 := (hkw5).touch hT3 (hkw5).lt oO
 refine WL.p (.fa underlying84 rfl sizeOf3 dD rfl) rfl <| WL.stC (o := 2) ((penV ⟨(rNum s).1, (rSmall 2 (rNum s).2).1, (rSmall 2 (rSmall 2 (rNum s).2).2).1, 0, none, [], 0, 0⟩).toArray) sizeOf3 rfl (rfl) rfl (rfl) hk3 (Nat.le_of_ble_eq_true rfl) (rfl) (fun w7 hkw7 huw7 hsw7 => ?_)
 have hkw7 : Blk w7 b1 _ _ := hkw7
 have huw7 : Upd b1 _ _ := huw7
 have hTc := hTc.trans (Touch.of_new huw7 oO)
 have hRc := hR3.below (Upd.below (Below.refl b1 _) (Nat.le_refl _) huw7) oO
 refine WL.nil <| ?_
 refine W.sr <| WL.m rfl rfl <| WL.c1 hb93 rfl rfl ((rdr_number r _ _ hRc)) (fun w8 hw8 => ?_)
 obtain ⟨hR4, hT4⟩ := hw8
 have hTd := hTc.trans (hT4.mono hTc.size)
 have hk4 := (hkw7).touch hT4 (hkw7).lt oO
 refine WL.p (.fa underlying84 rfl sizeOf3 dD rfl) rfl <| WL.stC (o := 3) ((penV ⟨(rNum s).1, (rSmall 2 (rNum s).2).1, (rSmall 2 (rSmall 2 (rNum s).2).2).1, (rNum (rSmall 2 (rSmall 2 (rNum s).2).2).2).1, none, [], 0, 0⟩).toArray) sizeOf3 rfl (rfl) rfl (rfl) hk4 (Nat.le_of_ble_eq_true rfl) (rfl) (fun w9 hkw9 huw9 hsw9 => ?_)
 have hkw9 : Blk w9 b1 _ _ := hkw9
 have huw9 : Upd b1 _ _ := huw9
 have hTd := hTd.trans (Touch.of_new huw9 oO)
 have hRd := hR4.below (Upd.below (Below.refl b1 _) (Nat.le_refl _) huw9) oO
 have h11 := rSmall_le 11 (rNum (rSmall 2 (rSmall 2 (rNum s).2).2).2).2 dD
 refine WL.nil <| ?_
 refine W.sr <| WL.m rfl rfl <| WL.m rfl rfl <| WL.c1 hb136 rfl rfl ((rdr_small r 11 _ _ hRd (hr0 hTd) dD)) (fun w10 hw10 => ?_)
 obtain ⟨hR5, hT5⟩ := hw10
 have hTe := hTd.trans (hT5.mono hTd.size)
 have hk5 := (hkw9).touch hT5 (hkw9).lt oO
 refine WL.call hb137 rfl rfl ((rdr_numbers r _ _ _ hR5 h11.1 oO)) (fun vd w11 hw11 => ?_)
 obtain ⟨hR6, ho6, hT6⟩ := hw11
 have hTf := hTe.trans (hT6.mono hTe.size)
 have hk6 := hk5.touch hT6 hk5.lt oO
 obtain ⟨pd, cd, evd, hrd, hsd, hbd⟩ := ho6.sl
 subst evd
 have hsz6 := hTe.size
 refine WL.p (.fa underlying84 rfl sizeOf82 dD rfl) rfl <| WL.stC (o := 4) ((penV ⟨(rNum s).1, (rSmall 2 (rNum s).2).1, (rSmall 2 (rSmall 2 (rNum s).2).2).1, (rNum (rSmall 2 (rSmall 2 (rNum s).2).2).2).1, pd, (rNums (rSmall 11 (rNum (rSmall 2 (rSmall 2 (rNum s).2).2).2).2).1.toNat (rSmall 11 (rNum (rSmall 2 (rSmall 2 (rNum s).2).2).2).2).2).1, cd, 0⟩).toArray) sizeOf82 rfl (rfl) rfl (rfl) hk6 (Nat.le_of_ble_eq_true rfl) (rfl) (fun w12 hkw12 huw12 hsw12 => ?_)
 have hkw12 : Blk w12 b1 _ _ := hkw12
 have huw12 : Upd b1 _ _ := huw12
 have hTf := hTf.trans (Touch.of_new huw12 oO)
 have hRf := hR6.below (Upd.below (Below.refl b1 _) (Nat.le_refl _) huw12) oO
 have hrf := hrd.upd huw12 (fun h0 => by have := (hbd h0).1; have := hk5.lt; omega)
 have hsz7 := hsw12
 refine WL.nil <| ?_
 refine W.sr <| WL.m rfl rfl <| WL.c1 hb93 rfl rfl ((rdr_number r _ _ hRf)) (fun w13 hw13 => ?_)
 obtain ⟨hR7, hT7⟩ := hw13
 have hTg := hTf.trans (hT7.mono hTf.size)
 have hk7 := (hkw12).touch hT7 (hkw12).lt oO
 have hrg := hrf.same (fun h0 => hT7.block _ (by have := (hbd h0).2; omega) (by have := (hbd h0).1; omega))
 refine WL.p (.fa underlying84 rfl sizeOf3 dD rfl) rfl <| WL.stC (o := 5) ((penV ⟨(rNum s).1, (rSmall 2 (rNum s).2).1, (rSmall 2 (rSmall 2 (rNum s).2).2).1, (rNum (rSmall 2 (rSmall 2 (rNum s).2).2).2).1, pd, (rNums (rSmall 11 (rNum (rSmall 2 (rSmall 2 (rNum s).2).2).2).2).1.toNat (rSmall 11 (rNum (rSmall 2 (rSmall 2 (rNum s).2).2).2).2).2).1, cd, (rNum (rNums (rSmall 11 (rNum (rSmall 2 (rSmall 2 (rNum s).2).2).2).2).1.toNat (rSmall 11 (rNum (rSmall 2 (rSmall 2 (rNum s).2).2).2).2).2).2).1⟩).toArray) sizeOf3 rfl (rfl) rfl (rfl) hk7 (Nat.le_of_ble_eq_true rfl) (rfl) (fun w14 hkw14 huw14 hsw14 => ?_)
 have hkw14 : Blk w14 b1 _ _ := hkw14
 have huw14 : Upd b1 _ _ := huw14
 have hTg := hTg.trans (Touch.of_new huw14 oO)
 have hRg := hR7.below (Upd.below (Below.refl b1 _) (Nat.le_refl _) huw14) oO
 have hrg := hrg.upd huw14 (fun h0 => by have := (hbd h0).1; have := hk5.lt; omega)
 have hsz8 := hT7.size
 have hsz9 := hsw14
 refine WL.nil <| ?_
 refine W.sr <| WL.r (Rd.ldA rfl hkw14 underlying84 rfl isz84) rfl <| WL.stL rfl rfl hkw14 isz84 rfl rfl (fun w15 hkw15 huw15 hsw15 => ?_)
 have hTh := hTg.trans (Touch.of_new huw15 oO)
 have hRh := hRg.below (Upd.below (Below.refl b1 _) (Nat.le_refl _) huw15) oO
 have hrh := hrg.upd huw15 (fun h0 => by have := (hbd h0).1; have := hk5.lt; omega)
 have hsz10 := hsw15
 refine WL.nil <| ?_
 refine W.ret (W.retc1 rfl rfl (ldRow hkw15 underlying84 rfl isz84)  ?_)
 exact ⟨_, rfl, rfl, ⟨fits_wf (rNum_fits _), small_wf (rSmall_le 2 _ dD) dD, small_wf (rSmall_le 2 _ dD) dD, fits_wf (rNum_fits _), hrh.atI, hsd, fun y hy => fits_wf (rNums_fits _ _ y hy), fits_wf (rNum_fits _)⟩, ⟨fun h0 => (hbd h0).mono oO oO⟩, hRh, hTh⟩
end
section
open Go.RowKit Go.WideShapes Go.ChangeShapes
section
variable {P : Program} {f : Fr}
theorem Pure.shlk {x y : Operand} {k ky : IntKind} {tx ty : TypeId} {a b : Int} (hx : evo f x = some (.int k a)) (hy : evo f y = some (.int ky b)) (h0 : 0 ≤ b) (h1 : b ≤ k.bits) (r : Int) (hr : k.wrap (a * 2 ^ b.toNat) = r) : Pure P (.binOp .shl tx x y ty) f (.int k r) := fun ρ hρ d ty' pos aft g w => by
 have e := shift_shl k ky a b h0 h1
 rw [hr] at e
 simp [execOp, hρ _ _ hx, hρ _ _ hy, eqGuard, binOp_shl, e]
theorem Pure.orb {x y : Operand} {k : IntKind} {tx ty : TypeId} {a b r : Int} (hx : evo f x = some (.int k a)) (hy : evo f y = some (.int k b)) (hr : bits .or k a b = r) : Pure P (.binOp .or tx x y ty) f (.int k r) := fun ρ hρ d ty' pos aft g w => by
 simp [execOp, hρ _ _ hx, hρ _ _ hy, eqGuard, binOp, intBits_or, hr]
/-- a slice as a pointer to an array -/
theorem Pure.s2a {x : Operand} {arr e : TypeId} {m len c : Nat} {p : Option Addr} (hu : P.underlying arr = some (.array m e)) (hx : evo f x = some (.slice p len c)) (hl : m ≤ len) : Pure P (.sliceToArrayPointer arr x) f (.pointer p) := fun ρ hρ d ty' pos aft g w => by
 simp [execOp, hρ _ _ hx, Instr.arrayAt, run_underlying hu, Nat.not_lt.2 hl]
end
/-- an array that is the whole of a row -/
theorem Rd.ldR {α β : Type} {P : Program} {f : Fr} {L : Lay α} {L' : Lay β} {t : TypeId} {x : Operand} {p : Option Addr} {l : List α} {w : World} {dd : TypeDesc} (hu : P.underlying t = some dd) (hdd : dd.isRow = true) (hi : (P.info? t).map (·.size) = some L'.m) (hr : RowM L w p l) (y : β)
  (e : L.flat l = L'.V y) (hl : 0 < l.length) (hx : evo f x = some (.pointer p)) : Rd P (.load t x) f w (.agg (L'.V y).toArray) := by
 have hp := hr.isp hl
 have hr' : RowM L' w p [y] := by
  refine RowM.of_flat (fun _ => hp) fun k v hk => ?_
  have hk' : (L'.V y)[k]? = some v := by simpa [Lay.flat] using hk
  exact hr.flat k v (by rw [e]; exact hk')
 exact Rd.ldS (P := P) (f := f) (x := x) hu hdd hi hr' 0 (by simp) (by rw [hx, hp]; show _ = some (Value.pointer (some ((pA (some (pA p))).add (0 * L'.m)))); rw [Nat.zero_mul, add_zero_addr]; rfl)
end
end Go.Proofs.YtjghbcjnplcleaaGreatDoor
