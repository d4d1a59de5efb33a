/-
  The law ConvBack: a number's text, as a string, is the number again, as a card.
-/
import Derived.Test.YtopnfojdmeageaaGreatDoorCb2
namespace Go.Proofs.YtopnfojdmeageaaGreatDoor
open Go.RowKit
open Go.Proofs.Tryz
section
theorem sok_text {S : StoV} (hok : SOk S) (i : Nat) (l : List UInt8) (hl : l.length ≤ 65535) : SOk { S with texts := S.texts.set i l } := by
 refine ⟨hok.free0, by simpa using hok.sum, fun x hx => ?_, hok.li, hok.di⟩
 rcases List.mem_or_eq_of_mem_set hx with h | h
 ·
  exact hok.tx x h
 ·
  rw [h]; exact hl
theorem sok_write {S : StoV} (hok : SOk S) (o : ObjV) (i : Int) (l : List UInt8) : SOk (writeS S o i l) := by
 unfold writeS
 split
 ·
  rename_i hE
  unfold writeE at hE
  split at hE
  ·
   rename_i hv
   obtain ⟨hk, hva⟩ : o.kind = 6 ∧ validB S o = true := by simpa using hv
   obtain ⟨k, f, n, e1, e2, e3, hk2, hb⟩ := valid_text hk hva
   split at hE
   ·
    cases hE
   ·
    refine sok_text hok _ _ ?_
    have h5 := getD_le hok.tx k
    rw [e1, Int.toNat_natCast]
    simp only [List.length_append, List.length_take, List.length_drop]
    omega
  ·
   cases hE
 ·
  exact hok
def layO (S : StoV) (l : List UInt8) (t : ObjV) : ObjV × Int :=
 if t.kind ≠ 6 then (ob0, 16) else if accO S t ≠ 0 then (ob0, 5) else if t.len < l.length then (ob0, 11) else (partO (writeS S t 0 l) t 0 l.length, partE (writeS S t 0 l) t 0 l.length)
def layS (S : StoV) (l : List UInt8) (t : ObjV) : StoV :=
 if t.kind ≠ 6 then S else if accO S t ≠ 0 then S else if t.len < l.length then S else writeS S t 0 l
theorem conv_lay (b : Nat) (F : Nat → Prop) (S : StoV) (p : Option Addr) (l : List UInt8) (c : Nat) (t : ObjV) (w : World) (h : Sto w b F S) (hok : SOk S) (hb : BytesAt w p l) (hnF : 0 < l.length → ¬ F (pA p).block) :
  Calls Tryz.prog 22 #[workV b, .slice p l.length c, .agg (objV t).toArray] w fun e w' => e = .returned (pairV (layO S l t)) ∧ ∃ F1, Sto w' b F1 (layS S l t) ∧ Chg F F1 w w' := by
 refine W.enter func22 rfl ntmps22 (Nat.le_of_ble_eq_true rfl) ?_
 have hB0 := Chg.refl F w
 refine W.sr <| WL.box rfl rfl (fun b1 wb1 eb1 hkb1 hub1 hsb1 => ?_)
 have hF2 := Sto.same (w1 := wb1) h (fun k hk hl => hub1.other k oO)
 have hvl4 := fun h0 => eb1 ▸ hb.lt h0
 have hv3 := bup hb hub1 hvl4
 have hgeb1 : w.heap.size ≤ b1 := by rw [eb1]; exact hB0.size
 have hB5 := Chg.upd hB0 hub1 hgeb1
 have hnf6 : ¬ F b1 := fun hq => by have hq1 := (h).lt hq; omega
 refine WL.box rfl rfl (fun b7 wb7 eb7 hkb7 hub7 hsb7 => ?_)
 have hF8 := Sto.same (w1 := wb7) hF2 (fun k hk hl => hub7.other k oO)
 have hl10 : b1 < b7 := by rw [eb7]; exact hkb1.lt
 have hk9 := hkb1.upd hub7 (Nat.ne_of_lt hl10)
 have hvl12 := fun h0 => eb7 ▸ hv3.lt h0
 have hv11 := bup hv3 hub7 hvl12
 have hgeb7 : w.heap.size ≤ b7 := by rw [eb7]; exact hB5.size
 have hB13 := Chg.upd hB5 hub7 hgeb7
 have hnf14 : ¬ F b7 := fun hq => by have hq1 := (hF2).lt hq; omega
 refine WL.alloc zeroValue27 rfl (fun b15 wb15 eb15 hkb15 hub15 hsb15 => ?_)
 have hF16 := Sto.same (w1 := wb15) hF8 (fun k hk hl => hub15.other k oO)
 have hl18 : b1 < b15 := by rw [eb15]; exact hk9.lt
 have hk17 := hk9.upd hub15 (Nat.ne_of_lt hl18)
 have hl20 : b7 < b15 := by rw [eb15]; exact hkb7.lt
 have hk19 := hkb7.upd hub15 (Nat.ne_of_lt hl20)
 have hvl22 := fun h0 => eb15 ▸ hv11.lt h0
 have hv21 := bup hv11 hub15 hvl22
 have hgeb15 : w.heap.size ≤ b15 := by rw [eb15]; exact hB13.size
 have hB23 := Chg.upd hB13 hub15 hgeb15
 have hnf24 : ¬ F b15 := fun hq => by have hq1 := (hF8).lt hq; omega
 refine WL.z rfl rfl ?_
 refine W.seq <| W.block <| W.sr <| WL.p (.fa underlying27 rfl sizeOf3 dD rfl) rfl <| WL.r (Rd.ld (isAgg3 _) rfl hk19 rfl) rfl <| WL.p (.neq rfl rfl) rfl <| WL.z rfl rfl ?_
 refine W.cond rfl (fun h25 => ?_) (fun h25 => ?_)
 have h25' := ndT h25
 have c1 : t.kind ≠ 6 := by assumption
 refine W.sr <| WL.p (.buildL (ps := _) blt27 rfl rfl rfl pZ) rfl ?_
 refine WL.stL rfl rfl hkb15 isz27 rfl rfl (fun w26 hkw26 huw26 hsw26 => ?_)
 have hF27 := Sto.same (w1 := w26) hF16 (fun k hk hl => huw26.other k (fun e => hnf24 (e ▸ hk)))
 have hB31 := Chg.upd hB23 huw26 oO
 refine WL.z rfl rfl ?_
 refine W.ret (W.retc2 rfl rfl (ldRow hkw26 underlying27 rfl isz27) rfl ?_)
 exact ⟨rvE (by unfold pairV layO; rw [if_pos c1]; rfl), _, by unfold layS; rw [if_pos c1]; exact hF27, hB31⟩
 have h25' := ndF h25
 have c1 : ¬ t.kind ≠ 6 := by simp_all
 refine W.sr <| WL.r (Rd.ldA rfl hk17 underlying72 rfl isz72) rfl <| WL.r (Rd.ldA rfl hk19 underlying27 rfl isz27) rfl <| WL.c1 hb44 rfl rfl ((conv_writable b F S t _ hF16 hok)) (fun w32 hw32 => ?_)
 have hF33 := Sto.same (w1 := w32) hF16 (fun k hk hl => hw32.block k hl)
 have hk34 := hk17.below hw32 hk17.lt
 have hk35 := hk19.below hw32 hk19.lt
 have hk36 := hkb15.below hw32 hkb15.lt
 have hv37 := BytesAt.below hv21 hw32 (fun h0 => hv21.lt h0)
 have hB38 := Chg.low hB23 hw32
 refine WL.p (.not rfl) rfl <| WL.z rfl rfl ?_
 refine W.cond rfl (fun h39 => ?_) (fun h39 => ?_)
 have h39' := (nT h39)
 have c2 : accO S t ≠ 0 := by simp_all
 refine W.sr <| WL.p (.buildL (ps := _) blt27 rfl rfl rfl pZ) rfl ?_
 refine WL.stL rfl rfl hk36 isz27 rfl rfl (fun w40 hkw40 huw40 hsw40 => ?_)
 have hF41 := Sto.same (w1 := w40) hF33 (fun k hk hl => huw40.other k (fun e => hnf24 (e ▸ hk)))
 have hB45 := Chg.upd hB38 huw40 oO
 refine WL.z rfl rfl ?_
 refine W.ret (W.retc2 rfl rfl (ldRow hkw40 underlying27 rfl isz27) rfl ?_)
 exact ⟨rvE (by unfold pairV layO; rw [if_neg c1, if_pos c2]; rfl), _, by unfold layS; rw [if_neg c1, if_pos c2]; exact hF41, hB45⟩
 have h39' := (nF h39)
 have c2 : ¬ accO S t ≠ 0 := by simp_all
 refine W.sr <| WL.m rfl rfl <| WL.p (.lenS underlying35 rfl) rfl <| WL.p (.fa underlying27 rfl sizeOf3 dD rfl) rfl <| WL.r (Rd.ld (isAgg3 _) rfl hk35 rfl) rfl <| WL.p (.gtr rfl rfl) rfl <| WL.z rfl rfl ?_
 refine W.cond rfl (fun h46 => ?_) (fun h46 => ?_)
 have h46' := dT h46
 have c3 : t.len < l.length := by assumption
 refine W.sr <| WL.p (.buildL (ps := _) blt27 rfl rfl rfl pZ) rfl ?_
 refine WL.stL rfl rfl hk36 isz27 rfl rfl (fun w47 hkw47 huw47 hsw47 => ?_)
 have hF48 := Sto.same (w1 := w47) hF33 (fun k hk hl => huw47.other k (fun e => hnf24 (e ▸ hk)))
 have hB52 := Chg.upd hB38 huw47 oO
 refine WL.z rfl rfl ?_
 refine W.ret (W.retc2 rfl rfl (ldRow hkw47 underlying27 rfl isz27) rfl ?_)
 exact ⟨rvE (by unfold pairV layO; rw [if_neg c1, if_neg c2, if_pos c3]; rfl), _, by unfold layS; rw [if_neg c1, if_neg c2, if_pos c3]; exact hF48, hB52⟩
 have h46' := dF h46
 have c3 : ¬ t.len < l.length := by assumption
 refine W.skip <| W.sr <| WL.p (.fa underlying72 rfl sizeOf22 dD rfl) rfl <| WL.r (Rd.ld (isAgg22 _) rfl hk34 rfl) rfl <| WL.r (Rd.ldA rfl hk35 underlying27 rfl isz27) rfl <| WL.m rfl rfl <| WL.c1 hb45 rfl rfl ((sto_Write b F S t 0 p l c _ hF33 hok hv37 hnF oO)) (fun w53 hw53 => ?_)
 obtain ⟨F54, hstF54, hCF54, hxF54⟩ := Chg.open hw53
 have hnf55 := Chg.nf hCF54 hnf6 hk34.lt
 have hnf56 := Chg.nf hCF54 hnf14 hk35.lt
 have hnf57 := Chg.nf hCF54 hnf24 hk36.lt
 have hk58 := Blk.chg hk34 hCF54 hnf6
 have hk59 := Blk.chg hk35 hCF54 hnf14
 have hk60 := Blk.chg hk36 hCF54 hnf24
 have hnf62 := fun h0 => Chg.nf hCF54 (hnF h0) (hv37.lt h0)
 have hB63 := Chg.trans hB38 hCF54
 refine WL.nil <| ?_
 refine W.sr <| WL.p (.fa underlying72 rfl sizeOf22 dD rfl) rfl <| WL.r (Rd.ld (isAgg22 _) rfl hk58 rfl) rfl <| WL.r (Rd.ldA rfl hk59 underlying27 rfl isz27) rfl <| WL.m rfl rfl <| WL.p (.lenS underlying35 rfl) rfl <| WL.c1 hb46 rfl rfl ((sto_Part b F54 (writeS S t 0 l) t 0 l.length _ hstF54 (sok_write hok t 0 l) oO)) (fun w64 hw64 => ?_)
 have hF65 := Sto.same (w1 := w64) hstF54 (fun k hk hl => hw64.block k hl)
 have hk68 := hk60.below hw64 hk60.lt
 have hB70 := Chg.low hB63 hw64
 refine WL.p (.ext rfl rfl) rfl <| WL.p (.ext rfl rfl) rfl <| WL.stL rfl rfl hk68 isz27 rfl rfl (fun w71 hkw71 huw71 hsw71 => ?_)
 have hF72 := Sto.same (w1 := w71) hF65 (fun k hk hl => huw71.other k (fun e => hnf57 (e ▸ hk)))
 have hB76 := Chg.upd hB70 huw71 oO
 refine WL.z rfl rfl ?_
 refine W.ret (W.retc2 rfl rfl (ldRow hkw71 underlying27 rfl isz27) rfl ?_)
 exact ⟨rvE (by unfold pairV layO; rw [if_neg c1, if_neg c2, if_neg c3]; rfl), _, by unfold layS; rw [if_neg c1, if_neg c2, if_neg c3]; exact hF72, hB76⟩
/-- the tables are none of these blocks -/
def FreeC (F : Nat → Prop) : Prop := ¬ F 2 ∧ ¬ F 7
theorem var_lt {w : World} {n : String} {cs : Array Value} {g : Nat} (hg : Tryz.prog.globalNamed n = some g) (h : w.var? Tryz.prog n = some cs) : g < w.heap.size := by
 unfold World.var? at h
 simp only [hg, Option.bind_some] at h
 rcases Nat.lt_or_ge g w.heap.size with h' | h'
 ·
  exact h'
 ·
  rw [Array.getElem?_eq_none h'] at h; cases h
theorem var_block {w w1 : World} {n : String} {cs : Array Value} {g : Nat} (hg : Tryz.prog.globalNamed n = some g) (h : w.var? Tryz.prog n = some cs) (hs : w1.heap[g]? = w.heap[g]?) : w1.var? Tryz.prog n = some cs := by
 unfold World.var? at h ⊢
 simp only [hg, Option.bind_some] at h ⊢
 rw [hs]; exact h
theorem EnvC.chg {F F1 : Nat → Prop} {w w1 : World} (h : EnvC w) (hC : Chg F F1 w w1) (hn : FreeC F) : EnvC w1 :=
 ⟨var_block (g := 2) kR h.pow (hC.block _ (var_lt kR h.pow) hn.1), var_block (g := 7) kR h.deb (hC.block _ (var_lt kR h.deb) hn.2)⟩
theorem EnvC.free {F F1 : Nat → Prop} {w w1 : World} (h : EnvC w) (hC : Chg F F1 w w1) (hn : FreeC F) : FreeC F1 :=
 ⟨hC.nf hn.1 (var_lt kR h.pow), hC.nf hn.2 (var_lt kR h.deb)⟩
theorem radL_low (b : Nat) (hb : 2 ≤ b) (hb2 : b ≤ 36) : ∀ u : Nat, ∀ c ∈ radL b u, c.toNat < 128 := by
 intro u
 have hd : ∀ d : Nat, d < 36 → (dgc true d).toNat < 128 := by
  have : ∀ d : Fin 36, (dgc true d.val).toNat < 128 := by decide
  exact fun d h => this ⟨d, h⟩
 induction u using Nat.strongRecOn with
 | _ u ih =>
  intro c hc
  rcases Nat.lt_or_ge u b with h | h
  ·
   rw [radL_small h] at hc
   rw [List.mem_singleton.1 hc]; exact hd u oO
  ·
   rw [radL_big hb h] at hc
   rcases List.mem_append.1 hc with h1 | h1
   ·
    exact ih (u / b) (Nat.div_lt_self oO oO) c h1
   ·
    rw [List.mem_singleton.1 h1]; exact hd (u % b) (by have := Nat.mod_lt u (show b > 0 by omega); omega)
theorem radL_pow (b : Nat) (hb : 2 ≤ b) : ∀ (k u : Nat), u < 2 ^ k → (radL b u).length ≤ k + 1
 | 0, u, h => by rw [radL_small oO]; simp
 | k + 1, u, h => by
  rcases Nat.lt_or_ge u b with h1 | h1
  ·
   rw [radL_small h1]; simp
  ·
   rw [radL_big hb h1]
   have h2 : u / b < 2 ^ k := by
    have h3 : u / b ≤ u / 2 := Nat.div_le_div_left hb oO
    rw [Nat.pow_succ] at h; omega
   have := radL_pow b hb k (u / b) h2
   simp only [List.length_append, List.length_cons, List.length_nil]; omega
/-- a whole number's 32 bits -/
def u32 (n : Int) : Nat := (n % 4294967296).toNat
theorem u32_lt (n : Int) : u32 n < 4294967296 := by unfold u32; omega
theorem u32_int (n : Int) : (u32 n : Int) = n % 4294967296 := by unfold u32; omega
def radT (n : Int) (b : Nat) : List UInt8 := (radL b (u32 n)).map upC
def radO (S : StoV) (o base t : ObjV) : ObjV × Int :=
 if (o.kind ≠ 1 ∧ o.kind ≠ 2) ∨ base.kind ≠ 1 ∨ t.kind ≠ 6 then (ob0, 16) else if accO S t ≠ 0 then (ob0, 5) else if base.n < 2 ∨ 36 < base.n then (ob0, 11)
 else if base.n = 10 then layO S (conT S o) t else if (wholeO S o).2 ≠ 0 then (ob0, (wholeO S o).2) else layO S (radT (wholeO S o).1.n base.n.toNat) t
def radS (S : StoV) (o base t : ObjV) : StoV :=
 if (o.kind ≠ 1 ∧ o.kind ≠ 2) ∨ base.kind ≠ 1 ∨ t.kind ≠ 6 then S else if accO S t ≠ 0 then S else if base.n < 2 ∨ 36 < base.n then S
 else if base.n = 10 then layS S (conT S o) t else if (wholeO S o).2 ≠ 0 then S else layS S (radT (wholeO S o).1.n base.n.toNat) t
theorem s_FormatUintI (u : Nat) (bi : Int) (hq1 : 2 ≤ bi) (hq2 : bi ≤ 36) (hq3 : bi ≠ 10) (hu : u < 18446744073709551616) (w : World) (hE : EnvC w) :
  Calls Tryz.prog 51 #[.int .u64 (u : Int), .int .i64 bi] w fun e w' => e = .returned (.string (bs (radL bi.toNat u))) ∧ Below w.heap.size w w' := by
 obtain ⟨n, rfl⟩ := Int.eq_ofNat_of_zero_le (show 0 ≤ bi by omega)
 rw [Int.toNat_natCast]
 exact s_FormatUint u n oO oO oO hu w hE
set_option maxHeartbeats 1600000 in
theorem conv_radix (b : Nat) (F : Nat → Prop) (S : StoV) (o base t : ObjV) (w : World) (h : Sto w b F S) (hok : SOk S) (hE : EnvC w) (hn : FreeC F) (hon : -9223372036854775808 ≤ o.n ∧ o.n ≤ 9223372036854775807) :
  Calls Tryz.prog 24 #[workV b, .agg (objV o).toArray, .agg (objV base).toArray, .agg (objV t).toArray] w fun e w' => e = .returned (pairV (radO S o base t)) ∧ ∃ F1, Sto w' b F1 (radS S o base t) ∧ Chg F F1 w w' := by
 refine W.enter func24 rfl ntmps24 (Nat.le_of_ble_eq_true rfl) ?_
 have hB0 := Chg.refl F w
 refine W.sr <| WL.box rfl rfl (fun b1 wb1 eb1 hkb1 hub1 hsb1 => ?_)
 have hF2 := Sto.same (w1 := wb1) h (fun k hk hl => hub1.other k oO)
 have hgeb1 : w.heap.size ≤ b1 := by rw [eb1]; exact hB0.size
 have hB3 := Chg.upd hB0 hub1 hgeb1
 have hnf4 : ¬ F b1 := fun hq => by have hq1 := (h).lt hq; omega
 refine WL.box rfl rfl (fun b5 wb5 eb5 hkb5 hub5 hsb5 => ?_)
 have hF6 := Sto.same (w1 := wb5) hF2 (fun k hk hl => hub5.other k oO)
 have hl8 : b1 < b5 := by rw [eb5]; exact hkb1.lt
 have hk7 := hkb1.upd hub5 (Nat.ne_of_lt hl8)
 have hgeb5 : w.heap.size ≤ b5 := by rw [eb5]; exact hB3.size
 have hB9 := Chg.upd hB3 hub5 hgeb5
 have hnf10 : ¬ F b5 := fun hq => by have hq1 := (hF2).lt hq; omega
 refine WL.box rfl rfl (fun b11 wb11 eb11 hkb11 hub11 hsb11 => ?_)
 have hF12 := Sto.same (w1 := wb11) hF6 (fun k hk hl => hub11.other k oO)
 have hl14 : b1 < b11 := by rw [eb11]; exact hk7.lt
 have hk13 := hk7.upd hub11 (Nat.ne_of_lt hl14)
 have hl16 : b5 < b11 := by rw [eb11]; exact hkb5.lt
 have hk15 := hkb5.upd hub11 (Nat.ne_of_lt hl16)
 have hgeb11 : w.heap.size ≤ b11 := by rw [eb11]; exact hB9.size
 have hB17 := Chg.upd hB9 hub11 hgeb11
 have hnf18 : ¬ F b11 := fun hq => by have hq1 := (hF6).lt hq; omega
 refine WL.box rfl rfl (fun b19 wb19 eb19 hkb19 hub19 hsb19 => ?_)
 have hF20 := Sto.same (w1 := wb19) hF12 (fun k hk hl => hub19.other k oO)
 have hl22 : b1 < b19 := by rw [eb19]; exact hk13.lt
 have hk21 := hk13.upd hub19 (Nat.ne_of_lt hl22)
 have hl24 : b5 < b19 := by rw [eb19]; exact hk15.lt
 have hk23 := hk15.upd hub19 (Nat.ne_of_lt hl24)
 have hl26 : b11 < b19 := by rw [eb19]; exact hkb11.lt
 have hk25 := hkb11.upd hub19 (Nat.ne_of_lt hl26)
 have hgeb19 : w.heap.size ≤ b19 := by rw [eb19]; exact hB17.size
 have hB27 := Chg.upd hB17 hub19 hgeb19
 have hnf28 : ¬ F b19 := fun hq => by have hq1 := (hF12).lt hq; omega
 refine WL.alloc zeroValue27 rfl (fun b29 wb29 eb29 hkb29 hub29 hsb29 => ?_)
 have hF30 := Sto.same (w1 := wb29) hF20 (fun k hk hl => hub29.other k oO)
 have hl32 : b1 < b29 := by rw [eb29]; exact hk21.lt
 have hk31 := hk21.upd hub29 (Nat.ne_of_lt hl32)
 have hl34 : b5 < b29 := by rw [eb29]; exact hk23.lt
 have hk33 := hk23.upd hub29 (Nat.ne_of_lt hl34)
 have hl36 : b11 < b29 := by rw [eb29]; exact hk25.lt
 have hk35 := hk25.upd hub29 (Nat.ne_of_lt hl36)
 have hl38 : b19 < b29 := by rw [eb29]; exact hkb19.lt
 have hk37 := hkb19.upd hub29 (Nat.ne_of_lt hl38)
 have hgeb29 : w.heap.size ≤ b29 := by rw [eb29]; exact hB27.size
 have hB39 := Chg.upd hB27 hub29 hgeb29
 have hnf40 : ¬ F b29 := fun hq => by have hq1 := (hF20).lt hq; omega
 refine WL.z rfl rfl ?_
 refine W.seq <| W.block <| W.seq <| W.sr <| WL.p (.fa underlying27 rfl sizeOf3 dD rfl) rfl <| WL.r (Rd.ld (isAgg3 _) rfl hk33 rfl) rfl <| WL.p (.neq rfl rfl) rfl <| WL.m rfl rfl <| WL.gd rfl rfl rfl (fun g41 => ?_) (fun g41 => ?_)
 have g41' := ndT g41
 refine WL.p (.fa underlying27 rfl sizeOf3 dD rfl) rfl <| WL.gy rfl rfl rfl g41 <| WL.r (Rd.ld (isAgg3 _) rfl hk33 rfl) rfl <| WL.gy rfl rfl rfl g41 <| WL.p (.neq rfl rfl) rfl <| WL.p (.pkT rfl g41 rfl) rfl <| WL.z rfl rfl ?_
 refine W.cond rfl (fun h42 => ?_) (fun h42 => ?_)
 have h42' := ndT h42
 have c1 : (o.kind ≠ 1 ∧ o.kind ≠ 2) ∨ base.kind ≠ 1 ∨ t.kind ≠ 6 := by simp_all
 have hO : radO S o base t = (ob0, 16) := if_pos c1
 have hT : radS S o base t = S := if_pos c1
 refine W.skip <| W.condT rfl h42 ?_
 refine W.sr <| WL.p (.buildL (ps := _) blt27 rfl rfl rfl pZ) rfl ?_
 refine WL.stL rfl rfl hkb29 isz27 rfl rfl (fun w43 hkw43 huw43 hsw43 => ?_)
 have hF44 := Sto.same (w1 := w43) hF30 (fun k hk hl => huw43.other k (fun e => hnf40 (e ▸ hk)))
 have hB49 := Chg.upd hB39 huw43 oO
 refine WL.z rfl rfl ?_
 refine W.ret (W.retc2 rfl rfl (ldRow hkw43 underlying27 rfl isz27) rfl ?_)
 exact ⟨rvE (by rw [hO]; rfl), _, by rw [hT]; exact hF44, hB49⟩
 have h42' := ndF h42
 refine W.sr <| WL.p (.fa underlying27 rfl sizeOf3 dD rfl) rfl <| WL.r (Rd.ld (isAgg3 _) rfl hk35 rfl) rfl <| WL.p (.neq rfl rfl) rfl <| WL.z rfl rfl ?_
 refine W.cond rfl (fun h50 => ?_) (fun h50 => ?_)
 have h50' := ndT h50
 have c1 : (o.kind ≠ 1 ∧ o.kind ≠ 2) ∨ base.kind ≠ 1 ∨ t.kind ≠ 6 := by simp_all
 have hO : radO S o base t = (ob0, 16) := if_pos c1
 have hT : radS S o base t = S := if_pos c1
 refine W.skip <| W.condT rfl h50 ?_
 refine W.sr <| WL.p (.buildL (ps := _) blt27 rfl rfl rfl pZ) rfl ?_
 refine WL.stL rfl rfl hkb29 isz27 rfl rfl (fun w51 hkw51 huw51 hsw51 => ?_)
 have hF52 := Sto.same (w1 := w51) hF30 (fun k hk hl => huw51.other k (fun e => hnf40 (e ▸ hk)))
 have hB57 := Chg.upd hB39 huw51 oO
 refine WL.z rfl rfl ?_
 refine W.ret (W.retc2 rfl rfl (ldRow hkw51 underlying27 rfl isz27) rfl ?_)
 exact ⟨rvE (by rw [hO]; rfl), _, by rw [hT]; exact hF52, hB57⟩
 have h50' := ndF h50
 refine W.reg <| WL.p (.fa underlying27 rfl sizeOf3 dD rfl) rfl <| WL.r (Rd.ld (isAgg3 _) rfl hk37 rfl) rfl <| WL.p (.neq rfl rfl) rfl <| WL.z rfl rfl ?_
 refine W.cond rfl (fun h58 => ?_) (fun h58 => ?_)
 have h58' := ndT h58
 have c1 : (o.kind ≠ 1 ∧ o.kind ≠ 2) ∨ base.kind ≠ 1 ∨ t.kind ≠ 6 := by simp_all
 have hO : radO S o base t = (ob0, 16) := if_pos c1
 have hT : radS S o base t = S := if_pos c1
 refine W.sr <| WL.p (.buildL (ps := _) blt27 rfl rfl rfl pZ) rfl ?_
 refine WL.stL rfl rfl hkb29 isz27 rfl rfl (fun w59 hkw59 huw59 hsw59 => ?_)
 have hF60 := Sto.same (w1 := w59) hF30 (fun k hk hl => huw59.other k (fun e => hnf40 (e ▸ hk)))
 have hB65 := Chg.upd hB39 huw59 oO
 refine WL.z rfl rfl ?_
 refine W.ret (W.retc2 rfl rfl (ldRow hkw59 underlying27 rfl isz27) rfl ?_)
 exact ⟨rvE (by rw [hO]; rfl), _, by rw [hT]; exact hF60, hB65⟩
 have h58' := ndF h58
 refine W.seq ?_
 have c1 : ¬ ((o.kind ≠ 1 ∧ o.kind ≠ 2) ∨ base.kind ≠ 1 ∨ t.kind ≠ 6) := by simp_all
 refine W.reg <| WL.r (Rd.ldA rfl hk31 underlying72 rfl isz72) rfl <| WL.r (Rd.ldA rfl hk37 underlying27 rfl isz27) rfl <| WL.c1 hb44 rfl rfl ((conv_writable b F S t _ hF30 hok)) (fun w66 hw66 => ?_)
 have hF67 := Sto.same (w1 := w66) hF30 (fun k hk hl => hw66.block k hl)
 have hk68 := hk31.below hw66 hk31.lt
 have hk69 := hk33.below hw66 hk33.lt
 have hk70 := hk35.below hw66 hk35.lt
 have hk71 := hk37.below hw66 hk37.lt
 have hk72 := hkb29.below hw66 hkb29.lt
 have hB73 := Chg.low hB39 hw66
 refine WL.p (.not rfl) rfl <| WL.z rfl rfl ?_
 refine W.cond rfl (fun h74 => ?_) (fun h74 => ?_)
 have h74' := (nT h74)
 have c2 : accO S t ≠ 0 := by simp_all
 have hO : radO S o base t = (ob0, 5) := by unfold radO; rw [if_neg c1, if_pos c2]
 have hT : radS S o base t = S := by unfold radS; rw [if_neg c1, if_pos c2]
 refine W.sr <| WL.p (.buildL (ps := _) blt27 rfl rfl rfl pZ) rfl ?_
 refine WL.stL rfl rfl hk72 isz27 rfl rfl (fun w75 hkw75 huw75 hsw75 => ?_)
 have hF76 := Sto.same (w1 := w75) hF67 (fun k hk hl => huw75.other k (fun e => hnf40 (e ▸ hk)))
 have hB81 := Chg.upd hB73 huw75 oO
 refine WL.z rfl rfl ?_
 refine W.ret (W.retc2 rfl rfl (ldRow hkw75 underlying27 rfl isz27) rfl ?_)
 exact ⟨rvE (by rw [hO]; rfl), _, by rw [hT]; exact hF76, hB81⟩
 have h74' := (nF h74)
 have c2 : ¬ accO S t ≠ 0 := by simp_all
 refine W.sr <| WL.p (.fa underlying27 rfl sizeOf3 dD rfl) rfl <| WL.r (Rd.ld (isAgg3 _) rfl hk70 rfl) rfl <| WL.p (.lss rfl rfl) rfl <| WL.m rfl rfl <| WL.gd rfl rfl rfl (fun g82 => ?_) (fun g82 => ?_)
 have g82' := dF g82
 refine WL.p (.fa underlying27 rfl sizeOf3 dD rfl) rfl <| WL.gy rfl rfl rfl g82 <| WL.r (Rd.ld (isAgg3 _) rfl hk70 rfl) rfl <| WL.gy rfl rfl rfl g82 <| WL.p (.gtr rfl rfl) rfl <| WL.p (.pkF rfl g82 rfl) rfl <| WL.z rfl rfl ?_
 refine W.cond rfl (fun h83 => ?_) (fun h83 => ?_)
 have h83' := dT h83
 refine W.seq ?_
 have c3 : base.n < 2 ∨ 36 < base.n := by omega
 have hO : radO S o base t = (ob0, 11) := by unfold radO; rw [if_neg c1, if_neg c2, if_pos c3]
 have hT : radS S o base t = S := by unfold radS; rw [if_neg c1, if_neg c2, if_pos c3]
 refine W.reg <| WL.p (.buildL (ps := _) blt27 rfl rfl rfl pZ) rfl ?_
 refine WL.stL rfl rfl hk72 isz27 rfl rfl (fun w84 hkw84 huw84 hsw84 => ?_)
 have hF85 := Sto.same (w1 := w84) hF67 (fun k hk hl => huw84.other k (fun e => hnf40 (e ▸ hk)))
 have hB90 := Chg.upd hB73 huw84 oO
 refine WL.z rfl rfl ?_
 refine W.ret (W.retc2 rfl rfl (ldRow hkw84 underlying27 rfl isz27) rfl ?_)
 exact ⟨rvE (by rw [hO]; rfl), _, by rw [hT]; exact hF85, hB90⟩
 have h83' := dF h83
 have c3 : ¬ (base.n < 2 ∨ 36 < base.n) := by omega
 refine W.sr <| WL.p (.fa underlying27 rfl sizeOf3 dD rfl) rfl <| WL.r (Rd.ld (isAgg3 _) rfl hk70 rfl) rfl <| WL.p (.eql rfl rfl) rfl <| WL.z rfl rfl ?_
 refine W.cond rfl (fun h91 => ?_) (fun h91 => ?_)
 have h91' := dT h91
 have c4 : base.n = 10 := by assumption
 have hO : radO S o base t = layO S (conT S o) t := by unfold radO; rw [if_neg c1, if_neg c2, if_neg c3, if_pos c4]
 have hT : radS S o base t = layS S (conT S o) t := by unfold radS; rw [if_neg c1, if_neg c2, if_neg c3, if_pos c4]
 refine W.seq <| W.regH 11 rfl mixed (fun w' => w'.heap[b1]? = w66.heap[b1]? ∧ w'.heap[b5]? = w66.heap[b5]? ∧ w'.heap[b19]? = w66.heap[b19]? ∧ True) (fun w92 dw92 => ?_)
 have hF93 := Sto.same (w1 := w92) hF67 (fun k hk hl => (by obtain ⟨m, rfl⟩ := dw92; rfl))
 have hk94 := hk68.drew dw92
 have hk95 := hk69.drew dw92
 have hk96 := hk70.drew dw92
 have hk97 := hk71.drew dw92
 have hk98 := hk72.drew dw92
 have hB99 := Chg.drew hB73 dw92
 refine WH.tk 0 rfl (fun w' hw' => Rd.ldA rfl ((hw'.1).trans hk68) underlying72 rfl isz72) ⟨(hk94).trans (hk68).symm, (hk95).trans (hk69).symm, (hk97).trans (hk71).symm, trivial⟩ rfl ?_
 refine WH.tp 1 rfl (.fa underlying72 rfl sizeOf22 dD rfl) ⟨(hk94).trans (hk68).symm, (hk95).trans (hk69).symm, (hk97).trans (hk71).symm, trivial⟩ rfl ?_
 refine WH.tk 2 rfl (fun w' hw' => Rd.ld (isAgg22 _) rfl ((hw'.1).trans hk68) rfl) ⟨(hk94).trans (hk68).symm, (hk95).trans (hk69).symm, (hk97).trans (hk71).symm, trivial⟩ rfl ?_
 refine WH.tk 3 rfl (fun w' hw' => Rd.ldA rfl ((hw'.2.1).trans hk69) underlying27 rfl isz27) ⟨(hk94).trans (hk68).symm, (hk95).trans (hk69).symm, (hk97).trans (hk71).symm, trivial⟩ rfl ?_
 refine WH.tk 5 rfl (fun w' hw' => Rd.ldA rfl ((hw'.2.2.1).trans hk71) underlying27 rfl isz27) ⟨(hk94).trans (hk68).symm, (hk95).trans (hk69).symm, (hk97).trans (hk71).symm, trivial⟩ rfl ?_
 refine WH.br1 4 rfl ?_
 refine WL.call hb23 rfl rfl ((conv_Text b F S o _ hF93 hok (hE.chg hB99 hn) hon)) (fun r w100 hw100 => ?_)
 have hF101 := Sto.same (w1 := w100) hF93 (fun k hk hl => hw100.1.block k hl)
 have hk102 := hk94.below hw100.1 hk94.lt
 have hk103 := hk95.below hw100.1 hk95.lt
 have hk104 := hk96.below hw100.1 hk96.lt
 have hk105 := hk97.below hw100.1 hk97.lt
 have hk106 := hk98.below hw100.1 hk98.lt
 have hB107 := Chg.low hB99 hw100.1
 obtain ⟨pb1, cb1, rfl, hbt1, hge1⟩ := hw100.2
 have hsz1 := hB99.size
 refine WL.nil <| ?_
 refine ⟨⟨(hk102).trans (hk68).symm, (hk103).trans (hk69).symm, (hk105).trans (hk71).symm, trivial⟩, ?_⟩
 refine WH.br1 6 rfl ?_
 refine WL.c1 hb22 rfl rfl ((conv_lay b F S pb1 (conT S o) cb1 t _ hF101 hok hbt1 (fun h0 hf => by have h8 := h.lt hf; have h9 := hge1 h0; omega))) (fun w108 hw108 => ?_)
 obtain ⟨F109, hstF109, hCF109, hxF109⟩ := Chg.open hw108
 have hnf110 := Chg.nf hCF109 hnf4 hk102.lt
 have hnf111 := Chg.nf hCF109 hnf10 hk103.lt
 have hnf112 := Chg.nf hCF109 hnf18 hk104.lt
 have hnf113 := Chg.nf hCF109 hnf28 hk105.lt
 have hnf114 := Chg.nf hCF109 hnf40 hk106.lt
 have hk115 := Blk.chg hk102 hCF109 hnf4
 have hk116 := Blk.chg hk103 hCF109 hnf10
 have hk118 := Blk.chg hk105 hCF109 hnf28
 have hk119 := Blk.chg hk106 hCF109 hnf40
 have hB120 := Chg.trans hB107 hCF109
 refine WL.nil <| ?_
 refine ⟨⟨(hk115).trans (hk68).symm, (hk116).trans (hk69).symm, (hk118).trans (hk71).symm, trivial⟩, ?_⟩
 refine WH.tp 7 rfl (.ext rfl rfl) ⟨(hk115).trans (hk68).symm, (hk116).trans (hk69).symm, (hk118).trans (hk71).symm, trivial⟩ rfl ?_
 refine WH.tp 8 rfl (.ext rfl rfl) ⟨(hk115).trans (hk68).symm, (hk116).trans (hk69).symm, (hk118).trans (hk71).symm, trivial⟩ rfl ?_
 refine WH.br1 9 rfl ?_
 refine WL.stL rfl rfl hk119 isz27 rfl rfl (fun w121 hkw121 huw121 hsw121 => ?_)
 have hF122 := Sto.same (w1 := w121) hstF109 (fun k hk hl => huw121.other k (fun e => hnf114 (e ▸ hk)))
 have hk123 := hk115.up huw121
 have hk124 := hk116.up huw121
 have hk126 := hk118.up huw121
 have hB127 := Chg.upd hB120 huw121 oO
 refine WL.nil <| ?_
 refine ⟨⟨(hk123).trans (hk68).symm, (hk124).trans (hk69).symm, (hk126).trans (hk71).symm, trivial⟩, ?_⟩
 refine WH.tp 10 rfl (.as rfl) ⟨(hk123).trans (hk68).symm, (hk124).trans (hk69).symm, (hk126).trans (hk71).symm, trivial⟩ rfl ?_
 refine WH.done kR ?_
 refine W.ret (W.retc2 rfl rfl (ldRow hkw121 underlying27 rfl isz27) rfl ?_)
 exact ⟨rvE (by rw [hO]; rfl), _, by rw [hT]; exact hF122, hB127⟩
 have h91' := dF h91
 have c4 : ¬ base.n = 10 := by assumption
 refine W.skip <| W.sr <| WL.r (Rd.ldA rfl hk68 underlying72 rfl isz72) rfl <| WL.r (Rd.ldA rfl hk69 underlying27 rfl isz27) rfl <| WL.c1 hb39 rfl rfl ((conv_whole b F S o _ hF67 hok)) (fun w128 hw128 => ?_)
 have hF129 := Sto.same (w1 := w128) hF67 (fun k hk hl => hw128.block k hl)
 have hk130 := hk68.below hw128 hk68.lt
 have hk131 := hk69.below hw128 hk69.lt
 have hk132 := hk70.below hw128 hk70.lt
 have hk133 := hk71.below hw128 hk71.lt
 have hk134 := hk72.below hw128 hk72.lt
 have hB135 := Chg.low hB73 hw128
 refine WL.m rfl rfl <| WL.p (.ext rfl rfl) rfl <| WL.p (.ext rfl rfl) rfl <| WL.alloc zeroValue27 rfl (fun b136 wb136 eb136 hkb136 hub136 hsb136 => ?_)
 have hF137 := Sto.same (w1 := wb136) hF129 (fun k hk hl => hub136.other k oO)
 have hl139 : b1 < b136 := by rw [eb136]; exact hk130.lt
 have hk138 := hk130.upd hub136 (Nat.ne_of_lt hl139)
 have hl141 : b5 < b136 := by rw [eb136]; exact hk131.lt
 have hk140 := hk131.upd hub136 (Nat.ne_of_lt hl141)
 have hl143 : b11 < b136 := by rw [eb136]; exact hk132.lt
 have hk142 := hk132.upd hub136 (Nat.ne_of_lt hl143)
 have hl145 : b19 < b136 := by rw [eb136]; exact hk133.lt
 have hk144 := hk133.upd hub136 (Nat.ne_of_lt hl145)
 have hl147 : b29 < b136 := by rw [eb136]; exact hk134.lt
 have hk146 := hk134.upd hub136 (Nat.ne_of_lt hl147)
 have hgeb136 : w.heap.size ≤ b136 := by rw [eb136]; exact hB135.size
 have hB148 := Chg.upd hB135 hub136 hgeb136
 have hnf149 : ¬ F b136 := fun hq => by have hq1 := (hF129).lt hq; omega
 refine WL.stL rfl rfl hkb136 isz27 rfl rfl (fun w150 hkw150 huw150 hsw150 => ?_)
 have hF151 := Sto.same (w1 := w150) hF137 (fun k hk hl => huw150.other k (fun e => hnf149 (e ▸ hk)))
 have hk152 := hk138.up huw150
 have hk153 := hk140.up huw150
 have hk154 := hk142.up huw150
 have hk155 := hk144.up huw150
 have hk156 := hk146.up huw150
 have hB157 := Chg.upd hB148 huw150 oO
 refine WL.z rfl rfl ?_
 refine W.seq <| W.sr <| WL.m rfl rfl <| WL.p (.neq rfl rfl) rfl <| WL.nil <| ?_
 refine W.cond rfl (fun h158 => ?_) (fun h158 => ?_)
 have h158' := ndT h158
 have c5 : (wholeO S o).2 ≠ 0 := by assumption
 have hO : radO S o base t = (ob0, (wholeO S o).2) := by unfold radO; rw [if_neg c1, if_neg c2, if_neg c3, if_neg c4, if_pos c5]
 have hT : radS S o base t = S := by unfold radS; rw [if_neg c1, if_neg c2, if_neg c3, if_neg c4, if_pos c5]
 refine W.sr <| WL.p (.buildL (ps := _) blt27 rfl rfl rfl pZ) rfl ?_
 refine WL.m rfl rfl <| WL.stL rfl rfl hk156 isz27 rfl rfl (fun w159 hkw159 huw159 hsw159 => ?_)
 have hF160 := Sto.same (w1 := w159) hF151 (fun k hk hl => huw159.other k (fun e => hnf40 (e ▸ hk)))
 have hB166 := Chg.upd hB157 huw159 oO
 refine WL.z rfl rfl ?_
 refine W.ret (W.retc2 rfl rfl (ldRow hkw159 underlying27 rfl isz27) rfl ?_)
 exact ⟨rvE (by rw [hO]; rfl), _, by rw [hT]; exact hF160, hB166⟩
 have h158' := ndF h158
 have c5 : ¬ (wholeO S o).2 ≠ 0 := by simp_all
 have hO : radO S o base t = layO S (radT (wholeO S o).1.n base.n.toNat) t := by unfold radO; rw [if_neg c1, if_neg c2, if_neg c3, if_neg c4, if_neg c5]
 have hT : radS S o base t = layS S (radT (wholeO S o).1.n base.n.toNat) t := by unfold radS; rw [if_neg c1, if_neg c2, if_neg c3, if_neg c4, if_neg c5]
 refine W.skip <| W.seq <| W.regH 16 rfl mixed (fun w' => w'.heap[b1]? = w150.heap[b1]? ∧ w'.heap[b11]? = w150.heap[b11]? ∧ w'.heap[b19]? = w150.heap[b19]? ∧ w'.heap[b136]? = w150.heap[b136]? ∧ True) (fun w167 dw167 => ?_)
 have hF168 := Sto.same (w1 := w167) hF151 (fun k hk hl => (by obtain ⟨m, rfl⟩ := dw167; rfl))
 have hk169 := hk152.drew dw167
 have hk170 := hk153.drew dw167
 have hk171 := hk154.drew dw167
 have hk172 := hk155.drew dw167
 have hk173 := hk156.drew dw167
 have hk174 := hkw150.drew dw167
 have hB175 := Chg.drew hB157 dw167
 refine WH.tk 0 rfl (fun w' hw' => Rd.ldA rfl ((hw'.1).trans hk152) underlying72 rfl isz72) ⟨(hk169).trans (hk152).symm, (hk171).trans (hk154).symm, (hk172).trans (hk155).symm, (hk174).trans (hkw150).symm, trivial⟩ rfl ?_
 refine WH.tp 1 rfl (.fa underlying27 rfl sizeOf3 dD rfl) ⟨(hk169).trans (hk152).symm, (hk171).trans (hk154).symm, (hk172).trans (hk155).symm, (hk174).trans (hkw150).symm, trivial⟩ rfl ?_
 refine WH.tk 2 rfl (fun w' hw' => Rd.ld (isAgg3 _) rfl ((hw'.2.2.2.1).trans hkw150) rfl) ⟨(hk169).trans (hk152).symm, (hk171).trans (hk154).symm, (hk172).trans (hk155).symm, (hk174).trans (hkw150).symm, trivial⟩ rfl ?_
 refine WH.tp 3 rfl (.cvt underlying3 underlying101 rfl ((IntKind.wrap_u32' _).trans (u32_int _).symm)) ⟨(hk169).trans (hk152).symm, (hk171).trans (hk154).symm, (hk172).trans (hk155).symm, (hk174).trans (hkw150).symm, trivial⟩ rfl ?_
 refine WH.tp 4 rfl (.cvt underlying101 underlying82 rfl (u64w (by have h7 := u32_lt (wholeO S o).1.n; omega))) ⟨(hk169).trans (hk152).symm, (hk171).trans (hk154).symm, (hk172).trans (hk155).symm, (hk174).trans (hkw150).symm, trivial⟩ rfl ?_
 refine WH.tp 5 rfl (.fa underlying27 rfl sizeOf3 dD rfl) ⟨(hk169).trans (hk152).symm, (hk171).trans (hk154).symm, (hk172).trans (hk155).symm, (hk174).trans (hkw150).symm, trivial⟩ rfl ?_
 refine WH.tk 6 rfl (fun w' hw' => Rd.ld (isAgg3 _) rfl ((hw'.2.1).trans hk154) rfl) ⟨(hk169).trans (hk152).symm, (hk171).trans (hk154).symm, (hk172).trans (hk155).symm, (hk174).trans (hkw150).symm, trivial⟩ rfl ?_
 refine WH.tk 10 rfl (fun w' hw' => Rd.ldA rfl ((hw'.2.2.1).trans hk155) underlying27 rfl isz27) ⟨(hk169).trans (hk152).symm, (hk171).trans (hk154).symm, (hk172).trans (hk155).symm, (hk174).trans (hkw150).symm, trivial⟩ rfl ?_
 refine WH.br1 7 rfl ?_
 refine WL.c1 hb51 rfl rfl ((s_FormatUintI (u32 (wholeO S o).1.n) base.n oO oO oO (by have h7 := u32_lt (wholeO S o).1.n; omega) _ (hE.chg hB175 hn))) (fun w176 hw176 => ?_)
 have hF177 := Sto.same (w1 := w176) hF168 (fun k hk hl => hw176.block k hl)
 have hk178 := hk169.below hw176 hk169.lt
 have hk179 := hk170.below hw176 hk170.lt
 have hk180 := hk171.below hw176 hk171.lt
 have hk181 := hk172.below hw176 hk172.lt
 have hk182 := hk173.below hw176 hk173.lt
 have hk183 := hk174.below hw176 hk174.lt
 have hB184 := Chg.low hB175 hw176
 refine WL.nil <| ?_
 refine ⟨⟨(hk178).trans (hk152).symm, (hk180).trans (hk154).symm, (hk181).trans (hk155).symm, (hk183).trans (hkw150).symm, trivial⟩, ?_⟩
 refine WH.br1 8 rfl ?_
 refine WL.c1 hb50 rfl rfl ((s_ToUpper (radL base.n.toNat (u32 (wholeO S o).1.n)) (by have h7 := radL_pow base.n.toNat oO 32 (u32 (wholeO S o).1.n) (u32_lt _); omega) (radL_low base.n.toNat oO oO _) _)) (fun w185 hw185 => ?_)
 have hF186 := Sto.same (w1 := w185) hF177 (fun k hk hl => hw185.block k hl)
 have hk187 := hk178.below hw185 hk178.lt
 have hk188 := hk179.below hw185 hk179.lt
 have hk189 := hk180.below hw185 hk180.lt
 have hk190 := hk181.below hw185 hk181.lt
 have hk191 := hk182.below hw185 hk182.lt
 have hk192 := hk183.below hw185 hk183.lt
 have hB193 := Chg.low hB184 hw185
 have hsz2 := hB184.size
 refine WL.nil <| ?_
 refine ⟨⟨(hk187).trans (hk152).symm, (hk189).trans (hk154).symm, (hk190).trans (hk155).symm, (hk192).trans (hkw150).symm, trivial⟩, ?_⟩
 refine WH.br1 9 rfl ?_
 refine WL.s2b underlying9 underlying35 underlying5 rfl rfl (fun b194 wb194 cs76 eb194 hs76 hcs76 hub194 hsb194 => ?_)
 have hF195 := Sto.same (w1 := wb194) hF186 (fun k hk hl => hub194.other k oO)
 have hl197 : b1 < b194 := by rw [eb194]; exact hk187.lt
 have hk196 := hk187.upd hub194 (Nat.ne_of_lt hl197)
 have hl199 : b5 < b194 := by rw [eb194]; exact hk188.lt
 have hk198 := hk188.upd hub194 (Nat.ne_of_lt hl199)
 have hl201 : b11 < b194 := by rw [eb194]; exact hk189.lt
 have hk200 := hk189.upd hub194 (Nat.ne_of_lt hl201)
 have hl203 : b19 < b194 := by rw [eb194]; exact hk190.lt
 have hk202 := hk190.upd hub194 (Nat.ne_of_lt hl203)
 have hl205 : b29 < b194 := by rw [eb194]; exact hk191.lt
 have hk204 := hk191.upd hub194 (Nat.ne_of_lt hl205)
 have hl207 : b136 < b194 := by rw [eb194]; exact hk192.lt
 have hk206 := hk192.upd hub194 (Nat.ne_of_lt hl207)
 have hgeb194 : w.heap.size ≤ b194 := by rw [eb194]; exact hB193.size
 have hB208 := Chg.upd hB193 hub194 hgeb194
 have hnf209 : ¬ F b194 := fun hq => by have hq1 := (hF186).lt hq; omega
 refine WL.nil <| ?_
 refine ⟨⟨(hk196).trans (hk152).symm, (hk200).trans (hk154).symm, (hk202).trans (hk155).symm, (hk206).trans (hkw150).symm, trivial⟩, ?_⟩
 refine WH.br1 11 rfl ?_
 refine WL.c1 hb22 rfl rfl ((conv_lay b F S _ (radT (wholeO S o).1.n base.n.toNat) _ t _ hF195 hok hs76 (fun h0 hf => absurd (h.lt hf) (by show ¬ (b194 < _); omega)))) (fun w210 hw210 => ?_)
 obtain ⟨F211, hstF211, hCF211, hxF211⟩ := Chg.open hw210
 have hnf212 := Chg.nf hCF211 hnf4 hk196.lt
 have hnf213 := Chg.nf hCF211 hnf10 hk198.lt
 have hnf214 := Chg.nf hCF211 hnf18 hk200.lt
 have hnf215 := Chg.nf hCF211 hnf28 hk202.lt
 have hnf216 := Chg.nf hCF211 hnf40 hk204.lt
 have hnf217 := Chg.nf hCF211 hnf149 hk206.lt
 have hk219 := Blk.chg hk196 hCF211 hnf4
 have hk221 := Blk.chg hk200 hCF211 hnf18
 have hk222 := Blk.chg hk202 hCF211 hnf28
 have hk223 := Blk.chg hk204 hCF211 hnf40
 have hk224 := Blk.chg hk206 hCF211 hnf149
 have hB225 := Chg.trans hB208 hCF211
 refine WL.nil <| ?_
 refine ⟨⟨(hk219).trans (hk152).symm, (hk221).trans (hk154).symm, (hk222).trans (hk155).symm, (hk224).trans (hkw150).symm, trivial⟩, ?_⟩
 refine WH.tp 12 rfl (.ext rfl rfl) ⟨(hk219).trans (hk152).symm, (hk221).trans (hk154).symm, (hk222).trans (hk155).symm, (hk224).trans (hkw150).symm, trivial⟩ rfl ?_
 refine WH.tp 13 rfl (.ext rfl rfl) ⟨(hk219).trans (hk152).symm, (hk221).trans (hk154).symm, (hk222).trans (hk155).symm, (hk224).trans (hkw150).symm, trivial⟩ rfl ?_
 refine WH.br1 14 rfl ?_
 refine WL.stL rfl rfl hk223 isz27 rfl rfl (fun w226 hkw226 huw226 hsw226 => ?_)
 have hF227 := Sto.same (w1 := w226) hstF211 (fun k hk hl => huw226.other k (fun e => hnf216 (e ▸ hk)))
 have hk228 := hk219.up huw226
 have hk230 := hk221.up huw226
 have hk231 := hk222.up huw226
 have hk232 := hk224.up huw226
 have hB233 := Chg.upd hB225 huw226 oO
 refine WL.nil <| ?_
 refine ⟨⟨(hk228).trans (hk152).symm, (hk230).trans (hk154).symm, (hk231).trans (hk155).symm, (hk232).trans (hkw150).symm, trivial⟩, ?_⟩
 refine WH.tp 15 rfl (.as rfl) ⟨(hk228).trans (hk152).symm, (hk230).trans (hk154).symm, (hk231).trans (hk155).symm, (hk232).trans (hkw150).symm, trivial⟩ rfl ?_
 refine WH.done kR ?_
 refine W.ret (W.retc2 rfl rfl (ldRow hkw226 underlying27 rfl isz27) rfl ?_)
 exact ⟨rvE (by rw [hO]; rfl), _, by rw [hT]; exact hF227, hB233⟩
 have g82' := dT g82
 refine WL.gn rfl rfl rfl g82 <| WL.gn rfl rfl rfl g82 <| WL.p (.pkT rfl g82 rfl) rfl <| WL.z rfl rfl ?_
 refine W.condT rfl rfl ?_
 refine W.seq ?_
 have c3 : base.n < 2 ∨ 36 < base.n := by omega
 have hO : radO S o base t = (ob0, 11) := by unfold radO; rw [if_neg c1, if_neg c2, if_pos c3]
 have hT : radS S o base t = S := by unfold radS; rw [if_neg c1, if_neg c2, if_pos c3]
 refine W.reg <| WL.p (.buildL (ps := _) blt27 rfl rfl rfl pZ) rfl ?_
 refine WL.stL rfl rfl hk72 isz27 rfl rfl (fun w234 hkw234 huw234 hsw234 => ?_)
 have hF235 := Sto.same (w1 := w234) hF67 (fun k hk hl => huw234.other k (fun e => hnf40 (e ▸ hk)))
 have hB240 := Chg.upd hB73 huw234 oO
 refine WL.z rfl rfl ?_
 refine W.ret (W.retc2 rfl rfl (ldRow hkw234 underlying27 rfl isz27) rfl ?_)
 exact ⟨rvE (by rw [hO]; rfl), _, by rw [hT]; exact hF235, hB240⟩
 have g41' := ndF g41
 refine WL.gn rfl rfl rfl g41 <| WL.gn rfl rfl rfl g41 <| WL.p (.pkF rfl g41 rfl) rfl <| WL.z rfl rfl ?_
 refine W.condF rfl rfl ?_
 refine W.sr <| WL.p (.fa underlying27 rfl sizeOf3 dD rfl) rfl <| WL.r (Rd.ld (isAgg3 _) rfl hk35 rfl) rfl <| WL.p (.neq rfl rfl) rfl <| WL.z rfl rfl ?_
 refine W.cond rfl (fun h241 => ?_) (fun h241 => ?_)
 have h241' := ndT h241
 have c1 : (o.kind ≠ 1 ∧ o.kind ≠ 2) ∨ base.kind ≠ 1 ∨ t.kind ≠ 6 := by simp_all
 have hO : radO S o base t = (ob0, 16) := if_pos c1
 have hT : radS S o base t = S := if_pos c1
 refine W.skip <| W.condT rfl h241 ?_
 refine W.sr <| WL.p (.buildL (ps := _) blt27 rfl rfl rfl pZ) rfl ?_
 refine WL.stL rfl rfl hkb29 isz27 rfl rfl (fun w242 hkw242 huw242 hsw242 => ?_)
 have hF243 := Sto.same (w1 := w242) hF30 (fun k hk hl => huw242.other k (fun e => hnf40 (e ▸ hk)))
 have hB248 := Chg.upd hB39 huw242 oO
 refine WL.z rfl rfl ?_
 refine W.ret (W.retc2 rfl rfl (ldRow hkw242 underlying27 rfl isz27) rfl ?_)
 exact ⟨rvE (by rw [hO]; rfl), _, by rw [hT]; exact hF243, hB248⟩
 have h241' := ndF h241
 refine W.reg <| WL.p (.fa underlying27 rfl sizeOf3 dD rfl) rfl <| WL.r (Rd.ld (isAgg3 _) rfl hk37 rfl) rfl <| WL.p (.neq rfl rfl) rfl <| WL.z rfl rfl ?_
 refine W.cond rfl (fun h249 => ?_) (fun h249 => ?_)
 have h249' := ndT h249
 have c1 : (o.kind ≠ 1 ∧ o.kind ≠ 2) ∨ base.kind ≠ 1 ∨ t.kind ≠ 6 := by simp_all
 have hO : radO S o base t = (ob0, 16) := if_pos c1
 have hT : radS S o base t = S := if_pos c1
 refine W.sr <| WL.p (.buildL (ps := _) blt27 rfl rfl rfl pZ) rfl ?_
 refine WL.stL rfl rfl hkb29 isz27 rfl rfl (fun w250 hkw250 huw250 hsw250 => ?_)
 have hF251 := Sto.same (w1 := w250) hF30 (fun k hk hl => huw250.other k (fun e => hnf40 (e ▸ hk)))
 have hB256 := Chg.upd hB39 huw250 oO
 refine WL.z rfl rfl ?_
 refine W.ret (W.retc2 rfl rfl (ldRow hkw250 underlying27 rfl isz27) rfl ?_)
 exact ⟨rvE (by rw [hO]; rfl), _, by rw [hT]; exact hF251, hB256⟩
 have h249' := ndF h249
 refine W.seq ?_
 have c1 : ¬ ((o.kind ≠ 1 ∧ o.kind ≠ 2) ∨ base.kind ≠ 1 ∨ t.kind ≠ 6) := by simp_all
 refine W.reg <| WL.r (Rd.ldA rfl hk31 underlying72 rfl isz72) rfl <| WL.r (Rd.ldA rfl hk37 underlying27 rfl isz27) rfl <| WL.c1 hb44 rfl rfl ((conv_writable b F S t _ hF30 hok)) (fun w257 hw257 => ?_)
 have hF258 := Sto.same (w1 := w257) hF30 (fun k hk hl => hw257.block k hl)
 have hk259 := hk31.below hw257 hk31.lt
 have hk260 := hk33.below hw257 hk33.lt
 have hk261 := hk35.below hw257 hk35.lt
 have hk262 := hk37.below hw257 hk37.lt
 have hk263 := hkb29.below hw257 hkb29.lt
 have hB264 := Chg.low hB39 hw257
 refine WL.p (.not rfl) rfl <| WL.z rfl rfl ?_
 refine W.cond rfl (fun h265 => ?_) (fun h265 => ?_)
 have h265' := (nT h265)
 have c2 : accO S t ≠ 0 := by simp_all
 have hO : radO S o base t = (ob0, 5) := by unfold radO; rw [if_neg c1, if_pos c2]
 have hT : radS S o base t = S := by unfold radS; rw [if_neg c1, if_pos c2]
 refine W.sr <| WL.p (.buildL (ps := _) blt27 rfl rfl rfl pZ) rfl ?_
 refine WL.stL rfl rfl hk263 isz27 rfl rfl (fun w266 hkw266 huw266 hsw266 => ?_)
 have hF267 := Sto.same (w1 := w266) hF258 (fun k hk hl => huw266.other k (fun e => hnf40 (e ▸ hk)))
 have hB272 := Chg.upd hB264 huw266 oO
 refine WL.z rfl rfl ?_
 refine W.ret (W.retc2 rfl rfl (ldRow hkw266 underlying27 rfl isz27) rfl ?_)
 exact ⟨rvE (by rw [hO]; rfl), _, by rw [hT]; exact hF267, hB272⟩
 have h265' := (nF h265)
 have c2 : ¬ accO S t ≠ 0 := by simp_all
 refine W.sr <| WL.p (.fa underlying27 rfl sizeOf3 dD rfl) rfl <| WL.r (Rd.ld (isAgg3 _) rfl hk261 rfl) rfl <| WL.p (.lss rfl rfl) rfl <| WL.m rfl rfl <| WL.gd rfl rfl rfl (fun g273 => ?_) (fun g273 => ?_)
 have g273' := dF g273
 refine WL.p (.fa underlying27 rfl sizeOf3 dD rfl) rfl <| WL.gy rfl rfl rfl g273 <| WL.r (Rd.ld (isAgg3 _) rfl hk261 rfl) rfl <| WL.gy rfl rfl rfl g273 <| WL.p (.gtr rfl rfl) rfl <| WL.p (.pkF rfl g273 rfl) rfl <| WL.z rfl rfl ?_
 refine W.cond rfl (fun h274 => ?_) (fun h274 => ?_)
 have h274' := dT h274
 refine W.seq ?_
 have c3 : base.n < 2 ∨ 36 < base.n := by omega
 have hO : radO S o base t = (ob0, 11) := by unfold radO; rw [if_neg c1, if_neg c2, if_pos c3]
 have hT : radS S o base t = S := by unfold radS; rw [if_neg c1, if_neg c2, if_pos c3]
 refine W.reg <| WL.p (.buildL (ps := _) blt27 rfl rfl rfl pZ) rfl ?_
 refine WL.stL rfl rfl hk263 isz27 rfl rfl (fun w275 hkw275 huw275 hsw275 => ?_)
 have hF276 := Sto.same (w1 := w275) hF258 (fun k hk hl => huw275.other k (fun e => hnf40 (e ▸ hk)))
 have hB281 := Chg.upd hB264 huw275 oO
 refine WL.z rfl rfl ?_
 refine W.ret (W.retc2 rfl rfl (ldRow hkw275 underlying27 rfl isz27) rfl ?_)
 exact ⟨rvE (by rw [hO]; rfl), _, by rw [hT]; exact hF276, hB281⟩
 have h274' := dF h274
 have c3 : ¬ (base.n < 2 ∨ 36 < base.n) := by omega
 refine W.sr <| WL.p (.fa underlying27 rfl sizeOf3 dD rfl) rfl <| WL.r (Rd.ld (isAgg3 _) rfl hk261 rfl) rfl <| WL.p (.eql rfl rfl) rfl <| WL.z rfl rfl ?_
 refine W.cond rfl (fun h282 => ?_) (fun h282 => ?_)
 have h282' := dT h282
 have c4 : base.n = 10 := by assumption
 have hO : radO S o base t = layO S (conT S o) t := by unfold radO; rw [if_neg c1, if_neg c2, if_neg c3, if_pos c4]
 have hT : radS S o base t = layS S (conT S o) t := by unfold radS; rw [if_neg c1, if_neg c2, if_neg c3, if_pos c4]
 refine W.seq <| W.regH 11 rfl mixed (fun w' => w'.heap[b1]? = w257.heap[b1]? ∧ w'.heap[b5]? = w257.heap[b5]? ∧ w'.heap[b19]? = w257.heap[b19]? ∧ True) (fun w283 dw283 => ?_)
 have hF284 := Sto.same (w1 := w283) hF258 (fun k hk hl => (by obtain ⟨m, rfl⟩ := dw283; rfl))
 have hk285 := hk259.drew dw283
 have hk286 := hk260.drew dw283
 have hk287 := hk261.drew dw283
 have hk288 := hk262.drew dw283
 have hk289 := hk263.drew dw283
 have hB290 := Chg.drew hB264 dw283
 refine WH.tk 0 rfl (fun w' hw' => Rd.ldA rfl ((hw'.1).trans hk259) underlying72 rfl isz72) ⟨(hk285).trans (hk259).symm, (hk286).trans (hk260).symm, (hk288).trans (hk262).symm, trivial⟩ rfl ?_
 refine WH.tp 1 rfl (.fa underlying72 rfl sizeOf22 dD rfl) ⟨(hk285).trans (hk259).symm, (hk286).trans (hk260).symm, (hk288).trans (hk262).symm, trivial⟩ rfl ?_
 refine WH.tk 2 rfl (fun w' hw' => Rd.ld (isAgg22 _) rfl ((hw'.1).trans hk259) rfl) ⟨(hk285).trans (hk259).symm, (hk286).trans (hk260).symm, (hk288).trans (hk262).symm, trivial⟩ rfl ?_
 refine WH.tk 3 rfl (fun w' hw' => Rd.ldA rfl ((hw'.2.1).trans hk260) underlying27 rfl isz27) ⟨(hk285).trans (hk259).symm, (hk286).trans (hk260).symm, (hk288).trans (hk262).symm, trivial⟩ rfl ?_
 refine WH.tk 5 rfl (fun w' hw' => Rd.ldA rfl ((hw'.2.2.1).trans hk262) underlying27 rfl isz27) ⟨(hk285).trans (hk259).symm, (hk286).trans (hk260).symm, (hk288).trans (hk262).symm, trivial⟩ rfl ?_
 refine WH.br1 4 rfl ?_
 refine WL.call hb23 rfl rfl ((conv_Text b F S o _ hF284 hok (hE.chg hB290 hn) hon)) (fun r w291 hw291 => ?_)
 have hF292 := Sto.same (w1 := w291) hF284 (fun k hk hl => hw291.1.block k hl)
 have hk293 := hk285.below hw291.1 hk285.lt
 have hk294 := hk286.below hw291.1 hk286.lt
 have hk295 := hk287.below hw291.1 hk287.lt
 have hk296 := hk288.below hw291.1 hk288.lt
 have hk297 := hk289.below hw291.1 hk289.lt
 have hB298 := Chg.low hB290 hw291.1
 obtain ⟨pb1, cb1, rfl, hbt1, hge1⟩ := hw291.2
 have hsz1 := hB290.size
 refine WL.nil <| ?_
 refine ⟨⟨(hk293).trans (hk259).symm, (hk294).trans (hk260).symm, (hk296).trans (hk262).symm, trivial⟩, ?_⟩
 refine WH.br1 6 rfl ?_
 refine WL.c1 hb22 rfl rfl ((conv_lay b F S pb1 (conT S o) cb1 t _ hF292 hok hbt1 (fun h0 hf => by have h8 := h.lt hf; have h9 := hge1 h0; omega))) (fun w299 hw299 => ?_)
 obtain ⟨F300, hstF300, hCF300, hxF300⟩ := Chg.open hw299
 have hnf301 := Chg.nf hCF300 hnf4 hk293.lt
 have hnf302 := Chg.nf hCF300 hnf10 hk294.lt
 have hnf303 := Chg.nf hCF300 hnf18 hk295.lt
 have hnf304 := Chg.nf hCF300 hnf28 hk296.lt
 have hnf305 := Chg.nf hCF300 hnf40 hk297.lt
 have hk306 := Blk.chg hk293 hCF300 hnf4
 have hk307 := Blk.chg hk294 hCF300 hnf10
 have hk309 := Blk.chg hk296 hCF300 hnf28
 have hk310 := Blk.chg hk297 hCF300 hnf40
 have hB311 := Chg.trans hB298 hCF300
 refine WL.nil <| ?_
 refine ⟨⟨(hk306).trans (hk259).symm, (hk307).trans (hk260).symm, (hk309).trans (hk262).symm, trivial⟩, ?_⟩
 refine WH.tp 7 rfl (.ext rfl rfl) ⟨(hk306).trans (hk259).symm, (hk307).trans (hk260).symm, (hk309).trans (hk262).symm, trivial⟩ rfl ?_
 refine WH.tp 8 rfl (.ext rfl rfl) ⟨(hk306).trans (hk259).symm, (hk307).trans (hk260).symm, (hk309).trans (hk262).symm, trivial⟩ rfl ?_
 refine WH.br1 9 rfl ?_
 refine WL.stL rfl rfl hk310 isz27 rfl rfl (fun w312 hkw312 huw312 hsw312 => ?_)
 have hF313 := Sto.same (w1 := w312) hstF300 (fun k hk hl => huw312.other k (fun e => hnf305 (e ▸ hk)))
 have hk314 := hk306.up huw312
 have hk315 := hk307.up huw312
 have hk317 := hk309.up huw312
 have hB318 := Chg.upd hB311 huw312 oO
 refine WL.nil <| ?_
 refine ⟨⟨(hk314).trans (hk259).symm, (hk315).trans (hk260).symm, (hk317).trans (hk262).symm, trivial⟩, ?_⟩
 refine WH.tp 10 rfl (.as rfl) ⟨(hk314).trans (hk259).symm, (hk315).trans (hk260).symm, (hk317).trans (hk262).symm, trivial⟩ rfl ?_
 refine WH.done kR ?_
 refine W.ret (W.retc2 rfl rfl (ldRow hkw312 underlying27 rfl isz27) rfl ?_)
 exact ⟨rvE (by rw [hO]; rfl), _, by rw [hT]; exact hF313, hB318⟩
 have h282' := dF h282
 have c4 : ¬ base.n = 10 := by assumption
 refine W.skip <| W.sr <| WL.r (Rd.ldA rfl hk259 underlying72 rfl isz72) rfl <| WL.r (Rd.ldA rfl hk260 underlying27 rfl isz27) rfl <| WL.c1 hb39 rfl rfl ((conv_whole b F S o _ hF258 hok)) (fun w319 hw319 => ?_)
 have hF320 := Sto.same (w1 := w319) hF258 (fun k hk hl => hw319.block k hl)
 have hk321 := hk259.below hw319 hk259.lt
 have hk322 := hk260.below hw319 hk260.lt
 have hk323 := hk261.below hw319 hk261.lt
 have hk324 := hk262.below hw319 hk262.lt
 have hk325 := hk263.below hw319 hk263.lt
 have hB326 := Chg.low hB264 hw319
 refine WL.m rfl rfl <| WL.p (.ext rfl rfl) rfl <| WL.p (.ext rfl rfl) rfl <| WL.alloc zeroValue27 rfl (fun b327 wb327 eb327 hkb327 hub327 hsb327 => ?_)
 have hF328 := Sto.same (w1 := wb327) hF320 (fun k hk hl => hub327.other k oO)
 have hl330 : b1 < b327 := by rw [eb327]; exact hk321.lt
 have hk329 := hk321.upd hub327 (Nat.ne_of_lt hl330)
 have hl332 : b5 < b327 := by rw [eb327]; exact hk322.lt
 have hk331 := hk322.upd hub327 (Nat.ne_of_lt hl332)
 have hl334 : b11 < b327 := by rw [eb327]; exact hk323.lt
 have hk333 := hk323.upd hub327 (Nat.ne_of_lt hl334)
 have hl336 : b19 < b327 := by rw [eb327]; exact hk324.lt
 have hk335 := hk324.upd hub327 (Nat.ne_of_lt hl336)
 have hl338 : b29 < b327 := by rw [eb327]; exact hk325.lt
 have hk337 := hk325.upd hub327 (Nat.ne_of_lt hl338)
 have hgeb327 : w.heap.size ≤ b327 := by rw [eb327]; exact hB326.size
 have hB339 := Chg.upd hB326 hub327 hgeb327
 have hnf340 : ¬ F b327 := fun hq => by have hq1 := (hF320).lt hq; omega
 refine WL.stL rfl rfl hkb327 isz27 rfl rfl (fun w341 hkw341 huw341 hsw341 => ?_)
 have hF342 := Sto.same (w1 := w341) hF328 (fun k hk hl => huw341.other k (fun e => hnf340 (e ▸ hk)))
 have hk343 := hk329.up huw341
 have hk344 := hk331.up huw341
 have hk345 := hk333.up huw341
 have hk346 := hk335.up huw341
 have hk347 := hk337.up huw341
 have hB348 := Chg.upd hB339 huw341 oO
 refine WL.z rfl rfl ?_
 refine W.seq <| W.sr <| WL.m rfl rfl <| WL.p (.neq rfl rfl) rfl <| WL.nil <| ?_
 refine W.cond rfl (fun h349 => ?_) (fun h349 => ?_)
 have h349' := ndT h349
 have c5 : (wholeO S o).2 ≠ 0 := by assumption
 have hO : radO S o base t = (ob0, (wholeO S o).2) := by unfold radO; rw [if_neg c1, if_neg c2, if_neg c3, if_neg c4, if_pos c5]
 have hT : radS S o base t = S := by unfold radS; rw [if_neg c1, if_neg c2, if_neg c3, if_neg c4, if_pos c5]
 refine W.sr <| WL.p (.buildL (ps := _) blt27 rfl rfl rfl pZ) rfl ?_
 refine WL.m rfl rfl <| WL.stL rfl rfl hk347 isz27 rfl rfl (fun w350 hkw350 huw350 hsw350 => ?_)
 have hF351 := Sto.same (w1 := w350) hF342 (fun k hk hl => huw350.other k (fun e => hnf40 (e ▸ hk)))
 have hB357 := Chg.upd hB348 huw350 oO
 refine WL.z rfl rfl ?_
 refine W.ret (W.retc2 rfl rfl (ldRow hkw350 underlying27 rfl isz27) rfl ?_)
 exact ⟨rvE (by rw [hO]; rfl), _, by rw [hT]; exact hF351, hB357⟩
 have h349' := ndF h349
 have c5 : ¬ (wholeO S o).2 ≠ 0 := by simp_all
 have hO : radO S o base t = layO S (radT (wholeO S o).1.n base.n.toNat) t := by unfold radO; rw [if_neg c1, if_neg c2, if_neg c3, if_neg c4, if_neg c5]
 have hT : radS S o base t = layS S (radT (wholeO S o).1.n base.n.toNat) t := by unfold radS; rw [if_neg c1, if_neg c2, if_neg c3, if_neg c4, if_neg c5]
 refine W.skip <| W.seq <| W.regH 16 rfl mixed (fun w' => w'.heap[b1]? = w341.heap[b1]? ∧ w'.heap[b11]? = w341.heap[b11]? ∧ w'.heap[b19]? = w341.heap[b19]? ∧ w'.heap[b327]? = w341.heap[b327]? ∧ True) (fun w358 dw358 => ?_)
 have hF359 := Sto.same (w1 := w358) hF342 (fun k hk hl => (by obtain ⟨m, rfl⟩ := dw358; rfl))
 have hk360 := hk343.drew dw358
 have hk361 := hk344.drew dw358
 have hk362 := hk345.drew dw358
 have hk363 := hk346.drew dw358
 have hk364 := hk347.drew dw358
 have hk365 := hkw341.drew dw358
 have hB366 := Chg.drew hB348 dw358
 refine WH.tk 0 rfl (fun w' hw' => Rd.ldA rfl ((hw'.1).trans hk343) underlying72 rfl isz72) ⟨(hk360).trans (hk343).symm, (hk362).trans (hk345).symm, (hk363).trans (hk346).symm, (hk365).trans (hkw341).symm, trivial⟩ rfl ?_
 refine WH.tp 1 rfl (.fa underlying27 rfl sizeOf3 dD rfl) ⟨(hk360).trans (hk343).symm, (hk362).trans (hk345).symm, (hk363).trans (hk346).symm, (hk365).trans (hkw341).symm, trivial⟩ rfl ?_
 refine WH.tk 2 rfl (fun w' hw' => Rd.ld (isAgg3 _) rfl ((hw'.2.2.2.1).trans hkw341) rfl) ⟨(hk360).trans (hk343).symm, (hk362).trans (hk345).symm, (hk363).trans (hk346).symm, (hk365).trans (hkw341).symm, trivial⟩ rfl ?_
 refine WH.tp 3 rfl (.cvt underlying3 underlying101 rfl ((IntKind.wrap_u32' _).trans (u32_int _).symm)) ⟨(hk360).trans (hk343).symm, (hk362).trans (hk345).symm, (hk363).trans (hk346).symm, (hk365).trans (hkw341).symm, trivial⟩ rfl ?_
 refine WH.tp 4 rfl (.cvt underlying101 underlying82 rfl (u64w (by have h7 := u32_lt (wholeO S o).1.n; omega))) ⟨(hk360).trans (hk343).symm, (hk362).trans (hk345).symm, (hk363).trans (hk346).symm, (hk365).trans (hkw341).symm, trivial⟩ rfl ?_
 refine WH.tp 5 rfl (.fa underlying27 rfl sizeOf3 dD rfl) ⟨(hk360).trans (hk343).symm, (hk362).trans (hk345).symm, (hk363).trans (hk346).symm, (hk365).trans (hkw341).symm, trivial⟩ rfl ?_
 refine WH.tk 6 rfl (fun w' hw' => Rd.ld (isAgg3 _) rfl ((hw'.2.1).trans hk345) rfl) ⟨(hk360).trans (hk343).symm, (hk362).trans (hk345).symm, (hk363).trans (hk346).symm, (hk365).trans (hkw341).symm, trivial⟩ rfl ?_
 refine WH.tk 10 rfl (fun w' hw' => Rd.ldA rfl ((hw'.2.2.1).trans hk346) underlying27 rfl isz27) ⟨(hk360).trans (hk343).symm, (hk362).trans (hk345).symm, (hk363).trans (hk346).symm, (hk365).trans (hkw341).symm, trivial⟩ rfl ?_
 refine WH.br1 7 rfl ?_
 refine WL.c1 hb51 rfl rfl ((s_FormatUintI (u32 (wholeO S o).1.n) base.n oO oO oO (by have h7 := u32_lt (wholeO S o).1.n; omega) _ (hE.chg hB366 hn))) (fun w367 hw367 => ?_)
 have hF368 := Sto.same (w1 := w367) hF359 (fun k hk hl => hw367.block k hl)
 have hk369 := hk360.below hw367 hk360.lt
 have hk370 := hk361.below hw367 hk361.lt
 have hk371 := hk362.below hw367 hk362.lt
 have hk372 := hk363.below hw367 hk363.lt
 have hk373 := hk364.below hw367 hk364.lt
 have hk374 := hk365.below hw367 hk365.lt
 have hB375 := Chg.low hB366 hw367
 refine WL.nil <| ?_
 refine ⟨⟨(hk369).trans (hk343).symm, (hk371).trans (hk345).symm, (hk372).trans (hk346).symm, (hk374).trans (hkw341).symm, trivial⟩, ?_⟩
 refine WH.br1 8 rfl ?_
 refine WL.c1 hb50 rfl rfl ((s_ToUpper (radL base.n.toNat (u32 (wholeO S o).1.n)) (by have h7 := radL_pow base.n.toNat oO 32 (u32 (wholeO S o).1.n) (u32_lt _); omega) (radL_low base.n.toNat oO oO _) _)) (fun w376 hw376 => ?_)
 have hF377 := Sto.same (w1 := w376) hF368 (fun k hk hl => hw376.block k hl)
 have hk378 := hk369.below hw376 hk369.lt
 have hk379 := hk370.below hw376 hk370.lt
 have hk380 := hk371.below hw376 hk371.lt
 have hk381 := hk372.below hw376 hk372.lt
 have hk382 := hk373.below hw376 hk373.lt
 have hk383 := hk374.below hw376 hk374.lt
 have hB384 := Chg.low hB375 hw376
 have hsz2 := hB375.size
 refine WL.nil <| ?_
 refine ⟨⟨(hk378).trans (hk343).symm, (hk380).trans (hk345).symm, (hk381).trans (hk346).symm, (hk383).trans (hkw341).symm, trivial⟩, ?_⟩
 refine WH.br1 9 rfl ?_
 refine WL.s2b underlying9 underlying35 underlying5 rfl rfl (fun b385 wb385 cs76 eb385 hs76 hcs76 hub385 hsb385 => ?_)
 have hF386 := Sto.same (w1 := wb385) hF377 (fun k hk hl => hub385.other k oO)
 have hl388 : b1 < b385 := by rw [eb385]; exact hk378.lt
 have hk387 := hk378.upd hub385 (Nat.ne_of_lt hl388)
 have hl390 : b5 < b385 := by rw [eb385]; exact hk379.lt
 have hk389 := hk379.upd hub385 (Nat.ne_of_lt hl390)
 have hl392 : b11 < b385 := by rw [eb385]; exact hk380.lt
 have hk391 := hk380.upd hub385 (Nat.ne_of_lt hl392)
 have hl394 : b19 < b385 := by rw [eb385]; exact hk381.lt
 have hk393 := hk381.upd hub385 (Nat.ne_of_lt hl394)
 have hl396 : b29 < b385 := by rw [eb385]; exact hk382.lt
 have hk395 := hk382.upd hub385 (Nat.ne_of_lt hl396)
 have hl398 : b327 < b385 := by rw [eb385]; exact hk383.lt
 have hk397 := hk383.upd hub385 (Nat.ne_of_lt hl398)
 have hgeb385 : w.heap.size ≤ b385 := by rw [eb385]; exact hB384.size
 have hB399 := Chg.upd hB384 hub385 hgeb385
 have hnf400 : ¬ F b385 := fun hq => by have hq1 := (hF377).lt hq; omega
 refine WL.nil <| ?_
 refine ⟨⟨(hk387).trans (hk343).symm, (hk391).trans (hk345).symm, (hk393).trans (hk346).symm, (hk397).trans (hkw341).symm, trivial⟩, ?_⟩
 refine WH.br1 11 rfl ?_
 refine WL.c1 hb22 rfl rfl ((conv_lay b F S _ (radT (wholeO S o).1.n base.n.toNat) _ t _ hF386 hok hs76 (fun h0 hf => absurd (h.lt hf) (by show ¬ (b385 < _); omega)))) (fun w401 hw401 => ?_)
 obtain ⟨F402, hstF402, hCF402, hxF402⟩ := Chg.open hw401
 have hnf403 := Chg.nf hCF402 hnf4 hk387.lt
 have hnf404 := Chg.nf hCF402 hnf10 hk389.lt
 have hnf405 := Chg.nf hCF402 hnf18 hk391.lt
 have hnf406 := Chg.nf hCF402 hnf28 hk393.lt
 have hnf407 := Chg.nf hCF402 hnf40 hk395.lt
 have hnf408 := Chg.nf hCF402 hnf340 hk397.lt
 have hk410 := Blk.chg hk387 hCF402 hnf4
 have hk412 := Blk.chg hk391 hCF402 hnf18
 have hk413 := Blk.chg hk393 hCF402 hnf28
 have hk414 := Blk.chg hk395 hCF402 hnf40
 have hk415 := Blk.chg hk397 hCF402 hnf340
 have hB416 := Chg.trans hB399 hCF402
 refine WL.nil <| ?_
 refine ⟨⟨(hk410).trans (hk343).symm, (hk412).trans (hk345).symm, (hk413).trans (hk346).symm, (hk415).trans (hkw341).symm, trivial⟩, ?_⟩
 refine WH.tp 12 rfl (.ext rfl rfl) ⟨(hk410).trans (hk343).symm, (hk412).trans (hk345).symm, (hk413).trans (hk346).symm, (hk415).trans (hkw341).symm, trivial⟩ rfl ?_
 refine WH.tp 13 rfl (.ext rfl rfl) ⟨(hk410).trans (hk343).symm, (hk412).trans (hk345).symm, (hk413).trans (hk346).symm, (hk415).trans (hkw341).symm, trivial⟩ rfl ?_
 refine WH.br1 14 rfl ?_
 refine WL.stL rfl rfl hk414 isz27 rfl rfl (fun w417 hkw417 huw417 hsw417 => ?_)
 have hF418 := Sto.same (w1 := w417) hstF402 (fun k hk hl => huw417.other k (fun e => hnf407 (e ▸ hk)))
 have hk419 := hk410.up huw417
 have hk421 := hk412.up huw417
 have hk422 := hk413.up huw417
 have hk423 := hk415.up huw417
 have hB424 := Chg.upd hB416 huw417 oO
 refine WL.nil <| ?_
 refine ⟨⟨(hk419).trans (hk343).symm, (hk421).trans (hk345).symm, (hk422).trans (hk346).symm, (hk423).trans (hkw341).symm, trivial⟩, ?_⟩
 refine WH.tp 15 rfl (.as rfl) ⟨(hk419).trans (hk343).symm, (hk421).trans (hk345).symm, (hk422).trans (hk346).symm, (hk423).trans (hkw341).symm, trivial⟩ rfl ?_
 refine WH.done kR ?_
 refine W.ret (W.retc2 rfl rfl (ldRow hkw417 underlying27 rfl isz27) rfl ?_)
 exact ⟨rvE (by rw [hO]; rfl), _, by rw [hT]; exact hF418, hB424⟩
 have g273' := dT g273
 refine WL.gn rfl rfl rfl g273 <| WL.gn rfl rfl rfl g273 <| WL.p (.pkT rfl g273 rfl) rfl <| WL.z rfl rfl ?_
 refine W.condT rfl rfl ?_
 refine W.seq ?_
 have c3 : base.n < 2 ∨ 36 < base.n := by omega
 have hO : radO S o base t = (ob0, 11) := by unfold radO; rw [if_neg c1, if_neg c2, if_pos c3]
 have hT : radS S o base t = S := by unfold radS; rw [if_neg c1, if_neg c2, if_pos c3]
 refine W.reg <| WL.p (.buildL (ps := _) blt27 rfl rfl rfl pZ) rfl ?_
 refine WL.stL rfl rfl hk263 isz27 rfl rfl (fun w425 hkw425 huw425 hsw425 => ?_)
 have hF426 := Sto.same (w1 := w425) hF258 (fun k hk hl => huw425.other k (fun e => hnf40 (e ▸ hk)))
 have hB431 := Chg.upd hB264 huw425 oO
 refine WL.z rfl rfl ?_
 refine W.ret (W.retc2 rfl rfl (ldRow hkw425 underlying27 rfl isz27) rfl ?_)
 exact ⟨rvE (by rw [hO]; rfl), _, by rw [hT]; exact hF426, hB431⟩
end
section
theorem St.noteBelow {lab : Lab} {w w1 : World} {b : Nat} {H : StH} {S : StoV} (hS : St lab w b H S) (hlt : ∀ g, lab g ≠ .no → g < w.heap.size) (hb : Below w.heap.size w w1) : St lab w1 b H S := hS.same fun g hg => hb.block g (hlt g hg)
theorem notin_of {b g : Nat} {o : Option Nat} (h1 : g ≠ b) (h2 : o ≠ some g) : g ∉ b :: o.toList := by
 simp only [List.mem_cons, Option.mem_toList, not_or]; exact ⟨h1, h2⟩
set_option maxHeartbeats 1600000 in
theorem sto_note (lab : Lab) (b : Nat) (H : StH) (S : StoV) (c : ChV) (w : World) (hS : St lab w b H S) (hlt : ∀ g, lab g ≠ .no → g < w.heap.size) (hch : S.changes.length ≤ 800000000000) :
  Calls Tryz.prog 53 #[.pointer (some ⟨b, 0, none⟩), .agg (chL.V c).toArray] w fun e w' => e = .returned (.tuple #[]) ∧
   ∃ lab1 vc1, St lab1 w' b { H with vc := vc1 } (noteS S c) ∧ (∀ g, lab1 g ≠ .no → g < w'.heap.size) ∧ (∀ g, lab1 g ≠ .no → lab g ≠ .no ∨ w.heap.size ≤ g) ∧ (∀ g, g < w.heap.size → lab1 g = lab g) ∧ KeepB w.heap.size (b :: H.vc.ownBlock.toList) w w' := by
 obtain ⟨pt, ct, pl, cl, pd, cd, pc, cc, pm, cm, hr, evt, evl, evd, evc, evm, -⟩ := hS.opn
 have hbl := hr.lt
 have hoc : OwnM chL 114 0 w (.slice pc S.changes.length cc) S.changes := evc ▸ hS.oc
 have hvcl : ∀ g, H.vc.ownBlock = some g → g < w.heap.size := fun g hg => hlt g (by rw [hS.lc g hg]; nofun)
 have hbv : H.vc.ownBlock ≠ some b := fun e => by have := hS.lc b e; rw [hS.lb] at this; cases this
 refine W.enter func53 rfl ntmps53 (Nat.le_of_ble_eq_true rfl) ?_
 have hB0 := KeepB.refl w.heap.size (b :: H.vc.ownBlock.toList) w
 refine W.sr <| WL.box rfl rfl (fun b1 wb1 eb1 hkb1 hub1 hsb1 => ?_)
 have ho2 := OwnM.new hoc eb1 hub1
 have hl4 : b < b1 := by rw [eb1]; exact hr.lt
 have hk3 := hr.upd hub1 (Nat.ne_of_lt hl4)
 have hgeb1 : w.heap.size ≤ b1 := by rw [eb1]; exact hB0.size
 have hB5 := KeepB.trans hB0 (KeepB.of_new hub1 hgeb1)
 refine WL.nil <| ?_
 refine W.sr <| WL.m rfl rfl <| WL.p (.nck rfl) rfl <| WL.p (.fa underlying65 rfl sizeOf63 dD rfl) rfl <| WL.r (Rd.ld (isAgg63 _) rfl hk3 rfl) rfl <| WL.p (.lenS underlying63 rfl) rfl <| WL.p (.gtr rfl rfl) rfl <| WL.nil <| ?_
 refine W.cond rfl (fun h6 => ?_) (fun h6 => ?_)
 have h6' := dT h6
 have hN : noteS S c = { S with changes := S.changes ++ [c] } := if_pos oO
 refine W.regY 11 rfl mixed (fun w7 dw7 => ?_)
 have ho8 := OwnM.drew ho2 dw7
 have hk9 := hk3.drew dw7
 have hk10 := hkb1.drew dw7
 have hB11 := KeepB.trans hB5 (KeepB.of_drew dw7)
 refine WY.tk 0 rfl (.mv rfl) rfl ?_
 refine WY.tk 1 rfl (.mv rfl) rfl ?_
 refine WY.tk 2 rfl (.nck rfl) rfl ?_
 refine WY.tk 3 rfl (.fa underlying65 rfl sizeOf62 dD rfl) rfl ?_
 refine WY.br2 4 rfl 5 rfl ?_ ?_
 refine WL.r (Rd.ld (isAgg62 _) rfl hk9 rfl) rfl <| WL.nil <| ?_
 refine WY.br1 5 rfl ?_
 refine WL.r (Rd.ldA rfl hk10 underlying114 rfl isz114) rfl <| WL.nil <| ?_
 refine WY.br1 6 rfl ?_
 refine WL.bslM (L := chL) (ps := _) ([c]) underlying62 sizeOf114 zeroValue114 rfl rfl rfl rfl rfl (by first | rfl | decide) rfl rfl (fun b12 wb12 eb12 hob12 hub12 hsb12 => ?_)
 have ho13 := OwnM.new ho8 eb12 hub12
 have hl15 : b < b12 := by rw [eb12]; exact hk9.lt
 have hk14 := hk9.upd hub12 (Nat.ne_of_lt hl15)
 have hl17 : b1 < b12 := by rw [eb12]; exact hk10.lt
 have hgeb12 : w.heap.size ≤ b12 := by rw [eb12]; exact hB11.size
 have hB18 := KeepB.trans hB11 (KeepB.of_new hub12 hgeb12)
 have hleb12 : b12 ≤ wb12.heap.size := by omega
 refine WL.nil <| ?_
 refine WY.br1 7 rfl ?_
 have hsb := hB18.size
 refine WL.appMb underlying62 inf114 rfl rfl rfl ho13 rfl (hob12).rowp (by simp only [List.length_cons, List.length_nil]; omega) (by simp only [List.length_cons, List.length_nil]; omega) (z_le) rfl (fun h => absurd h (List.cons_ne_nil _ _)) (fun v19 w20 how20 hbw20 hgw20 hfw20 => ?_)
 have hk21 := hk14.grown hgw20 (by rw [← evc]; exact hbv)
 have hB23 := KeepB.trans hB18 (KeepB.of_grown hgw20 (fun g hg => .inl (List.mem_cons_of_mem _ (Option.mem_toList.2 (by rw [evc]; exact hg)))) hB18.size)
 have hnf0 := hfw20
 refine WL.nil <| ?_
 refine WY.tk 8 rfl (.nck rfl) rfl ?_
 refine WY.tk 9 rfl (.fa underlying65 rfl sizeOf62 dD rfl) rfl ?_
 refine WY.br1 10 rfl ?_
 refine WL.st sizeOf62 rfl rfl (how20).one hk21 oD (fun w24 hkw24 huw24 hsw24 => ?_)
 have hkw24 : Blk w24 b _ _ := hkw24
 have huw24 : Upd b _ _ := huw24
 have ho25 := OwnM.upd how20 huw24 (fun g hg e => by subst e; rcases hnf0 _ hg with h | h <;> first | exact hbv (by rw [evc]; exact h) | omega)
 have hB27 := KeepB.trans hB23 (by first | exact KeepB.of_new huw24 oO | exact KeepB.of_mem huw24 (by simp))
 have hov := ho25
 refine WL.nil <| ?_
 refine WY.done kR ?_
 refine W.norm (W.ret0 rfl ?_)
 rw [hN]
 have hnf1 : ∀ g, _ = some g → H.vc.ownBlock = some g ∨ w.heap.size ≤ g := fun g hg => (hnf0 g hg).imp (fun h => by rw [evc]; exact h) (fun h => Nat.le_trans hsb h)
 obtain ⟨hA, hold⟩ := hS.addK (o1 := none) (t1 := .no) (w3 := w24) hS.lc (fun g hg => by cases hg) hnf1 (fun g h1 h2 h3 => hB27.block g h1 (notin_of h2 h3))
 obtain ⟨q1, q2⟩ := St.addNew (w := w) (w3 := w24) (o1 := none) (t1 := .no) hS.lc (by nofun) hlt (fun g hg => by cases hg) (fun g hg => ⟨hnf1 g hg, (hov.lt g hg).2⟩) hB27.size
 obtain ⟨lab3, hS3, hlt3, hnew3, hold3⟩ : ∃ lab3, St lab3 w24 b { H with vc := _ } { S with changes := S.changes ++ [c] } ∧ (∀ g, lab3 g ≠ .no → g < w24.heap.size) ∧ (∀ g, lab3 g ≠ .no → lab g ≠ .no ∨ w.heap.size ≤ g) ∧ (∀ g, g < w.heap.size → lab3 g = lab g) := ⟨_, hS.addChangeK hlt hA hold (by rw [evt, evl, evd, evm]; exact hkw24) hov, q1, q2, hold⟩
 exact ⟨rfl, lab3, _, hS3, hlt3, hnew3, hold3, hB27⟩
 refine WL.r (Rd.ldA rfl hk10 underlying114 rfl isz114) rfl <| WL.nil <| ?_
 refine WY.br2 4 rfl 6 rfl ?_ ?_
 refine WL.r (Rd.ld (isAgg62 _) rfl hk9 rfl) rfl <| WL.nil <| ?_
 refine WY.br1 6 rfl ?_
 refine WL.bslM (L := chL) (ps := _) ([c]) underlying62 sizeOf114 zeroValue114 rfl rfl rfl rfl rfl (by first | rfl | decide) rfl rfl (fun b28 wb28 eb28 hob28 hub28 hsb28 => ?_)
 have ho29 := OwnM.new ho8 eb28 hub28
 have hl31 : b < b28 := by rw [eb28]; exact hk9.lt
 have hk30 := hk9.upd hub28 (Nat.ne_of_lt hl31)
 have hl33 : b1 < b28 := by rw [eb28]; exact hk10.lt
 have hgeb28 : w.heap.size ≤ b28 := by rw [eb28]; exact hB11.size
 have hB34 := KeepB.trans hB11 (KeepB.of_new hub28 hgeb28)
 have hleb28 : b28 ≤ wb28.heap.size := by omega
 refine WL.nil <| ?_
 refine WY.br1 7 rfl ?_
 have hsb := hB34.size
 refine WL.appMb underlying62 inf114 rfl rfl rfl ho29 rfl (hob28).rowp (by simp only [List.length_cons, List.length_nil]; omega) (by simp only [List.length_cons, List.length_nil]; omega) (z_le) rfl (fun h => absurd h (List.cons_ne_nil _ _)) (fun v35 w36 how36 hbw36 hgw36 hfw36 => ?_)
 have hk37 := hk30.grown hgw36 (by rw [← evc]; exact hbv)
 have hB39 := KeepB.trans hB34 (KeepB.of_grown hgw36 (fun g hg => .inl (List.mem_cons_of_mem _ (Option.mem_toList.2 (by rw [evc]; exact hg)))) hB34.size)
 have hnf0 := hfw36
 refine WL.nil <| ?_
 refine WY.tk 8 rfl (.nck rfl) rfl ?_
 refine WY.tk 9 rfl (.fa underlying65 rfl sizeOf62 dD rfl) rfl ?_
 refine WY.br1 10 rfl ?_
 refine WL.st sizeOf62 rfl rfl (how36).one hk37 oD (fun w40 hkw40 huw40 hsw40 => ?_)
 have hkw40 : Blk w40 b _ _ := hkw40
 have huw40 : Upd b _ _ := huw40
 have ho41 := OwnM.upd how36 huw40 (fun g hg e => by subst e; rcases hnf0 _ hg with h | h <;> first | exact hbv (by rw [evc]; exact h) | omega)
 have hB43 := KeepB.trans hB39 (by first | exact KeepB.of_new huw40 oO | exact KeepB.of_mem huw40 (by simp))
 have hov := ho41
 refine WL.nil <| ?_
 refine WY.done kR ?_
 refine W.norm (W.ret0 rfl ?_)
 rw [hN]
 have hnf1 : ∀ g, _ = some g → H.vc.ownBlock = some g ∨ w.heap.size ≤ g := fun g hg => (hnf0 g hg).imp (fun h => by rw [evc]; exact h) (fun h => Nat.le_trans hsb h)
 obtain ⟨hA, hold⟩ := hS.addK (o1 := none) (t1 := .no) (w3 := w40) hS.lc (fun g hg => by cases hg) hnf1 (fun g h1 h2 h3 => hB43.block g h1 (notin_of h2 h3))
 obtain ⟨q1, q2⟩ := St.addNew (w := w) (w3 := w40) (o1 := none) (t1 := .no) hS.lc (by nofun) hlt (fun g hg => by cases hg) (fun g hg => ⟨hnf1 g hg, (hov.lt g hg).2⟩) hB43.size
 obtain ⟨lab3, hS3, hlt3, hnew3, hold3⟩ : ∃ lab3, St lab3 w40 b { H with vc := _ } { S with changes := S.changes ++ [c] } ∧ (∀ g, lab3 g ≠ .no → g < w40.heap.size) ∧ (∀ g, lab3 g ≠ .no → lab g ≠ .no ∨ w.heap.size ≤ g) ∧ (∀ g, g < w.heap.size → lab3 g = lab g) := ⟨_, hS.addChangeK hlt hA hold (by rw [evt, evl, evd, evm]; exact hkw40) hov, q1, q2, hold⟩
 exact ⟨rfl, lab3, _, hS3, hlt3, hnew3, hold3, hB43⟩
 refine WL.bslM (L := chL) (ps := _) ([c]) underlying62 sizeOf114 zeroValue114 rfl rfl rfl rfl rfl (by first | rfl | decide) rfl rfl (fun b44 wb44 eb44 hob44 hub44 hsb44 => ?_)
 have ho45 := OwnM.new ho8 eb44 hub44
 have hl47 : b < b44 := by rw [eb44]; exact hk9.lt
 have hk46 := hk9.upd hub44 (Nat.ne_of_lt hl47)
 have hl49 : b1 < b44 := by rw [eb44]; exact hk10.lt
 have hgeb44 : w.heap.size ≤ b44 := by rw [eb44]; exact hB11.size
 have hB50 := KeepB.trans hB11 (KeepB.of_new hub44 hgeb44)
 have hleb44 : b44 ≤ wb44.heap.size := by omega
 refine WL.nil <| ?_
 refine WY.br1 4 rfl ?_
 refine WL.r (Rd.ld (isAgg62 _) rfl hk46 rfl) rfl <| WL.nil <| ?_
 refine WY.br1 7 rfl ?_
 have hsb := hB50.size
 refine WL.appMb underlying62 inf114 rfl rfl rfl ho45 rfl (hob44).rowp (by simp only [List.length_cons, List.length_nil]; omega) (by simp only [List.length_cons, List.length_nil]; omega) (z_le) rfl (fun h => absurd h (List.cons_ne_nil _ _)) (fun v51 w52 how52 hbw52 hgw52 hfw52 => ?_)
 have hk53 := hk46.grown hgw52 (by rw [← evc]; exact hbv)
 have hB55 := KeepB.trans hB50 (KeepB.of_grown hgw52 (fun g hg => .inl (List.mem_cons_of_mem _ (Option.mem_toList.2 (by rw [evc]; exact hg)))) hB50.size)
 have hnf0 := hfw52
 refine WL.nil <| ?_
 refine WY.tk 8 rfl (.nck rfl) rfl ?_
 refine WY.tk 9 rfl (.fa underlying65 rfl sizeOf62 dD rfl) rfl ?_
 refine WY.br1 10 rfl ?_
 refine WL.st sizeOf62 rfl rfl (how52).one hk53 oD (fun w56 hkw56 huw56 hsw56 => ?_)
 have hkw56 : Blk w56 b _ _ := hkw56
 have huw56 : Upd b _ _ := huw56
 have ho57 := OwnM.upd how52 huw56 (fun g hg e => by subst e; rcases hnf0 _ hg with h | h <;> first | exact hbv (by rw [evc]; exact h) | omega)
 have hB59 := KeepB.trans hB55 (by first | exact KeepB.of_new huw56 oO | exact KeepB.of_mem huw56 (by simp))
 have hov := ho57
 refine WL.nil <| ?_
 refine WY.done kR ?_
 refine W.norm (W.ret0 rfl ?_)
 rw [hN]
 have hnf1 : ∀ g, _ = some g → H.vc.ownBlock = some g ∨ w.heap.size ≤ g := fun g hg => (hnf0 g hg).imp (fun h => by rw [evc]; exact h) (fun h => Nat.le_trans hsb h)
 obtain ⟨hA, hold⟩ := hS.addK (o1 := none) (t1 := .no) (w3 := w56) hS.lc (fun g hg => by cases hg) hnf1 (fun g h1 h2 h3 => hB59.block g h1 (notin_of h2 h3))
 obtain ⟨q1, q2⟩ := St.addNew (w := w) (w3 := w56) (o1 := none) (t1 := .no) hS.lc (by nofun) hlt (fun g hg => by cases hg) (fun g hg => ⟨hnf1 g hg, (hov.lt g hg).2⟩) hB59.size
 obtain ⟨lab3, hS3, hlt3, hnew3, hold3⟩ : ∃ lab3, St lab3 w56 b { H with vc := _ } { S with changes := S.changes ++ [c] } ∧ (∀ g, lab3 g ≠ .no → g < w56.heap.size) ∧ (∀ g, lab3 g ≠ .no → lab g ≠ .no ∨ w.heap.size ≤ g) ∧ (∀ g, g < w.heap.size → lab3 g = lab g) := ⟨_, hS.addChangeK hlt hA hold (by rw [evt, evl, evd, evm]; exact hkw56) hov, q1, q2, hold⟩
 exact ⟨rfl, lab3, _, hS3, hlt3, hnew3, hold3, hB59⟩
 have h6' := dF h6
 have hN : noteS S c = S := if_neg oO
 refine W.skip ?_
 refine W.norm (W.ret0 rfl ?_)
 have hbw : Below w.heap.size w wb1 := Upd.below (Below.refl _ _) oO hub1
 rw [hN]; exact ⟨rfl, lab, H.vc, hS.noteBelow hlt hbw, fun g hg => Nat.lt_of_lt_of_le (hlt g hg) hbw.size, fun g hg => .inl hg, fun g hg => rfl, hB5⟩
def lockE (S : StoV) (o : ObjV) (a : Int) : Int := if isDict S o = true ∧ 0 ≤ a ∧ a ≤ 3 then 0 else 21
def lockS (S : StoV) (o : ObjV) (a : Int) : StoV :=
 if lockE S o a = 0 then { noteS S ⟨4, o.ref, (S.dicts.getD o.ref.toNat dic0).access, (ob0, ob0)⟩ with dicts := S.dicts.set o.ref.toNat { S.dicts.getD o.ref.toNat dic0 with access := a } } else S
theorem noteS_dicts (S : StoV) (c : ChV) : (noteS S c).dicts = S.dicts := by unfold noteS; split <;> rfl
set_option maxHeartbeats 1600000 in
theorem sto_Lock (b : Nat) (F : Nat → Prop) (S : StoV) (o : ObjV) (a : Int) (w : World) (h : Sto w b F S) (hok : SOk S) (hch : S.changes.length ≤ 800000000000) :
    Calls Tryz.prog 34 #[.pointer (some ⟨b, 0, none⟩), .agg (objV o).toArray, .int .i64 a] w fun e w' => e = .returned (.int .i64 (lockE S o a)) ∧ ∃ F1, Sto w' b F1 (lockS S o a) ∧ Chg F F1 w w' := by
  refine W.enter func34 rfl ntmps34 (Nat.le_of_ble_eq_true rfl) ?_
  have hB0 := Chg.refl F w
  refine W.sr <| WL.box rfl rfl (fun b1 wb1 eb1 hkb1 hub1 hsb1 => ?_)
  have hF2 := Sto.same (w1 := wb1) h (fun k hk hl => hub1.other k oO)
  have hgeb1 : w.heap.size ≤ b1 := by rw [eb1]; exact hB0.size
  have hB3 := Chg.upd hB0 hub1 hgeb1
  have hnf4 : ¬ F b1 := fun hq => by have hq1 := (h).lt hq; omega
  refine WL.z rfl rfl ?_
  refine W.seq <| W.sr <| WL.m rfl rfl <| WL.r (Rd.ldA rfl hkb1 underlying27 rfl isz27) rfl <| WL.c1 hb25 rfl rfl ((sto_is b F S o 8 _ hF2 hok)) (fun w5 hw5 => ?_)
  have hF6 := Sto.same (w1 := w5) hF2 (fun k hk hl => hw5.block k hl)
  have hk7 := hkb1.below hw5 hkb1.lt
  have hB8 := Chg.low hB3 hw5
  refine WL.p (.not rfl) rfl <| WL.m rfl rfl <| WL.gd rfl rfl rfl (fun g9 => ?_) (fun g9 => ?_)
  · have g9' := (nF g9)
    refine WL.m rfl rfl <| WL.gy rfl rfl rfl (by rw [(nF g9)] <;> rfl) <| WL.p (.lss rfl rfl) rfl <| WL.p (.pkF rfl (by rw [(nF g9)] <;> rfl) rfl) rfl <| WL.m rfl rfl <| WL.gd rfl rfl rfl (fun g10 => ?_) (fun g10 => ?_)
    · have g10' := dF g10
      refine WL.m rfl rfl <| WL.gy rfl rfl rfl g10 <| WL.p (.gtr rfl rfl) rfl <| WL.p (.pkF rfl g10 rfl) rfl <| WL.nil <| ?_
      refine W.cond rfl (fun h11 => ?_) (fun h11 => ?_)
      · have h11' := dT h11
        refine W.sr <| WL.z rfl rfl ?_
        refine W.ret (W.ret1 rfl rfl ?_)
        first
        | exact ⟨riE hE.symm, _, hF6, hB8⟩
        | (have hE : lockE S o a = 21 := if_neg (fun hq => by obtain ⟨q1, q2, q3⟩ := hq; unfold isDict at q1; first | omega | simp_all)
           exact ⟨riE hE.symm, _, (by unfold lockS; rw [if_neg (by rw [hE]; decide)]; exact hF6), hB8⟩)
      have h11' := dF h11
      refine W.skip <| W.seq ?_
      have hv : isDict S o = true := by unfold isDict; simp_all
      have hE : lockE S o a = 0 := if_pos ⟨hv, by omega⟩
      obtain ⟨i, e1, hi⟩ := isDict_at hv
      have hst := hF6
      obtain ⟨lab, H, hF, hlt, hS⟩ := hst
      obtain ⟨pt, ct, pl, cl, pd, cd, pc, cc, pm, cm, hr, -, -, -, -, -, -, -, hrd⟩ := hS.opn
      have hrd1 := hrd.atP
      have hi1 : i < H.ds.length := by rw [hS.di.len]; exact hi
      have hi2 : i < H.dp.length := by rw [hS.di.len2]; exact hi
      obtain ⟨hkd, hld, -, -⟩ := hS.di.el i _ _ _ (get_of hi1) (get_of hi2) (get_of hi)
      have hSL0 : StL w5.heap.size lab w5 b H S := ⟨hlt, hlt, hS⟩
      refine W.regQ mixed kR ?_
      refine WQ.p (.mv rfl) rfl <| WQ.p (.nck rfl) rfl <| WQ.p (.fa underlying65 rfl sizeOf61 dD rfl) rfl <| WQ.r (fun m => Rd.ld (isAgg61 _) rfl hr rfl) rfl <| WQ.p (.fa underlying27 rfl sizeOf3 dD rfl) rfl <| WQ.r (fun m => Rd.ld (isAgg3 _) rfl hk7 rfl) rfl <| WQ.p (.ixb underlying61 sizeOf106 rfl rfl (hrd1.isp oO) (i) oO (hi1)) rfl <| WQ.r (fun m => Rd.ldc (isAgg106 _) rfl ((hrd1.drewN m).cells (i) (hi1))) rfl <| WQ.p (.as rfl) rfl <| WQ.nil (fun w12 dw12 => ?_)
      have hF14 := StL.same (w1 := w12) hSL0 (fun k hk hl => (by obtain ⟨m, rfl⟩ := dw12; rfl))
      have hk15 := hk7.drew dw12
      have hk17 := hkd.drew dw12
      have hB19 := Chg.drew hB8 dw12
      refine W.seq <| W.regH 9 rfl mixed (fun w' => w'.heap[H.ds[i]]? = w12.heap[H.ds[i]]? ∧ w'.heap[b1]? = w12.heap[b1]? ∧ True) (fun w20 dw20 => ?_)
      have hF22 := StL.same (w1 := w20) hF14 (fun k hk hl => (by obtain ⟨m, rfl⟩ := dw20; rfl))
      have hk23 := hk15.drew dw20
      have hk25 := hk17.drew dw20
      have hB27 := Chg.drew hB19 dw20
      refine WH.tp 0 rfl (.mv rfl) ⟨(hk25).trans (hk17).symm, (hk23).trans (hk15).symm, trivial⟩ rfl ?_
      refine WH.tp 1 rfl (.fa underlying27 rfl sizeOf3 dD rfl) ⟨(hk25).trans (hk17).symm, (hk23).trans (hk15).symm, trivial⟩ rfl ?_
      refine WH.tk 2 rfl (fun w' hw' => Rd.ld (isAgg3 _) rfl ((hw'.2.1).trans hk15) rfl) ⟨(hk25).trans (hk17).symm, (hk23).trans (hk15).symm, trivial⟩ rfl ?_
      refine WH.tp 3 rfl (.mv rfl) ⟨(hk25).trans (hk17).symm, (hk23).trans (hk15).symm, trivial⟩ rfl ?_
      refine WH.tp 4 rfl (.nck rfl) ⟨(hk25).trans (hk17).symm, (hk23).trans (hk15).symm, trivial⟩ rfl ?_
      refine WH.tp 5 rfl (.fa underlying109 rfl sizeOf3 dD rfl) ⟨(hk25).trans (hk17).symm, (hk23).trans (hk15).symm, trivial⟩ rfl ?_
      refine WH.tk 6 rfl (fun w' hw' => Rd.ld (isAgg3 _) rfl ((hw'.1).trans hk17) rfl) ⟨(hk25).trans (hk17).symm, (hk23).trans (hk15).symm, trivial⟩ rfl ?_
      refine WH.tp 7 rfl (.build (ps := _) (cs := (chL.V ⟨4, o.ref, S.dicts[i].access, (ob0, ob0)⟩).toArray) rfl (by rw [blt114]; rfl)) ⟨(hk25).trans (hk17).symm, (hk23).trans (hk15).symm, trivial⟩ rfl ?_
      refine WH.br1 8 rfl ?_
      refine WL.c1 hb53 rfl rfl ((sto_note lab b H S ⟨4, o.ref, S.dicts[i].access, (ob0, ob0)⟩ _ (hF22).st (hF22).inn hch)) (fun w28 hw28 => ?_)
      obtain ⟨lab1, vc1, hS1, hlt1, hnew1, hold1, hK1⟩ := hw28
      obtain ⟨F1, hF1⟩ : ∃ F1 : Nat → Prop, ∀ g, F1 g ↔ lab1 g ≠ .no := ⟨_, fun _ => Iff.rfl⟩
      have hCn : Chg F F1 _ w28 := (((hF22).st.chg hF hS.lc (by nofun) hK1)).grow (fun g hg => (hnew1 g ((hF1 g).1 hg)).imp (fun h => (hF g).2 h) id)
      have hst1 : Sto w28 b F1 _ := ⟨lab1, _, hF1, hlt1, hS1⟩
      obtain ⟨hkd1, hld1, -, -⟩ := hS1.di.el i _ _ _ (get_of hi1) (get_of hi2) (by rw [noteS_dicts]; exact get_of hi)
      have hnf29 := Chg.nf hCn hnf4 hk23.lt
      have hk30 := Blk.chg hk23 hCn hnf4
      have hB31 := Chg.trans hB27 hCn
      refine WL.nil <| ?_
      refine ⟨⟨(hkd1).trans (hk17).symm, (hk30).trans (hk15).symm, trivial⟩, ?_⟩
      refine WH.done kR ?_
      refine W.sr <| WL.m rfl rfl <| WL.m rfl rfl <| WL.p (.nck rfl) rfl <| WL.p (.fa underlying109 rfl sizeOf3 dD rfl) rfl <| WL.st sizeOf3 rfl rfl rfl hkd1 (Nat.le_of_ble_eq_true rfl) (fun w91 hk91 hu91 hs91 => ?_)
      have hS2 := hS1.setAccess (get_of hi1) (get_of hi2) (by rw [noteS_dicts]; exact get_of hi) hu91 hk91
      have hC91 : Chg F1 F1 w28 w91 := Chg.only (Only.of_upd hu91 hs91) (fun g e => by cases e; exact (hF1 _).2 (by rw [hld1]; nofun))
      have hst2 : Sto w91 b F1 (lockS S o a) := by
        refine ⟨lab1, { H with vc := vc1 }, hF1, fun g hg => by rw [hs91]; exact hlt1 g hg, ?_⟩
        have e : lockS S o a = { noteS S ⟨4, o.ref, S.dicts[i].access, (ob0, ob0)⟩ with dicts := (noteS S ⟨4, o.ref, S.dicts[i].access, (ob0, ob0)⟩).dicts.set i { S.dicts[i] with access := a } } := by
          unfold lockS
          rw [if_pos hE, noteS_dicts, e1, Int.toNat_natCast, List.getD_eq_getElem?_getD, get_of hi]; rfl
        rw [e]; exact hS2
      have hnf33 := Chg.nf hC91 hnf29 hk30.lt
      have hB35 := Chg.trans hB31 hC91
      refine WL.nil <| ?_
      refine W.sr <| WL.z rfl rfl ?_
      refine W.ret (W.ret1 rfl rfl ?_)
      first
      | exact ⟨riE hE.symm, _, hst2, hB35⟩
      | (have hE : lockE S o a = 21 := if_neg (fun hq => by obtain ⟨q1, q2, q3⟩ := hq; unfold isDict at q1; first | omega | simp_all)
         exact ⟨riE hE.symm, _, (by unfold lockS; rw [if_neg (by rw [hE]; decide)]; exact hst2), hB35⟩)
    have g10' := dT g10
    refine WL.gn rfl rfl rfl g10 <| WL.p (.pkT rfl g10 rfl) rfl <| WL.nil <| ?_
    refine W.condT rfl rfl ?_
    refine W.sr <| WL.z rfl rfl ?_
    refine W.ret (W.ret1 rfl rfl ?_)
    first
    | exact ⟨riE hE.symm, _, hF6, hB8⟩
    | (have hE : lockE S o a = 21 := if_neg (fun hq => by obtain ⟨q1, q2, q3⟩ := hq; unfold isDict at q1; first | omega | simp_all)
       exact ⟨riE hE.symm, _, (by unfold lockS; rw [if_neg (by rw [hE]; decide)]; exact hF6), hB8⟩)
  have g9' := (nT g9)
  refine WL.gn rfl rfl rfl (by rw [(nT g9)] <;> rfl) <| WL.p (.pkT rfl (by rw [(nT g9)] <;> rfl) rfl) rfl <| WL.m rfl rfl <| WL.gn rfl rfl rfl rfl <| WL.gn rfl rfl rfl rfl <| WL.p (.pkT rfl rfl rfl) rfl <| WL.nil <| ?_
  refine W.condT rfl rfl ?_
  refine W.sr <| WL.z rfl rfl ?_
  refine W.ret (W.ret1 rfl rfl ?_)
  first
  | exact ⟨riE hE.symm, _, hF6, hB8⟩
  | (have hE : lockE S o a = 21 := if_neg (fun hq => by obtain ⟨q1, q2, q3⟩ := hq; unfold isDict at q1; first | omega | simp_all)
     exact ⟨riE hE.symm, _, (by unfold lockS; rw [if_neg (by rw [hE]; decide)]; exact hF6), hB8⟩)
end
section
def truO (x : Bool) : ObjV := { ob0 with kind := 3, n := if x then 1 else 0 }
theorem conv_truth (x : Bool) (w : World) : Calls Tryz.prog 38 #[.bool x] w fun e w' => e = .returned (.agg (objV (truO x)).toArray) ∧ Below w.heap.size w w' := by
 refine W.enter func38 rfl ntmps38 (Nat.le_of_ble_eq_true rfl) ?_
 have hB0 := Below.refl (w.heap.size) w
 refine W.sr <| WL.alloc zeroValue27 rfl (fun b1 wb1 eb1 hkb1 hub1 hsb1 => ?_)
 have hB2 := Upd.below hB0 (by rw [eb1]; exact hB0.size) hub1
 have hgeb1 : w.heap.size ≤ b1 := by rw [eb1]; exact hB0.size
 refine WL.nil <| ?_
 refine W.seq <| W.sr <| WL.m rfl rfl <| WL.nil <| ?_
 refine W.cond rfl (fun h3 => ?_) (fun h3 => ?_)
 refine W.sr <| WL.p (.buildL (ps := _) blt27 rfl rfl rfl pS) rfl ?_
 refine WL.stL rfl rfl hkb1 isz27 rfl rfl (fun w4 hkw4 huw4 hsw4 => ?_)
 have hB5 := Upd.below hB2 oO huw4
 refine WL.nil <| ?_
 refine W.ret (W.retc1 rfl rfl (ldRow hkw4 underlying27 rfl isz27)  ?_)
 exact ⟨rvE (by rw [show x = true by assumption]; rfl), hB5⟩
 refine W.skip <| W.sr <| WL.p (.buildL (ps := _) blt27 rfl rfl rfl pS) rfl ?_
 refine WL.stL rfl rfl hkb1 isz27 rfl rfl (fun w6 hkw6 huw6 hsw6 => ?_)
 have hB7 := Upd.below hB2 oO huw6
 refine WL.nil <| ?_
 refine W.ret (W.retc1 rfl rfl (ldRow hkw6 underlying27 rfl isz27)  ?_)
 exact ⟨rvE (by rw [show x = false by assumption]; rfl), hB7⟩
def typedB (o : ObjV) : Bool := decide (o.kind = 7) || decide (o.kind = 6) || decide (o.kind = 8)
theorem conv_typed (o : ObjV) (w : World) : Calls Tryz.prog 58 #[.agg (objV o).toArray] w fun e w' => e = .returned (.bool (typedB o)) ∧ Below w.heap.size w w' := by
 refine W.enter func58 rfl ntmps58 (Nat.le_of_ble_eq_true rfl) ?_
 have hB0 := Below.refl (w.heap.size) w
 refine W.sr <| WL.box rfl rfl (fun b1 wb1 eb1 hkb1 hub1 hsb1 => ?_)
 have hB2 := Upd.below hB0 (by rw [eb1]; exact hB0.size) hub1
 have hgeb1 : w.heap.size ≤ b1 := by rw [eb1]; exact hB0.size
 refine WL.z rfl rfl ?_
 refine W.sr <| WL.p (.fa underlying27 rfl sizeOf3 dD rfl) rfl <| WL.r (Rd.ld (isAgg3 _) rfl hkb1 rfl) rfl <| WL.p (.eql rfl rfl) rfl <| WL.m rfl rfl <| WL.gd rfl rfl rfl (fun g3 => ?_) (fun g3 => ?_)
 have g3' := dF g3
 refine WL.p (.fa underlying27 rfl sizeOf3 dD rfl) rfl <| WL.gy rfl rfl rfl g3 <| WL.r (Rd.ld (isAgg3 _) rfl hkb1 rfl) rfl <| WL.gy rfl rfl rfl g3 <| WL.p (.eql rfl rfl) rfl <| WL.p (.pkF rfl g3 rfl) rfl <| WL.m rfl rfl <| WL.gd rfl rfl rfl (fun g4 => ?_) (fun g4 => ?_)
 have g4' := dF g4
 refine WL.p (.fa underlying27 rfl sizeOf3 dD rfl) rfl <| WL.gy rfl rfl rfl g4 <| WL.r (Rd.ld (isAgg3 _) rfl hkb1 rfl) rfl <| WL.gy rfl rfl rfl g4 <| WL.p (.eql rfl rfl) rfl <| WL.p (.pkF rfl g4 rfl) rfl <| WL.z rfl rfl ?_
 refine W.ret (W.ret1 rfl rfl ?_)
 exact ⟨rbE (by unfold typedB; simp_all), hB2⟩
 have g4' := dT g4
 refine WL.gn rfl rfl rfl g4 <| WL.gn rfl rfl rfl g4 <| WL.p (.pkT rfl g4 rfl) rfl <| WL.z rfl rfl ?_
 refine W.ret (W.ret1 rfl rfl ?_)
 exact ⟨rbE (by unfold typedB; simp_all), hB2⟩
 have g3' := dT g3
 refine WL.gn rfl rfl rfl g3 <| WL.gn rfl rfl rfl g3 <| WL.p (.pkT rfl g3 rfl) rfl <| WL.m rfl rfl <| WL.gn rfl rfl rfl rfl <| WL.gn rfl rfl rfl rfl <| WL.gn rfl rfl rfl rfl <| WL.p (.pkT rfl rfl rfl) rfl <| WL.z rfl rfl ?_
 refine W.ret (W.ret1 rfl rfl ?_)
 exact ⟨rbE (by unfold typedB; simp_all), hB2⟩
def rcheckL : List UInt8 := [114, 99, 104, 101, 99, 107]
def chkO (S : StoV) (s : List UInt8) (o : ObjV) : ObjV × Int :=
 if typedB o = true then (truO (if s = rcheckL then readB S o else decide (accO S o = 0)), 0) else (ob0, 16)
theorem conv_check (b : Nat) (F : Nat → Prop) (S : StoV) (s : List UInt8) (o : ObjV) (w : World) (h : Sto w b F S) (hok : SOk S) :
  Calls Tryz.prog 42 #[workV b, .string (bs s), .agg (objV o).toArray] w fun e w' => e = .returned (pairV (chkO S s o)) ∧ Below w.heap.size w w' := by
 refine W.enter func42 rfl ntmps42 (Nat.le_of_ble_eq_true rfl) ?_
 have hB0 := Below.refl (w.heap.size) w
 refine W.sr <| WL.box rfl rfl (fun b1 wb1 eb1 hkb1 hub1 hsb1 => ?_)
 have hB2 := Upd.below hB0 (by rw [eb1]; exact hB0.size) hub1
 have hgeb1 : w.heap.size ≤ b1 := by rw [eb1]; exact hB0.size
 refine WL.box rfl rfl (fun b3 wb3 eb3 hkb3 hub3 hsb3 => ?_)
 have hl5 : b1 < b3 := by rw [eb3]; exact hkb1.lt
 have hk4 := hkb1.upd hub3 (Nat.ne_of_lt hl5)
 have hB6 := Upd.below hB2 (by rw [eb3]; exact hB2.size) hub3
 have hgeb3 : w.heap.size ≤ b3 := by rw [eb3]; exact hB2.size
 refine WL.alloc zeroValue27 rfl (fun b7 wb7 eb7 hkb7 hub7 hsb7 => ?_)
 have hl9 : b1 < b7 := by rw [eb7]; exact hk4.lt
 have hk8 := hk4.upd hub7 (Nat.ne_of_lt hl9)
 have hl11 : b3 < b7 := by rw [eb7]; exact hkb3.lt
 have hk10 := hkb3.upd hub7 (Nat.ne_of_lt hl11)
 have hB12 := Upd.below hB6 (by rw [eb7]; exact hB6.size) hub7
 have hgeb7 : w.heap.size ≤ b7 := by rw [eb7]; exact hB6.size
 refine WL.z rfl rfl ?_
 refine W.seq <| W.block <| W.sr <| WL.r (Rd.ldA rfl hk10 underlying27 rfl isz27) rfl <| WL.c1 hb58 rfl rfl ((conv_typed o _)) (fun w13 hw13 => ?_)
 have hk14 := hk8.below hw13 hk8.lt
 have hk15 := hk10.below hw13 hk10.lt
 have hk16 := hkb7.below hw13 hkb7.lt
 have hB17 := btr hB12 hw13
 refine WL.p (.not rfl) rfl <| WL.z rfl rfl ?_
 refine W.cond rfl (fun h18 => ?_) (fun h18 => ?_)
 have h18' := (nT h18)
 refine W.sr <| WL.p (.buildL (ps := _) blt27 rfl rfl rfl pZ) rfl ?_
 refine WL.stL rfl rfl hk16 isz27 rfl rfl (fun w19 hkw19 huw19 hsw19 => ?_)
 have hB22 := Upd.below hB17 oO huw19
 refine WL.z rfl rfl ?_
 refine W.ret (W.retc2 rfl rfl (ldRow hkw19 underlying27 rfl isz27) rfl ?_)
 exact ⟨rvE (by unfold pairV chkO; rw [if_neg (by simp_all)]; rfl), hB22⟩
 have h18' := (nF h18)
 refine W.sr <| WL.m rfl rfl <| WL.p (.eqs rfl rfl) rfl <| WL.z rfl rfl ?_
 refine W.cond rfl (fun h23 => ?_) (fun h23 => ?_)
 have h23' := dT h23
 refine W.sr <| WL.r (Rd.ldA rfl hk14 underlying72 rfl isz72) rfl <| WL.r (Rd.ldA rfl hk15 underlying27 rfl isz27) rfl <| WL.c1 hb57 rfl rfl ((conv_readable b F S o _ (h.below hB17) hok)) (fun w24 hw24 => ?_)
 have hk27 := hk16.below hw24 hk16.lt
 have hB28 := btr hB17 hw24
 refine WL.c1 hb38 rfl rfl ((conv_truth _ _)) (fun w29 hw29 => ?_)
 have hk32 := hk27.below hw29 hk27.lt
 have hB33 := btr hB28 hw29
 refine WL.stL rfl rfl hk32 isz27 rfl rfl (fun w34 hkw34 huw34 hsw34 => ?_)
 have hB37 := Upd.below hB33 oO huw34
 refine WL.z rfl rfl ?_
 refine W.ret (W.retc2 rfl rfl (ldRow hkw34 underlying27 rfl isz27) rfl ?_)
 exact ⟨rvE (by unfold pairV chkO; rw [if_pos (by simp_all), if_pos aS] <;> (first | done | rfl)), hB37⟩
 have h23' := dF h23
 refine W.skip <| W.sr <| WL.r (Rd.ldA rfl hk14 underlying72 rfl isz72) rfl <| WL.r (Rd.ldA rfl hk15 underlying27 rfl isz27) rfl <| WL.c1 hb44 rfl rfl ((conv_writable b F S o _ (h.below hB17) hok)) (fun w38 hw38 => ?_)
 have hk41 := hk16.below hw38 hk16.lt
 have hB42 := btr hB17 hw38
 refine WL.c1 hb38 rfl rfl ((conv_truth _ _)) (fun w43 hw43 => ?_)
 have hk46 := hk41.below hw43 hk41.lt
 have hB47 := btr hB42 hw43
 refine WL.stL rfl rfl hk46 isz27 rfl rfl (fun w48 hkw48 huw48 hsw48 => ?_)
 have hB51 := Upd.below hB47 oO huw48
 refine WL.z rfl rfl ?_
 refine W.ret (W.retc2 rfl rfl (ldRow hkw48 underlying27 rfl isz27) rfl ?_)
 exact ⟨rvE (by unfold pairV chkO; rw [if_pos (by simp_all), if_neg aS] <;> (first | done | rfl)), hB51⟩
def lockTo (s : List UInt8) : Int := if s = [101, 120, 101, 99, 117, 116, 101, 111, 110, 108, 121] then 2 else if s = [110, 111, 97, 99, 99, 101, 115, 115] then 3 else 1
def lkO (S : StoV) (s : List UInt8) (o : ObjV) : ObjV × Int :=
 if typedB o = false ∨ (o.kind = 8 ∧ lockTo s = 2) then (ob0, 16) else if lockTo s ≠ 3 ∧ accO S o = 3 then (ob0, 5)
 else if o.kind = 8 then (o, 0) else ({ o with access := if lockTo s > o.access then lockTo s else o.access }, 0)
def lkS (S : StoV) (s : List UInt8) (o : ObjV) : StoV :=
 if typedB o = false ∨ (o.kind = 8 ∧ lockTo s = 2) then S else if lockTo s ≠ 3 ∧ accO S o = 3 then S
 else if o.kind = 8 then lockS S o (if lockTo s > accO S o then lockTo s else accO S o) else S
set_option maxHeartbeats 3200000 in
theorem conv_lock (b : Nat) (F : Nat → Prop) (S : StoV) (s : List UInt8) (o : ObjV) (w : World) (h : Sto w b F S) (hok : SOk S) (hch : S.changes.length ≤ 800000000000) :
  Calls Tryz.prog 43 #[workV b, .string (bs s), .agg (objV o).toArray] w fun e w' => e = .returned (pairV (lkO S s o)) ∧ ∃ F1, Sto w' b F1 (lkS S s o) ∧ Chg F F1 w w' := by
 refine W.enter func43 rfl ntmps43 (Nat.le_of_ble_eq_true rfl) ?_
 have hB0 := Chg.refl F w
 refine W.sr <| WL.box rfl rfl (fun b1 wb1 eb1 hkb1 hub1 hsb1 => ?_)
 have hF2 := Sto.same (w1 := wb1) h (fun k hk hl => hub1.other k oO)
 have hgeb1 : w.heap.size ≤ b1 := by rw [eb1]; exact hB0.size
 have hB3 := Chg.upd hB0 hub1 hgeb1
 have hnf4 : ¬ F b1 := fun hq => by have hq1 := (h).lt hq; omega
 refine WL.box rfl rfl (fun b5 wb5 eb5 hkb5 hub5 hsb5 => ?_)
 have hF6 := Sto.same (w1 := wb5) hF2 (fun k hk hl => hub5.other k oO)
 have hl8 : b1 < b5 := by rw [eb5]; exact hkb1.lt
 have hk7 := hkb1.upd hub5 (Nat.ne_of_lt hl8)
 have hgeb5 : w.heap.size ≤ b5 := by rw [eb5]; exact hB3.size
 have hB9 := Chg.upd hB3 hub5 hgeb5
 have hnf10 : ¬ F b5 := fun hq => by have hq1 := (hF2).lt hq; omega
 refine WL.alloc zeroValue27 rfl (fun b11 wb11 eb11 hkb11 hub11 hsb11 => ?_)
 have hF12 := Sto.same (w1 := wb11) hF6 (fun k hk hl => hub11.other k oO)
 have hl14 : b1 < b11 := by rw [eb11]; exact hk7.lt
 have hk13 := hk7.upd hub11 (Nat.ne_of_lt hl14)
 have hl16 : b5 < b11 := by rw [eb11]; exact hkb5.lt
 have hk15 := hkb5.upd hub11 (Nat.ne_of_lt hl16)
 have hgeb11 : w.heap.size ≤ b11 := by rw [eb11]; exact hB9.size
 have hB17 := Chg.upd hB9 hub11 hgeb11
 have hnf18 : ¬ F b11 := fun hq => by have hq1 := (hF6).lt hq; omega
 refine WL.z rfl rfl ?_
 refine W.sr <| WL.z rfl rfl ?_
 refine W.seq <| W.sr <| WL.m rfl rfl <| WL.nil <| ?_
 refine W.block <| W.sr <| WL.p (.eqs rfl rfl) rfl <| WL.z rfl rfl ?_
 refine W.cond rfl (fun h19 => ?_) (fun h19 => ?_)
 have h19' := dT h19
 have hto : lockTo s = 2 := if_pos aS
 refine W.reg <| WL.z rfl rfl ?_
 refine W.seq <| W.block <| W.seq <| W.sr <| WL.r (Rd.ldA rfl hk15 underlying27 rfl isz27) rfl <| WL.c1 hb58 rfl rfl ((conv_typed o _)) (fun w20 hw20 => ?_)
 have hF21 := Sto.same (w1 := w20) hF12 (fun k hk hl => hw20.block k hl)
 have hk22 := hk13.below hw20 hk13.lt
 have hk23 := hk15.below hw20 hk15.lt
 have hk24 := hkb11.below hw20 hkb11.lt
 have hB25 := Chg.low hB17 hw20
 refine WL.p (.not rfl) rfl <| WL.z rfl rfl ?_
 refine W.cond rfl (fun h26 => ?_) (fun h26 => ?_)
 have h26' := (nT h26)
 refine W.skip <| W.condT rfl (by rw [(nT h26)] <;> rfl) ?_
 refine W.seq ?_
 have c1 : typedB o = false ∨ (o.kind = 8 ∧ lockTo s = 2) := by rw [hto]; simp_all
 have hO : lkO S s o = (ob0, 16) := if_pos c1
 have hT : lkS S s o = S := if_pos c1
 refine W.reg <| WL.p (.buildL (ps := _) blt27 rfl rfl rfl pZ) rfl ?_
 refine WL.stL rfl rfl hk24 isz27 rfl rfl (fun w27 hkw27 huw27 hsw27 => ?_)
 have hF28 := Sto.same (w1 := w27) hF21 (fun k hk hl => huw27.other k (fun e => hnf18 (e ▸ hk)))
 have hB31 := Chg.upd hB25 huw27 oO
 refine WL.z rfl rfl ?_
 refine W.ret (W.retc2 rfl rfl (ldRow hkw27 underlying27 rfl isz27) rfl ?_)
 exact ⟨rvE (by rw [hO]; first | rfl | (rw [hto]; rfl)), _, by rw [hT]; first | exact hF28 | (rw [hto]; exact hF28), hB31⟩
 have h26' := (nF h26)
 refine W.reg <| WL.p (.fa underlying27 rfl sizeOf3 dD rfl) rfl <| WL.r (Rd.ld (isAgg3 _) rfl hk23 rfl) rfl <| WL.p (.eql rfl rfl) rfl <| WL.m rfl rfl <| WL.gd rfl rfl rfl (fun g32 => ?_) (fun g32 => ?_)
 have g32' := dT g32
 refine WL.m rfl rfl <| WL.gy rfl rfl rfl g32 <| WL.p (.eql rfl rfl) rfl <| WL.p (.pkT rfl g32 rfl) rfl <| WL.z rfl rfl ?_
 refine W.cond rfl (fun h33 => ?_) (fun h33 => ?_)
 have h33' := dT h33
 refine W.seq ?_
 have c1 : typedB o = false ∨ (o.kind = 8 ∧ lockTo s = 2) := by rw [hto]; simp_all
 have hO : lkO S s o = (ob0, 16) := if_pos c1
 have hT : lkS S s o = S := if_pos c1
 refine W.reg <| WL.p (.buildL (ps := _) blt27 rfl rfl rfl pZ) rfl ?_
 refine WL.stL rfl rfl hk24 isz27 rfl rfl (fun w34 hkw34 huw34 hsw34 => ?_)
 have hF35 := Sto.same (w1 := w34) hF21 (fun k hk hl => huw34.other k (fun e => hnf18 (e ▸ hk)))
 have hB38 := Chg.upd hB25 huw34 oO
 refine WL.z rfl rfl ?_
 refine W.ret (W.retc2 rfl rfl (ldRow hkw34 underlying27 rfl isz27) rfl ?_)
 exact ⟨rvE (by rw [hO]; first | rfl | (rw [hto]; rfl)), _, by rw [hT]; first | exact hF35 | (rw [hto]; exact hF35), hB38⟩
 have h33' := dF h33
 refine W.seq ?_
 have c1 : ¬ (typedB o = false ∨ (o.kind = 8 ∧ lockTo s = 2)) := by rw [hto]; simp_all
 refine W.reg <| WL.m rfl rfl <| WL.p (.neq rfl rfl) rfl <| WL.m rfl rfl <| WL.gd rfl rfl rfl (fun g39 => ?_) (fun g39 => ?_)
 have g39' := ndT g39
 refine WL.r (Rd.ldA rfl hk22 underlying72 rfl isz72) rfl <| WL.gy rfl rfl rfl g39 <| WL.r (Rd.ldA rfl hk23 underlying27 rfl isz27) rfl <| WL.gy rfl rfl rfl g39 <| WL.c1 hb59 rfl rfl ((conv_access b F S o _ hF21 hok)) (fun w40 hw40 => ?_)
 have hF41 := Sto.same (w1 := w40) hF21 (fun k hk hl => hw40.block k hl)
 have hk42 := hk22.below hw40 hk22.lt
 have hk43 := hk23.below hw40 hk23.lt
 have hk44 := hk24.below hw40 hk24.lt
 have hB45 := Chg.low hB25 hw40
 refine WL.gy rfl rfl rfl g39 <| WL.p (.eql rfl rfl) rfl <| WL.p (.pkT rfl g39 rfl) rfl <| WL.z rfl rfl ?_
 refine W.cond rfl (fun h46 => ?_) (fun h46 => ?_)
 have h46' := dT h46
 refine W.seq ?_
 have c2 : lockTo s ≠ 3 ∧ accO S o = 3 := by rw [hto]; simp_all
 have hO : lkO S s o = (ob0, 5) := by unfold lkO; rw [if_neg c1, if_pos c2]
 have hT : lkS S s o = S := by unfold lkS; rw [if_neg c1, if_pos c2]
 refine W.reg <| WL.p (.buildL (ps := _) blt27 rfl rfl rfl pZ) rfl ?_
 refine WL.stL rfl rfl hk44 isz27 rfl rfl (fun w47 hkw47 huw47 hsw47 => ?_)
 have hF48 := Sto.same (w1 := w47) hF41 (fun k hk hl => huw47.other k (fun e => hnf18 (e ▸ hk)))
 have hB51 := Chg.upd hB45 huw47 oO
 refine WL.z rfl rfl ?_
 refine W.ret (W.retc2 rfl rfl (ldRow hkw47 underlying27 rfl isz27) rfl ?_)
 exact ⟨rvE (by rw [hO]; first | rfl | (rw [hto]; rfl)), _, by rw [hT]; first | exact hF48 | (rw [hto]; exact hF48), hB51⟩
 have h46' := dF h46
 refine W.seq ?_
 have c2 : ¬ (lockTo s ≠ 3 ∧ accO S o = 3) := by rw [hto]; simp_all
 refine W.reg <| WL.p (.fa underlying27 rfl sizeOf3 dD rfl) rfl <| WL.r (Rd.ld (isAgg3 _) rfl hk43 rfl) rfl <| WL.p (.eql rfl rfl) rfl <| WL.z rfl rfl ?_
 refine W.cond rfl (fun h52 => ?_) (fun h52 => ?_)
 have h52' := dT h52
 have c3 : o.kind = 8 := by assumption
 have hO : lkO S s o = (o, 0) := by unfold lkO; rw [if_neg c1, if_neg c2, if_pos c3]
 have hT : lkS S s o = lockS S o (if lockTo s > accO S o then lockTo s else accO S o) := by unfold lkS; rw [if_neg c1, if_neg c2, if_pos c3]
 refine W.regH 9 rfl mixed (fun w' => w'.heap[b1]? = w40.heap[b1]? ∧ w'.heap[b5]? = w40.heap[b5]? ∧ True) (fun w53 dw53 => ?_)
 have hF54 := Sto.same (w1 := w53) hF41 (fun k hk hl => (by obtain ⟨m, rfl⟩ := dw53; rfl))
 have hk55 := hk42.drew dw53
 have hk56 := hk43.drew dw53
 have hk57 := hk44.drew dw53
 have hB58 := Chg.drew hB45 dw53
 refine WH.tp 0 rfl (.fa underlying72 rfl sizeOf22 dD rfl) ⟨(hk55).trans (hk42).symm, (hk56).trans (hk43).symm, trivial⟩ rfl ?_
 refine WH.tk 1 rfl (fun w' hw' => Rd.ld (isAgg22 _) rfl ((hw'.1).trans hk42) rfl) ⟨(hk55).trans (hk42).symm, (hk56).trans (hk43).symm, trivial⟩ rfl ?_
 refine WH.tk 2 rfl (fun w' hw' => Rd.ldA rfl ((hw'.2.1).trans hk43) underlying27 rfl isz27) ⟨(hk55).trans (hk42).symm, (hk56).trans (hk43).symm, trivial⟩ rfl ?_
 refine WH.tk 3 rfl (fun w' hw' => Rd.ldA rfl ((hw'.1).trans hk42) underlying72 rfl isz72) ⟨(hk55).trans (hk42).symm, (hk56).trans (hk43).symm, trivial⟩ rfl ?_
 refine WH.tk 4 rfl (fun w' hw' => Rd.ldA rfl ((hw'.2.1).trans hk43) underlying27 rfl isz27) ⟨(hk55).trans (hk42).symm, (hk56).trans (hk43).symm, trivial⟩ rfl ?_
 refine WH.tp 6 rfl (.mv rfl) ⟨(hk55).trans (hk42).symm, (hk56).trans (hk43).symm, trivial⟩ rfl ?_
 refine WH.br1 5 rfl ?_
 refine WL.c1 hb59 rfl rfl ((conv_access b F S o _ hF54 hok)) (fun w59 hw59 => ?_)
 have hF60 := Sto.same (w1 := w59) hF54 (fun k hk hl => hw59.block k hl)
 have hk61 := hk55.below hw59 hk55.lt
 have hk62 := hk56.below hw59 hk56.lt
 have hk63 := hk57.below hw59 hk57.lt
 have hB64 := Chg.low hB58 hw59
 refine WL.nil <| ?_
 refine ⟨⟨(hk61).trans (hk42).symm, (hk62).trans (hk43).symm, trivial⟩, ?_⟩
 refine WH.tp 7 rfl (.max2 rfl rfl) ⟨(hk61).trans (hk42).symm, (hk62).trans (hk43).symm, trivial⟩ rfl ?_
 refine WH.br1 8 rfl ?_
 refine WL.c1 hb34 rfl rfl ((sto_Lock b F S o _ _ hF60 hok hch)) (fun w65 hw65 => ?_)
 obtain ⟨F66, hstF66, hCF66, hxF66⟩ := Chg.open hw65
 have hnf67 := Chg.nf hCF66 hnf4 hk61.lt
 have hnf68 := Chg.nf hCF66 hnf10 hk62.lt
 have hnf69 := Chg.nf hCF66 hnf18 hk63.lt
 have hk70 := Blk.chg hk61 hCF66 hnf4
 have hk71 := Blk.chg hk62 hCF66 hnf10
 have hk72 := Blk.chg hk63 hCF66 hnf18
 have hB73 := Chg.trans hB64 hCF66
 refine WL.nil <| ?_
 refine ⟨⟨(hk70).trans (hk42).symm, (hk71).trans (hk43).symm, trivial⟩, ?_⟩
 refine WH.done kR ?_
 refine W.sr <| WL.r (Rd.ldA rfl hk71 underlying27 rfl isz27) rfl <| WL.stL rfl rfl hk72 isz27 rfl rfl (fun w74 hkw74 huw74 hsw74 => ?_)
 have hF75 := Sto.same (w1 := w74) hstF66 (fun k hk hl => huw74.other k (fun e => hnf69 (e ▸ hk)))
 have hB78 := Chg.upd hB73 huw74 oO
 refine WL.z rfl rfl ?_
 refine W.ret (W.retc2 rfl rfl (ldRow hkw74 underlying27 rfl isz27) rfl ?_)
 exact ⟨rvE (by rw [hO]; first | rfl | (rw [hto]; rfl)), _, by rw [hT]; first | exact hF75 | (rw [hto]; exact hF75), hB78⟩
 have h52' := dF h52
 have c3 : ¬ o.kind = 8 := by assumption
 have hO : lkO S s o = ({ o with access := if lockTo s > o.access then lockTo s else o.access }, 0) := by unfold lkO; rw [if_neg c1, if_neg c2, if_neg c3]
 have hT : lkS S s o = S := by unfold lkS; rw [if_neg c1, if_neg c2, if_neg c3]
 refine W.reg <| WL.p (.fa underlying27 rfl sizeOf3 dD rfl) rfl <| WL.r (Rd.ld (isAgg3 _) rfl hk43 rfl) rfl <| WL.m rfl rfl <| WL.p (.max2 rfl rfl) rfl <| WL.p (.fa underlying27 rfl sizeOf3 dD rfl) rfl <| WL.st sizeOf3 rfl rfl rfl hk43 oD (fun w79 hkw79 huw79 hsw79 => ?_)
 have hkw79 : Blk w79 b5 _ _ := hkw79
 have huw79 : Upd b5 _ _ := huw79
 have hF80 := Sto.same (w1 := w79) hF41 (fun k hk hl => huw79.other k (fun e => hnf10 (e ▸ hk)))
 have hk82 := hk44.up huw79
 have hB83 := Chg.upd hB45 huw79 oO
 refine WL.nil <| ?_
 refine W.sr <| WL.r (Rd.ldA rfl hkw79 underlying27 rfl isz27) rfl <| WL.stL rfl rfl hk82 isz27 rfl rfl (fun w84 hkw84 huw84 hsw84 => ?_)
 have hF85 := Sto.same (w1 := w84) hF80 (fun k hk hl => huw84.other k (fun e => hnf18 (e ▸ hk)))
 have hB88 := Chg.upd hB83 huw84 oO
 refine WL.z rfl rfl ?_
 refine W.ret (W.retc2 rfl rfl (ldRow hkw84 underlying27 rfl isz27) rfl ?_)
 exact ⟨rvE (by rw [hO]; first | rfl | (rw [hto]; rfl)), _, by rw [hT]; first | exact hF85 | (rw [hto]; exact hF85), hB88⟩
 have g39' := ndF g39
 refine WL.gn rfl rfl rfl g39 <| WL.gn rfl rfl rfl g39 <| WL.gn rfl rfl rfl g39 <| WL.p (.pkF rfl g39 rfl) rfl <| WL.z rfl rfl ?_
 refine W.condF rfl rfl ?_
 refine W.seq ?_
 have c2 : ¬ (lockTo s ≠ 3 ∧ accO S o = 3) := by rw [hto]; simp_all
 refine W.reg <| WL.p (.fa underlying27 rfl sizeOf3 dD rfl) rfl <| WL.r (Rd.ld (isAgg3 _) rfl hk23 rfl) rfl <| WL.p (.eql rfl rfl) rfl <| WL.z rfl rfl ?_
 refine W.cond rfl (fun h89 => ?_) (fun h89 => ?_)
 have h89' := dT h89
 have c3 : o.kind = 8 := by assumption
 have hO : lkO S s o = (o, 0) := by unfold lkO; rw [if_neg c1, if_neg c2, if_pos c3]
 have hT : lkS S s o = lockS S o (if lockTo s > accO S o then lockTo s else accO S o) := by unfold lkS; rw [if_neg c1, if_neg c2, if_pos c3]
 refine W.regH 9 rfl mixed (fun w' => w'.heap[b1]? = w20.heap[b1]? ∧ w'.heap[b5]? = w20.heap[b5]? ∧ True) (fun w90 dw90 => ?_)
 have hF91 := Sto.same (w1 := w90) hF21 (fun k hk hl => (by obtain ⟨m, rfl⟩ := dw90; rfl))
 have hk92 := hk22.drew dw90
 have hk93 := hk23.drew dw90
 have hk94 := hk24.drew dw90
 have hB95 := Chg.drew hB25 dw90
 refine WH.tp 0 rfl (.fa underlying72 rfl sizeOf22 dD rfl) ⟨(hk92).trans (hk22).symm, (hk93).trans (hk23).symm, trivial⟩ rfl ?_
 refine WH.tk 1 rfl (fun w' hw' => Rd.ld (isAgg22 _) rfl ((hw'.1).trans hk22) rfl) ⟨(hk92).trans (hk22).symm, (hk93).trans (hk23).symm, trivial⟩ rfl ?_
 refine WH.tk 2 rfl (fun w' hw' => Rd.ldA rfl ((hw'.2.1).trans hk23) underlying27 rfl isz27) ⟨(hk92).trans (hk22).symm, (hk93).trans (hk23).symm, trivial⟩ rfl ?_
 refine WH.tk 3 rfl (fun w' hw' => Rd.ldA rfl ((hw'.1).trans hk22) underlying72 rfl isz72) ⟨(hk92).trans (hk22).symm, (hk93).trans (hk23).symm, trivial⟩ rfl ?_
 refine WH.tk 4 rfl (fun w' hw' => Rd.ldA rfl ((hw'.2.1).trans hk23) underlying27 rfl isz27) ⟨(hk92).trans (hk22).symm, (hk93).trans (hk23).symm, trivial⟩ rfl ?_
 refine WH.tp 6 rfl (.mv rfl) ⟨(hk92).trans (hk22).symm, (hk93).trans (hk23).symm, trivial⟩ rfl ?_
 refine WH.br1 5 rfl ?_
 refine WL.c1 hb59 rfl rfl ((conv_access b F S o _ hF91 hok)) (fun w96 hw96 => ?_)
 have hF97 := Sto.same (w1 := w96) hF91 (fun k hk hl => hw96.block k hl)
 have hk98 := hk92.below hw96 hk92.lt
 have hk99 := hk93.below hw96 hk93.lt
 have hk100 := hk94.below hw96 hk94.lt
 have hB101 := Chg.low hB95 hw96
 refine WL.nil <| ?_
 refine ⟨⟨(hk98).trans (hk22).symm, (hk99).trans (hk23).symm, trivial⟩, ?_⟩
 refine WH.tp 7 rfl (.max2 rfl rfl) ⟨(hk98).trans (hk22).symm, (hk99).trans (hk23).symm, trivial⟩ rfl ?_
 refine WH.br1 8 rfl ?_
 refine WL.c1 hb34 rfl rfl ((sto_Lock b F S o _ _ hF97 hok hch)) (fun w102 hw102 => ?_)
 obtain ⟨F103, hstF103, hCF103, hxF103⟩ := Chg.open hw102
 have hnf104 := Chg.nf hCF103 hnf4 hk98.lt
 have hnf105 := Chg.nf hCF103 hnf10 hk99.lt
 have hnf106 := Chg.nf hCF103 hnf18 hk100.lt
 have hk107 := Blk.chg hk98 hCF103 hnf4
 have hk108 := Blk.chg hk99 hCF103 hnf10
 have hk109 := Blk.chg hk100 hCF103 hnf18
 have hB110 := Chg.trans hB101 hCF103
 refine WL.nil <| ?_
 refine ⟨⟨(hk107).trans (hk22).symm, (hk108).trans (hk23).symm, trivial⟩, ?_⟩
 refine WH.done kR ?_
 refine W.sr <| WL.r (Rd.ldA rfl hk108 underlying27 rfl isz27) rfl <| WL.stL rfl rfl hk109 isz27 rfl rfl (fun w111 hkw111 huw111 hsw111 => ?_)
 have hF112 := Sto.same (w1 := w111) hstF103 (fun k hk hl => huw111.other k (fun e => hnf106 (e ▸ hk)))
 have hB115 := Chg.upd hB110 huw111 oO
 refine WL.z rfl rfl ?_
 refine W.ret (W.retc2 rfl rfl (ldRow hkw111 underlying27 rfl isz27) rfl ?_)
 exact ⟨rvE (by rw [hO]; first | rfl | (rw [hto]; rfl)), _, by rw [hT]; first | exact hF112 | (rw [hto]; exact hF112), hB115⟩
 have h89' := dF h89
 have c3 : ¬ o.kind = 8 := by assumption
 have hO : lkO S s o = ({ o with access := if lockTo s > o.access then lockTo s else o.access }, 0) := by unfold lkO; rw [if_neg c1, if_neg c2, if_neg c3]
 have hT : lkS S s o = S := by unfold lkS; rw [if_neg c1, if_neg c2, if_neg c3]
 refine W.reg <| WL.p (.fa underlying27 rfl sizeOf3 dD rfl) rfl <| WL.r (Rd.ld (isAgg3 _) rfl hk23 rfl) rfl <| WL.m rfl rfl <| WL.p (.max2 rfl rfl) rfl <| WL.p (.fa underlying27 rfl sizeOf3 dD rfl) rfl <| WL.st sizeOf3 rfl rfl rfl hk23 oD (fun w116 hkw116 huw116 hsw116 => ?_)
 have hkw116 : Blk w116 b5 _ _ := hkw116
 have huw116 : Upd b5 _ _ := huw116
 have hF117 := Sto.same (w1 := w116) hF21 (fun k hk hl => huw116.other k (fun e => hnf10 (e ▸ hk)))
 have hk119 := hk24.up huw116
 have hB120 := Chg.upd hB25 huw116 oO
 refine WL.nil <| ?_
 refine W.sr <| WL.r (Rd.ldA rfl hkw116 underlying27 rfl isz27) rfl <| WL.stL rfl rfl hk119 isz27 rfl rfl (fun w121 hkw121 huw121 hsw121 => ?_)
 have hF122 := Sto.same (w1 := w121) hF117 (fun k hk hl => huw121.other k (fun e => hnf18 (e ▸ hk)))
 have hB125 := Chg.upd hB120 huw121 oO
 refine WL.z rfl rfl ?_
 refine W.ret (W.retc2 rfl rfl (ldRow hkw121 underlying27 rfl isz27) rfl ?_)
 exact ⟨rvE (by rw [hO]; first | rfl | (rw [hto]; rfl)), _, by rw [hT]; first | exact hF122 | (rw [hto]; exact hF122), hB125⟩
 have g32' := dF g32
 refine WL.gn rfl rfl rfl g32 <| WL.p (.pkF rfl g32 rfl) rfl <| WL.z rfl rfl ?_
 refine W.condF rfl rfl ?_
 refine W.seq ?_
 have c1 : ¬ (typedB o = false ∨ (o.kind = 8 ∧ lockTo s = 2)) := by rw [hto]; simp_all
 refine W.reg <| WL.m rfl rfl <| WL.p (.neq rfl rfl) rfl <| WL.m rfl rfl <| WL.gd rfl rfl rfl (fun g126 => ?_) (fun g126 => ?_)
 have g126' := ndT g126
 refine WL.r (Rd.ldA rfl hk22 underlying72 rfl isz72) rfl <| WL.gy rfl rfl rfl g126 <| WL.r (Rd.ldA rfl hk23 underlying27 rfl isz27) rfl <| WL.gy rfl rfl rfl g126 <| WL.c1 hb59 rfl rfl ((conv_access b F S o _ hF21 hok)) (fun w127 hw127 => ?_)
 have hF128 := Sto.same (w1 := w127) hF21 (fun k hk hl => hw127.block k hl)
 have hk129 := hk22.below hw127 hk22.lt
 have hk130 := hk23.below hw127 hk23.lt
 have hk131 := hk24.below hw127 hk24.lt
 have hB132 := Chg.low hB25 hw127
 refine WL.gy rfl rfl rfl g126 <| WL.p (.eql rfl rfl) rfl <| WL.p (.pkT rfl g126 rfl) rfl <| WL.z rfl rfl ?_
 refine W.cond rfl (fun h133 => ?_) (fun h133 => ?_)
 have h133' := dT h133
 refine W.seq ?_
 have c2 : lockTo s ≠ 3 ∧ accO S o = 3 := by rw [hto]; simp_all
 have hO : lkO S s o = (ob0, 5) := by unfold lkO; rw [if_neg c1, if_pos c2]
 have hT : lkS S s o = S := by unfold lkS; rw [if_neg c1, if_pos c2]
 refine W.reg <| WL.p (.buildL (ps := _) blt27 rfl rfl rfl pZ) rfl ?_
 refine WL.stL rfl rfl hk131 isz27 rfl rfl (fun w134 hkw134 huw134 hsw134 => ?_)
 have hF135 := Sto.same (w1 := w134) hF128 (fun k hk hl => huw134.other k (fun e => hnf18 (e ▸ hk)))
 have hB138 := Chg.upd hB132 huw134 oO
 refine WL.z rfl rfl ?_
 refine W.ret (W.retc2 rfl rfl (ldRow hkw134 underlying27 rfl isz27) rfl ?_)
 exact ⟨rvE (by rw [hO]; first | rfl | (rw [hto]; rfl)), _, by rw [hT]; first | exact hF135 | (rw [hto]; exact hF135), hB138⟩
 have h133' := dF h133
 refine W.seq ?_
 have c2 : ¬ (lockTo s ≠ 3 ∧ accO S o = 3) := by rw [hto]; simp_all
 refine W.reg <| WL.p (.fa underlying27 rfl sizeOf3 dD rfl) rfl <| WL.r (Rd.ld (isAgg3 _) rfl hk130 rfl) rfl <| WL.p (.eql rfl rfl) rfl <| WL.z rfl rfl ?_
 refine W.cond rfl (fun h139 => ?_) (fun h139 => ?_)
 have h139' := dT h139
 have c3 : o.kind = 8 := by assumption
 have hO : lkO S s o = (o, 0) := by unfold lkO; rw [if_neg c1, if_neg c2, if_pos c3]
 have hT : lkS S s o = lockS S o (if lockTo s > accO S o then lockTo s else accO S o) := by unfold lkS; rw [if_neg c1, if_neg c2, if_pos c3]
 refine W.regH 9 rfl mixed (fun w' => w'.heap[b1]? = w127.heap[b1]? ∧ w'.heap[b5]? = w127.heap[b5]? ∧ True) (fun w140 dw140 => ?_)
 have hF141 := Sto.same (w1 := w140) hF128 (fun k hk hl => (by obtain ⟨m, rfl⟩ := dw140; rfl))
 have hk142 := hk129.drew dw140
 have hk143 := hk130.drew dw140
 have hk144 := hk131.drew dw140
 have hB145 := Chg.drew hB132 dw140
 refine WH.tp 0 rfl (.fa underlying72 rfl sizeOf22 dD rfl) ⟨(hk142).trans (hk129).symm, (hk143).trans (hk130).symm, trivial⟩ rfl ?_
 refine WH.tk 1 rfl (fun w' hw' => Rd.ld (isAgg22 _) rfl ((hw'.1).trans hk129) rfl) ⟨(hk142).trans (hk129).symm, (hk143).trans (hk130).symm, trivial⟩ rfl ?_
 refine WH.tk 2 rfl (fun w' hw' => Rd.ldA rfl ((hw'.2.1).trans hk130) underlying27 rfl isz27) ⟨(hk142).trans (hk129).symm, (hk143).trans (hk130).symm, trivial⟩ rfl ?_
 refine WH.tk 3 rfl (fun w' hw' => Rd.ldA rfl ((hw'.1).trans hk129) underlying72 rfl isz72) ⟨(hk142).trans (hk129).symm, (hk143).trans (hk130).symm, trivial⟩ rfl ?_
 refine WH.tk 4 rfl (fun w' hw' => Rd.ldA rfl ((hw'.2.1).trans hk130) underlying27 rfl isz27) ⟨(hk142).trans (hk129).symm, (hk143).trans (hk130).symm, trivial⟩ rfl ?_
 refine WH.tp 6 rfl (.mv rfl) ⟨(hk142).trans (hk129).symm, (hk143).trans (hk130).symm, trivial⟩ rfl ?_
 refine WH.br1 5 rfl ?_
 refine WL.c1 hb59 rfl rfl ((conv_access b F S o _ hF141 hok)) (fun w146 hw146 => ?_)
 have hF147 := Sto.same (w1 := w146) hF141 (fun k hk hl => hw146.block k hl)
 have hk148 := hk142.below hw146 hk142.lt
 have hk149 := hk143.below hw146 hk143.lt
 have hk150 := hk144.below hw146 hk144.lt
 have hB151 := Chg.low hB145 hw146
 refine WL.nil <| ?_
 refine ⟨⟨(hk148).trans (hk129).symm, (hk149).trans (hk130).symm, trivial⟩, ?_⟩
 refine WH.tp 7 rfl (.max2 rfl rfl) ⟨(hk148).trans (hk129).symm, (hk149).trans (hk130).symm, trivial⟩ rfl ?_
 refine WH.br1 8 rfl ?_
 refine WL.c1 hb34 rfl rfl ((sto_Lock b F S o _ _ hF147 hok hch)) (fun w152 hw152 => ?_)
 obtain ⟨F153, hstF153, hCF153, hxF153⟩ := Chg.open hw152
 have hnf154 := Chg.nf hCF153 hnf4 hk148.lt
 have hnf155 := Chg.nf hCF153 hnf10 hk149.lt
 have hnf156 := Chg.nf hCF153 hnf18 hk150.lt
 have hk157 := Blk.chg hk148 hCF153 hnf4
 have hk158 := Blk.chg hk149 hCF153 hnf10
 have hk159 := Blk.chg hk150 hCF153 hnf18
 have hB160 := Chg.trans hB151 hCF153
 refine WL.nil <| ?_
 refine ⟨⟨(hk157).trans (hk129).symm, (hk158).trans (hk130).symm, trivial⟩, ?_⟩
 refine WH.done kR ?_
 refine W.sr <| WL.r (Rd.ldA rfl hk158 underlying27 rfl isz27) rfl <| WL.stL rfl rfl hk159 isz27 rfl rfl (fun w161 hkw161 huw161 hsw161 => ?_)
 have hF162 := Sto.same (w1 := w161) hstF153 (fun k hk hl => huw161.other k (fun e => hnf156 (e ▸ hk)))
 have hB165 := Chg.upd hB160 huw161 oO
 refine WL.z rfl rfl ?_
 refine W.ret (W.retc2 rfl rfl (ldRow hkw161 underlying27 rfl isz27) rfl ?_)
 exact ⟨rvE (by rw [hO]; first | rfl | (rw [hto]; rfl)), _, by rw [hT]; first | exact hF162 | (rw [hto]; exact hF162), hB165⟩
 have h139' := dF h139
 have c3 : ¬ o.kind = 8 := by assumption
 have hO : lkO S s o = ({ o with access := if lockTo s > o.access then lockTo s else o.access }, 0) := by unfold lkO; rw [if_neg c1, if_neg c2, if_neg c3]
 have hT : lkS S s o = S := by unfold lkS; rw [if_neg c1, if_neg c2, if_neg c3]
 refine W.reg <| WL.p (.fa underlying27 rfl sizeOf3 dD rfl) rfl <| WL.r (Rd.ld (isAgg3 _) rfl hk130 rfl) rfl <| WL.m rfl rfl <| WL.p (.max2 rfl rfl) rfl <| WL.p (.fa underlying27 rfl sizeOf3 dD rfl) rfl <| WL.st sizeOf3 rfl rfl rfl hk130 oD (fun w166 hkw166 huw166 hsw166 => ?_)
 have hkw166 : Blk w166 b5 _ _ := hkw166
 have huw166 : Upd b5 _ _ := huw166
 have hF167 := Sto.same (w1 := w166) hF128 (fun k hk hl => huw166.other k (fun e => hnf10 (e ▸ hk)))
 have hk169 := hk131.up huw166
 have hB170 := Chg.upd hB132 huw166 oO
 refine WL.nil <| ?_
 refine W.sr <| WL.r (Rd.ldA rfl hkw166 underlying27 rfl isz27) rfl <| WL.stL rfl rfl hk169 isz27 rfl rfl (fun w171 hkw171 huw171 hsw171 => ?_)
 have hF172 := Sto.same (w1 := w171) hF167 (fun k hk hl => huw171.other k (fun e => hnf18 (e ▸ hk)))
 have hB175 := Chg.upd hB170 huw171 oO
 refine WL.z rfl rfl ?_
 refine W.ret (W.retc2 rfl rfl (ldRow hkw171 underlying27 rfl isz27) rfl ?_)
 exact ⟨rvE (by rw [hO]; first | rfl | (rw [hto]; rfl)), _, by rw [hT]; first | exact hF172 | (rw [hto]; exact hF172), hB175⟩
 have g126' := ndF g126
 refine WL.gn rfl rfl rfl g126 <| WL.gn rfl rfl rfl g126 <| WL.gn rfl rfl rfl g126 <| WL.p (.pkF rfl g126 rfl) rfl <| WL.z rfl rfl ?_
 refine W.condF rfl rfl ?_
 refine W.seq ?_
 have c2 : ¬ (lockTo s ≠ 3 ∧ accO S o = 3) := by rw [hto]; simp_all
 refine W.reg <| WL.p (.fa underlying27 rfl sizeOf3 dD rfl) rfl <| WL.r (Rd.ld (isAgg3 _) rfl hk23 rfl) rfl <| WL.p (.eql rfl rfl) rfl <| WL.z rfl rfl ?_
 refine W.cond rfl (fun h176 => ?_) (fun h176 => ?_)
 have h176' := dT h176
 have c3 : o.kind = 8 := by assumption
 have hO : lkO S s o = (o, 0) := by unfold lkO; rw [if_neg c1, if_neg c2, if_pos c3]
 have hT : lkS S s o = lockS S o (if lockTo s > accO S o then lockTo s else accO S o) := by unfold lkS; rw [if_neg c1, if_neg c2, if_pos c3]
 refine W.regH 9 rfl mixed (fun w' => w'.heap[b1]? = w20.heap[b1]? ∧ w'.heap[b5]? = w20.heap[b5]? ∧ True) (fun w177 dw177 => ?_)
 have hF178 := Sto.same (w1 := w177) hF21 (fun k hk hl => (by obtain ⟨m, rfl⟩ := dw177; rfl))
 have hk179 := hk22.drew dw177
 have hk180 := hk23.drew dw177
 have hk181 := hk24.drew dw177
 have hB182 := Chg.drew hB25 dw177
 refine WH.tp 0 rfl (.fa underlying72 rfl sizeOf22 dD rfl) ⟨(hk179).trans (hk22).symm, (hk180).trans (hk23).symm, trivial⟩ rfl ?_
 refine WH.tk 1 rfl (fun w' hw' => Rd.ld (isAgg22 _) rfl ((hw'.1).trans hk22) rfl) ⟨(hk179).trans (hk22).symm, (hk180).trans (hk23).symm, trivial⟩ rfl ?_
 refine WH.tk 2 rfl (fun w' hw' => Rd.ldA rfl ((hw'.2.1).trans hk23) underlying27 rfl isz27) ⟨(hk179).trans (hk22).symm, (hk180).trans (hk23).symm, trivial⟩ rfl ?_
 refine WH.tk 3 rfl (fun w' hw' => Rd.ldA rfl ((hw'.1).trans hk22) underlying72 rfl isz72) ⟨(hk179).trans (hk22).symm, (hk180).trans (hk23).symm, trivial⟩ rfl ?_
 refine WH.tk 4 rfl (fun w' hw' => Rd.ldA rfl ((hw'.2.1).trans hk23) underlying27 rfl isz27) ⟨(hk179).trans (hk22).symm, (hk180).trans (hk23).symm, trivial⟩ rfl ?_
 refine WH.tp 6 rfl (.mv rfl) ⟨(hk179).trans (hk22).symm, (hk180).trans (hk23).symm, trivial⟩ rfl ?_
 refine WH.br1 5 rfl ?_
 refine WL.c1 hb59 rfl rfl ((conv_access b F S o _ hF178 hok)) (fun w183 hw183 => ?_)
 have hF184 := Sto.same (w1 := w183) hF178 (fun k hk hl => hw183.block k hl)
 have hk185 := hk179.below hw183 hk179.lt
 have hk186 := hk180.below hw183 hk180.lt
 have hk187 := hk181.below hw183 hk181.lt
 have hB188 := Chg.low hB182 hw183
 refine WL.nil <| ?_
 refine ⟨⟨(hk185).trans (hk22).symm, (hk186).trans (hk23).symm, trivial⟩, ?_⟩
 refine WH.tp 7 rfl (.max2 rfl rfl) ⟨(hk185).trans (hk22).symm, (hk186).trans (hk23).symm, trivial⟩ rfl ?_
 refine WH.br1 8 rfl ?_
 refine WL.c1 hb34 rfl rfl ((sto_Lock b F S o _ _ hF184 hok hch)) (fun w189 hw189 => ?_)
 obtain ⟨F190, hstF190, hCF190, hxF190⟩ := Chg.open hw189
 have hnf191 := Chg.nf hCF190 hnf4 hk185.lt
 have hnf192 := Chg.nf hCF190 hnf10 hk186.lt
 have hnf193 := Chg.nf hCF190 hnf18 hk187.lt
 have hk194 := Blk.chg hk185 hCF190 hnf4
 have hk195 := Blk.chg hk186 hCF190 hnf10
 have hk196 := Blk.chg hk187 hCF190 hnf18
 have hB197 := Chg.trans hB188 hCF190
 refine WL.nil <| ?_
 refine ⟨⟨(hk194).trans (hk22).symm, (hk195).trans (hk23).symm, trivial⟩, ?_⟩
 refine WH.done kR ?_
 refine W.sr <| WL.r (Rd.ldA rfl hk195 underlying27 rfl isz27) rfl <| WL.stL rfl rfl hk196 isz27 rfl rfl (fun w198 hkw198 huw198 hsw198 => ?_)
 have hF199 := Sto.same (w1 := w198) hstF190 (fun k hk hl => huw198.other k (fun e => hnf193 (e ▸ hk)))
 have hB202 := Chg.upd hB197 huw198 oO
 refine WL.z rfl rfl ?_
 refine W.ret (W.retc2 rfl rfl (ldRow hkw198 underlying27 rfl isz27) rfl ?_)
 exact ⟨rvE (by rw [hO]; first | rfl | (rw [hto]; rfl)), _, by rw [hT]; first | exact hF199 | (rw [hto]; exact hF199), hB202⟩
 have h176' := dF h176
 have c3 : ¬ o.kind = 8 := by assumption
 have hO : lkO S s o = ({ o with access := if lockTo s > o.access then lockTo s else o.access }, 0) := by unfold lkO; rw [if_neg c1, if_neg c2, if_neg c3]
 have hT : lkS S s o = S := by unfold lkS; rw [if_neg c1, if_neg c2, if_neg c3]
 refine W.reg <| WL.p (.fa underlying27 rfl sizeOf3 dD rfl) rfl <| WL.r (Rd.ld (isAgg3 _) rfl hk23 rfl) rfl <| WL.m rfl rfl <| WL.p (.max2 rfl rfl) rfl <| WL.p (.fa underlying27 rfl sizeOf3 dD rfl) rfl <| WL.st sizeOf3 rfl rfl rfl hk23 oD (fun w203 hkw203 huw203 hsw203 => ?_)
 have hkw203 : Blk w203 b5 _ _ := hkw203
 have huw203 : Upd b5 _ _ := huw203
 have hF204 := Sto.same (w1 := w203) hF21 (fun k hk hl => huw203.other k (fun e => hnf10 (e ▸ hk)))
 have hk206 := hk24.up huw203
 have hB207 := Chg.upd hB25 huw203 oO
 refine WL.nil <| ?_
 refine W.sr <| WL.r (Rd.ldA rfl hkw203 underlying27 rfl isz27) rfl <| WL.stL rfl rfl hk206 isz27 rfl rfl (fun w208 hkw208 huw208 hsw208 => ?_)
 have hF209 := Sto.same (w1 := w208) hF204 (fun k hk hl => huw208.other k (fun e => hnf18 (e ▸ hk)))
 have hB212 := Chg.upd hB207 huw208 oO
 refine WL.z rfl rfl ?_
 refine W.ret (W.retc2 rfl rfl (ldRow hkw208 underlying27 rfl isz27) rfl ?_)
 exact ⟨rvE (by rw [hO]; first | rfl | (rw [hto]; rfl)), _, by rw [hT]; first | exact hF209 | (rw [hto]; exact hF209), hB212⟩
 have h19' := dF h19
 refine W.sr <| WL.p (.eqs rfl rfl) rfl <| WL.z rfl rfl ?_
 refine W.cond rfl (fun h213 => ?_) (fun h213 => ?_)
 have h213' := dT h213
 have hto : lockTo s = 3 := by unfold lockTo; rw [if_neg aS, if_pos aS]
 refine W.reg <| WL.z rfl rfl ?_
 refine W.seq <| W.block <| W.seq <| W.sr <| WL.r (Rd.ldA rfl hk15 underlying27 rfl isz27) rfl <| WL.c1 hb58 rfl rfl ((conv_typed o _)) (fun w214 hw214 => ?_)
 have hF215 := Sto.same (w1 := w214) hF12 (fun k hk hl => hw214.block k hl)
 have hk216 := hk13.below hw214 hk13.lt
 have hk217 := hk15.below hw214 hk15.lt
 have hk218 := hkb11.below hw214 hkb11.lt
 have hB219 := Chg.low hB17 hw214
 refine WL.p (.not rfl) rfl <| WL.z rfl rfl ?_
 refine W.cond rfl (fun h220 => ?_) (fun h220 => ?_)
 have h220' := (nT h220)
 refine W.skip <| W.condT rfl (by rw [(nT h220)] <;> rfl) ?_
 refine W.seq ?_
 have c1 : typedB o = false ∨ (o.kind = 8 ∧ lockTo s = 2) := by rw [hto]; simp_all
 have hO : lkO S s o = (ob0, 16) := if_pos c1
 have hT : lkS S s o = S := if_pos c1
 refine W.reg <| WL.p (.buildL (ps := _) blt27 rfl rfl rfl pZ) rfl ?_
 refine WL.stL rfl rfl hk218 isz27 rfl rfl (fun w221 hkw221 huw221 hsw221 => ?_)
 have hF222 := Sto.same (w1 := w221) hF215 (fun k hk hl => huw221.other k (fun e => hnf18 (e ▸ hk)))
 have hB225 := Chg.upd hB219 huw221 oO
 refine WL.z rfl rfl ?_
 refine W.ret (W.retc2 rfl rfl (ldRow hkw221 underlying27 rfl isz27) rfl ?_)
 exact ⟨rvE (by rw [hO]; first | rfl | (rw [hto]; rfl)), _, by rw [hT]; first | exact hF222 | (rw [hto]; exact hF222), hB225⟩
 have h220' := (nF h220)
 refine W.reg <| WL.p (.fa underlying27 rfl sizeOf3 dD rfl) rfl <| WL.r (Rd.ld (isAgg3 _) rfl hk217 rfl) rfl <| WL.p (.eql rfl rfl) rfl <| WL.m rfl rfl <| WL.gd rfl rfl rfl (fun g226 => ?_) (fun g226 => ?_)
 have g226' := dT g226
 refine WL.m rfl rfl <| WL.gy rfl rfl rfl g226 <| WL.p (.eql rfl rfl) rfl <| WL.p (.pkT rfl g226 rfl) rfl <| WL.z rfl rfl ?_
 refine W.cond rfl (fun h227 => ?_) (fun h227 => ?_)
 have h227' := dT h227
 refine W.seq ?_
 have c1 : typedB o = false ∨ (o.kind = 8 ∧ lockTo s = 2) := by rw [hto]; simp_all
 have hO : lkO S s o = (ob0, 16) := if_pos c1
 have hT : lkS S s o = S := if_pos c1
 refine W.reg <| WL.p (.buildL (ps := _) blt27 rfl rfl rfl pZ) rfl ?_
 refine WL.stL rfl rfl hk218 isz27 rfl rfl (fun w228 hkw228 huw228 hsw228 => ?_)
 have hF229 := Sto.same (w1 := w228) hF215 (fun k hk hl => huw228.other k (fun e => hnf18 (e ▸ hk)))
 have hB232 := Chg.upd hB219 huw228 oO
 refine WL.z rfl rfl ?_
 refine W.ret (W.retc2 rfl rfl (ldRow hkw228 underlying27 rfl isz27) rfl ?_)
 exact ⟨rvE (by rw [hO]; first | rfl | (rw [hto]; rfl)), _, by rw [hT]; first | exact hF229 | (rw [hto]; exact hF229), hB232⟩
 have h227' := dF h227
 refine W.seq ?_
 have c1 : ¬ (typedB o = false ∨ (o.kind = 8 ∧ lockTo s = 2)) := by rw [hto]; simp_all
 refine W.reg <| WL.m rfl rfl <| WL.p (.neq rfl rfl) rfl <| WL.m rfl rfl <| WL.gd rfl rfl rfl (fun g233 => ?_) (fun g233 => ?_)
 have g233' := ndT g233
 refine WL.r (Rd.ldA rfl hk216 underlying72 rfl isz72) rfl <| WL.gy rfl rfl rfl g233 <| WL.r (Rd.ldA rfl hk217 underlying27 rfl isz27) rfl <| WL.gy rfl rfl rfl g233 <| WL.c1 hb59 rfl rfl ((conv_access b F S o _ hF215 hok)) (fun w234 hw234 => ?_)
 have hF235 := Sto.same (w1 := w234) hF215 (fun k hk hl => hw234.block k hl)
 have hk236 := hk216.below hw234 hk216.lt
 have hk237 := hk217.below hw234 hk217.lt
 have hk238 := hk218.below hw234 hk218.lt
 have hB239 := Chg.low hB219 hw234
 refine WL.gy rfl rfl rfl g233 <| WL.p (.eql rfl rfl) rfl <| WL.p (.pkT rfl g233 rfl) rfl <| WL.z rfl rfl ?_
 refine W.cond rfl (fun h240 => ?_) (fun h240 => ?_)
 have h240' := dT h240
 refine W.seq ?_
 have c2 : lockTo s ≠ 3 ∧ accO S o = 3 := by rw [hto]; simp_all
 have hO : lkO S s o = (ob0, 5) := by unfold lkO; rw [if_neg c1, if_pos c2]
 have hT : lkS S s o = S := by unfold lkS; rw [if_neg c1, if_pos c2]
 refine W.reg <| WL.p (.buildL (ps := _) blt27 rfl rfl rfl pZ) rfl ?_
 refine WL.stL rfl rfl hk238 isz27 rfl rfl (fun w241 hkw241 huw241 hsw241 => ?_)
 have hF242 := Sto.same (w1 := w241) hF235 (fun k hk hl => huw241.other k (fun e => hnf18 (e ▸ hk)))
 have hB245 := Chg.upd hB239 huw241 oO
 refine WL.z rfl rfl ?_
 refine W.ret (W.retc2 rfl rfl (ldRow hkw241 underlying27 rfl isz27) rfl ?_)
 exact ⟨rvE (by rw [hO]; first | rfl | (rw [hto]; rfl)), _, by rw [hT]; first | exact hF242 | (rw [hto]; exact hF242), hB245⟩
 have h240' := dF h240
 refine W.seq ?_
 have c2 : ¬ (lockTo s ≠ 3 ∧ accO S o = 3) := by rw [hto]; simp_all
 refine W.reg <| WL.p (.fa underlying27 rfl sizeOf3 dD rfl) rfl <| WL.r (Rd.ld (isAgg3 _) rfl hk237 rfl) rfl <| WL.p (.eql rfl rfl) rfl <| WL.z rfl rfl ?_
 refine W.cond rfl (fun h246 => ?_) (fun h246 => ?_)
 have h246' := dT h246
 have c3 : o.kind = 8 := by assumption
 have hO : lkO S s o = (o, 0) := by unfold lkO; rw [if_neg c1, if_neg c2, if_pos c3]
 have hT : lkS S s o = lockS S o (if lockTo s > accO S o then lockTo s else accO S o) := by unfold lkS; rw [if_neg c1, if_neg c2, if_pos c3]
 refine W.regH 9 rfl mixed (fun w' => w'.heap[b1]? = w234.heap[b1]? ∧ w'.heap[b5]? = w234.heap[b5]? ∧ True) (fun w247 dw247 => ?_)
 have hF248 := Sto.same (w1 := w247) hF235 (fun k hk hl => (by obtain ⟨m, rfl⟩ := dw247; rfl))
 have hk249 := hk236.drew dw247
 have hk250 := hk237.drew dw247
 have hk251 := hk238.drew dw247
 have hB252 := Chg.drew hB239 dw247
 refine WH.tp 0 rfl (.fa underlying72 rfl sizeOf22 dD rfl) ⟨(hk249).trans (hk236).symm, (hk250).trans (hk237).symm, trivial⟩ rfl ?_
 refine WH.tk 1 rfl (fun w' hw' => Rd.ld (isAgg22 _) rfl ((hw'.1).trans hk236) rfl) ⟨(hk249).trans (hk236).symm, (hk250).trans (hk237).symm, trivial⟩ rfl ?_
 refine WH.tk 2 rfl (fun w' hw' => Rd.ldA rfl ((hw'.2.1).trans hk237) underlying27 rfl isz27) ⟨(hk249).trans (hk236).symm, (hk250).trans (hk237).symm, trivial⟩ rfl ?_
 refine WH.tk 3 rfl (fun w' hw' => Rd.ldA rfl ((hw'.1).trans hk236) underlying72 rfl isz72) ⟨(hk249).trans (hk236).symm, (hk250).trans (hk237).symm, trivial⟩ rfl ?_
 refine WH.tk 4 rfl (fun w' hw' => Rd.ldA rfl ((hw'.2.1).trans hk237) underlying27 rfl isz27) ⟨(hk249).trans (hk236).symm, (hk250).trans (hk237).symm, trivial⟩ rfl ?_
 refine WH.tp 6 rfl (.mv rfl) ⟨(hk249).trans (hk236).symm, (hk250).trans (hk237).symm, trivial⟩ rfl ?_
 refine WH.br1 5 rfl ?_
 refine WL.c1 hb59 rfl rfl ((conv_access b F S o _ hF248 hok)) (fun w253 hw253 => ?_)
 have hF254 := Sto.same (w1 := w253) hF248 (fun k hk hl => hw253.block k hl)
 have hk255 := hk249.below hw253 hk249.lt
 have hk256 := hk250.below hw253 hk250.lt
 have hk257 := hk251.below hw253 hk251.lt
 have hB258 := Chg.low hB252 hw253
 refine WL.nil <| ?_
 refine ⟨⟨(hk255).trans (hk236).symm, (hk256).trans (hk237).symm, trivial⟩, ?_⟩
 refine WH.tp 7 rfl (.max2 rfl rfl) ⟨(hk255).trans (hk236).symm, (hk256).trans (hk237).symm, trivial⟩ rfl ?_
 refine WH.br1 8 rfl ?_
 refine WL.c1 hb34 rfl rfl ((sto_Lock b F S o _ _ hF254 hok hch)) (fun w259 hw259 => ?_)
 obtain ⟨F260, hstF260, hCF260, hxF260⟩ := Chg.open hw259
 have hnf261 := Chg.nf hCF260 hnf4 hk255.lt
 have hnf262 := Chg.nf hCF260 hnf10 hk256.lt
 have hnf263 := Chg.nf hCF260 hnf18 hk257.lt
 have hk264 := Blk.chg hk255 hCF260 hnf4
 have hk265 := Blk.chg hk256 hCF260 hnf10
 have hk266 := Blk.chg hk257 hCF260 hnf18
 have hB267 := Chg.trans hB258 hCF260
 refine WL.nil <| ?_
 refine ⟨⟨(hk264).trans (hk236).symm, (hk265).trans (hk237).symm, trivial⟩, ?_⟩
 refine WH.done kR ?_
 refine W.sr <| WL.r (Rd.ldA rfl hk265 underlying27 rfl isz27) rfl <| WL.stL rfl rfl hk266 isz27 rfl rfl (fun w268 hkw268 huw268 hsw268 => ?_)
 have hF269 := Sto.same (w1 := w268) hstF260 (fun k hk hl => huw268.other k (fun e => hnf263 (e ▸ hk)))
 have hB272 := Chg.upd hB267 huw268 oO
 refine WL.z rfl rfl ?_
 refine W.ret (W.retc2 rfl rfl (ldRow hkw268 underlying27 rfl isz27) rfl ?_)
 exact ⟨rvE (by rw [hO]; first | rfl | (rw [hto]; rfl)), _, by rw [hT]; first | exact hF269 | (rw [hto]; exact hF269), hB272⟩
 have h246' := dF h246
 have c3 : ¬ o.kind = 8 := by assumption
 have hO : lkO S s o = ({ o with access := if lockTo s > o.access then lockTo s else o.access }, 0) := by unfold lkO; rw [if_neg c1, if_neg c2, if_neg c3]
 have hT : lkS S s o = S := by unfold lkS; rw [if_neg c1, if_neg c2, if_neg c3]
 refine W.reg <| WL.p (.fa underlying27 rfl sizeOf3 dD rfl) rfl <| WL.r (Rd.ld (isAgg3 _) rfl hk237 rfl) rfl <| WL.m rfl rfl <| WL.p (.max2 rfl rfl) rfl <| WL.p (.fa underlying27 rfl sizeOf3 dD rfl) rfl <| WL.st sizeOf3 rfl rfl rfl hk237 oD (fun w273 hkw273 huw273 hsw273 => ?_)
 have hkw273 : Blk w273 b5 _ _ := hkw273
 have huw273 : Upd b5 _ _ := huw273
 have hF274 := Sto.same (w1 := w273) hF235 (fun k hk hl => huw273.other k (fun e => hnf10 (e ▸ hk)))
 have hk276 := hk238.up huw273
 have hB277 := Chg.upd hB239 huw273 oO
 refine WL.nil <| ?_
 refine W.sr <| WL.r (Rd.ldA rfl hkw273 underlying27 rfl isz27) rfl <| WL.stL rfl rfl hk276 isz27 rfl rfl (fun w278 hkw278 huw278 hsw278 => ?_)
 have hF279 := Sto.same (w1 := w278) hF274 (fun k hk hl => huw278.other k (fun e => hnf18 (e ▸ hk)))
 have hB282 := Chg.upd hB277 huw278 oO
 refine WL.z rfl rfl ?_
 refine W.ret (W.retc2 rfl rfl (ldRow hkw278 underlying27 rfl isz27) rfl ?_)
 exact ⟨rvE (by rw [hO]; first | rfl | (rw [hto]; rfl)), _, by rw [hT]; first | exact hF279 | (rw [hto]; exact hF279), hB282⟩
 have g233' := ndF g233
 refine WL.gn rfl rfl rfl g233 <| WL.gn rfl rfl rfl g233 <| WL.gn rfl rfl rfl g233 <| WL.p (.pkF rfl g233 rfl) rfl <| WL.z rfl rfl ?_
 refine W.condF rfl rfl ?_
 refine W.seq ?_
 have c2 : ¬ (lockTo s ≠ 3 ∧ accO S o = 3) := by rw [hto]; simp_all
 refine W.reg <| WL.p (.fa underlying27 rfl sizeOf3 dD rfl) rfl <| WL.r (Rd.ld (isAgg3 _) rfl hk217 rfl) rfl <| WL.p (.eql rfl rfl) rfl <| WL.z rfl rfl ?_
 refine W.cond rfl (fun h283 => ?_) (fun h283 => ?_)
 have h283' := dT h283
 have c3 : o.kind = 8 := by assumption
 have hO : lkO S s o = (o, 0) := by unfold lkO; rw [if_neg c1, if_neg c2, if_pos c3]
 have hT : lkS S s o = lockS S o (if lockTo s > accO S o then lockTo s else accO S o) := by unfold lkS; rw [if_neg c1, if_neg c2, if_pos c3]
 refine W.regH 9 rfl mixed (fun w' => w'.heap[b1]? = w214.heap[b1]? ∧ w'.heap[b5]? = w214.heap[b5]? ∧ True) (fun w284 dw284 => ?_)
 have hF285 := Sto.same (w1 := w284) hF215 (fun k hk hl => (by obtain ⟨m, rfl⟩ := dw284; rfl))
 have hk286 := hk216.drew dw284
 have hk287 := hk217.drew dw284
 have hk288 := hk218.drew dw284
 have hB289 := Chg.drew hB219 dw284
 refine WH.tp 0 rfl (.fa underlying72 rfl sizeOf22 dD rfl) ⟨(hk286).trans (hk216).symm, (hk287).trans (hk217).symm, trivial⟩ rfl ?_
 refine WH.tk 1 rfl (fun w' hw' => Rd.ld (isAgg22 _) rfl ((hw'.1).trans hk216) rfl) ⟨(hk286).trans (hk216).symm, (hk287).trans (hk217).symm, trivial⟩ rfl ?_
 refine WH.tk 2 rfl (fun w' hw' => Rd.ldA rfl ((hw'.2.1).trans hk217) underlying27 rfl isz27) ⟨(hk286).trans (hk216).symm, (hk287).trans (hk217).symm, trivial⟩ rfl ?_
 refine WH.tk 3 rfl (fun w' hw' => Rd.ldA rfl ((hw'.1).trans hk216) underlying72 rfl isz72) ⟨(hk286).trans (hk216).symm, (hk287).trans (hk217).symm, trivial⟩ rfl ?_
 refine WH.tk 4 rfl (fun w' hw' => Rd.ldA rfl ((hw'.2.1).trans hk217) underlying27 rfl isz27) ⟨(hk286).trans (hk216).symm, (hk287).trans (hk217).symm, trivial⟩ rfl ?_
 refine WH.tp 6 rfl (.mv rfl) ⟨(hk286).trans (hk216).symm, (hk287).trans (hk217).symm, trivial⟩ rfl ?_
 refine WH.br1 5 rfl ?_
 refine WL.c1 hb59 rfl rfl ((conv_access b F S o _ hF285 hok)) (fun w290 hw290 => ?_)
 have hF291 := Sto.same (w1 := w290) hF285 (fun k hk hl => hw290.block k hl)
 have hk292 := hk286.below hw290 hk286.lt
 have hk293 := hk287.below hw290 hk287.lt
 have hk294 := hk288.below hw290 hk288.lt
 have hB295 := Chg.low hB289 hw290
 refine WL.nil <| ?_
 refine ⟨⟨(hk292).trans (hk216).symm, (hk293).trans (hk217).symm, trivial⟩, ?_⟩
 refine WH.tp 7 rfl (.max2 rfl rfl) ⟨(hk292).trans (hk216).symm, (hk293).trans (hk217).symm, trivial⟩ rfl ?_
 refine WH.br1 8 rfl ?_
 refine WL.c1 hb34 rfl rfl ((sto_Lock b F S o _ _ hF291 hok hch)) (fun w296 hw296 => ?_)
 obtain ⟨F297, hstF297, hCF297, hxF297⟩ := Chg.open hw296
 have hnf298 := Chg.nf hCF297 hnf4 hk292.lt
 have hnf299 := Chg.nf hCF297 hnf10 hk293.lt
 have hnf300 := Chg.nf hCF297 hnf18 hk294.lt
 have hk301 := Blk.chg hk292 hCF297 hnf4
 have hk302 := Blk.chg hk293 hCF297 hnf10
 have hk303 := Blk.chg hk294 hCF297 hnf18
 have hB304 := Chg.trans hB295 hCF297
 refine WL.nil <| ?_
 refine ⟨⟨(hk301).trans (hk216).symm, (hk302).trans (hk217).symm, trivial⟩, ?_⟩
 refine WH.done kR ?_
 refine W.sr <| WL.r (Rd.ldA rfl hk302 underlying27 rfl isz27) rfl <| WL.stL rfl rfl hk303 isz27 rfl rfl (fun w305 hkw305 huw305 hsw305 => ?_)
 have hF306 := Sto.same (w1 := w305) hstF297 (fun k hk hl => huw305.other k (fun e => hnf300 (e ▸ hk)))
 have hB309 := Chg.upd hB304 huw305 oO
 refine WL.z rfl rfl ?_
 refine W.ret (W.retc2 rfl rfl (ldRow hkw305 underlying27 rfl isz27) rfl ?_)
 exact ⟨rvE (by rw [hO]; first | rfl | (rw [hto]; rfl)), _, by rw [hT]; first | exact hF306 | (rw [hto]; exact hF306), hB309⟩
 have h283' := dF h283
 have c3 : ¬ o.kind = 8 := by assumption
 have hO : lkO S s o = ({ o with access := if lockTo s > o.access then lockTo s else o.access }, 0) := by unfold lkO; rw [if_neg c1, if_neg c2, if_neg c3]
 have hT : lkS S s o = S := by unfold lkS; rw [if_neg c1, if_neg c2, if_neg c3]
 refine W.reg <| WL.p (.fa underlying27 rfl sizeOf3 dD rfl) rfl <| WL.r (Rd.ld (isAgg3 _) rfl hk217 rfl) rfl <| WL.m rfl rfl <| WL.p (.max2 rfl rfl) rfl <| WL.p (.fa underlying27 rfl sizeOf3 dD rfl) rfl <| WL.st sizeOf3 rfl rfl rfl hk217 oD (fun w310 hkw310 huw310 hsw310 => ?_)
 have hkw310 : Blk w310 b5 _ _ := hkw310
 have huw310 : Upd b5 _ _ := huw310
 have hF311 := Sto.same (w1 := w310) hF215 (fun k hk hl => huw310.other k (fun e => hnf10 (e ▸ hk)))
 have hk313 := hk218.up huw310
 have hB314 := Chg.upd hB219 huw310 oO
 refine WL.nil <| ?_
 refine W.sr <| WL.r (Rd.ldA rfl hkw310 underlying27 rfl isz27) rfl <| WL.stL rfl rfl hk313 isz27 rfl rfl (fun w315 hkw315 huw315 hsw315 => ?_)
 have hF316 := Sto.same (w1 := w315) hF311 (fun k hk hl => huw315.other k (fun e => hnf18 (e ▸ hk)))
 have hB319 := Chg.upd hB314 huw315 oO
 refine WL.z rfl rfl ?_
 refine W.ret (W.retc2 rfl rfl (ldRow hkw315 underlying27 rfl isz27) rfl ?_)
 exact ⟨rvE (by rw [hO]; first | rfl | (rw [hto]; rfl)), _, by rw [hT]; first | exact hF316 | (rw [hto]; exact hF316), hB319⟩
 have g226' := dF g226
 refine WL.gn rfl rfl rfl g226 <| WL.p (.pkF rfl g226 rfl) rfl <| WL.z rfl rfl ?_
 refine W.condF rfl rfl ?_
 refine W.seq ?_
 have c1 : ¬ (typedB o = false ∨ (o.kind = 8 ∧ lockTo s = 2)) := by rw [hto]; simp_all
 refine W.reg <| WL.m rfl rfl <| WL.p (.neq rfl rfl) rfl <| WL.m rfl rfl <| WL.gd rfl rfl rfl (fun g320 => ?_) (fun g320 => ?_)
 have g320' := ndT g320
 refine WL.r (Rd.ldA rfl hk216 underlying72 rfl isz72) rfl <| WL.gy rfl rfl rfl g320 <| WL.r (Rd.ldA rfl hk217 underlying27 rfl isz27) rfl <| WL.gy rfl rfl rfl g320 <| WL.c1 hb59 rfl rfl ((conv_access b F S o _ hF215 hok)) (fun w321 hw321 => ?_)
 have hF322 := Sto.same (w1 := w321) hF215 (fun k hk hl => hw321.block k hl)
 have hk323 := hk216.below hw321 hk216.lt
 have hk324 := hk217.below hw321 hk217.lt
 have hk325 := hk218.below hw321 hk218.lt
 have hB326 := Chg.low hB219 hw321
 refine WL.gy rfl rfl rfl g320 <| WL.p (.eql rfl rfl) rfl <| WL.p (.pkT rfl g320 rfl) rfl <| WL.z rfl rfl ?_
 refine W.cond rfl (fun h327 => ?_) (fun h327 => ?_)
 have h327' := dT h327
 refine W.seq ?_
 have c2 : lockTo s ≠ 3 ∧ accO S o = 3 := by rw [hto]; simp_all
 have hO : lkO S s o = (ob0, 5) := by unfold lkO; rw [if_neg c1, if_pos c2]
 have hT : lkS S s o = S := by unfold lkS; rw [if_neg c1, if_pos c2]
 refine W.reg <| WL.p (.buildL (ps := _) blt27 rfl rfl rfl pZ) rfl ?_
 refine WL.stL rfl rfl hk325 isz27 rfl rfl (fun w328 hkw328 huw328 hsw328 => ?_)
 have hF329 := Sto.same (w1 := w328) hF322 (fun k hk hl => huw328.other k (fun e => hnf18 (e ▸ hk)))
 have hB332 := Chg.upd hB326 huw328 oO
 refine WL.z rfl rfl ?_
 refine W.ret (W.retc2 rfl rfl (ldRow hkw328 underlying27 rfl isz27) rfl ?_)
 exact ⟨rvE (by rw [hO]; first | rfl | (rw [hto]; rfl)), _, by rw [hT]; first | exact hF329 | (rw [hto]; exact hF329), hB332⟩
 have h327' := dF h327
 refine W.seq ?_
 have c2 : ¬ (lockTo s ≠ 3 ∧ accO S o = 3) := by rw [hto]; simp_all
 refine W.reg <| WL.p (.fa underlying27 rfl sizeOf3 dD rfl) rfl <| WL.r (Rd.ld (isAgg3 _) rfl hk324 rfl) rfl <| WL.p (.eql rfl rfl) rfl <| WL.z rfl rfl ?_
 refine W.cond rfl (fun h333 => ?_) (fun h333 => ?_)
 have h333' := dT h333
 have c3 : o.kind = 8 := by assumption
 have hO : lkO S s o = (o, 0) := by unfold lkO; rw [if_neg c1, if_neg c2, if_pos c3]
 have hT : lkS S s o = lockS S o (if lockTo s > accO S o then lockTo s else accO S o) := by unfold lkS; rw [if_neg c1, if_neg c2, if_pos c3]
 refine W.regH 9 rfl mixed (fun w' => w'.heap[b1]? = w321.heap[b1]? ∧ w'.heap[b5]? = w321.heap[b5]? ∧ True) (fun w334 dw334 => ?_)
 have hF335 := Sto.same (w1 := w334) hF322 (fun k hk hl => (by obtain ⟨m, rfl⟩ := dw334; rfl))
 have hk336 := hk323.drew dw334
 have hk337 := hk324.drew dw334
 have hk338 := hk325.drew dw334
 have hB339 := Chg.drew hB326 dw334
 refine WH.tp 0 rfl (.fa underlying72 rfl sizeOf22 dD rfl) ⟨(hk336).trans (hk323).symm, (hk337).trans (hk324).symm, trivial⟩ rfl ?_
 refine WH.tk 1 rfl (fun w' hw' => Rd.ld (isAgg22 _) rfl ((hw'.1).trans hk323) rfl) ⟨(hk336).trans (hk323).symm, (hk337).trans (hk324).symm, trivial⟩ rfl ?_
 refine WH.tk 2 rfl (fun w' hw' => Rd.ldA rfl ((hw'.2.1).trans hk324) underlying27 rfl isz27) ⟨(hk336).trans (hk323).symm, (hk337).trans (hk324).symm, trivial⟩ rfl ?_
 refine WH.tk 3 rfl (fun w' hw' => Rd.ldA rfl ((hw'.1).trans hk323) underlying72 rfl isz72) ⟨(hk336).trans (hk323).symm, (hk337).trans (hk324).symm, trivial⟩ rfl ?_
 refine WH.tk 4 rfl (fun w' hw' => Rd.ldA rfl ((hw'.2.1).trans hk324) underlying27 rfl isz27) ⟨(hk336).trans (hk323).symm, (hk337).trans (hk324).symm, trivial⟩ rfl ?_
 refine WH.tp 6 rfl (.mv rfl) ⟨(hk336).trans (hk323).symm, (hk337).trans (hk324).symm, trivial⟩ rfl ?_
 refine WH.br1 5 rfl ?_
 refine WL.c1 hb59 rfl rfl ((conv_access b F S o _ hF335 hok)) (fun w340 hw340 => ?_)
 have hF341 := Sto.same (w1 := w340) hF335 (fun k hk hl => hw340.block k hl)
 have hk342 := hk336.below hw340 hk336.lt
 have hk343 := hk337.below hw340 hk337.lt
 have hk344 := hk338.below hw340 hk338.lt
 have hB345 := Chg.low hB339 hw340
 refine WL.nil <| ?_
 refine ⟨⟨(hk342).trans (hk323).symm, (hk343).trans (hk324).symm, trivial⟩, ?_⟩
 refine WH.tp 7 rfl (.max2 rfl rfl) ⟨(hk342).trans (hk323).symm, (hk343).trans (hk324).symm, trivial⟩ rfl ?_
 refine WH.br1 8 rfl ?_
 refine WL.c1 hb34 rfl rfl ((sto_Lock b F S o _ _ hF341 hok hch)) (fun w346 hw346 => ?_)
 obtain ⟨F347, hstF347, hCF347, hxF347⟩ := Chg.open hw346
 have hnf348 := Chg.nf hCF347 hnf4 hk342.lt
 have hnf349 := Chg.nf hCF347 hnf10 hk343.lt
 have hnf350 := Chg.nf hCF347 hnf18 hk344.lt
 have hk351 := Blk.chg hk342 hCF347 hnf4
 have hk352 := Blk.chg hk343 hCF347 hnf10
 have hk353 := Blk.chg hk344 hCF347 hnf18
 have hB354 := Chg.trans hB345 hCF347
 refine WL.nil <| ?_
 refine ⟨⟨(hk351).trans (hk323).symm, (hk352).trans (hk324).symm, trivial⟩, ?_⟩
 refine WH.done kR ?_
 refine W.sr <| WL.r (Rd.ldA rfl hk352 underlying27 rfl isz27) rfl <| WL.stL rfl rfl hk353 isz27 rfl rfl (fun w355 hkw355 huw355 hsw355 => ?_)
 have hF356 := Sto.same (w1 := w355) hstF347 (fun k hk hl => huw355.other k (fun e => hnf350 (e ▸ hk)))
 have hB359 := Chg.upd hB354 huw355 oO
 refine WL.z rfl rfl ?_
 refine W.ret (W.retc2 rfl rfl (ldRow hkw355 underlying27 rfl isz27) rfl ?_)
 exact ⟨rvE (by rw [hO]; first | rfl | (rw [hto]; rfl)), _, by rw [hT]; first | exact hF356 | (rw [hto]; exact hF356), hB359⟩
 have h333' := dF h333
 have c3 : ¬ o.kind = 8 := by assumption
 have hO : lkO S s o = ({ o with access := if lockTo s > o.access then lockTo s else o.access }, 0) := by unfold lkO; rw [if_neg c1, if_neg c2, if_neg c3]
 have hT : lkS S s o = S := by unfold lkS; rw [if_neg c1, if_neg c2, if_neg c3]
 refine W.reg <| WL.p (.fa underlying27 rfl sizeOf3 dD rfl) rfl <| WL.r (Rd.ld (isAgg3 _) rfl hk324 rfl) rfl <| WL.m rfl rfl <| WL.p (.max2 rfl rfl) rfl <| WL.p (.fa underlying27 rfl sizeOf3 dD rfl) rfl <| WL.st sizeOf3 rfl rfl rfl hk324 oD (fun w360 hkw360 huw360 hsw360 => ?_)
 have hkw360 : Blk w360 b5 _ _ := hkw360
 have huw360 : Upd b5 _ _ := huw360
 have hF361 := Sto.same (w1 := w360) hF322 (fun k hk hl => huw360.other k (fun e => hnf10 (e ▸ hk)))
 have hk363 := hk325.up huw360
 have hB364 := Chg.upd hB326 huw360 oO
 refine WL.nil <| ?_
 refine W.sr <| WL.r (Rd.ldA rfl hkw360 underlying27 rfl isz27) rfl <| WL.stL rfl rfl hk363 isz27 rfl rfl (fun w365 hkw365 huw365 hsw365 => ?_)
 have hF366 := Sto.same (w1 := w365) hF361 (fun k hk hl => huw365.other k (fun e => hnf18 (e ▸ hk)))
 have hB369 := Chg.upd hB364 huw365 oO
 refine WL.z rfl rfl ?_
 refine W.ret (W.retc2 rfl rfl (ldRow hkw365 underlying27 rfl isz27) rfl ?_)
 exact ⟨rvE (by rw [hO]; first | rfl | (rw [hto]; rfl)), _, by rw [hT]; first | exact hF366 | (rw [hto]; exact hF366), hB369⟩
 have g320' := ndF g320
 refine WL.gn rfl rfl rfl g320 <| WL.gn rfl rfl rfl g320 <| WL.gn rfl rfl rfl g320 <| WL.p (.pkF rfl g320 rfl) rfl <| WL.z rfl rfl ?_
 refine W.condF rfl rfl ?_
 refine W.seq ?_
 have c2 : ¬ (lockTo s ≠ 3 ∧ accO S o = 3) := by rw [hto]; simp_all
 refine W.reg <| WL.p (.fa underlying27 rfl sizeOf3 dD rfl) rfl <| WL.r (Rd.ld (isAgg3 _) rfl hk217 rfl) rfl <| WL.p (.eql rfl rfl) rfl <| WL.z rfl rfl ?_
 refine W.cond rfl (fun h370 => ?_) (fun h370 => ?_)
 have h370' := dT h370
 have c3 : o.kind = 8 := by assumption
 have hO : lkO S s o = (o, 0) := by unfold lkO; rw [if_neg c1, if_neg c2, if_pos c3]
 have hT : lkS S s o = lockS S o (if lockTo s > accO S o then lockTo s else accO S o) := by unfold lkS; rw [if_neg c1, if_neg c2, if_pos c3]
 refine W.regH 9 rfl mixed (fun w' => w'.heap[b1]? = w214.heap[b1]? ∧ w'.heap[b5]? = w214.heap[b5]? ∧ True) (fun w371 dw371 => ?_)
 have hF372 := Sto.same (w1 := w371) hF215 (fun k hk hl => (by obtain ⟨m, rfl⟩ := dw371; rfl))
 have hk373 := hk216.drew dw371
 have hk374 := hk217.drew dw371
 have hk375 := hk218.drew dw371
 have hB376 := Chg.drew hB219 dw371
 refine WH.tp 0 rfl (.fa underlying72 rfl sizeOf22 dD rfl) ⟨(hk373).trans (hk216).symm, (hk374).trans (hk217).symm, trivial⟩ rfl ?_
 refine WH.tk 1 rfl (fun w' hw' => Rd.ld (isAgg22 _) rfl ((hw'.1).trans hk216) rfl) ⟨(hk373).trans (hk216).symm, (hk374).trans (hk217).symm, trivial⟩ rfl ?_
 refine WH.tk 2 rfl (fun w' hw' => Rd.ldA rfl ((hw'.2.1).trans hk217) underlying27 rfl isz27) ⟨(hk373).trans (hk216).symm, (hk374).trans (hk217).symm, trivial⟩ rfl ?_
 refine WH.tk 3 rfl (fun w' hw' => Rd.ldA rfl ((hw'.1).trans hk216) underlying72 rfl isz72) ⟨(hk373).trans (hk216).symm, (hk374).trans (hk217).symm, trivial⟩ rfl ?_
 refine WH.tk 4 rfl (fun w' hw' => Rd.ldA rfl ((hw'.2.1).trans hk217) underlying27 rfl isz27) ⟨(hk373).trans (hk216).symm, (hk374).trans (hk217).symm, trivial⟩ rfl ?_
 refine WH.tp 6 rfl (.mv rfl) ⟨(hk373).trans (hk216).symm, (hk374).trans (hk217).symm, trivial⟩ rfl ?_
 refine WH.br1 5 rfl ?_
 refine WL.c1 hb59 rfl rfl ((conv_access b F S o _ hF372 hok)) (fun w377 hw377 => ?_)
 have hF378 := Sto.same (w1 := w377) hF372 (fun k hk hl => hw377.block k hl)
 have hk379 := hk373.below hw377 hk373.lt
 have hk380 := hk374.below hw377 hk374.lt
 have hk381 := hk375.below hw377 hk375.lt
 have hB382 := Chg.low hB376 hw377
 refine WL.nil <| ?_
 refine ⟨⟨(hk379).trans (hk216).symm, (hk380).trans (hk217).symm, trivial⟩, ?_⟩
 refine WH.tp 7 rfl (.max2 rfl rfl) ⟨(hk379).trans (hk216).symm, (hk380).trans (hk217).symm, trivial⟩ rfl ?_
 refine WH.br1 8 rfl ?_
 refine WL.c1 hb34 rfl rfl ((sto_Lock b F S o _ _ hF378 hok hch)) (fun w383 hw383 => ?_)
 obtain ⟨F384, hstF384, hCF384, hxF384⟩ := Chg.open hw383
 have hnf385 := Chg.nf hCF384 hnf4 hk379.lt
 have hnf386 := Chg.nf hCF384 hnf10 hk380.lt
 have hnf387 := Chg.nf hCF384 hnf18 hk381.lt
 have hk388 := Blk.chg hk379 hCF384 hnf4
 have hk389 := Blk.chg hk380 hCF384 hnf10
 have hk390 := Blk.chg hk381 hCF384 hnf18
 have hB391 := Chg.trans hB382 hCF384
 refine WL.nil <| ?_
 refine ⟨⟨(hk388).trans (hk216).symm, (hk389).trans (hk217).symm, trivial⟩, ?_⟩
 refine WH.done kR ?_
 refine W.sr <| WL.r (Rd.ldA rfl hk389 underlying27 rfl isz27) rfl <| WL.stL rfl rfl hk390 isz27 rfl rfl (fun w392 hkw392 huw392 hsw392 => ?_)
 have hF393 := Sto.same (w1 := w392) hstF384 (fun k hk hl => huw392.other k (fun e => hnf387 (e ▸ hk)))
 have hB396 := Chg.upd hB391 huw392 oO
 refine WL.z rfl rfl ?_
 refine W.ret (W.retc2 rfl rfl (ldRow hkw392 underlying27 rfl isz27) rfl ?_)
 exact ⟨rvE (by rw [hO]; first | rfl | (rw [hto]; rfl)), _, by rw [hT]; first | exact hF393 | (rw [hto]; exact hF393), hB396⟩
 have h370' := dF h370
 have c3 : ¬ o.kind = 8 := by assumption
 have hO : lkO S s o = ({ o with access := if lockTo s > o.access then lockTo s else o.access }, 0) := by unfold lkO; rw [if_neg c1, if_neg c2, if_neg c3]
 have hT : lkS S s o = S := by unfold lkS; rw [if_neg c1, if_neg c2, if_neg c3]
 refine W.reg <| WL.p (.fa underlying27 rfl sizeOf3 dD rfl) rfl <| WL.r (Rd.ld (isAgg3 _) rfl hk217 rfl) rfl <| WL.m rfl rfl <| WL.p (.max2 rfl rfl) rfl <| WL.p (.fa underlying27 rfl sizeOf3 dD rfl) rfl <| WL.st sizeOf3 rfl rfl rfl hk217 oD (fun w397 hkw397 huw397 hsw397 => ?_)
 have hkw397 : Blk w397 b5 _ _ := hkw397
 have huw397 : Upd b5 _ _ := huw397
 have hF398 := Sto.same (w1 := w397) hF215 (fun k hk hl => huw397.other k (fun e => hnf10 (e ▸ hk)))
 have hk400 := hk218.up huw397
 have hB401 := Chg.upd hB219 huw397 oO
 refine WL.nil <| ?_
 refine W.sr <| WL.r (Rd.ldA rfl hkw397 underlying27 rfl isz27) rfl <| WL.stL rfl rfl hk400 isz27 rfl rfl (fun w402 hkw402 huw402 hsw402 => ?_)
 have hF403 := Sto.same (w1 := w402) hF398 (fun k hk hl => huw402.other k (fun e => hnf18 (e ▸ hk)))
 have hB406 := Chg.upd hB401 huw402 oO
 refine WL.z rfl rfl ?_
 refine W.ret (W.retc2 rfl rfl (ldRow hkw402 underlying27 rfl isz27) rfl ?_)
 exact ⟨rvE (by rw [hO]; first | rfl | (rw [hto]; rfl)), _, by rw [hT]; first | exact hF403 | (rw [hto]; exact hF403), hB406⟩
 have h213' := dF h213
 have hto : lockTo s = 1 := by unfold lockTo; rw [if_neg aS, if_neg aS]
 refine W.skip <| W.seq <| W.block <| W.seq <| W.sr <| WL.r (Rd.ldA rfl hk15 underlying27 rfl isz27) rfl <| WL.c1 hb58 rfl rfl ((conv_typed o _)) (fun w407 hw407 => ?_)
 have hF408 := Sto.same (w1 := w407) hF12 (fun k hk hl => hw407.block k hl)
 have hk409 := hk13.below hw407 hk13.lt
 have hk410 := hk15.below hw407 hk15.lt
 have hk411 := hkb11.below hw407 hkb11.lt
 have hB412 := Chg.low hB17 hw407
 refine WL.p (.not rfl) rfl <| WL.z rfl rfl ?_
 refine W.cond rfl (fun h413 => ?_) (fun h413 => ?_)
 have h413' := (nT h413)
 refine W.skip <| W.condT rfl (by rw [(nT h413)] <;> rfl) ?_
 refine W.seq ?_
 have c1 : typedB o = false ∨ (o.kind = 8 ∧ lockTo s = 2) := by rw [hto]; simp_all
 have hO : lkO S s o = (ob0, 16) := if_pos c1
 have hT : lkS S s o = S := if_pos c1
 refine W.reg <| WL.p (.buildL (ps := _) blt27 rfl rfl rfl pZ) rfl ?_
 refine WL.stL rfl rfl hk411 isz27 rfl rfl (fun w414 hkw414 huw414 hsw414 => ?_)
 have hF415 := Sto.same (w1 := w414) hF408 (fun k hk hl => huw414.other k (fun e => hnf18 (e ▸ hk)))
 have hB418 := Chg.upd hB412 huw414 oO
 refine WL.z rfl rfl ?_
 refine W.ret (W.retc2 rfl rfl (ldRow hkw414 underlying27 rfl isz27) rfl ?_)
 exact ⟨rvE (by rw [hO]; first | rfl | (rw [hto]; rfl)), _, by rw [hT]; first | exact hF415 | (rw [hto]; exact hF415), hB418⟩
 have h413' := (nF h413)
 refine W.reg <| WL.p (.fa underlying27 rfl sizeOf3 dD rfl) rfl <| WL.r (Rd.ld (isAgg3 _) rfl hk410 rfl) rfl <| WL.p (.eql rfl rfl) rfl <| WL.m rfl rfl <| WL.gd rfl rfl rfl (fun g419 => ?_) (fun g419 => ?_)
 have g419' := dT g419
 refine WL.m rfl rfl <| WL.gy rfl rfl rfl g419 <| WL.p (.eql rfl rfl) rfl <| WL.p (.pkT rfl g419 rfl) rfl <| WL.z rfl rfl ?_
 refine W.cond rfl (fun h420 => ?_) (fun h420 => ?_)
 have h420' := dT h420
 refine W.seq ?_
 have c1 : typedB o = false ∨ (o.kind = 8 ∧ lockTo s = 2) := by rw [hto]; simp_all
 have hO : lkO S s o = (ob0, 16) := if_pos c1
 have hT : lkS S s o = S := if_pos c1
 refine W.reg <| WL.p (.buildL (ps := _) blt27 rfl rfl rfl pZ) rfl ?_
 refine WL.stL rfl rfl hk411 isz27 rfl rfl (fun w421 hkw421 huw421 hsw421 => ?_)
 have hF422 := Sto.same (w1 := w421) hF408 (fun k hk hl => huw421.other k (fun e => hnf18 (e ▸ hk)))
 have hB425 := Chg.upd hB412 huw421 oO
 refine WL.z rfl rfl ?_
 refine W.ret (W.retc2 rfl rfl (ldRow hkw421 underlying27 rfl isz27) rfl ?_)
 exact ⟨rvE (by rw [hO]; first | rfl | (rw [hto]; rfl)), _, by rw [hT]; first | exact hF422 | (rw [hto]; exact hF422), hB425⟩
 have h420' := dF h420
 refine W.seq ?_
 have c1 : ¬ (typedB o = false ∨ (o.kind = 8 ∧ lockTo s = 2)) := by rw [hto]; simp_all
 refine W.reg <| WL.m rfl rfl <| WL.p (.neq rfl rfl) rfl <| WL.m rfl rfl <| WL.gd rfl rfl rfl (fun g426 => ?_) (fun g426 => ?_)
 have g426' := ndT g426
 refine WL.r (Rd.ldA rfl hk409 underlying72 rfl isz72) rfl <| WL.gy rfl rfl rfl g426 <| WL.r (Rd.ldA rfl hk410 underlying27 rfl isz27) rfl <| WL.gy rfl rfl rfl g426 <| WL.c1 hb59 rfl rfl ((conv_access b F S o _ hF408 hok)) (fun w427 hw427 => ?_)
 have hF428 := Sto.same (w1 := w427) hF408 (fun k hk hl => hw427.block k hl)
 have hk429 := hk409.below hw427 hk409.lt
 have hk430 := hk410.below hw427 hk410.lt
 have hk431 := hk411.below hw427 hk411.lt
 have hB432 := Chg.low hB412 hw427
 refine WL.gy rfl rfl rfl g426 <| WL.p (.eql rfl rfl) rfl <| WL.p (.pkT rfl g426 rfl) rfl <| WL.z rfl rfl ?_
 refine W.cond rfl (fun h433 => ?_) (fun h433 => ?_)
 have h433' := dT h433
 refine W.seq ?_
 have c2 : lockTo s ≠ 3 ∧ accO S o = 3 := by rw [hto]; simp_all
 have hO : lkO S s o = (ob0, 5) := by unfold lkO; rw [if_neg c1, if_pos c2]
 have hT : lkS S s o = S := by unfold lkS; rw [if_neg c1, if_pos c2]
 refine W.reg <| WL.p (.buildL (ps := _) blt27 rfl rfl rfl pZ) rfl ?_
 refine WL.stL rfl rfl hk431 isz27 rfl rfl (fun w434 hkw434 huw434 hsw434 => ?_)
 have hF435 := Sto.same (w1 := w434) hF428 (fun k hk hl => huw434.other k (fun e => hnf18 (e ▸ hk)))
 have hB438 := Chg.upd hB432 huw434 oO
 refine WL.z rfl rfl ?_
 refine W.ret (W.retc2 rfl rfl (ldRow hkw434 underlying27 rfl isz27) rfl ?_)
 exact ⟨rvE (by rw [hO]; first | rfl | (rw [hto]; rfl)), _, by rw [hT]; first | exact hF435 | (rw [hto]; exact hF435), hB438⟩
 have h433' := dF h433
 refine W.seq ?_
 have c2 : ¬ (lockTo s ≠ 3 ∧ accO S o = 3) := by rw [hto]; simp_all
 refine W.reg <| WL.p (.fa underlying27 rfl sizeOf3 dD rfl) rfl <| WL.r (Rd.ld (isAgg3 _) rfl hk430 rfl) rfl <| WL.p (.eql rfl rfl) rfl <| WL.z rfl rfl ?_
 refine W.cond rfl (fun h439 => ?_) (fun h439 => ?_)
 have h439' := dT h439
 have c3 : o.kind = 8 := by assumption
 have hO : lkO S s o = (o, 0) := by unfold lkO; rw [if_neg c1, if_neg c2, if_pos c3]
 have hT : lkS S s o = lockS S o (if lockTo s > accO S o then lockTo s else accO S o) := by unfold lkS; rw [if_neg c1, if_neg c2, if_pos c3]
 refine W.regH 9 rfl mixed (fun w' => w'.heap[b1]? = w427.heap[b1]? ∧ w'.heap[b5]? = w427.heap[b5]? ∧ True) (fun w440 dw440 => ?_)
 have hF441 := Sto.same (w1 := w440) hF428 (fun k hk hl => (by obtain ⟨m, rfl⟩ := dw440; rfl))
 have hk442 := hk429.drew dw440
 have hk443 := hk430.drew dw440
 have hk444 := hk431.drew dw440
 have hB445 := Chg.drew hB432 dw440
 refine WH.tp 0 rfl (.fa underlying72 rfl sizeOf22 dD rfl) ⟨(hk442).trans (hk429).symm, (hk443).trans (hk430).symm, trivial⟩ rfl ?_
 refine WH.tk 1 rfl (fun w' hw' => Rd.ld (isAgg22 _) rfl ((hw'.1).trans hk429) rfl) ⟨(hk442).trans (hk429).symm, (hk443).trans (hk430).symm, trivial⟩ rfl ?_
 refine WH.tk 2 rfl (fun w' hw' => Rd.ldA rfl ((hw'.2.1).trans hk430) underlying27 rfl isz27) ⟨(hk442).trans (hk429).symm, (hk443).trans (hk430).symm, trivial⟩ rfl ?_
 refine WH.tk 3 rfl (fun w' hw' => Rd.ldA rfl ((hw'.1).trans hk429) underlying72 rfl isz72) ⟨(hk442).trans (hk429).symm, (hk443).trans (hk430).symm, trivial⟩ rfl ?_
 refine WH.tk 4 rfl (fun w' hw' => Rd.ldA rfl ((hw'.2.1).trans hk430) underlying27 rfl isz27) ⟨(hk442).trans (hk429).symm, (hk443).trans (hk430).symm, trivial⟩ rfl ?_
 refine WH.tp 6 rfl (.mv rfl) ⟨(hk442).trans (hk429).symm, (hk443).trans (hk430).symm, trivial⟩ rfl ?_
 refine WH.br1 5 rfl ?_
 refine WL.c1 hb59 rfl rfl ((conv_access b F S o _ hF441 hok)) (fun w446 hw446 => ?_)
 have hF447 := Sto.same (w1 := w446) hF441 (fun k hk hl => hw446.block k hl)
 have hk448 := hk442.below hw446 hk442.lt
 have hk449 := hk443.below hw446 hk443.lt
 have hk450 := hk444.below hw446 hk444.lt
 have hB451 := Chg.low hB445 hw446
 refine WL.nil <| ?_
 refine ⟨⟨(hk448).trans (hk429).symm, (hk449).trans (hk430).symm, trivial⟩, ?_⟩
 refine WH.tp 7 rfl (.max2 rfl rfl) ⟨(hk448).trans (hk429).symm, (hk449).trans (hk430).symm, trivial⟩ rfl ?_
 refine WH.br1 8 rfl ?_
 refine WL.c1 hb34 rfl rfl ((sto_Lock b F S o _ _ hF447 hok hch)) (fun w452 hw452 => ?_)
 obtain ⟨F453, hstF453, hCF453, hxF453⟩ := Chg.open hw452
 have hnf454 := Chg.nf hCF453 hnf4 hk448.lt
 have hnf455 := Chg.nf hCF453 hnf10 hk449.lt
 have hnf456 := Chg.nf hCF453 hnf18 hk450.lt
 have hk457 := Blk.chg hk448 hCF453 hnf4
 have hk458 := Blk.chg hk449 hCF453 hnf10
 have hk459 := Blk.chg hk450 hCF453 hnf18
 have hB460 := Chg.trans hB451 hCF453
 refine WL.nil <| ?_
 refine ⟨⟨(hk457).trans (hk429).symm, (hk458).trans (hk430).symm, trivial⟩, ?_⟩
 refine WH.done kR ?_
 refine W.sr <| WL.r (Rd.ldA rfl hk458 underlying27 rfl isz27) rfl <| WL.stL rfl rfl hk459 isz27 rfl rfl (fun w461 hkw461 huw461 hsw461 => ?_)
 have hF462 := Sto.same (w1 := w461) hstF453 (fun k hk hl => huw461.other k (fun e => hnf456 (e ▸ hk)))
 have hB465 := Chg.upd hB460 huw461 oO
 refine WL.z rfl rfl ?_
 refine W.ret (W.retc2 rfl rfl (ldRow hkw461 underlying27 rfl isz27) rfl ?_)
 exact ⟨rvE (by rw [hO]; first | rfl | (rw [hto]; rfl)), _, by rw [hT]; first | exact hF462 | (rw [hto]; exact hF462), hB465⟩
 have h439' := dF h439
 have c3 : ¬ o.kind = 8 := by assumption
 have hO : lkO S s o = ({ o with access := if lockTo s > o.access then lockTo s else o.access }, 0) := by unfold lkO; rw [if_neg c1, if_neg c2, if_neg c3]
 have hT : lkS S s o = S := by unfold lkS; rw [if_neg c1, if_neg c2, if_neg c3]
 refine W.reg <| WL.p (.fa underlying27 rfl sizeOf3 dD rfl) rfl <| WL.r (Rd.ld (isAgg3 _) rfl hk430 rfl) rfl <| WL.m rfl rfl <| WL.p (.max2 rfl rfl) rfl <| WL.p (.fa underlying27 rfl sizeOf3 dD rfl) rfl <| WL.st sizeOf3 rfl rfl rfl hk430 oD (fun w466 hkw466 huw466 hsw466 => ?_)
 have hkw466 : Blk w466 b5 _ _ := hkw466
 have huw466 : Upd b5 _ _ := huw466
 have hF467 := Sto.same (w1 := w466) hF428 (fun k hk hl => huw466.other k (fun e => hnf10 (e ▸ hk)))
 have hk469 := hk431.up huw466
 have hB470 := Chg.upd hB432 huw466 oO
 refine WL.nil <| ?_
 refine W.sr <| WL.r (Rd.ldA rfl hkw466 underlying27 rfl isz27) rfl <| WL.stL rfl rfl hk469 isz27 rfl rfl (fun w471 hkw471 huw471 hsw471 => ?_)
 have hF472 := Sto.same (w1 := w471) hF467 (fun k hk hl => huw471.other k (fun e => hnf18 (e ▸ hk)))
 have hB475 := Chg.upd hB470 huw471 oO
 refine WL.z rfl rfl ?_
 refine W.ret (W.retc2 rfl rfl (ldRow hkw471 underlying27 rfl isz27) rfl ?_)
 exact ⟨rvE (by rw [hO]; first | rfl | (rw [hto]; rfl)), _, by rw [hT]; first | exact hF472 | (rw [hto]; exact hF472), hB475⟩
 have g426' := ndF g426
 refine WL.gn rfl rfl rfl g426 <| WL.gn rfl rfl rfl g426 <| WL.gn rfl rfl rfl g426 <| WL.p (.pkF rfl g426 rfl) rfl <| WL.z rfl rfl ?_
 refine W.condF rfl rfl ?_
 refine W.seq ?_
 have c2 : ¬ (lockTo s ≠ 3 ∧ accO S o = 3) := by rw [hto]; simp_all
 refine W.reg <| WL.p (.fa underlying27 rfl sizeOf3 dD rfl) rfl <| WL.r (Rd.ld (isAgg3 _) rfl hk410 rfl) rfl <| WL.p (.eql rfl rfl) rfl <| WL.z rfl rfl ?_
 refine W.cond rfl (fun h476 => ?_) (fun h476 => ?_)
 have h476' := dT h476
 have c3 : o.kind = 8 := by assumption
 have hO : lkO S s o = (o, 0) := by unfold lkO; rw [if_neg c1, if_neg c2, if_pos c3]
 have hT : lkS S s o = lockS S o (if lockTo s > accO S o then lockTo s else accO S o) := by unfold lkS; rw [if_neg c1, if_neg c2, if_pos c3]
 refine W.regH 9 rfl mixed (fun w' => w'.heap[b1]? = w407.heap[b1]? ∧ w'.heap[b5]? = w407.heap[b5]? ∧ True) (fun w477 dw477 => ?_)
 have hF478 := Sto.same (w1 := w477) hF408 (fun k hk hl => (by obtain ⟨m, rfl⟩ := dw477; rfl))
 have hk479 := hk409.drew dw477
 have hk480 := hk410.drew dw477
 have hk481 := hk411.drew dw477
 have hB482 := Chg.drew hB412 dw477
 refine WH.tp 0 rfl (.fa underlying72 rfl sizeOf22 dD rfl) ⟨(hk479).trans (hk409).symm, (hk480).trans (hk410).symm, trivial⟩ rfl ?_
 refine WH.tk 1 rfl (fun w' hw' => Rd.ld (isAgg22 _) rfl ((hw'.1).trans hk409) rfl) ⟨(hk479).trans (hk409).symm, (hk480).trans (hk410).symm, trivial⟩ rfl ?_
 refine WH.tk 2 rfl (fun w' hw' => Rd.ldA rfl ((hw'.2.1).trans hk410) underlying27 rfl isz27) ⟨(hk479).trans (hk409).symm, (hk480).trans (hk410).symm, trivial⟩ rfl ?_
 refine WH.tk 3 rfl (fun w' hw' => Rd.ldA rfl ((hw'.1).trans hk409) underlying72 rfl isz72) ⟨(hk479).trans (hk409).symm, (hk480).trans (hk410).symm, trivial⟩ rfl ?_
 refine WH.tk 4 rfl (fun w' hw' => Rd.ldA rfl ((hw'.2.1).trans hk410) underlying27 rfl isz27) ⟨(hk479).trans (hk409).symm, (hk480).trans (hk410).symm, trivial⟩ rfl ?_
 refine WH.tp 6 rfl (.mv rfl) ⟨(hk479).trans (hk409).symm, (hk480).trans (hk410).symm, trivial⟩ rfl ?_
 refine WH.br1 5 rfl ?_
 refine WL.c1 hb59 rfl rfl ((conv_access b F S o _ hF478 hok)) (fun w483 hw483 => ?_)
 have hF484 := Sto.same (w1 := w483) hF478 (fun k hk hl => hw483.block k hl)
 have hk485 := hk479.below hw483 hk479.lt
 have hk486 := hk480.below hw483 hk480.lt
 have hk487 := hk481.below hw483 hk481.lt
 have hB488 := Chg.low hB482 hw483
 refine WL.nil <| ?_
 refine ⟨⟨(hk485).trans (hk409).symm, (hk486).trans (hk410).symm, trivial⟩, ?_⟩
 refine WH.tp 7 rfl (.max2 rfl rfl) ⟨(hk485).trans (hk409).symm, (hk486).trans (hk410).symm, trivial⟩ rfl ?_
 refine WH.br1 8 rfl ?_
 refine WL.c1 hb34 rfl rfl ((sto_Lock b F S o _ _ hF484 hok hch)) (fun w489 hw489 => ?_)
 obtain ⟨F490, hstF490, hCF490, hxF490⟩ := Chg.open hw489
 have hnf491 := Chg.nf hCF490 hnf4 hk485.lt
 have hnf492 := Chg.nf hCF490 hnf10 hk486.lt
 have hnf493 := Chg.nf hCF490 hnf18 hk487.lt
 have hk494 := Blk.chg hk485 hCF490 hnf4
 have hk495 := Blk.chg hk486 hCF490 hnf10
 have hk496 := Blk.chg hk487 hCF490 hnf18
 have hB497 := Chg.trans hB488 hCF490
 refine WL.nil <| ?_
 refine ⟨⟨(hk494).trans (hk409).symm, (hk495).trans (hk410).symm, trivial⟩, ?_⟩
 refine WH.done kR ?_
 refine W.sr <| WL.r (Rd.ldA rfl hk495 underlying27 rfl isz27) rfl <| WL.stL rfl rfl hk496 isz27 rfl rfl (fun w498 hkw498 huw498 hsw498 => ?_)
 have hF499 := Sto.same (w1 := w498) hstF490 (fun k hk hl => huw498.other k (fun e => hnf493 (e ▸ hk)))
 have hB502 := Chg.upd hB497 huw498 oO
 refine WL.z rfl rfl ?_
 refine W.ret (W.retc2 rfl rfl (ldRow hkw498 underlying27 rfl isz27) rfl ?_)
 exact ⟨rvE (by rw [hO]; first | rfl | (rw [hto]; rfl)), _, by rw [hT]; first | exact hF499 | (rw [hto]; exact hF499), hB502⟩
 have h476' := dF h476
 have c3 : ¬ o.kind = 8 := by assumption
 have hO : lkO S s o = ({ o with access := if lockTo s > o.access then lockTo s else o.access }, 0) := by unfold lkO; rw [if_neg c1, if_neg c2, if_neg c3]
 have hT : lkS S s o = S := by unfold lkS; rw [if_neg c1, if_neg c2, if_neg c3]
 refine W.reg <| WL.p (.fa underlying27 rfl sizeOf3 dD rfl) rfl <| WL.r (Rd.ld (isAgg3 _) rfl hk410 rfl) rfl <| WL.m rfl rfl <| WL.p (.max2 rfl rfl) rfl <| WL.p (.fa underlying27 rfl sizeOf3 dD rfl) rfl <| WL.st sizeOf3 rfl rfl rfl hk410 oD (fun w503 hkw503 huw503 hsw503 => ?_)
 have hkw503 : Blk w503 b5 _ _ := hkw503
 have huw503 : Upd b5 _ _ := huw503
 have hF504 := Sto.same (w1 := w503) hF408 (fun k hk hl => huw503.other k (fun e => hnf10 (e ▸ hk)))
 have hk506 := hk411.up huw503
 have hB507 := Chg.upd hB412 huw503 oO
 refine WL.nil <| ?_
 refine W.sr <| WL.r (Rd.ldA rfl hkw503 underlying27 rfl isz27) rfl <| WL.stL rfl rfl hk506 isz27 rfl rfl (fun w508 hkw508 huw508 hsw508 => ?_)
 have hF509 := Sto.same (w1 := w508) hF504 (fun k hk hl => huw508.other k (fun e => hnf18 (e ▸ hk)))
 have hB512 := Chg.upd hB507 huw508 oO
 refine WL.z rfl rfl ?_
 refine W.ret (W.retc2 rfl rfl (ldRow hkw508 underlying27 rfl isz27) rfl ?_)
 exact ⟨rvE (by rw [hO]; first | rfl | (rw [hto]; rfl)), _, by rw [hT]; first | exact hF509 | (rw [hto]; exact hF509), hB512⟩
 have g419' := dF g419
 refine WL.gn rfl rfl rfl g419 <| WL.p (.pkF rfl g419 rfl) rfl <| WL.z rfl rfl ?_
 refine W.condF rfl rfl ?_
 refine W.seq ?_
 have c1 : ¬ (typedB o = false ∨ (o.kind = 8 ∧ lockTo s = 2)) := by rw [hto]; simp_all
 refine W.reg <| WL.m rfl rfl <| WL.p (.neq rfl rfl) rfl <| WL.m rfl rfl <| WL.gd rfl rfl rfl (fun g513 => ?_) (fun g513 => ?_)
 have g513' := ndT g513
 refine WL.r (Rd.ldA rfl hk409 underlying72 rfl isz72) rfl <| WL.gy rfl rfl rfl g513 <| WL.r (Rd.ldA rfl hk410 underlying27 rfl isz27) rfl <| WL.gy rfl rfl rfl g513 <| WL.c1 hb59 rfl rfl ((conv_access b F S o _ hF408 hok)) (fun w514 hw514 => ?_)
 have hF515 := Sto.same (w1 := w514) hF408 (fun k hk hl => hw514.block k hl)
 have hk516 := hk409.below hw514 hk409.lt
 have hk517 := hk410.below hw514 hk410.lt
 have hk518 := hk411.below hw514 hk411.lt
 have hB519 := Chg.low hB412 hw514
 refine WL.gy rfl rfl rfl g513 <| WL.p (.eql rfl rfl) rfl <| WL.p (.pkT rfl g513 rfl) rfl <| WL.z rfl rfl ?_
 refine W.cond rfl (fun h520 => ?_) (fun h520 => ?_)
 have h520' := dT h520
 refine W.seq ?_
 have c2 : lockTo s ≠ 3 ∧ accO S o = 3 := by rw [hto]; simp_all
 have hO : lkO S s o = (ob0, 5) := by unfold lkO; rw [if_neg c1, if_pos c2]
 have hT : lkS S s o = S := by unfold lkS; rw [if_neg c1, if_pos c2]
 refine W.reg <| WL.p (.buildL (ps := _) blt27 rfl rfl rfl pZ) rfl ?_
 refine WL.stL rfl rfl hk518 isz27 rfl rfl (fun w521 hkw521 huw521 hsw521 => ?_)
 have hF522 := Sto.same (w1 := w521) hF515 (fun k hk hl => huw521.other k (fun e => hnf18 (e ▸ hk)))
 have hB525 := Chg.upd hB519 huw521 oO
 refine WL.z rfl rfl ?_
 refine W.ret (W.retc2 rfl rfl (ldRow hkw521 underlying27 rfl isz27) rfl ?_)
 exact ⟨rvE (by rw [hO]; first | rfl | (rw [hto]; rfl)), _, by rw [hT]; first | exact hF522 | (rw [hto]; exact hF522), hB525⟩
 have h520' := dF h520
 refine W.seq ?_
 have c2 : ¬ (lockTo s ≠ 3 ∧ accO S o = 3) := by rw [hto]; simp_all
 refine W.reg <| WL.p (.fa underlying27 rfl sizeOf3 dD rfl) rfl <| WL.r (Rd.ld (isAgg3 _) rfl hk517 rfl) rfl <| WL.p (.eql rfl rfl) rfl <| WL.z rfl rfl ?_
 refine W.cond rfl (fun h526 => ?_) (fun h526 => ?_)
 have h526' := dT h526
 have c3 : o.kind = 8 := by assumption
 have hO : lkO S s o = (o, 0) := by unfold lkO; rw [if_neg c1, if_neg c2, if_pos c3]
 have hT : lkS S s o = lockS S o (if lockTo s > accO S o then lockTo s else accO S o) := by unfold lkS; rw [if_neg c1, if_neg c2, if_pos c3]
 refine W.regH 9 rfl mixed (fun w' => w'.heap[b1]? = w514.heap[b1]? ∧ w'.heap[b5]? = w514.heap[b5]? ∧ True) (fun w527 dw527 => ?_)
 have hF528 := Sto.same (w1 := w527) hF515 (fun k hk hl => (by obtain ⟨m, rfl⟩ := dw527; rfl))
 have hk529 := hk516.drew dw527
 have hk530 := hk517.drew dw527
 have hk531 := hk518.drew dw527
 have hB532 := Chg.drew hB519 dw527
 refine WH.tp 0 rfl (.fa underlying72 rfl sizeOf22 dD rfl) ⟨(hk529).trans (hk516).symm, (hk530).trans (hk517).symm, trivial⟩ rfl ?_
 refine WH.tk 1 rfl (fun w' hw' => Rd.ld (isAgg22 _) rfl ((hw'.1).trans hk516) rfl) ⟨(hk529).trans (hk516).symm, (hk530).trans (hk517).symm, trivial⟩ rfl ?_
 refine WH.tk 2 rfl (fun w' hw' => Rd.ldA rfl ((hw'.2.1).trans hk517) underlying27 rfl isz27) ⟨(hk529).trans (hk516).symm, (hk530).trans (hk517).symm, trivial⟩ rfl ?_
 refine WH.tk 3 rfl (fun w' hw' => Rd.ldA rfl ((hw'.1).trans hk516) underlying72 rfl isz72) ⟨(hk529).trans (hk516).symm, (hk530).trans (hk517).symm, trivial⟩ rfl ?_
 refine WH.tk 4 rfl (fun w' hw' => Rd.ldA rfl ((hw'.2.1).trans hk517) underlying27 rfl isz27) ⟨(hk529).trans (hk516).symm, (hk530).trans (hk517).symm, trivial⟩ rfl ?_
 refine WH.tp 6 rfl (.mv rfl) ⟨(hk529).trans (hk516).symm, (hk530).trans (hk517).symm, trivial⟩ rfl ?_
 refine WH.br1 5 rfl ?_
 refine WL.c1 hb59 rfl rfl ((conv_access b F S o _ hF528 hok)) (fun w533 hw533 => ?_)
 have hF534 := Sto.same (w1 := w533) hF528 (fun k hk hl => hw533.block k hl)
 have hk535 := hk529.below hw533 hk529.lt
 have hk536 := hk530.below hw533 hk530.lt
 have hk537 := hk531.below hw533 hk531.lt
 have hB538 := Chg.low hB532 hw533
 refine WL.nil <| ?_
 refine ⟨⟨(hk535).trans (hk516).symm, (hk536).trans (hk517).symm, trivial⟩, ?_⟩
 refine WH.tp 7 rfl (.max2 rfl rfl) ⟨(hk535).trans (hk516).symm, (hk536).trans (hk517).symm, trivial⟩ rfl ?_
 refine WH.br1 8 rfl ?_
 refine WL.c1 hb34 rfl rfl ((sto_Lock b F S o _ _ hF534 hok hch)) (fun w539 hw539 => ?_)
 obtain ⟨F540, hstF540, hCF540, hxF540⟩ := Chg.open hw539
 have hnf541 := Chg.nf hCF540 hnf4 hk535.lt
 have hnf542 := Chg.nf hCF540 hnf10 hk536.lt
 have hnf543 := Chg.nf hCF540 hnf18 hk537.lt
 have hk544 := Blk.chg hk535 hCF540 hnf4
 have hk545 := Blk.chg hk536 hCF540 hnf10
 have hk546 := Blk.chg hk537 hCF540 hnf18
 have hB547 := Chg.trans hB538 hCF540
 refine WL.nil <| ?_
 refine ⟨⟨(hk544).trans (hk516).symm, (hk545).trans (hk517).symm, trivial⟩, ?_⟩
 refine WH.done kR ?_
 refine W.sr <| WL.r (Rd.ldA rfl hk545 underlying27 rfl isz27) rfl <| WL.stL rfl rfl hk546 isz27 rfl rfl (fun w548 hkw548 huw548 hsw548 => ?_)
 have hF549 := Sto.same (w1 := w548) hstF540 (fun k hk hl => huw548.other k (fun e => hnf543 (e ▸ hk)))
 have hB552 := Chg.upd hB547 huw548 oO
 refine WL.z rfl rfl ?_
 refine W.ret (W.retc2 rfl rfl (ldRow hkw548 underlying27 rfl isz27) rfl ?_)
 exact ⟨rvE (by rw [hO]; first | rfl | (rw [hto]; rfl)), _, by rw [hT]; first | exact hF549 | (rw [hto]; exact hF549), hB552⟩
 have h526' := dF h526
 have c3 : ¬ o.kind = 8 := by assumption
 have hO : lkO S s o = ({ o with access := if lockTo s > o.access then lockTo s else o.access }, 0) := by unfold lkO; rw [if_neg c1, if_neg c2, if_neg c3]
 have hT : lkS S s o = S := by unfold lkS; rw [if_neg c1, if_neg c2, if_neg c3]
 refine W.reg <| WL.p (.fa underlying27 rfl sizeOf3 dD rfl) rfl <| WL.r (Rd.ld (isAgg3 _) rfl hk517 rfl) rfl <| WL.m rfl rfl <| WL.p (.max2 rfl rfl) rfl <| WL.p (.fa underlying27 rfl sizeOf3 dD rfl) rfl <| WL.st sizeOf3 rfl rfl rfl hk517 oD (fun w553 hkw553 huw553 hsw553 => ?_)
 have hkw553 : Blk w553 b5 _ _ := hkw553
 have huw553 : Upd b5 _ _ := huw553
 have hF554 := Sto.same (w1 := w553) hF515 (fun k hk hl => huw553.other k (fun e => hnf10 (e ▸ hk)))
 have hk556 := hk518.up huw553
 have hB557 := Chg.upd hB519 huw553 oO
 refine WL.nil <| ?_
 refine W.sr <| WL.r (Rd.ldA rfl hkw553 underlying27 rfl isz27) rfl <| WL.stL rfl rfl hk556 isz27 rfl rfl (fun w558 hkw558 huw558 hsw558 => ?_)
 have hF559 := Sto.same (w1 := w558) hF554 (fun k hk hl => huw558.other k (fun e => hnf18 (e ▸ hk)))
 have hB562 := Chg.upd hB557 huw558 oO
 refine WL.z rfl rfl ?_
 refine W.ret (W.retc2 rfl rfl (ldRow hkw558 underlying27 rfl isz27) rfl ?_)
 exact ⟨rvE (by rw [hO]; first | rfl | (rw [hto]; rfl)), _, by rw [hT]; first | exact hF559 | (rw [hto]; exact hF559), hB562⟩
 have g513' := ndF g513
 refine WL.gn rfl rfl rfl g513 <| WL.gn rfl rfl rfl g513 <| WL.gn rfl rfl rfl g513 <| WL.p (.pkF rfl g513 rfl) rfl <| WL.z rfl rfl ?_
 refine W.condF rfl rfl ?_
 refine W.seq ?_
 have c2 : ¬ (lockTo s ≠ 3 ∧ accO S o = 3) := by rw [hto]; simp_all
 refine W.reg <| WL.p (.fa underlying27 rfl sizeOf3 dD rfl) rfl <| WL.r (Rd.ld (isAgg3 _) rfl hk410 rfl) rfl <| WL.p (.eql rfl rfl) rfl <| WL.z rfl rfl ?_
 refine W.cond rfl (fun h563 => ?_) (fun h563 => ?_)
 have h563' := dT h563
 have c3 : o.kind = 8 := by assumption
 have hO : lkO S s o = (o, 0) := by unfold lkO; rw [if_neg c1, if_neg c2, if_pos c3]
 have hT : lkS S s o = lockS S o (if lockTo s > accO S o then lockTo s else accO S o) := by unfold lkS; rw [if_neg c1, if_neg c2, if_pos c3]
 refine W.regH 9 rfl mixed (fun w' => w'.heap[b1]? = w407.heap[b1]? ∧ w'.heap[b5]? = w407.heap[b5]? ∧ True) (fun w564 dw564 => ?_)
 have hF565 := Sto.same (w1 := w564) hF408 (fun k hk hl => (by obtain ⟨m, rfl⟩ := dw564; rfl))
 have hk566 := hk409.drew dw564
 have hk567 := hk410.drew dw564
 have hk568 := hk411.drew dw564
 have hB569 := Chg.drew hB412 dw564
 refine WH.tp 0 rfl (.fa underlying72 rfl sizeOf22 dD rfl) ⟨(hk566).trans (hk409).symm, (hk567).trans (hk410).symm, trivial⟩ rfl ?_
 refine WH.tk 1 rfl (fun w' hw' => Rd.ld (isAgg22 _) rfl ((hw'.1).trans hk409) rfl) ⟨(hk566).trans (hk409).symm, (hk567).trans (hk410).symm, trivial⟩ rfl ?_
 refine WH.tk 2 rfl (fun w' hw' => Rd.ldA rfl ((hw'.2.1).trans hk410) underlying27 rfl isz27) ⟨(hk566).trans (hk409).symm, (hk567).trans (hk410).symm, trivial⟩ rfl ?_
 refine WH.tk 3 rfl (fun w' hw' => Rd.ldA rfl ((hw'.1).trans hk409) underlying72 rfl isz72) ⟨(hk566).trans (hk409).symm, (hk567).trans (hk410).symm, trivial⟩ rfl ?_
 refine WH.tk 4 rfl (fun w' hw' => Rd.ldA rfl ((hw'.2.1).trans hk410) underlying27 rfl isz27) ⟨(hk566).trans (hk409).symm, (hk567).trans (hk410).symm, trivial⟩ rfl ?_
 refine WH.tp 6 rfl (.mv rfl) ⟨(hk566).trans (hk409).symm, (hk567).trans (hk410).symm, trivial⟩ rfl ?_
 refine WH.br1 5 rfl ?_
 refine WL.c1 hb59 rfl rfl ((conv_access b F S o _ hF565 hok)) (fun w570 hw570 => ?_)
 have hF571 := Sto.same (w1 := w570) hF565 (fun k hk hl => hw570.block k hl)
 have hk572 := hk566.below hw570 hk566.lt
 have hk573 := hk567.below hw570 hk567.lt
 have hk574 := hk568.below hw570 hk568.lt
 have hB575 := Chg.low hB569 hw570
 refine WL.nil <| ?_
 refine ⟨⟨(hk572).trans (hk409).symm, (hk573).trans (hk410).symm, trivial⟩, ?_⟩
 refine WH.tp 7 rfl (.max2 rfl rfl) ⟨(hk572).trans (hk409).symm, (hk573).trans (hk410).symm, trivial⟩ rfl ?_
 refine WH.br1 8 rfl ?_
 refine WL.c1 hb34 rfl rfl ((sto_Lock b F S o _ _ hF571 hok hch)) (fun w576 hw576 => ?_)
 obtain ⟨F577, hstF577, hCF577, hxF577⟩ := Chg.open hw576
 have hnf578 := Chg.nf hCF577 hnf4 hk572.lt
 have hnf579 := Chg.nf hCF577 hnf10 hk573.lt
 have hnf580 := Chg.nf hCF577 hnf18 hk574.lt
 have hk581 := Blk.chg hk572 hCF577 hnf4
 have hk582 := Blk.chg hk573 hCF577 hnf10
 have hk583 := Blk.chg hk574 hCF577 hnf18
 have hB584 := Chg.trans hB575 hCF577
 refine WL.nil <| ?_
 refine ⟨⟨(hk581).trans (hk409).symm, (hk582).trans (hk410).symm, trivial⟩, ?_⟩
 refine WH.done kR ?_
 refine W.sr <| WL.r (Rd.ldA rfl hk582 underlying27 rfl isz27) rfl <| WL.stL rfl rfl hk583 isz27 rfl rfl (fun w585 hkw585 huw585 hsw585 => ?_)
 have hF586 := Sto.same (w1 := w585) hstF577 (fun k hk hl => huw585.other k (fun e => hnf580 (e ▸ hk)))
 have hB589 := Chg.upd hB584 huw585 oO
 refine WL.z rfl rfl ?_
 refine W.ret (W.retc2 rfl rfl (ldRow hkw585 underlying27 rfl isz27) rfl ?_)
 exact ⟨rvE (by rw [hO]; first | rfl | (rw [hto]; rfl)), _, by rw [hT]; first | exact hF586 | (rw [hto]; exact hF586), hB589⟩
 have h563' := dF h563
 have c3 : ¬ o.kind = 8 := by assumption
 have hO : lkO S s o = ({ o with access := if lockTo s > o.access then lockTo s else o.access }, 0) := by unfold lkO; rw [if_neg c1, if_neg c2, if_neg c3]
 have hT : lkS S s o = S := by unfold lkS; rw [if_neg c1, if_neg c2, if_neg c3]
 refine W.reg <| WL.p (.fa underlying27 rfl sizeOf3 dD rfl) rfl <| WL.r (Rd.ld (isAgg3 _) rfl hk410 rfl) rfl <| WL.m rfl rfl <| WL.p (.max2 rfl rfl) rfl <| WL.p (.fa underlying27 rfl sizeOf3 dD rfl) rfl <| WL.st sizeOf3 rfl rfl rfl hk410 oD (fun w590 hkw590 huw590 hsw590 => ?_)
 have hkw590 : Blk w590 b5 _ _ := hkw590
 have huw590 : Upd b5 _ _ := huw590
 have hF591 := Sto.same (w1 := w590) hF408 (fun k hk hl => huw590.other k (fun e => hnf10 (e ▸ hk)))
 have hk593 := hk411.up huw590
 have hB594 := Chg.upd hB412 huw590 oO
 refine WL.nil <| ?_
 refine W.sr <| WL.r (Rd.ldA rfl hkw590 underlying27 rfl isz27) rfl <| WL.stL rfl rfl hk593 isz27 rfl rfl (fun w595 hkw595 huw595 hsw595 => ?_)
 have hF596 := Sto.same (w1 := w595) hF591 (fun k hk hl => huw595.other k (fun e => hnf18 (e ▸ hk)))
 have hB599 := Chg.upd hB594 huw595 oO
 refine WL.z rfl rfl ?_
 refine W.ret (W.retc2 rfl rfl (ldRow hkw595 underlying27 rfl isz27) rfl ?_)
 exact ⟨rvE (by rw [hO]; first | rfl | (rw [hto]; rfl)), _, by rw [hT]; first | exact hF596 | (rw [hto]; exact hF596), hB599⟩
end
section
def nameO (S : StoV) (o : ObjV) : ObjV × Int :=
 if o.kind ≠ 6 then (ob0, 16) else if readB S o = false then (ob0, 5) else if 127 < o.len then (ob0, 9) else ({ ob0 with kind := 5, exec := o.exec, name := bytesO S o }, 0)
theorem conv_name (b : Nat) (F : Nat → Prop) (S : StoV) (o : ObjV) (w : World) (h : Sto w b F S) (hok : SOk S) :
  Calls Tryz.prog 41 #[workV b, .agg (objV o).toArray] w fun e w' => e = .returned (pairV (nameO S o)) ∧ Below w.heap.size w w' := by
 refine W.enter func41 rfl ntmps41 (Nat.le_of_ble_eq_true rfl) ?_
 have hB0 := Below.refl (w.heap.size) w
 refine W.sr <| WL.box rfl rfl (fun b1 wb1 eb1 hkb1 hub1 hsb1 => ?_)
 have hB2 := Upd.below hB0 (by rw [eb1]; exact hB0.size) hub1
 have hgeb1 : w.heap.size ≤ b1 := by rw [eb1]; exact hB0.size
 refine WL.box rfl rfl (fun b3 wb3 eb3 hkb3 hub3 hsb3 => ?_)
 have hl5 : b1 < b3 := by rw [eb3]; exact hkb1.lt
 have hk4 := hkb1.upd hub3 (Nat.ne_of_lt hl5)
 have hB6 := Upd.below hB2 (by rw [eb3]; exact hB2.size) hub3
 have hgeb3 : w.heap.size ≤ b3 := by rw [eb3]; exact hB2.size
 refine WL.alloc zeroValue27 rfl (fun b7 wb7 eb7 hkb7 hub7 hsb7 => ?_)
 have hl9 : b1 < b7 := by rw [eb7]; exact hk4.lt
 have hk8 := hk4.upd hub7 (Nat.ne_of_lt hl9)
 have hl11 : b3 < b7 := by rw [eb7]; exact hkb3.lt
 have hk10 := hkb3.upd hub7 (Nat.ne_of_lt hl11)
 have hB12 := Upd.below hB6 (by rw [eb7]; exact hB6.size) hub7
 have hgeb7 : w.heap.size ≤ b7 := by rw [eb7]; exact hB6.size
 refine WL.z rfl rfl ?_
 refine W.seq <| W.block <| W.sr <| WL.p (.fa underlying27 rfl sizeOf3 dD rfl) rfl <| WL.r (Rd.ld (isAgg3 _) rfl hk10 rfl) rfl <| WL.p (.neq rfl rfl) rfl <| WL.z rfl rfl ?_
 refine W.cond rfl (fun h13 => ?_) (fun h13 => ?_)
 have h13' := ndT h13
 have c1 : o.kind ≠ 6 := by assumption
 refine W.sr <| WL.p (.buildL (ps := _) blt27 rfl rfl rfl pZ) rfl ?_
 refine WL.stL rfl rfl hkb7 isz27 rfl rfl (fun w14 hkw14 huw14 hsw14 => ?_)
 have hB17 := Upd.below hB12 oO huw14
 refine WL.z rfl rfl ?_
 refine W.ret (W.retc2 rfl rfl (ldRow hkw14 underlying27 rfl isz27) rfl ?_)
 exact ⟨rvE (by unfold pairV nameO; rw [if_pos c1]; rfl), hB17⟩
 have h13' := ndF h13
 have c1 : ¬ o.kind ≠ 6 := by simp_all
 refine W.sr <| WL.r (Rd.ldA rfl hk8 underlying72 rfl isz72) rfl <| WL.r (Rd.ldA rfl hk10 underlying27 rfl isz27) rfl <| WL.c1 hb57 rfl rfl ((conv_readable b F S o _ (h.below hB12) hok)) (fun w18 hw18 => ?_)
 have hk19 := hk8.below hw18 hk8.lt
 have hk20 := hk10.below hw18 hk10.lt
 have hk21 := hkb7.below hw18 hkb7.lt
 have hB22 := btr hB12 hw18
 refine WL.p (.not rfl) rfl <| WL.z rfl rfl ?_
 refine W.cond rfl (fun h23 => ?_) (fun h23 => ?_)
 have h23' := (nT h23)
 refine W.sr <| WL.p (.buildL (ps := _) blt27 rfl rfl rfl pZ) rfl ?_
 refine WL.stL rfl rfl hk21 isz27 rfl rfl (fun w24 hkw24 huw24 hsw24 => ?_)
 have hB27 := Upd.below hB22 oO huw24
 refine WL.z rfl rfl ?_
 refine W.ret (W.retc2 rfl rfl (ldRow hkw24 underlying27 rfl isz27) rfl ?_)
 exact ⟨rvE (by unfold pairV nameO; rw [if_neg c1, if_pos (by simp_all)]; rfl), hB27⟩
 have h23' := (nF h23)
 refine W.sr <| WL.p (.fa underlying27 rfl sizeOf3 dD rfl) rfl <| WL.r (Rd.ld (isAgg3 _) rfl hk20 rfl) rfl <| WL.p (.gtr rfl rfl) rfl <| WL.z rfl rfl ?_
 refine W.cond rfl (fun h28 => ?_) (fun h28 => ?_)
 have h28' := dT h28
 refine W.sr <| WL.p (.buildL (ps := _) blt27 rfl rfl rfl pZ) rfl ?_
 refine WL.stL rfl rfl hk21 isz27 rfl rfl (fun w29 hkw29 huw29 hsw29 => ?_)
 have hB32 := Upd.below hB22 oO huw29
 refine WL.z rfl rfl ?_
 refine W.ret (W.retc2 rfl rfl (ldRow hkw29 underlying27 rfl isz27) rfl ?_)
 exact ⟨rvE (by unfold pairV nameO; rw [if_neg c1, if_neg (by simp_all), if_pos aS]; rfl), hB32⟩
 have h28' := dF h28
 refine W.skip <| W.sr <| WL.p (.fa underlying72 rfl sizeOf22 dD rfl) rfl <| WL.r (Rd.ld (isAgg22 _) rfl hk19 rfl) rfl <| WL.r (Rd.ldA rfl hk20 underlying27 rfl isz27) rfl <| WL.call hb10 rfl rfl ((sto_Bytes b F S o _ (h.below hB22) hok)) (fun r w33 hw33 => ?_)
 have hk35 := hk20.below hw33.1 hk20.lt
 have hk36 := hk21.below hw33.1 hk21.lt
 have hB37 := btr hB22 hw33.1
 obtain ⟨v1, rfl, ho1⟩ := hw33.2
 obtain ⟨p1, cc1, rfl, hbt, -⟩ := ho1.bytesC
 refine WL.m rfl rfl <| WL.p (.ext rfl rfl) rfl <| WL.p (.ext rfl rfl) rfl <| WL.a rfl rfl <| WL.z rfl rfl ?_
 refine W.sr <| WL.p (.fa underlying27 rfl sizeOf4 dD rfl) rfl <| WL.r (Rd.ld (isAgg4 _) rfl hk35 rfl) rfl <| WL.m rfl rfl <| WL.r (Rd.b2s (l := (bytesO S o)) underlying35 underlying5 underlying9 rfl (hbt)) rfl <| ?_
 refine WL.p (.buildL (ps := _) blt27 rfl rfl rfl pS) rfl ?_
 refine WL.stL rfl rfl hk36 isz27 rfl rfl (fun w38 hkw38 huw38 hsw38 => ?_)
 have hB41 := Upd.below hB37 oO huw38
 refine WL.z rfl rfl ?_
 refine W.ret (W.retc2 rfl rfl (ldRow hkw38 underlying27 rfl isz27) rfl ?_)
 exact ⟨rvE (by unfold pairV nameO; rw [if_neg c1, if_neg (by simp_all), if_neg aS]; rfl), hB41⟩
def s_type : List UInt8 := [116, 121, 112, 101]
def unaO (S : StoV) (s : List UInt8) (o : ObjV) : ObjV × Int :=
 if s = [99, 118, 120] ∨ s = [99, 118, 108, 105, 116] then ({ o with exec := decide (s = [99, 118, 120]) }, 0)
 else if s = [120, 99, 104, 101, 99, 107] then (truO o.exec, 0)
 else if s = [99, 118, 105] then wholeO S o else if s = [99, 118, 114] then realO S o else if s = [99, 118, 110] then nameO S o
 else if s = rcheckL ∨ s = [119, 99, 104, 101, 99, 107] then chkO S s o else lkO S s o
abbrev lkNm (s : List UInt8) : Prop := ¬ (s = [99, 118, 120] ∨ s = [99, 118, 108, 105, 116]) ∧ s ≠ [120, 99, 104, 101, 99, 107] ∧ s ≠ [99, 118, 105] ∧ s ≠ [99, 118, 114] ∧ s ≠ [99, 118, 110] ∧ ¬ (s = rcheckL ∨ s = [119, 99, 104, 101, 99, 107])
def unaS (S : StoV) (s : List UInt8) (o : ObjV) : StoV := if lkNm s then lkS S s o else S
set_option maxHeartbeats 3200000 in
theorem conv_unary (b : Nat) (F : Nat → Prop) (S : StoV) (s : List UInt8) (o : ObjV) (w : World) (h : Sto w b F S) (hok : SOk S) (hch : S.changes.length ≤ 800000000000) (hs : s ≠ s_type) :
  Calls Tryz.prog 21 #[workV b, .string (bs s), .agg (objV o).toArray] w fun e w' => e = .returned (pairV (unaO S s o)) ∧ ∃ F1, Sto w' b F1 (unaS S s o) ∧ Chg F F1 w w' := by
 refine W.enter func21 rfl ntmps21 (Nat.le_of_ble_eq_true rfl) ?_
 have hB0 := Chg.refl F w
 refine W.sr <| WL.box rfl rfl (fun b1 wb1 eb1 hkb1 hub1 hsb1 => ?_)
 have hF2 := Sto.same (w1 := wb1) h (fun k hk hl => hub1.other k oO)
 have hgeb1 : w.heap.size ≤ b1 := by rw [eb1]; exact hB0.size
 have hB3 := Chg.upd hB0 hub1 hgeb1
 have hnf4 : ¬ F b1 := fun hq => by have hq1 := (h).lt hq; omega
 refine WL.box rfl rfl (fun b5 wb5 eb5 hkb5 hub5 hsb5 => ?_)
 have hF6 := Sto.same (w1 := wb5) hF2 (fun k hk hl => hub5.other k oO)
 have hl8 : b1 < b5 := by rw [eb5]; exact hkb1.lt
 have hk7 := hkb1.upd hub5 (Nat.ne_of_lt hl8)
 have hgeb5 : w.heap.size ≤ b5 := by rw [eb5]; exact hB3.size
 have hB9 := Chg.upd hB3 hub5 hgeb5
 have hnf10 : ¬ F b5 := fun hq => by have hq1 := (hF2).lt hq; omega
 refine WL.alloc zeroValue27 rfl (fun b11 wb11 eb11 hkb11 hub11 hsb11 => ?_)
 have hF12 := Sto.same (w1 := wb11) hF6 (fun k hk hl => hub11.other k oO)
 have hl14 : b1 < b11 := by rw [eb11]; exact hk7.lt
 have hk13 := hk7.upd hub11 (Nat.ne_of_lt hl14)
 have hl16 : b5 < b11 := by rw [eb11]; exact hkb5.lt
 have hk15 := hkb5.upd hub11 (Nat.ne_of_lt hl16)
 have hgeb11 : w.heap.size ≤ b11 := by rw [eb11]; exact hB9.size
 have hB17 := Chg.upd hB9 hub11 hgeb11
 have hnf18 : ¬ F b11 := fun hq => by have hq1 := (hF6).lt hq; omega
 refine WL.z rfl rfl ?_
 refine W.seq <| W.sr <| WL.m rfl rfl <| WL.nil <| ?_
 refine W.block <| W.sr <| WL.p (.eqs rfl rfl) rfl <| WL.z rfl rfl ?_
 refine W.cond rfl (fun h19 => ?_) (fun h19 => ?_)
 have h19' := dT h19
 exact absurd aS hs
 have h19' := dF h19
 refine W.seq <| W.sr <| WL.p (.eqs rfl rfl) rfl <| WL.z rfl rfl ?_
 refine W.cond rfl (fun h20 => ?_) (fun h20 => ?_)
 have h20' := dT h20
 refine W.skip <| W.condT rfl h20 ?_
 refine W.seq ?_
 have c1 : s = [99, 118, 120] ∨ s = [99, 118, 108, 105, 116] := by simp_all
 have hO : unaO S s o = ({ o with exec := decide (s = [99, 118, 120]) }, 0) := if_pos c1
 have hT : unaS S s o = S := if_neg (fun q => q.1 c1)
 refine W.reg <| WL.m rfl rfl <| WL.p (.eqs rfl rfl) rfl <| WL.p (.fa underlying27 rfl sizeOf4 dD rfl) rfl <| WL.st sizeOf4 rfl rfl rfl hk15 oD (fun w21 hkw21 huw21 hsw21 => ?_)
 have hkw21 : Blk w21 b5 _ _ := hkw21
 have huw21 : Upd b5 _ _ := huw21
 have hF22 := Sto.same (w1 := w21) hF12 (fun k hk hl => huw21.other k (fun e => hnf10 (e ▸ hk)))
 have hk24 := hkb11.up huw21
 have hB25 := Chg.upd hB17 huw21 oO
 refine WL.nil <| ?_
 refine W.sr <| WL.r (Rd.ldA rfl hkw21 underlying27 rfl isz27) rfl <| WL.stL rfl rfl hk24 isz27 rfl rfl (fun w26 hkw26 huw26 hsw26 => ?_)
 have hF27 := Sto.same (w1 := w26) hF22 (fun k hk hl => huw26.other k (fun e => hnf18 (e ▸ hk)))
 have hB30 := Chg.upd hB25 huw26 oO
 refine WL.z rfl rfl ?_
 refine W.ret (W.retc2 rfl rfl (ldRow hkw26 underlying27 rfl isz27) rfl ?_)
 exact ⟨rvE (by rw [hO]; rfl), _, by rw [hT]; exact hF27, hB30⟩
 have h20' := dF h20
 refine W.reg <| WL.p (.eqs rfl rfl) rfl <| WL.z rfl rfl ?_
 refine W.cond rfl (fun h31 => ?_) (fun h31 => ?_)
 have h31' := dT h31
 refine W.seq ?_
 have c1 : s = [99, 118, 120] ∨ s = [99, 118, 108, 105, 116] := by simp_all
 have hO : unaO S s o = ({ o with exec := decide (s = [99, 118, 120]) }, 0) := if_pos c1
 have hT : unaS S s o = S := if_neg (fun q => q.1 c1)
 refine W.reg <| WL.m rfl rfl <| WL.p (.eqs rfl rfl) rfl <| WL.p (.fa underlying27 rfl sizeOf4 dD rfl) rfl <| WL.st sizeOf4 rfl rfl rfl hk15 oD (fun w32 hkw32 huw32 hsw32 => ?_)
 have hkw32 : Blk w32 b5 _ _ := hkw32
 have huw32 : Upd b5 _ _ := huw32
 have hF33 := Sto.same (w1 := w32) hF12 (fun k hk hl => huw32.other k (fun e => hnf10 (e ▸ hk)))
 have hk35 := hkb11.up huw32
 have hB36 := Chg.upd hB17 huw32 oO
 refine WL.nil <| ?_
 refine W.sr <| WL.r (Rd.ldA rfl hkw32 underlying27 rfl isz27) rfl <| WL.stL rfl rfl hk35 isz27 rfl rfl (fun w37 hkw37 huw37 hsw37 => ?_)
 have hF38 := Sto.same (w1 := w37) hF33 (fun k hk hl => huw37.other k (fun e => hnf18 (e ▸ hk)))
 have hB41 := Chg.upd hB36 huw37 oO
 refine WL.z rfl rfl ?_
 refine W.ret (W.retc2 rfl rfl (ldRow hkw37 underlying27 rfl isz27) rfl ?_)
 exact ⟨rvE (by rw [hO]; rfl), _, by rw [hT]; exact hF38, hB41⟩
 have h31' := dF h31
 refine W.seq ?_
 have c1 : ¬ (s = [99, 118, 120] ∨ s = [99, 118, 108, 105, 116]) := by simp_all
 refine W.reg <| WL.p (.eqs rfl rfl) rfl <| WL.z rfl rfl ?_
 refine W.cond rfl (fun h42 => ?_) (fun h42 => ?_)
 have h42' := dT h42
 refine W.seq ?_
 have c2 : s = [120, 99, 104, 101, 99, 107] := by assumption
 have hO : unaO S s o = (truO o.exec, 0) := by unfold unaO; rw [if_neg c1, if_pos c2]
 have hT : unaS S s o = S := if_neg (fun q => q.2.1 c2)
 refine W.reg <| WL.p (.fa underlying27 rfl sizeOf4 dD rfl) rfl <| WL.r (Rd.ld (isAgg4 _) rfl hk15 rfl) rfl <| WL.c1 hb38 rfl rfl ((conv_truth _ _)) (fun w43 hw43 => ?_)
 have hF44 := Sto.same (w1 := w43) hF12 (fun k hk hl => hw43.block k hl)
 have hk47 := hkb11.below hw43 hkb11.lt
 have hB48 := Chg.low hB17 hw43
 refine WL.stL rfl rfl hk47 isz27 rfl rfl (fun w49 hkw49 huw49 hsw49 => ?_)
 have hF50 := Sto.same (w1 := w49) hF44 (fun k hk hl => huw49.other k (fun e => hnf18 (e ▸ hk)))
 have hB53 := Chg.upd hB48 huw49 oO
 refine WL.z rfl rfl ?_
 refine W.ret (W.retc2 rfl rfl (ldRow hkw49 underlying27 rfl isz27) rfl ?_)
 exact ⟨rvE (by rw [hO]; rfl), _, by rw [hT]; exact hF50, hB53⟩
 have h42' := dF h42
 refine W.seq ?_
 have c2 : ¬ s = [120, 99, 104, 101, 99, 107] := by assumption
 refine W.reg <| WL.p (.eqs rfl rfl) rfl <| WL.z rfl rfl ?_
 refine W.cond rfl (fun h54 => ?_) (fun h54 => ?_)
 have h54' := dT h54
 refine W.seq ?_
 have c3 : s = [99, 118, 105] := by assumption
 have hO : unaO S s o = wholeO S o := by unfold unaO; rw [if_neg c1, if_neg c2, if_pos c3]
 have hT : unaS S s o = S := if_neg (fun q => q.2.2.1 c3)
 refine W.reg <| WL.r (Rd.ldA rfl hk13 underlying72 rfl isz72) rfl <| WL.r (Rd.ldA rfl hk15 underlying27 rfl isz27) rfl <| WL.c1 hb39 rfl rfl ((conv_whole b F S o _ hF12 hok)) (fun w55 hw55 => ?_)
 have hF56 := Sto.same (w1 := w55) hF12 (fun k hk hl => hw55.block k hl)
 have hk59 := hkb11.below hw55 hkb11.lt
 have hB60 := Chg.low hB17 hw55
 refine WL.p (.ext rfl rfl) rfl <| WL.p (.ext rfl rfl) rfl <| WL.stL rfl rfl hk59 isz27 rfl rfl (fun w61 hkw61 huw61 hsw61 => ?_)
 have hF62 := Sto.same (w1 := w61) hF56 (fun k hk hl => huw61.other k (fun e => hnf18 (e ▸ hk)))
 have hB65 := Chg.upd hB60 huw61 oO
 refine WL.z rfl rfl ?_
 refine W.ret (W.retc2 rfl rfl (ldRow hkw61 underlying27 rfl isz27) rfl ?_)
 exact ⟨rvE (by rw [hO]; rfl), _, by rw [hT]; exact hF62, hB65⟩
 have h54' := dF h54
 refine W.seq ?_
 have c3 : ¬ s = [99, 118, 105] := by assumption
 refine W.reg <| WL.p (.eqs rfl rfl) rfl <| WL.z rfl rfl ?_
 refine W.cond rfl (fun h66 => ?_) (fun h66 => ?_)
 have h66' := dT h66
 refine W.seq ?_
 have c4 : s = [99, 118, 114] := by assumption
 have hO : unaO S s o = realO S o := by unfold unaO; rw [if_neg c1, if_neg c2, if_neg c3, if_pos c4]
 have hT : unaS S s o = S := if_neg (fun q => q.2.2.2.1 c4)
 refine W.reg <| WL.r (Rd.ldA rfl hk13 underlying72 rfl isz72) rfl <| WL.r (Rd.ldA rfl hk15 underlying27 rfl isz27) rfl <| WL.c1 hb40 rfl rfl ((conv_real b F S o _ hF12 hok)) (fun w67 hw67 => ?_)
 have hF68 := Sto.same (w1 := w67) hF12 (fun k hk hl => hw67.block k hl)
 have hk71 := hkb11.below hw67 hkb11.lt
 have hB72 := Chg.low hB17 hw67
 refine WL.p (.ext rfl rfl) rfl <| WL.p (.ext rfl rfl) rfl <| WL.stL rfl rfl hk71 isz27 rfl rfl (fun w73 hkw73 huw73 hsw73 => ?_)
 have hF74 := Sto.same (w1 := w73) hF68 (fun k hk hl => huw73.other k (fun e => hnf18 (e ▸ hk)))
 have hB77 := Chg.upd hB72 huw73 oO
 refine WL.z rfl rfl ?_
 refine W.ret (W.retc2 rfl rfl (ldRow hkw73 underlying27 rfl isz27) rfl ?_)
 exact ⟨rvE (by rw [hO]; rfl), _, by rw [hT]; exact hF74, hB77⟩
 have h66' := dF h66
 refine W.seq ?_
 have c4 : ¬ s = [99, 118, 114] := by assumption
 refine W.reg <| WL.p (.eqs rfl rfl) rfl <| WL.z rfl rfl ?_
 refine W.cond rfl (fun h78 => ?_) (fun h78 => ?_)
 have h78' := dT h78
 refine W.seq ?_
 have c5 : s = [99, 118, 110] := by assumption
 have hO : unaO S s o = nameO S o := by unfold unaO; rw [if_neg c1, if_neg c2, if_neg c3, if_neg c4, if_pos c5]
 have hT : unaS S s o = S := if_neg (fun q => q.2.2.2.2.1 c5)
 refine W.reg <| WL.r (Rd.ldA rfl hk13 underlying72 rfl isz72) rfl <| WL.r (Rd.ldA rfl hk15 underlying27 rfl isz27) rfl <| WL.c1 hb41 rfl rfl ((conv_name b F S o _ hF12 hok)) (fun w79 hw79 => ?_)
 have hF80 := Sto.same (w1 := w79) hF12 (fun k hk hl => hw79.block k hl)
 have hk83 := hkb11.below hw79 hkb11.lt
 have hB84 := Chg.low hB17 hw79
 refine WL.p (.ext rfl rfl) rfl <| WL.p (.ext rfl rfl) rfl <| WL.stL rfl rfl hk83 isz27 rfl rfl (fun w85 hkw85 huw85 hsw85 => ?_)
 have hF86 := Sto.same (w1 := w85) hF80 (fun k hk hl => huw85.other k (fun e => hnf18 (e ▸ hk)))
 have hB89 := Chg.upd hB84 huw85 oO
 refine WL.z rfl rfl ?_
 refine W.ret (W.retc2 rfl rfl (ldRow hkw85 underlying27 rfl isz27) rfl ?_)
 exact ⟨rvE (by rw [hO]; rfl), _, by rw [hT]; exact hF86, hB89⟩
 have h78' := dF h78
 refine W.seq <| W.seq ?_
 have c5 : ¬ s = [99, 118, 110] := by assumption
 refine W.reg <| WL.p (.eqs rfl rfl) rfl <| WL.z rfl rfl ?_
 refine W.cond rfl (fun h90 => ?_) (fun h90 => ?_)
 have h90' := dT h90
 refine W.skip <| W.condT rfl h90 ?_
 refine W.seq ?_
 have c6 : s = rcheckL ∨ s = [119, 99, 104, 101, 99, 107] := by unfold rcheckL; simp_all
 have hO : unaO S s o = chkO S s o := by unfold unaO; rw [if_neg c1, if_neg c2, if_neg c3, if_neg c4, if_neg c5, if_pos c6]
 have hT : unaS S s o = S := if_neg (fun q => q.2.2.2.2.2 c6)
 refine W.reg <| WL.r (Rd.ldA rfl hk13 underlying72 rfl isz72) rfl <| WL.m rfl rfl <| WL.r (Rd.ldA rfl hk15 underlying27 rfl isz27) rfl <| WL.c1 hb42 rfl rfl ((conv_check b F S s o _ hF12 hok)) (fun w91 hw91 => ?_)
 have hF92 := Sto.same (w1 := w91) hF12 (fun k hk hl => hw91.block k hl)
 have hk95 := hkb11.below hw91 hkb11.lt
 have hB96 := Chg.low hB17 hw91
 refine WL.p (.ext rfl rfl) rfl <| WL.p (.ext rfl rfl) rfl <| WL.stL rfl rfl hk95 isz27 rfl rfl (fun w97 hkw97 huw97 hsw97 => ?_)
 have hF98 := Sto.same (w1 := w97) hF92 (fun k hk hl => huw97.other k (fun e => hnf18 (e ▸ hk)))
 have hB101 := Chg.upd hB96 huw97 oO
 refine WL.z rfl rfl ?_
 refine W.ret (W.retc2 rfl rfl (ldRow hkw97 underlying27 rfl isz27) rfl ?_)
 exact ⟨rvE (by rw [hO]; rfl), _, by rw [hT]; exact hF98, hB101⟩
 have h90' := dF h90
 refine W.reg <| WL.p (.eqs rfl rfl) rfl <| WL.z rfl rfl ?_
 refine W.cond rfl (fun h102 => ?_) (fun h102 => ?_)
 have h102' := dT h102
 refine W.seq ?_
 have c6 : s = rcheckL ∨ s = [119, 99, 104, 101, 99, 107] := by unfold rcheckL; simp_all
 have hO : unaO S s o = chkO S s o := by unfold unaO; rw [if_neg c1, if_neg c2, if_neg c3, if_neg c4, if_neg c5, if_pos c6]
 have hT : unaS S s o = S := if_neg (fun q => q.2.2.2.2.2 c6)
 refine W.reg <| WL.r (Rd.ldA rfl hk13 underlying72 rfl isz72) rfl <| WL.m rfl rfl <| WL.r (Rd.ldA rfl hk15 underlying27 rfl isz27) rfl <| WL.c1 hb42 rfl rfl ((conv_check b F S s o _ hF12 hok)) (fun w103 hw103 => ?_)
 have hF104 := Sto.same (w1 := w103) hF12 (fun k hk hl => hw103.block k hl)
 have hk107 := hkb11.below hw103 hkb11.lt
 have hB108 := Chg.low hB17 hw103
 refine WL.p (.ext rfl rfl) rfl <| WL.p (.ext rfl rfl) rfl <| WL.stL rfl rfl hk107 isz27 rfl rfl (fun w109 hkw109 huw109 hsw109 => ?_)
 have hF110 := Sto.same (w1 := w109) hF104 (fun k hk hl => huw109.other k (fun e => hnf18 (e ▸ hk)))
 have hB113 := Chg.upd hB108 huw109 oO
 refine WL.z rfl rfl ?_
 refine W.ret (W.retc2 rfl rfl (ldRow hkw109 underlying27 rfl isz27) rfl ?_)
 exact ⟨rvE (by rw [hO]; rfl), _, by rw [hT]; exact hF110, hB113⟩
 have h102' := dF h102
 refine W.skip <| W.seq ?_
 have c6 : ¬ (s = rcheckL ∨ s = [119, 99, 104, 101, 99, 107]) := by unfold rcheckL; simp_all
 have hO : unaO S s o = lkO S s o := by unfold unaO; rw [if_neg c1, if_neg c2, if_neg c3, if_neg c4, if_neg c5, if_neg c6]
 have hT : unaS S s o = lkS S s o := if_pos ⟨c1, c2, c3, c4, c5, c6⟩
 refine W.reg <| WL.r (Rd.ldA rfl hk13 underlying72 rfl isz72) rfl <| WL.m rfl rfl <| WL.r (Rd.ldA rfl hk15 underlying27 rfl isz27) rfl <| WL.c1 hb43 rfl rfl ((conv_lock b F S s o _ hF12 hok hch)) (fun w114 hw114 => ?_)
 obtain ⟨F115, hstF115, hCF115, hxF115⟩ := Chg.open hw114
 have hnf116 := Chg.nf hCF115 hnf4 hk13.lt
 have hnf117 := Chg.nf hCF115 hnf10 hk15.lt
 have hnf118 := Chg.nf hCF115 hnf18 hkb11.lt
 have hk121 := Blk.chg hkb11 hCF115 hnf18
 have hB122 := Chg.trans hB17 hCF115
 refine WL.p (.ext rfl rfl) rfl <| WL.p (.ext rfl rfl) rfl <| WL.stL rfl rfl hk121 isz27 rfl rfl (fun w123 hkw123 huw123 hsw123 => ?_)
 have hF124 := Sto.same (w1 := w123) hstF115 (fun k hk hl => huw123.other k (fun e => hnf118 (e ▸ hk)))
 have hB127 := Chg.upd hB122 huw123 oO
 refine WL.z rfl rfl ?_
 refine W.ret (W.retc2 rfl rfl (ldRow hkw123 underlying27 rfl isz27) rfl ?_)
 exact ⟨rvE (by rw [hO]; rfl), _, by rw [hT]; exact hF124, hB127⟩
def oneL (x : ObjV × Int) : List ObjV := if x.2 = 0 then [x.1] else []
theorem conv_one (x : ObjV × Int) (w : World) :
  Calls Tryz.prog 20 #[.agg (objV x.1).toArray, .int .i64 x.2] w fun e w' => ∃ r, e = .returned r ∧ Below w.heap.size w w' ∧ ∃ v, r = .tuple #[v, .int .i64 x.2] ∧ OwnM objL 27 w.heap.size w' v (oneL x) := by
 refine W.enter func20 rfl ntmps20 (Nat.le_of_ble_eq_true rfl) ?_
 have hB0 := Below.refl (w.heap.size) w
 refine W.sr <| WL.box rfl rfl (fun b1 wb1 eb1 hkb1 hub1 hsb1 => ?_)
 have hB2 := Upd.below hB0 (by rw [eb1]; exact hB0.size) hub1
 have hgeb1 : w.heap.size ≤ b1 := by rw [eb1]; exact hB0.size
 refine WL.a rfl rfl <| WL.z rfl rfl ?_
 refine W.seq <| W.sr <| WL.m rfl rfl <| WL.p (.neq rfl rfl) rfl <| WL.nil <| ?_
 refine W.cond rfl (fun h3 => ?_) (fun h3 => ?_)
 have h3' := ndT h3
 refine W.sr <| WL.m rfl rfl <| WL.a rfl rfl <| WL.z rfl rfl ?_
 refine W.ret (W.ret2 rfl rfl rfl ?_)
 exact ⟨_, rfl, hB2, _, rfl, by unfold oneL; rw [if_neg aS]; exact OwnM.nil _ _ _ _⟩
 have h3' := ndF h3
 refine W.skip <| W.sr <| WL.r (Rd.ldA rfl hkb1 underlying27 rfl isz27) rfl <| WL.bslM (L := objL) (ps := _) ([x.1]) underlying30 sizeOf27 zeroValue27 rfl rfl rfl rfl rfl (by first | rfl | decide) rfl rfl (fun b4 wb4 eb4 hob4 hub4 hsb4 => ?_)
 have hl6 : b1 < b4 := by rw [eb4]; exact hkb1.lt
 have hB7 := Upd.below hB2 (by rw [eb4]; exact hB2.size) hub4
 have hgeb4 : w.heap.size ≤ b4 := by rw [eb4]; exact hB2.size
 have hleb4 : b4 ≤ wb4.heap.size := by omega
 refine WL.a rfl rfl <| WL.z rfl rfl ?_
 refine W.ret (W.ret2 rfl rfl rfl ?_)
 exact ⟨_, rfl, hB7, _, by rw [show x.2 = 0 by assumption], by unfold oneL; rw [if_pos aS]; exact (hob4).base fun g hg => by have := ((hob4).lt g hg).1; omega⟩
theorem known_le (s : List UInt8) : known s ≤ 3 := by unfold known; split <;> (try split) <;> (try split) <;> omega
abbrev doBad (S : StoV) (s : List UInt8) (l : List ObjV) : Prop := known s ≤ 0 ∨ known s ≠ l.length ∨ (l.any fun o => !validB S o) = true
def aL (l : List ObjV) (i : Nat) : ObjV := l.getD i ob0
def doO (S : StoV) (s : List UInt8) (l : List ObjV) : List ObjV × Int :=
 if doBad S s l then ([], 21)
 else if known s = 1 then (oneL (unaO S s (aL l 0)), (unaO S s (aL l 0)).2)
 else if known s = 2 then (oneL (layO S (conT S (aL l 0)) (aL l 1)), (layO S (conT S (aL l 0)) (aL l 1)).2)
 else (oneL (radO S (aL l 0) (aL l 1) (aL l 2)), (radO S (aL l 0) (aL l 1) (aL l 2)).2)
def doS (S : StoV) (s : List UInt8) (l : List ObjV) : StoV :=
 if doBad S s l then S
 else if known s = 1 then unaS S s (aL l 0)
 else if known s = 2 then layS S (conT S (aL l 0)) (aL l 1)
 else radS S (aL l 0) (aL l 1) (aL l 2)
theorem aL_at {l : List ObjV} {i : Nat} (h : i < l.length) : aL l i = l[i] := by unfold aL; rw [List.getD_eq_getElem?_getD, List.getElem?_eq_getElem h]; rfl
set_option maxHeartbeats 3200000 in
theorem conv_Do (b : Nat) (F : Nat → Prop) (S : StoV) (s : List UInt8) (p : Option Addr) (l : List ObjV) (c : Nat) (w : World) (h : Sto w b F S) (hok : SOk S) (hE : EnvC w) (hn : FreeC F) (hr : RowM objL w p l) (hrF : 0 < l.length → ¬ F (pA p).block) (hl : l.length ≤ 1000000)
  (hch : S.changes.length ≤ 800000000000) (hs : s ≠ s_type) (hon : ∀ x ∈ l, -9223372036854775808 ≤ x.n ∧ x.n ≤ 9223372036854775807) :
  Calls Tryz.prog 8 #[.pointer (some ⟨b, 0, none⟩), .string (bs s), .slice p l.length c] w fun e w' => ∃ r, e = .returned r ∧ ∃ v F1, r = .tuple #[v, .int .i64 (doO S s l).2] ∧ OwnM objL 27 w.heap.size w' v (doO S s l).1 ∧ (∀ g, v.ownBlock = some g → ¬ F1 g) ∧ Sto w' b F1 (doS S s l) ∧ Chg F F1 w w' := by
 refine W.enter func8 rfl ntmps8 (Nat.le_of_ble_eq_true rfl) ?_
 have hB0 := Chg.refl F w
 refine W.sr <| WL.box rfl rfl (fun b1 wb1 eb1 hkb1 hub1 hsb1 => ?_)
 have hF2 := Sto.same (w1 := wb1) h (fun k hk hl => hub1.other k oO)
 have hvl4 := fun h0 => eb1 ▸ hr.lt h0
 have hv3 := RowM.upd hr hub1 (fun h0 => Nat.ne_of_lt (hvl4 h0))
 have hgeb1 : w.heap.size ≤ b1 := by rw [eb1]; exact hB0.size
 have hB5 := Chg.upd hB0 hub1 hgeb1
 have hnf6 : ¬ F b1 := fun hq => by have hq1 := (h).lt hq; omega
 refine WL.a rfl rfl <| WL.z rfl rfl ?_
 refine W.sr <| WL.m rfl rfl <| WL.c1 hb16 rfl rfl ((conv_Known s _)) (fun w7 hw7 => ?_)
 obtain rfl := hw7
 refine WL.m rfl rfl <| WL.p (.ext rfl rfl) rfl <| WL.p (.ext rfl rfl) rfl <| WL.a rfl rfl <| WL.z rfl rfl ?_
 refine W.seq <| W.sr <| WL.m rfl rfl <| WL.p (.not rfl) rfl <| WL.m rfl rfl <| WL.gd rfl rfl rfl (fun g8 => ?_) (fun g8 => ?_)
 have g8' := (nF g8)
 refine WL.m rfl rfl <| WL.gy rfl rfl rfl (by rw [(nF g8)] <;> rfl) <| WL.m rfl rfl <| WL.gy rfl rfl rfl (by rw [(nF g8)] <;> rfl) <| WL.p (.lenS underlying30 rfl) rfl <| WL.gy rfl rfl rfl (by rw [(nF g8)] <;> rfl) <| WL.p (.neq rfl rfl) rfl <| WL.p (.pkF rfl (by rw [(nF g8)] <;> rfl) rfl) rfl <| WL.m rfl rfl <| WL.gd rfl rfl rfl (fun g9 => ?_) (fun g9 => ?_)
 have g9' := ndF g9
 refine WL.m rfl rfl <| WL.gy rfl rfl rfl g9 <| WL.p (.mkF rfl) rfl <| WL.gy rfl rfl rfl g9 <| WL.c1 hb17 rfl rfl ((lib_ContainsObj hb18 #[.pointer (some ⟨b1, 0, none⟩)] p l c (fun o => !validB S o) _ hv3 oO (fun j hj w1 hw1 => conv_Do1 b b1 F S l[j] w1 ((hF2).below hw1) hok ((hkb1).below hw1 (hkb1).lt)))) (fun w10 hw10 => ?_)
 have hF11 := Sto.same (w1 := w10) hF2 (fun k hk hl => hw10.block k hl)
 have hk12 := hkb1.below hw10 hkb1.lt
 have hv13 := RowM.below hv3 hw10 (fun h0 => hv3.lt h0)
 have hB14 := Chg.low hB5 hw10
 refine WL.p (.pkF rfl g9 rfl) rfl <| WL.nil <| ?_
 refine W.cond rfl (fun h15 => ?_) (fun h15 => ?_)
 refine W.seq ?_
 have hbad : doBad S s l := .inr (.inr aS)
 refine W.reg <| WL.a rfl rfl <| WL.z rfl rfl ?_
 refine W.ret (W.ret2 rfl rfl rfl ?_)
 rw [show doO S s l = ([], 21) from if_pos hbad, show doS S s l = S from if_pos hbad]
 exact ⟨_, rfl, _, _, rfl, OwnM.nil _ _ _ _, (fun g hg => nomatch hg), hF11, hB14⟩
 refine W.skip <| W.seq ?_
 have hpos : 0 < known s := by simp_all
 have hbad : ¬ doBad S s l := fun q => by
  rcases q with q | q | q
  omega
  exact q aS
  simp_all
 have hkl : known s = l.length := by assumption
 refine W.reg <| WL.r (Rd.ld (isAgg22 _) rfl hk12 rfl) rfl <| ?_
 refine WL.p (.buildL (ps := _) blt72 rfl rfl rfl pS) rfl ?_
 refine WL.alloc zeroValue72 rfl (fun b16 wb16 eb16 hkb16 hub16 hsb16 => ?_)
 have hF17 := Sto.same (w1 := wb16) hF11 (fun k hk hl => hub16.other k oO)
 have hl19 : b1 < b16 := by rw [eb16]; exact hk12.lt
 have hk18 := hk12.upd hub16 (Nat.ne_of_lt hl19)
 have hvl21 := fun h0 => eb16 ▸ hv13.lt h0
 have hv20 := RowM.upd hv13 hub16 (fun h0 => Nat.ne_of_lt (hvl21 h0))
 have hgeb16 : w.heap.size ≤ b16 := by rw [eb16]; exact hB14.size
 have hB22 := Chg.upd hB14 hub16 hgeb16
 have hnf23 : ¬ F b16 := fun hq => by have hq1 := (hF11).lt hq; omega
 refine WL.stL rfl rfl hkb16 isz72 rfl rfl (fun w24 hkw24 huw24 hsw24 => ?_)
 have hF25 := Sto.same (w1 := w24) hF17 (fun k hk hl => huw24.other k (fun e => hnf23 (e ▸ hk)))
 have hk26 := hk18.up huw24
 have hv27 := RowM.upd hv20 huw24 (fun h0 => Nat.ne_of_lt (hvl21 h0))
 have hB28 := Chg.upd hB22 huw24 oO
 refine WL.nil <| ?_
 refine W.seq <| W.sr <| WL.m rfl rfl <| WL.nil <| ?_
 refine W.block <| W.sr <| WL.p (.eql rfl rfl) rfl <| WL.z rfl rfl ?_
 refine W.cond rfl (fun h29 => ?_) (fun h29 => ?_)
 have h29' := dT h29
 have e0 : aL l 0 = l[0]'oO := aL_at oO
 refine W.seq <| W.regH 13 rfl mixed (fun w' => w'.heap[b16]? = w24.heap[b16]? ∧ RowM objL w' p l ∧ True) (fun w30 dw30 => ?_)
 have hF31 := Sto.same (w1 := w30) hF25 (fun k hk hl => (by obtain ⟨m, rfl⟩ := dw30; rfl))
 have hk32 := hk26.drew dw30
 have hk33 := hkw24.drew dw30
 have hv34 := hv27.drew dw30
 have hB35 := Chg.drew hB28 dw30
 refine WH.tk 0 rfl (fun w' hw' => Rd.ldA rfl ((hw'.1).trans hkw24) underlying72 rfl isz72) ⟨(hk33).trans (hkw24).symm, hv34, trivial⟩ rfl ?_
 refine WH.tp 1 rfl (.mv rfl) ⟨(hk33).trans (hkw24).symm, hv34, trivial⟩ rfl ?_
 refine WH.tp 2 rfl (.mv rfl) ⟨(hk33).trans (hkw24).symm, hv34, trivial⟩ rfl ?_
 refine WH.tp 3 rfl (.ixm underlying30 sizeOf27 rfl rfl (hv34.isp (by first | omega | (simp only [List.length_cons, List.length_nil]; omega))) 0 rfl oO) ⟨(hk33).trans (hkw24).symm, hv34, trivial⟩ rfl ?_
 refine WH.tk 4 rfl (fun w' hw' => Rd.ldS underlying27 rfl isz27 (hw'.2.1) (0) (by first | omega | (simp only [List.length_cons, List.length_nil]; omega)) rfl) ⟨(hk33).trans (hkw24).symm, hv34, trivial⟩ rfl ?_
 refine WH.br1 5 rfl ?_
 refine WL.c1 hb21 rfl rfl ((conv_unary b F S s (l[0]'oO) _ hF31 hok hch hs)) (fun w36 hw36 => ?_)
 obtain ⟨F37, hstF37, hCF37, hxF37⟩ := Chg.open hw36
 have hnf38 := Chg.nf hCF37 hnf6 hk32.lt
 have hnf39 := Chg.nf hCF37 hnf23 hk33.lt
 have hk41 := Blk.chg hk33 hCF37 hnf23
 have hnf43 := fun h0 => Chg.nf hCF37 (hrF h0) (hv34.lt h0)
 have hv42 := RowM.chg hv34 hCF37 hrF
 have hB44 := Chg.trans hB35 hCF37
 refine WL.nil <| ?_
 refine ⟨⟨(hk41).trans (hkw24).symm, hv42, trivial⟩, ?_⟩
 refine WH.tp 6 rfl (.ext rfl rfl) ⟨(hk41).trans (hkw24).symm, hv42, trivial⟩ rfl ?_
 refine WH.tp 7 rfl (.ext rfl rfl) ⟨(hk41).trans (hkw24).symm, hv42, trivial⟩ rfl ?_
 refine WH.br1 8 rfl ?_
 have hlt7 : ∀ g, F37 g → g < w36.heap.size := fun g hg => (hstF37).lt hg
 have hsz7 := hB44.size
 refine WL.call hb20 rfl rfl ((conv_one (unaO S s (l[0]'oO)) _)) (fun r w45 hw45 => ?_)
 have hF46 := Sto.same (w1 := w45) hstF37 (fun k hk hl => hw45.1.block k hl)
 have hk48 := hk41.below hw45.1 hk41.lt
 have hv49 := RowM.below hv42 hw45.1 (fun h0 => hv42.lt h0)
 have hB50 := Chg.low hB44 hw45.1
 obtain ⟨v, rfl, hov⟩ := hw45.2
 refine WL.nil <| ?_
 refine ⟨⟨(hk48).trans (hkw24).symm, hv49, trivial⟩, ?_⟩
 refine WH.tp 9 rfl (.ext rfl rfl) ⟨(hk48).trans (hkw24).symm, hv49, trivial⟩ rfl ?_
 refine WH.tp 10 rfl (.ext rfl rfl) ⟨(hk48).trans (hkw24).symm, hv49, trivial⟩ rfl ?_
 refine WH.tp 11 rfl (.as rfl) ⟨(hk48).trans (hkw24).symm, hv49, trivial⟩ rfl ?_
 refine WH.tp 12 rfl (.as rfl) ⟨(hk48).trans (hkw24).symm, hv49, trivial⟩ rfl ?_
 refine WH.done kR ?_
 refine W.ret (W.ret2 rfl rfl rfl ?_)
 rw [show doO S s l = (oneL (unaO S s (aL l 0)), (unaO S s (aL l 0)).2) by unfold doO; rw [if_neg hbad, if_pos aS], show doS S s l = unaS S s (aL l 0) by unfold doS; rw [if_neg hbad, if_pos aS], e0]
 exact ⟨_, rfl, v, _, rfl, hov.base (fun g hg => Nat.le_trans hsz7 (hov.lt g hg).1), fun g hg hf => by have h5 := hlt7 g hf; have h6 := (hov.lt g hg).1; omega, hF46, hB50⟩
 have h29' := dF h29
 refine W.sr <| WL.p (.eql rfl rfl) rfl <| WL.z rfl rfl ?_
 refine W.cond rfl (fun h51 => ?_) (fun h51 => ?_)
 have h51' := dT h51
 have e0 : aL l 0 = l[0]'oO := aL_at oO
 have e1 : aL l 1 = l[1]'oO := aL_at oO
 refine W.seq <| W.regH 17 rfl mixed (fun w' => w'.heap[b16]? = w24.heap[b16]? ∧ w'.heap[b1]? = w24.heap[b1]? ∧ RowM objL w' p l ∧ True) (fun w52 dw52 => ?_)
 have hF53 := Sto.same (w1 := w52) hF25 (fun k hk hl => (by obtain ⟨m, rfl⟩ := dw52; rfl))
 have hk54 := hk26.drew dw52
 have hk55 := hkw24.drew dw52
 have hv56 := hv27.drew dw52
 have hB57 := Chg.drew hB28 dw52
 refine WH.tk 0 rfl (fun w' hw' => Rd.ldA rfl ((hw'.1).trans hkw24) underlying72 rfl isz72) ⟨(hk55).trans (hkw24).symm, (hk54).trans (hk26).symm, hv56, trivial⟩ rfl ?_
 refine WH.tk 1 rfl (fun w' hw' => Rd.ld (isAgg22 _) rfl ((hw'.2.1).trans hk26) rfl) ⟨(hk55).trans (hkw24).symm, (hk54).trans (hk26).symm, hv56, trivial⟩ rfl ?_
 refine WH.tp 2 rfl (.mv rfl) ⟨(hk55).trans (hkw24).symm, (hk54).trans (hk26).symm, hv56, trivial⟩ rfl ?_
 refine WH.tp 3 rfl (.ixm underlying30 sizeOf27 rfl rfl (hv56.isp (by first | omega | (simp only [List.length_cons, List.length_nil]; omega))) 0 rfl oO) ⟨(hk55).trans (hkw24).symm, (hk54).trans (hk26).symm, hv56, trivial⟩ rfl ?_
 refine WH.tk 4 rfl (fun w' hw' => Rd.ldS underlying27 rfl isz27 (hw'.2.2.1) (0) (by first | omega | (simp only [List.length_cons, List.length_nil]; omega)) rfl) ⟨(hk55).trans (hkw24).symm, (hk54).trans (hk26).symm, hv56, trivial⟩ rfl ?_
 refine WH.tp 6 rfl (.mv rfl) ⟨(hk55).trans (hkw24).symm, (hk54).trans (hk26).symm, hv56, trivial⟩ rfl ?_
 refine WH.tp 7 rfl (.ixm underlying30 sizeOf27 rfl rfl (hv56.isp (by first | omega | (simp only [List.length_cons, List.length_nil]; omega))) 1 rfl oO) ⟨(hk55).trans (hkw24).symm, (hk54).trans (hk26).symm, hv56, trivial⟩ rfl ?_
 refine WH.tk 8 rfl (fun w' hw' => Rd.ldS underlying27 rfl isz27 (hw'.2.2.1) (1) (by first | omega | (simp only [List.length_cons, List.length_nil]; omega)) rfl) ⟨(hk55).trans (hkw24).symm, (hk54).trans (hk26).symm, hv56, trivial⟩ rfl ?_
 refine WH.br1 5 rfl ?_
 refine WL.call hb23 rfl rfl ((conv_Text b F S (l[0]'oO) _ hF53 hok (hE.chg hB57 hn) (hon _ (List.getElem_mem _)))) (fun r w58 hw58 => ?_)
 have hF59 := Sto.same (w1 := w58) hF53 (fun k hk hl => hw58.1.block k hl)
 have hk60 := hk54.below hw58.1 hk54.lt
 have hk61 := hk55.below hw58.1 hk55.lt
 have hv62 := RowM.below hv56 hw58.1 (fun h0 => hv56.lt h0)
 have hB63 := Chg.low hB57 hw58.1
 obtain ⟨pb1, cb1, rfl, hbt1, hge1⟩ := hw58.2
 have hsz1 := hB57.size
 refine WL.nil <| ?_
 refine ⟨⟨(hk61).trans (hkw24).symm, (hk60).trans (hk26).symm, hv62, trivial⟩, ?_⟩
 refine WH.br1 9 rfl ?_
 refine WL.c1 hb22 rfl rfl ((conv_lay b F S pb1 (conT S (l[0]'oO)) cb1 (l[1]'oO) _ hF59 hok hbt1 (fun h0 hf => by have h8 := h.lt hf; have h9 := hge1 h0; omega))) (fun w64 hw64 => ?_)
 obtain ⟨F65, hstF65, hCF65, hxF65⟩ := Chg.open hw64
 have hnf66 := Chg.nf hCF65 hnf6 hk60.lt
 have hnf67 := Chg.nf hCF65 hnf23 hk61.lt
 have hk68 := Blk.chg hk60 hCF65 hnf6
 have hk69 := Blk.chg hk61 hCF65 hnf23
 have hnf71 := fun h0 => Chg.nf hCF65 (hrF h0) (hv62.lt h0)
 have hv70 := RowM.chg hv62 hCF65 hrF
 have hB72 := Chg.trans hB63 hCF65
 refine WL.nil <| ?_
 refine ⟨⟨(hk69).trans (hkw24).symm, (hk68).trans (hk26).symm, hv70, trivial⟩, ?_⟩
 refine WH.tp 10 rfl (.ext rfl rfl) ⟨(hk69).trans (hkw24).symm, (hk68).trans (hk26).symm, hv70, trivial⟩ rfl ?_
 refine WH.tp 11 rfl (.ext rfl rfl) ⟨(hk69).trans (hkw24).symm, (hk68).trans (hk26).symm, hv70, trivial⟩ rfl ?_
 refine WH.br1 12 rfl ?_
 have hlt7 : ∀ g, F65 g → g < w64.heap.size := fun g hg => (hstF65).lt hg
 have hsz7 := hB72.size
 refine WL.call hb20 rfl rfl ((conv_one (layO S (conT S (l[0]'oO)) (l[1]'oO)) _)) (fun r w73 hw73 => ?_)
 have hF74 := Sto.same (w1 := w73) hstF65 (fun k hk hl => hw73.1.block k hl)
 have hk75 := hk68.below hw73.1 hk68.lt
 have hk76 := hk69.below hw73.1 hk69.lt
 have hv77 := RowM.below hv70 hw73.1 (fun h0 => hv70.lt h0)
 have hB78 := Chg.low hB72 hw73.1
 obtain ⟨v, rfl, hov⟩ := hw73.2
 refine WL.nil <| ?_
 refine ⟨⟨(hk76).trans (hkw24).symm, (hk75).trans (hk26).symm, hv77, trivial⟩, ?_⟩
 refine WH.tp 13 rfl (.ext rfl rfl) ⟨(hk76).trans (hkw24).symm, (hk75).trans (hk26).symm, hv77, trivial⟩ rfl ?_
 refine WH.tp 14 rfl (.ext rfl rfl) ⟨(hk76).trans (hkw24).symm, (hk75).trans (hk26).symm, hv77, trivial⟩ rfl ?_
 refine WH.tp 15 rfl (.as rfl) ⟨(hk76).trans (hkw24).symm, (hk75).trans (hk26).symm, hv77, trivial⟩ rfl ?_
 refine WH.tp 16 rfl (.as rfl) ⟨(hk76).trans (hkw24).symm, (hk75).trans (hk26).symm, hv77, trivial⟩ rfl ?_
 refine WH.done kR ?_
 refine W.ret (W.ret2 rfl rfl rfl ?_)
 rw [show doO S s l = (oneL (layO S (conT S (aL l 0)) (aL l 1)), (layO S (conT S (aL l 0)) (aL l 1)).2) by unfold doO; rw [if_neg hbad, if_neg aS, if_pos aS], show doS S s l = layS S (conT S (aL l 0)) (aL l 1) by unfold doS; rw [if_neg hbad, if_neg aS, if_pos aS], e0, e1]
 exact ⟨_, rfl, v, _, rfl, hov.base (fun g hg => Nat.le_trans hsz7 (hov.lt g hg).1), fun g hg hf => by have h5 := hlt7 g hf; have h6 := (hov.lt g hg).1; omega, hF74, hB78⟩
 have h51' := dF h51
 have hk3 : known s = 3 := by have hk8 := known_le s; omega
 have e0 : aL l 0 = l[0]'oO := aL_at oO
 have e1 : aL l 1 = l[1]'oO := aL_at oO
 have e2 : aL l 2 = l[2]'oO := aL_at oO
 refine W.skip <| W.seq <| W.regH 18 rfl mixed (fun w' => w'.heap[b16]? = w24.heap[b16]? ∧ RowM objL w' p l ∧ True) (fun w79 dw79 => ?_)
 have hF80 := Sto.same (w1 := w79) hF25 (fun k hk hl => (by obtain ⟨m, rfl⟩ := dw79; rfl))
 have hk81 := hk26.drew dw79
 have hk82 := hkw24.drew dw79
 have hv83 := hv27.drew dw79
 have hB84 := Chg.drew hB28 dw79
 refine WH.tk 0 rfl (fun w' hw' => Rd.ldA rfl ((hw'.1).trans hkw24) underlying72 rfl isz72) ⟨(hk82).trans (hkw24).symm, hv83, trivial⟩ rfl ?_
 refine WH.tp 1 rfl (.mv rfl) ⟨(hk82).trans (hkw24).symm, hv83, trivial⟩ rfl ?_
 refine WH.tp 2 rfl (.ixm underlying30 sizeOf27 rfl rfl (hv83.isp (by first | omega | (simp only [List.length_cons, List.length_nil]; omega))) 0 rfl oO) ⟨(hk82).trans (hkw24).symm, hv83, trivial⟩ rfl ?_
 refine WH.tk 3 rfl (fun w' hw' => Rd.ldS underlying27 rfl isz27 (hw'.2.1) (0) (by first | omega | (simp only [List.length_cons, List.length_nil]; omega)) rfl) ⟨(hk82).trans (hkw24).symm, hv83, trivial⟩ rfl ?_
 refine WH.tp 4 rfl (.mv rfl) ⟨(hk82).trans (hkw24).symm, hv83, trivial⟩ rfl ?_
 refine WH.tp 5 rfl (.ixm underlying30 sizeOf27 rfl rfl (hv83.isp (by first | omega | (simp only [List.length_cons, List.length_nil]; omega))) 1 rfl oO) ⟨(hk82).trans (hkw24).symm, hv83, trivial⟩ rfl ?_
 refine WH.tk 6 rfl (fun w' hw' => Rd.ldS underlying27 rfl isz27 (hw'.2.1) (1) (by first | omega | (simp only [List.length_cons, List.length_nil]; omega)) rfl) ⟨(hk82).trans (hkw24).symm, hv83, trivial⟩ rfl ?_
 refine WH.tp 7 rfl (.mv rfl) ⟨(hk82).trans (hkw24).symm, hv83, trivial⟩ rfl ?_
 refine WH.tp 8 rfl (.ixm underlying30 sizeOf27 rfl rfl (hv83.isp (by first | omega | (simp only [List.length_cons, List.length_nil]; omega))) 2 rfl oO) ⟨(hk82).trans (hkw24).symm, hv83, trivial⟩ rfl ?_
 refine WH.tk 9 rfl (fun w' hw' => Rd.ldS underlying27 rfl isz27 (hw'.2.1) (2) (by first | omega | (simp only [List.length_cons, List.length_nil]; omega)) rfl) ⟨(hk82).trans (hkw24).symm, hv83, trivial⟩ rfl ?_
 refine WH.br1 10 rfl ?_
 refine WL.c1 hb24 rfl rfl ((conv_radix b F S (l[0]'oO) (l[1]'oO) (l[2]'oO) _ hF80 hok (hE.chg hB84 hn) hn (hon _ (List.getElem_mem _)))) (fun w85 hw85 => ?_)
 obtain ⟨F86, hstF86, hCF86, hxF86⟩ := Chg.open hw85
 have hnf87 := Chg.nf hCF86 hnf6 hk81.lt
 have hnf88 := Chg.nf hCF86 hnf23 hk82.lt
 have hk90 := Blk.chg hk82 hCF86 hnf23
 have hnf92 := fun h0 => Chg.nf hCF86 (hrF h0) (hv83.lt h0)
 have hv91 := RowM.chg hv83 hCF86 hrF
 have hB93 := Chg.trans hB84 hCF86
 refine WL.nil <| ?_
 refine ⟨⟨(hk90).trans (hkw24).symm, hv91, trivial⟩, ?_⟩
 refine WH.tp 11 rfl (.ext rfl rfl) ⟨(hk90).trans (hkw24).symm, hv91, trivial⟩ rfl ?_
 refine WH.tp 12 rfl (.ext rfl rfl) ⟨(hk90).trans (hkw24).symm, hv91, trivial⟩ rfl ?_
 refine WH.br1 13 rfl ?_
 have hlt7 : ∀ g, F86 g → g < w85.heap.size := fun g hg => (hstF86).lt hg
 have hsz7 := hB93.size
 refine WL.call hb20 rfl rfl ((conv_one (radO S (l[0]'oO) (l[1]'oO) (l[2]'oO)) _)) (fun r w94 hw94 => ?_)
 have hF95 := Sto.same (w1 := w94) hstF86 (fun k hk hl => hw94.1.block k hl)
 have hk97 := hk90.below hw94.1 hk90.lt
 have hv98 := RowM.below hv91 hw94.1 (fun h0 => hv91.lt h0)
 have hB99 := Chg.low hB93 hw94.1
 obtain ⟨v, rfl, hov⟩ := hw94.2
 refine WL.nil <| ?_
 refine ⟨⟨(hk97).trans (hkw24).symm, hv98, trivial⟩, ?_⟩
 refine WH.tp 14 rfl (.ext rfl rfl) ⟨(hk97).trans (hkw24).symm, hv98, trivial⟩ rfl ?_
 refine WH.tp 15 rfl (.ext rfl rfl) ⟨(hk97).trans (hkw24).symm, hv98, trivial⟩ rfl ?_
 refine WH.tp 16 rfl (.as rfl) ⟨(hk97).trans (hkw24).symm, hv98, trivial⟩ rfl ?_
 refine WH.tp 17 rfl (.as rfl) ⟨(hk97).trans (hkw24).symm, hv98, trivial⟩ rfl ?_
 refine WH.done kR ?_
 refine W.ret (W.ret2 rfl rfl rfl ?_)
 rw [show doO S s l = (oneL (radO S (aL l 0) (aL l 1) (aL l 2)), (radO S (aL l 0) (aL l 1) (aL l 2)).2) by unfold doO; rw [if_neg hbad, if_neg aS, if_neg aS], show doS S s l = radS S (aL l 0) (aL l 1) (aL l 2) by unfold doS; rw [if_neg hbad, if_neg aS, if_neg aS], e0, e1, e2]
 exact ⟨_, rfl, v, _, rfl, hov.base (fun g hg => Nat.le_trans hsz7 (hov.lt g hg).1), fun g hg hf => by have h5 := hlt7 g hf; have h6 := (hov.lt g hg).1; omega, hF95, hB99⟩
 have g9' := ndT g9
 refine WL.gn rfl rfl rfl g9 <| WL.gn rfl rfl rfl g9 <| WL.p (.pkT rfl g9 rfl) rfl <| WL.nil <| ?_
 refine W.condT rfl rfl ?_
 refine W.seq ?_
 have hbad : doBad S s l := .inr (.inl aS)
 refine W.reg <| WL.a rfl rfl <| WL.z rfl rfl ?_
 refine W.ret (W.ret2 rfl rfl rfl ?_)
 rw [show doO S s l = ([], 21) from if_pos hbad, show doS S s l = S from if_pos hbad]
 exact ⟨_, rfl, _, _, rfl, OwnM.nil _ _ _ _, (fun g hg => nomatch hg), hF2, hB5⟩
 have g8' := (nT g8)
 refine WL.gn rfl rfl rfl (by rw [(nT g8)] <;> rfl) <| WL.gn rfl rfl rfl (by rw [(nT g8)] <;> rfl) <| WL.gn rfl rfl rfl (by rw [(nT g8)] <;> rfl) <| WL.p (.pkT rfl (by rw [(nT g8)] <;> rfl) rfl) rfl <| WL.m rfl rfl <| WL.gn rfl rfl rfl rfl <| WL.gn rfl rfl rfl rfl <| WL.gn rfl rfl rfl rfl <| WL.p (.pkT rfl rfl rfl) rfl <| WL.nil <| ?_
 refine W.condT rfl rfl ?_
 refine W.seq ?_
 have hbad : doBad S s l := .inl (by simp_all)
 refine W.reg <| WL.a rfl rfl <| WL.z rfl rfl ?_
 refine W.ret (W.ret2 rfl rfl rfl ?_)
 rw [show doO S s l = ([], 21) from if_pos hbad, show doS S s l = S from if_pos hbad]
 exact ⟨_, rfl, _, _, rfl, OwnM.nil _ _ _ _, (fun g hg => nomatch hg), hF2, hB5⟩
end
section
theorem c_form (n : Int) (h : fitsB n = true) : ∃ m : Option Bool, ∃ W : List UInt8, decL n = sgn m ++ W ∧ neg m = decide (n < 0) ∧ (∀ c ∈ W, isDig c = true) ∧ W ≠ [] ∧ natOf W = n.natAbs ∧ W.length ≤ 10 := by
 have hf := (fitsB_iff n).1 h
 obtain ⟨a, b, c⟩ := digitsL_val n.natAbs
 have hl := digitsL_len 9 n.natAbs oO
 unfold decL
 by_cases hn : n < 0
 ·
  exact ⟨some true, digitsL n.natAbs, by rw [if_pos hn]; rfl, by rw [decide_eq_true hn]; rfl, a, c, b, by omega⟩
 ·
  exact ⟨none, digitsL n.natAbs, by rw [if_neg hn]; rfl, by rw [decide_eq_false hn]; rfl, a, c, b, by omega⟩
theorem c_not (m : Option Bool) {x : UInt8} (h1 : x ≠ 45) (h2 : x ≠ 43) : x ∉ sgn m := by
 match m with
 | none => exact fun h => by cases h
 | some true => simp [sgn]; exact h1
 | some false => simp [sgn]; exact h2
theorem sgn_len (m : Option Bool) : (sgn m).length ≤ 1 := by
 match m with
 | none => simp [sgn]
 | some true => simp [sgn]
 | some false => simp [sgn]
theorem c_len (n : Int) (h : fitsB n = true) : (decL n).length ≤ 11 := by
 obtain ⟨m, W, e, -, -, -, -, hl⟩ := c_form n h
 have := sgn_len m
 rw [e, List.length_append]; omega
theorem c_tok (n : Int) (h : fitsB n = true) : tokenL (decL n) = tokInt n := by
 obtain ⟨m, W, e, hm, hW, h0, hv, hl⟩ := c_form n h
 have hf := (fitsB_iff n).1 h
 have hs := sgn_len m
 have hr : radixOk (decL n) = false := by
  unfold radixOk
  rw [cutC_no 35 _ (by rw [e]; exact fun hx => (List.mem_append.1 hx).elim (c_not m dD dD) fun hx => absurd (hW 35 hx) dD)]
  rfl
 rw [tokenL_plain _ (by rw [e, List.length_append]; omega) hr]
 have hw : wholeT (decL n) = (n, true) := by
  unfold wholeT
  rw [e, signedL_sgn m W fun c r hc => hW c (by rw [hc]; simp)]
  simp only
  have h1 : (W.isEmpty || !W.all isDig) = false := by
   rw [List.all_eq_true.2 hW]
   cases W with
   | nil => exact absurd rfl h0
   | cons a b => rfl
  rw [h1]
  simp only [Bool.false_eq_true, if_false]
  rw [satOf_eq, hv, hm]
  have h2 : (min n.natAbs 1099511627776) = n.natAbs := by omega
  rw [h2]
  have h3 : (if decide (n < 0) = true then -(n.natAbs : Int) else (n.natAbs : Int)) = n := by
   by_cases hn : n < 0
   ·
    rw [decide_eq_true hn, if_pos rfl]; omega
   ·
    rw [decide_eq_false hn, if_neg dD]; omega
  rw [h3]
  simp [hf]
 rw [hw]; rfl
theorem c_real (n : Int) (h : fitsB n = true) : tokenL (realL (norm n)) = tokReal n ∧ (realL (norm n)).length ≤ 23 := by
 have hf := (fitsB_iff n).1 h
 have hnorm : norm n = n := by unfold norm; rw [h]; rfl
 rw [hnorm]
 obtain ⟨R, hr, hR0, hRl, hRd, hRv⟩ := realL_form n
 obtain ⟨w1, w2, w3, w4, w5⟩ := wholeL_facts n hf.1 hf.2
 have hs := sgn_len (if n < 0 then some true else none)
 have hl : (sgn (if n < 0 then some true else none) ++ (wholeL n ++ 46 :: R)).length ≤ 23 := by
  simp only [List.length_append, List.length_cons]; omega
 have hp := parse_real (if n < 0 then some true else none) n 0 0 hf.1 hf.2 R hRd hRv (by by_cases hn : n < 0 <;> simp [hn, neg])
 simp only [List.replicate_zero, List.nil_append, List.append_nil] at hp
 rw [hr]
 exact ⟨tokenL_real _ _ _ n w1 w2 hRd oO hp, hl⟩
end
section
def S0 (n : Int) : StoV := ⟨n, [], [], [], [], []⟩
/-- the string that lies at the store's first place -/
def rm (k : Nat) : ObjV := ⟨6, false, 0, 0, [], 0, 0, k⟩
def S1 : StoV := ⟨491, [List.replicate 60 0], [], [], [], []⟩
def S2 (T : List UInt8) : StoV := ⟨491, [T ++ (List.replicate 60 0).drop T.length], [], [], [], []⟩
def numOb (k n : Int) : ObjV := { ob0 with kind := k, n := n }
theorem sok_0 (n : Int) (h0 : 0 ≤ n) (h : n ≤ 1048576) : SOk (S0 n) := ⟨h0, by simpa [S0] using h, fun l hl => by simp [S0] at hl, fun l hl => by simp [S0] at hl, fun d hd => by simp [S0] at hd⟩
theorem sok_1 : SOk S1 := ⟨by decide, by decide, fun l hl => by simp only [S1, List.mem_singleton] at hl; subst hl; simp, fun l hl => by simp [S1] at hl, fun d hd => by simp [S1] at hd⟩
theorem S2_len {T : List UInt8} (h : T.length ≤ 60) : (T ++ (List.replicate 60 (0 : UInt8)).drop T.length).length = 60 := by simp only [List.length_append, List.length_drop, List.length_replicate]; omega
theorem sok_2 {T : List UInt8} (h : T.length ≤ 60) : SOk (S2 T) := ⟨by show (0 : Int) ≤ 491; decide, by show ((1 : Nat) + (0 : Nat) + (0 : Nat) : Int) + 491 ≤ 1048576; decide, fun l hl => by simp only [S2, List.mem_singleton] at hl; subst hl; rw [S2_len h]; decide, fun l hl => by simp [S2] at hl, fun d hd => by simp [S2] at hd⟩
theorem rm_valid {S : StoV} {t : List UInt8} (hS : S.texts = [t]) {k : Nat} (hk : k ≤ t.length) : validB S (rm k) = true := by
 unfold validB withinB
 rw [if_pos (show (rm k).kind = 6 from rfl), hS]
 have e1 : (rm k).ref = 0 := rfl
 have e2 : (rm k).frm = 0 := rfl
 have e3 : (rm k).len = k := rfl
 rw [e1, e2, e3]
 simp only [Bool.and_eq_true, decide_eq_true_eq, List.length_cons, List.length_nil, Int.toNat_zero, List.getD_cons_zero]
 omega
theorem rm_isText {S : StoV} {t : List UInt8} (hS : S.texts = [t]) {k : Nat} (hk : k ≤ t.length) : (decide ((rm k).kind = 6) && validB S (rm k)) = true := by rw [rm_valid hS hk]; rfl
theorem lay_1 {T : List UInt8} (h : T.length ≤ 60) : layO S1 T (rm 60) = (rm T.length, 0) ∧ layS S1 T (rm 60) = S2 T := by
 have h3 : ¬ ((rm 60).len < T.length) := by show ¬ ((60 : Nat) : Int) < T.length; omega
 have hE : writeE S1 (rm 60) 0 T = 0 := by
  unfold writeE
  rw [if_pos (rm_isText (t := List.replicate 60 0) rfl (by simp)), if_neg]
  have e3 : (rm 60).len = 60 := rfl
  rw [e3]; omega
 have hW : writeS S1 (rm 60) 0 T = S2 T := by
  unfold writeS
  rw [if_pos hE]
  show StoV.mk 491 ([List.replicate 60 (0 : UInt8)].set 0 ((List.replicate 60 (0 : UInt8)).take 0 ++ T ++ (List.replicate 60 (0 : UInt8)).drop (0 + 0 + T.length))) [] [] [] [] = _
  rw [List.take_zero, List.nil_append, Nat.zero_add]; rfl
 have hP : partE (S2 T) (rm 60) 0 T.length = 0 := by
  unfold partE
  rw [rm_valid (S := S2 T) rfl (by rw [S2_len h]; omega)]
  rw [if_pos (by rfl), if_neg]
  have e3 : (rm 60).len = 60 := rfl
  rw [e3]; omega
 refine ⟨?_, ?_⟩
 ·
  unfold layO
  rw [if_neg dD, if_neg dD, if_neg h3, hW, hP]
  unfold partO
  rw [if_pos hP]; rfl
 ·
  unfold layS
  rw [if_neg dD, if_neg dD, if_neg h3, hW]
theorem bytes_2 {T : List UInt8} (h : T.length ≤ 60) : bytesO (S2 T) (rm T.length) = T := by
 unfold bytesO
 rw [if_pos (rm_isText (S := S2 T) rfl (by rw [S2_len h]; exact h))]
 show ((T ++ (List.replicate 60 (0 : UInt8)).drop T.length).drop 0).take (T.length) = T
 rw [List.drop_zero, List.take_left']
 rfl
theorem num_valid {S : StoV} {k n : Int} (hk : k = 1 ∨ k = 2) : validB S (numOb k n) = true := by
 unfold validB
 have e : (numOb k n).kind = k := rfl
 rw [e, if_neg oO, if_neg oO, if_neg oO]
def s_cvs : List UInt8 := [99, 118, 115]
def s_cvi : List UInt8 := [99, 118, 105]
def s_cvr : List UInt8 := [99, 118, 114]
theorem do_cvs {k n : Int} (hk : k = 1 ∨ k = 2) {T : List UInt8} (hT : conT S1 (numOb k n) = T) (h : T.length ≤ 60) : doO S1 s_cvs [numOb k n, rm 60] = ([rm T.length], 0) ∧ doS S1 s_cvs [numOb k n, rm 60] = S2 T := by
  have hb : ¬ doBad S1 s_cvs [numOb k n, rm 60] := by
    intro q
    rcases q with q | q | q
    · exact absurd q dD
    · exact q rfl
    · simp only [List.any_cons, List.any_nil, num_valid hk, rm_valid (S := S1) (t := List.replicate 60 0) rfl (show 60 ≤ _ by simp), Bool.not_true, Bool.or_false] at q
      cases q
  obtain ⟨l1, l2⟩ := lay_1 h
  have e0 : aL [numOb k n, rm 60] 0 = numOb k n := rfl
  have e1 : aL [numOb k n, rm 60] 1 = rm 60 := rfl
  refine ⟨?_, ?_⟩
  · unfold doO; rw [if_neg hb, if_neg dD, if_pos (by rfl), e0, e1, hT, l1]; rfl
  · unfold doS; rw [if_neg hb, if_neg dD, if_pos (by rfl), e0, e1, hT, l2]
theorem do_una {T : List UInt8} (h : T.length ≤ 60) {s : List UInt8} (hs : s = s_cvi ∨ s = s_cvr) : doO (S2 T) s [rm T.length] = (oneL (unaO (S2 T) s (rm T.length)), (unaO (S2 T) s (rm T.length)).2) ∧ doS (S2 T) s [rm T.length] = S2 T := by
  have hk : known s = 1 := by rcases hs with rfl | rfl <;> rfl
  have hb : ¬ doBad (S2 T) s [rm T.length] := by
    intro q
    rcases q with q | q | q
    · omega
    · rw [hk] at q; exact q rfl
    · simp only [List.any_cons, List.any_nil, rm_valid (S := S2 T) (k := T.length) rfl (by rw [S2_len h]; exact h), Bool.not_true, Bool.or_false] at q
      cases q
  have e0 : aL [rm T.length] 0 = rm T.length := rfl
  refine ⟨?_, ?_⟩
  · unfold doO; rw [if_neg hb, if_pos hk, e0]
  · unfold doS unaS; rw [if_neg hb, if_pos hk, if_neg]
    intro q
    rcases hs with rfl | rfl
    · exact q.2.2.1 rfl
    · exact q.2.2.2.1 rfl
theorem num_2 {T : List UInt8} (h : T.length ≤ 60) {t : TokR} (ht : tokenL T = t) (h1 : t.ok = true) (h2 : t.e = 0) : numO (S2 T) (rm T.length) = (numOb (if t.kind = 1 then 1 else 2) t.n, 0) := by
 unfold numO
 rw [if_neg (show ¬ ((rm T.length).kind = 1 ∨ (rm T.length).kind = 2) from (show ¬ ((6 : Int) = 1 ∨ (6 : Int) = 2) by decide)), if_pos (show (rm T.length).kind = 6 from rfl), if_pos (show readB (S2 T) (rm T.length) = true from rfl), bytes_2 h, ht, if_pos h1, if_pos h2]; rfl
theorem back_int {T : List UInt8} (h : T.length ≤ 60) {n : Int} (ht : tokenL T = tokInt n) : unaO (S2 T) s_cvi (rm T.length) = (numOb 1 n, 0) := by
 have hn := num_2 h ht rfl rfl
 show wholeO (S2 T) (rm T.length) = _
 unfold wholeO
 rw [hn]; rfl
theorem back_real {T : List UInt8} (h : T.length ≤ 60) {n : Int} (ht : tokenL T = tokReal n) : unaO (S2 T) s_cvr (rm T.length) = (numOb 2 n, 0) := by
 have hn := num_2 h ht rfl rfl
 show realO (S2 T) (rm T.length) = _
 unfold realO
 rw [hn]; rfl
theorem conT_int (S : StoV) (n : Int) : conT S (numOb 1 n) = decL n := by
 unfold conT
 rw [if_pos (num_valid (.inl rfl)), if_pos (by rfl)]; rfl
theorem conT_real (S : StoV) (n : Int) : conT S (numOb 2 n) = realL (norm n) := by
 unfold conT
 rw [if_pos (num_valid (.inr rfl)), if_neg (show ¬ (numOb 2 n).kind = 1 from (show ¬ ((2 : Int) = 1) by decide)), if_pos (show (numOb 2 n).kind = 2 from rfl)]; rfl
end
section
def NoF : Nat → Prop := fun _ => False
theorem freeN : FreeC NoF := ⟨id, id⟩
theorem Chg.none {F : Nat → Prop} {w w1 : World} (h : Chg NoF F w w1) : Below w.heap.size w w1 := h.below (Nat.le_refl _) fun g hg => hg.elim
theorem vnf_of {α : Type} {L : Lay α} {w : World} {p : Option Addr} {n c : Nat} {l : List α} {F : Nat → Prop} (hr : RowM L w p l) (hn : ∀ g, (Value.slice p n c).ownBlock = some g → ¬ F g) : 0 < l.length → ¬ F (pA p).block := fun h0 => hn _ (by rw [hr.isp h0]; rfl)
theorem law10_answers (w : World) (hE : EnvC w) : Calls Tryz.prog 9 #[] w fun e w' => e = .returned (.bool true) ∧ Below w.heap.size w w' := by
 refine W.enter func9 rfl ntmps9 (Nat.le_of_ble_eq_true rfl) ?_
 have hB0 := Below.refl (w.heap.size) w
 refine W.sr <| WL.z rfl rfl ?_
 refine W.sr <| WL.call hb6 rfl rfl ((sto_New 50 _ dD dD)) (fun r w1 hw1 => ?_)
 obtain ⟨hB1, b, F, rfl, hst1, hge1⟩ := hw1
 have hB1' := Below.trans hB0 hB1
 refine WL.m rfl rfl <| WL.p (.ext rfl rfl) rfl <| WL.p (.ext rfl rfl) rfl <| WL.a rfl rfl <| WL.z rfl rfl ?_
 refine W.sr <| WL.m rfl rfl <| ?_
 refine WL.p (.buildL (ps := _) blt27 rfl rfl rfl pS) rfl ?_
 refine WL.call hb23 rfl rfl ((conv_Text b F (S0 50) (numOb 1 (-5)) _ hst1 (sok_0 50 dD dD) (hE.below hB1') dD)) (fun r w2 hw2 => ?_)
 have hB3 := btr hB1' hw2.1
 obtain ⟨pb1, cb1, rfl, hbt1, hge2⟩ := hw2.2
 rw [show conT (S0 50) (numOb 1 (-5)) = [45, 53] by rw [conT_int]; decide +kernel] at *
 refine WL.r (Rd.b2s (l := ([45, 53])) underlying35 underlying5 underlying9 rfl (hbt1)) rfl <| WL.p (.eqs rfl rfl) rfl <| WL.z rfl rfl ?_
 refine W.ret (W.ret1 rfl rfl ?_)
 exact ⟨rfl, hB3⟩
set_option maxHeartbeats 3200000 in
theorem lawx_ConvBack (n : Int) (real : Bool) (w : World) (hE : EnvC w) (hn : fitsB n = true) : Calls Tryz.prog 3 #[.int .i32 n, .bool real] w fun e w' => e = .returned (.bool true) ∧ Below w.heap.size w w' := by
 have hf := (fitsB_iff n).1 hn
 refine W.enter func3 rfl ntmps3 (Nat.le_of_ble_eq_true rfl) ?_
 have hB0 := Chg.refl NoF w
 refine W.sr <| WL.z rfl rfl ?_
 refine W.sr <| WL.call hb6 rfl rfl ((sto_New 500 _ dD dD)) (fun r w1 hw1 => ?_)
 obtain ⟨hB1, b, F, rfl, hst1, hge1⟩ := hw1
 have hC1 : Chg NoF F w w1 := (Chg.of_below hB1).grow (fun g hg => .inr (hge1 g hg))
 have hB2 := Chg.trans hB0 hC1
 refine WL.m rfl rfl <| WL.p (.ext rfl rfl) rfl <| WL.p (.ext rfl rfl) rfl <| WL.a rfl rfl <| WL.z rfl rfl ?_
 refine W.sr <| WL.m rfl rfl <| WL.p (.cvt underlying21 underlying3 rfl (i64w oO)) rfl <| ?_
 refine WL.p (.buildL (ps := _) blt27 rfl rfl rfl pS) rfl ?_
 refine WL.alloc zeroValue27 rfl (fun b3 wb3 eb3 hkb3 hub3 hsb3 => ?_)
 have hF4 := Sto.same (w1 := wb3) hst1 (fun k hk hl => hub3.other k oO)
 have hgeb3 : w.heap.size ≤ b3 := by rw [eb3]; exact hB2.size
 have hB5 := Chg.upd hB2 hub3 hgeb3
 have hnf6 : ¬ F b3 := fun hq => by have hq1 := (hst1).lt hq; omega
 refine WL.stL rfl rfl hkb3 isz27 rfl rfl (fun w7 hkw7 huw7 hsw7 => ?_)
 have hF8 := Sto.same (w1 := w7) hF4 (fun k hk hl => huw7.other k (fun e => hnf6 (e ▸ hk)))
 have hB9 := Chg.upd hB5 huw7 oO
 refine WL.nil <| ?_
 refine W.sr <| WL.z rfl rfl ?_
 refine W.cut (α := Int × List UInt8) (fun t => [(4, .bool false), (5, .pointer (some ⟨b, 0, none⟩)), (7, .pointer (some ⟨b3, 0, none⟩)), (8, .string (bs t.2))]) (fun t w' => Sto w' b F (S0 500) ∧ Blk w' b3 (objV (numOb t.1 n)).toArray 27 ∧ Chg NoF F w w' ∧ (t = (2, s_cvr) ∨ t = (1, s_cvi))) ?_ (fun t w1 hR => ?_)
 refine W.sr <| WL.m rfl rfl <| WL.nil <| ?_
 refine W.cond rfl (fun h10 => ?_) (fun h10 => ?_)
 refine W.sr <| WL.p (.fa underlying27 rfl sizeOf3 dD rfl) rfl <| WL.st sizeOf3 rfl rfl rfl hkw7 oD (fun w11 hkw11 huw11 hsw11 => ?_)
 have hkw11 : Blk w11 b3 _ _ := hkw11
 have huw11 : Upd b3 _ _ := huw11
 have hF12 := Sto.same (w1 := w11) hF8 (fun k hk hl => huw11.other k (fun e => hnf6 (e ▸ hk)))
 have hB13 := Chg.upd hB9 huw11 oO
 refine WL.nil <| ?_
 refine W.reg <| WL.z rfl rfl ?_
 exact ⟨(2, s_cvr), ⟨rfl, rfl, rfl, rfl, trivial⟩, hF12, hkw11, hB13, .inl rfl⟩
 refine W.skip ?_
 exact ⟨(1, s_cvi), ⟨rfl, rfl, rfl, rfl, trivial⟩, hF8, hkw7, hB9, .inr rfl⟩
 obtain ⟨kd, nm⟩ := t
 obtain ⟨hst2, hkO, hB2x, hcs⟩ := hR
 obtain ⟨T, hT⟩ : ∃ T, T = conT S1 (numOb kd n) := ⟨_, rfl⟩
 have hkd : kd = 1 ∨ kd = 2 := by rcases hcs with h | h <;> cases h <;> simp
 have hTl : T.length ≤ 60 := by
  rcases hcs with h | h <;> cases h
  rw [hT, conT_real]; have := (c_real n hn).2; omega
  rw [hT, conT_int]; have := c_len n hn; omega
 have hback : unaO (S2 T) nm (rm T.length) = (numOb kd n, 0) := by
  rcases hcs with h | h <;> cases h
  exact back_real hTl (by rw [hT, conT_real]; exact (c_real n hn).1)
  exact back_int hTl (by rw [hT, conT_int]; exact c_tok n hn)
 have hnm : nm = s_cvi ∨ nm = s_cvr := by rcases hcs with h | h <;> cases h <;> simp
 have hnt : nm ≠ s_type := by rcases hnm with rfl | rfl <;> decide
 obtain ⟨d1, d2⟩ := do_cvs hkd hT.symm hTl
 obtain ⟨u1, u2⟩ := do_una hTl hnm
 rw [hback] at u1
 refine W.sr <| WL.m rfl rfl <| WL.c1 hb7 rfl rfl ((sto_String b F (S0 500) 60 _ hst2 (sok_0 500 dD dD) dD)) (fun w14 hw14 => ?_)
 obtain ⟨F15, hstF15, hCF15, hxF15⟩ := Chg.open hw14
 have hnf16 := Chg.nf hCF15 hnf6 hkO.lt
 have hk17 := Blk.chg hkO hCF15 hnf6
 have hB18 := Chg.trans hB2x hCF15
 have hst1b : Sto w14 b F15 S1 := hstF15
 refine WL.m rfl rfl <| WL.p (.ext rfl rfl) rfl <| WL.p (.iis (0) (.ext rfl rfl) (by rfl)) rfl <| WL.alloc zeroValue27 rfl (fun b19 wb19 eb19 hkb19 hub19 hsb19 => ?_)
 have hF20 := Sto.same (w1 := wb19) hst1b (fun k hk hl => hub19.other k oO)
 have hl22 : b3 < b19 := by rw [eb19]; exact hk17.lt
 have hk21 := hk17.upd hub19 (Nat.ne_of_lt hl22)
 have hgeb19 : w.heap.size ≤ b19 := by rw [eb19]; exact hB18.size
 have hB23 := Chg.upd hB18 hub19 hgeb19
 have hnf24 : ¬ F15 b19 := fun hq => by have hq1 := (hst1b).lt hq; omega
 refine WL.stL rfl rfl hkb19 isz27 rfl rfl (fun w25 hkw25 huw25 hsw25 => ?_)
 have hF26 := Sto.same (w1 := w25) hF20 (fun k hk hl => huw25.other k (fun e => hnf24 (e ▸ hk)))
 have hk27 := hk21.up huw25
 have hB28 := Chg.upd hB23 huw25 oO
 refine WL.z rfl rfl ?_
 refine W.sr <| WL.m rfl rfl <| WL.r (Rd.ldA rfl hk27 underlying27 rfl isz27) rfl <| WL.r (Rd.ldA rfl hkw25 underlying27 rfl isz27) rfl <| WL.bslM (L := objL) (ps := _) ([numOb kd n, rm 60]) underlying30 sizeOf27 zeroValue27 rfl rfl rfl rfl rfl (by first | rfl | decide) rfl rfl (fun b29 wb29 eb29 hob29 hub29 hsb29 => ?_)
 have hF30 := Sto.same (w1 := wb29) hF26 (fun k hk hl => hub29.other k oO)
 have hl32 : b3 < b29 := by rw [eb29]; exact hk27.lt
 have hk31 := hk27.upd hub29 (Nat.ne_of_lt hl32)
 have hl34 : b19 < b29 := by rw [eb29]; exact hkw25.lt
 have hk33 := hkw25.upd hub29 (Nat.ne_of_lt hl34)
 have hgeb29 : w.heap.size ≤ b29 := by rw [eb29]; exact hB28.size
 have hB35 := Chg.upd hB28 hub29 hgeb29
 have hnf36 : ¬ F15 b29 := fun hq => by have hq1 := (hF26).lt hq; omega
 have hleb29 : b29 ≤ wb29.heap.size := by omega
 refine WL.call hb8 rfl rfl ((conv_Do b F15 S1 s_cvs _ [numOb kd n, rm 60] _ _ hF30 sok_1 (hE.chg hB35 freeN) (hE.free hB35 freeN) (hob29).rowp (fun _ => hnf36) (show (2 : Nat) ≤ _ by decide) (show (0 : Nat) ≤ _ by decide) dD (fun x hx => by rcases List.mem_cons.1 hx with rfl | hx; exact ⟨by show _ ≤ n; omega, by show n ≤ _; omega⟩; rcases List.mem_cons.1 hx with rfl | hx; exact ⟨by decide, by decide⟩; cases hx))) (fun r w37 hw37 => ?_)
 obtain ⟨v3, F3, rfl, ho3, hn3, hst3, hC3⟩ := hw37
 rw [d1] at ho3
 have ho3 : OwnM objL 27 _ w37 v3 [rm T.length] := ho3
 rw [d2] at hst3
 obtain ⟨p3, c3, rfl, hrow3, -⟩ := ho3.row
 have hvn3 := vnf_of hrow3 hn3
 have hnf38 := Chg.nf hC3 hnf16 hk31.lt
 have hnf39 := Chg.nf hC3 hnf24 hk33.lt
 have hk41 := Blk.chg hk31 hC3 hnf16
 have hk42 := Blk.chg hk33 hC3 hnf24
 have hB43 := Chg.trans hB35 hC3
 refine WL.m rfl rfl <| WL.p (.ext rfl rfl) rfl <| WL.p (.iis (0) (.ext rfl rfl) (by rw [d1])) rfl <| WL.a rfl rfl <| WL.z rfl rfl ?_
 refine W.seq <| W.sr <| WL.c1 hb9 rfl rfl ((law10_answers _ (hE.chg hB43 freeN))) (fun w44 hw44 => ?_)
 have hF45 := Sto.same (w1 := w44) hst3 (fun k hk hl => hw44.block k hl)
 have hk46 := hk41.below hw44 hk41.lt
 have hk47 := hk42.below hw44 hk42.lt
 have hv48 := RowM.below hrow3 hw44 (fun h0 => hrow3.lt h0)
 have hB49 := Chg.low hB43 hw44
 refine WL.p (.not rfl) rfl <| WL.m rfl rfl <| WL.gy rfl rfl rfl rfl <| WL.m rfl rfl <| WL.gy rfl rfl rfl rfl <| WL.p (.neq rfl rfl) rfl <| WL.p (.pkF rfl rfl rfl) rfl <| WL.m rfl rfl <| WL.gy rfl rfl rfl rfl <| WL.m rfl rfl <| WL.gy rfl rfl rfl rfl <| WL.p (.neq rfl rfl) rfl <| WL.p (.pkF rfl rfl rfl) rfl <| WL.m rfl rfl <| WL.gy rfl rfl rfl rfl <| WL.m rfl rfl <| WL.gy rfl rfl rfl rfl <| WL.p (.iis (1) (.lenS underlying30 rfl) (by rfl)) rfl <| WL.gy rfl rfl rfl rfl <| WL.p (.neq rfl rfl) rfl <| WL.p (.pkF rfl rfl rfl) rfl <| WL.nil <| ?_
 refine W.condF rfl rfl ?_
 refine W.skip <| W.sr <| WL.m rfl rfl <| WL.m rfl rfl <| WL.m rfl rfl <| WL.p (.ixm underlying30 sizeOf27 rfl rfl (hv48.isp (by first | omega | (simp only [List.length_cons, List.length_nil]; omega))) (0) (rfl) (Nat.zero_lt_one)) rfl <| WL.r (Rd.ldS underlying27 rfl isz27 hv48 (0) (by first | omega | (simp only [List.length_cons, List.length_nil]; omega)) rfl) rfl <| WL.bslM (L := objL) (ps := _) ([rm T.length]) underlying30 sizeOf27 zeroValue27 rfl rfl rfl rfl rfl (by first | rfl | decide) rfl rfl (fun b50 wb50 eb50 hob50 hub50 hsb50 => ?_)
 have hF51 := Sto.same (w1 := wb50) hF45 (fun k hk hl => hub50.other k oO)
 have hl53 : b3 < b50 := by rw [eb50]; exact hk46.lt
 have hk52 := hk46.upd hub50 (Nat.ne_of_lt hl53)
 have hl55 : b19 < b50 := by rw [eb50]; exact hk47.lt
 have hk54 := hk47.upd hub50 (Nat.ne_of_lt hl55)
 have hvl57 := fun h0 => eb50 ▸ hv48.lt h0
 have hv56 := RowM.upd hv48 hub50 (fun h0 => Nat.ne_of_lt (hvl57 h0))
 have hgeb50 : w.heap.size ≤ b50 := by rw [eb50]; exact hB49.size
 have hB58 := Chg.upd hB49 hub50 hgeb50
 have hnf59 : ¬ F3 b50 := fun hq => by have hq1 := (hF45).lt hq; omega
 have hleb50 : b50 ≤ wb50.heap.size := by omega
 refine WL.call hb8 rfl rfl ((conv_Do b F3 (S2 T) nm _ [rm T.length] _ _ hF51 (sok_2 hTl) (hE.chg hB58 freeN) (hE.free hB58 freeN) (hob50).rowp (fun _ => hnf59) (show (1 : Nat) ≤ _ by decide) (show (0 : Nat) ≤ _ by decide) hnt (fun x hx => by rcases List.mem_cons.1 hx with rfl | hx; exact ⟨show (_ : Int) ≤ 0 by decide, show (0 : Int) ≤ _ by decide⟩; cases hx))) (fun r w60 hw60 => ?_)
 obtain ⟨v4, F4, rfl, ho4, hn4, hst4, hC4⟩ := hw60
 rw [u1] at ho4
 have ho4 : OwnM objL 27 _ w60 v4 [numOb kd n] := ho4
 obtain ⟨p4, c4, rfl, hrow4, -⟩ := ho4.row
 have hvn4 := vnf_of hrow4 hn4
 have hnf61 := Chg.nf hC4 hnf38 hk52.lt
 have hnf62 := Chg.nf hC4 hnf39 hk54.lt
 have hk64 := Blk.chg hk52 hC4 hnf38
 have hnf67 := fun h0 => Chg.nf hC4 (hvn3 h0) (hv56.lt h0)
 have hB68 := Chg.trans hB58 hC4
 refine WL.m rfl rfl <| WL.p (.ext rfl rfl) rfl <| WL.p (.iis (0) (.ext rfl rfl) (by rw [u1])) rfl <| WL.a rfl rfl <| WL.z rfl rfl ?_
 refine W.seq <| W.regQ mixed kR ?_
 refine WQ.p (.mv rfl) rfl <| WQ.p (.eql rfl rfl) rfl <| WQ.p (.mv rfl) rfl <| WQ.gy rfl rfl rfl rfl <| WQ.p (.mv rfl) rfl <| WQ.gy rfl rfl rfl rfl <| WQ.p (.iis (1) (.lenS underlying30 rfl) (by rfl)) rfl <| WQ.gy rfl rfl rfl rfl <| WQ.p (.eql rfl rfl) rfl <| WQ.p (.pkT rfl rfl rfl) rfl <| WQ.p (.mv rfl) rfl <| WQ.gy rfl rfl rfl rfl <| WQ.p (.mv rfl) rfl <| WQ.gy rfl rfl rfl rfl <| WQ.p (.ixm underlying30 sizeOf27 rfl rfl (hrow4.isp (by first | omega | (simp only [List.length_cons, List.length_nil]; omega))) (0) (rfl) (Nat.zero_lt_one)) rfl <| WQ.gy rfl rfl rfl rfl <| WQ.r (fun m => Rd.ldS underlying27 rfl isz27 (hrow4.drewN m) (0) (by first | omega | (simp only [List.length_cons, List.length_nil]; omega)) rfl) rfl <| WQ.gy rfl rfl rfl rfl <| WQ.r (fun m => Rd.ldA rfl hk64 underlying27 rfl isz27) rfl <| WQ.gy rfl rfl rfl rfl <| WQ.p (.eqAgg rfl rfl eg27 (eqA27 _ _ _ _ _ _ _ _ _ _ _ _ _ _ _ _)) rfl <| WQ.p (.pkT rfl rfl rfl) rfl <| WQ.p (.as rfl) rfl <| WQ.nil (fun w69 dw69 => ?_)
 have hB75 := Chg.drew hB68 dw69
 refine W.ret (W.ret1 rfl rfl ?_)
 exact ⟨rbE (by simp), (hB75).none⟩
end
section
open Go.ChangeShapes Go.WideShapes Go.ChangeAt Go.RowKit
theorem own : ownKnob Tryz.prog.godebug = none := by kernel_rfl
def putCells (cs : Array Value) : Obj → Obj
 | .cells _ t frozen => .cells cs t frozen
 | o => o
def litCell : DataW Unit → Value
 | .lit (.int k z) => .int k z
 | .lit (.string s) => .string ⟨s.toArray⟩
 | _ => .bool false
def dataCells : DataW Unit → Array Value
 | .agg ps => (ps.map litCell).toArray
 | _ => #[]
def rangeCells : Array Value := #[.int .u8 128, .int .u8 191, .int .u8 160, .int .u8 191, .int .u8 128, .int .u8 159, .int .u8 144, .int .u8 191, .int .u8 128, .int .u8 143, .int .u8 0, .int .u8 0, .int .u8 0, .int .u8 0, .int .u8 0, .int .u8 0, .int .u8 0, .int .u8 0, .int .u8 0, .int .u8 0, .int .u8 0, .int .u8 0, .int .u8 0, .int .u8 0, .int .u8 0, .int .u8 0, .int .u8 0, .int .u8 0, .int .u8 0, .int .u8 0, .int .u8 0, .int .u8 0]
def firstCells : Array Value := (Go.Pinned.utf8FirstZ.map fun (n : Nat) => Value.int .u8 (n : Int)).toArray
noncomputable def low : Nat := (World.holding Tryz.prog default ⟨#[], #[], []⟩).heap.size
noncomputable def base0 (os : Os) : World := World.holding Tryz.prog os ⟨#[.cells Lib.caseCells5 (Tryz.lays203_ren.t 208)], #[], []⟩
/-- a world for a witness: the settled one, the listed variables holding what their initialisers lay -/
noncomputable def laidWorld (os : Os) : World :=
 { base0 os with heap := ((((((((base0 os).heap.modify 6 (putCells (dataCells Rows.laid_math_bits_deBruijn32tab))).modify 7 (putCells (dataCells Rows.laid_math_bits_deBruijn64tab))).modify 2 (putCells (dataCells Rows.laid_internal_strconv_uint64pow10))).modify 0 (putCells (dataCells Rows.laid_mezzotint_conv_types))).modify 5 (putCells rangeCells)).modify 1 (putCells #[.slice (some ⟨low, 0, none⟩) 336 336])).modify 4 (putCells firstCells)) }
theorem env_of {W : World} (h : laidMetH Tryz.prog Rows.convBackRow.laid W) (_hS : W.ShapedOpen Tryz.prog) : EnvC W := by
 have h1 : laidMet Tryz.prog Rows.convBackRow.laid W := by
  rw [MakeChecks.laidMetH_plain _ _ _ kR] at h; exact h
 exact ⟨Lib.tabIs_of_head (g := 2) (zs := Lib.pow10Tab) kR kR underlying167 underlying82 kR kR h1.tail.tail,
  Lib.tabIs_of_head (g := 7) kR kR underlying204 underlying5 kR kR h1.tail⟩
theorem wf_i32 {n : Int} (h : (Lit.int .i32 n).wf = true) : fitsB n = true := by
 have : -2147483648 ≤ n ∧ n ≤ 2147483647 := by simpa [Lit.wf, IntKind.min, IntKind.max, IntKind.bits, IntKind.signed] using h
 exact (fitsB_iff n).2 this
theorem law_ConvBack (n : Int) (real : Bool) (w : World) (hE : EnvC w) (hn : (Lit.int .i32 n).wf = true) : Calls Tryz.prog 3 #[.int .i32 n, .bool real] w fun e w' => e = .returned (.bool true) ∧ Below w.heap.size w w' := lawx_ConvBack n real w hE (wf_i32 hn)
theorem laid_swap {P : Program} {w : World} {x y : String × DataW Unit} : ∀ (l : List (String × DataW Unit)) (ps : List MemPlace), DataW.LaidVars P w (l ++ [x, y]) ps → ∃ qs, DataW.LaidVars P w (l ++ [y, x]) qs ∧ qs.Perm ps
 | [], ps, h => by
  obtain ⟨n1, d1⟩ := x
  obtain ⟨n2, d2⟩ := y
  obtain ⟨g, t, cs, fu, p, q, h1, h2, h3, h4, ⟨g', t', cs', fu', p', q', h1', h2', h3', h4', h5', rfl⟩, rfl⟩ := h
  obtain rfl : q' = [] := h5'
  refine ⟨_, ⟨g', t', cs', fu', p', _, h1', h2', h3', h4', ⟨g, t, cs, fu, p, [], h1, h2, h3, h4, rfl, rfl⟩, rfl⟩, ?_⟩
  simp only [List.append_nil]
  exact List.perm_append_comm
 | (n, d) :: l, ps, h => by
  obtain ⟨g, t, cs, fu, p, q, h1, h2, h3, h4, h5, rfl⟩ := h
  obtain ⟨qs, hq, hp⟩ := laid_swap l q h5
  exact ⟨_, ⟨g, t, cs, fu, p, qs, h1, h2, h3, h4, hq, rfl⟩, List.Perm.append_left _ hp⟩
theorem laidMet_swap {P : Program} {w : World} {x y : String × DataW Unit} (l : List (String × DataW Unit)) (h : laidMet P (l ++ [x, y]) w) : laidMet P (l ++ [y, x]) w := by
 obtain ⟨ps, h1, h2, h3⟩ := h
 obtain ⟨qs, hq, hp⟩ := laid_swap l ps h1
 exact ⟨qs, hq, hp.symm.nodup h2, fun b off hm => h3 b off (hp.mem_iff.1 hm)⟩
theorem laid_all (os : Os) (args : Array Value) : laidMet Tryz.prog Rows.convBackRow.laid ((laidWorld os).forCall (fun _ _ => 0) ⟨#[], args, []⟩).memory :=
  laidMet_swap [("math/bits.deBruijn32tab", Rows.laid_math_bits_deBruijn32tab), ("math/bits.deBruijn64tab", Rows.laid_math_bits_deBruijn64tab), ("internal/strconv.uint64pow10", Rows.laid_internal_strconv_uint64pow10), ("unicode/utf8.acceptRanges", Rows.laid_unicode_utf8_acceptRanges), ("mezzotint/conv.types", Rows.laid_mezzotint_conv_types)]
    (by
      have h := laidMet_with_case (ρ := Tryz.lays203_ren) { Tryz.lays203 with } kR ⟨by kernel_rfl, by kernel_rfl, by kernel_rfl, by kernel_rfl, by kernel_rfl, by kernel_rfl⟩
        (w := ((laidWorld os).forCall (fun _ _ => 0) ⟨#[], args, []⟩).memory)
        (l := [("math/bits.deBruijn32tab", Rows.laid_math_bits_deBruijn32tab), ("math/bits.deBruijn64tab", Rows.laid_math_bits_deBruijn64tab), ("internal/strconv.uint64pow10", Rows.laid_internal_strconv_uint64pow10), ("unicode/utf8.acceptRanges", Rows.laid_unicode_utf8_acceptRanges), ("mezzotint/conv.types", Rows.laid_mezzotint_conv_types), ("unicode/utf8.first", Rows.laid_unicode_utf8_first)])
        10 kR kR kR low (Tryz.lays203_ren.t 208) (dT kR) kR kR kR
      rw [← Pinned.caseRanges_eq] at h
      exact h)
end
section
open Go.ChangeShapes Go.WideShapes Go.ChangeAt Go.RowKit
open Go.ChangeMaps (open_string shut_string)
set_option maxRecDepth 100000 in
theorem contract_ConvBack (H : Type) (enc : TypeId × Value → H) (W : World) (base : Nat) (args : Array Value) (ds gs : List (DataW H)) (before : List MemPlace)
  (hval : ∀ (j : Nat) t v, Tryz.f3.params[j]? = some t → args[j]? = some v → Value.okWide Tryz.prog W .any base t v)
  (hW : DataW.Whole enc Tryz.prog Tryz.f3.params.toList Rows.convBackSpec.vars false W args.toList ds gs before) (hL : laidMetH Tryz.prog Rows.convBackRow.laid W) (hS : W.ShapedOpen Tryz.prog) :
  Calls Tryz.prog 3 args W fun e W' => ∃ v, e = .returned v ∧ Rows.convBackSpec.post enc Tryz.prog Tryz.f3 false true false false W args v W' := by
 have hW' := hW
 obtain ⟨p, q, hA0, hV, rfl, hfz, hnd⟩ := hW
 have hA : DataW.TrodAll enc Tryz.prog W 0 (fun _ => true) true Tryz.f3.params.toList args.toList ds p := hA0
 rw [Tryz.params3] at hA hval
 obtain ⟨v0, vs0, d0, ds0, p0, q0, hargs0, rfl, rfl, h0, r0⟩ := trodAll_cons hA
 obtain ⟨v1, vs1, d1, ds1, p1, q1, hargs1, rfl, rfl, h1, r1⟩ := trodAll_cons r0
 obtain ⟨rfl, rfl, rfl⟩ := trodAll_nil r1
 obtain rfl : args = #[v0, v1] := by cases args; simp_all
 obtain ⟨rfl, rfl⟩ := trodVars_none hV
 obtain ⟨s0, rfl, rfl, rfl, hm0⟩ := open_int underlying21 (hval 0 21 v0 rfl rfl) h0
 obtain ⟨s1, rfl, rfl, rfl⟩ := open_bool underlying4 (hval 1 4 v1 rfl rfl) h1
 clear hA0
 simp only [List.append_nil] at hW'
 refine (law_ConvBack s0 s1 W (env_of hL hS) hm0).mono fun e W' ⟨he, bel⟩ => ?_
 subst he
 exact ⟨_, rfl, _, _, _, [], _, [], hW', trodAll_mk1 (shut_bool underlying4 _), (trodAll_cons_mk (shut_int underlying21 hm0) (trodAll_cons_mk (shut_bool underlying4 _) trodAll_mk0)), rfl, bel.frame _, fun h => by cases h⟩
theorem laid_met_ConvBack (os : Os) : laidMet Tryz.prog Rows.convBackRow.laid ((laidWorld os).forCall (fun _ _ => 0) ⟨#[], #[.int .i32 0, .bool false], []⟩).memory :=
 laid_all os _
theorem reads_ConvBack (os : Os) {H : Type} (enc : TypeId × Value → H) : ∃ places, DataW.whole enc Tryz.prog ((laidWorld os).forCall (fun _ _ => 0) ⟨#[], #[.int .i32 0, .bool false], []⟩).memory Tryz.f3.params.toList Rows.convBackSpec.vars false #[Value.int .i32 0, .bool false].toList 8 = some ([.lit (.int .i32 0), .lit (.bool false)], [], places) :=
 ⟨[], by kernel_rfl⟩
set_option maxRecDepth 100000 in
theorem lifted_ConvBack (os : Os) (started : os.Started) (H : Type) (enc : TypeId × Value → H) (F : Stop.Interp) :
    ReturnsInHanded {} Tryz.checked os 3 .any ((OpenSpec.ofChange Rows.convBackSpec).preRow enc Tryz.prog Tryz.f3 Rows.convBackRow.domain false Rows.convBackRow.laid) (((OpenSpec.ofChange Rows.convBackSpec).at F).post enc Tryz.prog Tryz.f3 false true false false) := by
  obtain ⟨places, hx⟩ := reads_ConvBack os enc
  refine returnsInHanded_of_row (C := Tryz.checked) (s := OpenSpec.ofChange Rows.convBackSpec) own started kR func3
    (witness_row_atRef (enc := enc) (C := Tryz.checked) false (laidWorld os) #[.int .i32 0, .bool false] rfl kR kR kR
      (OpenSpec.preRow_of_cond 8 hx kR (fun k hk => by cases hk) kR (laid_met_ConvBack os))) ?_
  intro W base args ds gs before hval hW _ hcd _ hL hS _
  exact contract_ConvBack H enc W base args ds gs before hval hW hL hS
theorem said_ConvBack : Rows.ConvBackSaid :=
  OpenClaim.holds_of_cond 3 Tryz.f3 rfl rfl rfl rfl rfl rfl rfl ⟨rfl, rfl, rfl, rfl, rfl⟩ rfl rfl rfl rfl rfl kR func3 kR
    (dT kR) (by unfold Func.isWrapper; first | (rw [if_pos (by decide +kernel)]; kernel_rfl) | (rw [if_neg (by decide +kernel)]; exact ⟨rfl, rfl⟩))
    (fun os started H enc _ F => by rw [OpenClaim.pre_eq_preRow]; exact lifted_ConvBack os started H enc F)
theorem plain_ConvBack (f : FuncId) (fn : Func) (hf : Tryz.pinned.checked.prog.funcNamed "mezzotint/mezzotintlaw10.ConvBack" = some f) (hfn : Tryz.pinned.checked.prog.funcs[f]? = some fn) :
  false = Tryz.pinned.checked.prog.looks [] ∧ ∀ (j : Nat) t, fn.params[j]? = some t → Tryz.pinned.checked.prog.wantsStandIn t = false := by
 obtain rfl : f = 3 := Option.some.inj ((show Tryz.prog.funcNamed "mezzotint/mezzotintlaw10.ConvBack" = some 3 by kernel_rfl).symm.trans hf) |>.symm
 obtain rfl : fn = Tryz.f3 := (Option.some.inj (func3.symm.trans hfn)).symm
 refine ⟨by kernel_rfl, fun j t ht => ?_⟩
 rw [Tryz.params3] at ht
 have hmem := Array.mem_of_getElem? ht
 simp only [List.mem_toArray, List.mem_cons, List.not_mem_nil, or_false] at hmem
 rcases hmem with rfl | rfl
 ·
  exact (show Tryz.prog.wantsStandIn 21 = false by kernel_rfl)
 ·
  exact (show Tryz.prog.wantsStandIn 4 = false by kernel_rfl)
/-- THE CARD -/
theorem ConvBack_holds : Rows.ConvBackCardSaid :=
 Claim7.holds_tied_plain_at .later [] _ _ _ _ said_ConvBack (fun _ h => by cases h) kR (fun _ h => by cases h) convBack_row_tie rfl ⟨rfl, rfl⟩ kR rfl plain_ConvBack kR
#print axioms ConvBack_holds
end
end Go.Proofs.YtopnfojdmeageaaGreatDoor
