/-
  What the claim leans on, part 3: pruned and joined by my own tool out of the texts that stand in wip/ as templates.
-/
import Derived.Test.YtopnfojdmeageaaGreatDoorCl2
namespace Go.Proofs.YtopnfojdmeageaaGreatDoor
open Go.RowKit
open Go.Proofs.Tryz
section
theorem sok_text {S : StoV} (hok : SOk S) (i : Nat) (l : List UInt8) (hl : l.length ≤ 65535) : SOk { S with texts := S.texts.set i l } := by
 refine ⟨hok.free0, by simpa using hok.sum, fun x hx => ?_, hok.li, hok.di⟩
 rcases List.mem_or_eq_of_mem_set hx with h | h
 ·
  exact hok.tx x h
 ·
  rw [h]; exact hl
theorem sok_write {S : StoV} (hok : SOk S) (o : ObjV) (i : Int) (l : List UInt8) : SOk (writeS S o i l) := by
 unfold writeS
 split
 ·
  rename_i hE
  unfold writeE at hE
  split at hE
  ·
   rename_i hv
   obtain ⟨hk, hva⟩ : o.kind = 6 ∧ validB S o = true := by simpa using hv
   obtain ⟨k, f, n, e1, e2, e3, hk2, hb⟩ := valid_text hk hva
   split at hE
   ·
    cases hE
   ·
    refine sok_text hok _ _ ?_
    have h5 := getD_le hok.tx k
    rw [e1, Int.toNat_natCast]
    simp only [List.length_append, List.length_take, List.length_drop]
    omega
  ·
   cases hE
 ·
  exact hok
def layO (S : StoV) (l : List UInt8) (t : ObjV) : ObjV × Int :=
 if t.kind ≠ 6 then (ob0, 16) else if accO S t ≠ 0 then (ob0, 5) else if t.len < l.length then (ob0, 11) else (partO (writeS S t 0 l) t 0 l.length, partE (writeS S t 0 l) t 0 l.length)
def layS (S : StoV) (l : List UInt8) (t : ObjV) : StoV :=
 if t.kind ≠ 6 then S else if accO S t ≠ 0 then S else if t.len < l.length then S else writeS S t 0 l
theorem conv_lay (b : Nat) (F : Nat → Prop) (S : StoV) (p : Option Addr) (l : List UInt8) (c : Nat) (t : ObjV) (w : World) (h : Sto w b F S) (hok : SOk S) (hb : BytesAt w p l) (hnF : 0 < l.length → ¬ F (pA p).block) :
  Calls Tryz.prog 22 #[workV b, .slice p l.length c, .agg (objV t).toArray] w fun e w' => e = .returned (pairV (layO S l t)) ∧ ∃ F1, Sto w' b F1 (layS S l t) ∧ Chg F F1 w w' := by
 refine W.enter func22 rfl ntmps22 (Nat.le_of_ble_eq_true rfl) ?_
 have hB0 := Chg.refl F w
 refine W.sr <| WL.box rfl rfl (fun b1 wb1 eb1 hkb1 hub1 hsb1 => ?_)
 have hF2 := Sto.same (w1 := wb1) h (fun k hk hl => hub1.other k oO)
 have hvl4 := fun h0 => eb1 ▸ hb.lt h0
 have hv3 := bup hb hub1 hvl4
 have hgeb1 : w.heap.size ≤ b1 := by rw [eb1]; exact hB0.size
 have hB5 := Chg.upd hB0 hub1 hgeb1
 have hnf6 : ¬ F b1 := fun hq => by have hq1 := (h).lt hq; omega
 refine WL.box rfl rfl (fun b7 wb7 eb7 hkb7 hub7 hsb7 => ?_)
 have hF8 := Sto.same (w1 := wb7) hF2 (fun k hk hl => hub7.other k oO)
 have hl10 : b1 < b7 := by rw [eb7]; exact hkb1.lt
 have hk9 := hkb1.upd hub7 (Nat.ne_of_lt hl10)
 have hvl12 := fun h0 => eb7 ▸ hv3.lt h0
 have hv11 := bup hv3 hub7 hvl12
 have hgeb7 : w.heap.size ≤ b7 := by rw [eb7]; exact hB5.size
 have hB13 := Chg.upd hB5 hub7 hgeb7
 have hnf14 : ¬ F b7 := fun hq => by have hq1 := (hF2).lt hq; omega
 refine WL.alloc zeroValue27 rfl (fun b15 wb15 eb15 hkb15 hub15 hsb15 => ?_)
 have hF16 := Sto.same (w1 := wb15) hF8 (fun k hk hl => hub15.other k oO)
 have hl18 : b1 < b15 := by rw [eb15]; exact hk9.lt
 have hk17 := hk9.upd hub15 (Nat.ne_of_lt hl18)
 have hl20 : b7 < b15 := by rw [eb15]; exact hkb7.lt
 have hk19 := hkb7.upd hub15 (Nat.ne_of_lt hl20)
 have hvl22 := fun h0 => eb15 ▸ hv11.lt h0
 have hv21 := bup hv11 hub15 hvl22
 have hgeb15 : w.heap.size ≤ b15 := by rw [eb15]; exact hB13.size
 have hB23 := Chg.upd hB13 hub15 hgeb15
 have hnf24 : ¬ F b15 := fun hq => by have hq1 := (hF8).lt hq; omega
 refine WL.z rfl rfl ?_
 refine W.seq <| W.block <| W.sr <| WL.p (.fa underlying27 rfl sizeOf3 dD rfl) rfl <| WL.r (Rd.ld (isAgg3 _) rfl hk19 rfl) rfl <| WL.p (.neq rfl rfl) rfl <| WL.z rfl rfl ?_
 refine W.cond rfl (fun h25 => ?_) (fun h25 => ?_)
 have h25' := ndT h25
 have c1 : t.kind ≠ 6 := by assumption
 refine W.sr <| WL.p (.buildL (ps := _) blt27 rfl rfl rfl pZ) rfl ?_
 refine WL.stL rfl rfl hkb15 isz27 rfl rfl (fun w26 hkw26 huw26 hsw26 => ?_)
 have hF27 := Sto.same (w1 := w26) hF16 (fun k hk hl => huw26.other k (fun e => hnf24 (e ▸ hk)))
 have hB31 := Chg.upd hB23 huw26 oO
 refine WL.z rfl rfl ?_
 refine W.ret (W.retc2 rfl rfl (ldRow hkw26 underlying27 rfl isz27) rfl ?_)
 exact ⟨rvE (by unfold pairV layO; rw [if_pos c1]; rfl), _, by unfold layS; rw [if_pos c1]; exact hF27, hB31⟩
 have h25' := ndF h25
 have c1 : ¬ t.kind ≠ 6 := by simp_all
 refine W.sr <| WL.r (Rd.ldA rfl hk17 underlying72 rfl isz72) rfl <| WL.r (Rd.ldA rfl hk19 underlying27 rfl isz27) rfl <| WL.c1 hb44 rfl rfl ((conv_writable b F S t _ hF16 hok)) (fun w32 hw32 => ?_)
 have hF33 := Sto.same (w1 := w32) hF16 (fun k hk hl => hw32.block k hl)
 have hk34 := hk17.below hw32 hk17.lt
 have hk35 := hk19.below hw32 hk19.lt
 have hk36 := hkb15.below hw32 hkb15.lt
 have hv37 := BytesAt.below hv21 hw32 (fun h0 => hv21.lt h0)
 have hB38 := Chg.low hB23 hw32
 refine WL.p (.not rfl) rfl <| WL.z rfl rfl ?_
 refine W.cond rfl (fun h39 => ?_) (fun h39 => ?_)
 have h39' := (nT h39)
 have c2 : accO S t ≠ 0 := by simp_all
 refine W.sr <| WL.p (.buildL (ps := _) blt27 rfl rfl rfl pZ) rfl ?_
 refine WL.stL rfl rfl hk36 isz27 rfl rfl (fun w40 hkw40 huw40 hsw40 => ?_)
 have hF41 := Sto.same (w1 := w40) hF33 (fun k hk hl => huw40.other k (fun e => hnf24 (e ▸ hk)))
 have hB45 := Chg.upd hB38 huw40 oO
 refine WL.z rfl rfl ?_
 refine W.ret (W.retc2 rfl rfl (ldRow hkw40 underlying27 rfl isz27) rfl ?_)
 exact ⟨rvE (by unfold pairV layO; rw [if_neg c1, if_pos c2]; rfl), _, by unfold layS; rw [if_neg c1, if_pos c2]; exact hF41, hB45⟩
 have h39' := (nF h39)
 have c2 : ¬ accO S t ≠ 0 := by simp_all
 refine W.sr <| WL.m rfl rfl <| WL.p (.lenS underlying35 rfl) rfl <| WL.p (.fa underlying27 rfl sizeOf3 dD rfl) rfl <| WL.r (Rd.ld (isAgg3 _) rfl hk35 rfl) rfl <| WL.p (.gtr rfl rfl) rfl <| WL.z rfl rfl ?_
 refine W.cond rfl (fun h46 => ?_) (fun h46 => ?_)
 have h46' := dT h46
 have c3 : t.len < l.length := by assumption
 refine W.sr <| WL.p (.buildL (ps := _) blt27 rfl rfl rfl pZ) rfl ?_
 refine WL.stL rfl rfl hk36 isz27 rfl rfl (fun w47 hkw47 huw47 hsw47 => ?_)
 have hF48 := Sto.same (w1 := w47) hF33 (fun k hk hl => huw47.other k (fun e => hnf24 (e ▸ hk)))
 have hB52 := Chg.upd hB38 huw47 oO
 refine WL.z rfl rfl ?_
 refine W.ret (W.retc2 rfl rfl (ldRow hkw47 underlying27 rfl isz27) rfl ?_)
 exact ⟨rvE (by unfold pairV layO; rw [if_neg c1, if_neg c2, if_pos c3]; rfl), _, by unfold layS; rw [if_neg c1, if_neg c2, if_pos c3]; exact hF48, hB52⟩
 have h46' := dF h46
 have c3 : ¬ t.len < l.length := by assumption
 refine W.skip <| W.sr <| WL.p (.fa underlying72 rfl sizeOf22 dD rfl) rfl <| WL.r (Rd.ld (isAgg22 _) rfl hk34 rfl) rfl <| WL.r (Rd.ldA rfl hk35 underlying27 rfl isz27) rfl <| WL.m rfl rfl <| WL.c1 hb45 rfl rfl ((sto_Write b F S t 0 p l c _ hF33 hok hv37 hnF oO)) (fun w53 hw53 => ?_)
 obtain ⟨F54, hstF54, hCF54, hxF54⟩ := Chg.open hw53
 have hnf55 := Chg.nf hCF54 hnf6 hk34.lt
 have hnf56 := Chg.nf hCF54 hnf14 hk35.lt
 have hnf57 := Chg.nf hCF54 hnf24 hk36.lt
 have hk58 := Blk.chg hk34 hCF54 hnf6
 have hk59 := Blk.chg hk35 hCF54 hnf14
 have hk60 := Blk.chg hk36 hCF54 hnf24
 have hnf62 := fun h0 => Chg.nf hCF54 (hnF h0) (hv37.lt h0)
 have hB63 := Chg.trans hB38 hCF54
 refine WL.nil <| ?_
 refine W.sr <| WL.p (.fa underlying72 rfl sizeOf22 dD rfl) rfl <| WL.r (Rd.ld (isAgg22 _) rfl hk58 rfl) rfl <| WL.r (Rd.ldA rfl hk59 underlying27 rfl isz27) rfl <| WL.m rfl rfl <| WL.p (.lenS underlying35 rfl) rfl <| WL.c1 hb46 rfl rfl ((sto_Part b F54 (writeS S t 0 l) t 0 l.length _ hstF54 (sok_write hok t 0 l) oO)) (fun w64 hw64 => ?_)
 have hF65 := Sto.same (w1 := w64) hstF54 (fun k hk hl => hw64.block k hl)
 have hk68 := hk60.below hw64 hk60.lt
 have hB70 := Chg.low hB63 hw64
 refine WL.p (.ext rfl rfl) rfl <| WL.p (.ext rfl rfl) rfl <| WL.stL rfl rfl hk68 isz27 rfl rfl (fun w71 hkw71 huw71 hsw71 => ?_)
 have hF72 := Sto.same (w1 := w71) hF65 (fun k hk hl => huw71.other k (fun e => hnf57 (e ▸ hk)))
 have hB76 := Chg.upd hB70 huw71 oO
 refine WL.z rfl rfl ?_
 refine W.ret (W.retc2 rfl rfl (ldRow hkw71 underlying27 rfl isz27) rfl ?_)
 exact ⟨rvE (by unfold pairV layO; rw [if_neg c1, if_neg c2, if_neg c3]; rfl), _, by unfold layS; rw [if_neg c1, if_neg c2, if_neg c3]; exact hF72, hB76⟩
/-- the tables are none of these blocks -/
def FreeC (F : Nat → Prop) : Prop := ¬ F 2 ∧ ¬ F 7
theorem var_lt {w : World} {n : String} {cs : Array Value} {g : Nat} (hg : Tryz.prog.globalNamed n = some g) (h : w.var? Tryz.prog n = some cs) : g < w.heap.size := by
 unfold World.var? at h
 simp only [hg, Option.bind_some] at h
 rcases Nat.lt_or_ge g w.heap.size with h' | h'
 ·
  exact h'
 ·
  rw [Array.getElem?_eq_none h'] at h; cases h
theorem var_block {w w1 : World} {n : String} {cs : Array Value} {g : Nat} (hg : Tryz.prog.globalNamed n = some g) (h : w.var? Tryz.prog n = some cs) (hs : w1.heap[g]? = w.heap[g]?) : w1.var? Tryz.prog n = some cs := by
 unfold World.var? at h ⊢
 simp only [hg, Option.bind_some] at h ⊢
 rw [hs]; exact h
theorem EnvC.chg {F F1 : Nat → Prop} {w w1 : World} (h : EnvC w) (hC : Chg F F1 w w1) (hn : FreeC F) : EnvC w1 :=
 ⟨var_block (g := 2) kR h.pow (hC.block _ (var_lt kR h.pow) hn.1), var_block (g := 7) kR h.deb (hC.block _ (var_lt kR h.deb) hn.2)⟩
theorem EnvC.free {F F1 : Nat → Prop} {w w1 : World} (h : EnvC w) (hC : Chg F F1 w w1) (hn : FreeC F) : FreeC F1 :=
 ⟨hC.nf hn.1 (var_lt kR h.pow), hC.nf hn.2 (var_lt kR h.deb)⟩
theorem radL_low (b : Nat) (hb : 2 ≤ b) (hb2 : b ≤ 36) : ∀ u : Nat, ∀ c ∈ radL b u, c.toNat < 128 := by
 intro u
 have hd : ∀ d : Nat, d < 36 → (dgc true d).toNat < 128 := by
  have : ∀ d : Fin 36, (dgc true d.val).toNat < 128 := by decide
  exact fun d h => this ⟨d, h⟩
 induction u using Nat.strongRecOn with
 | _ u ih =>
  intro c hc
  rcases Nat.lt_or_ge u b with h | h
  ·
   rw [radL_small h] at hc
   rw [List.mem_singleton.1 hc]; exact hd u oO
  ·
   rw [radL_big hb h] at hc
   rcases List.mem_append.1 hc with h1 | h1
   ·
    exact ih (u / b) (Nat.div_lt_self oO oO) c h1
   ·
    rw [List.mem_singleton.1 h1]; exact hd (u % b) (by have := Nat.mod_lt u (show b > 0 by omega); omega)
theorem radL_pow (b : Nat) (hb : 2 ≤ b) : ∀ (k u : Nat), u < 2 ^ k → (radL b u).length ≤ k + 1
 | 0, u, h => by rw [radL_small oO]; simp
 | k + 1, u, h => by
  rcases Nat.lt_or_ge u b with h1 | h1
  ·
   rw [radL_small h1]; simp
  ·
   rw [radL_big hb h1]
   have h2 : u / b < 2 ^ k := by
    have h3 : u / b ≤ u / 2 := Nat.div_le_div_left hb oO
    rw [Nat.pow_succ] at h; omega
   have := radL_pow b hb k (u / b) h2
   simp only [List.length_append, List.length_cons, List.length_nil]; omega
/-- a whole number's 32 bits -/
def u32 (n : Int) : Nat := (n % 4294967296).toNat
theorem u32_lt (n : Int) : u32 n < 4294967296 := by unfold u32; omega
theorem u32_int (n : Int) : (u32 n : Int) = n % 4294967296 := by unfold u32; omega
def radT (n : Int) (b : Nat) : List UInt8 := (radL b (u32 n)).map upC
def radO (S : StoV) (o base t : ObjV) : ObjV × Int :=
 if (o.kind ≠ 1 ∧ o.kind ≠ 2) ∨ base.kind ≠ 1 ∨ t.kind ≠ 6 then (ob0, 16) else if accO S t ≠ 0 then (ob0, 5) else if base.n < 2 ∨ 36 < base.n then (ob0, 11)
 else if base.n = 10 then layO S (conT S o) t else if (wholeO S o).2 ≠ 0 then (ob0, (wholeO S o).2) else layO S (radT (wholeO S o).1.n base.n.toNat) t
def radS (S : StoV) (o base t : ObjV) : StoV :=
 if (o.kind ≠ 1 ∧ o.kind ≠ 2) ∨ base.kind ≠ 1 ∨ t.kind ≠ 6 then S else if accO S t ≠ 0 then S else if base.n < 2 ∨ 36 < base.n then S
 else if base.n = 10 then layS S (conT S o) t else if (wholeO S o).2 ≠ 0 then S else layS S (radT (wholeO S o).1.n base.n.toNat) t
theorem s_FormatUintI (u : Nat) (bi : Int) (hq1 : 2 ≤ bi) (hq2 : bi ≤ 36) (hq3 : bi ≠ 10) (hu : u < 18446744073709551616) (w : World) (hE : EnvC w) :
  Calls Tryz.prog 51 #[.int .u64 (u : Int), .int .i64 bi] w fun e w' => e = .returned (.string (bs (radL bi.toNat u))) ∧ Below w.heap.size w w' := by
 obtain ⟨n, rfl⟩ := Int.eq_ofNat_of_zero_le (show 0 ≤ bi by omega)
 rw [Int.toNat_natCast]
 exact s_FormatUint u n oO oO oO hu w hE
set_option maxHeartbeats 1600000 in
theorem conv_radix (b : Nat) (F : Nat → Prop) (S : StoV) (o base t : ObjV) (w : World) (h : Sto w b F S) (hok : SOk S) (hE : EnvC w) (hn : FreeC F) (hon : -9223372036854775808 ≤ o.n ∧ o.n ≤ 9223372036854775807) :
  Calls Tryz.prog 24 #[workV b, .agg (objV o).toArray, .agg (objV base).toArray, .agg (objV t).toArray] w fun e w' => e = .returned (pairV (radO S o base t)) ∧ ∃ F1, Sto w' b F1 (radS S o base t) ∧ Chg F F1 w w' := by
 refine W.enter func24 rfl ntmps24 (Nat.le_of_ble_eq_true rfl) ?_
 have hB0 := Chg.refl F w
 refine W.sr <| WL.box rfl rfl (fun b1 wb1 eb1 hkb1 hub1 hsb1 => ?_)
 have hF2 := Sto.same (w1 := wb1) h (fun k hk hl => hub1.other k oO)
 have hgeb1 : w.heap.size ≤ b1 := by rw [eb1]; exact hB0.size
 have hB3 := Chg.upd hB0 hub1 hgeb1
 have hnf4 : ¬ F b1 := fun hq => by have hq1 := (h).lt hq; omega
 refine WL.box rfl rfl (fun b5 wb5 eb5 hkb5 hub5 hsb5 => ?_)
 have hF6 := Sto.same (w1 := wb5) hF2 (fun k hk hl => hub5.other k oO)
 have hl8 : b1 < b5 := by rw [eb5]; exact hkb1.lt
 have hk7 := hkb1.upd hub5 (Nat.ne_of_lt hl8)
 have hgeb5 : w.heap.size ≤ b5 := by rw [eb5]; exact hB3.size
 have hB9 := Chg.upd hB3 hub5 hgeb5
 have hnf10 : ¬ F b5 := fun hq => by have hq1 := (hF2).lt hq; omega
 refine WL.box rfl rfl (fun b11 wb11 eb11 hkb11 hub11 hsb11 => ?_)
 have hF12 := Sto.same (w1 := wb11) hF6 (fun k hk hl => hub11.other k oO)
 have hl14 : b1 < b11 := by rw [eb11]; exact hk7.lt
 have hk13 := hk7.upd hub11 (Nat.ne_of_lt hl14)
 have hl16 : b5 < b11 := by rw [eb11]; exact hkb5.lt
 have hk15 := hkb5.upd hub11 (Nat.ne_of_lt hl16)
 have hgeb11 : w.heap.size ≤ b11 := by rw [eb11]; exact hB9.size
 have hB17 := Chg.upd hB9 hub11 hgeb11
 have hnf18 : ¬ F b11 := fun hq => by have hq1 := (hF6).lt hq; omega
 refine WL.box rfl rfl (fun b19 wb19 eb19 hkb19 hub19 hsb19 => ?_)
 have hF20 := Sto.same (w1 := wb19) hF12 (fun k hk hl => hub19.other k oO)
 have hl22 : b1 < b19 := by rw [eb19]; exact hk13.lt
 have hk21 := hk13.upd hub19 (Nat.ne_of_lt hl22)
 have hl24 : b5 < b19 := by rw [eb19]; exact hk15.lt
 have hk23 := hk15.upd hub19 (Nat.ne_of_lt hl24)
 have hl26 : b11 < b19 := by rw [eb19]; exact hkb11.lt
 have hk25 := hkb11.upd hub19 (Nat.ne_of_lt hl26)
 have hgeb19 : w.heap.size ≤ b19 := by rw [eb19]; exact hB17.size
 have hB27 := Chg.upd hB17 hub19 hgeb19
 have hnf28 : ¬ F b19 := fun hq => by have hq1 := (hF12).lt hq; omega
 refine WL.alloc zeroValue27 rfl (fun b29 wb29 eb29 hkb29 hub29 hsb29 => ?_)
 have hF30 := Sto.same (w1 := wb29) hF20 (fun k hk hl => hub29.other k oO)
 have hl32 : b1 < b29 := by rw [eb29]; exact hk21.lt
 have hk31 := hk21.upd hub29 (Nat.ne_of_lt hl32)
 have hl34 : b5 < b29 := by rw [eb29]; exact hk23.lt
 have hk33 := hk23.upd hub29 (Nat.ne_of_lt hl34)
 have hl36 : b11 < b29 := by rw [eb29]; exact hk25.lt
 have hk35 := hk25.upd hub29 (Nat.ne_of_lt hl36)
 have hl38 : b19 < b29 := by rw [eb29]; exact hkb19.lt
 have hk37 := hkb19.upd hub29 (Nat.ne_of_lt hl38)
 have hgeb29 : w.heap.size ≤ b29 := by rw [eb29]; exact hB27.size
 have hB39 := Chg.upd hB27 hub29 hgeb29
 have hnf40 : ¬ F b29 := fun hq => by have hq1 := (hF20).lt hq; omega
 refine WL.z rfl rfl ?_
 refine W.seq <| W.block <| W.seq <| W.sr <| WL.p (.fa underlying27 rfl sizeOf3 dD rfl) rfl <| WL.r (Rd.ld (isAgg3 _) rfl hk33 rfl) rfl <| WL.p (.neq rfl rfl) rfl <| WL.m rfl rfl <| WL.gd rfl rfl rfl (fun g41 => ?_) (fun g41 => ?_)
 have g41' := ndT g41
 refine WL.p (.fa underlying27 rfl sizeOf3 dD rfl) rfl <| WL.gy rfl rfl rfl g41 <| WL.r (Rd.ld (isAgg3 _) rfl hk33 rfl) rfl <| WL.gy rfl rfl rfl g41 <| WL.p (.neq rfl rfl) rfl <| WL.p (.pkT rfl g41 rfl) rfl <| WL.z rfl rfl ?_
 refine W.cond rfl (fun h42 => ?_) (fun h42 => ?_)
 have h42' := ndT h42
 have c1 : (o.kind ≠ 1 ∧ o.kind ≠ 2) ∨ base.kind ≠ 1 ∨ t.kind ≠ 6 := by simp_all
 have hO : radO S o base t = (ob0, 16) := if_pos c1
 have hT : radS S o base t = S := if_pos c1
 refine W.skip <| W.condT rfl h42 ?_
 refine W.sr <| WL.p (.buildL (ps := _) blt27 rfl rfl rfl pZ) rfl ?_
 refine WL.stL rfl rfl hkb29 isz27 rfl rfl (fun w43 hkw43 huw43 hsw43 => ?_)
 have hF44 := Sto.same (w1 := w43) hF30 (fun k hk hl => huw43.other k (fun e => hnf40 (e ▸ hk)))
 have hB49 := Chg.upd hB39 huw43 oO
 refine WL.z rfl rfl ?_
 refine W.ret (W.retc2 rfl rfl (ldRow hkw43 underlying27 rfl isz27) rfl ?_)
 exact ⟨rvE (by rw [hO]; rfl), _, by rw [hT]; exact hF44, hB49⟩
 have h42' := ndF h42
 refine W.sr <| WL.p (.fa underlying27 rfl sizeOf3 dD rfl) rfl <| WL.r (Rd.ld (isAgg3 _) rfl hk35 rfl) rfl <| WL.p (.neq rfl rfl) rfl <| WL.z rfl rfl ?_
 refine W.cond rfl (fun h50 => ?_) (fun h50 => ?_)
 have h50' := ndT h50
 have c1 : (o.kind ≠ 1 ∧ o.kind ≠ 2) ∨ base.kind ≠ 1 ∨ t.kind ≠ 6 := by simp_all
 have hO : radO S o base t = (ob0, 16) := if_pos c1
 have hT : radS S o base t = S := if_pos c1
 refine W.skip <| W.condT rfl h50 ?_
 refine W.sr <| WL.p (.buildL (ps := _) blt27 rfl rfl rfl pZ) rfl ?_
 refine WL.stL rfl rfl hkb29 isz27 rfl rfl (fun w51 hkw51 huw51 hsw51 => ?_)
 have hF52 := Sto.same (w1 := w51) hF30 (fun k hk hl => huw51.other k (fun e => hnf40 (e ▸ hk)))
 have hB57 := Chg.upd hB39 huw51 oO
 refine WL.z rfl rfl ?_
 refine W.ret (W.retc2 rfl rfl (ldRow hkw51 underlying27 rfl isz27) rfl ?_)
 exact ⟨rvE (by rw [hO]; rfl), _, by rw [hT]; exact hF52, hB57⟩
 have h50' := ndF h50
 refine W.reg <| WL.p (.fa underlying27 rfl sizeOf3 dD rfl) rfl <| WL.r (Rd.ld (isAgg3 _) rfl hk37 rfl) rfl <| WL.p (.neq rfl rfl) rfl <| WL.z rfl rfl ?_
 refine W.cond rfl (fun h58 => ?_) (fun h58 => ?_)
 have h58' := ndT h58
 have c1 : (o.kind ≠ 1 ∧ o.kind ≠ 2) ∨ base.kind ≠ 1 ∨ t.kind ≠ 6 := by simp_all
 have hO : radO S o base t = (ob0, 16) := if_pos c1
 have hT : radS S o base t = S := if_pos c1
 refine W.sr <| WL.p (.buildL (ps := _) blt27 rfl rfl rfl pZ) rfl ?_
 refine WL.stL rfl rfl hkb29 isz27 rfl rfl (fun w59 hkw59 huw59 hsw59 => ?_)
 have hF60 := Sto.same (w1 := w59) hF30 (fun k hk hl => huw59.other k (fun e => hnf40 (e ▸ hk)))
 have hB65 := Chg.upd hB39 huw59 oO
 refine WL.z rfl rfl ?_
 refine W.ret (W.retc2 rfl rfl (ldRow hkw59 underlying27 rfl isz27) rfl ?_)
 exact ⟨rvE (by rw [hO]; rfl), _, by rw [hT]; exact hF60, hB65⟩
 have h58' := ndF h58
 refine W.seq ?_
 have c1 : ¬ ((o.kind ≠ 1 ∧ o.kind ≠ 2) ∨ base.kind ≠ 1 ∨ t.kind ≠ 6) := by simp_all
 refine W.reg <| WL.r (Rd.ldA rfl hk31 underlying72 rfl isz72) rfl <| WL.r (Rd.ldA rfl hk37 underlying27 rfl isz27) rfl <| WL.c1 hb44 rfl rfl ((conv_writable b F S t _ hF30 hok)) (fun w66 hw66 => ?_)
 have hF67 := Sto.same (w1 := w66) hF30 (fun k hk hl => hw66.block k hl)
 have hk68 := hk31.below hw66 hk31.lt
 have hk69 := hk33.below hw66 hk33.lt
 have hk70 := hk35.below hw66 hk35.lt
 have hk71 := hk37.below hw66 hk37.lt
 have hk72 := hkb29.below hw66 hkb29.lt
 have hB73 := Chg.low hB39 hw66
 refine WL.p (.not rfl) rfl <| WL.z rfl rfl ?_
 refine W.cond rfl (fun h74 => ?_) (fun h74 => ?_)
 have h74' := (nT h74)
 have c2 : accO S t ≠ 0 := by simp_all
 have hO : radO S o base t = (ob0, 5) := by unfold radO; rw [if_neg c1, if_pos c2]
 have hT : radS S o base t = S := by unfold radS; rw [if_neg c1, if_pos c2]
 refine W.sr <| WL.p (.buildL (ps := _) blt27 rfl rfl rfl pZ) rfl ?_
 refine WL.stL rfl rfl hk72 isz27 rfl rfl (fun w75 hkw75 huw75 hsw75 => ?_)
 have hF76 := Sto.same (w1 := w75) hF67 (fun k hk hl => huw75.other k (fun e => hnf40 (e ▸ hk)))
 have hB81 := Chg.upd hB73 huw75 oO
 refine WL.z rfl rfl ?_
 refine W.ret (W.retc2 rfl rfl (ldRow hkw75 underlying27 rfl isz27) rfl ?_)
 exact ⟨rvE (by rw [hO]; rfl), _, by rw [hT]; exact hF76, hB81⟩
 have h74' := (nF h74)
 have c2 : ¬ accO S t ≠ 0 := by simp_all
 refine W.sr <| WL.p (.fa underlying27 rfl sizeOf3 dD rfl) rfl <| WL.r (Rd.ld (isAgg3 _) rfl hk70 rfl) rfl <| WL.p (.lss rfl rfl) rfl <| WL.m rfl rfl <| WL.gd rfl rfl rfl (fun g82 => ?_) (fun g82 => ?_)
 have g82' := dF g82
 refine WL.p (.fa underlying27 rfl sizeOf3 dD rfl) rfl <| WL.gy rfl rfl rfl g82 <| WL.r (Rd.ld (isAgg3 _) rfl hk70 rfl) rfl <| WL.gy rfl rfl rfl g82 <| WL.p (.gtr rfl rfl) rfl <| WL.p (.pkF rfl g82 rfl) rfl <| WL.z rfl rfl ?_
 refine W.cond rfl (fun h83 => ?_) (fun h83 => ?_)
 have h83' := dT h83
 refine W.seq ?_
 have c3 : base.n < 2 ∨ 36 < base.n := by omega
 have hO : radO S o base t = (ob0, 11) := by unfold radO; rw [if_neg c1, if_neg c2, if_pos c3]
 have hT : radS S o base t = S := by unfold radS; rw [if_neg c1, if_neg c2, if_pos c3]
 refine W.reg <| WL.p (.buildL (ps := _) blt27 rfl rfl rfl pZ) rfl ?_
 refine WL.stL rfl rfl hk72 isz27 rfl rfl (fun w84 hkw84 huw84 hsw84 => ?_)
 have hF85 := Sto.same (w1 := w84) hF67 (fun k hk hl => huw84.other k (fun e => hnf40 (e ▸ hk)))
 have hB90 := Chg.upd hB73 huw84 oO
 refine WL.z rfl rfl ?_
 refine W.ret (W.retc2 rfl rfl (ldRow hkw84 underlying27 rfl isz27) rfl ?_)
 exact ⟨rvE (by rw [hO]; rfl), _, by rw [hT]; exact hF85, hB90⟩
 have h83' := dF h83
 have c3 : ¬ (base.n < 2 ∨ 36 < base.n) := by omega
 refine W.sr <| WL.p (.fa underlying27 rfl sizeOf3 dD rfl) rfl <| WL.r (Rd.ld (isAgg3 _) rfl hk70 rfl) rfl <| WL.p (.eql rfl rfl) rfl <| WL.z rfl rfl ?_
 refine W.cond rfl (fun h91 => ?_) (fun h91 => ?_)
 have h91' := dT h91
 have c4 : base.n = 10 := by assumption
 have hO : radO S o base t = layO S (conT S o) t := by unfold radO; rw [if_neg c1, if_neg c2, if_neg c3, if_pos c4]
 have hT : radS S o base t = layS S (conT S o) t := by unfold radS; rw [if_neg c1, if_neg c2, if_neg c3, if_pos c4]
 refine W.seq <| W.regH 11 rfl mixed (fun w' => w'.heap[b1]? = w66.heap[b1]? ∧ w'.heap[b5]? = w66.heap[b5]? ∧ w'.heap[b19]? = w66.heap[b19]? ∧ True) (fun w92 dw92 => ?_)
 have hF93 := Sto.same (w1 := w92) hF67 (fun k hk hl => (by obtain ⟨m, rfl⟩ := dw92; rfl))
 have hk94 := hk68.drew dw92
 have hk95 := hk69.drew dw92
 have hk96 := hk70.drew dw92
 have hk97 := hk71.drew dw92
 have hk98 := hk72.drew dw92
 have hB99 := Chg.drew hB73 dw92
 refine WH.tk 0 rfl (fun w' hw' => Rd.ldA rfl ((hw'.1).trans hk68) underlying72 rfl isz72) ⟨(hk94).trans (hk68).symm, (hk95).trans (hk69).symm, (hk97).trans (hk71).symm, trivial⟩ rfl ?_
 refine WH.tp 1 rfl (.fa underlying72 rfl sizeOf22 dD rfl) ⟨(hk94).trans (hk68).symm, (hk95).trans (hk69).symm, (hk97).trans (hk71).symm, trivial⟩ rfl ?_
 refine WH.tk 2 rfl (fun w' hw' => Rd.ld (isAgg22 _) rfl ((hw'.1).trans hk68) rfl) ⟨(hk94).trans (hk68).symm, (hk95).trans (hk69).symm, (hk97).trans (hk71).symm, trivial⟩ rfl ?_
 refine WH.tk 3 rfl (fun w' hw' => Rd.ldA rfl ((hw'.2.1).trans hk69) underlying27 rfl isz27) ⟨(hk94).trans (hk68).symm, (hk95).trans (hk69).symm, (hk97).trans (hk71).symm, trivial⟩ rfl ?_
 refine WH.tk 5 rfl (fun w' hw' => Rd.ldA rfl ((hw'.2.2.1).trans hk71) underlying27 rfl isz27) ⟨(hk94).trans (hk68).symm, (hk95).trans (hk69).symm, (hk97).trans (hk71).symm, trivial⟩ rfl ?_
 refine WH.br1 4 rfl ?_
 refine WL.call hb23 rfl rfl ((conv_Text b F S o _ hF93 hok (hE.chg hB99 hn) hon)) (fun r w100 hw100 => ?_)
 have hF101 := Sto.same (w1 := w100) hF93 (fun k hk hl => hw100.1.block k hl)
 have hk102 := hk94.below hw100.1 hk94.lt
 have hk103 := hk95.below hw100.1 hk95.lt
 have hk104 := hk96.below hw100.1 hk96.lt
 have hk105 := hk97.below hw100.1 hk97.lt
 have hk106 := hk98.below hw100.1 hk98.lt
 have hB107 := Chg.low hB99 hw100.1
 obtain ⟨pb1, cb1, rfl, hbt1, hge1⟩ := hw100.2
 have hsz1 := hB99.size
 refine WL.nil <| ?_
 refine ⟨⟨(hk102).trans (hk68).symm, (hk103).trans (hk69).symm, (hk105).trans (hk71).symm, trivial⟩, ?_⟩
 refine WH.br1 6 rfl ?_
 refine WL.c1 hb22 rfl rfl ((conv_lay b F S pb1 (conT S o) cb1 t _ hF101 hok hbt1 (fun h0 hf => by have h8 := h.lt hf; have h9 := hge1 h0; omega))) (fun w108 hw108 => ?_)
 obtain ⟨F109, hstF109, hCF109, hxF109⟩ := Chg.open hw108
 have hnf110 := Chg.nf hCF109 hnf4 hk102.lt
 have hnf111 := Chg.nf hCF109 hnf10 hk103.lt
 have hnf112 := Chg.nf hCF109 hnf18 hk104.lt
 have hnf113 := Chg.nf hCF109 hnf28 hk105.lt
 have hnf114 := Chg.nf hCF109 hnf40 hk106.lt
 have hk115 := Blk.chg hk102 hCF109 hnf4
 have hk116 := Blk.chg hk103 hCF109 hnf10
 have hk118 := Blk.chg hk105 hCF109 hnf28
 have hk119 := Blk.chg hk106 hCF109 hnf40
 have hB120 := Chg.trans hB107 hCF109
 refine WL.nil <| ?_
 refine ⟨⟨(hk115).trans (hk68).symm, (hk116).trans (hk69).symm, (hk118).trans (hk71).symm, trivial⟩, ?_⟩
 refine WH.tp 7 rfl (.ext rfl rfl) ⟨(hk115).trans (hk68).symm, (hk116).trans (hk69).symm, (hk118).trans (hk71).symm, trivial⟩ rfl ?_
 refine WH.tp 8 rfl (.ext rfl rfl) ⟨(hk115).trans (hk68).symm, (hk116).trans (hk69).symm, (hk118).trans (hk71).symm, trivial⟩ rfl ?_
 refine WH.br1 9 rfl ?_
 refine WL.stL rfl rfl hk119 isz27 rfl rfl (fun w121 hkw121 huw121 hsw121 => ?_)
 have hF122 := Sto.same (w1 := w121) hstF109 (fun k hk hl => huw121.other k (fun e => hnf114 (e ▸ hk)))
 have hk123 := hk115.up huw121
 have hk124 := hk116.up huw121
 have hk126 := hk118.up huw121
 have hB127 := Chg.upd hB120 huw121 oO
 refine WL.nil <| ?_
 refine ⟨⟨(hk123).trans (hk68).symm, (hk124).trans (hk69).symm, (hk126).trans (hk71).symm, trivial⟩, ?_⟩
 refine WH.tp 10 rfl (.as rfl) ⟨(hk123).trans (hk68).symm, (hk124).trans (hk69).symm, (hk126).trans (hk71).symm, trivial⟩ rfl ?_
 refine WH.done kR ?_
 refine W.ret (W.retc2 rfl rfl (ldRow hkw121 underlying27 rfl isz27) rfl ?_)
 exact ⟨rvE (by rw [hO]; rfl), _, by rw [hT]; exact hF122, hB127⟩
 have h91' := dF h91
 have c4 : ¬ base.n = 10 := by assumption
 refine W.skip <| W.sr <| WL.r (Rd.ldA rfl hk68 underlying72 rfl isz72) rfl <| WL.r (Rd.ldA rfl hk69 underlying27 rfl isz27) rfl <| WL.c1 hb39 rfl rfl ((conv_whole b F S o _ hF67 hok)) (fun w128 hw128 => ?_)
 have hF129 := Sto.same (w1 := w128) hF67 (fun k hk hl => hw128.block k hl)
 have hk130 := hk68.below hw128 hk68.lt
 have hk131 := hk69.below hw128 hk69.lt
 have hk132 := hk70.below hw128 hk70.lt
 have hk133 := hk71.below hw128 hk71.lt
 have hk134 := hk72.below hw128 hk72.lt
 have hB135 := Chg.low hB73 hw128
 refine WL.m rfl rfl <| WL.p (.ext rfl rfl) rfl <| WL.p (.ext rfl rfl) rfl <| WL.alloc zeroValue27 rfl (fun b136 wb136 eb136 hkb136 hub136 hsb136 => ?_)
 have hF137 := Sto.same (w1 := wb136) hF129 (fun k hk hl => hub136.other k oO)
 have hl139 : b1 < b136 := by rw [eb136]; exact hk130.lt
 have hk138 := hk130.upd hub136 (Nat.ne_of_lt hl139)
 have hl141 : b5 < b136 := by rw [eb136]; exact hk131.lt
 have hk140 := hk131.upd hub136 (Nat.ne_of_lt hl141)
 have hl143 : b11 < b136 := by rw [eb136]; exact hk132.lt
 have hk142 := hk132.upd hub136 (Nat.ne_of_lt hl143)
 have hl145 : b19 < b136 := by rw [eb136]; exact hk133.lt
 have hk144 := hk133.upd hub136 (Nat.ne_of_lt hl145)
 have hl147 : b29 < b136 := by rw [eb136]; exact hk134.lt
 have hk146 := hk134.upd hub136 (Nat.ne_of_lt hl147)
 have hgeb136 : w.heap.size ≤ b136 := by rw [eb136]; exact hB135.size
 have hB148 := Chg.upd hB135 hub136 hgeb136
 have hnf149 : ¬ F b136 := fun hq => by have hq1 := (hF129).lt hq; omega
 refine WL.stL rfl rfl hkb136 isz27 rfl rfl (fun w150 hkw150 huw150 hsw150 => ?_)
 have hF151 := Sto.same (w1 := w150) hF137 (fun k hk hl => huw150.other k (fun e => hnf149 (e ▸ hk)))
 have hk152 := hk138.up huw150
 have hk153 := hk140.up huw150
 have hk154 := hk142.up huw150
 have hk155 := hk144.up huw150
 have hk156 := hk146.up huw150
 have hB157 := Chg.upd hB148 huw150 oO
 refine WL.z rfl rfl ?_
 refine W.seq <| W.sr <| WL.m rfl rfl <| WL.p (.neq rfl rfl) rfl <| WL.nil <| ?_
 refine W.cond rfl (fun h158 => ?_) (fun h158 => ?_)
 have h158' := ndT h158
 have c5 : (wholeO S o).2 ≠ 0 := by assumption
 have hO : radO S o base t = (ob0, (wholeO S o).2) := by unfold radO; rw [if_neg c1, if_neg c2, if_neg c3, if_neg c4, if_pos c5]
 have hT : radS S o base t = S := by unfold radS; rw [if_neg c1, if_neg c2, if_neg c3, if_neg c4, if_pos c5]
 refine W.sr <| WL.p (.buildL (ps := _) blt27 rfl rfl rfl pZ) rfl ?_
 refine WL.m rfl rfl <| WL.stL rfl rfl hk156 isz27 rfl rfl (fun w159 hkw159 huw159 hsw159 => ?_)
 have hF160 := Sto.same (w1 := w159) hF151 (fun k hk hl => huw159.other k (fun e => hnf40 (e ▸ hk)))
 have hB166 := Chg.upd hB157 huw159 oO
 refine WL.z rfl rfl ?_
 refine W.ret (W.retc2 rfl rfl (ldRow hkw159 underlying27 rfl isz27) rfl ?_)
 exact ⟨rvE (by rw [hO]; rfl), _, by rw [hT]; exact hF160, hB166⟩
 have h158' := ndF h158
 have c5 : ¬ (wholeO S o).2 ≠ 0 := by simp_all
 have hO : radO S o base t = layO S (radT (wholeO S o).1.n base.n.toNat) t := by unfold radO; rw [if_neg c1, if_neg c2, if_neg c3, if_neg c4, if_neg c5]
 have hT : radS S o base t = layS S (radT (wholeO S o).1.n base.n.toNat) t := by unfold radS; rw [if_neg c1, if_neg c2, if_neg c3, if_neg c4, if_neg c5]
 refine W.skip <| W.seq <| W.regH 16 rfl mixed (fun w' => w'.heap[b1]? = w150.heap[b1]? ∧ w'.heap[b11]? = w150.heap[b11]? ∧ w'.heap[b19]? = w150.heap[b19]? ∧ w'.heap[b136]? = w150.heap[b136]? ∧ True) (fun w167 dw167 => ?_)
 have hF168 := Sto.same (w1 := w167) hF151 (fun k hk hl => (by obtain ⟨m, rfl⟩ := dw167; rfl))
 have hk169 := hk152.drew dw167
 have hk170 := hk153.drew dw167
 have hk171 := hk154.drew dw167
 have hk172 := hk155.drew dw167
 have hk173 := hk156.drew dw167
 have hk174 := hkw150.drew dw167
 have hB175 := Chg.drew hB157 dw167
 refine WH.tk 0 rfl (fun w' hw' => Rd.ldA rfl ((hw'.1).trans hk152) underlying72 rfl isz72) ⟨(hk169).trans (hk152).symm, (hk171).trans (hk154).symm, (hk172).trans (hk155).symm, (hk174).trans (hkw150).symm, trivial⟩ rfl ?_
 refine WH.tp 1 rfl (.fa underlying27 rfl sizeOf3 dD rfl) ⟨(hk169).trans (hk152).symm, (hk171).trans (hk154).symm, (hk172).trans (hk155).symm, (hk174).trans (hkw150).symm, trivial⟩ rfl ?_
 refine WH.tk 2 rfl (fun w' hw' => Rd.ld (isAgg3 _) rfl ((hw'.2.2.2.1).trans hkw150) rfl) ⟨(hk169).trans (hk152).symm, (hk171).trans (hk154).symm, (hk172).trans (hk155).symm, (hk174).trans (hkw150).symm, trivial⟩ rfl ?_
 refine WH.tp 3 rfl (.cvt underlying3 underlying101 rfl ((IntKind.wrap_u32' _).trans (u32_int _).symm)) ⟨(hk169).trans (hk152).symm, (hk171).trans (hk154).symm, (hk172).trans (hk155).symm, (hk174).trans (hkw150).symm, trivial⟩ rfl ?_
 refine WH.tp 4 rfl (.cvt underlying101 underlying82 rfl (u64w (by have h7 := u32_lt (wholeO S o).1.n; omega))) ⟨(hk169).trans (hk152).symm, (hk171).trans (hk154).symm, (hk172).trans (hk155).symm, (hk174).trans (hkw150).symm, trivial⟩ rfl ?_
 refine WH.tp 5 rfl (.fa underlying27 rfl sizeOf3 dD rfl) ⟨(hk169).trans (hk152).symm, (hk171).trans (hk154).symm, (hk172).trans (hk155).symm, (hk174).trans (hkw150).symm, trivial⟩ rfl ?_
 refine WH.tk 6 rfl (fun w' hw' => Rd.ld (isAgg3 _) rfl ((hw'.2.1).trans hk154) rfl) ⟨(hk169).trans (hk152).symm, (hk171).trans (hk154).symm, (hk172).trans (hk155).symm, (hk174).trans (hkw150).symm, trivial⟩ rfl ?_
 refine WH.tk 10 rfl (fun w' hw' => Rd.ldA rfl ((hw'.2.2.1).trans hk155) underlying27 rfl isz27) ⟨(hk169).trans (hk152).symm, (hk171).trans (hk154).symm, (hk172).trans (hk155).symm, (hk174).trans (hkw150).symm, trivial⟩ rfl ?_
 refine WH.br1 7 rfl ?_
 refine WL.c1 hb51 rfl rfl ((s_FormatUintI (u32 (wholeO S o).1.n) base.n oO oO oO (by have h7 := u32_lt (wholeO S o).1.n; omega) _ (hE.chg hB175 hn))) (fun w176 hw176 => ?_)
 have hF177 := Sto.same (w1 := w176) hF168 (fun k hk hl => hw176.block k hl)
 have hk178 := hk169.below hw176 hk169.lt
 have hk179 := hk170.below hw176 hk170.lt
 have hk180 := hk171.below hw176 hk171.lt
 have hk181 := hk172.below hw176 hk172.lt
 have hk182 := hk173.below hw176 hk173.lt
 have hk183 := hk174.below hw176 hk174.lt
 have hB184 := Chg.low hB175 hw176
 refine WL.nil <| ?_
 refine ⟨⟨(hk178).trans (hk152).symm, (hk180).trans (hk154).symm, (hk181).trans (hk155).symm, (hk183).trans (hkw150).symm, trivial⟩, ?_⟩
 refine WH.br1 8 rfl ?_
 refine WL.c1 hb50 rfl rfl ((s_ToUpper (radL base.n.toNat (u32 (wholeO S o).1.n)) (by have h7 := radL_pow base.n.toNat oO 32 (u32 (wholeO S o).1.n) (u32_lt _); omega) (radL_low base.n.toNat oO oO _) _)) (fun w185 hw185 => ?_)
 have hF186 := Sto.same (w1 := w185) hF177 (fun k hk hl => hw185.block k hl)
 have hk187 := hk178.below hw185 hk178.lt
 have hk188 := hk179.below hw185 hk179.lt
 have hk189 := hk180.below hw185 hk180.lt
 have hk190 := hk181.below hw185 hk181.lt
 have hk191 := hk182.below hw185 hk182.lt
 have hk192 := hk183.below hw185 hk183.lt
 have hB193 := Chg.low hB184 hw185
 have hsz2 := hB184.size
 refine WL.nil <| ?_
 refine ⟨⟨(hk187).trans (hk152).symm, (hk189).trans (hk154).symm, (hk190).trans (hk155).symm, (hk192).trans (hkw150).symm, trivial⟩, ?_⟩
 refine WH.br1 9 rfl ?_
 refine WL.s2b underlying9 underlying35 underlying5 rfl rfl (fun b194 wb194 cs76 eb194 hs76 hcs76 hub194 hsb194 => ?_)
 have hF195 := Sto.same (w1 := wb194) hF186 (fun k hk hl => hub194.other k oO)
 have hl197 : b1 < b194 := by rw [eb194]; exact hk187.lt
 have hk196 := hk187.upd hub194 (Nat.ne_of_lt hl197)
 have hl199 : b5 < b194 := by rw [eb194]; exact hk188.lt
 have hk198 := hk188.upd hub194 (Nat.ne_of_lt hl199)
 have hl201 : b11 < b194 := by rw [eb194]; exact hk189.lt
 have hk200 := hk189.upd hub194 (Nat.ne_of_lt hl201)
 have hl203 : b19 < b194 := by rw [eb194]; exact hk190.lt
 have hk202 := hk190.upd hub194 (Nat.ne_of_lt hl203)
 have hl205 : b29 < b194 := by rw [eb194]; exact hk191.lt
 have hk204 := hk191.upd hub194 (Nat.ne_of_lt hl205)
 have hl207 : b136 < b194 := by rw [eb194]; exact hk192.lt
 have hk206 := hk192.upd hub194 (Nat.ne_of_lt hl207)
 have hgeb194 : w.heap.size ≤ b194 := by rw [eb194]; exact hB193.size
 have hB208 := Chg.upd hB193 hub194 hgeb194
 have hnf209 : ¬ F b194 := fun hq => by have hq1 := (hF186).lt hq; omega
 refine WL.nil <| ?_
 refine ⟨⟨(hk196).trans (hk152).symm, (hk200).trans (hk154).symm, (hk202).trans (hk155).symm, (hk206).trans (hkw150).symm, trivial⟩, ?_⟩
 refine WH.br1 11 rfl ?_
 refine WL.c1 hb22 rfl rfl ((conv_lay b F S _ (radT (wholeO S o).1.n base.n.toNat) _ t _ hF195 hok hs76 (fun h0 hf => absurd (h.lt hf) (by show ¬ (b194 < _); omega)))) (fun w210 hw210 => ?_)
 obtain ⟨F211, hstF211, hCF211, hxF211⟩ := Chg.open hw210
 have hnf212 := Chg.nf hCF211 hnf4 hk196.lt
 have hnf213 := Chg.nf hCF211 hnf10 hk198.lt
 have hnf214 := Chg.nf hCF211 hnf18 hk200.lt
 have hnf215 := Chg.nf hCF211 hnf28 hk202.lt
 have hnf216 := Chg.nf hCF211 hnf40 hk204.lt
 have hnf217 := Chg.nf hCF211 hnf149 hk206.lt
 have hk219 := Blk.chg hk196 hCF211 hnf4
 have hk221 := Blk.chg hk200 hCF211 hnf18
 have hk222 := Blk.chg hk202 hCF211 hnf28
 have hk223 := Blk.chg hk204 hCF211 hnf40
 have hk224 := Blk.chg hk206 hCF211 hnf149
 have hB225 := Chg.trans hB208 hCF211
 refine WL.nil <| ?_
 refine ⟨⟨(hk219).trans (hk152).symm, (hk221).trans (hk154).symm, (hk222).trans (hk155).symm, (hk224).trans (hkw150).symm, trivial⟩, ?_⟩
 refine WH.tp 12 rfl (.ext rfl rfl) ⟨(hk219).trans (hk152).symm, (hk221).trans (hk154).symm, (hk222).trans (hk155).symm, (hk224).trans (hkw150).symm, trivial⟩ rfl ?_
 refine WH.tp 13 rfl (.ext rfl rfl) ⟨(hk219).trans (hk152).symm, (hk221).trans (hk154).symm, (hk222).trans (hk155).symm, (hk224).trans (hkw150).symm, trivial⟩ rfl ?_
 refine WH.br1 14 rfl ?_
 refine WL.stL rfl rfl hk223 isz27 rfl rfl (fun w226 hkw226 huw226 hsw226 => ?_)
 have hF227 := Sto.same (w1 := w226) hstF211 (fun k hk hl => huw226.other k (fun e => hnf216 (e ▸ hk)))
 have hk228 := hk219.up huw226
 have hk230 := hk221.up huw226
 have hk231 := hk222.up huw226
 have hk232 := hk224.up huw226
 have hB233 := Chg.upd hB225 huw226 oO
 refine WL.nil <| ?_
 refine ⟨⟨(hk228).trans (hk152).symm, (hk230).trans (hk154).symm, (hk231).trans (hk155).symm, (hk232).trans (hkw150).symm, trivial⟩, ?_⟩
 refine WH.tp 15 rfl (.as rfl) ⟨(hk228).trans (hk152).symm, (hk230).trans (hk154).symm, (hk231).trans (hk155).symm, (hk232).trans (hkw150).symm, trivial⟩ rfl ?_
 refine WH.done kR ?_
 refine W.ret (W.retc2 rfl rfl (ldRow hkw226 underlying27 rfl isz27) rfl ?_)
 exact ⟨rvE (by rw [hO]; rfl), _, by rw [hT]; exact hF227, hB233⟩
 have g82' := dT g82
 refine WL.gn rfl rfl rfl g82 <| WL.gn rfl rfl rfl g82 <| WL.p (.pkT rfl g82 rfl) rfl <| WL.z rfl rfl ?_
 refine W.condT rfl rfl ?_
 refine W.seq ?_
 have c3 : base.n < 2 ∨ 36 < base.n := by omega
 have hO : radO S o base t = (ob0, 11) := by unfold radO; rw [if_neg c1, if_neg c2, if_pos c3]
 have hT : radS S o base t = S := by unfold radS; rw [if_neg c1, if_neg c2, if_pos c3]
 refine W.reg <| WL.p (.buildL (ps := _) blt27 rfl rfl rfl pZ) rfl ?_
 refine WL.stL rfl rfl hk72 isz27 rfl rfl (fun w234 hkw234 huw234 hsw234 => ?_)
 have hF235 := Sto.same (w1 := w234) hF67 (fun k hk hl => huw234.other k (fun e => hnf40 (e ▸ hk)))
 have hB240 := Chg.upd hB73 huw234 oO
 refine WL.z rfl rfl ?_
 refine W.ret (W.retc2 rfl rfl (ldRow hkw234 underlying27 rfl isz27) rfl ?_)
 exact ⟨rvE (by rw [hO]; rfl), _, by rw [hT]; exact hF235, hB240⟩
 have g41' := ndF g41
 refine WL.gn rfl rfl rfl g41 <| WL.gn rfl rfl rfl g41 <| WL.p (.pkF rfl g41 rfl) rfl <| WL.z rfl rfl ?_
 refine W.condF rfl rfl ?_
 refine W.sr <| WL.p (.fa underlying27 rfl sizeOf3 dD rfl) rfl <| WL.r (Rd.ld (isAgg3 _) rfl hk35 rfl) rfl <| WL.p (.neq rfl rfl) rfl <| WL.z rfl rfl ?_
 refine W.cond rfl (fun h241 => ?_) (fun h241 => ?_)
 have h241' := ndT h241
 have c1 : (o.kind ≠ 1 ∧ o.kind ≠ 2) ∨ base.kind ≠ 1 ∨ t.kind ≠ 6 := by simp_all
 have hO : radO S o base t = (ob0, 16) := if_pos c1
 have hT : radS S o base t = S := if_pos c1
 refine W.skip <| W.condT rfl h241 ?_
 refine W.sr <| WL.p (.buildL (ps := _) blt27 rfl rfl rfl pZ) rfl ?_
 refine WL.stL rfl rfl hkb29 isz27 rfl rfl (fun w242 hkw242 huw242 hsw242 => ?_)
 have hF243 := Sto.same (w1 := w242) hF30 (fun k hk hl => huw242.other k (fun e => hnf40 (e ▸ hk)))
 have hB248 := Chg.upd hB39 huw242 oO
 refine WL.z rfl rfl ?_
 refine W.ret (W.retc2 rfl rfl (ldRow hkw242 underlying27 rfl isz27) rfl ?_)
 exact ⟨rvE (by rw [hO]; rfl), _, by rw [hT]; exact hF243, hB248⟩
 have h241' := ndF h241
 refine W.reg <| WL.p (.fa underlying27 rfl sizeOf3 dD rfl) rfl <| WL.r (Rd.ld (isAgg3 _) rfl hk37 rfl) rfl <| WL.p (.neq rfl rfl) rfl <| WL.z rfl rfl ?_
 refine W.cond rfl (fun h249 => ?_) (fun h249 => ?_)
 have h249' := ndT h249
 have c1 : (o.kind ≠ 1 ∧ o.kind ≠ 2) ∨ base.kind ≠ 1 ∨ t.kind ≠ 6 := by simp_all
 have hO : radO S o base t = (ob0, 16) := if_pos c1
 have hT : radS S o base t = S := if_pos c1
 refine W.sr <| WL.p (.buildL (ps := _) blt27 rfl rfl rfl pZ) rfl ?_
 refine WL.stL rfl rfl hkb29 isz27 rfl rfl (fun w250 hkw250 huw250 hsw250 => ?_)
 have hF251 := Sto.same (w1 := w250) hF30 (fun k hk hl => huw250.other k (fun e => hnf40 (e ▸ hk)))
 have hB256 := Chg.upd hB39 huw250 oO
 refine WL.z rfl rfl ?_
 refine W.ret (W.retc2 rfl rfl (ldRow hkw250 underlying27 rfl isz27) rfl ?_)
 exact ⟨rvE (by rw [hO]; rfl), _, by rw [hT]; exact hF251, hB256⟩
 have h249' := ndF h249
 refine W.seq ?_
 have c1 : ¬ ((o.kind ≠ 1 ∧ o.kind ≠ 2) ∨ base.kind ≠ 1 ∨ t.kind ≠ 6) := by simp_all
 refine W.reg <| WL.r (Rd.ldA rfl hk31 underlying72 rfl isz72) rfl <| WL.r (Rd.ldA rfl hk37 underlying27 rfl isz27) rfl <| WL.c1 hb44 rfl rfl ((conv_writable b F S t _ hF30 hok)) (fun w257 hw257 => ?_)
 have hF258 := Sto.same (w1 := w257) hF30 (fun k hk hl => hw257.block k hl)
 have hk259 := hk31.below hw257 hk31.lt
 have hk260 := hk33.below hw257 hk33.lt
 have hk261 := hk35.below hw257 hk35.lt
 have hk262 := hk37.below hw257 hk37.lt
 have hk263 := hkb29.below hw257 hkb29.lt
 have hB264 := Chg.low hB39 hw257
 refine WL.p (.not rfl) rfl <| WL.z rfl rfl ?_
 refine W.cond rfl (fun h265 => ?_) (fun h265 => ?_)
 have h265' := (nT h265)
 have c2 : accO S t ≠ 0 := by simp_all
 have hO : radO S o base t = (ob0, 5) := by unfold radO; rw [if_neg c1, if_pos c2]
 have hT : radS S o base t = S := by unfold radS; rw [if_neg c1, if_pos c2]
 refine W.sr <| WL.p (.buildL (ps := _) blt27 rfl rfl rfl pZ) rfl ?_
 refine WL.stL rfl rfl hk263 isz27 rfl rfl (fun w266 hkw266 huw266 hsw266 => ?_)
 have hF267 := Sto.same (w1 := w266) hF258 (fun k hk hl => huw266.other k (fun e => hnf40 (e ▸ hk)))
 have hB272 := Chg.upd hB264 huw266 oO
 refine WL.z rfl rfl ?_
 refine W.ret (W.retc2 rfl rfl (ldRow hkw266 underlying27 rfl isz27) rfl ?_)
 exact ⟨rvE (by rw [hO]; rfl), _, by rw [hT]; exact hF267, hB272⟩
 have h265' := (nF h265)
 have c2 : ¬ accO S t ≠ 0 := by simp_all
 refine W.sr <| WL.p (.fa underlying27 rfl sizeOf3 dD rfl) rfl <| WL.r (Rd.ld (isAgg3 _) rfl hk261 rfl) rfl <| WL.p (.lss rfl rfl) rfl <| WL.m rfl rfl <| WL.gd rfl rfl rfl (fun g273 => ?_) (fun g273 => ?_)
 have g273' := dF g273
 refine WL.p (.fa underlying27 rfl sizeOf3 dD rfl) rfl <| WL.gy rfl rfl rfl g273 <| WL.r (Rd.ld (isAgg3 _) rfl hk261 rfl) rfl <| WL.gy rfl rfl rfl g273 <| WL.p (.gtr rfl rfl) rfl <| WL.p (.pkF rfl g273 rfl) rfl <| WL.z rfl rfl ?_
 refine W.cond rfl (fun h274 => ?_) (fun h274 => ?_)
 have h274' := dT h274
 refine W.seq ?_
 have c3 : base.n < 2 ∨ 36 < base.n := by omega
 have hO : radO S o base t = (ob0, 11) := by unfold radO; rw [if_neg c1, if_neg c2, if_pos c3]
 have hT : radS S o base t = S := by unfold radS; rw [if_neg c1, if_neg c2, if_pos c3]
 refine W.reg <| WL.p (.buildL (ps := _) blt27 rfl rfl rfl pZ) rfl ?_
 refine WL.stL rfl rfl hk263 isz27 rfl rfl (fun w275 hkw275 huw275 hsw275 => ?_)
 have hF276 := Sto.same (w1 := w275) hF258 (fun k hk hl => huw275.other k (fun e => hnf40 (e ▸ hk)))
 have hB281 := Chg.upd hB264 huw275 oO
 refine WL.z rfl rfl ?_
 refine W.ret (W.retc2 rfl rfl (ldRow hkw275 underlying27 rfl isz27) rfl ?_)
 exact ⟨rvE (by rw [hO]; rfl), _, by rw [hT]; exact hF276, hB281⟩
 have h274' := dF h274
 have c3 : ¬ (base.n < 2 ∨ 36 < base.n) := by omega
 refine W.sr <| WL.p (.fa underlying27 rfl sizeOf3 dD rfl) rfl <| WL.r (Rd.ld (isAgg3 _) rfl hk261 rfl) rfl <| WL.p (.eql rfl rfl) rfl <| WL.z rfl rfl ?_
 refine W.cond rfl (fun h282 => ?_) (fun h282 => ?_)
 have h282' := dT h282
 have c4 : base.n = 10 := by assumption
 have hO : radO S o base t = layO S (conT S o) t := by unfold radO; rw [if_neg c1, if_neg c2, if_neg c3, if_pos c4]
 have hT : radS S o base t = layS S (conT S o) t := by unfold radS; rw [if_neg c1, if_neg c2, if_neg c3, if_pos c4]
 refine W.seq <| W.regH 11 rfl mixed (fun w' => w'.heap[b1]? = w257.heap[b1]? ∧ w'.heap[b5]? = w257.heap[b5]? ∧ w'.heap[b19]? = w257.heap[b19]? ∧ True) (fun w283 dw283 => ?_)
 have hF284 := Sto.same (w1 := w283) hF258 (fun k hk hl => (by obtain ⟨m, rfl⟩ := dw283; rfl))
 have hk285 := hk259.drew dw283
 have hk286 := hk260.drew dw283
 have hk287 := hk261.drew dw283
 have hk288 := hk262.drew dw283
 have hk289 := hk263.drew dw283
 have hB290 := Chg.drew hB264 dw283
 refine WH.tk 0 rfl (fun w' hw' => Rd.ldA rfl ((hw'.1).trans hk259) underlying72 rfl isz72) ⟨(hk285).trans (hk259).symm, (hk286).trans (hk260).symm, (hk288).trans (hk262).symm, trivial⟩ rfl ?_
 refine WH.tp 1 rfl (.fa underlying72 rfl sizeOf22 dD rfl) ⟨(hk285).trans (hk259).symm, (hk286).trans (hk260).symm, (hk288).trans (hk262).symm, trivial⟩ rfl ?_
 refine WH.tk 2 rfl (fun w' hw' => Rd.ld (isAgg22 _) rfl ((hw'.1).trans hk259) rfl) ⟨(hk285).trans (hk259).symm, (hk286).trans (hk260).symm, (hk288).trans (hk262).symm, trivial⟩ rfl ?_
 refine WH.tk 3 rfl (fun w' hw' => Rd.ldA rfl ((hw'.2.1).trans hk260) underlying27 rfl isz27) ⟨(hk285).trans (hk259).symm, (hk286).trans (hk260).symm, (hk288).trans (hk262).symm, trivial⟩ rfl ?_
 refine WH.tk 5 rfl (fun w' hw' => Rd.ldA rfl ((hw'.2.2.1).trans hk262) underlying27 rfl isz27) ⟨(hk285).trans (hk259).symm, (hk286).trans (hk260).symm, (hk288).trans (hk262).symm, trivial⟩ rfl ?_
 refine WH.br1 4 rfl ?_
 refine WL.call hb23 rfl rfl ((conv_Text b F S o _ hF284 hok (hE.chg hB290 hn) hon)) (fun r w291 hw291 => ?_)
 have hF292 := Sto.same (w1 := w291) hF284 (fun k hk hl => hw291.1.block k hl)
 have hk293 := hk285.below hw291.1 hk285.lt
 have hk294 := hk286.below hw291.1 hk286.lt
 have hk295 := hk287.below hw291.1 hk287.lt
 have hk296 := hk288.below hw291.1 hk288.lt
 have hk297 := hk289.below hw291.1 hk289.lt
 have hB298 := Chg.low hB290 hw291.1
 obtain ⟨pb1, cb1, rfl, hbt1, hge1⟩ := hw291.2
 have hsz1 := hB290.size
 refine WL.nil <| ?_
 refine ⟨⟨(hk293).trans (hk259).symm, (hk294).trans (hk260).symm, (hk296).trans (hk262).symm, trivial⟩, ?_⟩
 refine WH.br1 6 rfl ?_
 refine WL.c1 hb22 rfl rfl ((conv_lay b F S pb1 (conT S o) cb1 t _ hF292 hok hbt1 (fun h0 hf => by have h8 := h.lt hf; have h9 := hge1 h0; omega))) (fun w299 hw299 => ?_)
 obtain ⟨F300, hstF300, hCF300, hxF300⟩ := Chg.open hw299
 have hnf301 := Chg.nf hCF300 hnf4 hk293.lt
 have hnf302 := Chg.nf hCF300 hnf10 hk294.lt
 have hnf303 := Chg.nf hCF300 hnf18 hk295.lt
 have hnf304 := Chg.nf hCF300 hnf28 hk296.lt
 have hnf305 := Chg.nf hCF300 hnf40 hk297.lt
 have hk306 := Blk.chg hk293 hCF300 hnf4
 have hk307 := Blk.chg hk294 hCF300 hnf10
 have hk309 := Blk.chg hk296 hCF300 hnf28
 have hk310 := Blk.chg hk297 hCF300 hnf40
 have hB311 := Chg.trans hB298 hCF300
 refine WL.nil <| ?_
 refine ⟨⟨(hk306).trans (hk259).symm, (hk307).trans (hk260).symm, (hk309).trans (hk262).symm, trivial⟩, ?_⟩
 refine WH.tp 7 rfl (.ext rfl rfl) ⟨(hk306).trans (hk259).symm, (hk307).trans (hk260).symm, (hk309).trans (hk262).symm, trivial⟩ rfl ?_
 refine WH.tp 8 rfl (.ext rfl rfl) ⟨(hk306).trans (hk259).symm, (hk307).trans (hk260).symm, (hk309).trans (hk262).symm, trivial⟩ rfl ?_
 refine WH.br1 9 rfl ?_
 refine WL.stL rfl rfl hk310 isz27 rfl rfl (fun w312 hkw312 huw312 hsw312 => ?_)
 have hF313 := Sto.same (w1 := w312) hstF300 (fun k hk hl => huw312.other k (fun e => hnf305 (e ▸ hk)))
 have hk314 := hk306.up huw312
 have hk315 := hk307.up huw312
 have hk317 := hk309.up huw312
 have hB318 := Chg.upd hB311 huw312 oO
 refine WL.nil <| ?_
 refine ⟨⟨(hk314).trans (hk259).symm, (hk315).trans (hk260).symm, (hk317).trans (hk262).symm, trivial⟩, ?_⟩
 refine WH.tp 10 rfl (.as rfl) ⟨(hk314).trans (hk259).symm, (hk315).trans (hk260).symm, (hk317).trans (hk262).symm, trivial⟩ rfl ?_
 refine WH.done kR ?_
 refine W.ret (W.retc2 rfl rfl (ldRow hkw312 underlying27 rfl isz27) rfl ?_)
 exact ⟨rvE (by rw [hO]; rfl), _, by rw [hT]; exact hF313, hB318⟩
 have h282' := dF h282
 have c4 : ¬ base.n = 10 := by assumption
 refine W.skip <| W.sr <| WL.r (Rd.ldA rfl hk259 underlying72 rfl isz72) rfl <| WL.r (Rd.ldA rfl hk260 underlying27 rfl isz27) rfl <| WL.c1 hb39 rfl rfl ((conv_whole b F S o _ hF258 hok)) (fun w319 hw319 => ?_)
 have hF320 := Sto.same (w1 := w319) hF258 (fun k hk hl => hw319.block k hl)
 have hk321 := hk259.below hw319 hk259.lt
 have hk322 := hk260.below hw319 hk260.lt
 have hk323 := hk261.below hw319 hk261.lt
 have hk324 := hk262.below hw319 hk262.lt
 have hk325 := hk263.below hw319 hk263.lt
 have hB326 := Chg.low hB264 hw319
 refine WL.m rfl rfl <| WL.p (.ext rfl rfl) rfl <| WL.p (.ext rfl rfl) rfl <| WL.alloc zeroValue27 rfl (fun b327 wb327 eb327 hkb327 hub327 hsb327 => ?_)
 have hF328 := Sto.same (w1 := wb327) hF320 (fun k hk hl => hub327.other k oO)
 have hl330 : b1 < b327 := by rw [eb327]; exact hk321.lt
 have hk329 := hk321.upd hub327 (Nat.ne_of_lt hl330)
 have hl332 : b5 < b327 := by rw [eb327]; exact hk322.lt
 have hk331 := hk322.upd hub327 (Nat.ne_of_lt hl332)
 have hl334 : b11 < b327 := by rw [eb327]; exact hk323.lt
 have hk333 := hk323.upd hub327 (Nat.ne_of_lt hl334)
 have hl336 : b19 < b327 := by rw [eb327]; exact hk324.lt
 have hk335 := hk324.upd hub327 (Nat.ne_of_lt hl336)
 have hl338 : b29 < b327 := by rw [eb327]; exact hk325.lt
 have hk337 := hk325.upd hub327 (Nat.ne_of_lt hl338)
 have hgeb327 : w.heap.size ≤ b327 := by rw [eb327]; exact hB326.size
 have hB339 := Chg.upd hB326 hub327 hgeb327
 have hnf340 : ¬ F b327 := fun hq => by have hq1 := (hF320).lt hq; omega
 refine WL.stL rfl rfl hkb327 isz27 rfl rfl (fun w341 hkw341 huw341 hsw341 => ?_)
 have hF342 := Sto.same (w1 := w341) hF328 (fun k hk hl => huw341.other k (fun e => hnf340 (e ▸ hk)))
 have hk343 := hk329.up huw341
 have hk344 := hk331.up huw341
 have hk345 := hk333.up huw341
 have hk346 := hk335.up huw341
 have hk347 := hk337.up huw341
 have hB348 := Chg.upd hB339 huw341 oO
 refine WL.z rfl rfl ?_
 refine W.seq <| W.sr <| WL.m rfl rfl <| WL.p (.neq rfl rfl) rfl <| WL.nil <| ?_
 refine W.cond rfl (fun h349 => ?_) (fun h349 => ?_)
 have h349' := ndT h349
 have c5 : (wholeO S o).2 ≠ 0 := by assumption
 have hO : radO S o base t = (ob0, (wholeO S o).2) := by unfold radO; rw [if_neg c1, if_neg c2, if_neg c3, if_neg c4, if_pos c5]
 have hT : radS S o base t = S := by unfold radS; rw [if_neg c1, if_neg c2, if_neg c3, if_neg c4, if_pos c5]
 refine W.sr <| WL.p (.buildL (ps := _) blt27 rfl rfl rfl pZ) rfl ?_
 refine WL.m rfl rfl <| WL.stL rfl rfl hk347 isz27 rfl rfl (fun w350 hkw350 huw350 hsw350 => ?_)
 have hF351 := Sto.same (w1 := w350) hF342 (fun k hk hl => huw350.other k (fun e => hnf40 (e ▸ hk)))
 have hB357 := Chg.upd hB348 huw350 oO
 refine WL.z rfl rfl ?_
 refine W.ret (W.retc2 rfl rfl (ldRow hkw350 underlying27 rfl isz27) rfl ?_)
 exact ⟨rvE (by rw [hO]; rfl), _, by rw [hT]; exact hF351, hB357⟩
 have h349' := ndF h349
 have c5 : ¬ (wholeO S o).2 ≠ 0 := by simp_all
 have hO : radO S o base t = layO S (radT (wholeO S o).1.n base.n.toNat) t := by unfold radO; rw [if_neg c1, if_neg c2, if_neg c3, if_neg c4, if_neg c5]
 have hT : radS S o base t = layS S (radT (wholeO S o).1.n base.n.toNat) t := by unfold radS; rw [if_neg c1, if_neg c2, if_neg c3, if_neg c4, if_neg c5]
 refine W.skip <| W.seq <| W.regH 16 rfl mixed (fun w' => w'.heap[b1]? = w341.heap[b1]? ∧ w'.heap[b11]? = w341.heap[b11]? ∧ w'.heap[b19]? = w341.heap[b19]? ∧ w'.heap[b327]? = w341.heap[b327]? ∧ True) (fun w358 dw358 => ?_)
 have hF359 := Sto.same (w1 := w358) hF342 (fun k hk hl => (by obtain ⟨m, rfl⟩ := dw358; rfl))
 have hk360 := hk343.drew dw358
 have hk361 := hk344.drew dw358
 have hk362 := hk345.drew dw358
 have hk363 := hk346.drew dw358
 have hk364 := hk347.drew dw358
 have hk365 := hkw341.drew dw358
 have hB366 := Chg.drew hB348 dw358
 refine WH.tk 0 rfl (fun w' hw' => Rd.ldA rfl ((hw'.1).trans hk343) underlying72 rfl isz72) ⟨(hk360).trans (hk343).symm, (hk362).trans (hk345).symm, (hk363).trans (hk346).symm, (hk365).trans (hkw341).symm, trivial⟩ rfl ?_
 refine WH.tp 1 rfl (.fa underlying27 rfl sizeOf3 dD rfl) ⟨(hk360).trans (hk343).symm, (hk362).trans (hk345).symm, (hk363).trans (hk346).symm, (hk365).trans (hkw341).symm, trivial⟩ rfl ?_
 refine WH.tk 2 rfl (fun w' hw' => Rd.ld (isAgg3 _) rfl ((hw'.2.2.2.1).trans hkw341) rfl) ⟨(hk360).trans (hk343).symm, (hk362).trans (hk345).symm, (hk363).trans (hk346).symm, (hk365).trans (hkw341).symm, trivial⟩ rfl ?_
 refine WH.tp 3 rfl (.cvt underlying3 underlying101 rfl ((IntKind.wrap_u32' _).trans (u32_int _).symm)) ⟨(hk360).trans (hk343).symm, (hk362).trans (hk345).symm, (hk363).trans (hk346).symm, (hk365).trans (hkw341).symm, trivial⟩ rfl ?_
 refine WH.tp 4 rfl (.cvt underlying101 underlying82 rfl (u64w (by have h7 := u32_lt (wholeO S o).1.n; omega))) ⟨(hk360).trans (hk343).symm, (hk362).trans (hk345).symm, (hk363).trans (hk346).symm, (hk365).trans (hkw341).symm, trivial⟩ rfl ?_
 refine WH.tp 5 rfl (.fa underlying27 rfl sizeOf3 dD rfl) ⟨(hk360).trans (hk343).symm, (hk362).trans (hk345).symm, (hk363).trans (hk346).symm, (hk365).trans (hkw341).symm, trivial⟩ rfl ?_
 refine WH.tk 6 rfl (fun w' hw' => Rd.ld (isAgg3 _) rfl ((hw'.2.1).trans hk345) rfl) ⟨(hk360).trans (hk343).symm, (hk362).trans (hk345).symm, (hk363).trans (hk346).symm, (hk365).trans (hkw341).symm, trivial⟩ rfl ?_
 refine WH.tk 10 rfl (fun w' hw' => Rd.ldA rfl ((hw'.2.2.1).trans hk346) underlying27 rfl isz27) ⟨(hk360).trans (hk343).symm, (hk362).trans (hk345).symm, (hk363).trans (hk346).symm, (hk365).trans (hkw341).symm, trivial⟩ rfl ?_
 refine WH.br1 7 rfl ?_
 refine WL.c1 hb51 rfl rfl ((s_FormatUintI (u32 (wholeO S o).1.n) base.n oO oO oO (by have h7 := u32_lt (wholeO S o).1.n; omega) _ (hE.chg hB366 hn))) (fun w367 hw367 => ?_)
 have hF368 := Sto.same (w1 := w367) hF359 (fun k hk hl => hw367.block k hl)
 have hk369 := hk360.below hw367 hk360.lt
 have hk370 := hk361.below hw367 hk361.lt
 have hk371 := hk362.below hw367 hk362.lt
 have hk372 := hk363.below hw367 hk363.lt
 have hk373 := hk364.below hw367 hk364.lt
 have hk374 := hk365.below hw367 hk365.lt
 have hB375 := Chg.low hB366 hw367
 refine WL.nil <| ?_
 refine ⟨⟨(hk369).trans (hk343).symm, (hk371).trans (hk345).symm, (hk372).trans (hk346).symm, (hk374).trans (hkw341).symm, trivial⟩, ?_⟩
 refine WH.br1 8 rfl ?_
 refine WL.c1 hb50 rfl rfl ((s_ToUpper (radL base.n.toNat (u32 (wholeO S o).1.n)) (by have h7 := radL_pow base.n.toNat oO 32 (u32 (wholeO S o).1.n) (u32_lt _); omega) (radL_low base.n.toNat oO oO _) _)) (fun w376 hw376 => ?_)
 have hF377 := Sto.same (w1 := w376) hF368 (fun k hk hl => hw376.block k hl)
 have hk378 := hk369.below hw376 hk369.lt
 have hk379 := hk370.below hw376 hk370.lt
 have hk380 := hk371.below hw376 hk371.lt
 have hk381 := hk372.below hw376 hk372.lt
 have hk382 := hk373.below hw376 hk373.lt
 have hk383 := hk374.below hw376 hk374.lt
 have hB384 := Chg.low hB375 hw376
 have hsz2 := hB375.size
 refine WL.nil <| ?_
 refine ⟨⟨(hk378).trans (hk343).symm, (hk380).trans (hk345).symm, (hk381).trans (hk346).symm, (hk383).trans (hkw341).symm, trivial⟩, ?_⟩
 refine WH.br1 9 rfl ?_
 refine WL.s2b underlying9 underlying35 underlying5 rfl rfl (fun b385 wb385 cs76 eb385 hs76 hcs76 hub385 hsb385 => ?_)
 have hF386 := Sto.same (w1 := wb385) hF377 (fun k hk hl => hub385.other k oO)
 have hl388 : b1 < b385 := by rw [eb385]; exact hk378.lt
 have hk387 := hk378.upd hub385 (Nat.ne_of_lt hl388)
 have hl390 : b5 < b385 := by rw [eb385]; exact hk379.lt
 have hk389 := hk379.upd hub385 (Nat.ne_of_lt hl390)
 have hl392 : b11 < b385 := by rw [eb385]; exact hk380.lt
 have hk391 := hk380.upd hub385 (Nat.ne_of_lt hl392)
 have hl394 : b19 < b385 := by rw [eb385]; exact hk381.lt
 have hk393 := hk381.upd hub385 (Nat.ne_of_lt hl394)
 have hl396 : b29 < b385 := by rw [eb385]; exact hk382.lt
 have hk395 := hk382.upd hub385 (Nat.ne_of_lt hl396)
 have hl398 : b327 < b385 := by rw [eb385]; exact hk383.lt
 have hk397 := hk383.upd hub385 (Nat.ne_of_lt hl398)
 have hgeb385 : w.heap.size ≤ b385 := by rw [eb385]; exact hB384.size
 have hB399 := Chg.upd hB384 hub385 hgeb385
 have hnf400 : ¬ F b385 := fun hq => by have hq1 := (hF377).lt hq; omega
 refine WL.nil <| ?_
 refine ⟨⟨(hk387).trans (hk343).symm, (hk391).trans (hk345).symm, (hk393).trans (hk346).symm, (hk397).trans (hkw341).symm, trivial⟩, ?_⟩
 refine WH.br1 11 rfl ?_
 refine WL.c1 hb22 rfl rfl ((conv_lay b F S _ (radT (wholeO S o).1.n base.n.toNat) _ t _ hF386 hok hs76 (fun h0 hf => absurd (h.lt hf) (by show ¬ (b385 < _); omega)))) (fun w401 hw401 => ?_)
 obtain ⟨F402, hstF402, hCF402, hxF402⟩ := Chg.open hw401
 have hnf403 := Chg.nf hCF402 hnf4 hk387.lt
 have hnf404 := Chg.nf hCF402 hnf10 hk389.lt
 have hnf405 := Chg.nf hCF402 hnf18 hk391.lt
 have hnf406 := Chg.nf hCF402 hnf28 hk393.lt
 have hnf407 := Chg.nf hCF402 hnf40 hk395.lt
 have hnf408 := Chg.nf hCF402 hnf340 hk397.lt
 have hk410 := Blk.chg hk387 hCF402 hnf4
 have hk412 := Blk.chg hk391 hCF402 hnf18
 have hk413 := Blk.chg hk393 hCF402 hnf28
 have hk414 := Blk.chg hk395 hCF402 hnf40
 have hk415 := Blk.chg hk397 hCF402 hnf340
 have hB416 := Chg.trans hB399 hCF402
 refine WL.nil <| ?_
 refine ⟨⟨(hk410).trans (hk343).symm, (hk412).trans (hk345).symm, (hk413).trans (hk346).symm, (hk415).trans (hkw341).symm, trivial⟩, ?_⟩
 refine WH.tp 12 rfl (.ext rfl rfl) ⟨(hk410).trans (hk343).symm, (hk412).trans (hk345).symm, (hk413).trans (hk346).symm, (hk415).trans (hkw341).symm, trivial⟩ rfl ?_
 refine WH.tp 13 rfl (.ext rfl rfl) ⟨(hk410).trans (hk343).symm, (hk412).trans (hk345).symm, (hk413).trans (hk346).symm, (hk415).trans (hkw341).symm, trivial⟩ rfl ?_
 refine WH.br1 14 rfl ?_
 refine WL.stL rfl rfl hk414 isz27 rfl rfl (fun w417 hkw417 huw417 hsw417 => ?_)
 have hF418 := Sto.same (w1 := w417) hstF402 (fun k hk hl => huw417.other k (fun e => hnf407 (e ▸ hk)))
 have hk419 := hk410.up huw417
 have hk421 := hk412.up huw417
 have hk422 := hk413.up huw417
 have hk423 := hk415.up huw417
 have hB424 := Chg.upd hB416 huw417 oO
 refine WL.nil <| ?_
 refine ⟨⟨(hk419).trans (hk343).symm, (hk421).trans (hk345).symm, (hk422).trans (hk346).symm, (hk423).trans (hkw341).symm, trivial⟩, ?_⟩
 refine WH.tp 15 rfl (.as rfl) ⟨(hk419).trans (hk343).symm, (hk421).trans (hk345).symm, (hk422).trans (hk346).symm, (hk423).trans (hkw341).symm, trivial⟩ rfl ?_
 refine WH.done kR ?_
 refine W.ret (W.retc2 rfl rfl (ldRow hkw417 underlying27 rfl isz27) rfl ?_)
 exact ⟨rvE (by rw [hO]; rfl), _, by rw [hT]; exact hF418, hB424⟩
 have g273' := dT g273
 refine WL.gn rfl rfl rfl g273 <| WL.gn rfl rfl rfl g273 <| WL.p (.pkT rfl g273 rfl) rfl <| WL.z rfl rfl ?_
 refine W.condT rfl rfl ?_
 refine W.seq ?_
 have c3 : base.n < 2 ∨ 36 < base.n := by omega
 have hO : radO S o base t = (ob0, 11) := by unfold radO; rw [if_neg c1, if_neg c2, if_pos c3]
 have hT : radS S o base t = S := by unfold radS; rw [if_neg c1, if_neg c2, if_pos c3]
 refine W.reg <| WL.p (.buildL (ps := _) blt27 rfl rfl rfl pZ) rfl ?_
 refine WL.stL rfl rfl hk263 isz27 rfl rfl (fun w425 hkw425 huw425 hsw425 => ?_)
 have hF426 := Sto.same (w1 := w425) hF258 (fun k hk hl => huw425.other k (fun e => hnf40 (e ▸ hk)))
 have hB431 := Chg.upd hB264 huw425 oO
 refine WL.z rfl rfl ?_
 refine W.ret (W.retc2 rfl rfl (ldRow hkw425 underlying27 rfl isz27) rfl ?_)
 exact ⟨rvE (by rw [hO]; rfl), _, by rw [hT]; exact hF426, hB431⟩
end
section
theorem St.noteBelow {lab : Lab} {w w1 : World} {b : Nat} {H : StH} {S : StoV} (hS : St lab w b H S) (hlt : ∀ g, lab g ≠ .no → g < w.heap.size) (hb : Below w.heap.size w w1) : St lab w1 b H S := hS.same fun g hg => hb.block g (hlt g hg)
theorem notin_of {b g : Nat} {o : Option Nat} (h1 : g ≠ b) (h2 : o ≠ some g) : g ∉ b :: o.toList := by
 simp only [List.mem_cons, Option.mem_toList, not_or]; exact ⟨h1, h2⟩
set_option maxHeartbeats 1600000 in
theorem sto_note (lab : Lab) (b : Nat) (H : StH) (S : StoV) (c : ChV) (w : World) (hS : St lab w b H S) (hlt : ∀ g, lab g ≠ .no → g < w.heap.size) (hch : S.changes.length ≤ 800000000000) :
  Calls Tryz.prog 53 #[.pointer (some ⟨b, 0, none⟩), .agg (chL.V c).toArray] w fun e w' => e = .returned (.tuple #[]) ∧
   ∃ lab1 vc1, St lab1 w' b { H with vc := vc1 } (noteS S c) ∧ (∀ g, lab1 g ≠ .no → g < w'.heap.size) ∧ (∀ g, lab1 g ≠ .no → lab g ≠ .no ∨ w.heap.size ≤ g) ∧ (∀ g, g < w.heap.size → lab1 g = lab g) ∧ KeepB w.heap.size (b :: H.vc.ownBlock.toList) w w' := by
 obtain ⟨pt, ct, pl, cl, pd, cd, pc, cc, pm, cm, hr, evt, evl, evd, evc, evm, -⟩ := hS.opn
 have hbl := hr.lt
 have hoc : OwnM chL 114 0 w (.slice pc S.changes.length cc) S.changes := evc ▸ hS.oc
 have hvcl : ∀ g, H.vc.ownBlock = some g → g < w.heap.size := fun g hg => hlt g (by rw [hS.lc g hg]; nofun)
 have hbv : H.vc.ownBlock ≠ some b := fun e => by have := hS.lc b e; rw [hS.lb] at this; cases this
 refine W.enter func53 rfl ntmps53 (Nat.le_of_ble_eq_true rfl) ?_
 have hB0 := KeepB.refl w.heap.size (b :: H.vc.ownBlock.toList) w
 refine W.sr <| WL.box rfl rfl (fun b1 wb1 eb1 hkb1 hub1 hsb1 => ?_)
 have ho2 := OwnM.new hoc eb1 hub1
 have hl4 : b < b1 := by rw [eb1]; exact hr.lt
 have hk3 := hr.upd hub1 (Nat.ne_of_lt hl4)
 have hgeb1 : w.heap.size ≤ b1 := by rw [eb1]; exact hB0.size
 have hB5 := KeepB.trans hB0 (KeepB.of_new hub1 hgeb1)
 refine WL.nil <| ?_
 refine W.sr <| WL.m rfl rfl <| WL.p (.nck rfl) rfl <| WL.p (.fa underlying65 rfl sizeOf63 dD rfl) rfl <| WL.r (Rd.ld (isAgg63 _) rfl hk3 rfl) rfl <| WL.p (.lenS underlying63 rfl) rfl <| WL.p (.gtr rfl rfl) rfl <| WL.nil <| ?_
 refine W.cond rfl (fun h6 => ?_) (fun h6 => ?_)
 have h6' := dT h6
 have hN : noteS S c = { S with changes := S.changes ++ [c] } := if_pos oO
 refine W.regY 11 rfl mixed (fun w7 dw7 => ?_)
 have ho8 := OwnM.drew ho2 dw7
 have hk9 := hk3.drew dw7
 have hk10 := hkb1.drew dw7
 have hB11 := KeepB.trans hB5 (KeepB.of_drew dw7)
 refine WY.tk 0 rfl (.mv rfl) rfl ?_
 refine WY.tk 1 rfl (.mv rfl) rfl ?_
 refine WY.tk 2 rfl (.nck rfl) rfl ?_
 refine WY.tk 3 rfl (.fa underlying65 rfl sizeOf62 dD rfl) rfl ?_
 refine WY.br2 4 rfl 5 rfl ?_ ?_
 refine WL.r (Rd.ld (isAgg62 _) rfl hk9 rfl) rfl <| WL.nil <| ?_
 refine WY.br1 5 rfl ?_
 refine WL.r (Rd.ldA rfl hk10 underlying114 rfl isz114) rfl <| WL.nil <| ?_
 refine WY.br1 6 rfl ?_
 refine WL.bslM (L := chL) (ps := _) ([c]) underlying62 sizeOf114 zeroValue114 rfl rfl rfl rfl rfl (by first | rfl | decide) rfl rfl (fun b12 wb12 eb12 hob12 hub12 hsb12 => ?_)
 have ho13 := OwnM.new ho8 eb12 hub12
 have hl15 : b < b12 := by rw [eb12]; exact hk9.lt
 have hk14 := hk9.upd hub12 (Nat.ne_of_lt hl15)
 have hl17 : b1 < b12 := by rw [eb12]; exact hk10.lt
 have hgeb12 : w.heap.size ≤ b12 := by rw [eb12]; exact hB11.size
 have hB18 := KeepB.trans hB11 (KeepB.of_new hub12 hgeb12)
 have hleb12 : b12 ≤ wb12.heap.size := by omega
 refine WL.nil <| ?_
 refine WY.br1 7 rfl ?_
 have hsb := hB18.size
 refine WL.appMb underlying62 inf114 rfl rfl rfl ho13 rfl (hob12).rowp (by simp only [List.length_cons, List.length_nil]; omega) (by simp only [List.length_cons, List.length_nil]; omega) (z_le) rfl (fun h => absurd h (List.cons_ne_nil _ _)) (fun v19 w20 how20 hbw20 hgw20 hfw20 => ?_)
 have hk21 := hk14.grown hgw20 (by rw [← evc]; exact hbv)
 have hB23 := KeepB.trans hB18 (KeepB.of_grown hgw20 (fun g hg => .inl (List.mem_cons_of_mem _ (Option.mem_toList.2 (by rw [evc]; exact hg)))) hB18.size)
 have hnf0 := hfw20
 refine WL.nil <| ?_
 refine WY.tk 8 rfl (.nck rfl) rfl ?_
 refine WY.tk 9 rfl (.fa underlying65 rfl sizeOf62 dD rfl) rfl ?_
 refine WY.br1 10 rfl ?_
 refine WL.st sizeOf62 rfl rfl (how20).one hk21 oD (fun w24 hkw24 huw24 hsw24 => ?_)
 have hkw24 : Blk w24 b _ _ := hkw24
 have huw24 : Upd b _ _ := huw24
 have ho25 := OwnM.upd how20 huw24 (fun g hg e => by subst e; rcases hnf0 _ hg with h | h <;> first | exact hbv (by rw [evc]; exact h) | omega)
 have hB27 := KeepB.trans hB23 (by first | exact KeepB.of_new huw24 oO | exact KeepB.of_mem huw24 (by simp))
 have hov := ho25
 refine WL.nil <| ?_
 refine WY.done kR ?_
 refine W.norm (W.ret0 rfl ?_)
 rw [hN]
 have hnf1 : ∀ g, _ = some g → H.vc.ownBlock = some g ∨ w.heap.size ≤ g := fun g hg => (hnf0 g hg).imp (fun h => by rw [evc]; exact h) (fun h => Nat.le_trans hsb h)
 obtain ⟨hA, hold⟩ := hS.addK (o1 := none) (t1 := .no) (w3 := w24) hS.lc (fun g hg => by cases hg) hnf1 (fun g h1 h2 h3 => hB27.block g h1 (notin_of h2 h3))
 obtain ⟨q1, q2⟩ := St.addNew (w := w) (w3 := w24) (o1 := none) (t1 := .no) hS.lc (by nofun) hlt (fun g hg => by cases hg) (fun g hg => ⟨hnf1 g hg, (hov.lt g hg).2⟩) hB27.size
 obtain ⟨lab3, hS3, hlt3, hnew3, hold3⟩ : ∃ lab3, St lab3 w24 b { H with vc := _ } { S with changes := S.changes ++ [c] } ∧ (∀ g, lab3 g ≠ .no → g < w24.heap.size) ∧ (∀ g, lab3 g ≠ .no → lab g ≠ .no ∨ w.heap.size ≤ g) ∧ (∀ g, g < w.heap.size → lab3 g = lab g) := ⟨_, hS.addChangeK hlt hA hold (by rw [evt, evl, evd, evm]; exact hkw24) hov, q1, q2, hold⟩
 exact ⟨rfl, lab3, _, hS3, hlt3, hnew3, hold3, hB27⟩
 refine WL.r (Rd.ldA rfl hk10 underlying114 rfl isz114) rfl <| WL.nil <| ?_
 refine WY.br2 4 rfl 6 rfl ?_ ?_
 refine WL.r (Rd.ld (isAgg62 _) rfl hk9 rfl) rfl <| WL.nil <| ?_
 refine WY.br1 6 rfl ?_
 refine WL.bslM (L := chL) (ps := _) ([c]) underlying62 sizeOf114 zeroValue114 rfl rfl rfl rfl rfl (by first | rfl | decide) rfl rfl (fun b28 wb28 eb28 hob28 hub28 hsb28 => ?_)
 have ho29 := OwnM.new ho8 eb28 hub28
 have hl31 : b < b28 := by rw [eb28]; exact hk9.lt
 have hk30 := hk9.upd hub28 (Nat.ne_of_lt hl31)
 have hl33 : b1 < b28 := by rw [eb28]; exact hk10.lt
 have hgeb28 : w.heap.size ≤ b28 := by rw [eb28]; exact hB11.size
 have hB34 := KeepB.trans hB11 (KeepB.of_new hub28 hgeb28)
 have hleb28 : b28 ≤ wb28.heap.size := by omega
 refine WL.nil <| ?_
 refine WY.br1 7 rfl ?_
 have hsb := hB34.size
 refine WL.appMb underlying62 inf114 rfl rfl rfl ho29 rfl (hob28).rowp (by simp only [List.length_cons, List.length_nil]; omega) (by simp only [List.length_cons, List.length_nil]; omega) (z_le) rfl (fun h => absurd h (List.cons_ne_nil _ _)) (fun v35 w36 how36 hbw36 hgw36 hfw36 => ?_)
 have hk37 := hk30.grown hgw36 (by rw [← evc]; exact hbv)
 have hB39 := KeepB.trans hB34 (KeepB.of_grown hgw36 (fun g hg => .inl (List.mem_cons_of_mem _ (Option.mem_toList.2 (by rw [evc]; exact hg)))) hB34.size)
 have hnf0 := hfw36
 refine WL.nil <| ?_
 refine WY.tk 8 rfl (.nck rfl) rfl ?_
 refine WY.tk 9 rfl (.fa underlying65 rfl sizeOf62 dD rfl) rfl ?_
 refine WY.br1 10 rfl ?_
 refine WL.st sizeOf62 rfl rfl (how36).one hk37 oD (fun w40 hkw40 huw40 hsw40 => ?_)
 have hkw40 : Blk w40 b _ _ := hkw40
 have huw40 : Upd b _ _ := huw40
 have ho41 := OwnM.upd how36 huw40 (fun g hg e => by subst e; rcases hnf0 _ hg with h | h <;> first | exact hbv (by rw [evc]; exact h) | omega)
 have hB43 := KeepB.trans hB39 (by first | exact KeepB.of_new huw40 oO | exact KeepB.of_mem huw40 (by simp))
 have hov := ho41
 refine WL.nil <| ?_
 refine WY.done kR ?_
 refine W.norm (W.ret0 rfl ?_)
 rw [hN]
 have hnf1 : ∀ g, _ = some g → H.vc.ownBlock = some g ∨ w.heap.size ≤ g := fun g hg => (hnf0 g hg).imp (fun h => by rw [evc]; exact h) (fun h => Nat.le_trans hsb h)
 obtain ⟨hA, hold⟩ := hS.addK (o1 := none) (t1 := .no) (w3 := w40) hS.lc (fun g hg => by cases hg) hnf1 (fun g h1 h2 h3 => hB43.block g h1 (notin_of h2 h3))
 obtain ⟨q1, q2⟩ := St.addNew (w := w) (w3 := w40) (o1 := none) (t1 := .no) hS.lc (by nofun) hlt (fun g hg => by cases hg) (fun g hg => ⟨hnf1 g hg, (hov.lt g hg).2⟩) hB43.size
 obtain ⟨lab3, hS3, hlt3, hnew3, hold3⟩ : ∃ lab3, St lab3 w40 b { H with vc := _ } { S with changes := S.changes ++ [c] } ∧ (∀ g, lab3 g ≠ .no → g < w40.heap.size) ∧ (∀ g, lab3 g ≠ .no → lab g ≠ .no ∨ w.heap.size ≤ g) ∧ (∀ g, g < w.heap.size → lab3 g = lab g) := ⟨_, hS.addChangeK hlt hA hold (by rw [evt, evl, evd, evm]; exact hkw40) hov, q1, q2, hold⟩
 exact ⟨rfl, lab3, _, hS3, hlt3, hnew3, hold3, hB43⟩
 refine WL.bslM (L := chL) (ps := _) ([c]) underlying62 sizeOf114 zeroValue114 rfl rfl rfl rfl rfl (by first | rfl | decide) rfl rfl (fun b44 wb44 eb44 hob44 hub44 hsb44 => ?_)
 have ho45 := OwnM.new ho8 eb44 hub44
 have hl47 : b < b44 := by rw [eb44]; exact hk9.lt
 have hk46 := hk9.upd hub44 (Nat.ne_of_lt hl47)
 have hl49 : b1 < b44 := by rw [eb44]; exact hk10.lt
 have hgeb44 : w.heap.size ≤ b44 := by rw [eb44]; exact hB11.size
 have hB50 := KeepB.trans hB11 (KeepB.of_new hub44 hgeb44)
 have hleb44 : b44 ≤ wb44.heap.size := by omega
 refine WL.nil <| ?_
 refine WY.br1 4 rfl ?_
 refine WL.r (Rd.ld (isAgg62 _) rfl hk46 rfl) rfl <| WL.nil <| ?_
 refine WY.br1 7 rfl ?_
 have hsb := hB50.size
 refine WL.appMb underlying62 inf114 rfl rfl rfl ho45 rfl (hob44).rowp (by simp only [List.length_cons, List.length_nil]; omega) (by simp only [List.length_cons, List.length_nil]; omega) (z_le) rfl (fun h => absurd h (List.cons_ne_nil _ _)) (fun v51 w52 how52 hbw52 hgw52 hfw52 => ?_)
 have hk53 := hk46.grown hgw52 (by rw [← evc]; exact hbv)
 have hB55 := KeepB.trans hB50 (KeepB.of_grown hgw52 (fun g hg => .inl (List.mem_cons_of_mem _ (Option.mem_toList.2 (by rw [evc]; exact hg)))) hB50.size)
 have hnf0 := hfw52
 refine WL.nil <| ?_
 refine WY.tk 8 rfl (.nck rfl) rfl ?_
 refine WY.tk 9 rfl (.fa underlying65 rfl sizeOf62 dD rfl) rfl ?_
 refine WY.br1 10 rfl ?_
 refine WL.st sizeOf62 rfl rfl (how52).one hk53 oD (fun w56 hkw56 huw56 hsw56 => ?_)
 have hkw56 : Blk w56 b _ _ := hkw56
 have huw56 : Upd b _ _ := huw56
 have ho57 := OwnM.upd how52 huw56 (fun g hg e => by subst e; rcases hnf0 _ hg with h | h <;> first | exact hbv (by rw [evc]; exact h) | omega)
 have hB59 := KeepB.trans hB55 (by first | exact KeepB.of_new huw56 oO | exact KeepB.of_mem huw56 (by simp))
 have hov := ho57
 refine WL.nil <| ?_
 refine WY.done kR ?_
 refine W.norm (W.ret0 rfl ?_)
 rw [hN]
 have hnf1 : ∀ g, _ = some g → H.vc.ownBlock = some g ∨ w.heap.size ≤ g := fun g hg => (hnf0 g hg).imp (fun h => by rw [evc]; exact h) (fun h => Nat.le_trans hsb h)
 obtain ⟨hA, hold⟩ := hS.addK (o1 := none) (t1 := .no) (w3 := w56) hS.lc (fun g hg => by cases hg) hnf1 (fun g h1 h2 h3 => hB59.block g h1 (notin_of h2 h3))
 obtain ⟨q1, q2⟩ := St.addNew (w := w) (w3 := w56) (o1 := none) (t1 := .no) hS.lc (by nofun) hlt (fun g hg => by cases hg) (fun g hg => ⟨hnf1 g hg, (hov.lt g hg).2⟩) hB59.size
 obtain ⟨lab3, hS3, hlt3, hnew3, hold3⟩ : ∃ lab3, St lab3 w56 b { H with vc := _ } { S with changes := S.changes ++ [c] } ∧ (∀ g, lab3 g ≠ .no → g < w56.heap.size) ∧ (∀ g, lab3 g ≠ .no → lab g ≠ .no ∨ w.heap.size ≤ g) ∧ (∀ g, g < w.heap.size → lab3 g = lab g) := ⟨_, hS.addChangeK hlt hA hold (by rw [evt, evl, evd, evm]; exact hkw56) hov, q1, q2, hold⟩
 exact ⟨rfl, lab3, _, hS3, hlt3, hnew3, hold3, hB59⟩
 have h6' := dF h6
 have hN : noteS S c = S := if_neg oO
 refine W.skip ?_
 refine W.norm (W.ret0 rfl ?_)
 have hbw : Below w.heap.size w wb1 := Upd.below (Below.refl _ _) oO hub1
 rw [hN]; exact ⟨rfl, lab, H.vc, hS.noteBelow hlt hbw, fun g hg => Nat.lt_of_lt_of_le (hlt g hg) hbw.size, fun g hg => .inl hg, fun g hg => rfl, hB5⟩
def lockE (S : StoV) (o : ObjV) (a : Int) : Int := if isDict S o = true ∧ 0 ≤ a ∧ a ≤ 3 then 0 else 21
def lockS (S : StoV) (o : ObjV) (a : Int) : StoV :=
 if lockE S o a = 0 then { noteS S ⟨4, o.ref, (S.dicts.getD o.ref.toNat dic0).access, (ob0, ob0)⟩ with dicts := S.dicts.set o.ref.toNat { S.dicts.getD o.ref.toNat dic0 with access := a } } else S
theorem noteS_dicts (S : StoV) (c : ChV) : (noteS S c).dicts = S.dicts := by unfold noteS; split <;> rfl
set_option maxHeartbeats 1600000 in
theorem sto_Lock (b : Nat) (F : Nat → Prop) (S : StoV) (o : ObjV) (a : Int) (w : World) (h : Sto w b F S) (hok : SOk S) (hch : S.changes.length ≤ 800000000000) :
    Calls Tryz.prog 34 #[.pointer (some ⟨b, 0, none⟩), .agg (objV o).toArray, .int .i64 a] w fun e w' => e = .returned (.int .i64 (lockE S o a)) ∧ ∃ F1, Sto w' b F1 (lockS S o a) ∧ Chg F F1 w w' := by
  refine W.enter func34 rfl ntmps34 (Nat.le_of_ble_eq_true rfl) ?_
  have hB0 := Chg.refl F w
  refine W.sr <| WL.box rfl rfl (fun b1 wb1 eb1 hkb1 hub1 hsb1 => ?_)
  have hF2 := Sto.same (w1 := wb1) h (fun k hk hl => hub1.other k oO)
  have hgeb1 : w.heap.size ≤ b1 := by rw [eb1]; exact hB0.size
  have hB3 := Chg.upd hB0 hub1 hgeb1
  have hnf4 : ¬ F b1 := fun hq => by have hq1 := (h).lt hq; omega
  refine WL.z rfl rfl ?_
  refine W.seq <| W.sr <| WL.m rfl rfl <| WL.r (Rd.ldA rfl hkb1 underlying27 rfl isz27) rfl <| WL.c1 hb25 rfl rfl ((sto_is b F S o 8 _ hF2 hok)) (fun w5 hw5 => ?_)
  have hF6 := Sto.same (w1 := w5) hF2 (fun k hk hl => hw5.block k hl)
  have hk7 := hkb1.below hw5 hkb1.lt
  have hB8 := Chg.low hB3 hw5
  refine WL.p (.not rfl) rfl <| WL.m rfl rfl <| WL.gd rfl rfl rfl (fun g9 => ?_) (fun g9 => ?_)
  · have g9' := (nF g9)
    refine WL.m rfl rfl <| WL.gy rfl rfl rfl (by rw [(nF g9)] <;> rfl) <| WL.p (.lss rfl rfl) rfl <| WL.p (.pkF rfl (by rw [(nF g9)] <;> rfl) rfl) rfl <| WL.m rfl rfl <| WL.gd rfl rfl rfl (fun g10 => ?_) (fun g10 => ?_)
    · have g10' := dF g10
      refine WL.m rfl rfl <| WL.gy rfl rfl rfl g10 <| WL.p (.gtr rfl rfl) rfl <| WL.p (.pkF rfl g10 rfl) rfl <| WL.nil <| ?_
      refine W.cond rfl (fun h11 => ?_) (fun h11 => ?_)
      · have h11' := dT h11
        refine W.sr <| WL.z rfl rfl ?_
        refine W.ret (W.ret1 rfl rfl ?_)
        first
        | exact ⟨riE hE.symm, _, hF6, hB8⟩
        | (have hE : lockE S o a = 21 := if_neg (fun hq => by obtain ⟨q1, q2, q3⟩ := hq; unfold isDict at q1; first | omega | simp_all)
           exact ⟨riE hE.symm, _, (by unfold lockS; rw [if_neg (by rw [hE]; decide)]; exact hF6), hB8⟩)
      have h11' := dF h11
      refine W.skip <| W.seq ?_
      have hv : isDict S o = true := by unfold isDict; simp_all
      have hE : lockE S o a = 0 := if_pos ⟨hv, by omega⟩
      obtain ⟨i, e1, hi⟩ := isDict_at hv
      have hst := hF6
      obtain ⟨lab, H, hF, hlt, hS⟩ := hst
      obtain ⟨pt, ct, pl, cl, pd, cd, pc, cc, pm, cm, hr, -, -, -, -, -, -, -, hrd⟩ := hS.opn
      have hrd1 := hrd.atP
      have hi1 : i < H.ds.length := by rw [hS.di.len]; exact hi
      have hi2 : i < H.dp.length := by rw [hS.di.len2]; exact hi
      obtain ⟨hkd, hld, -, -⟩ := hS.di.el i _ _ _ (get_of hi1) (get_of hi2) (get_of hi)
      have hSL0 : StL w5.heap.size lab w5 b H S := ⟨hlt, hlt, hS⟩
      refine W.regQ mixed kR ?_
      refine WQ.p (.mv rfl) rfl <| WQ.p (.nck rfl) rfl <| WQ.p (.fa underlying65 rfl sizeOf61 dD rfl) rfl <| WQ.r (fun m => Rd.ld (isAgg61 _) rfl hr rfl) rfl <| WQ.p (.fa underlying27 rfl sizeOf3 dD rfl) rfl <| WQ.r (fun m => Rd.ld (isAgg3 _) rfl hk7 rfl) rfl <| WQ.p (.ixb underlying61 sizeOf106 rfl rfl (hrd1.isp oO) (i) oO (hi1)) rfl <| WQ.r (fun m => Rd.ldc (isAgg106 _) rfl ((hrd1.drewN m).cells (i) (hi1))) rfl <| WQ.p (.as rfl) rfl <| WQ.nil (fun w12 dw12 => ?_)
      have hF14 := StL.same (w1 := w12) hSL0 (fun k hk hl => (by obtain ⟨m, rfl⟩ := dw12; rfl))
      have hk15 := hk7.drew dw12
      have hk17 := hkd.drew dw12
      have hB19 := Chg.drew hB8 dw12
      refine W.seq <| W.regH 9 rfl mixed (fun w' => w'.heap[H.ds[i]]? = w12.heap[H.ds[i]]? ∧ w'.heap[b1]? = w12.heap[b1]? ∧ True) (fun w20 dw20 => ?_)
      have hF22 := StL.same (w1 := w20) hF14 (fun k hk hl => (by obtain ⟨m, rfl⟩ := dw20; rfl))
      have hk23 := hk15.drew dw20
      have hk25 := hk17.drew dw20
      have hB27 := Chg.drew hB19 dw20
      refine WH.tp 0 rfl (.mv rfl) ⟨(hk25).trans (hk17).symm, (hk23).trans (hk15).symm, trivial⟩ rfl ?_
      refine WH.tp 1 rfl (.fa underlying27 rfl sizeOf3 dD rfl) ⟨(hk25).trans (hk17).symm, (hk23).trans (hk15).symm, trivial⟩ rfl ?_
      refine WH.tk 2 rfl (fun w' hw' => Rd.ld (isAgg3 _) rfl ((hw'.2.1).trans hk15) rfl) ⟨(hk25).trans (hk17).symm, (hk23).trans (hk15).symm, trivial⟩ rfl ?_
      refine WH.tp 3 rfl (.mv rfl) ⟨(hk25).trans (hk17).symm, (hk23).trans (hk15).symm, trivial⟩ rfl ?_
      refine WH.tp 4 rfl (.nck rfl) ⟨(hk25).trans (hk17).symm, (hk23).trans (hk15).symm, trivial⟩ rfl ?_
      refine WH.tp 5 rfl (.fa underlying109 rfl sizeOf3 dD rfl) ⟨(hk25).trans (hk17).symm, (hk23).trans (hk15).symm, trivial⟩ rfl ?_
      refine WH.tk 6 rfl (fun w' hw' => Rd.ld (isAgg3 _) rfl ((hw'.1).trans hk17) rfl) ⟨(hk25).trans (hk17).symm, (hk23).trans (hk15).symm, trivial⟩ rfl ?_
      refine WH.tp 7 rfl (.build (ps := _) (cs := (chL.V ⟨4, o.ref, S.dicts[i].access, (ob0, ob0)⟩).toArray) rfl (by rw [blt114]; rfl)) ⟨(hk25).trans (hk17).symm, (hk23).trans (hk15).symm, trivial⟩ rfl ?_
      refine WH.br1 8 rfl ?_
      refine WL.c1 hb53 rfl rfl ((sto_note lab b H S ⟨4, o.ref, S.dicts[i].access, (ob0, ob0)⟩ _ (hF22).st (hF22).inn hch)) (fun w28 hw28 => ?_)
      obtain ⟨lab1, vc1, hS1, hlt1, hnew1, hold1, hK1⟩ := hw28
      obtain ⟨F1, hF1⟩ : ∃ F1 : Nat → Prop, ∀ g, F1 g ↔ lab1 g ≠ .no := ⟨_, fun _ => Iff.rfl⟩
      have hCn : Chg F F1 _ w28 := (((hF22).st.chg hF hS.lc (by nofun) hK1)).grow (fun g hg => (hnew1 g ((hF1 g).1 hg)).imp (fun h => (hF g).2 h) id)
      have hst1 : Sto w28 b F1 _ := ⟨lab1, _, hF1, hlt1, hS1⟩
      obtain ⟨hkd1, hld1, -, -⟩ := hS1.di.el i _ _ _ (get_of hi1) (get_of hi2) (by rw [noteS_dicts]; exact get_of hi)
      have hnf29 := Chg.nf hCn hnf4 hk23.lt
      have hk30 := Blk.chg hk23 hCn hnf4
      have hB31 := Chg.trans hB27 hCn
      refine WL.nil <| ?_
      refine ⟨⟨(hkd1).trans (hk17).symm, (hk30).trans (hk15).symm, trivial⟩, ?_⟩
      refine WH.done kR ?_
      refine W.sr <| WL.m rfl rfl <| WL.m rfl rfl <| WL.p (.nck rfl) rfl <| WL.p (.fa underlying109 rfl sizeOf3 dD rfl) rfl <| WL.st sizeOf3 rfl rfl rfl hkd1 (Nat.le_of_ble_eq_true rfl) (fun w91 hk91 hu91 hs91 => ?_)
      have hS2 := hS1.setAccess (get_of hi1) (get_of hi2) (by rw [noteS_dicts]; exact get_of hi) hu91 hk91
      have hC91 : Chg F1 F1 w28 w91 := Chg.only (Only.of_upd hu91 hs91) (fun g e => by cases e; exact (hF1 _).2 (by rw [hld1]; nofun))
      have hst2 : Sto w91 b F1 (lockS S o a) := by
        refine ⟨lab1, { H with vc := vc1 }, hF1, fun g hg => by rw [hs91]; exact hlt1 g hg, ?_⟩
        have e : lockS S o a = { noteS S ⟨4, o.ref, S.dicts[i].access, (ob0, ob0)⟩ with dicts := (noteS S ⟨4, o.ref, S.dicts[i].access, (ob0, ob0)⟩).dicts.set i { S.dicts[i] with access := a } } := by
          unfold lockS
          rw [if_pos hE, noteS_dicts, e1, Int.toNat_natCast, List.getD_eq_getElem?_getD, get_of hi]; rfl
        rw [e]; exact hS2
      have hnf33 := Chg.nf hC91 hnf29 hk30.lt
      have hB35 := Chg.trans hB31 hC91
      refine WL.nil <| ?_
      refine W.sr <| WL.z rfl rfl ?_
      refine W.ret (W.ret1 rfl rfl ?_)
      first
      | exact ⟨riE hE.symm, _, hst2, hB35⟩
      | (have hE : lockE S o a = 21 := if_neg (fun hq => by obtain ⟨q1, q2, q3⟩ := hq; unfold isDict at q1; first | omega | simp_all)
         exact ⟨riE hE.symm, _, (by unfold lockS; rw [if_neg (by rw [hE]; decide)]; exact hst2), hB35⟩)
    have g10' := dT g10
    refine WL.gn rfl rfl rfl g10 <| WL.p (.pkT rfl g10 rfl) rfl <| WL.nil <| ?_
    refine W.condT rfl rfl ?_
    refine W.sr <| WL.z rfl rfl ?_
    refine W.ret (W.ret1 rfl rfl ?_)
    first
    | exact ⟨riE hE.symm, _, hF6, hB8⟩
    | (have hE : lockE S o a = 21 := if_neg (fun hq => by obtain ⟨q1, q2, q3⟩ := hq; unfold isDict at q1; first | omega | simp_all)
       exact ⟨riE hE.symm, _, (by unfold lockS; rw [if_neg (by rw [hE]; decide)]; exact hF6), hB8⟩)
  have g9' := (nT g9)
  refine WL.gn rfl rfl rfl (by rw [(nT g9)] <;> rfl) <| WL.p (.pkT rfl (by rw [(nT g9)] <;> rfl) rfl) rfl <| WL.m rfl rfl <| WL.gn rfl rfl rfl rfl <| WL.gn rfl rfl rfl rfl <| WL.p (.pkT rfl rfl rfl) rfl <| WL.nil <| ?_
  refine W.condT rfl rfl ?_
  refine W.sr <| WL.z rfl rfl ?_
  refine W.ret (W.ret1 rfl rfl ?_)
  first
  | exact ⟨riE hE.symm, _, hF6, hB8⟩
  | (have hE : lockE S o a = 21 := if_neg (fun hq => by obtain ⟨q1, q2, q3⟩ := hq; unfold isDict at q1; first | omega | simp_all)
     exact ⟨riE hE.symm, _, (by unfold lockS; rw [if_neg (by rw [hE]; decide)]; exact hF6), hB8⟩)
end
section
def truO (x : Bool) : ObjV := { ob0 with kind := 3, n := if x then 1 else 0 }
theorem conv_truth (x : Bool) (w : World) : Calls Tryz.prog 38 #[.bool x] w fun e w' => e = .returned (.agg (objV (truO x)).toArray) ∧ Below w.heap.size w w' := by
 refine W.enter func38 rfl ntmps38 (Nat.le_of_ble_eq_true rfl) ?_
 have hB0 := Below.refl (w.heap.size) w
 refine W.sr <| WL.alloc zeroValue27 rfl (fun b1 wb1 eb1 hkb1 hub1 hsb1 => ?_)
 have hB2 := Upd.below hB0 (by rw [eb1]; exact hB0.size) hub1
 have hgeb1 : w.heap.size ≤ b1 := by rw [eb1]; exact hB0.size
 refine WL.nil <| ?_
 refine W.seq <| W.sr <| WL.m rfl rfl <| WL.nil <| ?_
 refine W.cond rfl (fun h3 => ?_) (fun h3 => ?_)
 refine W.sr <| WL.p (.buildL (ps := _) blt27 rfl rfl rfl pS) rfl ?_
 refine WL.stL rfl rfl hkb1 isz27 rfl rfl (fun w4 hkw4 huw4 hsw4 => ?_)
 have hB5 := Upd.below hB2 oO huw4
 refine WL.nil <| ?_
 refine W.ret (W.retc1 rfl rfl (ldRow hkw4 underlying27 rfl isz27)  ?_)
 exact ⟨rvE (by rw [show x = true by assumption]; rfl), hB5⟩
 refine W.skip <| W.sr <| WL.p (.buildL (ps := _) blt27 rfl rfl rfl pS) rfl ?_
 refine WL.stL rfl rfl hkb1 isz27 rfl rfl (fun w6 hkw6 huw6 hsw6 => ?_)
 have hB7 := Upd.below hB2 oO huw6
 refine WL.nil <| ?_
 refine W.ret (W.retc1 rfl rfl (ldRow hkw6 underlying27 rfl isz27)  ?_)
 exact ⟨rvE (by rw [show x = false by assumption]; rfl), hB7⟩
def typedB (o : ObjV) : Bool := decide (o.kind = 7) || decide (o.kind = 6) || decide (o.kind = 8)
theorem conv_typed (o : ObjV) (w : World) : Calls Tryz.prog 58 #[.agg (objV o).toArray] w fun e w' => e = .returned (.bool (typedB o)) ∧ Below w.heap.size w w' := by
 refine W.enter func58 rfl ntmps58 (Nat.le_of_ble_eq_true rfl) ?_
 have hB0 := Below.refl (w.heap.size) w
 refine W.sr <| WL.box rfl rfl (fun b1 wb1 eb1 hkb1 hub1 hsb1 => ?_)
 have hB2 := Upd.below hB0 (by rw [eb1]; exact hB0.size) hub1
 have hgeb1 : w.heap.size ≤ b1 := by rw [eb1]; exact hB0.size
 refine WL.z rfl rfl ?_
 refine W.sr <| WL.p (.fa underlying27 rfl sizeOf3 dD rfl) rfl <| WL.r (Rd.ld (isAgg3 _) rfl hkb1 rfl) rfl <| WL.p (.eql rfl rfl) rfl <| WL.m rfl rfl <| WL.gd rfl rfl rfl (fun g3 => ?_) (fun g3 => ?_)
 have g3' := dF g3
 refine WL.p (.fa underlying27 rfl sizeOf3 dD rfl) rfl <| WL.gy rfl rfl rfl g3 <| WL.r (Rd.ld (isAgg3 _) rfl hkb1 rfl) rfl <| WL.gy rfl rfl rfl g3 <| WL.p (.eql rfl rfl) rfl <| WL.p (.pkF rfl g3 rfl) rfl <| WL.m rfl rfl <| WL.gd rfl rfl rfl (fun g4 => ?_) (fun g4 => ?_)
 have g4' := dF g4
 refine WL.p (.fa underlying27 rfl sizeOf3 dD rfl) rfl <| WL.gy rfl rfl rfl g4 <| WL.r (Rd.ld (isAgg3 _) rfl hkb1 rfl) rfl <| WL.gy rfl rfl rfl g4 <| WL.p (.eql rfl rfl) rfl <| WL.p (.pkF rfl g4 rfl) rfl <| WL.z rfl rfl ?_
 refine W.ret (W.ret1 rfl rfl ?_)
 exact ⟨rbE (by unfold typedB; simp_all), hB2⟩
 have g4' := dT g4
 refine WL.gn rfl rfl rfl g4 <| WL.gn rfl rfl rfl g4 <| WL.p (.pkT rfl g4 rfl) rfl <| WL.z rfl rfl ?_
 refine W.ret (W.ret1 rfl rfl ?_)
 exact ⟨rbE (by unfold typedB; simp_all), hB2⟩
 have g3' := dT g3
 refine WL.gn rfl rfl rfl g3 <| WL.gn rfl rfl rfl g3 <| WL.p (.pkT rfl g3 rfl) rfl <| WL.m rfl rfl <| WL.gn rfl rfl rfl rfl <| WL.gn rfl rfl rfl rfl <| WL.gn rfl rfl rfl rfl <| WL.p (.pkT rfl rfl rfl) rfl <| WL.z rfl rfl ?_
 refine W.ret (W.ret1 rfl rfl ?_)
 exact ⟨rbE (by unfold typedB; simp_all), hB2⟩
def rcheckL : List UInt8 := [114, 99, 104, 101, 99, 107]
def chkO (S : StoV) (s : List UInt8) (o : ObjV) : ObjV × Int :=
 if typedB o = true then (truO (if s = rcheckL then readB S o else decide (accO S o = 0)), 0) else (ob0, 16)
theorem conv_check (b : Nat) (F : Nat → Prop) (S : StoV) (s : List UInt8) (o : ObjV) (w : World) (h : Sto w b F S) (hok : SOk S) :
  Calls Tryz.prog 42 #[workV b, .string (bs s), .agg (objV o).toArray] w fun e w' => e = .returned (pairV (chkO S s o)) ∧ Below w.heap.size w w' := by
 refine W.enter func42 rfl ntmps42 (Nat.le_of_ble_eq_true rfl) ?_
 have hB0 := Below.refl (w.heap.size) w
 refine W.sr <| WL.box rfl rfl (fun b1 wb1 eb1 hkb1 hub1 hsb1 => ?_)
 have hB2 := Upd.below hB0 (by rw [eb1]; exact hB0.size) hub1
 have hgeb1 : w.heap.size ≤ b1 := by rw [eb1]; exact hB0.size
 refine WL.box rfl rfl (fun b3 wb3 eb3 hkb3 hub3 hsb3 => ?_)
 have hl5 : b1 < b3 := by rw [eb3]; exact hkb1.lt
 have hk4 := hkb1.upd hub3 (Nat.ne_of_lt hl5)
 have hB6 := Upd.below hB2 (by rw [eb3]; exact hB2.size) hub3
 have hgeb3 : w.heap.size ≤ b3 := by rw [eb3]; exact hB2.size
 refine WL.alloc zeroValue27 rfl (fun b7 wb7 eb7 hkb7 hub7 hsb7 => ?_)
 have hl9 : b1 < b7 := by rw [eb7]; exact hk4.lt
 have hk8 := hk4.upd hub7 (Nat.ne_of_lt hl9)
 have hl11 : b3 < b7 := by rw [eb7]; exact hkb3.lt
 have hk10 := hkb3.upd hub7 (Nat.ne_of_lt hl11)
 have hB12 := Upd.below hB6 (by rw [eb7]; exact hB6.size) hub7
 have hgeb7 : w.heap.size ≤ b7 := by rw [eb7]; exact hB6.size
 refine WL.z rfl rfl ?_
 refine W.seq <| W.block <| W.sr <| WL.r (Rd.ldA rfl hk10 underlying27 rfl isz27) rfl <| WL.c1 hb58 rfl rfl ((conv_typed o _)) (fun w13 hw13 => ?_)
 have hk14 := hk8.below hw13 hk8.lt
 have hk15 := hk10.below hw13 hk10.lt
 have hk16 := hkb7.below hw13 hkb7.lt
 have hB17 := btr hB12 hw13
 refine WL.p (.not rfl) rfl <| WL.z rfl rfl ?_
 refine W.cond rfl (fun h18 => ?_) (fun h18 => ?_)
 have h18' := (nT h18)
 refine W.sr <| WL.p (.buildL (ps := _) blt27 rfl rfl rfl pZ) rfl ?_
 refine WL.stL rfl rfl hk16 isz27 rfl rfl (fun w19 hkw19 huw19 hsw19 => ?_)
 have hB22 := Upd.below hB17 oO huw19
 refine WL.z rfl rfl ?_
 refine W.ret (W.retc2 rfl rfl (ldRow hkw19 underlying27 rfl isz27) rfl ?_)
 exact ⟨rvE (by unfold pairV chkO; rw [if_neg (by simp_all)]; rfl), hB22⟩
 have h18' := (nF h18)
 refine W.sr <| WL.m rfl rfl <| WL.p (.eqs rfl rfl) rfl <| WL.z rfl rfl ?_
 refine W.cond rfl (fun h23 => ?_) (fun h23 => ?_)
 have h23' := dT h23
 refine W.sr <| WL.r (Rd.ldA rfl hk14 underlying72 rfl isz72) rfl <| WL.r (Rd.ldA rfl hk15 underlying27 rfl isz27) rfl <| WL.c1 hb57 rfl rfl ((conv_readable b F S o _ (h.below hB17) hok)) (fun w24 hw24 => ?_)
 have hk27 := hk16.below hw24 hk16.lt
 have hB28 := btr hB17 hw24
 refine WL.c1 hb38 rfl rfl ((conv_truth _ _)) (fun w29 hw29 => ?_)
 have hk32 := hk27.below hw29 hk27.lt
 have hB33 := btr hB28 hw29
 refine WL.stL rfl rfl hk32 isz27 rfl rfl (fun w34 hkw34 huw34 hsw34 => ?_)
 have hB37 := Upd.below hB33 oO huw34
 refine WL.z rfl rfl ?_
 refine W.ret (W.retc2 rfl rfl (ldRow hkw34 underlying27 rfl isz27) rfl ?_)
 exact ⟨rvE (by unfold pairV chkO; rw [if_pos (by simp_all), if_pos aS] <;> (first | done | rfl)), hB37⟩
 have h23' := dF h23
 refine W.skip <| W.sr <| WL.r (Rd.ldA rfl hk14 underlying72 rfl isz72) rfl <| WL.r (Rd.ldA rfl hk15 underlying27 rfl isz27) rfl <| WL.c1 hb44 rfl rfl ((conv_writable b F S o _ (h.below hB17) hok)) (fun w38 hw38 => ?_)
 have hk41 := hk16.below hw38 hk16.lt
 have hB42 := btr hB17 hw38
 refine WL.c1 hb38 rfl rfl ((conv_truth _ _)) (fun w43 hw43 => ?_)
 have hk46 := hk41.below hw43 hk41.lt
 have hB47 := btr hB42 hw43
 refine WL.stL rfl rfl hk46 isz27 rfl rfl (fun w48 hkw48 huw48 hsw48 => ?_)
 have hB51 := Upd.below hB47 oO huw48
 refine WL.z rfl rfl ?_
 refine W.ret (W.retc2 rfl rfl (ldRow hkw48 underlying27 rfl isz27) rfl ?_)
 exact ⟨rvE (by unfold pairV chkO; rw [if_pos (by simp_all), if_neg aS] <;> (first | done | rfl)), hB51⟩
def lockTo (s : List UInt8) : Int := if s = [101, 120, 101, 99, 117, 116, 101, 111, 110, 108, 121] then 2 else if s = [110, 111, 97, 99, 99, 101, 115, 115] then 3 else 1
def lkO (S : StoV) (s : List UInt8) (o : ObjV) : ObjV × Int :=
 if typedB o = false ∨ (o.kind = 8 ∧ lockTo s = 2) then (ob0, 16) else if lockTo s ≠ 3 ∧ accO S o = 3 then (ob0, 5)
 else if o.kind = 8 then (o, 0) else ({ o with access := if lockTo s > o.access then lockTo s else o.access }, 0)
def lkS (S : StoV) (s : List UInt8) (o : ObjV) : StoV :=
 if typedB o = false ∨ (o.kind = 8 ∧ lockTo s = 2) then S else if lockTo s ≠ 3 ∧ accO S o = 3 then S
 else if o.kind = 8 then lockS S o (if lockTo s > accO S o then lockTo s else accO S o) else S
set_option maxHeartbeats 3200000 in
theorem conv_lock (b : Nat) (F : Nat → Prop) (S : StoV) (s : List UInt8) (o : ObjV) (w : World) (h : Sto w b F S) (hok : SOk S) (hch : S.changes.length ≤ 800000000000) :
  Calls Tryz.prog 43 #[workV b, .string (bs s), .agg (objV o).toArray] w fun e w' => e = .returned (pairV (lkO S s o)) ∧ ∃ F1, Sto w' b F1 (lkS S s o) ∧ Chg F F1 w w' := by
 refine W.enter func43 rfl ntmps43 (Nat.le_of_ble_eq_true rfl) ?_
 have hB0 := Chg.refl F w
 refine W.sr <| WL.box rfl rfl (fun b1 wb1 eb1 hkb1 hub1 hsb1 => ?_)
 have hF2 := Sto.same (w1 := wb1) h (fun k hk hl => hub1.other k oO)
 have hgeb1 : w.heap.size ≤ b1 := by rw [eb1]; exact hB0.size
 have hB3 := Chg.upd hB0 hub1 hgeb1
 have hnf4 : ¬ F b1 := fun hq => by have hq1 := (h).lt hq; omega
 refine WL.box rfl rfl (fun b5 wb5 eb5 hkb5 hub5 hsb5 => ?_)
 have hF6 := Sto.same (w1 := wb5) hF2 (fun k hk hl => hub5.other k oO)
 have hl8 : b1 < b5 := by rw [eb5]; exact hkb1.lt
 have hk7 := hkb1.upd hub5 (Nat.ne_of_lt hl8)
 have hgeb5 : w.heap.size ≤ b5 := by rw [eb5]; exact hB3.size
 have hB9 := Chg.upd hB3 hub5 hgeb5
 have hnf10 : ¬ F b5 := fun hq => by have hq1 := (hF2).lt hq; omega
 refine WL.alloc zeroValue27 rfl (fun b11 wb11 eb11 hkb11 hub11 hsb11 => ?_)
 have hF12 := Sto.same (w1 := wb11) hF6 (fun k hk hl => hub11.other k oO)
 have hl14 : b1 < b11 := by rw [eb11]; exact hk7.lt
 have hk13 := hk7.upd hub11 (Nat.ne_of_lt hl14)
 have hl16 : b5 < b11 := by rw [eb11]; exact hkb5.lt
 have hk15 := hkb5.upd hub11 (Nat.ne_of_lt hl16)
 have hgeb11 : w.heap.size ≤ b11 := by rw [eb11]; exact hB9.size
 have hB17 := Chg.upd hB9 hub11 hgeb11
 have hnf18 : ¬ F b11 := fun hq => by have hq1 := (hF6).lt hq; omega
 refine WL.z rfl rfl ?_
 refine W.sr <| WL.z rfl rfl ?_
 refine W.seq <| W.sr <| WL.m rfl rfl <| WL.nil <| ?_
 refine W.block <| W.sr <| WL.p (.eqs rfl rfl) rfl <| WL.z rfl rfl ?_
 refine W.cond rfl (fun h19 => ?_) (fun h19 => ?_)
 have h19' := dT h19
 have hto : lockTo s = 2 := if_pos aS
 refine W.reg <| WL.z rfl rfl ?_
 refine W.seq <| W.block <| W.seq <| W.sr <| WL.r (Rd.ldA rfl hk15 underlying27 rfl isz27) rfl <| WL.c1 hb58 rfl rfl ((conv_typed o _)) (fun w20 hw20 => ?_)
 have hF21 := Sto.same (w1 := w20) hF12 (fun k hk hl => hw20.block k hl)
 have hk22 := hk13.below hw20 hk13.lt
 have hk23 := hk15.below hw20 hk15.lt
 have hk24 := hkb11.below hw20 hkb11.lt
 have hB25 := Chg.low hB17 hw20
 refine WL.p (.not rfl) rfl <| WL.z rfl rfl ?_
 refine W.cond rfl (fun h26 => ?_) (fun h26 => ?_)
 have h26' := (nT h26)
 refine W.skip <| W.condT rfl (by rw [(nT h26)] <;> rfl) ?_
 refine W.seq ?_
 have c1 : typedB o = false ∨ (o.kind = 8 ∧ lockTo s = 2) := by rw [hto]; simp_all
 have hO : lkO S s o = (ob0, 16) := if_pos c1
 have hT : lkS S s o = S := if_pos c1
 refine W.reg <| WL.p (.buildL (ps := _) blt27 rfl rfl rfl pZ) rfl ?_
 refine WL.stL rfl rfl hk24 isz27 rfl rfl (fun w27 hkw27 huw27 hsw27 => ?_)
 have hF28 := Sto.same (w1 := w27) hF21 (fun k hk hl => huw27.other k (fun e => hnf18 (e ▸ hk)))
 have hB31 := Chg.upd hB25 huw27 oO
 refine WL.z rfl rfl ?_
 refine W.ret (W.retc2 rfl rfl (ldRow hkw27 underlying27 rfl isz27) rfl ?_)
 exact ⟨rvE (by rw [hO]; first | rfl | (rw [hto]; rfl)), _, by rw [hT]; first | exact hF28 | (rw [hto]; exact hF28), hB31⟩
 have h26' := (nF h26)
 refine W.reg <| WL.p (.fa underlying27 rfl sizeOf3 dD rfl) rfl <| WL.r (Rd.ld (isAgg3 _) rfl hk23 rfl) rfl <| WL.p (.eql rfl rfl) rfl <| WL.m rfl rfl <| WL.gd rfl rfl rfl (fun g32 => ?_) (fun g32 => ?_)
 have g32' := dT g32
 refine WL.m rfl rfl <| WL.gy rfl rfl rfl g32 <| WL.p (.eql rfl rfl) rfl <| WL.p (.pkT rfl g32 rfl) rfl <| WL.z rfl rfl ?_
 refine W.cond rfl (fun h33 => ?_) (fun h33 => ?_)
 have h33' := dT h33
 refine W.seq ?_
 have c1 : typedB o = false ∨ (o.kind = 8 ∧ lockTo s = 2) := by rw [hto]; simp_all
 have hO : lkO S s o = (ob0, 16) := if_pos c1
 have hT : lkS S s o = S := if_pos c1
 refine W.reg <| WL.p (.buildL (ps := _) blt27 rfl rfl rfl pZ) rfl ?_
 refine WL.stL rfl rfl hk24 isz27 rfl rfl (fun w34 hkw34 huw34 hsw34 => ?_)
 have hF35 := Sto.same (w1 := w34) hF21 (fun k hk hl => huw34.other k (fun e => hnf18 (e ▸ hk)))
 have hB38 := Chg.upd hB25 huw34 oO
 refine WL.z rfl rfl ?_
 refine W.ret (W.retc2 rfl rfl (ldRow hkw34 underlying27 rfl isz27) rfl ?_)
 exact ⟨rvE (by rw [hO]; first | rfl | (rw [hto]; rfl)), _, by rw [hT]; first | exact hF35 | (rw [hto]; exact hF35), hB38⟩
 have h33' := dF h33
 refine W.seq ?_
 have c1 : ¬ (typedB o = false ∨ (o.kind = 8 ∧ lockTo s = 2)) := by rw [hto]; simp_all
 refine W.reg <| WL.m rfl rfl <| WL.p (.neq rfl rfl) rfl <| WL.m rfl rfl <| WL.gd rfl rfl rfl (fun g39 => ?_) (fun g39 => ?_)
 have g39' := ndT g39
 refine WL.r (Rd.ldA rfl hk22 underlying72 rfl isz72) rfl <| WL.gy rfl rfl rfl g39 <| WL.r (Rd.ldA rfl hk23 underlying27 rfl isz27) rfl <| WL.gy rfl rfl rfl g39 <| WL.c1 hb59 rfl rfl ((conv_access b F S o _ hF21 hok)) (fun w40 hw40 => ?_)
 have hF41 := Sto.same (w1 := w40) hF21 (fun k hk hl => hw40.block k hl)
 have hk42 := hk22.below hw40 hk22.lt
 have hk43 := hk23.below hw40 hk23.lt
 have hk44 := hk24.below hw40 hk24.lt
 have hB45 := Chg.low hB25 hw40
 refine WL.gy rfl rfl rfl g39 <| WL.p (.eql rfl rfl) rfl <| WL.p (.pkT rfl g39 rfl) rfl <| WL.z rfl rfl ?_
 refine W.cond rfl (fun h46 => ?_) (fun h46 => ?_)
 have h46' := dT h46
 refine W.seq ?_
 have c2 : lockTo s ≠ 3 ∧ accO S o = 3 := by rw [hto]; simp_all
 have hO : lkO S s o = (ob0, 5) := by unfold lkO; rw [if_neg c1, if_pos c2]
 have hT : lkS S s o = S := by unfold lkS; rw [if_neg c1, if_pos c2]
 refine W.reg <| WL.p (.buildL (ps := _) blt27 rfl rfl rfl pZ) rfl ?_
 refine WL.stL rfl rfl hk44 isz27 rfl rfl (fun w47 hkw47 huw47 hsw47 => ?_)
 have hF48 := Sto.same (w1 := w47) hF41 (fun k hk hl => huw47.other k (fun e => hnf18 (e ▸ hk)))
 have hB51 := Chg.upd hB45 huw47 oO
 refine WL.z rfl rfl ?_
 refine W.ret (W.retc2 rfl rfl (ldRow hkw47 underlying27 rfl isz27) rfl ?_)
 exact ⟨rvE (by rw [hO]; first | rfl | (rw [hto]; rfl)), _, by rw [hT]; first | exact hF48 | (rw [hto]; exact hF48), hB51⟩
 have h46' := dF h46
 refine W.seq ?_
 have c2 : ¬ (lockTo s ≠ 3 ∧ accO S o = 3) := by rw [hto]; simp_all
 refine W.reg <| WL.p (.fa underlying27 rfl sizeOf3 dD rfl) rfl <| WL.r (Rd.ld (isAgg3 _) rfl hk43 rfl) rfl <| WL.p (.eql rfl rfl) rfl <| WL.z rfl rfl ?_
 refine W.cond rfl (fun h52 => ?_) (fun h52 => ?_)
 have h52' := dT h52
 have c3 : o.kind = 8 := by assumption
 have hO : lkO S s o = (o, 0) := by unfold lkO; rw [if_neg c1, if_neg c2, if_pos c3]
 have hT : lkS S s o = lockS S o (if lockTo s > accO S o then lockTo s else accO S o) := by unfold lkS; rw [if_neg c1, if_neg c2, if_pos c3]
 refine W.regH 9 rfl mixed (fun w' => w'.heap[b1]? = w40.heap[b1]? ∧ w'.heap[b5]? = w40.heap[b5]? ∧ True) (fun w53 dw53 => ?_)
 have hF54 := Sto.same (w1 := w53) hF41 (fun k hk hl => (by obtain ⟨m, rfl⟩ := dw53; rfl))
 have hk55 := hk42.drew dw53
 have hk56 := hk43.drew dw53
 have hk57 := hk44.drew dw53
 have hB58 := Chg.drew hB45 dw53
 refine WH.tp 0 rfl (.fa underlying72 rfl sizeOf22 dD rfl) ⟨(hk55).trans (hk42).symm, (hk56).trans (hk43).symm, trivial⟩ rfl ?_
 refine WH.tk 1 rfl (fun w' hw' => Rd.ld (isAgg22 _) rfl ((hw'.1).trans hk42) rfl) ⟨(hk55).trans (hk42).symm, (hk56).trans (hk43).symm, trivial⟩ rfl ?_
 refine WH.tk 2 rfl (fun w' hw' => Rd.ldA rfl ((hw'.2.1).trans hk43) underlying27 rfl isz27) ⟨(hk55).trans (hk42).symm, (hk56).trans (hk43).symm, trivial⟩ rfl ?_
 refine WH.tk 3 rfl (fun w' hw' => Rd.ldA rfl ((hw'.1).trans hk42) underlying72 rfl isz72) ⟨(hk55).trans (hk42).symm, (hk56).trans (hk43).symm, trivial⟩ rfl ?_
 refine WH.tk 4 rfl (fun w' hw' => Rd.ldA rfl ((hw'.2.1).trans hk43) underlying27 rfl isz27) ⟨(hk55).trans (hk42).symm, (hk56).trans (hk43).symm, trivial⟩ rfl ?_
 refine WH.tp 6 rfl (.mv rfl) ⟨(hk55).trans (hk42).symm, (hk56).trans (hk43).symm, trivial⟩ rfl ?_
 refine WH.br1 5 rfl ?_
 refine WL.c1 hb59 rfl rfl ((conv_access b F S o _ hF54 hok)) (fun w59 hw59 => ?_)
 have hF60 := Sto.same (w1 := w59) hF54 (fun k hk hl => hw59.block k hl)
 have hk61 := hk55.below hw59 hk55.lt
 have hk62 := hk56.below hw59 hk56.lt
 have hk63 := hk57.below hw59 hk57.lt
 have hB64 := Chg.low hB58 hw59
 refine WL.nil <| ?_
 refine ⟨⟨(hk61).trans (hk42).symm, (hk62).trans (hk43).symm, trivial⟩, ?_⟩
 refine WH.tp 7 rfl (.max2 rfl rfl) ⟨(hk61).trans (hk42).symm, (hk62).trans (hk43).symm, trivial⟩ rfl ?_
 refine WH.br1 8 rfl ?_
 refine WL.c1 hb34 rfl rfl ((sto_Lock b F S o _ _ hF60 hok hch)) (fun w65 hw65 => ?_)
 obtain ⟨F66, hstF66, hCF66, hxF66⟩ := Chg.open hw65
 have hnf67 := Chg.nf hCF66 hnf4 hk61.lt
 have hnf68 := Chg.nf hCF66 hnf10 hk62.lt
 have hnf69 := Chg.nf hCF66 hnf18 hk63.lt
 have hk70 := Blk.chg hk61 hCF66 hnf4
 have hk71 := Blk.chg hk62 hCF66 hnf10
 have hk72 := Blk.chg hk63 hCF66 hnf18
 have hB73 := Chg.trans hB64 hCF66
 refine WL.nil <| ?_
 refine ⟨⟨(hk70).trans (hk42).symm, (hk71).trans (hk43).symm, trivial⟩, ?_⟩
 refine WH.done kR ?_
 refine W.sr <| WL.r (Rd.ldA rfl hk71 underlying27 rfl isz27) rfl <| WL.stL rfl rfl hk72 isz27 rfl rfl (fun w74 hkw74 huw74 hsw74 => ?_)
 have hF75 := Sto.same (w1 := w74) hstF66 (fun k hk hl => huw74.other k (fun e => hnf69 (e ▸ hk)))
 have hB78 := Chg.upd hB73 huw74 oO
 refine WL.z rfl rfl ?_
 refine W.ret (W.retc2 rfl rfl (ldRow hkw74 underlying27 rfl isz27) rfl ?_)
 exact ⟨rvE (by rw [hO]; first | rfl | (rw [hto]; rfl)), _, by rw [hT]; first | exact hF75 | (rw [hto]; exact hF75), hB78⟩
 have h52' := dF h52
 have c3 : ¬ o.kind = 8 := by assumption
 have hO : lkO S s o = ({ o with access := if lockTo s > o.access then lockTo s else o.access }, 0) := by unfold lkO; rw [if_neg c1, if_neg c2, if_neg c3]
 have hT : lkS S s o = S := by unfold lkS; rw [if_neg c1, if_neg c2, if_neg c3]
 refine W.reg <| WL.p (.fa underlying27 rfl sizeOf3 dD rfl) rfl <| WL.r (Rd.ld (isAgg3 _) rfl hk43 rfl) rfl <| WL.m rfl rfl <| WL.p (.max2 rfl rfl) rfl <| WL.p (.fa underlying27 rfl sizeOf3 dD rfl) rfl <| WL.st sizeOf3 rfl rfl rfl hk43 oD (fun w79 hkw79 huw79 hsw79 => ?_)
 have hkw79 : Blk w79 b5 _ _ := hkw79
 have huw79 : Upd b5 _ _ := huw79
 have hF80 := Sto.same (w1 := w79) hF41 (fun k hk hl => huw79.other k (fun e => hnf10 (e ▸ hk)))
 have hk82 := hk44.up huw79
 have hB83 := Chg.upd hB45 huw79 oO
 refine WL.nil <| ?_
 refine W.sr <| WL.r (Rd.ldA rfl hkw79 underlying27 rfl isz27) rfl <| WL.stL rfl rfl hk82 isz27 rfl rfl (fun w84 hkw84 huw84 hsw84 => ?_)
 have hF85 := Sto.same (w1 := w84) hF80 (fun k hk hl => huw84.other k (fun e => hnf18 (e ▸ hk)))
 have hB88 := Chg.upd hB83 huw84 oO
 refine WL.z rfl rfl ?_
 refine W.ret (W.retc2 rfl rfl (ldRow hkw84 underlying27 rfl isz27) rfl ?_)
 exact ⟨rvE (by rw [hO]; first | rfl | (rw [hto]; rfl)), _, by rw [hT]; first | exact hF85 | (rw [hto]; exact hF85), hB88⟩
 have g39' := ndF g39
 refine WL.gn rfl rfl rfl g39 <| WL.gn rfl rfl rfl g39 <| WL.gn rfl rfl rfl g39 <| WL.p (.pkF rfl g39 rfl) rfl <| WL.z rfl rfl ?_
 refine W.condF rfl rfl ?_
 refine W.seq ?_
 have c2 : ¬ (lockTo s ≠ 3 ∧ accO S o = 3) := by rw [hto]; simp_all
 refine W.reg <| WL.p (.fa underlying27 rfl sizeOf3 dD rfl) rfl <| WL.r (Rd.ld (isAgg3 _) rfl hk23 rfl) rfl <| WL.p (.eql rfl rfl) rfl <| WL.z rfl rfl ?_
 refine W.cond rfl (fun h89 => ?_) (fun h89 => ?_)
 have h89' := dT h89
 have c3 : o.kind = 8 := by assumption
 have hO : lkO S s o = (o, 0) := by unfold lkO; rw [if_neg c1, if_neg c2, if_pos c3]
 have hT : lkS S s o = lockS S o (if lockTo s > accO S o then lockTo s else accO S o) := by unfold lkS; rw [if_neg c1, if_neg c2, if_pos c3]
 refine W.regH 9 rfl mixed (fun w' => w'.heap[b1]? = w20.heap[b1]? ∧ w'.heap[b5]? = w20.heap[b5]? ∧ True) (fun w90 dw90 => ?_)
 have hF91 := Sto.same (w1 := w90) hF21 (fun k hk hl => (by obtain ⟨m, rfl⟩ := dw90; rfl))
 have hk92 := hk22.drew dw90
 have hk93 := hk23.drew dw90
 have hk94 := hk24.drew dw90
 have hB95 := Chg.drew hB25 dw90
 refine WH.tp 0 rfl (.fa underlying72 rfl sizeOf22 dD rfl) ⟨(hk92).trans (hk22).symm, (hk93).trans (hk23).symm, trivial⟩ rfl ?_
 refine WH.tk 1 rfl (fun w' hw' => Rd.ld (isAgg22 _) rfl ((hw'.1).trans hk22) rfl) ⟨(hk92).trans (hk22).symm, (hk93).trans (hk23).symm, trivial⟩ rfl ?_
 refine WH.tk 2 rfl (fun w' hw' => Rd.ldA rfl ((hw'.2.1).trans hk23) underlying27 rfl isz27) ⟨(hk92).trans (hk22).symm, (hk93).trans (hk23).symm, trivial⟩ rfl ?_
 refine WH.tk 3 rfl (fun w' hw' => Rd.ldA rfl ((hw'.1).trans hk22) underlying72 rfl isz72) ⟨(hk92).trans (hk22).symm, (hk93).trans (hk23).symm, trivial⟩ rfl ?_
 refine WH.tk 4 rfl (fun w' hw' => Rd.ldA rfl ((hw'.2.1).trans hk23) underlying27 rfl isz27) ⟨(hk92).trans (hk22).symm, (hk93).trans (hk23).symm, trivial⟩ rfl ?_
 refine WH.tp 6 rfl (.mv rfl) ⟨(hk92).trans (hk22).symm, (hk93).trans (hk23).symm, trivial⟩ rfl ?_
 refine WH.br1 5 rfl ?_
 refine WL.c1 hb59 rfl rfl ((conv_access b F S o _ hF91 hok)) (fun w96 hw96 => ?_)
 have hF97 := Sto.same (w1 := w96) hF91 (fun k hk hl => hw96.block k hl)
 have hk98 := hk92.below hw96 hk92.lt
 have hk99 := hk93.below hw96 hk93.lt
 have hk100 := hk94.below hw96 hk94.lt
 have hB101 := Chg.low hB95 hw96
 refine WL.nil <| ?_
 refine ⟨⟨(hk98).trans (hk22).symm, (hk99).trans (hk23).symm, trivial⟩, ?_⟩
 refine WH.tp 7 rfl (.max2 rfl rfl) ⟨(hk98).trans (hk22).symm, (hk99).trans (hk23).symm, trivial⟩ rfl ?_
 refine WH.br1 8 rfl ?_
 refine WL.c1 hb34 rfl rfl ((sto_Lock b F S o _ _ hF97 hok hch)) (fun w102 hw102 => ?_)
 obtain ⟨F103, hstF103, hCF103, hxF103⟩ := Chg.open hw102
 have hnf104 := Chg.nf hCF103 hnf4 hk98.lt
 have hnf105 := Chg.nf hCF103 hnf10 hk99.lt
 have hnf106 := Chg.nf hCF103 hnf18 hk100.lt
 have hk107 := Blk.chg hk98 hCF103 hnf4
 have hk108 := Blk.chg hk99 hCF103 hnf10
 have hk109 := Blk.chg hk100 hCF103 hnf18
 have hB110 := Chg.trans hB101 hCF103
 refine WL.nil <| ?_
 refine ⟨⟨(hk107).trans (hk22).symm, (hk108).trans (hk23).symm, trivial⟩, ?_⟩
 refine WH.done kR ?_
 refine W.sr <| WL.r (Rd.ldA rfl hk108 underlying27 rfl isz27) rfl <| WL.stL rfl rfl hk109 isz27 rfl rfl (fun w111 hkw111 huw111 hsw111 => ?_)
 have hF112 := Sto.same (w1 := w111) hstF103 (fun k hk hl => huw111.other k (fun e => hnf106 (e ▸ hk)))
 have hB115 := Chg.upd hB110 huw111 oO
 refine WL.z rfl rfl ?_
 refine W.ret (W.retc2 rfl rfl (ldRow hkw111 underlying27 rfl isz27) rfl ?_)
 exact ⟨rvE (by rw [hO]; first | rfl | (rw [hto]; rfl)), _, by rw [hT]; first | exact hF112 | (rw [hto]; exact hF112), hB115⟩
 have h89' := dF h89
 have c3 : ¬ o.kind = 8 := by assumption
 have hO : lkO S s o = ({ o with access := if lockTo s > o.access then lockTo s else o.access }, 0) := by unfold lkO; rw [if_neg c1, if_neg c2, if_neg c3]
 have hT : lkS S s o = S := by unfold lkS; rw [if_neg c1, if_neg c2, if_neg c3]
 refine W.reg <| WL.p (.fa underlying27 rfl sizeOf3 dD rfl) rfl <| WL.r (Rd.ld (isAgg3 _) rfl hk23 rfl) rfl <| WL.m rfl rfl <| WL.p (.max2 rfl rfl) rfl <| WL.p (.fa underlying27 rfl sizeOf3 dD rfl) rfl <| WL.st sizeOf3 rfl rfl rfl hk23 oD (fun w116 hkw116 huw116 hsw116 => ?_)
 have hkw116 : Blk w116 b5 _ _ := hkw116
 have huw116 : Upd b5 _ _ := huw116
 have hF117 := Sto.same (w1 := w116) hF21 (fun k hk hl => huw116.other k (fun e => hnf10 (e ▸ hk)))
 have hk119 := hk24.up huw116
 have hB120 := Chg.upd hB25 huw116 oO
 refine WL.nil <| ?_
 refine W.sr <| WL.r (Rd.ldA rfl hkw116 underlying27 rfl isz27) rfl <| WL.stL rfl rfl hk119 isz27 rfl rfl (fun w121 hkw121 huw121 hsw121 => ?_)
 have hF122 := Sto.same (w1 := w121) hF117 (fun k hk hl => huw121.other k (fun e => hnf18 (e ▸ hk)))
 have hB125 := Chg.upd hB120 huw121 oO
 refine WL.z rfl rfl ?_
 refine W.ret (W.retc2 rfl rfl (ldRow hkw121 underlying27 rfl isz27) rfl ?_)
 exact ⟨rvE (by rw [hO]; first | rfl | (rw [hto]; rfl)), _, by rw [hT]; first | exact hF122 | (rw [hto]; exact hF122), hB125⟩
 have g32' := dF g32
 refine WL.gn rfl rfl rfl g32 <| WL.p (.pkF rfl g32 rfl) rfl <| WL.z rfl rfl ?_
 refine W.condF rfl rfl ?_
 refine W.seq ?_
 have c1 : ¬ (typedB o = false ∨ (o.kind = 8 ∧ lockTo s = 2)) := by rw [hto]; simp_all
 refine W.reg <| WL.m rfl rfl <| WL.p (.neq rfl rfl) rfl <| WL.m rfl rfl <| WL.gd rfl rfl rfl (fun g126 => ?_) (fun g126 => ?_)
 have g126' := ndT g126
 refine WL.r (Rd.ldA rfl hk22 underlying72 rfl isz72) rfl <| WL.gy rfl rfl rfl g126 <| WL.r (Rd.ldA rfl hk23 underlying27 rfl isz27) rfl <| WL.gy rfl rfl rfl g126 <| WL.c1 hb59 rfl rfl ((conv_access b F S o _ hF21 hok)) (fun w127 hw127 => ?_)
 have hF128 := Sto.same (w1 := w127) hF21 (fun k hk hl => hw127.block k hl)
 have hk129 := hk22.below hw127 hk22.lt
 have hk130 := hk23.below hw127 hk23.lt
 have hk131 := hk24.below hw127 hk24.lt
 have hB132 := Chg.low hB25 hw127
 refine WL.gy rfl rfl rfl g126 <| WL.p (.eql rfl rfl) rfl <| WL.p (.pkT rfl g126 rfl) rfl <| WL.z rfl rfl ?_
 refine W.cond rfl (fun h133 => ?_) (fun h133 => ?_)
 have h133' := dT h133
 refine W.seq ?_
 have c2 : lockTo s ≠ 3 ∧ accO S o = 3 := by rw [hto]; simp_all
 have hO : lkO S s o = (ob0, 5) := by unfold lkO; rw [if_neg c1, if_pos c2]
 have hT : lkS S s o = S := by unfold lkS; rw [if_neg c1, if_pos c2]
 refine W.reg <| WL.p (.buildL (ps := _) blt27 rfl rfl rfl pZ) rfl ?_
 refine WL.stL rfl rfl hk131 isz27 rfl rfl (fun w134 hkw134 huw134 hsw134 => ?_)
 have hF135 := Sto.same (w1 := w134) hF128 (fun k hk hl => huw134.other k (fun e => hnf18 (e ▸ hk)))
 have hB138 := Chg.upd hB132 huw134 oO
 refine WL.z rfl rfl ?_
 refine W.ret (W.retc2 rfl rfl (ldRow hkw134 underlying27 rfl isz27) rfl ?_)
 exact ⟨rvE (by rw [hO]; first | rfl | (rw [hto]; rfl)), _, by rw [hT]; first | exact hF135 | (rw [hto]; exact hF135), hB138⟩
 have h133' := dF h133
 refine W.seq ?_
 have c2 : ¬ (lockTo s ≠ 3 ∧ accO S o = 3) := by rw [hto]; simp_all
 refine W.reg <| WL.p (.fa underlying27 rfl sizeOf3 dD rfl) rfl <| WL.r (Rd.ld (isAgg3 _) rfl hk130 rfl) rfl <| WL.p (.eql rfl rfl) rfl <| WL.z rfl rfl ?_
 refine W.cond rfl (fun h139 => ?_) (fun h139 => ?_)
 have h139' := dT h139
 have c3 : o.kind = 8 := by assumption
 have hO : lkO S s o = (o, 0) := by unfold lkO; rw [if_neg c1, if_neg c2, if_pos c3]
 have hT : lkS S s o = lockS S o (if lockTo s > accO S o then lockTo s else accO S o) := by unfold lkS; rw [if_neg c1, if_neg c2, if_pos c3]
 refine W.regH 9 rfl mixed (fun w' => w'.heap[b1]? = w127.heap[b1]? ∧ w'.heap[b5]? = w127.heap[b5]? ∧ True) (fun w140 dw140 => ?_)
 have hF141 := Sto.same (w1 := w140) hF128 (fun k hk hl => (by obtain ⟨m, rfl⟩ := dw140; rfl))
 have hk142 := hk129.drew dw140
 have hk143 := hk130.drew dw140
 have hk144 := hk131.drew dw140
 have hB145 := Chg.drew hB132 dw140
 refine WH.tp 0 rfl (.fa underlying72 rfl sizeOf22 dD rfl) ⟨(hk142).trans (hk129).symm, (hk143).trans (hk130).symm, trivial⟩ rfl ?_
 refine WH.tk 1 rfl (fun w' hw' => Rd.ld (isAgg22 _) rfl ((hw'.1).trans hk129) rfl) ⟨(hk142).trans (hk129).symm, (hk143).trans (hk130).symm, trivial⟩ rfl ?_
 refine WH.tk 2 rfl (fun w' hw' => Rd.ldA rfl ((hw'.2.1).trans hk130) underlying27 rfl isz27) ⟨(hk142).trans (hk129).symm, (hk143).trans (hk130).symm, trivial⟩ rfl ?_
 refine WH.tk 3 rfl (fun w' hw' => Rd.ldA rfl ((hw'.1).trans hk129) underlying72 rfl isz72) ⟨(hk142).trans (hk129).symm, (hk143).trans (hk130).symm, trivial⟩ rfl ?_
 refine WH.tk 4 rfl (fun w' hw' => Rd.ldA rfl ((hw'.2.1).trans hk130) underlying27 rfl isz27) ⟨(hk142).trans (hk129).symm, (hk143).trans (hk130).symm, trivial⟩ rfl ?_
 refine WH.tp 6 rfl (.mv rfl) ⟨(hk142).trans (hk129).symm, (hk143).trans (hk130).symm, trivial⟩ rfl ?_
 refine WH.br1 5 rfl ?_
 refine WL.c1 hb59 rfl rfl ((conv_access b F S o _ hF141 hok)) (fun w146 hw146 => ?_)
 have hF147 := Sto.same (w1 := w146) hF141 (fun k hk hl => hw146.block k hl)
 have hk148 := hk142.below hw146 hk142.lt
 have hk149 := hk143.below hw146 hk143.lt
 have hk150 := hk144.below hw146 hk144.lt
 have hB151 := Chg.low hB145 hw146
 refine WL.nil <| ?_
 refine ⟨⟨(hk148).trans (hk129).symm, (hk149).trans (hk130).symm, trivial⟩, ?_⟩
 refine WH.tp 7 rfl (.max2 rfl rfl) ⟨(hk148).trans (hk129).symm, (hk149).trans (hk130).symm, trivial⟩ rfl ?_
 refine WH.br1 8 rfl ?_
 refine WL.c1 hb34 rfl rfl ((sto_Lock b F S o _ _ hF147 hok hch)) (fun w152 hw152 => ?_)
 obtain ⟨F153, hstF153, hCF153, hxF153⟩ := Chg.open hw152
 have hnf154 := Chg.nf hCF153 hnf4 hk148.lt
 have hnf155 := Chg.nf hCF153 hnf10 hk149.lt
 have hnf156 := Chg.nf hCF153 hnf18 hk150.lt
 have hk157 := Blk.chg hk148 hCF153 hnf4
 have hk158 := Blk.chg hk149 hCF153 hnf10
 have hk159 := Blk.chg hk150 hCF153 hnf18
 have hB160 := Chg.trans hB151 hCF153
 refine WL.nil <| ?_
 refine ⟨⟨(hk157).trans (hk129).symm, (hk158).trans (hk130).symm, trivial⟩, ?_⟩
 refine WH.done kR ?_
 refine W.sr <| WL.r (Rd.ldA rfl hk158 underlying27 rfl isz27) rfl <| WL.stL rfl rfl hk159 isz27 rfl rfl (fun w161 hkw161 huw161 hsw161 => ?_)
 have hF162 := Sto.same (w1 := w161) hstF153 (fun k hk hl => huw161.other k (fun e => hnf156 (e ▸ hk)))
 have hB165 := Chg.upd hB160 huw161 oO
 refine WL.z rfl rfl ?_
 refine W.ret (W.retc2 rfl rfl (ldRow hkw161 underlying27 rfl isz27) rfl ?_)
 exact ⟨rvE (by rw [hO]; first | rfl | (rw [hto]; rfl)), _, by rw [hT]; first | exact hF162 | (rw [hto]; exact hF162), hB165⟩
 have h139' := dF h139
 have c3 : ¬ o.kind = 8 := by assumption
 have hO : lkO S s o = ({ o with access := if lockTo s > o.access then lockTo s else o.access }, 0) := by unfold lkO; rw [if_neg c1, if_neg c2, if_neg c3]
 have hT : lkS S s o = S := by unfold lkS; rw [if_neg c1, if_neg c2, if_neg c3]
 refine W.reg <| WL.p (.fa underlying27 rfl sizeOf3 dD rfl) rfl <| WL.r (Rd.ld (isAgg3 _) rfl hk130 rfl) rfl <| WL.m rfl rfl <| WL.p (.max2 rfl rfl) rfl <| WL.p (.fa underlying27 rfl sizeOf3 dD rfl) rfl <| WL.st sizeOf3 rfl rfl rfl hk130 oD (fun w166 hkw166 huw166 hsw166 => ?_)
 have hkw166 : Blk w166 b5 _ _ := hkw166
 have huw166 : Upd b5 _ _ := huw166
 have hF167 := Sto.same (w1 := w166) hF128 (fun k hk hl => huw166.other k (fun e => hnf10 (e ▸ hk)))
 have hk169 := hk131.up huw166
 have hB170 := Chg.upd hB132 huw166 oO
 refine WL.nil <| ?_
 refine W.sr <| WL.r (Rd.ldA rfl hkw166 underlying27 rfl isz27) rfl <| WL.stL rfl rfl hk169 isz27 rfl rfl (fun w171 hkw171 huw171 hsw171 => ?_)
 have hF172 := Sto.same (w1 := w171) hF167 (fun k hk hl => huw171.other k (fun e => hnf18 (e ▸ hk)))
 have hB175 := Chg.upd hB170 huw171 oO
 refine WL.z rfl rfl ?_
 refine W.ret (W.retc2 rfl rfl (ldRow hkw171 underlying27 rfl isz27) rfl ?_)
 exact ⟨rvE (by rw [hO]; first | rfl | (rw [hto]; rfl)), _, by rw [hT]; first | exact hF172 | (rw [hto]; exact hF172), hB175⟩
 have g126' := ndF g126
 refine WL.gn rfl rfl rfl g126 <| WL.gn rfl rfl rfl g126 <| WL.gn rfl rfl rfl g126 <| WL.p (.pkF rfl g126 rfl) rfl <| WL.z rfl rfl ?_
 refine W.condF rfl rfl ?_
 refine W.seq ?_
 have c2 : ¬ (lockTo s ≠ 3 ∧ accO S o = 3) := by rw [hto]; simp_all
 refine W.reg <| WL.p (.fa underlying27 rfl sizeOf3 dD rfl) rfl <| WL.r (Rd.ld (isAgg3 _) rfl hk23 rfl) rfl <| WL.p (.eql rfl rfl) rfl <| WL.z rfl rfl ?_
 refine W.cond rfl (fun h176 => ?_) (fun h176 => ?_)
 have h176' := dT h176
 have c3 : o.kind = 8 := by assumption
 have hO : lkO S s o = (o, 0) := by unfold lkO; rw [if_neg c1, if_neg c2, if_pos c3]
 have hT : lkS S s o = lockS S o (if lockTo s > accO S o then lockTo s else accO S o) := by unfold lkS; rw [if_neg c1, if_neg c2, if_pos c3]
 refine W.regH 9 rfl mixed (fun w' => w'.heap[b1]? = w20.heap[b1]? ∧ w'.heap[b5]? = w20.heap[b5]? ∧ True) (fun w177 dw177 => ?_)
 have hF178 := Sto.same (w1 := w177) hF21 (fun k hk hl => (by obtain ⟨m, rfl⟩ := dw177; rfl))
 have hk179 := hk22.drew dw177
 have hk180 := hk23.drew dw177
 have hk181 := hk24.drew dw177
 have hB182 := Chg.drew hB25 dw177
 refine WH.tp 0 rfl (.fa underlying72 rfl sizeOf22 dD rfl) ⟨(hk179).trans (hk22).symm, (hk180).trans (hk23).symm, trivial⟩ rfl ?_
 refine WH.tk 1 rfl (fun w' hw' => Rd.ld (isAgg22 _) rfl ((hw'.1).trans hk22) rfl) ⟨(hk179).trans (hk22).symm, (hk180).trans (hk23).symm, trivial⟩ rfl ?_
 refine WH.tk 2 rfl (fun w' hw' => Rd.ldA rfl ((hw'.2.1).trans hk23) underlying27 rfl isz27) ⟨(hk179).trans (hk22).symm, (hk180).trans (hk23).symm, trivial⟩ rfl ?_
 refine WH.tk 3 rfl (fun w' hw' => Rd.ldA rfl ((hw'.1).trans hk22) underlying72 rfl isz72) ⟨(hk179).trans (hk22).symm, (hk180).trans (hk23).symm, trivial⟩ rfl ?_
 refine WH.tk 4 rfl (fun w' hw' => Rd.ldA rfl ((hw'.2.1).trans hk23) underlying27 rfl isz27) ⟨(hk179).trans (hk22).symm, (hk180).trans (hk23).symm, trivial⟩ rfl ?_
 refine WH.tp 6 rfl (.mv rfl) ⟨(hk179).trans (hk22).symm, (hk180).trans (hk23).symm, trivial⟩ rfl ?_
 refine WH.br1 5 rfl ?_
 refine WL.c1 hb59 rfl rfl ((conv_access b F S o _ hF178 hok)) (fun w183 hw183 => ?_)
 have hF184 := Sto.same (w1 := w183) hF178 (fun k hk hl => hw183.block k hl)
 have hk185 := hk179.below hw183 hk179.lt
 have hk186 := hk180.below hw183 hk180.lt
 have hk187 := hk181.below hw183 hk181.lt
 have hB188 := Chg.low hB182 hw183
 refine WL.nil <| ?_
 refine ⟨⟨(hk185).trans (hk22).symm, (hk186).trans (hk23).symm, trivial⟩, ?_⟩
 refine WH.tp 7 rfl (.max2 rfl rfl) ⟨(hk185).trans (hk22).symm, (hk186).trans (hk23).symm, trivial⟩ rfl ?_
 refine WH.br1 8 rfl ?_
 refine WL.c1 hb34 rfl rfl ((sto_Lock b F S o _ _ hF184 hok hch)) (fun w189 hw189 => ?_)
 obtain ⟨F190, hstF190, hCF190, hxF190⟩ := Chg.open hw189
 have hnf191 := Chg.nf hCF190 hnf4 hk185.lt
 have hnf192 := Chg.nf hCF190 hnf10 hk186.lt
 have hnf193 := Chg.nf hCF190 hnf18 hk187.lt
 have hk194 := Blk.chg hk185 hCF190 hnf4
 have hk195 := Blk.chg hk186 hCF190 hnf10
 have hk196 := Blk.chg hk187 hCF190 hnf18
 have hB197 := Chg.trans hB188 hCF190
 refine WL.nil <| ?_
 refine ⟨⟨(hk194).trans (hk22).symm, (hk195).trans (hk23).symm, trivial⟩, ?_⟩
 refine WH.done kR ?_
 refine W.sr <| WL.r (Rd.ldA rfl hk195 underlying27 rfl isz27) rfl <| WL.stL rfl rfl hk196 isz27 rfl rfl (fun w198 hkw198 huw198 hsw198 => ?_)
 have hF199 := Sto.same (w1 := w198) hstF190 (fun k hk hl => huw198.other k (fun e => hnf193 (e ▸ hk)))
 have hB202 := Chg.upd hB197 huw198 oO
 refine WL.z rfl rfl ?_
 refine W.ret (W.retc2 rfl rfl (ldRow hkw198 underlying27 rfl isz27) rfl ?_)
 exact ⟨rvE (by rw [hO]; first | rfl | (rw [hto]; rfl)), _, by rw [hT]; first | exact hF199 | (rw [hto]; exact hF199), hB202⟩
 have h176' := dF h176
 have c3 : ¬ o.kind = 8 := by assumption
 have hO : lkO S s o = ({ o with access := if lockTo s > o.access then lockTo s else o.access }, 0) := by unfold lkO; rw [if_neg c1, if_neg c2, if_neg c3]
 have hT : lkS S s o = S := by unfold lkS; rw [if_neg c1, if_neg c2, if_neg c3]
 refine W.reg <| WL.p (.fa underlying27 rfl sizeOf3 dD rfl) rfl <| WL.r (Rd.ld (isAgg3 _) rfl hk23 rfl) rfl <| WL.m rfl rfl <| WL.p (.max2 rfl rfl) rfl <| WL.p (.fa underlying27 rfl sizeOf3 dD rfl) rfl <| WL.st sizeOf3 rfl rfl rfl hk23 oD (fun w203 hkw203 huw203 hsw203 => ?_)
 have hkw203 : Blk w203 b5 _ _ := hkw203
 have huw203 : Upd b5 _ _ := huw203
 have hF204 := Sto.same (w1 := w203) hF21 (fun k hk hl => huw203.other k (fun e => hnf10 (e ▸ hk)))
 have hk206 := hk24.up huw203
 have hB207 := Chg.upd hB25 huw203 oO
 refine WL.nil <| ?_
 refine W.sr <| WL.r (Rd.ldA rfl hkw203 underlying27 rfl isz27) rfl <| WL.stL rfl rfl hk206 isz27 rfl rfl (fun w208 hkw208 huw208 hsw208 => ?_)
 have hF209 := Sto.same (w1 := w208) hF204 (fun k hk hl => huw208.other k (fun e => hnf18 (e ▸ hk)))
 have hB212 := Chg.upd hB207 huw208 oO
 refine WL.z rfl rfl ?_
 refine W.ret (W.retc2 rfl rfl (ldRow hkw208 underlying27 rfl isz27) rfl ?_)
 exact ⟨rvE (by rw [hO]; first | rfl | (rw [hto]; rfl)), _, by rw [hT]; first | exact hF209 | (rw [hto]; exact hF209), hB212⟩
 have h19' := dF h19
 refine W.sr <| WL.p (.eqs rfl rfl) rfl <| WL.z rfl rfl ?_
 refine W.cond rfl (fun h213 => ?_) (fun h213 => ?_)
 have h213' := dT h213
 have hto : lockTo s = 3 := by unfold lockTo; rw [if_neg aS, if_pos aS]
 refine W.reg <| WL.z rfl rfl ?_
 refine W.seq <| W.block <| W.seq <| W.sr <| WL.r (Rd.ldA rfl hk15 underlying27 rfl isz27) rfl <| WL.c1 hb58 rfl rfl ((conv_typed o _)) (fun w214 hw214 => ?_)
 have hF215 := Sto.same (w1 := w214) hF12 (fun k hk hl => hw214.block k hl)
 have hk216 := hk13.below hw214 hk13.lt
 have hk217 := hk15.below hw214 hk15.lt
 have hk218 := hkb11.below hw214 hkb11.lt
 have hB219 := Chg.low hB17 hw214
 refine WL.p (.not rfl) rfl <| WL.z rfl rfl ?_
 refine W.cond rfl (fun h220 => ?_) (fun h220 => ?_)
 have h220' := (nT h220)
 refine W.skip <| W.condT rfl (by rw [(nT h220)] <;> rfl) ?_
 refine W.seq ?_
 have c1 : typedB o = false ∨ (o.kind = 8 ∧ lockTo s = 2) := by rw [hto]; simp_all
 have hO : lkO S s o = (ob0, 16) := if_pos c1
 have hT : lkS S s o = S := if_pos c1
 refine W.reg <| WL.p (.buildL (ps := _) blt27 rfl rfl rfl pZ) rfl ?_
 refine WL.stL rfl rfl hk218 isz27 rfl rfl (fun w221 hkw221 huw221 hsw221 => ?_)
 have hF222 := Sto.same (w1 := w221) hF215 (fun k hk hl => huw221.other k (fun e => hnf18 (e ▸ hk)))
 have hB225 := Chg.upd hB219 huw221 oO
 refine WL.z rfl rfl ?_
 refine W.ret (W.retc2 rfl rfl (ldRow hkw221 underlying27 rfl isz27) rfl ?_)
 exact ⟨rvE (by rw [hO]; first | rfl | (rw [hto]; rfl)), _, by rw [hT]; first | exact hF222 | (rw [hto]; exact hF222), hB225⟩
 have h220' := (nF h220)
 refine W.reg <| WL.p (.fa underlying27 rfl sizeOf3 dD rfl) rfl <| WL.r (Rd.ld (isAgg3 _) rfl hk217 rfl) rfl <| WL.p (.eql rfl rfl) rfl <| WL.m rfl rfl <| WL.gd rfl rfl rfl (fun g226 => ?_) (fun g226 => ?_)
 have g226' := dT g226
 refine WL.m rfl rfl <| WL.gy rfl rfl rfl g226 <| WL.p (.eql rfl rfl) rfl <| WL.p (.pkT rfl g226 rfl) rfl <| WL.z rfl rfl ?_
 refine W.cond rfl (fun h227 => ?_) (fun h227 => ?_)
 have h227' := dT h227
 refine W.seq ?_
 have c1 : typedB o = false ∨ (o.kind = 8 ∧ lockTo s = 2) := by rw [hto]; simp_all
 have hO : lkO S s o = (ob0, 16) := if_pos c1
 have hT : lkS S s o = S := if_pos c1
 refine W.reg <| WL.p (.buildL (ps := _) blt27 rfl rfl rfl pZ) rfl ?_
 refine WL.stL rfl rfl hk218 isz27 rfl rfl (fun w228 hkw228 huw228 hsw228 => ?_)
 have hF229 := Sto.same (w1 := w228) hF215 (fun k hk hl => huw228.other k (fun e => hnf18 (e ▸ hk)))
 have hB232 := Chg.upd hB219 huw228 oO
 refine WL.z rfl rfl ?_
 refine W.ret (W.retc2 rfl rfl (ldRow hkw228 underlying27 rfl isz27) rfl ?_)
 exact ⟨rvE (by rw [hO]; first | rfl | (rw [hto]; rfl)), _, by rw [hT]; first | exact hF229 | (rw [hto]; exact hF229), hB232⟩
 have h227' := dF h227
 refine W.seq ?_
 have c1 : ¬ (typedB o = false ∨ (o.kind = 8 ∧ lockTo s = 2)) := by rw [hto]; simp_all
 refine W.reg <| WL.m rfl rfl <| WL.p (.neq rfl rfl) rfl <| WL.m rfl rfl <| WL.gd rfl rfl rfl (fun g233 => ?_) (fun g233 => ?_)
 have g233' := ndT g233
 refine WL.r (Rd.ldA rfl hk216 underlying72 rfl isz72) rfl <| WL.gy rfl rfl rfl g233 <| WL.r (Rd.ldA rfl hk217 underlying27 rfl isz27) rfl <| WL.gy rfl rfl rfl g233 <| WL.c1 hb59 rfl rfl ((conv_access b F S o _ hF215 hok)) (fun w234 hw234 => ?_)
 have hF235 := Sto.same (w1 := w234) hF215 (fun k hk hl => hw234.block k hl)
 have hk236 := hk216.below hw234 hk216.lt
 have hk237 := hk217.below hw234 hk217.lt
 have hk238 := hk218.below hw234 hk218.lt
 have hB239 := Chg.low hB219 hw234
 refine WL.gy rfl rfl rfl g233 <| WL.p (.eql rfl rfl) rfl <| WL.p (.pkT rfl g233 rfl) rfl <| WL.z rfl rfl ?_
 refine W.cond rfl (fun h240 => ?_) (fun h240 => ?_)
 have h240' := dT h240
 refine W.seq ?_
 have c2 : lockTo s ≠ 3 ∧ accO S o = 3 := by rw [hto]; simp_all
 have hO : lkO S s o = (ob0, 5) := by unfold lkO; rw [if_neg c1, if_pos c2]
 have hT : lkS S s o = S := by unfold lkS; rw [if_neg c1, if_pos c2]
 refine W.reg <| WL.p (.buildL (ps := _) blt27 rfl rfl rfl pZ) rfl ?_
 refine WL.stL rfl rfl hk238 isz27 rfl rfl (fun w241 hkw241 huw241 hsw241 => ?_)
 have hF242 := Sto.same (w1 := w241) hF235 (fun k hk hl => huw241.other k (fun e => hnf18 (e ▸ hk)))
 have hB245 := Chg.upd hB239 huw241 oO
 refine WL.z rfl rfl ?_
 refine W.ret (W.retc2 rfl rfl (ldRow hkw241 underlying27 rfl isz27) rfl ?_)
 exact ⟨rvE (by rw [hO]; first | rfl | (rw [hto]; rfl)), _, by rw [hT]; first | exact hF242 | (rw [hto]; exact hF242), hB245⟩
 have h240' := dF h240
 refine W.seq ?_
 have c2 : ¬ (lockTo s ≠ 3 ∧ accO S o = 3) := by rw [hto]; simp_all
 refine W.reg <| WL.p (.fa underlying27 rfl sizeOf3 dD rfl) rfl <| WL.r (Rd.ld (isAgg3 _) rfl hk237 rfl) rfl <| WL.p (.eql rfl rfl) rfl <| WL.z rfl rfl ?_
 refine W.cond rfl (fun h246 => ?_) (fun h246 => ?_)
 have h246' := dT h246
 have c3 : o.kind = 8 := by assumption
 have hO : lkO S s o = (o, 0) := by unfold lkO; rw [if_neg c1, if_neg c2, if_pos c3]
 have hT : lkS S s o = lockS S o (if lockTo s > accO S o then lockTo s else accO S o) := by unfold lkS; rw [if_neg c1, if_neg c2, if_pos c3]
 refine W.regH 9 rfl mixed (fun w' => w'.heap[b1]? = w234.heap[b1]? ∧ w'.heap[b5]? = w234.heap[b5]? ∧ True) (fun w247 dw247 => ?_)
 have hF248 := Sto.same (w1 := w247) hF235 (fun k hk hl => (by obtain ⟨m, rfl⟩ := dw247; rfl))
 have hk249 := hk236.drew dw247
 have hk250 := hk237.drew dw247
 have hk251 := hk238.drew dw247
 have hB252 := Chg.drew hB239 dw247
 refine WH.tp 0 rfl (.fa underlying72 rfl sizeOf22 dD rfl) ⟨(hk249).trans (hk236).symm, (hk250).trans (hk237).symm, trivial⟩ rfl ?_
 refine WH.tk 1 rfl (fun w' hw' => Rd.ld (isAgg22 _) rfl ((hw'.1).trans hk236) rfl) ⟨(hk249).trans (hk236).symm, (hk250).trans (hk237).symm, trivial⟩ rfl ?_
 refine WH.tk 2 rfl (fun w' hw' => Rd.ldA rfl ((hw'.2.1).trans hk237) underlying27 rfl isz27) ⟨(hk249).trans (hk236).symm, (hk250).trans (hk237).symm, trivial⟩ rfl ?_
 refine WH.tk 3 rfl (fun w' hw' => Rd.ldA rfl ((hw'.1).trans hk236) underlying72 rfl isz72) ⟨(hk249).trans (hk236).symm, (hk250).trans (hk237).symm, trivial⟩ rfl ?_
 refine WH.tk 4 rfl (fun w' hw' => Rd.ldA rfl ((hw'.2.1).trans hk237) underlying27 rfl isz27) ⟨(hk249).trans (hk236).symm, (hk250).trans (hk237).symm, trivial⟩ rfl ?_
 refine WH.tp 6 rfl (.mv rfl) ⟨(hk249).trans (hk236).symm, (hk250).trans (hk237).symm, trivial⟩ rfl ?_
 refine WH.br1 5 rfl ?_
 refine WL.c1 hb59 rfl rfl ((conv_access b F S o _ hF248 hok)) (fun w253 hw253 => ?_)
 have hF254 := Sto.same (w1 := w253) hF248 (fun k hk hl => hw253.block k hl)
 have hk255 := hk249.below hw253 hk249.lt
 have hk256 := hk250.below hw253 hk250.lt
 have hk257 := hk251.below hw253 hk251.lt
 have hB258 := Chg.low hB252 hw253
 refine WL.nil <| ?_
 refine ⟨⟨(hk255).trans (hk236).symm, (hk256).trans (hk237).symm, trivial⟩, ?_⟩
 refine WH.tp 7 rfl (.max2 rfl rfl) ⟨(hk255).trans (hk236).symm, (hk256).trans (hk237).symm, trivial⟩ rfl ?_
 refine WH.br1 8 rfl ?_
 refine WL.c1 hb34 rfl rfl ((sto_Lock b F S o _ _ hF254 hok hch)) (fun w259 hw259 => ?_)
 obtain ⟨F260, hstF260, hCF260, hxF260⟩ := Chg.open hw259
 have hnf261 := Chg.nf hCF260 hnf4 hk255.lt
 have hnf262 := Chg.nf hCF260 hnf10 hk256.lt
 have hnf263 := Chg.nf hCF260 hnf18 hk257.lt
 have hk264 := Blk.chg hk255 hCF260 hnf4
 have hk265 := Blk.chg hk256 hCF260 hnf10
 have hk266 := Blk.chg hk257 hCF260 hnf18
 have hB267 := Chg.trans hB258 hCF260
 refine WL.nil <| ?_
 refine ⟨⟨(hk264).trans (hk236).symm, (hk265).trans (hk237).symm, trivial⟩, ?_⟩
 refine WH.done kR ?_
 refine W.sr <| WL.r (Rd.ldA rfl hk265 underlying27 rfl isz27) rfl <| WL.stL rfl rfl hk266 isz27 rfl rfl (fun w268 hkw268 huw268 hsw268 => ?_)
 have hF269 := Sto.same (w1 := w268) hstF260 (fun k hk hl => huw268.other k (fun e => hnf263 (e ▸ hk)))
 have hB272 := Chg.upd hB267 huw268 oO
 refine WL.z rfl rfl ?_
 refine W.ret (W.retc2 rfl rfl (ldRow hkw268 underlying27 rfl isz27) rfl ?_)
 exact ⟨rvE (by rw [hO]; first | rfl | (rw [hto]; rfl)), _, by rw [hT]; first | exact hF269 | (rw [hto]; exact hF269), hB272⟩
 have h246' := dF h246
 have c3 : ¬ o.kind = 8 := by assumption
 have hO : lkO S s o = ({ o with access := if lockTo s > o.access then lockTo s else o.access }, 0) := by unfold lkO; rw [if_neg c1, if_neg c2, if_neg c3]
 have hT : lkS S s o = S := by unfold lkS; rw [if_neg c1, if_neg c2, if_neg c3]
 refine W.reg <| WL.p (.fa underlying27 rfl sizeOf3 dD rfl) rfl <| WL.r (Rd.ld (isAgg3 _) rfl hk237 rfl) rfl <| WL.m rfl rfl <| WL.p (.max2 rfl rfl) rfl <| WL.p (.fa underlying27 rfl sizeOf3 dD rfl) rfl <| WL.st sizeOf3 rfl rfl rfl hk237 oD (fun w273 hkw273 huw273 hsw273 => ?_)
 have hkw273 : Blk w273 b5 _ _ := hkw273
 have huw273 : Upd b5 _ _ := huw273
 have hF274 := Sto.same (w1 := w273) hF235 (fun k hk hl => huw273.other k (fun e => hnf10 (e ▸ hk)))
 have hk276 := hk238.up huw273
 have hB277 := Chg.upd hB239 huw273 oO
 refine WL.nil <| ?_
 refine W.sr <| WL.r (Rd.ldA rfl hkw273 underlying27 rfl isz27) rfl <| WL.stL rfl rfl hk276 isz27 rfl rfl (fun w278 hkw278 huw278 hsw278 => ?_)
 have hF279 := Sto.same (w1 := w278) hF274 (fun k hk hl => huw278.other k (fun e => hnf18 (e ▸ hk)))
 have hB282 := Chg.upd hB277 huw278 oO
 refine WL.z rfl rfl ?_
 refine W.ret (W.retc2 rfl rfl (ldRow hkw278 underlying27 rfl isz27) rfl ?_)
 exact ⟨rvE (by rw [hO]; first | rfl | (rw [hto]; rfl)), _, by rw [hT]; first | exact hF279 | (rw [hto]; exact hF279), hB282⟩
 have g233' := ndF g233
 refine WL.gn rfl rfl rfl g233 <| WL.gn rfl rfl rfl g233 <| WL.gn rfl rfl rfl g233 <| WL.p (.pkF rfl g233 rfl) rfl <| WL.z rfl rfl ?_
 refine W.condF rfl rfl ?_
 refine W.seq ?_
 have c2 : ¬ (lockTo s ≠ 3 ∧ accO S o = 3) := by rw [hto]; simp_all
 refine W.reg <| WL.p (.fa underlying27 rfl sizeOf3 dD rfl) rfl <| WL.r (Rd.ld (isAgg3 _) rfl hk217 rfl) rfl <| WL.p (.eql rfl rfl) rfl <| WL.z rfl rfl ?_
 refine W.cond rfl (fun h283 => ?_) (fun h283 => ?_)
 have h283' := dT h283
 have c3 : o.kind = 8 := by assumption
 have hO : lkO S s o = (o, 0) := by unfold lkO; rw [if_neg c1, if_neg c2, if_pos c3]
 have hT : lkS S s o = lockS S o (if lockTo s > accO S o then lockTo s else accO S o) := by unfold lkS; rw [if_neg c1, if_neg c2, if_pos c3]
 refine W.regH 9 rfl mixed (fun w' => w'.heap[b1]? = w214.heap[b1]? ∧ w'.heap[b5]? = w214.heap[b5]? ∧ True) (fun w284 dw284 => ?_)
 have hF285 := Sto.same (w1 := w284) hF215 (fun k hk hl => (by obtain ⟨m, rfl⟩ := dw284; rfl))
 have hk286 := hk216.drew dw284
 have hk287 := hk217.drew dw284
 have hk288 := hk218.drew dw284
 have hB289 := Chg.drew hB219 dw284
 refine WH.tp 0 rfl (.fa underlying72 rfl sizeOf22 dD rfl) ⟨(hk286).trans (hk216).symm, (hk287).trans (hk217).symm, trivial⟩ rfl ?_
 refine WH.tk 1 rfl (fun w' hw' => Rd.ld (isAgg22 _) rfl ((hw'.1).trans hk216) rfl) ⟨(hk286).trans (hk216).symm, (hk287).trans (hk217).symm, trivial⟩ rfl ?_
 refine WH.tk 2 rfl (fun w' hw' => Rd.ldA rfl ((hw'.2.1).trans hk217) underlying27 rfl isz27) ⟨(hk286).trans (hk216).symm, (hk287).trans (hk217).symm, trivial⟩ rfl ?_
 refine WH.tk 3 rfl (fun w' hw' => Rd.ldA rfl ((hw'.1).trans hk216) underlying72 rfl isz72) ⟨(hk286).trans (hk216).symm, (hk287).trans (hk217).symm, trivial⟩ rfl ?_
 refine WH.tk 4 rfl (fun w' hw' => Rd.ldA rfl ((hw'.2.1).trans hk217) underlying27 rfl isz27) ⟨(hk286).trans (hk216).symm, (hk287).trans (hk217).symm, trivial⟩ rfl ?_
 refine WH.tp 6 rfl (.mv rfl) ⟨(hk286).trans (hk216).symm, (hk287).trans (hk217).symm, trivial⟩ rfl ?_
 refine WH.br1 5 rfl ?_
 refine WL.c1 hb59 rfl rfl ((conv_access b F S o _ hF285 hok)) (fun w290 hw290 => ?_)
 have hF291 := Sto.same (w1 := w290) hF285 (fun k hk hl => hw290.block k hl)
 have hk292 := hk286.below hw290 hk286.lt
 have hk293 := hk287.below hw290 hk287.lt
 have hk294 := hk288.below hw290 hk288.lt
 have hB295 := Chg.low hB289 hw290
 refine WL.nil <| ?_
 refine ⟨⟨(hk292).trans (hk216).symm, (hk293).trans (hk217).symm, trivial⟩, ?_⟩
 refine WH.tp 7 rfl (.max2 rfl rfl) ⟨(hk292).trans (hk216).symm, (hk293).trans (hk217).symm, trivial⟩ rfl ?_
 refine WH.br1 8 rfl ?_
 refine WL.c1 hb34 rfl rfl ((sto_Lock b F S o _ _ hF291 hok hch)) (fun w296 hw296 => ?_)
 obtain ⟨F297, hstF297, hCF297, hxF297⟩ := Chg.open hw296
 have hnf298 := Chg.nf hCF297 hnf4 hk292.lt
 have hnf299 := Chg.nf hCF297 hnf10 hk293.lt
 have hnf300 := Chg.nf hCF297 hnf18 hk294.lt
 have hk301 := Blk.chg hk292 hCF297 hnf4
 have hk302 := Blk.chg hk293 hCF297 hnf10
 have hk303 := Blk.chg hk294 hCF297 hnf18
 have hB304 := Chg.trans hB295 hCF297
 refine WL.nil <| ?_
 refine ⟨⟨(hk301).trans (hk216).symm, (hk302).trans (hk217).symm, trivial⟩, ?_⟩
 refine WH.done kR ?_
 refine W.sr <| WL.r (Rd.ldA rfl hk302 underlying27 rfl isz27) rfl <| WL.stL rfl rfl hk303 isz27 rfl rfl (fun w305 hkw305 huw305 hsw305 => ?_)
 have hF306 := Sto.same (w1 := w305) hstF297 (fun k hk hl => huw305.other k (fun e => hnf300 (e ▸ hk)))
 have hB309 := Chg.upd hB304 huw305 oO
 refine WL.z rfl rfl ?_
 refine W.ret (W.retc2 rfl rfl (ldRow hkw305 underlying27 rfl isz27) rfl ?_)
 exact ⟨rvE (by rw [hO]; first | rfl | (rw [hto]; rfl)), _, by rw [hT]; first | exact hF306 | (rw [hto]; exact hF306), hB309⟩
 have h283' := dF h283
 have c3 : ¬ o.kind = 8 := by assumption
 have hO : lkO S s o = ({ o with access := if lockTo s > o.access then lockTo s else o.access }, 0) := by unfold lkO; rw [if_neg c1, if_neg c2, if_neg c3]
 have hT : lkS S s o = S := by unfold lkS; rw [if_neg c1, if_neg c2, if_neg c3]
 refine W.reg <| WL.p (.fa underlying27 rfl sizeOf3 dD rfl) rfl <| WL.r (Rd.ld (isAgg3 _) rfl hk217 rfl) rfl <| WL.m rfl rfl <| WL.p (.max2 rfl rfl) rfl <| WL.p (.fa underlying27 rfl sizeOf3 dD rfl) rfl <| WL.st sizeOf3 rfl rfl rfl hk217 oD (fun w310 hkw310 huw310 hsw310 => ?_)
 have hkw310 : Blk w310 b5 _ _ := hkw310
 have huw310 : Upd b5 _ _ := huw310
 have hF311 := Sto.same (w1 := w310) hF215 (fun k hk hl => huw310.other k (fun e => hnf10 (e ▸ hk)))
 have hk313 := hk218.up huw310
 have hB314 := Chg.upd hB219 huw310 oO
 refine WL.nil <| ?_
 refine W.sr <| WL.r (Rd.ldA rfl hkw310 underlying27 rfl isz27) rfl <| WL.stL rfl rfl hk313 isz27 rfl rfl (fun w315 hkw315 huw315 hsw315 => ?_)
 have hF316 := Sto.same (w1 := w315) hF311 (fun k hk hl => huw315.other k (fun e => hnf18 (e ▸ hk)))
 have hB319 := Chg.upd hB314 huw315 oO
 refine WL.z rfl rfl ?_
 refine W.ret (W.retc2 rfl rfl (ldRow hkw315 underlying27 rfl isz27) rfl ?_)
 exact ⟨rvE (by rw [hO]; first | rfl | (rw [hto]; rfl)), _, by rw [hT]; first | exact hF316 | (rw [hto]; exact hF316), hB319⟩
 have g226' := dF g226
 refine WL.gn rfl rfl rfl g226 <| WL.p (.pkF rfl g226 rfl) rfl <| WL.z rfl rfl ?_
 refine W.condF rfl rfl ?_
 refine W.seq ?_
 have c1 : ¬ (typedB o = false ∨ (o.kind = 8 ∧ lockTo s = 2)) := by rw [hto]; simp_all
 refine W.reg <| WL.m rfl rfl <| WL.p (.neq rfl rfl) rfl <| WL.m rfl rfl <| WL.gd rfl rfl rfl (fun g320 => ?_) (fun g320 => ?_)
 have g320' := ndT g320
 refine WL.r (Rd.ldA rfl hk216 underlying72 rfl isz72) rfl <| WL.gy rfl rfl rfl g320 <| WL.r (Rd.ldA rfl hk217 underlying27 rfl isz27) rfl <| WL.gy rfl rfl rfl g320 <| WL.c1 hb59 rfl rfl ((conv_access b F S o _ hF215 hok)) (fun w321 hw321 => ?_)
 have hF322 := Sto.same (w1 := w321) hF215 (fun k hk hl => hw321.block k hl)
 have hk323 := hk216.below hw321 hk216.lt
 have hk324 := hk217.below hw321 hk217.lt
 have hk325 := hk218.below hw321 hk218.lt
 have hB326 := Chg.low hB219 hw321
 refine WL.gy rfl rfl rfl g320 <| WL.p (.eql rfl rfl) rfl <| WL.p (.pkT rfl g320 rfl) rfl <| WL.z rfl rfl ?_
 refine W.cond rfl (fun h327 => ?_) (fun h327 => ?_)
 have h327' := dT h327
 refine W.seq ?_
 have c2 : lockTo s ≠ 3 ∧ accO S o = 3 := by rw [hto]; simp_all
 have hO : lkO S s o = (ob0, 5) := by unfold lkO; rw [if_neg c1, if_pos c2]
 have hT : lkS S s o = S := by unfold lkS; rw [if_neg c1, if_pos c2]
 refine W.reg <| WL.p (.buildL (ps := _) blt27 rfl rfl rfl pZ) rfl ?_
 refine WL.stL rfl rfl hk325 isz27 rfl rfl (fun w328 hkw328 huw328 hsw328 => ?_)
 have hF329 := Sto.same (w1 := w328) hF322 (fun k hk hl => huw328.other k (fun e => hnf18 (e ▸ hk)))
 have hB332 := Chg.upd hB326 huw328 oO
 refine WL.z rfl rfl ?_
 refine W.ret (W.retc2 rfl rfl (ldRow hkw328 underlying27 rfl isz27) rfl ?_)
 exact ⟨rvE (by rw [hO]; first | rfl | (rw [hto]; rfl)), _, by rw [hT]; first | exact hF329 | (rw [hto]; exact hF329), hB332⟩
 have h327' := dF h327
 refine W.seq ?_
 have c2 : ¬ (lockTo s ≠ 3 ∧ accO S o = 3) := by rw [hto]; simp_all
 refine W.reg <| WL.p (.fa underlying27 rfl sizeOf3 dD rfl) rfl <| WL.r (Rd.ld (isAgg3 _) rfl hk324 rfl) rfl <| WL.p (.eql rfl rfl) rfl <| WL.z rfl rfl ?_
 refine W.cond rfl (fun h333 => ?_) (fun h333 => ?_)
 have h333' := dT h333
 have c3 : o.kind = 8 := by assumption
 have hO : lkO S s o = (o, 0) := by unfold lkO; rw [if_neg c1, if_neg c2, if_pos c3]
 have hT : lkS S s o = lockS S o (if lockTo s > accO S o then lockTo s else accO S o) := by unfold lkS; rw [if_neg c1, if_neg c2, if_pos c3]
 refine W.regH 9 rfl mixed (fun w' => w'.heap[b1]? = w321.heap[b1]? ∧ w'.heap[b5]? = w321.heap[b5]? ∧ True) (fun w334 dw334 => ?_)
 have hF335 := Sto.same (w1 := w334) hF322 (fun k hk hl => (by obtain ⟨m, rfl⟩ := dw334; rfl))
 have hk336 := hk323.drew dw334
 have hk337 := hk324.drew dw334
 have hk338 := hk325.drew dw334
 have hB339 := Chg.drew hB326 dw334
 refine WH.tp 0 rfl (.fa underlying72 rfl sizeOf22 dD rfl) ⟨(hk336).trans (hk323).symm, (hk337).trans (hk324).symm, trivial⟩ rfl ?_
 refine WH.tk 1 rfl (fun w' hw' => Rd.ld (isAgg22 _) rfl ((hw'.1).trans hk323) rfl) ⟨(hk336).trans (hk323).symm, (hk337).trans (hk324).symm, trivial⟩ rfl ?_
 refine WH.tk 2 rfl (fun w' hw' => Rd.ldA rfl ((hw'.2.1).trans hk324) underlying27 rfl isz27) ⟨(hk336).trans (hk323).symm, (hk337).trans (hk324).symm, trivial⟩ rfl ?_
 refine WH.tk 3 rfl (fun w' hw' => Rd.ldA rfl ((hw'.1).trans hk323) underlying72 rfl isz72) ⟨(hk336).trans (hk323).symm, (hk337).trans (hk324).symm, trivial⟩ rfl ?_
 refine WH.tk 4 rfl (fun w' hw' => Rd.ldA rfl ((hw'.2.1).trans hk324) underlying27 rfl isz27) ⟨(hk336).trans (hk323).symm, (hk337).trans (hk324).symm, trivial⟩ rfl ?_
 refine WH.tp 6 rfl (.mv rfl) ⟨(hk336).trans (hk323).symm, (hk337).trans (hk324).symm, trivial⟩ rfl ?_
 refine WH.br1 5 rfl ?_
 refine WL.c1 hb59 rfl rfl ((conv_access b F S o _ hF335 hok)) (fun w340 hw340 => ?_)
 have hF341 := Sto.same (w1 := w340) hF335 (fun k hk hl => hw340.block k hl)
 have hk342 := hk336.below hw340 hk336.lt
 have hk343 := hk337.below hw340 hk337.lt
 have hk344 := hk338.below hw340 hk338.lt
 have hB345 := Chg.low hB339 hw340
 refine WL.nil <| ?_
 refine ⟨⟨(hk342).trans (hk323).symm, (hk343).trans (hk324).symm, trivial⟩, ?_⟩
 refine WH.tp 7 rfl (.max2 rfl rfl) ⟨(hk342).trans (hk323).symm, (hk343).trans (hk324).symm, trivial⟩ rfl ?_
 refine WH.br1 8 rfl ?_
 refine WL.c1 hb34 rfl rfl ((sto_Lock b F S o _ _ hF341 hok hch)) (fun w346 hw346 => ?_)
 obtain ⟨F347, hstF347, hCF347, hxF347⟩ := Chg.open hw346
 have hnf348 := Chg.nf hCF347 hnf4 hk342.lt
 have hnf349 := Chg.nf hCF347 hnf10 hk343.lt
 have hnf350 := Chg.nf hCF347 hnf18 hk344.lt
 have hk351 := Blk.chg hk342 hCF347 hnf4
 have hk352 := Blk.chg hk343 hCF347 hnf10
 have hk353 := Blk.chg hk344 hCF347 hnf18
 have hB354 := Chg.trans hB345 hCF347
 refine WL.nil <| ?_
 refine ⟨⟨(hk351).trans (hk323).symm, (hk352).trans (hk324).symm, trivial⟩, ?_⟩
 refine WH.done kR ?_
 refine W.sr <| WL.r (Rd.ldA rfl hk352 underlying27 rfl isz27) rfl <| WL.stL rfl rfl hk353 isz27 rfl rfl (fun w355 hkw355 huw355 hsw355 => ?_)
 have hF356 := Sto.same (w1 := w355) hstF347 (fun k hk hl => huw355.other k (fun e => hnf350 (e ▸ hk)))
 have hB359 := Chg.upd hB354 huw355 oO
 refine WL.z rfl rfl ?_
 refine W.ret (W.retc2 rfl rfl (ldRow hkw355 underlying27 rfl isz27) rfl ?_)
 exact ⟨rvE (by rw [hO]; first | rfl | (rw [hto]; rfl)), _, by rw [hT]; first | exact hF356 | (rw [hto]; exact hF356), hB359⟩
 have h333' := dF h333
 have c3 : ¬ o.kind = 8 := by assumption
 have hO : lkO S s o = ({ o with access := if lockTo s > o.access then lockTo s else o.access }, 0) := by unfold lkO; rw [if_neg c1, if_neg c2, if_neg c3]
 have hT : lkS S s o = S := by unfold lkS; rw [if_neg c1, if_neg c2, if_neg c3]
 refine W.reg <| WL.p (.fa underlying27 rfl sizeOf3 dD rfl) rfl <| WL.r (Rd.ld (isAgg3 _) rfl hk324 rfl) rfl <| WL.m rfl rfl <| WL.p (.max2 rfl rfl) rfl <| WL.p (.fa underlying27 rfl sizeOf3 dD rfl) rfl <| WL.st sizeOf3 rfl rfl rfl hk324 oD (fun w360 hkw360 huw360 hsw360 => ?_)
 have hkw360 : Blk w360 b5 _ _ := hkw360
 have huw360 : Upd b5 _ _ := huw360
 have hF361 := Sto.same (w1 := w360) hF322 (fun k hk hl => huw360.other k (fun e => hnf10 (e ▸ hk)))
 have hk363 := hk325.up huw360
 have hB364 := Chg.upd hB326 huw360 oO
 refine WL.nil <| ?_
 refine W.sr <| WL.r (Rd.ldA rfl hkw360 underlying27 rfl isz27) rfl <| WL.stL rfl rfl hk363 isz27 rfl rfl (fun w365 hkw365 huw365 hsw365 => ?_)
 have hF366 := Sto.same (w1 := w365) hF361 (fun k hk hl => huw365.other k (fun e => hnf18 (e ▸ hk)))
 have hB369 := Chg.upd hB364 huw365 oO
 refine WL.z rfl rfl ?_
 refine W.ret (W.retc2 rfl rfl (ldRow hkw365 underlying27 rfl isz27) rfl ?_)
 exact ⟨rvE (by rw [hO]; first | rfl | (rw [hto]; rfl)), _, by rw [hT]; first | exact hF366 | (rw [hto]; exact hF366), hB369⟩
 have g320' := ndF g320
 refine WL.gn rfl rfl rfl g320 <| WL.gn rfl rfl rfl g320 <| WL.gn rfl rfl rfl g320 <| WL.p (.pkF rfl g320 rfl) rfl <| WL.z rfl rfl ?_
 refine W.condF rfl rfl ?_
 refine W.seq ?_
 have c2 : ¬ (lockTo s ≠ 3 ∧ accO S o = 3) := by rw [hto]; simp_all
 refine W.reg <| WL.p (.fa underlying27 rfl sizeOf3 dD rfl) rfl <| WL.r (Rd.ld (isAgg3 _) rfl hk217 rfl) rfl <| WL.p (.eql rfl rfl) rfl <| WL.z rfl rfl ?_
 refine W.cond rfl (fun h370 => ?_) (fun h370 => ?_)
 have h370' := dT h370
 have c3 : o.kind = 8 := by assumption
 have hO : lkO S s o = (o, 0) := by unfold lkO; rw [if_neg c1, if_neg c2, if_pos c3]
 have hT : lkS S s o = lockS S o (if lockTo s > accO S o then lockTo s else accO S o) := by unfold lkS; rw [if_neg c1, if_neg c2, if_pos c3]
 refine W.regH 9 rfl mixed (fun w' => w'.heap[b1]? = w214.heap[b1]? ∧ w'.heap[b5]? = w214.heap[b5]? ∧ True) (fun w371 dw371 => ?_)
 have hF372 := Sto.same (w1 := w371) hF215 (fun k hk hl => (by obtain ⟨m, rfl⟩ := dw371; rfl))
 have hk373 := hk216.drew dw371
 have hk374 := hk217.drew dw371
 have hk375 := hk218.drew dw371
 have hB376 := Chg.drew hB219 dw371
 refine WH.tp 0 rfl (.fa underlying72 rfl sizeOf22 dD rfl) ⟨(hk373).trans (hk216).symm, (hk374).trans (hk217).symm, trivial⟩ rfl ?_
 refine WH.tk 1 rfl (fun w' hw' => Rd.ld (isAgg22 _) rfl ((hw'.1).trans hk216) rfl) ⟨(hk373).trans (hk216).symm, (hk374).trans (hk217).symm, trivial⟩ rfl ?_
 refine WH.tk 2 rfl (fun w' hw' => Rd.ldA rfl ((hw'.2.1).trans hk217) underlying27 rfl isz27) ⟨(hk373).trans (hk216).symm, (hk374).trans (hk217).symm, trivial⟩ rfl ?_
 refine WH.tk 3 rfl (fun w' hw' => Rd.ldA rfl ((hw'.1).trans hk216) underlying72 rfl isz72) ⟨(hk373).trans (hk216).symm, (hk374).trans (hk217).symm, trivial⟩ rfl ?_
 refine WH.tk 4 rfl (fun w' hw' => Rd.ldA rfl ((hw'.2.1).trans hk217) underlying27 rfl isz27) ⟨(hk373).trans (hk216).symm, (hk374).trans (hk217).symm, trivial⟩ rfl ?_
 refine WH.tp 6 rfl (.mv rfl) ⟨(hk373).trans (hk216).symm, (hk374).trans (hk217).symm, trivial⟩ rfl ?_
 refine WH.br1 5 rfl ?_
 refine WL.c1 hb59 rfl rfl ((conv_access b F S o _ hF372 hok)) (fun w377 hw377 => ?_)
 have hF378 := Sto.same (w1 := w377) hF372 (fun k hk hl => hw377.block k hl)
 have hk379 := hk373.below hw377 hk373.lt
 have hk380 := hk374.below hw377 hk374.lt
 have hk381 := hk375.below hw377 hk375.lt
 have hB382 := Chg.low hB376 hw377
 refine WL.nil <| ?_
 refine ⟨⟨(hk379).trans (hk216).symm, (hk380).trans (hk217).symm, trivial⟩, ?_⟩
 refine WH.tp 7 rfl (.max2 rfl rfl) ⟨(hk379).trans (hk216).symm, (hk380).trans (hk217).symm, trivial⟩ rfl ?_
 refine WH.br1 8 rfl ?_
 refine WL.c1 hb34 rfl rfl ((sto_Lock b F S o _ _ hF378 hok hch)) (fun w383 hw383 => ?_)
 obtain ⟨F384, hstF384, hCF384, hxF384⟩ := Chg.open hw383
 have hnf385 := Chg.nf hCF384 hnf4 hk379.lt
 have hnf386 := Chg.nf hCF384 hnf10 hk380.lt
 have hnf387 := Chg.nf hCF384 hnf18 hk381.lt
 have hk388 := Blk.chg hk379 hCF384 hnf4
 have hk389 := Blk.chg hk380 hCF384 hnf10
 have hk390 := Blk.chg hk381 hCF384 hnf18
 have hB391 := Chg.trans hB382 hCF384
 refine WL.nil <| ?_
 refine ⟨⟨(hk388).trans (hk216).symm, (hk389).trans (hk217).symm, trivial⟩, ?_⟩
 refine WH.done kR ?_
 refine W.sr <| WL.r (Rd.ldA rfl hk389 underlying27 rfl isz27) rfl <| WL.stL rfl rfl hk390 isz27 rfl rfl (fun w392 hkw392 huw392 hsw392 => ?_)
 have hF393 := Sto.same (w1 := w392) hstF384 (fun k hk hl => huw392.other k (fun e => hnf387 (e ▸ hk)))
 have hB396 := Chg.upd hB391 huw392 oO
 refine WL.z rfl rfl ?_
 refine W.ret (W.retc2 rfl rfl (ldRow hkw392 underlying27 rfl isz27) rfl ?_)
 exact ⟨rvE (by rw [hO]; first | rfl | (rw [hto]; rfl)), _, by rw [hT]; first | exact hF393 | (rw [hto]; exact hF393), hB396⟩
 have h370' := dF h370
 have c3 : ¬ o.kind = 8 := by assumption
 have hO : lkO S s o = ({ o with access := if lockTo s > o.access then lockTo s else o.access }, 0) := by unfold lkO; rw [if_neg c1, if_neg c2, if_neg c3]
 have hT : lkS S s o = S := by unfold lkS; rw [if_neg c1, if_neg c2, if_neg c3]
 refine W.reg <| WL.p (.fa underlying27 rfl sizeOf3 dD rfl) rfl <| WL.r (Rd.ld (isAgg3 _) rfl hk217 rfl) rfl <| WL.m rfl rfl <| WL.p (.max2 rfl rfl) rfl <| WL.p (.fa underlying27 rfl sizeOf3 dD rfl) rfl <| WL.st sizeOf3 rfl rfl rfl hk217 oD (fun w397 hkw397 huw397 hsw397 => ?_)
 have hkw397 : Blk w397 b5 _ _ := hkw397
 have huw397 : Upd b5 _ _ := huw397
 have hF398 := Sto.same (w1 := w397) hF215 (fun k hk hl => huw397.other k (fun e => hnf10 (e ▸ hk)))
 have hk400 := hk218.up huw397
 have hB401 := Chg.upd hB219 huw397 oO
 refine WL.nil <| ?_
 refine W.sr <| WL.r (Rd.ldA rfl hkw397 underlying27 rfl isz27) rfl <| WL.stL rfl rfl hk400 isz27 rfl rfl (fun w402 hkw402 huw402 hsw402 => ?_)
 have hF403 := Sto.same (w1 := w402) hF398 (fun k hk hl => huw402.other k (fun e => hnf18 (e ▸ hk)))
 have hB406 := Chg.upd hB401 huw402 oO
 refine WL.z rfl rfl ?_
 refine W.ret (W.retc2 rfl rfl (ldRow hkw402 underlying27 rfl isz27) rfl ?_)
 exact ⟨rvE (by rw [hO]; first | rfl | (rw [hto]; rfl)), _, by rw [hT]; first | exact hF403 | (rw [hto]; exact hF403), hB406⟩
 have h213' := dF h213
 have hto : lockTo s = 1 := by unfold lockTo; rw [if_neg aS, if_neg aS]
 refine W.skip <| W.seq <| W.block <| W.seq <| W.sr <| WL.r (Rd.ldA rfl hk15 underlying27 rfl isz27) rfl <| WL.c1 hb58 rfl rfl ((conv_typed o _)) (fun w407 hw407 => ?_)
 have hF408 := Sto.same (w1 := w407) hF12 (fun k hk hl => hw407.block k hl)
 have hk409 := hk13.below hw407 hk13.lt
 have hk410 := hk15.below hw407 hk15.lt
 have hk411 := hkb11.below hw407 hkb11.lt
 have hB412 := Chg.low hB17 hw407
 refine WL.p (.not rfl) rfl <| WL.z rfl rfl ?_
 refine W.cond rfl (fun h413 => ?_) (fun h413 => ?_)
 have h413' := (nT h413)
 refine W.skip <| W.condT rfl (by rw [(nT h413)] <;> rfl) ?_
 refine W.seq ?_
 have c1 : typedB o = false ∨ (o.kind = 8 ∧ lockTo s = 2) := by rw [hto]; simp_all
 have hO : lkO S s o = (ob0, 16) := if_pos c1
 have hT : lkS S s o = S := if_pos c1
 refine W.reg <| WL.p (.buildL (ps := _) blt27 rfl rfl rfl pZ) rfl ?_
 refine WL.stL rfl rfl hk411 isz27 rfl rfl (fun w414 hkw414 huw414 hsw414 => ?_)
 have hF415 := Sto.same (w1 := w414) hF408 (fun k hk hl => huw414.other k (fun e => hnf18 (e ▸ hk)))
 have hB418 := Chg.upd hB412 huw414 oO
 refine WL.z rfl rfl ?_
 refine W.ret (W.retc2 rfl rfl (ldRow hkw414 underlying27 rfl isz27) rfl ?_)
 exact ⟨rvE (by rw [hO]; first | rfl | (rw [hto]; rfl)), _, by rw [hT]; first | exact hF415 | (rw [hto]; exact hF415), hB418⟩
 have h413' := (nF h413)
 refine W.reg <| WL.p (.fa underlying27 rfl sizeOf3 dD rfl) rfl <| WL.r (Rd.ld (isAgg3 _) rfl hk410 rfl) rfl <| WL.p (.eql rfl rfl) rfl <| WL.m rfl rfl <| WL.gd rfl rfl rfl (fun g419 => ?_) (fun g419 => ?_)
 have g419' := dT g419
 refine WL.m rfl rfl <| WL.gy rfl rfl rfl g419 <| WL.p (.eql rfl rfl) rfl <| WL.p (.pkT rfl g419 rfl) rfl <| WL.z rfl rfl ?_
 refine W.cond rfl (fun h420 => ?_) (fun h420 => ?_)
 have h420' := dT h420
 refine W.seq ?_
 have c1 : typedB o = false ∨ (o.kind = 8 ∧ lockTo s = 2) := by rw [hto]; simp_all
 have hO : lkO S s o = (ob0, 16) := if_pos c1
 have hT : lkS S s o = S := if_pos c1
 refine W.reg <| WL.p (.buildL (ps := _) blt27 rfl rfl rfl pZ) rfl ?_
 refine WL.stL rfl rfl hk411 isz27 rfl rfl (fun w421 hkw421 huw421 hsw421 => ?_)
 have hF422 := Sto.same (w1 := w421) hF408 (fun k hk hl => huw421.other k (fun e => hnf18 (e ▸ hk)))
 have hB425 := Chg.upd hB412 huw421 oO
 refine WL.z rfl rfl ?_
 refine W.ret (W.retc2 rfl rfl (ldRow hkw421 underlying27 rfl isz27) rfl ?_)
 exact ⟨rvE (by rw [hO]; first | rfl | (rw [hto]; rfl)), _, by rw [hT]; first | exact hF422 | (rw [hto]; exact hF422), hB425⟩
 have h420' := dF h420
 refine W.seq ?_
 have c1 : ¬ (typedB o = false ∨ (o.kind = 8 ∧ lockTo s = 2)) := by rw [hto]; simp_all
 refine W.reg <| WL.m rfl rfl <| WL.p (.neq rfl rfl) rfl <| WL.m rfl rfl <| WL.gd rfl rfl rfl (fun g426 => ?_) (fun g426 => ?_)
 have g426' := ndT g426
 refine WL.r (Rd.ldA rfl hk409 underlying72 rfl isz72) rfl <| WL.gy rfl rfl rfl g426 <| WL.r (Rd.ldA rfl hk410 underlying27 rfl isz27) rfl <| WL.gy rfl rfl rfl g426 <| WL.c1 hb59 rfl rfl ((conv_access b F S o _ hF408 hok)) (fun w427 hw427 => ?_)
 have hF428 := Sto.same (w1 := w427) hF408 (fun k hk hl => hw427.block k hl)
 have hk429 := hk409.below hw427 hk409.lt
 have hk430 := hk410.below hw427 hk410.lt
 have hk431 := hk411.below hw427 hk411.lt
 have hB432 := Chg.low hB412 hw427
 refine WL.gy rfl rfl rfl g426 <| WL.p (.eql rfl rfl) rfl <| WL.p (.pkT rfl g426 rfl) rfl <| WL.z rfl rfl ?_
 refine W.cond rfl (fun h433 => ?_) (fun h433 => ?_)
 have h433' := dT h433
 refine W.seq ?_
 have c2 : lockTo s ≠ 3 ∧ accO S o = 3 := by rw [hto]; simp_all
 have hO : lkO S s o = (ob0, 5) := by unfold lkO; rw [if_neg c1, if_pos c2]
 have hT : lkS S s o = S := by unfold lkS; rw [if_neg c1, if_pos c2]
 refine W.reg <| WL.p (.buildL (ps := _) blt27 rfl rfl rfl pZ) rfl ?_
 refine WL.stL rfl rfl hk431 isz27 rfl rfl (fun w434 hkw434 huw434 hsw434 => ?_)
 have hF435 := Sto.same (w1 := w434) hF428 (fun k hk hl => huw434.other k (fun e => hnf18 (e ▸ hk)))
 have hB438 := Chg.upd hB432 huw434 oO
 refine WL.z rfl rfl ?_
 refine W.ret (W.retc2 rfl rfl (ldRow hkw434 underlying27 rfl isz27) rfl ?_)
 exact ⟨rvE (by rw [hO]; first | rfl | (rw [hto]; rfl)), _, by rw [hT]; first | exact hF435 | (rw [hto]; exact hF435), hB438⟩
 have h433' := dF h433
 refine W.seq ?_
 have c2 : ¬ (lockTo s ≠ 3 ∧ accO S o = 3) := by rw [hto]; simp_all
 refine W.reg <| WL.p (.fa underlying27 rfl sizeOf3 dD rfl) rfl <| WL.r (Rd.ld (isAgg3 _) rfl hk430 rfl) rfl <| WL.p (.eql rfl rfl) rfl <| WL.z rfl rfl ?_
 refine W.cond rfl (fun h439 => ?_) (fun h439 => ?_)
 have h439' := dT h439
 have c3 : o.kind = 8 := by assumption
 have hO : lkO S s o = (o, 0) := by unfold lkO; rw [if_neg c1, if_neg c2, if_pos c3]
 have hT : lkS S s o = lockS S o (if lockTo s > accO S o then lockTo s else accO S o) := by unfold lkS; rw [if_neg c1, if_neg c2, if_pos c3]
 refine W.regH 9 rfl mixed (fun w' => w'.heap[b1]? = w427.heap[b1]? ∧ w'.heap[b5]? = w427.heap[b5]? ∧ True) (fun w440 dw440 => ?_)
 have hF441 := Sto.same (w1 := w440) hF428 (fun k hk hl => (by obtain ⟨m, rfl⟩ := dw440; rfl))
 have hk442 := hk429.drew dw440
 have hk443 := hk430.drew dw440
 have hk444 := hk431.drew dw440
 have hB445 := Chg.drew hB432 dw440
 refine WH.tp 0 rfl (.fa underlying72 rfl sizeOf22 dD rfl) ⟨(hk442).trans (hk429).symm, (hk443).trans (hk430).symm, trivial⟩ rfl ?_
 refine WH.tk 1 rfl (fun w' hw' => Rd.ld (isAgg22 _) rfl ((hw'.1).trans hk429) rfl) ⟨(hk442).trans (hk429).symm, (hk443).trans (hk430).symm, trivial⟩ rfl ?_
 refine WH.tk 2 rfl (fun w' hw' => Rd.ldA rfl ((hw'.2.1).trans hk430) underlying27 rfl isz27) ⟨(hk442).trans (hk429).symm, (hk443).trans (hk430).symm, trivial⟩ rfl ?_
 refine WH.tk 3 rfl (fun w' hw' => Rd.ldA rfl ((hw'.1).trans hk429) underlying72 rfl isz72) ⟨(hk442).trans (hk429).symm, (hk443).trans (hk430).symm, trivial⟩ rfl ?_
 refine WH.tk 4 rfl (fun w' hw' => Rd.ldA rfl ((hw'.2.1).trans hk430) underlying27 rfl isz27) ⟨(hk442).trans (hk429).symm, (hk443).trans (hk430).symm, trivial⟩ rfl ?_
 refine WH.tp 6 rfl (.mv rfl) ⟨(hk442).trans (hk429).symm, (hk443).trans (hk430).symm, trivial⟩ rfl ?_
 refine WH.br1 5 rfl ?_
 refine WL.c1 hb59 rfl rfl ((conv_access b F S o _ hF441 hok)) (fun w446 hw446 => ?_)
 have hF447 := Sto.same (w1 := w446) hF441 (fun k hk hl => hw446.block k hl)
 have hk448 := hk442.below hw446 hk442.lt
 have hk449 := hk443.below hw446 hk443.lt
 have hk450 := hk444.below hw446 hk444.lt
 have hB451 := Chg.low hB445 hw446
 refine WL.nil <| ?_
 refine ⟨⟨(hk448).trans (hk429).symm, (hk449).trans (hk430).symm, trivial⟩, ?_⟩
 refine WH.tp 7 rfl (.max2 rfl rfl) ⟨(hk448).trans (hk429).symm, (hk449).trans (hk430).symm, trivial⟩ rfl ?_
 refine WH.br1 8 rfl ?_
 refine WL.c1 hb34 rfl rfl ((sto_Lock b F S o _ _ hF447 hok hch)) (fun w452 hw452 => ?_)
 obtain ⟨F453, hstF453, hCF453, hxF453⟩ := Chg.open hw452
 have hnf454 := Chg.nf hCF453 hnf4 hk448.lt
 have hnf455 := Chg.nf hCF453 hnf10 hk449.lt
 have hnf456 := Chg.nf hCF453 hnf18 hk450.lt
 have hk457 := Blk.chg hk448 hCF453 hnf4
 have hk458 := Blk.chg hk449 hCF453 hnf10
 have hk459 := Blk.chg hk450 hCF453 hnf18
 have hB460 := Chg.trans hB451 hCF453
 refine WL.nil <| ?_
 refine ⟨⟨(hk457).trans (hk429).symm, (hk458).trans (hk430).symm, trivial⟩, ?_⟩
 refine WH.done kR ?_
 refine W.sr <| WL.r (Rd.ldA rfl hk458 underlying27 rfl isz27) rfl <| WL.stL rfl rfl hk459 isz27 rfl rfl (fun w461 hkw461 huw461 hsw461 => ?_)
 have hF462 := Sto.same (w1 := w461) hstF453 (fun k hk hl => huw461.other k (fun e => hnf456 (e ▸ hk)))
 have hB465 := Chg.upd hB460 huw461 oO
 refine WL.z rfl rfl ?_
 refine W.ret (W.retc2 rfl rfl (ldRow hkw461 underlying27 rfl isz27) rfl ?_)
 exact ⟨rvE (by rw [hO]; first | rfl | (rw [hto]; rfl)), _, by rw [hT]; first | exact hF462 | (rw [hto]; exact hF462), hB465⟩
 have h439' := dF h439
 have c3 : ¬ o.kind = 8 := by assumption
 have hO : lkO S s o = ({ o with access := if lockTo s > o.access then lockTo s else o.access }, 0) := by unfold lkO; rw [if_neg c1, if_neg c2, if_neg c3]
 have hT : lkS S s o = S := by unfold lkS; rw [if_neg c1, if_neg c2, if_neg c3]
 refine W.reg <| WL.p (.fa underlying27 rfl sizeOf3 dD rfl) rfl <| WL.r (Rd.ld (isAgg3 _) rfl hk430 rfl) rfl <| WL.m rfl rfl <| WL.p (.max2 rfl rfl) rfl <| WL.p (.fa underlying27 rfl sizeOf3 dD rfl) rfl <| WL.st sizeOf3 rfl rfl rfl hk430 oD (fun w466 hkw466 huw466 hsw466 => ?_)
 have hkw466 : Blk w466 b5 _ _ := hkw466
 have huw466 : Upd b5 _ _ := huw466
 have hF467 := Sto.same (w1 := w466) hF428 (fun k hk hl => huw466.other k (fun e => hnf10 (e ▸ hk)))
 have hk469 := hk431.up huw466
 have hB470 := Chg.upd hB432 huw466 oO
 refine WL.nil <| ?_
 refine W.sr <| WL.r (Rd.ldA rfl hkw466 underlying27 rfl isz27) rfl <| WL.stL rfl rfl hk469 isz27 rfl rfl (fun w471 hkw471 huw471 hsw471 => ?_)
 have hF472 := Sto.same (w1 := w471) hF467 (fun k hk hl => huw471.other k (fun e => hnf18 (e ▸ hk)))
 have hB475 := Chg.upd hB470 huw471 oO
 refine WL.z rfl rfl ?_
 refine W.ret (W.retc2 rfl rfl (ldRow hkw471 underlying27 rfl isz27) rfl ?_)
 exact ⟨rvE (by rw [hO]; first | rfl | (rw [hto]; rfl)), _, by rw [hT]; first | exact hF472 | (rw [hto]; exact hF472), hB475⟩
 have g426' := ndF g426
 refine WL.gn rfl rfl rfl g426 <| WL.gn rfl rfl rfl g426 <| WL.gn rfl rfl rfl g426 <| WL.p (.pkF rfl g426 rfl) rfl <| WL.z rfl rfl ?_
 refine W.condF rfl rfl ?_
 refine W.seq ?_
 have c2 : ¬ (lockTo s ≠ 3 ∧ accO S o = 3) := by rw [hto]; simp_all
 refine W.reg <| WL.p (.fa underlying27 rfl sizeOf3 dD rfl) rfl <| WL.r (Rd.ld (isAgg3 _) rfl hk410 rfl) rfl <| WL.p (.eql rfl rfl) rfl <| WL.z rfl rfl ?_
 refine W.cond rfl (fun h476 => ?_) (fun h476 => ?_)
 have h476' := dT h476
 have c3 : o.kind = 8 := by assumption
 have hO : lkO S s o = (o, 0) := by unfold lkO; rw [if_neg c1, if_neg c2, if_pos c3]
 have hT : lkS S s o = lockS S o (if lockTo s > accO S o then lockTo s else accO S o) := by unfold lkS; rw [if_neg c1, if_neg c2, if_pos c3]
 refine W.regH 9 rfl mixed (fun w' => w'.heap[b1]? = w407.heap[b1]? ∧ w'.heap[b5]? = w407.heap[b5]? ∧ True) (fun w477 dw477 => ?_)
 have hF478 := Sto.same (w1 := w477) hF408 (fun k hk hl => (by obtain ⟨m, rfl⟩ := dw477; rfl))
 have hk479 := hk409.drew dw477
 have hk480 := hk410.drew dw477
 have hk481 := hk411.drew dw477
 have hB482 := Chg.drew hB412 dw477
 refine WH.tp 0 rfl (.fa underlying72 rfl sizeOf22 dD rfl) ⟨(hk479).trans (hk409).symm, (hk480).trans (hk410).symm, trivial⟩ rfl ?_
 refine WH.tk 1 rfl (fun w' hw' => Rd.ld (isAgg22 _) rfl ((hw'.1).trans hk409) rfl) ⟨(hk479).trans (hk409).symm, (hk480).trans (hk410).symm, trivial⟩ rfl ?_
 refine WH.tk 2 rfl (fun w' hw' => Rd.ldA rfl ((hw'.2.1).trans hk410) underlying27 rfl isz27) ⟨(hk479).trans (hk409).symm, (hk480).trans (hk410).symm, trivial⟩ rfl ?_
 refine WH.tk 3 rfl (fun w' hw' => Rd.ldA rfl ((hw'.1).trans hk409) underlying72 rfl isz72) ⟨(hk479).trans (hk409).symm, (hk480).trans (hk410).symm, trivial⟩ rfl ?_
 refine WH.tk 4 rfl (fun w' hw' => Rd.ldA rfl ((hw'.2.1).trans hk410) underlying27 rfl isz27) ⟨(hk479).trans (hk409).symm, (hk480).trans (hk410).symm, trivial⟩ rfl ?_
 refine WH.tp 6 rfl (.mv rfl) ⟨(hk479).trans (hk409).symm, (hk480).trans (hk410).symm, trivial⟩ rfl ?_
 refine WH.br1 5 rfl ?_
 refine WL.c1 hb59 rfl rfl ((conv_access b F S o _ hF478 hok)) (fun w483 hw483 => ?_)
 have hF484 := Sto.same (w1 := w483) hF478 (fun k hk hl => hw483.block k hl)
 have hk485 := hk479.below hw483 hk479.lt
 have hk486 := hk480.below hw483 hk480.lt
 have hk487 := hk481.below hw483 hk481.lt
 have hB488 := Chg.low hB482 hw483
 refine WL.nil <| ?_
 refine ⟨⟨(hk485).trans (hk409).symm, (hk486).trans (hk410).symm, trivial⟩, ?_⟩
 refine WH.tp 7 rfl (.max2 rfl rfl) ⟨(hk485).trans (hk409).symm, (hk486).trans (hk410).symm, trivial⟩ rfl ?_
 refine WH.br1 8 rfl ?_
 refine WL.c1 hb34 rfl rfl ((sto_Lock b F S o _ _ hF484 hok hch)) (fun w489 hw489 => ?_)
 obtain ⟨F490, hstF490, hCF490, hxF490⟩ := Chg.open hw489
 have hnf491 := Chg.nf hCF490 hnf4 hk485.lt
 have hnf492 := Chg.nf hCF490 hnf10 hk486.lt
 have hnf493 := Chg.nf hCF490 hnf18 hk487.lt
 have hk494 := Blk.chg hk485 hCF490 hnf4
 have hk495 := Blk.chg hk486 hCF490 hnf10
 have hk496 := Blk.chg hk487 hCF490 hnf18
 have hB497 := Chg.trans hB488 hCF490
 refine WL.nil <| ?_
 refine ⟨⟨(hk494).trans (hk409).symm, (hk495).trans (hk410).symm, trivial⟩, ?_⟩
 refine WH.done kR ?_
 refine W.sr <| WL.r (Rd.ldA rfl hk495 underlying27 rfl isz27) rfl <| WL.stL rfl rfl hk496 isz27 rfl rfl (fun w498 hkw498 huw498 hsw498 => ?_)
 have hF499 := Sto.same (w1 := w498) hstF490 (fun k hk hl => huw498.other k (fun e => hnf493 (e ▸ hk)))
 have hB502 := Chg.upd hB497 huw498 oO
 refine WL.z rfl rfl ?_
 refine W.ret (W.retc2 rfl rfl (ldRow hkw498 underlying27 rfl isz27) rfl ?_)
 exact ⟨rvE (by rw [hO]; first | rfl | (rw [hto]; rfl)), _, by rw [hT]; first | exact hF499 | (rw [hto]; exact hF499), hB502⟩
 have h476' := dF h476
 have c3 : ¬ o.kind = 8 := by assumption
 have hO : lkO S s o = ({ o with access := if lockTo s > o.access then lockTo s else o.access }, 0) := by unfold lkO; rw [if_neg c1, if_neg c2, if_neg c3]
 have hT : lkS S s o = S := by unfold lkS; rw [if_neg c1, if_neg c2, if_neg c3]
 refine W.reg <| WL.p (.fa underlying27 rfl sizeOf3 dD rfl) rfl <| WL.r (Rd.ld (isAgg3 _) rfl hk410 rfl) rfl <| WL.m rfl rfl <| WL.p (.max2 rfl rfl) rfl <| WL.p (.fa underlying27 rfl sizeOf3 dD rfl) rfl <| WL.st sizeOf3 rfl rfl rfl hk410 oD (fun w503 hkw503 huw503 hsw503 => ?_)
 have hkw503 : Blk w503 b5 _ _ := hkw503
 have huw503 : Upd b5 _ _ := huw503
 have hF504 := Sto.same (w1 := w503) hF408 (fun k hk hl => huw503.other k (fun e => hnf10 (e ▸ hk)))
 have hk506 := hk411.up huw503
 have hB507 := Chg.upd hB412 huw503 oO
 refine WL.nil <| ?_
 refine W.sr <| WL.r (Rd.ldA rfl hkw503 underlying27 rfl isz27) rfl <| WL.stL rfl rfl hk506 isz27 rfl rfl (fun w508 hkw508 huw508 hsw508 => ?_)
 have hF509 := Sto.same (w1 := w508) hF504 (fun k hk hl => huw508.other k (fun e => hnf18 (e ▸ hk)))
 have hB512 := Chg.upd hB507 huw508 oO
 refine WL.z rfl rfl ?_
 refine W.ret (W.retc2 rfl rfl (ldRow hkw508 underlying27 rfl isz27) rfl ?_)
 exact ⟨rvE (by rw [hO]; first | rfl | (rw [hto]; rfl)), _, by rw [hT]; first | exact hF509 | (rw [hto]; exact hF509), hB512⟩
 have g419' := dF g419
 refine WL.gn rfl rfl rfl g419 <| WL.p (.pkF rfl g419 rfl) rfl <| WL.z rfl rfl ?_
 refine W.condF rfl rfl ?_
 refine W.seq ?_
 have c1 : ¬ (typedB o = false ∨ (o.kind = 8 ∧ lockTo s = 2)) := by rw [hto]; simp_all
 refine W.reg <| WL.m rfl rfl <| WL.p (.neq rfl rfl) rfl <| WL.m rfl rfl <| WL.gd rfl rfl rfl (fun g513 => ?_) (fun g513 => ?_)
 have g513' := ndT g513
 refine WL.r (Rd.ldA rfl hk409 underlying72 rfl isz72) rfl <| WL.gy rfl rfl rfl g513 <| WL.r (Rd.ldA rfl hk410 underlying27 rfl isz27) rfl <| WL.gy rfl rfl rfl g513 <| WL.c1 hb59 rfl rfl ((conv_access b F S o _ hF408 hok)) (fun w514 hw514 => ?_)
 have hF515 := Sto.same (w1 := w514) hF408 (fun k hk hl => hw514.block k hl)
 have hk516 := hk409.below hw514 hk409.lt
 have hk517 := hk410.below hw514 hk410.lt
 have hk518 := hk411.below hw514 hk411.lt
 have hB519 := Chg.low hB412 hw514
 refine WL.gy rfl rfl rfl g513 <| WL.p (.eql rfl rfl) rfl <| WL.p (.pkT rfl g513 rfl) rfl <| WL.z rfl rfl ?_
 refine W.cond rfl (fun h520 => ?_) (fun h520 => ?_)
 have h520' := dT h520
 refine W.seq ?_
 have c2 : lockTo s ≠ 3 ∧ accO S o = 3 := by rw [hto]; simp_all
 have hO : lkO S s o = (ob0, 5) := by unfold lkO; rw [if_neg c1, if_pos c2]
 have hT : lkS S s o = S := by unfold lkS; rw [if_neg c1, if_pos c2]
 refine W.reg <| WL.p (.buildL (ps := _) blt27 rfl rfl rfl pZ) rfl ?_
 refine WL.stL rfl rfl hk518 isz27 rfl rfl (fun w521 hkw521 huw521 hsw521 => ?_)
 have hF522 := Sto.same (w1 := w521) hF515 (fun k hk hl => huw521.other k (fun e => hnf18 (e ▸ hk)))
 have hB525 := Chg.upd hB519 huw521 oO
 refine WL.z rfl rfl ?_
 refine W.ret (W.retc2 rfl rfl (ldRow hkw521 underlying27 rfl isz27) rfl ?_)
 exact ⟨rvE (by rw [hO]; first | rfl | (rw [hto]; rfl)), _, by rw [hT]; first | exact hF522 | (rw [hto]; exact hF522), hB525⟩
 have h520' := dF h520
 refine W.seq ?_
 have c2 : ¬ (lockTo s ≠ 3 ∧ accO S o = 3) := by rw [hto]; simp_all
 refine W.reg <| WL.p (.fa underlying27 rfl sizeOf3 dD rfl) rfl <| WL.r (Rd.ld (isAgg3 _) rfl hk517 rfl) rfl <| WL.p (.eql rfl rfl) rfl <| WL.z rfl rfl ?_
 refine W.cond rfl (fun h526 => ?_) (fun h526 => ?_)
 have h526' := dT h526
 have c3 : o.kind = 8 := by assumption
 have hO : lkO S s o = (o, 0) := by unfold lkO; rw [if_neg c1, if_neg c2, if_pos c3]
 have hT : lkS S s o = lockS S o (if lockTo s > accO S o then lockTo s else accO S o) := by unfold lkS; rw [if_neg c1, if_neg c2, if_pos c3]
 refine W.regH 9 rfl mixed (fun w' => w'.heap[b1]? = w514.heap[b1]? ∧ w'.heap[b5]? = w514.heap[b5]? ∧ True) (fun w527 dw527 => ?_)
 have hF528 := Sto.same (w1 := w527) hF515 (fun k hk hl => (by obtain ⟨m, rfl⟩ := dw527; rfl))
 have hk529 := hk516.drew dw527
 have hk530 := hk517.drew dw527
 have hk531 := hk518.drew dw527
 have hB532 := Chg.drew hB519 dw527
 refine WH.tp 0 rfl (.fa underlying72 rfl sizeOf22 dD rfl) ⟨(hk529).trans (hk516).symm, (hk530).trans (hk517).symm, trivial⟩ rfl ?_
 refine WH.tk 1 rfl (fun w' hw' => Rd.ld (isAgg22 _) rfl ((hw'.1).trans hk516) rfl) ⟨(hk529).trans (hk516).symm, (hk530).trans (hk517).symm, trivial⟩ rfl ?_
 refine WH.tk 2 rfl (fun w' hw' => Rd.ldA rfl ((hw'.2.1).trans hk517) underlying27 rfl isz27) ⟨(hk529).trans (hk516).symm, (hk530).trans (hk517).symm, trivial⟩ rfl ?_
 refine WH.tk 3 rfl (fun w' hw' => Rd.ldA rfl ((hw'.1).trans hk516) underlying72 rfl isz72) ⟨(hk529).trans (hk516).symm, (hk530).trans (hk517).symm, trivial⟩ rfl ?_
 refine WH.tk 4 rfl (fun w' hw' => Rd.ldA rfl ((hw'.2.1).trans hk517) underlying27 rfl isz27) ⟨(hk529).trans (hk516).symm, (hk530).trans (hk517).symm, trivial⟩ rfl ?_
 refine WH.tp 6 rfl (.mv rfl) ⟨(hk529).trans (hk516).symm, (hk530).trans (hk517).symm, trivial⟩ rfl ?_
 refine WH.br1 5 rfl ?_
 refine WL.c1 hb59 rfl rfl ((conv_access b F S o _ hF528 hok)) (fun w533 hw533 => ?_)
 have hF534 := Sto.same (w1 := w533) hF528 (fun k hk hl => hw533.block k hl)
 have hk535 := hk529.below hw533 hk529.lt
 have hk536 := hk530.below hw533 hk530.lt
 have hk537 := hk531.below hw533 hk531.lt
 have hB538 := Chg.low hB532 hw533
 refine WL.nil <| ?_
 refine ⟨⟨(hk535).trans (hk516).symm, (hk536).trans (hk517).symm, trivial⟩, ?_⟩
 refine WH.tp 7 rfl (.max2 rfl rfl) ⟨(hk535).trans (hk516).symm, (hk536).trans (hk517).symm, trivial⟩ rfl ?_
 refine WH.br1 8 rfl ?_
 refine WL.c1 hb34 rfl rfl ((sto_Lock b F S o _ _ hF534 hok hch)) (fun w539 hw539 => ?_)
 obtain ⟨F540, hstF540, hCF540, hxF540⟩ := Chg.open hw539
 have hnf541 := Chg.nf hCF540 hnf4 hk535.lt
 have hnf542 := Chg.nf hCF540 hnf10 hk536.lt
 have hnf543 := Chg.nf hCF540 hnf18 hk537.lt
 have hk544 := Blk.chg hk535 hCF540 hnf4
 have hk545 := Blk.chg hk536 hCF540 hnf10
 have hk546 := Blk.chg hk537 hCF540 hnf18
 have hB547 := Chg.trans hB538 hCF540
 refine WL.nil <| ?_
 refine ⟨⟨(hk544).trans (hk516).symm, (hk545).trans (hk517).symm, trivial⟩, ?_⟩
 refine WH.done kR ?_
 refine W.sr <| WL.r (Rd.ldA rfl hk545 underlying27 rfl isz27) rfl <| WL.stL rfl rfl hk546 isz27 rfl rfl (fun w548 hkw548 huw548 hsw548 => ?_)
 have hF549 := Sto.same (w1 := w548) hstF540 (fun k hk hl => huw548.other k (fun e => hnf543 (e ▸ hk)))
 have hB552 := Chg.upd hB547 huw548 oO
 refine WL.z rfl rfl ?_
 refine W.ret (W.retc2 rfl rfl (ldRow hkw548 underlying27 rfl isz27) rfl ?_)
 exact ⟨rvE (by rw [hO]; first | rfl | (rw [hto]; rfl)), _, by rw [hT]; first | exact hF549 | (rw [hto]; exact hF549), hB552⟩
 have h526' := dF h526
 have c3 : ¬ o.kind = 8 := by assumption
 have hO : lkO S s o = ({ o with access := if lockTo s > o.access then lockTo s else o.access }, 0) := by unfold lkO; rw [if_neg c1, if_neg c2, if_neg c3]
 have hT : lkS S s o = S := by unfold lkS; rw [if_neg c1, if_neg c2, if_neg c3]
 refine W.reg <| WL.p (.fa underlying27 rfl sizeOf3 dD rfl) rfl <| WL.r (Rd.ld (isAgg3 _) rfl hk517 rfl) rfl <| WL.m rfl rfl <| WL.p (.max2 rfl rfl) rfl <| WL.p (.fa underlying27 rfl sizeOf3 dD rfl) rfl <| WL.st sizeOf3 rfl rfl rfl hk517 oD (fun w553 hkw553 huw553 hsw553 => ?_)
 have hkw553 : Blk w553 b5 _ _ := hkw553
 have huw553 : Upd b5 _ _ := huw553
 have hF554 := Sto.same (w1 := w553) hF515 (fun k hk hl => huw553.other k (fun e => hnf10 (e ▸ hk)))
 have hk556 := hk518.up huw553
 have hB557 := Chg.upd hB519 huw553 oO
 refine WL.nil <| ?_
 refine W.sr <| WL.r (Rd.ldA rfl hkw553 underlying27 rfl isz27) rfl <| WL.stL rfl rfl hk556 isz27 rfl rfl (fun w558 hkw558 huw558 hsw558 => ?_)
 have hF559 := Sto.same (w1 := w558) hF554 (fun k hk hl => huw558.other k (fun e => hnf18 (e ▸ hk)))
 have hB562 := Chg.upd hB557 huw558 oO
 refine WL.z rfl rfl ?_
 refine W.ret (W.retc2 rfl rfl (ldRow hkw558 underlying27 rfl isz27) rfl ?_)
 exact ⟨rvE (by rw [hO]; first | rfl | (rw [hto]; rfl)), _, by rw [hT]; first | exact hF559 | (rw [hto]; exact hF559), hB562⟩
 have g513' := ndF g513
 refine WL.gn rfl rfl rfl g513 <| WL.gn rfl rfl rfl g513 <| WL.gn rfl rfl rfl g513 <| WL.p (.pkF rfl g513 rfl) rfl <| WL.z rfl rfl ?_
 refine W.condF rfl rfl ?_
 refine W.seq ?_
 have c2 : ¬ (lockTo s ≠ 3 ∧ accO S o = 3) := by rw [hto]; simp_all
 refine W.reg <| WL.p (.fa underlying27 rfl sizeOf3 dD rfl) rfl <| WL.r (Rd.ld (isAgg3 _) rfl hk410 rfl) rfl <| WL.p (.eql rfl rfl) rfl <| WL.z rfl rfl ?_
 refine W.cond rfl (fun h563 => ?_) (fun h563 => ?_)
 have h563' := dT h563
 have c3 : o.kind = 8 := by assumption
 have hO : lkO S s o = (o, 0) := by unfold lkO; rw [if_neg c1, if_neg c2, if_pos c3]
 have hT : lkS S s o = lockS S o (if lockTo s > accO S o then lockTo s else accO S o) := by unfold lkS; rw [if_neg c1, if_neg c2, if_pos c3]
 refine W.regH 9 rfl mixed (fun w' => w'.heap[b1]? = w407.heap[b1]? ∧ w'.heap[b5]? = w407.heap[b5]? ∧ True) (fun w564 dw564 => ?_)
 have hF565 := Sto.same (w1 := w564) hF408 (fun k hk hl => (by obtain ⟨m, rfl⟩ := dw564; rfl))
 have hk566 := hk409.drew dw564
 have hk567 := hk410.drew dw564
 have hk568 := hk411.drew dw564
 have hB569 := Chg.drew hB412 dw564
 refine WH.tp 0 rfl (.fa underlying72 rfl sizeOf22 dD rfl) ⟨(hk566).trans (hk409).symm, (hk567).trans (hk410).symm, trivial⟩ rfl ?_
 refine WH.tk 1 rfl (fun w' hw' => Rd.ld (isAgg22 _) rfl ((hw'.1).trans hk409) rfl) ⟨(hk566).trans (hk409).symm, (hk567).trans (hk410).symm, trivial⟩ rfl ?_
 refine WH.tk 2 rfl (fun w' hw' => Rd.ldA rfl ((hw'.2.1).trans hk410) underlying27 rfl isz27) ⟨(hk566).trans (hk409).symm, (hk567).trans (hk410).symm, trivial⟩ rfl ?_
 refine WH.tk 3 rfl (fun w' hw' => Rd.ldA rfl ((hw'.1).trans hk409) underlying72 rfl isz72) ⟨(hk566).trans (hk409).symm, (hk567).trans (hk410).symm, trivial⟩ rfl ?_
 refine WH.tk 4 rfl (fun w' hw' => Rd.ldA rfl ((hw'.2.1).trans hk410) underlying27 rfl isz27) ⟨(hk566).trans (hk409).symm, (hk567).trans (hk410).symm, trivial⟩ rfl ?_
 refine WH.tp 6 rfl (.mv rfl) ⟨(hk566).trans (hk409).symm, (hk567).trans (hk410).symm, trivial⟩ rfl ?_
 refine WH.br1 5 rfl ?_
 refine WL.c1 hb59 rfl rfl ((conv_access b F S o _ hF565 hok)) (fun w570 hw570 => ?_)
 have hF571 := Sto.same (w1 := w570) hF565 (fun k hk hl => hw570.block k hl)
 have hk572 := hk566.below hw570 hk566.lt
 have hk573 := hk567.below hw570 hk567.lt
 have hk574 := hk568.below hw570 hk568.lt
 have hB575 := Chg.low hB569 hw570
 refine WL.nil <| ?_
 refine ⟨⟨(hk572).trans (hk409).symm, (hk573).trans (hk410).symm, trivial⟩, ?_⟩
 refine WH.tp 7 rfl (.max2 rfl rfl) ⟨(hk572).trans (hk409).symm, (hk573).trans (hk410).symm, trivial⟩ rfl ?_
 refine WH.br1 8 rfl ?_
 refine WL.c1 hb34 rfl rfl ((sto_Lock b F S o _ _ hF571 hok hch)) (fun w576 hw576 => ?_)
 obtain ⟨F577, hstF577, hCF577, hxF577⟩ := Chg.open hw576
 have hnf578 := Chg.nf hCF577 hnf4 hk572.lt
 have hnf579 := Chg.nf hCF577 hnf10 hk573.lt
 have hnf580 := Chg.nf hCF577 hnf18 hk574.lt
 have hk581 := Blk.chg hk572 hCF577 hnf4
 have hk582 := Blk.chg hk573 hCF577 hnf10
 have hk583 := Blk.chg hk574 hCF577 hnf18
 have hB584 := Chg.trans hB575 hCF577
 refine WL.nil <| ?_
 refine ⟨⟨(hk581).trans (hk409).symm, (hk582).trans (hk410).symm, trivial⟩, ?_⟩
 refine WH.done kR ?_
 refine W.sr <| WL.r (Rd.ldA rfl hk582 underlying27 rfl isz27) rfl <| WL.stL rfl rfl hk583 isz27 rfl rfl (fun w585 hkw585 huw585 hsw585 => ?_)
 have hF586 := Sto.same (w1 := w585) hstF577 (fun k hk hl => huw585.other k (fun e => hnf580 (e ▸ hk)))
 have hB589 := Chg.upd hB584 huw585 oO
 refine WL.z rfl rfl ?_
 refine W.ret (W.retc2 rfl rfl (ldRow hkw585 underlying27 rfl isz27) rfl ?_)
 exact ⟨rvE (by rw [hO]; first | rfl | (rw [hto]; rfl)), _, by rw [hT]; first | exact hF586 | (rw [hto]; exact hF586), hB589⟩
 have h563' := dF h563
 have c3 : ¬ o.kind = 8 := by assumption
 have hO : lkO S s o = ({ o with access := if lockTo s > o.access then lockTo s else o.access }, 0) := by unfold lkO; rw [if_neg c1, if_neg c2, if_neg c3]
 have hT : lkS S s o = S := by unfold lkS; rw [if_neg c1, if_neg c2, if_neg c3]
 refine W.reg <| WL.p (.fa underlying27 rfl sizeOf3 dD rfl) rfl <| WL.r (Rd.ld (isAgg3 _) rfl hk410 rfl) rfl <| WL.m rfl rfl <| WL.p (.max2 rfl rfl) rfl <| WL.p (.fa underlying27 rfl sizeOf3 dD rfl) rfl <| WL.st sizeOf3 rfl rfl rfl hk410 oD (fun w590 hkw590 huw590 hsw590 => ?_)
 have hkw590 : Blk w590 b5 _ _ := hkw590
 have huw590 : Upd b5 _ _ := huw590
 have hF591 := Sto.same (w1 := w590) hF408 (fun k hk hl => huw590.other k (fun e => hnf10 (e ▸ hk)))
 have hk593 := hk411.up huw590
 have hB594 := Chg.upd hB412 huw590 oO
 refine WL.nil <| ?_
 refine W.sr <| WL.r (Rd.ldA rfl hkw590 underlying27 rfl isz27) rfl <| WL.stL rfl rfl hk593 isz27 rfl rfl (fun w595 hkw595 huw595 hsw595 => ?_)
 have hF596 := Sto.same (w1 := w595) hF591 (fun k hk hl => huw595.other k (fun e => hnf18 (e ▸ hk)))
 have hB599 := Chg.upd hB594 huw595 oO
 refine WL.z rfl rfl ?_
 refine W.ret (W.retc2 rfl rfl (ldRow hkw595 underlying27 rfl isz27) rfl ?_)
 exact ⟨rvE (by rw [hO]; first | rfl | (rw [hto]; rfl)), _, by rw [hT]; first | exact hF596 | (rw [hto]; exact hF596), hB599⟩
end
section
def nameO (S : StoV) (o : ObjV) : ObjV × Int :=
 if o.kind ≠ 6 then (ob0, 16) else if readB S o = false then (ob0, 5) else if 127 < o.len then (ob0, 9) else ({ ob0 with kind := 5, exec := o.exec, name := bytesO S o }, 0)
theorem conv_name (b : Nat) (F : Nat → Prop) (S : StoV) (o : ObjV) (w : World) (h : Sto w b F S) (hok : SOk S) :
  Calls Tryz.prog 41 #[workV b, .agg (objV o).toArray] w fun e w' => e = .returned (pairV (nameO S o)) ∧ Below w.heap.size w w' := by
 refine W.enter func41 rfl ntmps41 (Nat.le_of_ble_eq_true rfl) ?_
 have hB0 := Below.refl (w.heap.size) w
 refine W.sr <| WL.box rfl rfl (fun b1 wb1 eb1 hkb1 hub1 hsb1 => ?_)
 have hB2 := Upd.below hB0 (by rw [eb1]; exact hB0.size) hub1
 have hgeb1 : w.heap.size ≤ b1 := by rw [eb1]; exact hB0.size
 refine WL.box rfl rfl (fun b3 wb3 eb3 hkb3 hub3 hsb3 => ?_)
 have hl5 : b1 < b3 := by rw [eb3]; exact hkb1.lt
 have hk4 := hkb1.upd hub3 (Nat.ne_of_lt hl5)
 have hB6 := Upd.below hB2 (by rw [eb3]; exact hB2.size) hub3
 have hgeb3 : w.heap.size ≤ b3 := by rw [eb3]; exact hB2.size
 refine WL.alloc zeroValue27 rfl (fun b7 wb7 eb7 hkb7 hub7 hsb7 => ?_)
 have hl9 : b1 < b7 := by rw [eb7]; exact hk4.lt
 have hk8 := hk4.upd hub7 (Nat.ne_of_lt hl9)
 have hl11 : b3 < b7 := by rw [eb7]; exact hkb3.lt
 have hk10 := hkb3.upd hub7 (Nat.ne_of_lt hl11)
 have hB12 := Upd.below hB6 (by rw [eb7]; exact hB6.size) hub7
 have hgeb7 : w.heap.size ≤ b7 := by rw [eb7]; exact hB6.size
 refine WL.z rfl rfl ?_
 refine W.seq <| W.block <| W.sr <| WL.p (.fa underlying27 rfl sizeOf3 dD rfl) rfl <| WL.r (Rd.ld (isAgg3 _) rfl hk10 rfl) rfl <| WL.p (.neq rfl rfl) rfl <| WL.z rfl rfl ?_
 refine W.cond rfl (fun h13 => ?_) (fun h13 => ?_)
 have h13' := ndT h13
 have c1 : o.kind ≠ 6 := by assumption
 refine W.sr <| WL.p (.buildL (ps := _) blt27 rfl rfl rfl pZ) rfl ?_
 refine WL.stL rfl rfl hkb7 isz27 rfl rfl (fun w14 hkw14 huw14 hsw14 => ?_)
 have hB17 := Upd.below hB12 oO huw14
 refine WL.z rfl rfl ?_
 refine W.ret (W.retc2 rfl rfl (ldRow hkw14 underlying27 rfl isz27) rfl ?_)
 exact ⟨rvE (by unfold pairV nameO; rw [if_pos c1]; rfl), hB17⟩
 have h13' := ndF h13
 have c1 : ¬ o.kind ≠ 6 := by simp_all
 refine W.sr <| WL.r (Rd.ldA rfl hk8 underlying72 rfl isz72) rfl <| WL.r (Rd.ldA rfl hk10 underlying27 rfl isz27) rfl <| WL.c1 hb57 rfl rfl ((conv_readable b F S o _ (h.below hB12) hok)) (fun w18 hw18 => ?_)
 have hk19 := hk8.below hw18 hk8.lt
 have hk20 := hk10.below hw18 hk10.lt
 have hk21 := hkb7.below hw18 hkb7.lt
 have hB22 := btr hB12 hw18
 refine WL.p (.not rfl) rfl <| WL.z rfl rfl ?_
 refine W.cond rfl (fun h23 => ?_) (fun h23 => ?_)
 have h23' := (nT h23)
 refine W.sr <| WL.p (.buildL (ps := _) blt27 rfl rfl rfl pZ) rfl ?_
 refine WL.stL rfl rfl hk21 isz27 rfl rfl (fun w24 hkw24 huw24 hsw24 => ?_)
 have hB27 := Upd.below hB22 oO huw24
 refine WL.z rfl rfl ?_
 refine W.ret (W.retc2 rfl rfl (ldRow hkw24 underlying27 rfl isz27) rfl ?_)
 exact ⟨rvE (by unfold pairV nameO; rw [if_neg c1, if_pos (by simp_all)]; rfl), hB27⟩
 have h23' := (nF h23)
 refine W.sr <| WL.p (.fa underlying27 rfl sizeOf3 dD rfl) rfl <| WL.r (Rd.ld (isAgg3 _) rfl hk20 rfl) rfl <| WL.p (.gtr rfl rfl) rfl <| WL.z rfl rfl ?_
 refine W.cond rfl (fun h28 => ?_) (fun h28 => ?_)
 have h28' := dT h28
 refine W.sr <| WL.p (.buildL (ps := _) blt27 rfl rfl rfl pZ) rfl ?_
 refine WL.stL rfl rfl hk21 isz27 rfl rfl (fun w29 hkw29 huw29 hsw29 => ?_)
 have hB32 := Upd.below hB22 oO huw29
 refine WL.z rfl rfl ?_
 refine W.ret (W.retc2 rfl rfl (ldRow hkw29 underlying27 rfl isz27) rfl ?_)
 exact ⟨rvE (by unfold pairV nameO; rw [if_neg c1, if_neg (by simp_all), if_pos aS]; rfl), hB32⟩
 have h28' := dF h28
 refine W.skip <| W.sr <| WL.p (.fa underlying72 rfl sizeOf22 dD rfl) rfl <| WL.r (Rd.ld (isAgg22 _) rfl hk19 rfl) rfl <| WL.r (Rd.ldA rfl hk20 underlying27 rfl isz27) rfl <| WL.call hb10 rfl rfl ((sto_Bytes b F S o _ (h.below hB22) hok)) (fun r w33 hw33 => ?_)
 have hk35 := hk20.below hw33.1 hk20.lt
 have hk36 := hk21.below hw33.1 hk21.lt
 have hB37 := btr hB22 hw33.1
 obtain ⟨v1, rfl, ho1⟩ := hw33.2
 obtain ⟨p1, cc1, rfl, hbt, -⟩ := ho1.bytesC
 refine WL.m rfl rfl <| WL.p (.ext rfl rfl) rfl <| WL.p (.ext rfl rfl) rfl <| WL.a rfl rfl <| WL.z rfl rfl ?_
 refine W.sr <| WL.p (.fa underlying27 rfl sizeOf4 dD rfl) rfl <| WL.r (Rd.ld (isAgg4 _) rfl hk35 rfl) rfl <| WL.m rfl rfl <| WL.r (Rd.b2s (l := (bytesO S o)) underlying35 underlying5 underlying9 rfl (hbt)) rfl <| ?_
 refine WL.p (.buildL (ps := _) blt27 rfl rfl rfl pS) rfl ?_
 refine WL.stL rfl rfl hk36 isz27 rfl rfl (fun w38 hkw38 huw38 hsw38 => ?_)
 have hB41 := Upd.below hB37 oO huw38
 refine WL.z rfl rfl ?_
 refine W.ret (W.retc2 rfl rfl (ldRow hkw38 underlying27 rfl isz27) rfl ?_)
 exact ⟨rvE (by unfold pairV nameO; rw [if_neg c1, if_neg (by simp_all), if_neg aS]; rfl), hB41⟩
def s_type : List UInt8 := [116, 121, 112, 101]
def unaO (S : StoV) (s : List UInt8) (o : ObjV) : ObjV × Int :=
 if s = [99, 118, 120] ∨ s = [99, 118, 108, 105, 116] then ({ o with exec := decide (s = [99, 118, 120]) }, 0)
 else if s = [120, 99, 104, 101, 99, 107] then (truO o.exec, 0)
 else if s = [99, 118, 105] then wholeO S o else if s = [99, 118, 114] then realO S o else if s = [99, 118, 110] then nameO S o
 else if s = rcheckL ∨ s = [119, 99, 104, 101, 99, 107] then chkO S s o else lkO S s o
abbrev lkNm (s : List UInt8) : Prop := ¬ (s = [99, 118, 120] ∨ s = [99, 118, 108, 105, 116]) ∧ s ≠ [120, 99, 104, 101, 99, 107] ∧ s ≠ [99, 118, 105] ∧ s ≠ [99, 118, 114] ∧ s ≠ [99, 118, 110] ∧ ¬ (s = rcheckL ∨ s = [119, 99, 104, 101, 99, 107])
def unaS (S : StoV) (s : List UInt8) (o : ObjV) : StoV := if lkNm s then lkS S s o else S
set_option maxHeartbeats 3200000 in
theorem conv_unary (b : Nat) (F : Nat → Prop) (S : StoV) (s : List UInt8) (o : ObjV) (w : World) (h : Sto w b F S) (hok : SOk S) (hch : S.changes.length ≤ 800000000000) (hs : s ≠ s_type) :
  Calls Tryz.prog 21 #[workV b, .string (bs s), .agg (objV o).toArray] w fun e w' => e = .returned (pairV (unaO S s o)) ∧ ∃ F1, Sto w' b F1 (unaS S s o) ∧ Chg F F1 w w' := by
 refine W.enter func21 rfl ntmps21 (Nat.le_of_ble_eq_true rfl) ?_
 have hB0 := Chg.refl F w
 refine W.sr <| WL.box rfl rfl (fun b1 wb1 eb1 hkb1 hub1 hsb1 => ?_)
 have hF2 := Sto.same (w1 := wb1) h (fun k hk hl => hub1.other k oO)
 have hgeb1 : w.heap.size ≤ b1 := by rw [eb1]; exact hB0.size
 have hB3 := Chg.upd hB0 hub1 hgeb1
 have hnf4 : ¬ F b1 := fun hq => by have hq1 := (h).lt hq; omega
 refine WL.box rfl rfl (fun b5 wb5 eb5 hkb5 hub5 hsb5 => ?_)
 have hF6 := Sto.same (w1 := wb5) hF2 (fun k hk hl => hub5.other k oO)
 have hl8 : b1 < b5 := by rw [eb5]; exact hkb1.lt
 have hk7 := hkb1.upd hub5 (Nat.ne_of_lt hl8)
 have hgeb5 : w.heap.size ≤ b5 := by rw [eb5]; exact hB3.size
 have hB9 := Chg.upd hB3 hub5 hgeb5
 have hnf10 : ¬ F b5 := fun hq => by have hq1 := (hF2).lt hq; omega
 refine WL.alloc zeroValue27 rfl (fun b11 wb11 eb11 hkb11 hub11 hsb11 => ?_)
 have hF12 := Sto.same (w1 := wb11) hF6 (fun k hk hl => hub11.other k oO)
 have hl14 : b1 < b11 := by rw [eb11]; exact hk7.lt
 have hk13 := hk7.upd hub11 (Nat.ne_of_lt hl14)
 have hl16 : b5 < b11 := by rw [eb11]; exact hkb5.lt
 have hk15 := hkb5.upd hub11 (Nat.ne_of_lt hl16)
 have hgeb11 : w.heap.size ≤ b11 := by rw [eb11]; exact hB9.size
 have hB17 := Chg.upd hB9 hub11 hgeb11
 have hnf18 : ¬ F b11 := fun hq => by have hq1 := (hF6).lt hq; omega
 refine WL.z rfl rfl ?_
 refine W.seq <| W.sr <| WL.m rfl rfl <| WL.nil <| ?_
 refine W.block <| W.sr <| WL.p (.eqs rfl rfl) rfl <| WL.z rfl rfl ?_
 refine W.cond rfl (fun h19 => ?_) (fun h19 => ?_)
 have h19' := dT h19
 exact absurd aS hs
 have h19' := dF h19
 refine W.seq <| W.sr <| WL.p (.eqs rfl rfl) rfl <| WL.z rfl rfl ?_
 refine W.cond rfl (fun h20 => ?_) (fun h20 => ?_)
 have h20' := dT h20
 refine W.skip <| W.condT rfl h20 ?_
 refine W.seq ?_
 have c1 : s = [99, 118, 120] ∨ s = [99, 118, 108, 105, 116] := by simp_all
 have hO : unaO S s o = ({ o with exec := decide (s = [99, 118, 120]) }, 0) := if_pos c1
 have hT : unaS S s o = S := if_neg (fun q => q.1 c1)
 refine W.reg <| WL.m rfl rfl <| WL.p (.eqs rfl rfl) rfl <| WL.p (.fa underlying27 rfl sizeOf4 dD rfl) rfl <| WL.st sizeOf4 rfl rfl rfl hk15 oD (fun w21 hkw21 huw21 hsw21 => ?_)
 have hkw21 : Blk w21 b5 _ _ := hkw21
 have huw21 : Upd b5 _ _ := huw21
 have hF22 := Sto.same (w1 := w21) hF12 (fun k hk hl => huw21.other k (fun e => hnf10 (e ▸ hk)))
 have hk24 := hkb11.up huw21
 have hB25 := Chg.upd hB17 huw21 oO
 refine WL.nil <| ?_
 refine W.sr <| WL.r (Rd.ldA rfl hkw21 underlying27 rfl isz27) rfl <| WL.stL rfl rfl hk24 isz27 rfl rfl (fun w26 hkw26 huw26 hsw26 => ?_)
 have hF27 := Sto.same (w1 := w26) hF22 (fun k hk hl => huw26.other k (fun e => hnf18 (e ▸ hk)))
 have hB30 := Chg.upd hB25 huw26 oO
 refine WL.z rfl rfl ?_
 refine W.ret (W.retc2 rfl rfl (ldRow hkw26 underlying27 rfl isz27) rfl ?_)
 exact ⟨rvE (by rw [hO]; rfl), _, by rw [hT]; exact hF27, hB30⟩
 have h20' := dF h20
 refine W.reg <| WL.p (.eqs rfl rfl) rfl <| WL.z rfl rfl ?_
 refine W.cond rfl (fun h31 => ?_) (fun h31 => ?_)
 have h31' := dT h31
 refine W.seq ?_
 have c1 : s = [99, 118, 120] ∨ s = [99, 118, 108, 105, 116] := by simp_all
 have hO : unaO S s o = ({ o with exec := decide (s = [99, 118, 120]) }, 0) := if_pos c1
 have hT : unaS S s o = S := if_neg (fun q => q.1 c1)
 refine W.reg <| WL.m rfl rfl <| WL.p (.eqs rfl rfl) rfl <| WL.p (.fa underlying27 rfl sizeOf4 dD rfl) rfl <| WL.st sizeOf4 rfl rfl rfl hk15 oD (fun w32 hkw32 huw32 hsw32 => ?_)
 have hkw32 : Blk w32 b5 _ _ := hkw32
 have huw32 : Upd b5 _ _ := huw32
 have hF33 := Sto.same (w1 := w32) hF12 (fun k hk hl => huw32.other k (fun e => hnf10 (e ▸ hk)))
 have hk35 := hkb11.up huw32
 have hB36 := Chg.upd hB17 huw32 oO
 refine WL.nil <| ?_
 refine W.sr <| WL.r (Rd.ldA rfl hkw32 underlying27 rfl isz27) rfl <| WL.stL rfl rfl hk35 isz27 rfl rfl (fun w37 hkw37 huw37 hsw37 => ?_)
 have hF38 := Sto.same (w1 := w37) hF33 (fun k hk hl => huw37.other k (fun e => hnf18 (e ▸ hk)))
 have hB41 := Chg.upd hB36 huw37 oO
 refine WL.z rfl rfl ?_
 refine W.ret (W.retc2 rfl rfl (ldRow hkw37 underlying27 rfl isz27) rfl ?_)
 exact ⟨rvE (by rw [hO]; rfl), _, by rw [hT]; exact hF38, hB41⟩
 have h31' := dF h31
 refine W.seq ?_
 have c1 : ¬ (s = [99, 118, 120] ∨ s = [99, 118, 108, 105, 116]) := by simp_all
 refine W.reg <| WL.p (.eqs rfl rfl) rfl <| WL.z rfl rfl ?_
 refine W.cond rfl (fun h42 => ?_) (fun h42 => ?_)
 have h42' := dT h42
 refine W.seq ?_
 have c2 : s = [120, 99, 104, 101, 99, 107] := by assumption
 have hO : unaO S s o = (truO o.exec, 0) := by unfold unaO; rw [if_neg c1, if_pos c2]
 have hT : unaS S s o = S := if_neg (fun q => q.2.1 c2)
 refine W.reg <| WL.p (.fa underlying27 rfl sizeOf4 dD rfl) rfl <| WL.r (Rd.ld (isAgg4 _) rfl hk15 rfl) rfl <| WL.c1 hb38 rfl rfl ((conv_truth _ _)) (fun w43 hw43 => ?_)
 have hF44 := Sto.same (w1 := w43) hF12 (fun k hk hl => hw43.block k hl)
 have hk47 := hkb11.below hw43 hkb11.lt
 have hB48 := Chg.low hB17 hw43
 refine WL.stL rfl rfl hk47 isz27 rfl rfl (fun w49 hkw49 huw49 hsw49 => ?_)
 have hF50 := Sto.same (w1 := w49) hF44 (fun k hk hl => huw49.other k (fun e => hnf18 (e ▸ hk)))
 have hB53 := Chg.upd hB48 huw49 oO
 refine WL.z rfl rfl ?_
 refine W.ret (W.retc2 rfl rfl (ldRow hkw49 underlying27 rfl isz27) rfl ?_)
 exact ⟨rvE (by rw [hO]; rfl), _, by rw [hT]; exact hF50, hB53⟩
 have h42' := dF h42
 refine W.seq ?_
 have c2 : ¬ s = [120, 99, 104, 101, 99, 107] := by assumption
 refine W.reg <| WL.p (.eqs rfl rfl) rfl <| WL.z rfl rfl ?_
 refine W.cond rfl (fun h54 => ?_) (fun h54 => ?_)
 have h54' := dT h54
 refine W.seq ?_
 have c3 : s = [99, 118, 105] := by assumption
 have hO : unaO S s o = wholeO S o := by unfold unaO; rw [if_neg c1, if_neg c2, if_pos c3]
 have hT : unaS S s o = S := if_neg (fun q => q.2.2.1 c3)
 refine W.reg <| WL.r (Rd.ldA rfl hk13 underlying72 rfl isz72) rfl <| WL.r (Rd.ldA rfl hk15 underlying27 rfl isz27) rfl <| WL.c1 hb39 rfl rfl ((conv_whole b F S o _ hF12 hok)) (fun w55 hw55 => ?_)
 have hF56 := Sto.same (w1 := w55) hF12 (fun k hk hl => hw55.block k hl)
 have hk59 := hkb11.below hw55 hkb11.lt
 have hB60 := Chg.low hB17 hw55
 refine WL.p (.ext rfl rfl) rfl <| WL.p (.ext rfl rfl) rfl <| WL.stL rfl rfl hk59 isz27 rfl rfl (fun w61 hkw61 huw61 hsw61 => ?_)
 have hF62 := Sto.same (w1 := w61) hF56 (fun k hk hl => huw61.other k (fun e => hnf18 (e ▸ hk)))
 have hB65 := Chg.upd hB60 huw61 oO
 refine WL.z rfl rfl ?_
 refine W.ret (W.retc2 rfl rfl (ldRow hkw61 underlying27 rfl isz27) rfl ?_)
 exact ⟨rvE (by rw [hO]; rfl), _, by rw [hT]; exact hF62, hB65⟩
 have h54' := dF h54
 refine W.seq ?_
 have c3 : ¬ s = [99, 118, 105] := by assumption
 refine W.reg <| WL.p (.eqs rfl rfl) rfl <| WL.z rfl rfl ?_
 refine W.cond rfl (fun h66 => ?_) (fun h66 => ?_)
 have h66' := dT h66
 refine W.seq ?_
 have c4 : s = [99, 118, 114] := by assumption
 have hO : unaO S s o = realO S o := by unfold unaO; rw [if_neg c1, if_neg c2, if_neg c3, if_pos c4]
 have hT : unaS S s o = S := if_neg (fun q => q.2.2.2.1 c4)
 refine W.reg <| WL.r (Rd.ldA rfl hk13 underlying72 rfl isz72) rfl <| WL.r (Rd.ldA rfl hk15 underlying27 rfl isz27) rfl <| WL.c1 hb40 rfl rfl ((conv_real b F S o _ hF12 hok)) (fun w67 hw67 => ?_)
 have hF68 := Sto.same (w1 := w67) hF12 (fun k hk hl => hw67.block k hl)
 have hk71 := hkb11.below hw67 hkb11.lt
 have hB72 := Chg.low hB17 hw67
 refine WL.p (.ext rfl rfl) rfl <| WL.p (.ext rfl rfl) rfl <| WL.stL rfl rfl hk71 isz27 rfl rfl (fun w73 hkw73 huw73 hsw73 => ?_)
 have hF74 := Sto.same (w1 := w73) hF68 (fun k hk hl => huw73.other k (fun e => hnf18 (e ▸ hk)))
 have hB77 := Chg.upd hB72 huw73 oO
 refine WL.z rfl rfl ?_
 refine W.ret (W.retc2 rfl rfl (ldRow hkw73 underlying27 rfl isz27) rfl ?_)
 exact ⟨rvE (by rw [hO]; rfl), _, by rw [hT]; exact hF74, hB77⟩
 have h66' := dF h66
 refine W.seq ?_
 have c4 : ¬ s = [99, 118, 114] := by assumption
 refine W.reg <| WL.p (.eqs rfl rfl) rfl <| WL.z rfl rfl ?_
 refine W.cond rfl (fun h78 => ?_) (fun h78 => ?_)
 have h78' := dT h78
 refine W.seq ?_
 have c5 : s = [99, 118, 110] := by assumption
 have hO : unaO S s o = nameO S o := by unfold unaO; rw [if_neg c1, if_neg c2, if_neg c3, if_neg c4, if_pos c5]
 have hT : unaS S s o = S := if_neg (fun q => q.2.2.2.2.1 c5)
 refine W.reg <| WL.r (Rd.ldA rfl hk13 underlying72 rfl isz72) rfl <| WL.r (Rd.ldA rfl hk15 underlying27 rfl isz27) rfl <| WL.c1 hb41 rfl rfl ((conv_name b F S o _ hF12 hok)) (fun w79 hw79 => ?_)
 have hF80 := Sto.same (w1 := w79) hF12 (fun k hk hl => hw79.block k hl)
 have hk83 := hkb11.below hw79 hkb11.lt
 have hB84 := Chg.low hB17 hw79
 refine WL.p (.ext rfl rfl) rfl <| WL.p (.ext rfl rfl) rfl <| WL.stL rfl rfl hk83 isz27 rfl rfl (fun w85 hkw85 huw85 hsw85 => ?_)
 have hF86 := Sto.same (w1 := w85) hF80 (fun k hk hl => huw85.other k (fun e => hnf18 (e ▸ hk)))
 have hB89 := Chg.upd hB84 huw85 oO
 refine WL.z rfl rfl ?_
 refine W.ret (W.retc2 rfl rfl (ldRow hkw85 underlying27 rfl isz27) rfl ?_)
 exact ⟨rvE (by rw [hO]; rfl), _, by rw [hT]; exact hF86, hB89⟩
 have h78' := dF h78
 refine W.seq <| W.seq ?_
 have c5 : ¬ s = [99, 118, 110] := by assumption
 refine W.reg <| WL.p (.eqs rfl rfl) rfl <| WL.z rfl rfl ?_
 refine W.cond rfl (fun h90 => ?_) (fun h90 => ?_)
 have h90' := dT h90
 refine W.skip <| W.condT rfl h90 ?_
 refine W.seq ?_
 have c6 : s = rcheckL ∨ s = [119, 99, 104, 101, 99, 107] := by unfold rcheckL; simp_all
 have hO : unaO S s o = chkO S s o := by unfold unaO; rw [if_neg c1, if_neg c2, if_neg c3, if_neg c4, if_neg c5, if_pos c6]
 have hT : unaS S s o = S := if_neg (fun q => q.2.2.2.2.2 c6)
 refine W.reg <| WL.r (Rd.ldA rfl hk13 underlying72 rfl isz72) rfl <| WL.m rfl rfl <| WL.r (Rd.ldA rfl hk15 underlying27 rfl isz27) rfl <| WL.c1 hb42 rfl rfl ((conv_check b F S s o _ hF12 hok)) (fun w91 hw91 => ?_)
 have hF92 := Sto.same (w1 := w91) hF12 (fun k hk hl => hw91.block k hl)
 have hk95 := hkb11.below hw91 hkb11.lt
 have hB96 := Chg.low hB17 hw91
 refine WL.p (.ext rfl rfl) rfl <| WL.p (.ext rfl rfl) rfl <| WL.stL rfl rfl hk95 isz27 rfl rfl (fun w97 hkw97 huw97 hsw97 => ?_)
 have hF98 := Sto.same (w1 := w97) hF92 (fun k hk hl => huw97.other k (fun e => hnf18 (e ▸ hk)))
 have hB101 := Chg.upd hB96 huw97 oO
 refine WL.z rfl rfl ?_
 refine W.ret (W.retc2 rfl rfl (ldRow hkw97 underlying27 rfl isz27) rfl ?_)
 exact ⟨rvE (by rw [hO]; rfl), _, by rw [hT]; exact hF98, hB101⟩
 have h90' := dF h90
 refine W.reg <| WL.p (.eqs rfl rfl) rfl <| WL.z rfl rfl ?_
 refine W.cond rfl (fun h102 => ?_) (fun h102 => ?_)
 have h102' := dT h102
 refine W.seq ?_
 have c6 : s = rcheckL ∨ s = [119, 99, 104, 101, 99, 107] := by unfold rcheckL; simp_all
 have hO : unaO S s o = chkO S s o := by unfold unaO; rw [if_neg c1, if_neg c2, if_neg c3, if_neg c4, if_neg c5, if_pos c6]
 have hT : unaS S s o = S := if_neg (fun q => q.2.2.2.2.2 c6)
 refine W.reg <| WL.r (Rd.ldA rfl hk13 underlying72 rfl isz72) rfl <| WL.m rfl rfl <| WL.r (Rd.ldA rfl hk15 underlying27 rfl isz27) rfl <| WL.c1 hb42 rfl rfl ((conv_check b F S s o _ hF12 hok)) (fun w103 hw103 => ?_)
 have hF104 := Sto.same (w1 := w103) hF12 (fun k hk hl => hw103.block k hl)
 have hk107 := hkb11.below hw103 hkb11.lt
 have hB108 := Chg.low hB17 hw103
 refine WL.p (.ext rfl rfl) rfl <| WL.p (.ext rfl rfl) rfl <| WL.stL rfl rfl hk107 isz27 rfl rfl (fun w109 hkw109 huw109 hsw109 => ?_)
 have hF110 := Sto.same (w1 := w109) hF104 (fun k hk hl => huw109.other k (fun e => hnf18 (e ▸ hk)))
 have hB113 := Chg.upd hB108 huw109 oO
 refine WL.z rfl rfl ?_
 refine W.ret (W.retc2 rfl rfl (ldRow hkw109 underlying27 rfl isz27) rfl ?_)
 exact ⟨rvE (by rw [hO]; rfl), _, by rw [hT]; exact hF110, hB113⟩
 have h102' := dF h102
 refine W.skip <| W.seq ?_
 have c6 : ¬ (s = rcheckL ∨ s = [119, 99, 104, 101, 99, 107]) := by unfold rcheckL; simp_all
 have hO : unaO S s o = lkO S s o := by unfold unaO; rw [if_neg c1, if_neg c2, if_neg c3, if_neg c4, if_neg c5, if_neg c6]
 have hT : unaS S s o = lkS S s o := if_pos ⟨c1, c2, c3, c4, c5, c6⟩
 refine W.reg <| WL.r (Rd.ldA rfl hk13 underlying72 rfl isz72) rfl <| WL.m rfl rfl <| WL.r (Rd.ldA rfl hk15 underlying27 rfl isz27) rfl <| WL.c1 hb43 rfl rfl ((conv_lock b F S s o _ hF12 hok hch)) (fun w114 hw114 => ?_)
 obtain ⟨F115, hstF115, hCF115, hxF115⟩ := Chg.open hw114
 have hnf116 := Chg.nf hCF115 hnf4 hk13.lt
 have hnf117 := Chg.nf hCF115 hnf10 hk15.lt
 have hnf118 := Chg.nf hCF115 hnf18 hkb11.lt
 have hk121 := Blk.chg hkb11 hCF115 hnf18
 have hB122 := Chg.trans hB17 hCF115
 refine WL.p (.ext rfl rfl) rfl <| WL.p (.ext rfl rfl) rfl <| WL.stL rfl rfl hk121 isz27 rfl rfl (fun w123 hkw123 huw123 hsw123 => ?_)
 have hF124 := Sto.same (w1 := w123) hstF115 (fun k hk hl => huw123.other k (fun e => hnf118 (e ▸ hk)))
 have hB127 := Chg.upd hB122 huw123 oO
 refine WL.z rfl rfl ?_
 refine W.ret (W.retc2 rfl rfl (ldRow hkw123 underlying27 rfl isz27) rfl ?_)
 exact ⟨rvE (by rw [hO]; rfl), _, by rw [hT]; exact hF124, hB127⟩
def oneL (x : ObjV × Int) : List ObjV := if x.2 = 0 then [x.1] else []
theorem conv_one (x : ObjV × Int) (w : World) :
  Calls Tryz.prog 20 #[.agg (objV x.1).toArray, .int .i64 x.2] w fun e w' => ∃ r, e = .returned r ∧ Below w.heap.size w w' ∧ ∃ v, r = .tuple #[v, .int .i64 x.2] ∧ OwnM objL 27 w.heap.size w' v (oneL x) := by
 refine W.enter func20 rfl ntmps20 (Nat.le_of_ble_eq_true rfl) ?_
 have hB0 := Below.refl (w.heap.size) w
 refine W.sr <| WL.box rfl rfl (fun b1 wb1 eb1 hkb1 hub1 hsb1 => ?_)
 have hB2 := Upd.below hB0 (by rw [eb1]; exact hB0.size) hub1
 have hgeb1 : w.heap.size ≤ b1 := by rw [eb1]; exact hB0.size
 refine WL.a rfl rfl <| WL.z rfl rfl ?_
 refine W.seq <| W.sr <| WL.m rfl rfl <| WL.p (.neq rfl rfl) rfl <| WL.nil <| ?_
 refine W.cond rfl (fun h3 => ?_) (fun h3 => ?_)
 have h3' := ndT h3
 refine W.sr <| WL.m rfl rfl <| WL.a rfl rfl <| WL.z rfl rfl ?_
 refine W.ret (W.ret2 rfl rfl rfl ?_)
 exact ⟨_, rfl, hB2, _, rfl, by unfold oneL; rw [if_neg aS]; exact OwnM.nil _ _ _ _⟩
 have h3' := ndF h3
 refine W.skip <| W.sr <| WL.r (Rd.ldA rfl hkb1 underlying27 rfl isz27) rfl <| WL.bslM (L := objL) (ps := _) ([x.1]) underlying30 sizeOf27 zeroValue27 rfl rfl rfl rfl rfl (by first | rfl | decide) rfl rfl (fun b4 wb4 eb4 hob4 hub4 hsb4 => ?_)
 have hl6 : b1 < b4 := by rw [eb4]; exact hkb1.lt
 have hB7 := Upd.below hB2 (by rw [eb4]; exact hB2.size) hub4
 have hgeb4 : w.heap.size ≤ b4 := by rw [eb4]; exact hB2.size
 have hleb4 : b4 ≤ wb4.heap.size := by omega
 refine WL.a rfl rfl <| WL.z rfl rfl ?_
 refine W.ret (W.ret2 rfl rfl rfl ?_)
 exact ⟨_, rfl, hB7, _, by rw [show x.2 = 0 by assumption], by unfold oneL; rw [if_pos aS]; exact (hob4).base fun g hg => by have := ((hob4).lt g hg).1; omega⟩
theorem known_le (s : List UInt8) : known s ≤ 3 := by unfold known; split <;> (try split) <;> (try split) <;> omega
abbrev doBad (S : StoV) (s : List UInt8) (l : List ObjV) : Prop := known s ≤ 0 ∨ known s ≠ l.length ∨ (l.any fun o => !validB S o) = true
def aL (l : List ObjV) (i : Nat) : ObjV := l.getD i ob0
def doO (S : StoV) (s : List UInt8) (l : List ObjV) : List ObjV × Int :=
 if doBad S s l then ([], 21)
 else if known s = 1 then (oneL (unaO S s (aL l 0)), (unaO S s (aL l 0)).2)
 else if known s = 2 then (oneL (layO S (conT S (aL l 0)) (aL l 1)), (layO S (conT S (aL l 0)) (aL l 1)).2)
 else (oneL (radO S (aL l 0) (aL l 1) (aL l 2)), (radO S (aL l 0) (aL l 1) (aL l 2)).2)
def doS (S : StoV) (s : List UInt8) (l : List ObjV) : StoV :=
 if doBad S s l then S
 else if known s = 1 then unaS S s (aL l 0)
 else if known s = 2 then layS S (conT S (aL l 0)) (aL l 1)
 else radS S (aL l 0) (aL l 1) (aL l 2)
theorem aL_at {l : List ObjV} {i : Nat} (h : i < l.length) : aL l i = l[i] := by unfold aL; rw [List.getD_eq_getElem?_getD, List.getElem?_eq_getElem h]; rfl
set_option maxHeartbeats 3200000 in
theorem conv_Do (b : Nat) (F : Nat → Prop) (S : StoV) (s : List UInt8) (p : Option Addr) (l : List ObjV) (c : Nat) (w : World) (h : Sto w b F S) (hok : SOk S) (hE : EnvC w) (hn : FreeC F) (hr : RowM objL w p l) (hrF : 0 < l.length → ¬ F (pA p).block) (hl : l.length ≤ 1000000)
  (hch : S.changes.length ≤ 800000000000) (hs : s ≠ s_type) (hon : ∀ x ∈ l, -9223372036854775808 ≤ x.n ∧ x.n ≤ 9223372036854775807) :
  Calls Tryz.prog 8 #[.pointer (some ⟨b, 0, none⟩), .string (bs s), .slice p l.length c] w fun e w' => ∃ r, e = .returned r ∧ ∃ v F1, r = .tuple #[v, .int .i64 (doO S s l).2] ∧ OwnM objL 27 w.heap.size w' v (doO S s l).1 ∧ (∀ g, v.ownBlock = some g → ¬ F1 g) ∧ Sto w' b F1 (doS S s l) ∧ Chg F F1 w w' := by
 refine W.enter func8 rfl ntmps8 (Nat.le_of_ble_eq_true rfl) ?_
 have hB0 := Chg.refl F w
 refine W.sr <| WL.box rfl rfl (fun b1 wb1 eb1 hkb1 hub1 hsb1 => ?_)
 have hF2 := Sto.same (w1 := wb1) h (fun k hk hl => hub1.other k oO)
 have hvl4 := fun h0 => eb1 ▸ hr.lt h0
 have hv3 := RowM.upd hr hub1 (fun h0 => Nat.ne_of_lt (hvl4 h0))
 have hgeb1 : w.heap.size ≤ b1 := by rw [eb1]; exact hB0.size
 have hB5 := Chg.upd hB0 hub1 hgeb1
 have hnf6 : ¬ F b1 := fun hq => by have hq1 := (h).lt hq; omega
 refine WL.a rfl rfl <| WL.z rfl rfl ?_
 refine W.sr <| WL.m rfl rfl <| WL.c1 hb16 rfl rfl ((conv_Known s _)) (fun w7 hw7 => ?_)
 obtain rfl := hw7
 refine WL.m rfl rfl <| WL.p (.ext rfl rfl) rfl <| WL.p (.ext rfl rfl) rfl <| WL.a rfl rfl <| WL.z rfl rfl ?_
 refine W.seq <| W.sr <| WL.m rfl rfl <| WL.p (.not rfl) rfl <| WL.m rfl rfl <| WL.gd rfl rfl rfl (fun g8 => ?_) (fun g8 => ?_)
 have g8' := (nF g8)
 refine WL.m rfl rfl <| WL.gy rfl rfl rfl (by rw [(nF g8)] <;> rfl) <| WL.m rfl rfl <| WL.gy rfl rfl rfl (by rw [(nF g8)] <;> rfl) <| WL.p (.lenS underlying30 rfl) rfl <| WL.gy rfl rfl rfl (by rw [(nF g8)] <;> rfl) <| WL.p (.neq rfl rfl) rfl <| WL.p (.pkF rfl (by rw [(nF g8)] <;> rfl) rfl) rfl <| WL.m rfl rfl <| WL.gd rfl rfl rfl (fun g9 => ?_) (fun g9 => ?_)
 have g9' := ndF g9
 refine WL.m rfl rfl <| WL.gy rfl rfl rfl g9 <| WL.p (.mkF rfl) rfl <| WL.gy rfl rfl rfl g9 <| WL.c1 hb17 rfl rfl ((lib_ContainsObj hb18 #[.pointer (some ⟨b1, 0, none⟩)] p l c (fun o => !validB S o) _ hv3 oO (fun j hj w1 hw1 => conv_Do1 b b1 F S l[j] w1 ((hF2).below hw1) hok ((hkb1).below hw1 (hkb1).lt)))) (fun w10 hw10 => ?_)
 have hF11 := Sto.same (w1 := w10) hF2 (fun k hk hl => hw10.block k hl)
 have hk12 := hkb1.below hw10 hkb1.lt
 have hv13 := RowM.below hv3 hw10 (fun h0 => hv3.lt h0)
 have hB14 := Chg.low hB5 hw10
 refine WL.p (.pkF rfl g9 rfl) rfl <| WL.nil <| ?_
 refine W.cond rfl (fun h15 => ?_) (fun h15 => ?_)
 refine W.seq ?_
 have hbad : doBad S s l := .inr (.inr aS)
 refine W.reg <| WL.a rfl rfl <| WL.z rfl rfl ?_
 refine W.ret (W.ret2 rfl rfl rfl ?_)
 rw [show doO S s l = ([], 21) from if_pos hbad, show doS S s l = S from if_pos hbad]
 exact ⟨_, rfl, _, _, rfl, OwnM.nil _ _ _ _, (fun g hg => nomatch hg), hF11, hB14⟩
 refine W.skip <| W.seq ?_
 have hpos : 0 < known s := by simp_all
 have hbad : ¬ doBad S s l := fun q => by
  rcases q with q | q | q
  omega
  exact q aS
  simp_all
 have hkl : known s = l.length := by assumption
 refine W.reg <| WL.r (Rd.ld (isAgg22 _) rfl hk12 rfl) rfl <| ?_
 refine WL.p (.buildL (ps := _) blt72 rfl rfl rfl pS) rfl ?_
 refine WL.alloc zeroValue72 rfl (fun b16 wb16 eb16 hkb16 hub16 hsb16 => ?_)
 have hF17 := Sto.same (w1 := wb16) hF11 (fun k hk hl => hub16.other k oO)
 have hl19 : b1 < b16 := by rw [eb16]; exact hk12.lt
 have hk18 := hk12.upd hub16 (Nat.ne_of_lt hl19)
 have hvl21 := fun h0 => eb16 ▸ hv13.lt h0
 have hv20 := RowM.upd hv13 hub16 (fun h0 => Nat.ne_of_lt (hvl21 h0))
 have hgeb16 : w.heap.size ≤ b16 := by rw [eb16]; exact hB14.size
 have hB22 := Chg.upd hB14 hub16 hgeb16
 have hnf23 : ¬ F b16 := fun hq => by have hq1 := (hF11).lt hq; omega
 refine WL.stL rfl rfl hkb16 isz72 rfl rfl (fun w24 hkw24 huw24 hsw24 => ?_)
 have hF25 := Sto.same (w1 := w24) hF17 (fun k hk hl => huw24.other k (fun e => hnf23 (e ▸ hk)))
 have hk26 := hk18.up huw24
 have hv27 := RowM.upd hv20 huw24 (fun h0 => Nat.ne_of_lt (hvl21 h0))
 have hB28 := Chg.upd hB22 huw24 oO
 refine WL.nil <| ?_
 refine W.seq <| W.sr <| WL.m rfl rfl <| WL.nil <| ?_
 refine W.block <| W.sr <| WL.p (.eql rfl rfl) rfl <| WL.z rfl rfl ?_
 refine W.cond rfl (fun h29 => ?_) (fun h29 => ?_)
 have h29' := dT h29
 have e0 : aL l 0 = l[0]'oO := aL_at oO
 refine W.seq <| W.regH 13 rfl mixed (fun w' => w'.heap[b16]? = w24.heap[b16]? ∧ RowM objL w' p l ∧ True) (fun w30 dw30 => ?_)
 have hF31 := Sto.same (w1 := w30) hF25 (fun k hk hl => (by obtain ⟨m, rfl⟩ := dw30; rfl))
 have hk32 := hk26.drew dw30
 have hk33 := hkw24.drew dw30
 have hv34 := hv27.drew dw30
 have hB35 := Chg.drew hB28 dw30
 refine WH.tk 0 rfl (fun w' hw' => Rd.ldA rfl ((hw'.1).trans hkw24) underlying72 rfl isz72) ⟨(hk33).trans (hkw24).symm, hv34, trivial⟩ rfl ?_
 refine WH.tp 1 rfl (.mv rfl) ⟨(hk33).trans (hkw24).symm, hv34, trivial⟩ rfl ?_
 refine WH.tp 2 rfl (.mv rfl) ⟨(hk33).trans (hkw24).symm, hv34, trivial⟩ rfl ?_
 refine WH.tp 3 rfl (.ixm underlying30 sizeOf27 rfl rfl (hv34.isp (by first | omega | (simp only [List.length_cons, List.length_nil]; omega))) 0 rfl oO) ⟨(hk33).trans (hkw24).symm, hv34, trivial⟩ rfl ?_
 refine WH.tk 4 rfl (fun w' hw' => Rd.ldS underlying27 rfl isz27 (hw'.2.1) (0) (by first | omega | (simp only [List.length_cons, List.length_nil]; omega)) rfl) ⟨(hk33).trans (hkw24).symm, hv34, trivial⟩ rfl ?_
 refine WH.br1 5 rfl ?_
 refine WL.c1 hb21 rfl rfl ((conv_unary b F S s (l[0]'oO) _ hF31 hok hch hs)) (fun w36 hw36 => ?_)
 obtain ⟨F37, hstF37, hCF37, hxF37⟩ := Chg.open hw36
 have hnf38 := Chg.nf hCF37 hnf6 hk32.lt
 have hnf39 := Chg.nf hCF37 hnf23 hk33.lt
 have hk41 := Blk.chg hk33 hCF37 hnf23
 have hnf43 := fun h0 => Chg.nf hCF37 (hrF h0) (hv34.lt h0)
 have hv42 := RowM.chg hv34 hCF37 hrF
 have hB44 := Chg.trans hB35 hCF37
 refine WL.nil <| ?_
 refine ⟨⟨(hk41).trans (hkw24).symm, hv42, trivial⟩, ?_⟩
 refine WH.tp 6 rfl (.ext rfl rfl) ⟨(hk41).trans (hkw24).symm, hv42, trivial⟩ rfl ?_
 refine WH.tp 7 rfl (.ext rfl rfl) ⟨(hk41).trans (hkw24).symm, hv42, trivial⟩ rfl ?_
 refine WH.br1 8 rfl ?_
 have hlt7 : ∀ g, F37 g → g < w36.heap.size := fun g hg => (hstF37).lt hg
 have hsz7 := hB44.size
 refine WL.call hb20 rfl rfl ((conv_one (unaO S s (l[0]'oO)) _)) (fun r w45 hw45 => ?_)
 have hF46 := Sto.same (w1 := w45) hstF37 (fun k hk hl => hw45.1.block k hl)
 have hk48 := hk41.below hw45.1 hk41.lt
 have hv49 := RowM.below hv42 hw45.1 (fun h0 => hv42.lt h0)
 have hB50 := Chg.low hB44 hw45.1
 obtain ⟨v, rfl, hov⟩ := hw45.2
 refine WL.nil <| ?_
 refine ⟨⟨(hk48).trans (hkw24).symm, hv49, trivial⟩, ?_⟩
 refine WH.tp 9 rfl (.ext rfl rfl) ⟨(hk48).trans (hkw24).symm, hv49, trivial⟩ rfl ?_
 refine WH.tp 10 rfl (.ext rfl rfl) ⟨(hk48).trans (hkw24).symm, hv49, trivial⟩ rfl ?_
 refine WH.tp 11 rfl (.as rfl) ⟨(hk48).trans (hkw24).symm, hv49, trivial⟩ rfl ?_
 refine WH.tp 12 rfl (.as rfl) ⟨(hk48).trans (hkw24).symm, hv49, trivial⟩ rfl ?_
 refine WH.done kR ?_
 refine W.ret (W.ret2 rfl rfl rfl ?_)
 rw [show doO S s l = (oneL (unaO S s (aL l 0)), (unaO S s (aL l 0)).2) by unfold doO; rw [if_neg hbad, if_pos aS], show doS S s l = unaS S s (aL l 0) by unfold doS; rw [if_neg hbad, if_pos aS], e0]
 exact ⟨_, rfl, v, _, rfl, hov.base (fun g hg => Nat.le_trans hsz7 (hov.lt g hg).1), fun g hg hf => by have h5 := hlt7 g hf; have h6 := (hov.lt g hg).1; omega, hF46, hB50⟩
 have h29' := dF h29
 refine W.sr <| WL.p (.eql rfl rfl) rfl <| WL.z rfl rfl ?_
 refine W.cond rfl (fun h51 => ?_) (fun h51 => ?_)
 have h51' := dT h51
 have e0 : aL l 0 = l[0]'oO := aL_at oO
 have e1 : aL l 1 = l[1]'oO := aL_at oO
 refine W.seq <| W.regH 17 rfl mixed (fun w' => w'.heap[b16]? = w24.heap[b16]? ∧ w'.heap[b1]? = w24.heap[b1]? ∧ RowM objL w' p l ∧ True) (fun w52 dw52 => ?_)
 have hF53 := Sto.same (w1 := w52) hF25 (fun k hk hl => (by obtain ⟨m, rfl⟩ := dw52; rfl))
 have hk54 := hk26.drew dw52
 have hk55 := hkw24.drew dw52
 have hv56 := hv27.drew dw52
 have hB57 := Chg.drew hB28 dw52
 refine WH.tk 0 rfl (fun w' hw' => Rd.ldA rfl ((hw'.1).trans hkw24) underlying72 rfl isz72) ⟨(hk55).trans (hkw24).symm, (hk54).trans (hk26).symm, hv56, trivial⟩ rfl ?_
 refine WH.tk 1 rfl (fun w' hw' => Rd.ld (isAgg22 _) rfl ((hw'.2.1).trans hk26) rfl) ⟨(hk55).trans (hkw24).symm, (hk54).trans (hk26).symm, hv56, trivial⟩ rfl ?_
 refine WH.tp 2 rfl (.mv rfl) ⟨(hk55).trans (hkw24).symm, (hk54).trans (hk26).symm, hv56, trivial⟩ rfl ?_
 refine WH.tp 3 rfl (.ixm underlying30 sizeOf27 rfl rfl (hv56.isp (by first | omega | (simp only [List.length_cons, List.length_nil]; omega))) 0 rfl oO) ⟨(hk55).trans (hkw24).symm, (hk54).trans (hk26).symm, hv56, trivial⟩ rfl ?_
 refine WH.tk 4 rfl (fun w' hw' => Rd.ldS underlying27 rfl isz27 (hw'.2.2.1) (0) (by first | omega | (simp only [List.length_cons, List.length_nil]; omega)) rfl) ⟨(hk55).trans (hkw24).symm, (hk54).trans (hk26).symm, hv56, trivial⟩ rfl ?_
 refine WH.tp 6 rfl (.mv rfl) ⟨(hk55).trans (hkw24).symm, (hk54).trans (hk26).symm, hv56, trivial⟩ rfl ?_
 refine WH.tp 7 rfl (.ixm underlying30 sizeOf27 rfl rfl (hv56.isp (by first | omega | (simp only [List.length_cons, List.length_nil]; omega))) 1 rfl oO) ⟨(hk55).trans (hkw24).symm, (hk54).trans (hk26).symm, hv56, trivial⟩ rfl ?_
 refine WH.tk 8 rfl (fun w' hw' => Rd.ldS underlying27 rfl isz27 (hw'.2.2.1) (1) (by first | omega | (simp only [List.length_cons, List.length_nil]; omega)) rfl) ⟨(hk55).trans (hkw24).symm, (hk54).trans (hk26).symm, hv56, trivial⟩ rfl ?_
 refine WH.br1 5 rfl ?_
 refine WL.call hb23 rfl rfl ((conv_Text b F S (l[0]'oO) _ hF53 hok (hE.chg hB57 hn) (hon _ (List.getElem_mem _)))) (fun r w58 hw58 => ?_)
 have hF59 := Sto.same (w1 := w58) hF53 (fun k hk hl => hw58.1.block k hl)
 have hk60 := hk54.below hw58.1 hk54.lt
 have hk61 := hk55.below hw58.1 hk55.lt
 have hv62 := RowM.below hv56 hw58.1 (fun h0 => hv56.lt h0)
 have hB63 := Chg.low hB57 hw58.1
 obtain ⟨pb1, cb1, rfl, hbt1, hge1⟩ := hw58.2
 have hsz1 := hB57.size
 refine WL.nil <| ?_
 refine ⟨⟨(hk61).trans (hkw24).symm, (hk60).trans (hk26).symm, hv62, trivial⟩, ?_⟩
 refine WH.br1 9 rfl ?_
 refine WL.c1 hb22 rfl rfl ((conv_lay b F S pb1 (conT S (l[0]'oO)) cb1 (l[1]'oO) _ hF59 hok hbt1 (fun h0 hf => by have h8 := h.lt hf; have h9 := hge1 h0; omega))) (fun w64 hw64 => ?_)
 obtain ⟨F65, hstF65, hCF65, hxF65⟩ := Chg.open hw64
 have hnf66 := Chg.nf hCF65 hnf6 hk60.lt
 have hnf67 := Chg.nf hCF65 hnf23 hk61.lt
 have hk68 := Blk.chg hk60 hCF65 hnf6
 have hk69 := Blk.chg hk61 hCF65 hnf23
 have hnf71 := fun h0 => Chg.nf hCF65 (hrF h0) (hv62.lt h0)
 have hv70 := RowM.chg hv62 hCF65 hrF
 have hB72 := Chg.trans hB63 hCF65
 refine WL.nil <| ?_
 refine ⟨⟨(hk69).trans (hkw24).symm, (hk68).trans (hk26).symm, hv70, trivial⟩, ?_⟩
 refine WH.tp 10 rfl (.ext rfl rfl) ⟨(hk69).trans (hkw24).symm, (hk68).trans (hk26).symm, hv70, trivial⟩ rfl ?_
 refine WH.tp 11 rfl (.ext rfl rfl) ⟨(hk69).trans (hkw24).symm, (hk68).trans (hk26).symm, hv70, trivial⟩ rfl ?_
 refine WH.br1 12 rfl ?_
 have hlt7 : ∀ g, F65 g → g < w64.heap.size := fun g hg => (hstF65).lt hg
 have hsz7 := hB72.size
 refine WL.call hb20 rfl rfl ((conv_one (layO S (conT S (l[0]'oO)) (l[1]'oO)) _)) (fun r w73 hw73 => ?_)
 have hF74 := Sto.same (w1 := w73) hstF65 (fun k hk hl => hw73.1.block k hl)
 have hk75 := hk68.below hw73.1 hk68.lt
 have hk76 := hk69.below hw73.1 hk69.lt
 have hv77 := RowM.below hv70 hw73.1 (fun h0 => hv70.lt h0)
 have hB78 := Chg.low hB72 hw73.1
 obtain ⟨v, rfl, hov⟩ := hw73.2
 refine WL.nil <| ?_
 refine ⟨⟨(hk76).trans (hkw24).symm, (hk75).trans (hk26).symm, hv77, trivial⟩, ?_⟩
 refine WH.tp 13 rfl (.ext rfl rfl) ⟨(hk76).trans (hkw24).symm, (hk75).trans (hk26).symm, hv77, trivial⟩ rfl ?_
 refine WH.tp 14 rfl (.ext rfl rfl) ⟨(hk76).trans (hkw24).symm, (hk75).trans (hk26).symm, hv77, trivial⟩ rfl ?_
 refine WH.tp 15 rfl (.as rfl) ⟨(hk76).trans (hkw24).symm, (hk75).trans (hk26).symm, hv77, trivial⟩ rfl ?_
 refine WH.tp 16 rfl (.as rfl) ⟨(hk76).trans (hkw24).symm, (hk75).trans (hk26).symm, hv77, trivial⟩ rfl ?_
 refine WH.done kR ?_
 refine W.ret (W.ret2 rfl rfl rfl ?_)
 rw [show doO S s l = (oneL (layO S (conT S (aL l 0)) (aL l 1)), (layO S (conT S (aL l 0)) (aL l 1)).2) by unfold doO; rw [if_neg hbad, if_neg aS, if_pos aS], show doS S s l = layS S (conT S (aL l 0)) (aL l 1) by unfold doS; rw [if_neg hbad, if_neg aS, if_pos aS], e0, e1]
 exact ⟨_, rfl, v, _, rfl, hov.base (fun g hg => Nat.le_trans hsz7 (hov.lt g hg).1), fun g hg hf => by have h5 := hlt7 g hf; have h6 := (hov.lt g hg).1; omega, hF74, hB78⟩
 have h51' := dF h51
 have hk3 : known s = 3 := by have hk8 := known_le s; omega
 have e0 : aL l 0 = l[0]'oO := aL_at oO
 have e1 : aL l 1 = l[1]'oO := aL_at oO
 have e2 : aL l 2 = l[2]'oO := aL_at oO
 refine W.skip <| W.seq <| W.regH 18 rfl mixed (fun w' => w'.heap[b16]? = w24.heap[b16]? ∧ RowM objL w' p l ∧ True) (fun w79 dw79 => ?_)
 have hF80 := Sto.same (w1 := w79) hF25 (fun k hk hl => (by obtain ⟨m, rfl⟩ := dw79; rfl))
 have hk81 := hk26.drew dw79
 have hk82 := hkw24.drew dw79
 have hv83 := hv27.drew dw79
 have hB84 := Chg.drew hB28 dw79
 refine WH.tk 0 rfl (fun w' hw' => Rd.ldA rfl ((hw'.1).trans hkw24) underlying72 rfl isz72) ⟨(hk82).trans (hkw24).symm, hv83, trivial⟩ rfl ?_
 refine WH.tp 1 rfl (.mv rfl) ⟨(hk82).trans (hkw24).symm, hv83, trivial⟩ rfl ?_
 refine WH.tp 2 rfl (.ixm underlying30 sizeOf27 rfl rfl (hv83.isp (by first | omega | (simp only [List.length_cons, List.length_nil]; omega))) 0 rfl oO) ⟨(hk82).trans (hkw24).symm, hv83, trivial⟩ rfl ?_
 refine WH.tk 3 rfl (fun w' hw' => Rd.ldS underlying27 rfl isz27 (hw'.2.1) (0) (by first | omega | (simp only [List.length_cons, List.length_nil]; omega)) rfl) ⟨(hk82).trans (hkw24).symm, hv83, trivial⟩ rfl ?_
 refine WH.tp 4 rfl (.mv rfl) ⟨(hk82).trans (hkw24).symm, hv83, trivial⟩ rfl ?_
 refine WH.tp 5 rfl (.ixm underlying30 sizeOf27 rfl rfl (hv83.isp (by first | omega | (simp only [List.length_cons, List.length_nil]; omega))) 1 rfl oO) ⟨(hk82).trans (hkw24).symm, hv83, trivial⟩ rfl ?_
 refine WH.tk 6 rfl (fun w' hw' => Rd.ldS underlying27 rfl isz27 (hw'.2.1) (1) (by first | omega | (simp only [List.length_cons, List.length_nil]; omega)) rfl) ⟨(hk82).trans (hkw24).symm, hv83, trivial⟩ rfl ?_
 refine WH.tp 7 rfl (.mv rfl) ⟨(hk82).trans (hkw24).symm, hv83, trivial⟩ rfl ?_
 refine WH.tp 8 rfl (.ixm underlying30 sizeOf27 rfl rfl (hv83.isp (by first | omega | (simp only [List.length_cons, List.length_nil]; omega))) 2 rfl oO) ⟨(hk82).trans (hkw24).symm, hv83, trivial⟩ rfl ?_
 refine WH.tk 9 rfl (fun w' hw' => Rd.ldS underlying27 rfl isz27 (hw'.2.1) (2) (by first | omega | (simp only [List.length_cons, List.length_nil]; omega)) rfl) ⟨(hk82).trans (hkw24).symm, hv83, trivial⟩ rfl ?_
 refine WH.br1 10 rfl ?_
 refine WL.c1 hb24 rfl rfl ((conv_radix b F S (l[0]'oO) (l[1]'oO) (l[2]'oO) _ hF80 hok (hE.chg hB84 hn) hn (hon _ (List.getElem_mem _)))) (fun w85 hw85 => ?_)
 obtain ⟨F86, hstF86, hCF86, hxF86⟩ := Chg.open hw85
 have hnf87 := Chg.nf hCF86 hnf6 hk81.lt
 have hnf88 := Chg.nf hCF86 hnf23 hk82.lt
 have hk90 := Blk.chg hk82 hCF86 hnf23
 have hnf92 := fun h0 => Chg.nf hCF86 (hrF h0) (hv83.lt h0)
 have hv91 := RowM.chg hv83 hCF86 hrF
 have hB93 := Chg.trans hB84 hCF86
 refine WL.nil <| ?_
 refine ⟨⟨(hk90).trans (hkw24).symm, hv91, trivial⟩, ?_⟩
 refine WH.tp 11 rfl (.ext rfl rfl) ⟨(hk90).trans (hkw24).symm, hv91, trivial⟩ rfl ?_
 refine WH.tp 12 rfl (.ext rfl rfl) ⟨(hk90).trans (hkw24).symm, hv91, trivial⟩ rfl ?_
 refine WH.br1 13 rfl ?_
 have hlt7 : ∀ g, F86 g → g < w85.heap.size := fun g hg => (hstF86).lt hg
 have hsz7 := hB93.size
 refine WL.call hb20 rfl rfl ((conv_one (radO S (l[0]'oO) (l[1]'oO) (l[2]'oO)) _)) (fun r w94 hw94 => ?_)
 have hF95 := Sto.same (w1 := w94) hstF86 (fun k hk hl => hw94.1.block k hl)
 have hk97 := hk90.below hw94.1 hk90.lt
 have hv98 := RowM.below hv91 hw94.1 (fun h0 => hv91.lt h0)
 have hB99 := Chg.low hB93 hw94.1
 obtain ⟨v, rfl, hov⟩ := hw94.2
 refine WL.nil <| ?_
 refine ⟨⟨(hk97).trans (hkw24).symm, hv98, trivial⟩, ?_⟩
 refine WH.tp 14 rfl (.ext rfl rfl) ⟨(hk97).trans (hkw24).symm, hv98, trivial⟩ rfl ?_
 refine WH.tp 15 rfl (.ext rfl rfl) ⟨(hk97).trans (hkw24).symm, hv98, trivial⟩ rfl ?_
 refine WH.tp 16 rfl (.as rfl) ⟨(hk97).trans (hkw24).symm, hv98, trivial⟩ rfl ?_
 refine WH.tp 17 rfl (.as rfl) ⟨(hk97).trans (hkw24).symm, hv98, trivial⟩ rfl ?_
 refine WH.done kR ?_
 refine W.ret (W.ret2 rfl rfl rfl ?_)
 rw [show doO S s l = (oneL (radO S (aL l 0) (aL l 1) (aL l 2)), (radO S (aL l 0) (aL l 1) (aL l 2)).2) by unfold doO; rw [if_neg hbad, if_neg aS, if_neg aS], show doS S s l = radS S (aL l 0) (aL l 1) (aL l 2) by unfold doS; rw [if_neg hbad, if_neg aS, if_neg aS], e0, e1, e2]
 exact ⟨_, rfl, v, _, rfl, hov.base (fun g hg => Nat.le_trans hsz7 (hov.lt g hg).1), fun g hg hf => by have h5 := hlt7 g hf; have h6 := (hov.lt g hg).1; omega, hF95, hB99⟩
 have g9' := ndT g9
 refine WL.gn rfl rfl rfl g9 <| WL.gn rfl rfl rfl g9 <| WL.p (.pkT rfl g9 rfl) rfl <| WL.nil <| ?_
 refine W.condT rfl rfl ?_
 refine W.seq ?_
 have hbad : doBad S s l := .inr (.inl aS)
 refine W.reg <| WL.a rfl rfl <| WL.z rfl rfl ?_
 refine W.ret (W.ret2 rfl rfl rfl ?_)
 rw [show doO S s l = ([], 21) from if_pos hbad, show doS S s l = S from if_pos hbad]
 exact ⟨_, rfl, _, _, rfl, OwnM.nil _ _ _ _, (fun g hg => nomatch hg), hF2, hB5⟩
 have g8' := (nT g8)
 refine WL.gn rfl rfl rfl (by rw [(nT g8)] <;> rfl) <| WL.gn rfl rfl rfl (by rw [(nT g8)] <;> rfl) <| WL.gn rfl rfl rfl (by rw [(nT g8)] <;> rfl) <| WL.p (.pkT rfl (by rw [(nT g8)] <;> rfl) rfl) rfl <| WL.m rfl rfl <| WL.gn rfl rfl rfl rfl <| WL.gn rfl rfl rfl rfl <| WL.gn rfl rfl rfl rfl <| WL.p (.pkT rfl rfl rfl) rfl <| WL.nil <| ?_
 refine W.condT rfl rfl ?_
 refine W.seq ?_
 have hbad : doBad S s l := .inl (by simp_all)
 refine W.reg <| WL.a rfl rfl <| WL.z rfl rfl ?_
 refine W.ret (W.ret2 rfl rfl rfl ?_)
 rw [show doO S s l = ([], 21) from if_pos hbad, show doS S s l = S from if_pos hbad]
 exact ⟨_, rfl, _, _, rfl, OwnM.nil _ _ _ _, (fun g hg => nomatch hg), hF2, hB5⟩
end
section
def S0 (n : Int) : StoV := ⟨n, [], [], [], [], []⟩
def S1 : StoV := ⟨491, [List.replicate 60 0], [], [], [], []⟩
def S2 (T : List UInt8) : StoV := ⟨491, [T ++ (List.replicate 60 0).drop T.length], [], [], [], []⟩
def numOb (k n : Int) : ObjV := { ob0 with kind := k, n := n }
theorem sok_0 (n : Int) (h0 : 0 ≤ n) (h : n ≤ 1048576) : SOk (S0 n) := ⟨h0, by simpa [S0] using h, fun l hl => by simp [S0] at hl, fun l hl => by simp [S0] at hl, fun d hd => by simp [S0] at hd⟩
theorem num_valid {S : StoV} {k n : Int} (hk : k = 1 ∨ k = 2) : validB S (numOb k n) = true := by
 unfold validB
 have e : (numOb k n).kind = k := rfl
 rw [e, if_neg oO, if_neg oO, if_neg oO]
theorem conT_int (S : StoV) (n : Int) : conT S (numOb 1 n) = decL n := by
 unfold conT
 rw [if_pos (num_valid (.inl rfl)), if_pos (by rfl)]; rfl
end
section
def NoF : Nat → Prop := fun _ => False
theorem freeN : FreeC NoF := ⟨id, id⟩
theorem Chg.none {F : Nat → Prop} {w w1 : World} (h : Chg NoF F w w1) : Below w.heap.size w w1 := h.below (Nat.le_refl _) fun g hg => hg.elim
theorem vnf_of {α : Type} {L : Lay α} {w : World} {p : Option Addr} {n c : Nat} {l : List α} {F : Nat → Prop} (hr : RowM L w p l) (hn : ∀ g, (Value.slice p n c).ownBlock = some g → ¬ F g) : 0 < l.length → ¬ F (pA p).block := fun h0 => hn _ (by rw [hr.isp h0]; rfl)
theorem law10_answers (w : World) (hE : EnvC w) : Calls Tryz.prog 9 #[] w fun e w' => e = .returned (.bool true) ∧ Below w.heap.size w w' := by
 refine W.enter func9 rfl ntmps9 (Nat.le_of_ble_eq_true rfl) ?_
 have hB0 := Below.refl (w.heap.size) w
 refine W.sr <| WL.z rfl rfl ?_
 refine W.sr <| WL.call hb6 rfl rfl ((sto_New 50 _ dD dD)) (fun r w1 hw1 => ?_)
 obtain ⟨hB1, b, F, rfl, hst1, hge1⟩ := hw1
 have hB1' := Below.trans hB0 hB1
 refine WL.m rfl rfl <| WL.p (.ext rfl rfl) rfl <| WL.p (.ext rfl rfl) rfl <| WL.a rfl rfl <| WL.z rfl rfl ?_
 refine W.sr <| WL.m rfl rfl <| ?_
 refine WL.p (.buildL (ps := _) blt27 rfl rfl rfl pS) rfl ?_
 refine WL.call hb23 rfl rfl ((conv_Text b F (S0 50) (numOb 1 (-5)) _ hst1 (sok_0 50 dD dD) (hE.below hB1') dD)) (fun r w2 hw2 => ?_)
 have hB3 := btr hB1' hw2.1
 obtain ⟨pb1, cb1, rfl, hbt1, hge2⟩ := hw2.2
 rw [show conT (S0 50) (numOb 1 (-5)) = [45, 53] by rw [conT_int]; decide +kernel] at *
 refine WL.r (Rd.b2s (l := ([45, 53])) underlying35 underlying5 underlying9 rfl (hbt1)) rfl <| WL.p (.eqs rfl rfl) rfl <| WL.z rfl rfl ?_
 refine W.ret (W.ret1 rfl rfl ?_)
 exact ⟨rfl, hB3⟩
end
section
theorem take_ga {n : Int} : 0 ≤ 1 + max n 0 := by omega
/-- an array's cells -/
def arrC (n : Int) : Int := 1 + max n 0
def arrE (S : StoV) (n : Int) : Int := takeE n 65535 (arrC n) S.free
def arrO (S : StoV) (n : Int) : ObjV := if arrE S n = 0 then ⟨7, false, 0, 0, [], S.lists.length, 0, n⟩ else ob0
def arrS (S : StoV) (n : Int) : StoV := if arrE S n = 0 then { S with free := S.free - arrC n, lists := S.lists ++ [List.replicate n.toNat ob0] } else S
set_option maxHeartbeats 1600000 in
theorem sto_Array (b : Nat) (F : Nat → Prop) (S : StoV) (n : Int) (w : World) (h : Sto w b F S) (hok : SOk S) (hn : -4611686018427387904 ≤ n ∧ n ≤ 4611686018427387904) :
  Calls Tryz.prog 30 #[.pointer (some ⟨b, 0, none⟩), .int .i64 n] w fun e w' => e = .returned (.tuple #[.agg (objV (arrO S n)).toArray, .int .i64 (arrE S n)]) ∧ ∃ F1, Sto w' b F1 (arrS S n) ∧ Chg F F1 w w' := by
 obtain ⟨lab, H, hF, hlt, hS⟩ := h
 obtain ⟨pt, ct, pl, cl, pd, cd, pc, cc, pm, cm, hr, evt, evl, evd, evc, evm, hrt, hrl, hrd⟩ := hS.opn
 have hbl := hr.lt
 have hSL0 : StL w.heap.size lab w b H S := ⟨hlt, hlt, hS⟩
 have hot := hS.li.own
 refine W.enter func30 rfl ntmps30 (Nat.le_of_ble_eq_true rfl) ?_
 have hB0 := KeepB.refl w.heap.size (b :: H.vl.ownBlock.toList) w
 refine W.sr <| WL.alloc zeroValue27 rfl (fun b1 wb1 eb1 hkb1 hub1 hsb1 => ?_)
 have hF2 := StL.same (w1 := wb1) hSL0 (fun k hk hl => hub1.other k oO)
 have hl4 : b < b1 := by rw [eb1]; exact hr.lt
 have hk3 := hr.upd hub1 (Nat.ne_of_lt hl4)
 have hgeb1 : w.heap.size ≤ b1 := by rw [eb1]; exact hB0.size
 have hB5 := KeepB.trans hB0 (KeepB.of_new hub1 hgeb1)
 refine WL.z rfl rfl ?_
 refine W.seq <| W.sr <| WL.m rfl rfl <| WL.m rfl rfl <| WL.m rfl rfl <| WL.p (.iis (max n 0) (.max2 rfl rfl) (by simp only [Int.max_def]; split <;> split <;> omega)) rfl <| WL.p (.add rfl rfl (i64w oO)) rfl <| WL.c1 hb15 rfl rfl ((sto_take w.heap.size lab b H S n 65535 (1 + max n 0) _ hF2 ⟨hok.free0, by have := hok.sum; omega⟩ take_ga)) (fun w6 hw6 => ?_)
 obtain ⟨hO, hL2⟩ := hw6
 obtain ⟨pt2, ct2, pl2, cl2, pd2, cd2, pc2, cc2, pm2, cm2, hr2, evt2, evl2, evd2, evc2, evm2, -⟩ := hL2.st.opn
 have hB2 := KeepB.trans hB5 (hO.keepB w.heap.size (b :: H.vl.ownBlock.toList) (fun g e => by cases e; exact .inl (List.mem_cons_self ..)))
 have hk1 := hkb1.only hO (by intro e; cases e; omega)
 have hot2 : OwnM slL 30 0 w6 (.slice pl2 H.ls.length cl2) H.ls := evl2 ▸ hL2.st.li.own
 have hvm := hk3
 refine WL.z rfl rfl ?_
 refine W.sr <| WL.m rfl rfl <| WL.p (.neq rfl rfl) rfl <| WL.nil <| ?_
 refine W.cond rfl (fun h7 => ?_) (fun h7 => ?_)
 have h7' := ndT h7
 refine W.sr <| WL.p (.buildL (ps := _) blt27 rfl rfl rfl pZ) rfl ?_
 refine WL.m rfl rfl <| WL.stL rfl rfl hk1 isz27 rfl rfl (fun w8 hkw8 huw8 hsw8 => ?_)
 have hF9 := StL.same (w1 := w8) hL2 (fun k hk hl => huw8.other k (fun e => by first | exact hk.2 (e ▸ hb1n) | (have := hlt k hk.2; omega)))
 have hB11 := KeepB.trans hB2 (by first | exact KeepB.of_new huw8 oO | exact KeepB.of_mem huw8 (by simp))
 have huR := huw8
 refine WL.z rfl rfl ?_
 refine W.ret (W.retc2 rfl rfl (ldRow hkw8 underlying27 rfl isz27) rfl ?_)
 have hE : ¬ arrE S n = 0 := by unfold arrE arrC; assumption
 have hL3 := hF9
 rw [if_neg aS] at hL3
 exact ⟨rvE (by unfold arrO; rw [if_neg hE]; rfl), F, by unfold arrS; rw [if_neg hE]; exact hL3.stoF hF, hS.chg hF hS.li.la (by nofun) hB11⟩
 have h7' := ndF h7
 have hE : arrE S n = 0 := by unfold arrE arrC; assumption
 obtain ⟨hn0, hn1, hcf⟩ := takeE_ok hE
 obtain ⟨k, rfl⟩ := Int.eq_ofNat_of_zero_le hn0
 have hleb : b < w6.heap.size := (hr2).lt
 have hB6 := hB2
 have hsum := hok.sum
 have hfr := hok.free0
 have hb1l := (hk1).lt
 have hvtl : ∀ g, H.vl.ownBlock = some g → g < w.heap.size := fun g hg => hlt g (by rw [hS.li.la g hg]; nofun)
 have hbv : H.vl.ownBlock ≠ some b := fun e => by have := hS.li.la b e; rw [hS.lb] at this; cases this
 have hB4 : KeepB w6.heap.size (b :: H.vl.ownBlock.toList) w6 w6 := KeepB.refl _ _ _
 have hs6 : w.heap.size ≤ w6.heap.size := hB6.size
 refine W.skip <| W.seq <| W.regY 12 rfl mixed (fun w12 dw12 => ?_)
 have ho13 := OwnM.drew hot2 dw12
 have hk14 := hr2.drew dw12
 have hk15 := hk1.drew dw12
 have hB16 := KeepB.trans hB4 (KeepB.of_drew dw12)
 refine WY.tk 0 rfl (.mv rfl) rfl ?_
 refine WY.tk 1 rfl (.mv rfl) rfl ?_
 refine WY.tk 2 rfl (.nck rfl) rfl ?_
 refine WY.tk 3 rfl (.fa underlying65 rfl sizeOf60 dD rfl) rfl ?_
 refine WY.tk 5 rfl (.mv rfl) rfl ?_
 refine WY.br2 4 rfl 6 rfl ?_ ?_
 refine WL.r (Rd.ld (isAgg60 _) rfl hk14 rfl) rfl <| WL.nil <| ?_
 refine WY.br1 6 rfl ?_
 have hsb0 := hB16.size
 refine WL.mkN (L := objL) (ob0) (k) underlying30 inf27 rfl rfl rfl rfl oO dD rfl (fun w17 how17 hbw17 => ?_)
 have ho18 := OwnM.below ho13 hbw17
 have hk19 := hk14.below hbw17 hk14.lt
 have hk20 := hk15.below hbw17 hk15.lt
 have hB21 := KeepB.trans hB16 (KeepB.of_below hbw17 hB16.size)
 have hlew17 := hbw17.size
 refine WL.nil <| ?_
 refine WY.br1 7 rfl ?_
 refine WL.bsl (ps := _) underlying60 sizeOf30 zeroValue30 rfl rfl rfl rfl rfl pR rfl (fun b22 wb22 eb22 hkb22 hub22 hsb22 => ?_)
 have ho23 := OwnM.new ho18 eb22 hub22
 have hle25 := Nat.le_trans hlew17 hub22.size
 have ho24 := OwnM.new how17 eb22 hub22
 have hl27 : b < b22 := by rw [eb22]; exact hk19.lt
 have hk26 := hk19.upd hub22 (Nat.ne_of_lt hl27)
 have hl29 : b1 < b22 := by rw [eb22]; exact hk20.lt
 have hk28 := hk20.upd hub22 (Nat.ne_of_lt hl29)
 have hgeb22 : w6.heap.size ≤ b22 := by rw [eb22]; exact hB21.size
 have hB30 := KeepB.trans hB21 (KeepB.of_new hub22 hgeb22)
 have hxl := RowM.lit (L := slL) (l := [⟨some ⟨w12.heap.size, 0, none⟩, k, k⟩]) hkb22 rfl
 have htx := ho24
 refine WL.nil <| ?_
 refine WY.br1 8 rfl ?_
 have hsb := hB30.size
 refine WL.appM underlying60 inf30 rfl rfl rfl ho23 rfl hxl (by have := hok.sum; have := hok.free0; have := hS.li.len; simp only [List.length_cons, List.length_nil]; omega) (z_le) rfl (fun h => absurd h (List.cons_ne_nil _ _)) (fun v31 w32 how32 hbw32 hgw32 hfw32 => ?_)
 have hk33 := hk26.grown hgw32 (by rw [← evl2]; exact hbv)
 have hk34 := hk28.grown hgw32 (fun e => by have h2 := hvtl _ (by rw [evl2]; exact e); omega)
 have ho35 := OwnM.same ho24 (fun g hg => hgw32.block g ((ho24).lt g hg).2 (fun hx => by have h1 := htx.lt g hg; have h2 := hvtl g (by rw [evl2]; exact hx.symm); omega))
 have hle36 := Nat.le_trans hle25 hbw32.size
 have hB37 := KeepB.trans hB30 (KeepB.of_grown hgw32 (fun g hg => .inl (List.mem_cons_of_mem _ (Option.mem_toList.2 (by rw [evl2]; exact hg)))) hB30.size)
 obtain ⟨pn, cn, hvn, -⟩ := (how32).row
 subst hvn
 have hnf : ∀ g, (Value.slice pn (H.ls ++ [(⟨some ⟨w12.heap.size, 0, none⟩, k, k⟩ : SlV)]).length cn).ownBlock = some g → H.vl.ownBlock = some g ∨ _ := fun g hg => (hfw32 g hg).imp (fun h => by rw [evl2]; exact h) id
 refine WL.nil <| ?_
 refine WY.tk 9 rfl (.nck rfl) rfl ?_
 refine WY.tk 10 rfl (.fa underlying65 rfl sizeOf60 dD rfl) rfl ?_
 refine WY.br1 11 rfl ?_
 refine WL.st sizeOf60 rfl rfl rfl hk33 oD (fun w38 hkw38 huw38 hsw38 => ?_)
 have hkw38 : Blk w38 b _ _ := hkw38
 have huw38 : Upd b _ _ := huw38
 have ho39 := OwnM.upd how32 huw38 (fun g hg e => by subst e; rcases hnf _ hg with h | h <;> first | exact hbv h | omega)
 have hle41 := Nat.le_trans hle36 huw38.size
 have ho40 := OwnM.touch ho35 huw38 oM
 have hk42 := hk34.up huw38
 have hB43 := KeepB.trans hB37 (by first | exact KeepB.of_new huw38 oO | exact KeepB.of_mem huw38 (by simp))
 obtain ⟨lab3, hS3, hlt3, hnew3⟩ := hL2.st.addList hL2.inn (fun g h1 h2 h3 => hB43.block g h1 (by simp only [List.mem_cons, Option.mem_toList, not_or]; exact ⟨h2, h3⟩)) hB43.size (by rw [evt2, evd2, evc2, evm2]; exact hkw38) ((ho39).base fun _ _ => Nat.zero_le _) (fun g hg => (hnf g hg).imp id fun h => Nat.le_trans hsb h) ((ho40).base fun g hg => Nat.le_trans hsb0 (htx.lt g hg).1) (fun g hg e => by
  have h1 := htx.lt g hg
  rcases hnf g e with h2 | h2
  have := hvtl g h2; omega
  omega)
 have hSL3 : StL w38.heap.size lab3 w38 b _ _ := ⟨hlt3, hlt3, hS3⟩
 have hb1n : lab3 b1 = .no := by
  cases e : lab3 b1 with
  | no => rfl
  | _ =>
   rcases hnew3 b1 (by rw [e]; nofun) with h | h
   have := hlt b1 h; omega
   omega
 have hC3 := (hS.chg hF hS.li.la (by nofun) hB6).trans (((hL2.st.chg hF hS.li.la (by nofun) hB43)).grow (F1 := fun g => lab3 g ≠ .no) fun g hg => (hnew3 g hg).imp (fun h => (hF g).2 h) id)
 have hB5 : KeepB w38.heap.size [b1] w38 w38 := KeepB.refl _ _ _
 refine WL.nil <| ?_
 refine WY.done kR ?_
 refine W.sr <| WL.m rfl rfl <| WL.p (.nck rfl) rfl <| WL.p (.fa underlying65 rfl sizeOf60 dD rfl) rfl <| WL.r (Rd.ld (isAgg60 _) rfl hkw38 rfl) rfl <| WL.p (.iis ((S.lists.length + 1 : Int)) (.lenS underlying60 rfl) (by have := hS.li.len; simp only [List.length_append, List.length_cons, List.length_nil]; omega)) rfl <| WL.p (.iis ((S.lists.length : Int)) (.sub rfl rfl (i64w oO)) oO) rfl <| WL.m rfl rfl <| ?_
 refine WL.p (.buildL (ps := _) blt27 rfl rfl rfl pS) rfl ?_
 refine WL.stL rfl rfl hk42 isz27 rfl rfl (fun w44 hkw44 huw44 hsw44 => ?_)
 have hle47 := Nat.le_trans hle41 huw44.size
 have hF48 := StL.same (w1 := w44) hSL3 (fun k hk hl => huw44.other k (fun e => by first | exact hk.2 (e ▸ hb1n) | (have := hlt k hk.2; omega)))
 have huR := huw44
 refine WL.z rfl rfl ?_
 refine W.ret (W.retc2 rfl rfl (ldRow hkw44 underlying27 rfl isz27) rfl ?_)
 exact ⟨rvE (by unfold arrO; rw [if_pos hE, hE]; rfl), (fun g => lab3 g ≠ .no), by
  have hL4 := (hF48).stoF (F := fun g => lab3 g ≠ .no) (fun _ => Iff.rfl)
  have hE2 : takeE (k : Int) 65535 (1 + max (k : Int) 0) S.free = 0 := hE
  rw [if_pos hE2] at hL4
  unfold arrS; rw [if_pos hE, Int.toNat_natCast]; exact hL4, hC3.upd huR oO⟩
 have hsb0 := hB16.size
 refine WL.mkN (L := objL) (ob0) (k) underlying30 inf27 rfl rfl rfl rfl oO dD rfl (fun w51 how51 hbw51 => ?_)
 have ho52 := OwnM.below ho13 hbw51
 have hk53 := hk14.below hbw51 hk14.lt
 have hk54 := hk15.below hbw51 hk15.lt
 have hB55 := KeepB.trans hB16 (KeepB.of_below hbw51 hB16.size)
 have hlew51 := hbw51.size
 refine WL.nil <| ?_
 refine WY.br2 4 rfl 7 rfl ?_ ?_
 refine WL.r (Rd.ld (isAgg60 _) rfl hk53 rfl) rfl <| WL.nil <| ?_
 refine WY.br1 7 rfl ?_
 refine WL.bsl (ps := _) underlying60 sizeOf30 zeroValue30 rfl rfl rfl rfl rfl pR rfl (fun b56 wb56 eb56 hkb56 hub56 hsb56 => ?_)
 have ho57 := OwnM.new ho52 eb56 hub56
 have hle59 := Nat.le_trans hlew51 hub56.size
 have ho58 := OwnM.new how51 eb56 hub56
 have hl61 : b < b56 := by rw [eb56]; exact hk53.lt
 have hk60 := hk53.upd hub56 (Nat.ne_of_lt hl61)
 have hl63 : b1 < b56 := by rw [eb56]; exact hk54.lt
 have hk62 := hk54.upd hub56 (Nat.ne_of_lt hl63)
 have hgeb56 : w6.heap.size ≤ b56 := by rw [eb56]; exact hB55.size
 have hB64 := KeepB.trans hB55 (KeepB.of_new hub56 hgeb56)
 have hxl := RowM.lit (L := slL) (l := [⟨some ⟨w12.heap.size, 0, none⟩, k, k⟩]) hkb56 rfl
 have htx := ho58
 refine WL.nil <| ?_
 refine WY.br1 8 rfl ?_
 have hsb := hB64.size
 refine WL.appM underlying60 inf30 rfl rfl rfl ho57 rfl hxl (by have := hok.sum; have := hok.free0; have := hS.li.len; simp only [List.length_cons, List.length_nil]; omega) (z_le) rfl (fun h => absurd h (List.cons_ne_nil _ _)) (fun v65 w66 how66 hbw66 hgw66 hfw66 => ?_)
 have hk67 := hk60.grown hgw66 (by rw [← evl2]; exact hbv)
 have hk68 := hk62.grown hgw66 (fun e => by have h2 := hvtl _ (by rw [evl2]; exact e); omega)
 have ho69 := OwnM.same ho58 (fun g hg => hgw66.block g ((ho58).lt g hg).2 (fun hx => by have h1 := htx.lt g hg; have h2 := hvtl g (by rw [evl2]; exact hx.symm); omega))
 have hle70 := Nat.le_trans hle59 hbw66.size
 have hB71 := KeepB.trans hB64 (KeepB.of_grown hgw66 (fun g hg => .inl (List.mem_cons_of_mem _ (Option.mem_toList.2 (by rw [evl2]; exact hg)))) hB64.size)
 obtain ⟨pn, cn, hvn, -⟩ := (how66).row
 subst hvn
 have hnf : ∀ g, (Value.slice pn (H.ls ++ [(⟨some ⟨w12.heap.size, 0, none⟩, k, k⟩ : SlV)]).length cn).ownBlock = some g → H.vl.ownBlock = some g ∨ _ := fun g hg => (hfw66 g hg).imp (fun h => by rw [evl2]; exact h) id
 refine WL.nil <| ?_
 refine WY.tk 9 rfl (.nck rfl) rfl ?_
 refine WY.tk 10 rfl (.fa underlying65 rfl sizeOf60 dD rfl) rfl ?_
 refine WY.br1 11 rfl ?_
 refine WL.st sizeOf60 rfl rfl rfl hk67 oD (fun w72 hkw72 huw72 hsw72 => ?_)
 have hkw72 : Blk w72 b _ _ := hkw72
 have huw72 : Upd b _ _ := huw72
 have ho73 := OwnM.upd how66 huw72 (fun g hg e => by subst e; rcases hnf _ hg with h | h <;> first | exact hbv h | omega)
 have hle75 := Nat.le_trans hle70 huw72.size
 have ho74 := OwnM.touch ho69 huw72 oM
 have hk76 := hk68.up huw72
 have hB77 := KeepB.trans hB71 (by first | exact KeepB.of_new huw72 oO | exact KeepB.of_mem huw72 (by simp))
 obtain ⟨lab3, hS3, hlt3, hnew3⟩ := hL2.st.addList hL2.inn (fun g h1 h2 h3 => hB77.block g h1 (by simp only [List.mem_cons, Option.mem_toList, not_or]; exact ⟨h2, h3⟩)) hB77.size (by rw [evt2, evd2, evc2, evm2]; exact hkw72) ((ho73).base fun _ _ => Nat.zero_le _) (fun g hg => (hnf g hg).imp id fun h => Nat.le_trans hsb h) ((ho74).base fun g hg => Nat.le_trans hsb0 (htx.lt g hg).1) (fun g hg e => by
  have h1 := htx.lt g hg
  rcases hnf g e with h2 | h2
  have := hvtl g h2; omega
  omega)
 have hSL3 : StL w72.heap.size lab3 w72 b _ _ := ⟨hlt3, hlt3, hS3⟩
 have hb1n : lab3 b1 = .no := by
  cases e : lab3 b1 with
  | no => rfl
  | _ =>
   rcases hnew3 b1 (by rw [e]; nofun) with h | h
   have := hlt b1 h; omega
   omega
 have hC3 := (hS.chg hF hS.li.la (by nofun) hB6).trans (((hL2.st.chg hF hS.li.la (by nofun) hB77)).grow (F1 := fun g => lab3 g ≠ .no) fun g hg => (hnew3 g hg).imp (fun h => (hF g).2 h) id)
 have hB5 : KeepB w72.heap.size [b1] w72 w72 := KeepB.refl _ _ _
 refine WL.nil <| ?_
 refine WY.done kR ?_
 refine W.sr <| WL.m rfl rfl <| WL.p (.nck rfl) rfl <| WL.p (.fa underlying65 rfl sizeOf60 dD rfl) rfl <| WL.r (Rd.ld (isAgg60 _) rfl hkw72 rfl) rfl <| WL.p (.iis ((S.lists.length + 1 : Int)) (.lenS underlying60 rfl) (by have := hS.li.len; simp only [List.length_append, List.length_cons, List.length_nil]; omega)) rfl <| WL.p (.iis ((S.lists.length : Int)) (.sub rfl rfl (i64w oO)) oO) rfl <| WL.m rfl rfl <| ?_
 refine WL.p (.buildL (ps := _) blt27 rfl rfl rfl pS) rfl ?_
 refine WL.stL rfl rfl hk76 isz27 rfl rfl (fun w78 hkw78 huw78 hsw78 => ?_)
 have hle81 := Nat.le_trans hle75 huw78.size
 have hF82 := StL.same (w1 := w78) hSL3 (fun k hk hl => huw78.other k (fun e => by first | exact hk.2 (e ▸ hb1n) | (have := hlt k hk.2; omega)))
 have huR := huw78
 refine WL.z rfl rfl ?_
 refine W.ret (W.retc2 rfl rfl (ldRow hkw78 underlying27 rfl isz27) rfl ?_)
 exact ⟨rvE (by unfold arrO; rw [if_pos hE, hE]; rfl), (fun g => lab3 g ≠ .no), by
  have hL4 := (hF82).stoF (F := fun g => lab3 g ≠ .no) (fun _ => Iff.rfl)
  have hE2 : takeE (k : Int) 65535 (1 + max (k : Int) 0) S.free = 0 := hE
  rw [if_pos hE2] at hL4
  unfold arrS; rw [if_pos hE, Int.toNat_natCast]; exact hL4, hC3.upd huR oO⟩
 refine WL.bsl (ps := _) underlying60 sizeOf30 zeroValue30 rfl rfl rfl rfl rfl pR rfl (fun b85 wb85 eb85 hkb85 hub85 hsb85 => ?_)
 have ho86 := OwnM.new ho52 eb85 hub85
 have hle88 := Nat.le_trans hlew51 hub85.size
 have ho87 := OwnM.new how51 eb85 hub85
 have hl90 : b < b85 := by rw [eb85]; exact hk53.lt
 have hk89 := hk53.upd hub85 (Nat.ne_of_lt hl90)
 have hl92 : b1 < b85 := by rw [eb85]; exact hk54.lt
 have hk91 := hk54.upd hub85 (Nat.ne_of_lt hl92)
 have hgeb85 : w6.heap.size ≤ b85 := by rw [eb85]; exact hB55.size
 have hB93 := KeepB.trans hB55 (KeepB.of_new hub85 hgeb85)
 have hxl := RowM.lit (L := slL) (l := [⟨some ⟨w12.heap.size, 0, none⟩, k, k⟩]) hkb85 rfl
 have htx := ho87
 refine WL.nil <| ?_
 refine WY.br1 4 rfl ?_
 refine WL.r (Rd.ld (isAgg60 _) rfl hk89 rfl) rfl <| WL.nil <| ?_
 refine WY.br1 8 rfl ?_
 have hsb := hB93.size
 refine WL.appM underlying60 inf30 rfl rfl rfl ho86 rfl hxl (by have := hok.sum; have := hok.free0; have := hS.li.len; simp only [List.length_cons, List.length_nil]; omega) (z_le) rfl (fun h => absurd h (List.cons_ne_nil _ _)) (fun v94 w95 how95 hbw95 hgw95 hfw95 => ?_)
 have hk96 := hk89.grown hgw95 (by rw [← evl2]; exact hbv)
 have hk97 := hk91.grown hgw95 (fun e => by have h2 := hvtl _ (by rw [evl2]; exact e); omega)
 have ho98 := OwnM.same ho87 (fun g hg => hgw95.block g ((ho87).lt g hg).2 (fun hx => by have h1 := htx.lt g hg; have h2 := hvtl g (by rw [evl2]; exact hx.symm); omega))
 have hle99 := Nat.le_trans hle88 hbw95.size
 have hB100 := KeepB.trans hB93 (KeepB.of_grown hgw95 (fun g hg => .inl (List.mem_cons_of_mem _ (Option.mem_toList.2 (by rw [evl2]; exact hg)))) hB93.size)
 obtain ⟨pn, cn, hvn, -⟩ := (how95).row
 subst hvn
 have hnf : ∀ g, (Value.slice pn (H.ls ++ [(⟨some ⟨w12.heap.size, 0, none⟩, k, k⟩ : SlV)]).length cn).ownBlock = some g → H.vl.ownBlock = some g ∨ _ := fun g hg => (hfw95 g hg).imp (fun h => by rw [evl2]; exact h) id
 refine WL.nil <| ?_
 refine WY.tk 9 rfl (.nck rfl) rfl ?_
 refine WY.tk 10 rfl (.fa underlying65 rfl sizeOf60 dD rfl) rfl ?_
 refine WY.br1 11 rfl ?_
 refine WL.st sizeOf60 rfl rfl rfl hk96 oD (fun w101 hkw101 huw101 hsw101 => ?_)
 have hkw101 : Blk w101 b _ _ := hkw101
 have huw101 : Upd b _ _ := huw101
 have ho102 := OwnM.upd how95 huw101 (fun g hg e => by subst e; rcases hnf _ hg with h | h <;> first | exact hbv h | omega)
 have hle104 := Nat.le_trans hle99 huw101.size
 have ho103 := OwnM.touch ho98 huw101 oM
 have hk105 := hk97.up huw101
 have hB106 := KeepB.trans hB100 (by first | exact KeepB.of_new huw101 oO | exact KeepB.of_mem huw101 (by simp))
 obtain ⟨lab3, hS3, hlt3, hnew3⟩ := hL2.st.addList hL2.inn (fun g h1 h2 h3 => hB106.block g h1 (by simp only [List.mem_cons, Option.mem_toList, not_or]; exact ⟨h2, h3⟩)) hB106.size (by rw [evt2, evd2, evc2, evm2]; exact hkw101) ((ho102).base fun _ _ => Nat.zero_le _) (fun g hg => (hnf g hg).imp id fun h => Nat.le_trans hsb h) ((ho103).base fun g hg => Nat.le_trans hsb0 (htx.lt g hg).1) (fun g hg e => by
  have h1 := htx.lt g hg
  rcases hnf g e with h2 | h2
  have := hvtl g h2; omega
  omega)
 have hSL3 : StL w101.heap.size lab3 w101 b _ _ := ⟨hlt3, hlt3, hS3⟩
 have hb1n : lab3 b1 = .no := by
  cases e : lab3 b1 with
  | no => rfl
  | _ =>
   rcases hnew3 b1 (by rw [e]; nofun) with h | h
   have := hlt b1 h; omega
   omega
 have hC3 := (hS.chg hF hS.li.la (by nofun) hB6).trans (((hL2.st.chg hF hS.li.la (by nofun) hB106)).grow (F1 := fun g => lab3 g ≠ .no) fun g hg => (hnew3 g hg).imp (fun h => (hF g).2 h) id)
 have hB5 : KeepB w101.heap.size [b1] w101 w101 := KeepB.refl _ _ _
 refine WL.nil <| ?_
 refine WY.done kR ?_
 refine W.sr <| WL.m rfl rfl <| WL.p (.nck rfl) rfl <| WL.p (.fa underlying65 rfl sizeOf60 dD rfl) rfl <| WL.r (Rd.ld (isAgg60 _) rfl hkw101 rfl) rfl <| WL.p (.iis ((S.lists.length + 1 : Int)) (.lenS underlying60 rfl) (by have := hS.li.len; simp only [List.length_append, List.length_cons, List.length_nil]; omega)) rfl <| WL.p (.iis ((S.lists.length : Int)) (.sub rfl rfl (i64w oO)) oO) rfl <| WL.m rfl rfl <| ?_
 refine WL.p (.buildL (ps := _) blt27 rfl rfl rfl pS) rfl ?_
 refine WL.stL rfl rfl hk105 isz27 rfl rfl (fun w107 hkw107 huw107 hsw107 => ?_)
 have hle110 := Nat.le_trans hle104 huw107.size
 have hF111 := StL.same (w1 := w107) hSL3 (fun k hk hl => huw107.other k (fun e => by first | exact hk.2 (e ▸ hb1n) | (have := hlt k hk.2; omega)))
 have huR := huw107
 refine WL.z rfl rfl ?_
 refine W.ret (W.retc2 rfl rfl (ldRow hkw107 underlying27 rfl isz27) rfl ?_)
 exact ⟨rvE (by unfold arrO; rw [if_pos hE, hE]; rfl), (fun g => lab3 g ≠ .no), by
  have hL4 := (hF111).stoF (F := fun g => lab3 g ≠ .no) (fun _ => Iff.rfl)
  have hE2 : takeE (k : Int) 65535 (1 + max (k : Int) 0) S.free = 0 := hE
  rw [if_pos hE2] at hL4
  unfold arrS; rw [if_pos hE, Int.toNat_natCast]; exact hL4, hC3.upd huR oO⟩
theorem take_gd {n : Int} : 0 ≤ 1 + 2 * max (min n 4096) 0 := by omega
def dicC (n : Int) : Int := 1 + 2 * max (min n 4096) 0
def dicE (S : StoV) (n : Int) : Int := takeE n 4096 (dicC n) S.free
def dicO (S : StoV) (n : Int) : ObjV := if dicE S n = 0 then ⟨8, false, 0, 0, [], S.dicts.length, 0, 0⟩ else ob0
def dicS (S : StoV) (n : Int) : StoV := if dicE S n = 0 then { S with free := S.free - dicC n, dicts := S.dicts ++ [⟨n, 0, []⟩] } else S
set_option maxHeartbeats 1600000 in
theorem sto_Dict (b : Nat) (F : Nat → Prop) (S : StoV) (n : Int) (w : World) (h : Sto w b F S) (hok : SOk S) (hn : -4611686018427387904 ≤ n ∧ n ≤ 4611686018427387904) :
  Calls Tryz.prog 32 #[.pointer (some ⟨b, 0, none⟩), .int .i64 n] w fun e w' => e = .returned (.tuple #[.agg (objV (dicO S n)).toArray, .int .i64 (dicE S n)]) ∧ ∃ F1, Sto w' b F1 (dicS S n) ∧ Chg F F1 w w' := by
 obtain ⟨lab, H, hF, hlt, hS⟩ := h
 obtain ⟨pt, ct, pl, cl, pd, cd, pc, cc, pm, cm, hr, evt, evl, evd, evc, evm, hrt, hrl, hrd⟩ := hS.opn
 have hbl := hr.lt
 have hSL0 : StL w.heap.size lab w b H S := ⟨hlt, hlt, hS⟩
 refine W.enter func32 rfl ntmps32 (Nat.le_of_ble_eq_true rfl) ?_
 have hB0 := KeepB.refl w.heap.size (b :: H.vd.ownBlock.toList) w
 refine W.sr <| WL.alloc zeroValue27 rfl (fun b1 wb1 eb1 hkb1 hub1 hsb1 => ?_)
 have hF2 := StL.same (w1 := wb1) hSL0 (fun k hk hl => hub1.other k oO)
 have hl4 : b < b1 := by rw [eb1]; exact hr.lt
 have hgeb1 : w.heap.size ≤ b1 := by rw [eb1]; exact hB0.size
 have hB5 := KeepB.trans hB0 (KeepB.of_new hub1 hgeb1)
 refine WL.z rfl rfl ?_
 refine W.seq <| W.sr <| WL.m rfl rfl <| WL.m rfl rfl <| WL.m rfl rfl <| WL.p (.iis (min n 4096) (.min2 rfl rfl) (by simp only [Int.min_def]; split <;> split <;> omega)) rfl <| WL.p (.iis (max (min n 4096) 0) (.max2 rfl rfl) (by simp only [Int.max_def, Int.min_def]; split <;> split <;> (try split) <;> omega)) rfl <| WL.p (.mul rfl rfl (i64w oO)) rfl <| WL.p (.add rfl rfl (i64w oO)) rfl <| WL.c1 hb15 rfl rfl ((sto_take w.heap.size lab b H S n 4096 (1 + 2 * max (min n 4096) 0) _ hF2 ⟨hok.free0, by have := hok.sum; omega⟩ take_gd)) (fun w6 hw6 => ?_)
 obtain ⟨hO, hL2⟩ := hw6
 obtain ⟨pt2, ct2, pl2, cl2, pd2, cd2, pc2, cc2, pm2, cm2, hr2, evt2, evl2, evd2, evc2, evm2, -⟩ := hL2.st.opn
 have hB2 := KeepB.trans hB5 (hO.keepB w.heap.size (b :: H.vd.ownBlock.toList) (fun g e => by cases e; exact .inl (List.mem_cons_self ..)))
 have hk1 := hkb1.only hO (by intro e; cases e; omega)
 have hot2 : OwnM ptL 106 0 w6 (.slice pd2 H.ds.length cd2) H.ds := evd2 ▸ hL2.st.di.own
 refine WL.z rfl rfl ?_
 refine W.sr <| WL.m rfl rfl <| WL.p (.neq rfl rfl) rfl <| WL.nil <| ?_
 refine W.cond rfl (fun h7 => ?_) (fun h7 => ?_)
 have h7' := ndT h7
 refine W.sr <| WL.p (.buildL (ps := _) blt27 rfl rfl rfl pZ) rfl ?_
 refine WL.m rfl rfl <| WL.stL rfl rfl hk1 isz27 rfl rfl (fun w8 hkw8 huw8 hsw8 => ?_)
 have hF9 := StL.same (w1 := w8) hL2 (fun k hk hl => huw8.other k (fun e => by first | exact hk.2 (e ▸ hb1n) | (have := hlt k hk.2; omega)))
 have hB11 := KeepB.trans hB2 (by first | exact KeepB.of_new huw8 oO | exact KeepB.of_mem huw8 (by simp))
 have huR := huw8
 refine WL.z rfl rfl ?_
 refine W.ret (W.retc2 rfl rfl (ldRow hkw8 underlying27 rfl isz27) rfl ?_)
 have hE : ¬ dicE S n = 0 := by unfold dicE dicC; assumption
 have hL3 := hF9
 rw [if_neg aS] at hL3
 exact ⟨rvE (by unfold dicO; rw [if_neg hE]; rfl), F, by unfold dicS; rw [if_neg hE]; exact hL3.stoF hF, hS.chg hF hS.di.la (by nofun) hB11⟩
 have h7' := ndF h7
 have hE : dicE S n = 0 := by unfold dicE dicC; assumption
 obtain ⟨hn0, hn1, hcf⟩ := takeE_ok hE
 have hleb : b < w6.heap.size := (hr2).lt
 have hB6 := hB2
 have hsum := hok.sum
 have hfr := hok.free0
 have hb1l := (hk1).lt
 have hvtl : ∀ g, H.vd.ownBlock = some g → g < w.heap.size := fun g hg => hlt g (by rw [hS.di.la g hg]; nofun)
 have hbv : H.vd.ownBlock ≠ some b := fun e => by have := hS.di.la b e; rw [hS.lb] at this; cases this
 have hB4 : KeepB w6.heap.size (b :: H.vd.ownBlock.toList) w6 w6 := KeepB.refl _ _ _
 have hs6 : w.heap.size ≤ w6.heap.size := hB6.size
 refine W.skip <| W.sr <| WL.m rfl rfl <| WL.m rfl rfl <| WL.p (.nck rfl) rfl <| WL.p (.fa underlying65 rfl sizeOf61 dD rfl) rfl <| WL.r (Rd.ld (isAgg61 _) rfl hr2 rfl) rfl <| WL.m rfl rfl <| ?_
 refine WL.p (.buildL (ps := _) blt109 rfl rfl rfl pS) rfl ?_
 refine WL.box rfl rfl (fun b12 wb12 eb12 hkb12 hub12 hsb12 => ?_)
 have ho13 := OwnM.new hot2 eb12 hub12
 have hl15 : b < b12 := by rw [eb12]; exact hr2.lt
 have hk14 := hr2.upd hub12 (Nat.ne_of_lt hl15)
 have hl17 : b1 < b12 := by rw [eb12]; exact hk1.lt
 have hk16 := hk1.upd hub12 (Nat.ne_of_lt hl17)
 have hgeb12 : w6.heap.size ≤ b12 := by rw [eb12]; exact hB4.size
 have hB18 := KeepB.trans hB4 (KeepB.of_new hub12 hgeb12)
 have hkd0 := hkb12
 have hkn : w6.heap.size ≤ b12 := by omega
 refine WL.bsl (ps := _) underlying61 sizeOf106 zeroValue106 rfl rfl rfl rfl rfl pR rfl (fun b19 wb19 eb19 hkb19 hub19 hsb19 => ?_)
 have ho20 := OwnM.new ho13 eb19 hub19
 have hl22 : b < b19 := by rw [eb19]; exact hk14.lt
 have hk21 := hk14.upd hub19 (Nat.ne_of_lt hl22)
 have hl24 : b1 < b19 := by rw [eb19]; exact hk16.lt
 have hk23 := hk16.upd hub19 (Nat.ne_of_lt hl24)
 have hl26 : b12 < b19 := by rw [eb19]; exact hkb12.lt
 have hk25 := hkb12.upd hub19 (Nat.ne_of_lt hl26)
 have hgeb19 : w6.heap.size ≤ b19 := by rw [eb19]; exact hB18.size
 have hB27 := KeepB.trans hB18 (KeepB.of_new hub19 hgeb19)
 have hxl := RowM.lit (L := ptL) (l := [b12]) hkb19 rfl
 have hsb := hB27.size
 have hlt28 := (hk25).lt
 have hkd1 := hk25
 refine WL.appM underlying61 inf106 rfl rfl rfl ho20 rfl hxl (by have := hok.sum; have := hok.free0; have := hS.di.len; simp only [List.length_cons, List.length_nil]; omega) (z_le) rfl (fun h => absurd h (List.cons_ne_nil _ _)) (fun v28 w29 how29 hbw29 hgw29 hfw29 => ?_)
 have hk30 := hk21.grown hgw29 (by rw [← evd2]; exact hbv)
 have hk31 := hk23.grown hgw29 (fun e => by have h2 := hvtl _ (by rw [evd2]; exact e); omega)
 have hk32 := hk25.grown hgw29 (fun e => by have h2 := hvtl _ (by rw [evd2]; exact e); omega)
 have hB33 := KeepB.trans hB27 (KeepB.of_grown hgw29 (fun g hg => .inl (List.mem_cons_of_mem _ (Option.mem_toList.2 (by rw [evd2]; exact hg)))) hB27.size)
 obtain ⟨pn, cn, hvn, -⟩ := (how29).row
 subst hvn
 have hnf : ∀ g, (Value.slice pn (H.ds ++ [b12]).length cn).ownBlock = some g → H.vd.ownBlock = some g ∨ _ := fun g hg => (hfw29 g hg).imp (fun h => by rw [evd2]; exact h) id
 have hnek : (Value.slice pn (H.ds ++ [b12]).length cn).ownBlock ≠ some b12 := fun e => by
  rcases hnf _ e with h2 | h2
  have := hvtl _ h2; omega
  omega
 refine WL.p (.nck rfl) rfl <| WL.p (.fa underlying65 rfl sizeOf61 dD rfl) rfl <| WL.st sizeOf61 rfl rfl rfl hk30 oD (fun w34 hkw34 huw34 hsw34 => ?_)
 have hkw34 : Blk w34 b _ _ := hkw34
 have huw34 : Upd b _ _ := huw34
 have ho35 := OwnM.upd how29 huw34 (fun g hg e => by subst e; rcases hnf _ hg with h | h <;> first | exact hbv h | omega)
 have hk36 := hk31.up huw34
 have hk37 := hk32.up huw34
 have hB38 := KeepB.trans hB33 (by first | exact KeepB.of_new huw34 oO | exact KeepB.of_mem huw34 (by simp))
 obtain ⟨lab3, hS3, hlt3, hnew3⟩ := hL2.st.addDict (most := n) (access := 0) hL2.inn (fun g h1 h2 h3 => hB38.block g h1 (by simp only [List.mem_cons, Option.mem_toList, not_or]; exact ⟨h2, h3⟩)) hB38.size (by rw [evt2, evl2, evc2, evm2]; exact hkw34) ((ho35).base fun _ _ => Nat.zero_le _) (fun g hg => (hnf g hg).imp id fun h => Nat.le_trans hsb h) hk37 hkn hnek
 have hSL3 : StL w34.heap.size lab3 w34 b _ _ := ⟨hlt3, hlt3, hS3⟩
 have hb1n : lab3 b1 = .no := by
  cases e : lab3 b1 with
  | no => rfl
  | _ =>
   rcases hnew3 b1 (by rw [e]; nofun) with h | h
   have := hlt b1 h; omega
   omega
 have hC3 := (hS.chg hF hS.di.la (by nofun) hB6).trans (((hL2.st.chg hF hS.di.la (by nofun) hB38)).grow (F1 := fun g => lab3 g ≠ .no) fun g hg => (hnew3 g hg).imp (fun h => (hF g).2 h) id)
 have hB5 : KeepB w34.heap.size [b1] w34 w34 := KeepB.refl _ _ _
 refine WL.nil <| ?_
 refine W.sr <| WL.m rfl rfl <| WL.p (.nck rfl) rfl <| WL.p (.fa underlying65 rfl sizeOf61 dD rfl) rfl <| WL.r (Rd.ld (isAgg61 _) rfl hkw34 rfl) rfl <| WL.p (.iis ((S.dicts.length + 1 : Int)) (.lenS underlying61 rfl) (by have := hS.di.len; simp only [List.length_append, List.length_cons, List.length_nil]; omega)) rfl <| WL.p (.iis ((S.dicts.length : Int)) (.sub rfl rfl (i64w oO)) oO) rfl <| ?_
 refine WL.p (.buildL (ps := _) blt27 rfl rfl rfl pS) rfl ?_
 refine WL.stL rfl rfl hk36 isz27 rfl rfl (fun w39 hkw39 huw39 hsw39 => ?_)
 have hF41 := StL.same (w1 := w39) hSL3 (fun k hk hl => huw39.other k (fun e => by first | exact hk.2 (e ▸ hb1n) | (have := hlt k hk.2; omega)))
 have huR := huw39
 refine WL.z rfl rfl ?_
 refine W.ret (W.retc2 rfl rfl (ldRow hkw39 underlying27 rfl isz27) rfl ?_)
 exact ⟨rvE (by unfold dicO; rw [if_pos hE, hE]; rfl), (fun g => lab3 g ≠ .no), by
  have hL4 := (hF41).stoF (F := fun g => lab3 g ≠ .no) (fun _ => Iff.rfl)
  have hE2 : takeE n 4096 (1 + 2 * max (min n 4096) 0) S.free = 0 := hE
  rw [if_pos hE2] at hL4
  unfold dicS; rw [if_pos hE]; exact hL4, hC3.upd huR oO⟩
end
section
structure LockOk (S : StoV) (o : ObjV) : Prop where
 v : validB S o = true
 k : o.kind = 6 ∨ o.kind = 7 ∨ o.kind = 8
 a0 : 0 ≤ accO S o
 a3 : accO S o ≤ 3
 ok : SOk S
 m : S.marks = []
 c : S.changes = []
 n0 : o.n = 0
def s_ro : List UInt8 := [114, 101, 97, 100, 111, 110, 108, 121]
def s_eo : List UInt8 := [101, 120, 101, 99, 117, 116, 101, 111, 110, 108, 121]
def s_na : List UInt8 := [110, 111, 97, 99, 99, 101, 115, 115]
def s_wc : List UInt8 := [119, 99, 104, 101, 99, 107]
def lkNames : List (List UInt8) := [s_ro, s_eo, s_na]
theorem lk_known : ∀ s ∈ lkNames, known s = 1 ∧ lkNm s ∧ 1 ≤ lockTo s ∧ lockTo s ≤ 3 := by decide
theorem typed_of {o : ObjV} (h : o.kind = 6 ∨ o.kind = 7 ∨ o.kind = 8) : typedB o = true := by
 unfold typedB; rcases h with h | h | h <;> simp [h]
theorem accO_dict {S : StoV} {o : ObjV} (h : o.kind = 8) : accO S o = accD S o := if_pos h
theorem accO_else {S : StoV} {o : ObjV} (h : o.kind ≠ 8) : accO S o = o.access := if_neg h
theorem noteS_none {S : StoV} {c : ChV} (h : S.marks = []) : noteS S c = S := if_neg (by rw [h]; simp)
theorem lock_dict {S : StoV} {o : ObjV} (h : LockOk S o) (hk : o.kind = 8) {a : Int} (h0 : 0 ≤ a) (h3 : a ≤ 3) : LockOk (lockS S o a) o ∧ accO (lockS S o a) o = a := by
 have hd : isDict S o = true := by unfold isDict; rw [h.v, hk]; rfl
 obtain ⟨i, e1, hi⟩ := isDict_at hd
 have hE : lockE S o a = 0 := if_pos ⟨hd, h0, h3⟩
 have hS : lockS S o a = { S with dicts := S.dicts.set i { S.dicts[i] with access := a } } := by
  unfold lockS
  rw [if_pos hE, noteS_none h.m, e1, Int.toNat_natCast, List.getD_eq_getElem?_getD, get_of hi]; rfl
 have hv : validB (lockS S o a) o = true := by
  have := h.v
  rw [hS]
  unfold validB at this ⊢
  rw [if_neg oO, if_neg oO, if_pos hk] at this ⊢
  simpa using this
 have hd2 : isDict (lockS S o a) o = true := by unfold isDict; rw [hv, hk]; rfl
 have ha : accO (lockS S o a) o = a := by
  rw [accO_dict hk]
  unfold accD
  rw [if_pos hd2, hS, e1, Int.toNat_natCast, List.getD_eq_getElem?_getD, List.getElem?_set_self hi]; rfl
 have hdi := h.ok.di S.dicts[i] (List.getElem_mem hi)
 refine ⟨⟨hv, h.k, by rw [ha]; exact h0, by rw [ha]; exact h3, ?_, by rw [hS]; exact h.m, by rw [hS]; exact h.c, h.n0⟩, ha⟩
 rw [hS]
 refine ⟨h.ok.free0, by simpa using h.ok.sum, h.ok.tx, h.ok.li, fun d hd => ?_⟩
 rcases List.mem_or_eq_of_mem_set hd with h1 | h1
 ·
  exact h.ok.di d h1
 ·
  rw [h1]; exact ⟨hdi.1, hdi.2.1, h0, h3⟩
theorem lk_step {S : StoV} {o : ObjV} (h : LockOk S o) {s : List UInt8} (hs : s ∈ lkNames) :
  (unaO S s o).2 = 0 → LockOk (unaS S s o) (unaO S s o).1 ∧ accO S o ≤ accO (unaS S s o) (unaO S s o).1 := by
 obtain ⟨-, k2, k3, k4⟩ := lk_known s hs
 have hu : unaO S s o = lkO S s o := by
  unfold unaO
  rw [if_neg k2.1, if_neg k2.2.1, if_neg k2.2.2.1, if_neg k2.2.2.2.1, if_neg k2.2.2.2.2.1, if_neg k2.2.2.2.2.2]
 have hv : unaS S s o = lkS S s o := if_pos k2
 rw [hu, hv]
 unfold lkO lkS
 intro hE
 by_cases c1 : typedB o = false ∨ (o.kind = 8 ∧ lockTo s = 2)
 ·
  rw [if_pos c1] at hE; cases hE
 rw [if_neg c1] at hE ⊢
 rw [if_neg c1]
 by_cases c2 : lockTo s ≠ 3 ∧ accO S o = 3
 ·
  rw [if_pos c2] at hE; cases hE
 rw [if_neg c2] at hE ⊢
 rw [if_neg c2]
 have h0 := h.a0
 have h3 := h.a3
 by_cases c3 : o.kind = 8
 ·
  rw [if_pos c3, if_pos c3]
  have hl := lock_dict h c3 (a := if lockTo s > accO S o then lockTo s else accO S o) (by split <;> omega) (by split <;> omega)
  refine ⟨hl.1, ?_⟩
  show accO S o ≤ accO _ o
  rw [hl.2]; split <;> omega
 ·
  rw [if_neg c3, if_neg c3]
  have e1 := accO_else (S := S) c3
  have e2 : accO S { o with access := if lockTo s > o.access then lockTo s else o.access } = if lockTo s > o.access then lockTo s else o.access := accO_else c3
  refine ⟨⟨h.v, h.k, ?_, ?_, h.ok, h.m, h.c, h.n0⟩, ?_⟩
  ·
   show 0 ≤ accO S { o with access := _ }; rw [e2]; split <;> omega
  ·
   show accO S { o with access := _ } ≤ 3; rw [e2]; split <;> omega
  ·
   show accO S o ≤ accO S { o with access := _ }; rw [e2, e1]; split <;> omega
theorem lk_fail {S : StoV} {o : ObjV} {s : List UInt8} (hs : s ∈ lkNames) (he : (unaO S s o).2 ≠ 0) : unaS S s o = S := by
 obtain ⟨-, k2, k3, k4⟩ := lk_known s hs
 have hu : unaO S s o = lkO S s o := by
  unfold unaO
  rw [if_neg k2.1, if_neg k2.2.1, if_neg k2.2.2.1, if_neg k2.2.2.2.1, if_neg k2.2.2.2.2.1, if_neg k2.2.2.2.2.2]
 have hv : unaS S s o = lkS S s o := if_pos k2
 rw [hu] at he
 rw [hv]
 unfold lkO at he
 unfold lkS
 by_cases c1 : typedB o = false ∨ (o.kind = 8 ∧ lockTo s = 2)
 ·
  rw [if_pos c1]
 rw [if_neg c1] at he ⊢
 by_cases c2 : lockTo s ≠ 3 ∧ accO S o = 3
 ·
  rw [if_pos c2]
 rw [if_neg c2] at he ⊢
 by_cases c3 : o.kind = 8
 ·
  rw [if_pos c3] at he; exact absurd rfl he
 ·
  rw [if_neg c3]
theorem do_one {S : StoV} {o : ObjV} (hv : validB S o = true) {s : List UInt8} (hk : known s = 1) : doO S s [o] = (oneL (unaO S s o), (unaO S s o).2) ∧ doS S s [o] = unaS S s o := by
 have hb : ¬ doBad S s [o] := by
  intro q
  rcases q with q | q | q
  ·
   omega
  ·
   rw [hk] at q; exact q rfl
  ·
   simp only [List.any_cons, List.any_nil, hv, Bool.not_true, Bool.or_false] at q
   cases q
 have e0 : aL [o] 0 = o := rfl
 refine ⟨?_, ?_⟩
 ·
  unfold doO; rw [if_neg hb, if_pos hk, e0]
 ·
  unfold doS; rw [if_neg hb, if_pos hk, e0]
theorem chk_r {S : StoV} {o : ObjV} (h : LockOk S o) : unaO S rcheckL o = (truO (decide (accO S o ≤ 1)), 0) ∧ unaS S rcheckL o = S := by
 refine ⟨?_, if_neg (fun q => q.2.2.2.2.2 (.inl rfl))⟩
 show chkO S rcheckL o = _
 unfold chkO
 rw [if_pos (typed_of h.k), if_pos rfl]
 have : readB S o = decide (accO S o ≤ 1) := by unfold readB; rw [decide_eq_true h.a0, Bool.and_true]
 rw [this]
theorem chk_w {S : StoV} {o : ObjV} (h : LockOk S o) : unaO S s_wc o = (truO (decide (accO S o = 0)), 0) ∧ unaS S s_wc o = S := by
 refine ⟨?_, if_neg (fun q => q.2.2.2.2.2 (.inr rfl))⟩
 show chkO S s_wc o = _
 unfold chkO
 rw [if_pos (typed_of h.k), if_neg dD]
end
section
structure ValV where
 kind : Int
 exec : Bool
 access : Int
 n : Int
 name : List UInt8
 s : Option Addr
 a : Option Addr
 d : Option Addr
 fr : Int
 len : Int
def valV (x : ValV) : List Value := [.int .i64 x.kind, .bool x.exec, .int .i64 x.access, .int .i64 x.n, .string (bs x.name), .pointer x.s, .pointer x.a, .pointer x.d, .int .i64 x.fr, .int .i64 x.len]
def valL : Lay ValV := ⟨10, valV, by decide, fun _ => rfl, fun x v hv => by simp only [valV, List.mem_cons, List.not_mem_nil, or_false] at hv; rcases hv with rfl | rfl | rfl | rfl | rfl | rfl | rfl | rfl | rfl | rfl <;> rfl⟩
def val0 : ValV := ⟨0, false, 0, 0, [], none, none, none, 0, 0⟩
def memC (f c : Int) : Array Value := #[.int .i64 f, .int .i64 c, .slice none 0 0, .slice none 0 0, .slice none 0 0, .int .i64 0]
theorem mem_take (bm : Nat) (f c n most cells : Int) (w : World) (h : Blk w bm (memC f c) 48) (hf : 0 ≤ f ∧ f ≤ 1048576) (hc : 0 ≤ c ∧ c ≤ 1048576) (hn : 0 ≤ cells) :
  Calls Tryz.prog 52 #[.pointer (some ⟨bm, 0, none⟩), .int .i64 n, .int .i64 most, .int .i64 cells] w fun e w' => e = .returned (.int .i64 (takeE n most cells f)) ∧ KeepB w.heap.size [bm] w w' ∧ ∃ f1 c1, Blk w' bm (memC f1 c1) 48 := by
 refine W.enter func52 rfl ntmps52 (Nat.le_of_ble_eq_true rfl) ?_
 have hB0 := KeepB.refl w.heap.size ([bm]) w
 refine W.sr <| WL.z rfl rfl ?_
 refine W.seq <| W.sr <| WL.m rfl rfl <| WL.p (.lss rfl rfl) rfl <| WL.nil <| ?_
 refine W.cond rfl (fun h1 => ?_) (fun h1 => ?_)
 have h1' := dT h1
 refine W.sr <| WL.z rfl rfl ?_
 refine W.ret (W.ret1 rfl rfl ?_)
 first
 | exact ⟨riE (by unfold takeE; rw [if_pos oO]), hB0, _, _, h⟩
 | exact ⟨riE (by unfold takeE; rw [if_neg oO, if_pos oO]), hB0, _, _, h⟩
 | exact ⟨riE (by unfold takeE; rw [if_neg oO, if_neg oO, if_pos oO]), hB0, _, _, h⟩
 | exact ⟨riE (by unfold takeE; rw [if_neg oO, if_neg oO, if_neg oO]), hB0, _, _, h⟩
 have h1' := dF h1
 refine W.skip <| W.seq <| W.sr <| WL.m rfl rfl <| WL.m rfl rfl <| WL.p (.gtr rfl rfl) rfl <| WL.nil <| ?_
 refine W.cond rfl (fun h2 => ?_) (fun h2 => ?_)
 have h2' := dT h2
 refine W.sr <| WL.z rfl rfl ?_
 refine W.ret (W.ret1 rfl rfl ?_)
 first
 | exact ⟨riE (by unfold takeE; rw [if_pos oO]), hB0, _, _, h⟩
 | exact ⟨riE (by unfold takeE; rw [if_neg oO, if_pos oO]), hB0, _, _, h⟩
 | exact ⟨riE (by unfold takeE; rw [if_neg oO, if_neg oO, if_pos oO]), hB0, _, _, h⟩
 | exact ⟨riE (by unfold takeE; rw [if_neg oO, if_neg oO, if_neg oO]), hB0, _, _, h⟩
 have h2' := dF h2
 refine W.skip <| W.seq <| W.sr <| WL.m rfl rfl <| WL.m rfl rfl <| WL.p (.nck rfl) rfl <| WL.p (.fa underlying48 rfl sizeOf3 dD rfl) rfl <| WL.r (Rd.ld (isAgg3 _) rfl h rfl) rfl <| WL.p (.gtr rfl rfl) rfl <| WL.nil <| ?_
 refine W.cond rfl (fun h3 => ?_) (fun h3 => ?_)
 have h3' := dT h3
 refine W.sr <| WL.z rfl rfl ?_
 refine W.ret (W.ret1 rfl rfl ?_)
 first
 | exact ⟨riE (by unfold takeE; rw [if_pos oO]), hB0, _, _, h⟩
 | exact ⟨riE (by unfold takeE; rw [if_neg oO, if_pos oO]), hB0, _, _, h⟩
 | exact ⟨riE (by unfold takeE; rw [if_neg oO, if_neg oO, if_pos oO]), hB0, _, _, h⟩
 | exact ⟨riE (by unfold takeE; rw [if_neg oO, if_neg oO, if_neg oO]), hB0, _, _, h⟩
 have h3' := dF h3
 refine W.skip <| W.sr <| WL.m rfl rfl <| WL.m rfl rfl <| WL.p (.nck rfl) rfl <| WL.p (.fa underlying48 rfl sizeOf3 dD rfl) rfl <| WL.r (Rd.ld (isAgg3 _) rfl h rfl) rfl <| WL.m rfl rfl <| WL.p (.sub rfl rfl (i64w oO)) rfl <| WL.p (.nck rfl) rfl <| WL.p (.fa underlying48 rfl sizeOf3 dD rfl) rfl <| WL.st sizeOf3 rfl rfl rfl h oD (fun w4 hkw4 huw4 hsw4 => ?_)
 have hkw4 : Blk w4 bm _ _ := hkw4
 have huw4 : Upd bm _ _ := huw4
 have hB5 := KeepB.trans hB0 (by first | exact KeepB.of_new huw4 oO | exact KeepB.of_mem huw4 (by simp))
 refine WL.nil <| ?_
 refine W.sr <| WL.m rfl rfl <| WL.p (.nck rfl) rfl <| WL.p (.fa underlying48 rfl sizeOf3 dD rfl) rfl <| WL.r (Rd.ld (isAgg3 _) rfl hkw4 rfl) rfl <| WL.p (.add rfl rfl (i64w oO)) rfl <| WL.p (.nck rfl) rfl <| WL.p (.fa underlying48 rfl sizeOf3 dD rfl) rfl <| WL.st sizeOf3 rfl rfl rfl hkw4 oD (fun w6 hkw6 huw6 hsw6 => ?_)
 have hkw6 : Blk w6 bm _ _ := hkw6
 have huw6 : Upd bm _ _ := huw6
 have hB7 := KeepB.trans hB5 (by first | exact KeepB.of_new huw6 oO | exact KeepB.of_mem huw6 (by simp))
 refine WL.nil <| ?_
 refine W.sr <| WL.z rfl rfl ?_
 refine W.ret (W.ret1 rfl rfl ?_)
 first
 | exact ⟨riE (by unfold takeE; rw [if_pos oO]), hB7, _, _, hkw6⟩
 | exact ⟨riE (by unfold takeE; rw [if_neg oO, if_pos oO]), hB7, _, _, hkw6⟩
 | exact ⟨riE (by unfold takeE; rw [if_neg oO, if_neg oO, if_pos oO]), hB7, _, _, hkw6⟩
 | exact ⟨riE (by unfold takeE; rw [if_neg oO, if_neg oO, if_neg oO]), hB7, _, _, hkw6⟩
theorem BytesAt.keepB {B : Nat} {S : List Nat} {w w1 : World} {p : Option Addr} {l : List UInt8} (h : BytesAt w p l) (hT : KeepB B S w w1) (hp : 0 < l.length → (pA p).block < B ∧ (pA p).block ∉ S) : BytesAt w1 p l :=
 ⟨h.isp, fun j hj => by rw [World.cell?_of_block (w := w) (by rw [add_block]; exact hT.block _ (hp oO).1 (hp oO).2)]; exact h.cells j hj⟩
theorem mem_Text (bm : Nat) (f c : Int) (p : Option Addr) (l : List UInt8) (cap : Nat) (w : World) (h : Blk w bm (memC f c) 48) (hf : 0 ≤ f ∧ f ≤ 1048576) (hc : 0 ≤ c ∧ c ≤ 1048576) (hb : BytesAt w p l) (hn : l = [] → cap = 0 ∨ p ≠ none) (hl : l.length ≤ 100000) (hpb : 0 < l.length → (pA p).block ≠ bm) :
  Calls Tryz.prog 29 #[.pointer (some ⟨bm, 0, none⟩), .slice p l.length cap] w fun e w' => ∃ q, e = .returned q ∧ (∃ (v : ValV) (r : Int), q = .tuple #[.agg (valV v).toArray, .int .i64 r]) ∧ KeepB w.heap.size [bm] w w' := by
 refine W.enter func29 rfl ntmps29 (Nat.le_of_ble_eq_true rfl) ?_
 have hB0 := KeepB.refl w.heap.size ([bm]) w
 refine W.sr <| WL.alloc zeroValue53 rfl (fun b1 wb1 eb1 hkb1 hub1 hsb1 => ?_)
 have hl3 : bm < b1 := by rw [eb1]; exact h.lt
 have hk2 := h.upd hub1 (Nat.ne_of_lt hl3)
 have hvl5 := fun h0 => eb1 ▸ hb.lt h0
 have hv4 := bup hb hub1 hvl5
 have hgeb1 : w.heap.size ≤ b1 := by rw [eb1]; exact hB0.size
 have hB6 := KeepB.trans hB0 (KeepB.of_new hub1 hgeb1)
 refine WL.z rfl rfl ?_
 refine W.sr <| WL.m rfl rfl <| WL.m rfl rfl <| WL.p (.lenS underlying35 rfl) rfl <| WL.m rfl rfl <| WL.p (.lenS underlying35 rfl) rfl <| WL.p (.add rfl rfl (i64w oO)) rfl <| WL.p (.quo rfl rfl oO (i64q oO oO oO)) rfl <| WL.p (.add rfl rfl (i64w oO)) rfl <| WL.c1 hb52 rfl rfl ((mem_take bm f c _ _ _ _ hk2 hf hc oO)) (fun w7 hw7 => ?_)
 obtain ⟨hK2, f2, c2, hm2⟩ := hw7
 have hB2 := KeepB.trans hB6 (hK2.mono hB6.size)
 have hk1 := hkb1.keepB hK2 (hkb1).lt (by simp only [List.mem_singleton]; omega)
 have hv1 := BytesAt.keepB hv4 hK2 (fun h0 => ⟨(hv4).lt h0, by simpa using hpb h0⟩)
 refine WL.z rfl rfl ?_
 refine W.seq <| W.sr <| WL.m rfl rfl <| WL.p (.neq rfl rfl) rfl <| WL.nil <| ?_
 refine W.cond rfl (fun h8 => ?_) (fun h8 => ?_)
 have h8' := ndT h8
 refine W.sr <| WL.p (.buildL (ps := _) blt53 rfl rfl rfl pZ) rfl ?_
 refine WL.m rfl rfl <| WL.stL rfl rfl hk1 isz53 rfl rfl (fun w9 hkw9 huw9 hsw9 => ?_)
 have hB12 := KeepB.trans hB2 (by first | exact KeepB.of_new huw9 oO | exact KeepB.of_mem huw9 (by simp))
 refine WL.z rfl rfl ?_
 refine W.ret (W.retc2 rfl rfl (ldRow hkw9 underlying53 rfl isz53) rfl ?_)
 exact ⟨_, rfl, ⟨val0, _, rfl⟩, hB12⟩
 have h8' := ndF h8
 refine W.skip <| W.seq <| W.regY 14 rfl mixed (fun w13 dw13 => ?_)
 have hk14 := hm2.drew dw13
 have hk15 := hk1.drew dw13
 have hv16 := hv1.drew dw13
 have hB17 := KeepB.trans hB2 (KeepB.of_drew dw13)
 refine WY.tk 1 rfl (.mv rfl) rfl ?_
 refine WY.tk 3 rfl (.mv rfl) rfl ?_
 refine WY.tk 4 rfl (.nck rfl) rfl ?_
 refine WY.tk 5 rfl (.fa underlying48 rfl sizeOf3 dD rfl) rfl ?_
 refine WY.tk 9 rfl (.mv rfl) rfl ?_
 refine WY.tk 10 rfl (.lenS underlying35 rfl) rfl ?_
 refine WY.br2 0 rfl 6 rfl ?_ ?_
 refine WL.bsl0 underlying35 sizeOf5 rfl (fun b18 wb18 eb18 hob18 hub18 hsb18 => ?_)
 have hl20 : bm < b18 := by rw [eb18]; exact hk14.lt
 have hk19 := hk14.upd hub18 (Nat.ne_of_lt hl20)
 have hl22 : b1 < b18 := by rw [eb18]; exact hk15.lt
 have hk21 := hk15.upd hub18 (Nat.ne_of_lt hl22)
 have hvl24 := fun h0 => eb18 ▸ hv16.lt h0
 have hv23 := bup hv16 hub18 hvl24
 have hgeb18 : w.heap.size ≤ b18 := by rw [eb18]; exact hB17.size
 have hB25 := KeepB.trans hB17 (KeepB.of_new hub18 hgeb18)
 have hob18 := hob18 b18 (Nat.le_refl _)
 have hleb18 : b18 ≤ wb18.heap.size := by omega
 refine WL.nil <| ?_
 refine WY.br2 2 rfl 6 rfl ?_ ?_
 refine WL.appB underlying35 inf5 rfl rfl rfl hob18 rfl hv23 (by simp only [List.length_nil]; omega) (hleb18) rfl (hn) (fun v26 w27 how27 hbw27 hgw27 => ?_)
 have hk28 := hk19.below hbw27 oO
 have hk29 := hk21.below hbw27 oO
 have hB31 := KeepB.trans hB25 (KeepB.of_grown hgw27 (fun g hg => .inr (by have := (hob18).lt g hg; omega)) hB25.size)
 have hle32 := Nat.le_trans hleb18 hbw27.size
 obtain ⟨pn, cn, hvn⟩ := (how27).slice
 subst hvn
 refine WL.nil <| ?_
 refine WY.br1 6 rfl ?_
 refine WL.r (Rd.ld (isAgg3 _) rfl hk28 rfl) rfl <| WL.nil <| ?_
 refine WY.tk 7 rfl (.buildL (ps := _) blt103 rfl rfl rfl pS) rfl ?_
 refine WY.br1 8 rfl ?_
 refine WL.box rfl rfl (fun b33 wb33 eb33 hkb33 hub33 hsb33 => ?_)
 have hle35 := Nat.le_trans hle32 hub33.size
 have hl37 : bm < b33 := by rw [eb33]; exact hk28.lt
 have hl39 : b1 < b33 := by rw [eb33]; exact hk29.lt
 have hk38 := hk29.upd hub33 (Nat.ne_of_lt hl39)
 have hgeb33 : w.heap.size ≤ b33 := by rw [eb33]; exact hB31.size
 have hB42 := KeepB.trans hB31 (KeepB.of_new hub33 hgeb33)
 refine WL.nil <| ?_
 refine WY.tk 11 rfl (.buildL (ps := _) blt53 rfl rfl rfl pS) rfl ?_
 refine WY.br1 12 rfl ?_
 refine WL.stL rfl rfl hk38 isz53 rfl rfl (fun w43 hkw43 huw43 hsw43 => ?_)
 have hle45 := Nat.le_trans hle35 huw43.size
 have hB49 := KeepB.trans hB42 (by first | exact KeepB.of_new huw43 oO | exact KeepB.of_mem huw43 (by simp))
 refine WL.nil <| ?_
 refine WY.tk 13 rfl (.as rfl) rfl ?_
 refine WY.done kR ?_
 refine W.ret (W.retc2 rfl rfl (ldRow hkw43 underlying53 rfl isz53) rfl ?_)
 exact ⟨_, rfl, ⟨⟨6, false, 0, 0, [], some ⟨_, 0, none⟩, none, none, 0, _⟩, _, rfl⟩, hB49⟩
 refine WL.r (Rd.ld (isAgg3 _) rfl hk19 rfl) rfl <| WL.nil <| ?_
 refine WY.br1 2 rfl ?_
 refine WL.appB underlying35 inf5 rfl rfl rfl hob18 rfl hv23 (by simp only [List.length_nil]; omega) (hleb18) rfl (hn) (fun v50 w51 how51 hbw51 hgw51 => ?_)
 have hk52 := hk19.below hbw51 oO
 have hk53 := hk21.below hbw51 oO
 have hB55 := KeepB.trans hB25 (KeepB.of_grown hgw51 (fun g hg => .inr (by have := (hob18).lt g hg; omega)) hB25.size)
 have hle56 := Nat.le_trans hleb18 hbw51.size
 obtain ⟨pn, cn, hvn⟩ := (how51).slice
 subst hvn
 refine WL.nil <| ?_
 refine WY.tk 7 rfl (.buildL (ps := _) blt103 rfl rfl rfl pS) rfl ?_
 refine WY.br1 8 rfl ?_
 refine WL.box rfl rfl (fun b57 wb57 eb57 hkb57 hub57 hsb57 => ?_)
 have hle59 := Nat.le_trans hle56 hub57.size
 have hl61 : bm < b57 := by rw [eb57]; exact hk52.lt
 have hl63 : b1 < b57 := by rw [eb57]; exact hk53.lt
 have hk62 := hk53.upd hub57 (Nat.ne_of_lt hl63)
 have hgeb57 : w.heap.size ≤ b57 := by rw [eb57]; exact hB55.size
 have hB66 := KeepB.trans hB55 (KeepB.of_new hub57 hgeb57)
 refine WL.nil <| ?_
 refine WY.tk 11 rfl (.buildL (ps := _) blt53 rfl rfl rfl pS) rfl ?_
 refine WY.br1 12 rfl ?_
 refine WL.stL rfl rfl hk62 isz53 rfl rfl (fun w67 hkw67 huw67 hsw67 => ?_)
 have hle69 := Nat.le_trans hle59 huw67.size
 have hB73 := KeepB.trans hB66 (by first | exact KeepB.of_new huw67 oO | exact KeepB.of_mem huw67 (by simp))
 refine WL.nil <| ?_
 refine WY.tk 13 rfl (.as rfl) rfl ?_
 refine WY.done kR ?_
 refine W.ret (W.retc2 rfl rfl (ldRow hkw67 underlying53 rfl isz53) rfl ?_)
 exact ⟨_, rfl, ⟨⟨6, false, 0, 0, [], some ⟨_, 0, none⟩, none, none, 0, _⟩, _, rfl⟩, hB73⟩
 refine WL.r (Rd.ld (isAgg3 _) rfl hk14 rfl) rfl <| WL.nil <| ?_
 refine WY.br1 0 rfl ?_
 refine WL.bsl0 underlying35 sizeOf5 rfl (fun b74 wb74 eb74 hob74 hub74 hsb74 => ?_)
 have hl76 : bm < b74 := by rw [eb74]; exact hk14.lt
 have hk75 := hk14.upd hub74 (Nat.ne_of_lt hl76)
 have hl78 : b1 < b74 := by rw [eb74]; exact hk15.lt
 have hk77 := hk15.upd hub74 (Nat.ne_of_lt hl78)
 have hvl80 := fun h0 => eb74 ▸ hv16.lt h0
 have hv79 := bup hv16 hub74 hvl80
 have hgeb74 : w.heap.size ≤ b74 := by rw [eb74]; exact hB17.size
 have hB81 := KeepB.trans hB17 (KeepB.of_new hub74 hgeb74)
 have hob74 := hob74 b74 (Nat.le_refl _)
 have hleb74 : b74 ≤ wb74.heap.size := by omega
 refine WL.nil <| ?_
 refine WY.br1 2 rfl ?_
 refine WL.appB underlying35 inf5 rfl rfl rfl hob74 rfl hv79 (by simp only [List.length_nil]; omega) (hleb74) rfl (hn) (fun v82 w83 how83 hbw83 hgw83 => ?_)
 have hk84 := hk75.below hbw83 oO
 have hk85 := hk77.below hbw83 oO
 have hB87 := KeepB.trans hB81 (KeepB.of_grown hgw83 (fun g hg => .inr (by have := (hob74).lt g hg; omega)) hB81.size)
 have hle88 := Nat.le_trans hleb74 hbw83.size
 obtain ⟨pn, cn, hvn⟩ := (how83).slice
 subst hvn
 refine WL.nil <| ?_
 refine WY.tk 7 rfl (.buildL (ps := _) blt103 rfl rfl rfl pS) rfl ?_
 refine WY.br1 8 rfl ?_
 refine WL.box rfl rfl (fun b89 wb89 eb89 hkb89 hub89 hsb89 => ?_)
 have hle91 := Nat.le_trans hle88 hub89.size
 have hl93 : bm < b89 := by rw [eb89]; exact hk84.lt
 have hl95 : b1 < b89 := by rw [eb89]; exact hk85.lt
 have hk94 := hk85.upd hub89 (Nat.ne_of_lt hl95)
 have hgeb89 : w.heap.size ≤ b89 := by rw [eb89]; exact hB87.size
 have hB98 := KeepB.trans hB87 (KeepB.of_new hub89 hgeb89)
 refine WL.nil <| ?_
 refine WY.tk 11 rfl (.buildL (ps := _) blt53 rfl rfl rfl pS) rfl ?_
 refine WY.br1 12 rfl ?_
 refine WL.stL rfl rfl hk94 isz53 rfl rfl (fun w99 hkw99 huw99 hsw99 => ?_)
 have hle101 := Nat.le_trans hle91 huw99.size
 have hB105 := KeepB.trans hB98 (by first | exact KeepB.of_new huw99 oO | exact KeepB.of_mem huw99 (by simp))
 refine WL.nil <| ?_
 refine WY.tk 13 rfl (.as rfl) rfl ?_
 refine WY.done kR ?_
 refine W.ret (W.retc2 rfl rfl (ldRow hkw99 underlying53 rfl isz53) rfl ?_)
 exact ⟨_, rfl, ⟨⟨6, false, 0, 0, [], some ⟨_, 0, none⟩, none, none, 0, _⟩, _, rfl⟩, hB105⟩
theorem inf50 : (Tryz.prog.info? 50).map (fun i => (i.zero, i.size, i.bytes)) = some (some (.pointer none), 1, 8) := by kernel_rfl
theorem inf51 : (Tryz.prog.info? 51).map (fun i => (i.zero, i.size, i.bytes)) = some (some (.pointer none), 1, 8) := by kernel_rfl
theorem inf53 : (Tryz.prog.info? 53).map (fun i => (i.zero, i.size, i.bytes)) = some (some (.agg (valV val0).toArray), 10, 88) := by kernel_rfl
theorem mem_List (bm : Nat) (f c : Int) (p : Option Addr) (l : List ValV) (cap : Nat) (w : World) (h : Blk w bm (memC f c) 48) (hf : 0 ≤ f ∧ f ≤ 1048576) (hc : 0 ≤ c ∧ c ≤ 1048576) (hb : RowM valL w p l) (hn : l = [] → cap = 0 ∨ p ≠ none) (hl : l.length ≤ 1000) (hpb : 0 < l.length → (pA p).block ≠ bm) :
  Calls Tryz.prog 31 #[.pointer (some ⟨bm, 0, none⟩), .slice p l.length cap] w fun e w' => ∃ q, e = .returned q ∧ (∃ (v : ValV) (r : Int), q = .tuple #[.agg (valV v).toArray, .int .i64 r]) ∧ KeepB w.heap.size [bm] w w' := by
 refine W.enter func31 rfl ntmps31 (Nat.le_of_ble_eq_true rfl) ?_
 have hB0 := KeepB.refl w.heap.size ([bm]) w
 refine W.sr <| WL.alloc zeroValue53 rfl (fun b1 wb1 eb1 hkb1 hub1 hsb1 => ?_)
 have hl3 : bm < b1 := by rw [eb1]; exact h.lt
 have hk2 := h.upd hub1 (Nat.ne_of_lt hl3)
 have hvl5 := fun h0 => eb1 ▸ hb.lt h0
 have hv4 := RowM.upd hb hub1 (fun h0 => Nat.ne_of_lt (hvl5 h0))
 have hgeb1 : w.heap.size ≤ b1 := by rw [eb1]; exact hB0.size
 have hB6 := KeepB.trans hB0 (KeepB.of_new hub1 hgeb1)
 refine WL.z rfl rfl ?_
 refine W.sr <| WL.m rfl rfl <| WL.m rfl rfl <| WL.p (.lenS underlying86 rfl) rfl <| WL.m rfl rfl <| WL.p (.lenS underlying86 rfl) rfl <| WL.p (.add rfl rfl (i64w oO)) rfl <| WL.c1 hb52 rfl rfl ((mem_take bm f c _ _ _ _ hk2 hf hc oO)) (fun w7 hw7 => ?_)
 obtain ⟨hK2, f2, c2, hm2⟩ := hw7
 have hB2 := KeepB.trans hB6 (hK2.mono hB6.size)
 have hk1 := hkb1.keepB hK2 (hkb1).lt (by simp only [List.mem_singleton]; omega)
 have hv1 := RowM.keepB hv4 hK2 (fun h0 => ⟨(hv4).lt h0, by simpa using hpb h0⟩)
 refine WL.z rfl rfl ?_
 refine W.seq <| W.sr <| WL.m rfl rfl <| WL.p (.neq rfl rfl) rfl <| WL.nil <| ?_
 refine W.cond rfl (fun h8 => ?_) (fun h8 => ?_)
 have h8' := ndT h8
 refine W.sr <| WL.p (.buildL (ps := _) blt53 rfl rfl rfl pZ) rfl ?_
 refine WL.m rfl rfl <| WL.stL rfl rfl hk1 isz53 rfl rfl (fun w9 hkw9 huw9 hsw9 => ?_)
 have hB12 := KeepB.trans hB2 (by first | exact KeepB.of_new huw9 oO | exact KeepB.of_mem huw9 (by simp))
 refine WL.z rfl rfl ?_
 refine W.ret (W.retc2 rfl rfl (ldRow hkw9 underlying53 rfl isz53) rfl ?_)
 exact ⟨_, rfl, ⟨val0, _, rfl⟩, hB12⟩
 have h8' := ndF h8
 refine W.skip <| W.seq <| W.regY 10 rfl mixed (fun w13 dw13 => ?_)
 have hk14 := hm2.drew dw13
 have hk15 := hk1.drew dw13
 have hv16 := hv1.drew dw13
 have hB17 := KeepB.trans hB2 (KeepB.of_drew dw13)
 refine WY.tk 1 rfl (.mv rfl) rfl ?_
 refine WY.tk 3 rfl (.mv rfl) rfl ?_
 refine WY.tk 4 rfl (.nck rfl) rfl ?_
 refine WY.tk 5 rfl (.fa underlying48 rfl sizeOf3 dD rfl) rfl ?_
 refine WY.br2 0 rfl 6 rfl ?_ ?_
 refine WL.bsl0 underlying86 sizeOf53 rfl (fun b18 wb18 eb18 hob18 hub18 hsb18 => ?_)
 have hl20 : bm < b18 := by rw [eb18]; exact hk14.lt
 have hk19 := hk14.upd hub18 (Nat.ne_of_lt hl20)
 have hl22 : b1 < b18 := by rw [eb18]; exact hk15.lt
 have hk21 := hk15.upd hub18 (Nat.ne_of_lt hl22)
 have hvl24 := fun h0 => eb18 ▸ hv16.lt h0
 have hv23 := RowM.upd hv16 hub18 (fun h0 => Nat.ne_of_lt (hvl24 h0))
 have hgeb18 : w.heap.size ≤ b18 := by rw [eb18]; exact hB17.size
 have hB25 := KeepB.trans hB17 (KeepB.of_new hub18 hgeb18)
 have hob18 := OwnM.of (L := valL) (l := []) (hob18 b18 (Nat.le_refl _))
 have hleb18 : b18 ≤ wb18.heap.size := by omega
 refine WL.nil <| ?_
 refine WY.br2 2 rfl 6 rfl ?_ ?_
 refine WL.appM underlying86 inf53 rfl rfl rfl hob18 rfl hv23 (by simp only [List.length_nil]; omega) (hleb18) rfl (hn) (fun v26 w27 how27 hbw27 hgw27 hfw27 => ?_)
 have hk28 := hk19.grown hgw27 (fun e => by first | (cases e; done) | (have := (hob18).lt _ e; omega))
 have hk29 := hk21.grown hgw27 (fun e => by first | (cases e; done) | (have := (hob18).lt _ e; omega))
 have hB31 := KeepB.trans hB25 (KeepB.of_grown hgw27 (fun g hg => by first | (cases hg; done) | exact .inr (by have := (hob18).lt g hg; omega)) hB25.size)
 have hle32 := Nat.le_trans hleb18 hbw27.size
 obtain ⟨pn, cn, hvn, -⟩ := (how27).row
 subst hvn
 refine WL.nil <| ?_
 refine WY.br1 6 rfl ?_
 refine WL.r (Rd.ld (isAgg3 _) rfl hk28 rfl) rfl <| WL.nil <| ?_
 refine WY.tk 7 rfl (.buildL (ps := _) blt105 rfl rfl rfl pS) rfl ?_
 refine WY.br1 8 rfl ?_
 refine WL.box rfl rfl (fun b33 wb33 eb33 hkb33 hub33 hsb33 => ?_)
 have hle35 := Nat.le_trans hle32 hub33.size
 have ho34 := OwnM.new how27 eb33 hub33
 have hl37 : bm < b33 := by rw [eb33]; exact hk28.lt
 have hk36 := hk28.upd hub33 (Nat.ne_of_lt hl37)
 have hl39 : b1 < b33 := by rw [eb33]; exact hk29.lt
 have hk38 := hk29.upd hub33 (Nat.ne_of_lt hl39)
 have hgeb33 : w.heap.size ≤ b33 := by rw [eb33]; exact hB31.size
 have hB42 := KeepB.trans hB31 (KeepB.of_new hub33 hgeb33)
 refine WL.nil <| ?_
 refine WY.tk 9 rfl (.as rfl) rfl ?_
 refine WY.done kR ?_
 refine W.seq ?_
 have hout : OwnM ptL 50 0 wb33 (.slice none 0 0) [] := OwnM.nil _ _ _ _
 refine W.reg <| WL.m rfl rfl <| WL.m rfl rfl <| WL.p (.nck rfl) rfl <| WL.p (.fa underlying48 rfl sizeOf44 dD rfl) rfl <| WL.r (Rd.ld (isAgg44 _) rfl hk36 rfl) rfl <| WL.m rfl rfl <| WL.bsl (ps := _) underlying44 sizeOf50 zeroValue50 rfl rfl rfl rfl rfl pR rfl (fun b43 wb43 eb43 hkb43 hub43 hsb43 => ?_)
 have hle45 := Nat.le_trans hle35 hub43.size
 have ho44 := OwnM.new ho34 eb43 hub43
 have ho46 := OwnM.new hout eb43 hub43
 have hl48 : bm < b43 := by rw [eb43]; exact hk36.lt
 have hk47 := hk36.upd hub43 (Nat.ne_of_lt hl48)
 have hl50 : b1 < b43 := by rw [eb43]; exact hk38.lt
 have hk49 := hk38.upd hub43 (Nat.ne_of_lt hl50)
 have hl52 : b33 < b43 := by rw [eb43]; exact hkb33.lt
 have hgeb43 : w.heap.size ≤ b43 := by rw [eb43]; exact hB42.size
 have hB55 := KeepB.trans hB42 (KeepB.of_new hub43 hgeb43)
 have hxl := RowM.lit (L := ptL) (l := [_]) hkb43 rfl
 refine WL.appM underlying44 inf50 rfl rfl rfl ho46 rfl hxl (by simp only [List.length_cons, List.length_nil]; omega) (z_le) rfl (fun h => absurd h (List.cons_ne_nil _ _)) (fun v56 w57 how57 hbw57 hgw57 hfw57 => ?_)
 have hk58 := hk47.grown hgw57 (fun e => by first | (cases e; done) | (have := (ho44).lt _ e; omega))
 have hk59 := hk49.grown hgw57 (fun e => by first | (cases e; done) | (have := (ho44).lt _ e; omega))
 have ho61 := OwnM.same ho44 (fun g hg => hgw57.block g ((ho44).lt g hg).2 (fun hx => by first | (cases hg; done) | (cases hx; done) | (have h1 := (ho44).lt g hg; have h2 := (ho46).lt g hx.symm; omega)))
 have hle62 := Nat.le_trans hle45 hbw57.size
 have hB63 := KeepB.trans hB55 (KeepB.of_grown hgw57 (fun g hg => by first | (cases hg; done) | exact .inr (by have := (ho61).lt g hg; omega)) hB55.size)
 obtain ⟨pm, cm, hvm, -⟩ := (how57).row
 subst hvm
 refine WL.p (.nck rfl) rfl <| WL.p (.fa underlying48 rfl sizeOf44 dD rfl) rfl <| WL.st sizeOf44 rfl rfl rfl hk58 oD (fun w64 hkw64 huw64 hsw64 => ?_)
 have hkw64 : Blk w64 bm _ _ := hkw64
 have huw64 : Upd bm _ _ := huw64
 have hle66 := Nat.le_trans hle62 huw64.size
 have hk67 := hk59.up huw64
 have hB69 := KeepB.trans hB63 (by first | exact KeepB.of_new huw64 oO | exact KeepB.of_mem huw64 (by simp))
 refine WL.nil <| ?_
 refine W.sr <| WL.m rfl rfl <| WL.m rfl rfl <| WL.p (.lenS underlying86 rfl) rfl <| ?_
 refine WL.p (.buildL (ps := _) blt53 rfl rfl rfl pS) rfl ?_
 refine WL.stL rfl rfl hk67 isz53 rfl rfl (fun w70 hkw70 huw70 hsw70 => ?_)
 have hle72 := Nat.le_trans hle66 huw70.size
 have hB75 := KeepB.trans hB69 (by first | exact KeepB.of_new huw70 oO | exact KeepB.of_mem huw70 (by simp))
 refine WL.z rfl rfl ?_
 refine W.ret (W.retc2 rfl rfl (ldRow hkw70 underlying53 rfl isz53) rfl ?_)
 exact ⟨_, rfl, ⟨⟨7, false, 0, 0, [], none, some ⟨_, 0, none⟩, none, 0, _⟩, _, rfl⟩, hB75⟩
 refine WL.r (Rd.ld (isAgg3 _) rfl hk19 rfl) rfl <| WL.nil <| ?_
 refine WY.br1 2 rfl ?_
 refine WL.appM underlying86 inf53 rfl rfl rfl hob18 rfl hv23 (by simp only [List.length_nil]; omega) (hleb18) rfl (hn) (fun v76 w77 how77 hbw77 hgw77 hfw77 => ?_)
 have hk78 := hk19.grown hgw77 (fun e => by first | (cases e; done) | (have := (hob18).lt _ e; omega))
 have hk79 := hk21.grown hgw77 (fun e => by first | (cases e; done) | (have := (hob18).lt _ e; omega))
 have hB81 := KeepB.trans hB25 (KeepB.of_grown hgw77 (fun g hg => by first | (cases hg; done) | exact .inr (by have := (hob18).lt g hg; omega)) hB25.size)
 have hle82 := Nat.le_trans hleb18 hbw77.size
 obtain ⟨pn, cn, hvn, -⟩ := (how77).row
 subst hvn
 refine WL.nil <| ?_
 refine WY.tk 7 rfl (.buildL (ps := _) blt105 rfl rfl rfl pS) rfl ?_
 refine WY.br1 8 rfl ?_
 refine WL.box rfl rfl (fun b83 wb83 eb83 hkb83 hub83 hsb83 => ?_)
 have hle85 := Nat.le_trans hle82 hub83.size
 have ho84 := OwnM.new how77 eb83 hub83
 have hl87 : bm < b83 := by rw [eb83]; exact hk78.lt
 have hk86 := hk78.upd hub83 (Nat.ne_of_lt hl87)
 have hl89 : b1 < b83 := by rw [eb83]; exact hk79.lt
 have hk88 := hk79.upd hub83 (Nat.ne_of_lt hl89)
 have hgeb83 : w.heap.size ≤ b83 := by rw [eb83]; exact hB81.size
 have hB92 := KeepB.trans hB81 (KeepB.of_new hub83 hgeb83)
 refine WL.nil <| ?_
 refine WY.tk 9 rfl (.as rfl) rfl ?_
 refine WY.done kR ?_
 refine W.seq ?_
 have hout : OwnM ptL 50 0 wb83 (.slice none 0 0) [] := OwnM.nil _ _ _ _
 refine W.reg <| WL.m rfl rfl <| WL.m rfl rfl <| WL.p (.nck rfl) rfl <| WL.p (.fa underlying48 rfl sizeOf44 dD rfl) rfl <| WL.r (Rd.ld (isAgg44 _) rfl hk86 rfl) rfl <| WL.m rfl rfl <| WL.bsl (ps := _) underlying44 sizeOf50 zeroValue50 rfl rfl rfl rfl rfl pR rfl (fun b93 wb93 eb93 hkb93 hub93 hsb93 => ?_)
 have hle95 := Nat.le_trans hle85 hub93.size
 have ho94 := OwnM.new ho84 eb93 hub93
 have ho96 := OwnM.new hout eb93 hub93
 have hl98 : bm < b93 := by rw [eb93]; exact hk86.lt
 have hk97 := hk86.upd hub93 (Nat.ne_of_lt hl98)
 have hl100 : b1 < b93 := by rw [eb93]; exact hk88.lt
 have hk99 := hk88.upd hub93 (Nat.ne_of_lt hl100)
 have hl102 : b83 < b93 := by rw [eb93]; exact hkb83.lt
 have hgeb93 : w.heap.size ≤ b93 := by rw [eb93]; exact hB92.size
 have hB105 := KeepB.trans hB92 (KeepB.of_new hub93 hgeb93)
 have hxl := RowM.lit (L := ptL) (l := [_]) hkb93 rfl
 refine WL.appM underlying44 inf50 rfl rfl rfl ho96 rfl hxl (by simp only [List.length_cons, List.length_nil]; omega) (z_le) rfl (fun h => absurd h (List.cons_ne_nil _ _)) (fun v106 w107 how107 hbw107 hgw107 hfw107 => ?_)
 have hk108 := hk97.grown hgw107 (fun e => by first | (cases e; done) | (have := (ho94).lt _ e; omega))
 have hk109 := hk99.grown hgw107 (fun e => by first | (cases e; done) | (have := (ho94).lt _ e; omega))
 have ho111 := OwnM.same ho94 (fun g hg => hgw107.block g ((ho94).lt g hg).2 (fun hx => by first | (cases hg; done) | (cases hx; done) | (have h1 := (ho94).lt g hg; have h2 := (ho96).lt g hx.symm; omega)))
 have hle112 := Nat.le_trans hle95 hbw107.size
 have hB113 := KeepB.trans hB105 (KeepB.of_grown hgw107 (fun g hg => by first | (cases hg; done) | exact .inr (by have := (ho111).lt g hg; omega)) hB105.size)
 obtain ⟨pm, cm, hvm, -⟩ := (how107).row
 subst hvm
 refine WL.p (.nck rfl) rfl <| WL.p (.fa underlying48 rfl sizeOf44 dD rfl) rfl <| WL.st sizeOf44 rfl rfl rfl hk108 oD (fun w114 hkw114 huw114 hsw114 => ?_)
 have hkw114 : Blk w114 bm _ _ := hkw114
 have huw114 : Upd bm _ _ := huw114
 have hle116 := Nat.le_trans hle112 huw114.size
 have hk117 := hk109.up huw114
 have hB119 := KeepB.trans hB113 (by first | exact KeepB.of_new huw114 oO | exact KeepB.of_mem huw114 (by simp))
 refine WL.nil <| ?_
 refine W.sr <| WL.m rfl rfl <| WL.m rfl rfl <| WL.p (.lenS underlying86 rfl) rfl <| ?_
 refine WL.p (.buildL (ps := _) blt53 rfl rfl rfl pS) rfl ?_
 refine WL.stL rfl rfl hk117 isz53 rfl rfl (fun w120 hkw120 huw120 hsw120 => ?_)
 have hle122 := Nat.le_trans hle116 huw120.size
 have hB125 := KeepB.trans hB119 (by first | exact KeepB.of_new huw120 oO | exact KeepB.of_mem huw120 (by simp))
 refine WL.z rfl rfl ?_
 refine W.ret (W.retc2 rfl rfl (ldRow hkw120 underlying53 rfl isz53) rfl ?_)
 exact ⟨_, rfl, ⟨⟨7, false, 0, 0, [], none, some ⟨_, 0, none⟩, none, 0, _⟩, _, rfl⟩, hB125⟩
 refine WL.r (Rd.ld (isAgg3 _) rfl hk14 rfl) rfl <| WL.nil <| ?_
 refine WY.br1 0 rfl ?_
 refine WL.bsl0 underlying86 sizeOf53 rfl (fun b126 wb126 eb126 hob126 hub126 hsb126 => ?_)
 have hl128 : bm < b126 := by rw [eb126]; exact hk14.lt
 have hk127 := hk14.upd hub126 (Nat.ne_of_lt hl128)
 have hl130 : b1 < b126 := by rw [eb126]; exact hk15.lt
 have hk129 := hk15.upd hub126 (Nat.ne_of_lt hl130)
 have hvl132 := fun h0 => eb126 ▸ hv16.lt h0
 have hv131 := RowM.upd hv16 hub126 (fun h0 => Nat.ne_of_lt (hvl132 h0))
 have hgeb126 : w.heap.size ≤ b126 := by rw [eb126]; exact hB17.size
 have hB133 := KeepB.trans hB17 (KeepB.of_new hub126 hgeb126)
 have hob126 := OwnM.of (L := valL) (l := []) (hob126 b126 (Nat.le_refl _))
 have hleb126 : b126 ≤ wb126.heap.size := by omega
 refine WL.nil <| ?_
 refine WY.br1 2 rfl ?_
 refine WL.appM underlying86 inf53 rfl rfl rfl hob126 rfl hv131 (by simp only [List.length_nil]; omega) (hleb126) rfl (hn) (fun v134 w135 how135 hbw135 hgw135 hfw135 => ?_)
 have hk136 := hk127.grown hgw135 (fun e => by first | (cases e; done) | (have := (hob126).lt _ e; omega))
 have hk137 := hk129.grown hgw135 (fun e => by first | (cases e; done) | (have := (hob126).lt _ e; omega))
 have hB139 := KeepB.trans hB133 (KeepB.of_grown hgw135 (fun g hg => by first | (cases hg; done) | exact .inr (by have := (hob126).lt g hg; omega)) hB133.size)
 have hle140 := Nat.le_trans hleb126 hbw135.size
 obtain ⟨pn, cn, hvn, -⟩ := (how135).row
 subst hvn
 refine WL.nil <| ?_
 refine WY.tk 7 rfl (.buildL (ps := _) blt105 rfl rfl rfl pS) rfl ?_
 refine WY.br1 8 rfl ?_
 refine WL.box rfl rfl (fun b141 wb141 eb141 hkb141 hub141 hsb141 => ?_)
 have hle143 := Nat.le_trans hle140 hub141.size
 have ho142 := OwnM.new how135 eb141 hub141
 have hl145 : bm < b141 := by rw [eb141]; exact hk136.lt
 have hk144 := hk136.upd hub141 (Nat.ne_of_lt hl145)
 have hl147 : b1 < b141 := by rw [eb141]; exact hk137.lt
 have hk146 := hk137.upd hub141 (Nat.ne_of_lt hl147)
 have hgeb141 : w.heap.size ≤ b141 := by rw [eb141]; exact hB139.size
 have hB150 := KeepB.trans hB139 (KeepB.of_new hub141 hgeb141)
 refine WL.nil <| ?_
 refine WY.tk 9 rfl (.as rfl) rfl ?_
 refine WY.done kR ?_
 refine W.seq ?_
 have hout : OwnM ptL 50 0 wb141 (.slice none 0 0) [] := OwnM.nil _ _ _ _
 refine W.reg <| WL.m rfl rfl <| WL.m rfl rfl <| WL.p (.nck rfl) rfl <| WL.p (.fa underlying48 rfl sizeOf44 dD rfl) rfl <| WL.r (Rd.ld (isAgg44 _) rfl hk144 rfl) rfl <| WL.m rfl rfl <| WL.bsl (ps := _) underlying44 sizeOf50 zeroValue50 rfl rfl rfl rfl rfl pR rfl (fun b151 wb151 eb151 hkb151 hub151 hsb151 => ?_)
 have hle153 := Nat.le_trans hle143 hub151.size
 have ho152 := OwnM.new ho142 eb151 hub151
 have ho154 := OwnM.new hout eb151 hub151
 have hl156 : bm < b151 := by rw [eb151]; exact hk144.lt
 have hk155 := hk144.upd hub151 (Nat.ne_of_lt hl156)
 have hl158 : b1 < b151 := by rw [eb151]; exact hk146.lt
 have hk157 := hk146.upd hub151 (Nat.ne_of_lt hl158)
 have hl160 : b141 < b151 := by rw [eb151]; exact hkb141.lt
 have hgeb151 : w.heap.size ≤ b151 := by rw [eb151]; exact hB150.size
 have hB163 := KeepB.trans hB150 (KeepB.of_new hub151 hgeb151)
 have hxl := RowM.lit (L := ptL) (l := [_]) hkb151 rfl
 refine WL.appM underlying44 inf50 rfl rfl rfl ho154 rfl hxl (by simp only [List.length_cons, List.length_nil]; omega) (z_le) rfl (fun h => absurd h (List.cons_ne_nil _ _)) (fun v164 w165 how165 hbw165 hgw165 hfw165 => ?_)
 have hk166 := hk155.grown hgw165 (fun e => by first | (cases e; done) | (have := (ho152).lt _ e; omega))
 have hk167 := hk157.grown hgw165 (fun e => by first | (cases e; done) | (have := (ho152).lt _ e; omega))
 have ho169 := OwnM.same ho152 (fun g hg => hgw165.block g ((ho152).lt g hg).2 (fun hx => by first | (cases hg; done) | (cases hx; done) | (have h1 := (ho152).lt g hg; have h2 := (ho154).lt g hx.symm; omega)))
 have hle170 := Nat.le_trans hle153 hbw165.size
 have hB171 := KeepB.trans hB163 (KeepB.of_grown hgw165 (fun g hg => by first | (cases hg; done) | exact .inr (by have := (ho169).lt g hg; omega)) hB163.size)
 obtain ⟨pm, cm, hvm, -⟩ := (how165).row
 subst hvm
 refine WL.p (.nck rfl) rfl <| WL.p (.fa underlying48 rfl sizeOf44 dD rfl) rfl <| WL.st sizeOf44 rfl rfl rfl hk166 oD (fun w172 hkw172 huw172 hsw172 => ?_)
 have hkw172 : Blk w172 bm _ _ := hkw172
 have huw172 : Upd bm _ _ := huw172
 have hle174 := Nat.le_trans hle170 huw172.size
 have hk175 := hk167.up huw172
 have hB177 := KeepB.trans hB171 (by first | exact KeepB.of_new huw172 oO | exact KeepB.of_mem huw172 (by simp))
 refine WL.nil <| ?_
 refine W.sr <| WL.m rfl rfl <| WL.m rfl rfl <| WL.p (.lenS underlying86 rfl) rfl <| ?_
 refine WL.p (.buildL (ps := _) blt53 rfl rfl rfl pS) rfl ?_
 refine WL.stL rfl rfl hk175 isz53 rfl rfl (fun w178 hkw178 huw178 hsw178 => ?_)
 have hle180 := Nat.le_trans hle174 huw178.size
 have hB183 := KeepB.trans hB177 (by first | exact KeepB.of_new huw178 oO | exact KeepB.of_mem huw178 (by simp))
 refine WL.z rfl rfl ?_
 refine W.ret (W.retc2 rfl rfl (ldRow hkw178 underlying53 rfl isz53) rfl ?_)
 exact ⟨_, rfl, ⟨⟨7, false, 0, 0, [], none, some ⟨_, 0, none⟩, none, 0, _⟩, _, rfl⟩, hB183⟩
theorem mem_List' (bm : Nat) (f c : Int) (p : Option Addr) (l : List ValV) (n cap : Nat) (w : World) (hln : l.length = n) (h : Blk w bm (memC f c) 48) (hf : 0 ≤ f ∧ f ≤ 1048576) (hc : 0 ≤ c ∧ c ≤ 1048576) (hb : RowM valL w p l) (hn : l = [] → cap = 0 ∨ p ≠ none) (hl : n ≤ 1000) (hpb : 0 < n → (pA p).block ≠ bm) :
  Calls Tryz.prog 31 #[.pointer (some ⟨bm, 0, none⟩), .slice p n cap] w fun e w' => ∃ q, e = .returned q ∧ (∃ (v : ValV) (r : Int), q = .tuple #[.agg (valV v).toArray, .int .i64 r]) ∧ KeepB w.heap.size [bm] w w' := by
 subst hln; exact mem_List bm f c p l cap w h hf hc hb hn hl hpb
theorem mem_Dict (bm : Nat) (f c n : Int) (w : World) (h : Blk w bm (memC f c) 48) (hf : 0 ≤ f ∧ f ≤ 1048576) (hc : 0 ≤ c ∧ c ≤ 1048576) (hn : 0 ≤ n ∧ n ≤ 1000) (hz : takeE n 4096 (1 + 2 * n) f = 0) :
  Calls Tryz.prog 33 #[.pointer (some ⟨bm, 0, none⟩), .int .i64 n] w fun e w' => ∃ q, e = .returned q ∧ (∃ bd s1 s2 m a o, q = .tuple #[.agg (valV ⟨8, false, 0, 0, [], none, none, some ⟨bd, 0, none⟩, 0, 0⟩).toArray, .int .i64 0] ∧ w.heap.size ≤ bd ∧ Blk w' bd #[s1, s2, .int .i64 m, .int .i64 a, .int .i64 o] 90) ∧ KeepB w.heap.size [bm] w w' := by
 refine W.enter func33 rfl ntmps33 (Nat.le_of_ble_eq_true rfl) ?_
 have hB0 := KeepB.refl w.heap.size ([bm]) w
 refine W.sr <| WL.alloc zeroValue53 rfl (fun b1 wb1 eb1 hkb1 hub1 hsb1 => ?_)
 have hl3 : bm < b1 := by rw [eb1]; exact h.lt
 have hk2 := h.upd hub1 (Nat.ne_of_lt hl3)
 have hgeb1 : w.heap.size ≤ b1 := by rw [eb1]; exact hB0.size
 have hB4 := KeepB.trans hB0 (KeepB.of_new hub1 hgeb1)
 refine WL.z rfl rfl ?_
 refine W.seq <| W.sr <| WL.m rfl rfl <| WL.p (.bis (false) (.gtr rfl rfl) (by simp; omega)) rfl <| WL.nil <| ?_
 refine W.condF rfl rfl ?_
 refine W.skip <| W.sr <| WL.m rfl rfl <| WL.m rfl rfl <| WL.m rfl rfl <| WL.p (.mul rfl rfl (i64w oO)) rfl <| WL.p (.add rfl rfl (i64w oO)) rfl <| WL.c1 hb52 rfl rfl ((mem_take bm f c _ _ _ _ hk2 hf hc oO)) (fun w5 hw5 => ?_)
 obtain ⟨hK2, f2, c2, hm2⟩ := hw5
 have hB2 := KeepB.trans hB4 (hK2.mono hB4.size)
 have hk1 := hkb1.keepB hK2 (hkb1).lt (by simp only [List.mem_singleton]; omega)
 refine WL.z rfl rfl ?_
 refine W.seq <| W.sr <| WL.m rfl rfl <| WL.p (.neq rfl rfl) rfl <| WL.nil <| ?_
 refine W.cond rfl (fun h6 => ?_) (fun h6 => ?_)
 have h6' := ndT h6
 refine W.sr <| WL.p (.buildL (ps := _) blt53 rfl rfl rfl pZ) rfl ?_
 refine WL.m rfl rfl <| WL.stL rfl rfl hk1 isz53 rfl rfl (fun w7 hkw7 huw7 hsw7 => ?_)
 refine WL.z rfl rfl ?_
 refine W.ret (W.retc2 rfl rfl (ldRow hkw7 underlying53 rfl isz53) rfl ?_)
 exact absurd hz aS
 have h6' := ndF h6
 refine W.skip <| W.sr <| WL.m rfl rfl <| WL.m rfl rfl <| WL.p (.nck rfl) rfl <| WL.p (.fa underlying48 rfl sizeOf3 dD rfl) rfl <| WL.r (Rd.ld (isAgg3 _) rfl hm2 rfl) rfl <| ?_
 refine WL.p (.buildL (ps := _) blt90 rfl rfl rfl pS) rfl ?_
 refine WL.box rfl rfl (fun b10 wb10 eb10 hkb10 hub10 hsb10 => ?_)
 have hl12 : bm < b10 := by rw [eb10]; exact hm2.lt
 have hk11 := hm2.upd hub10 (Nat.ne_of_lt hl12)
 have hl14 : b1 < b10 := by rw [eb10]; exact hk1.lt
 have hk13 := hk1.upd hub10 (Nat.ne_of_lt hl14)
 have hgeb10 : w.heap.size ≤ b10 := by rw [eb10]; exact hB2.size
 have hB15 := KeepB.trans hB2 (KeepB.of_new hub10 hgeb10)
 refine WL.z rfl rfl ?_
 refine W.seq ?_
 have hout : OwnM ptL 51 0 wb10 (.slice none 0 0) [] := OwnM.nil _ _ _ _
 refine W.reg <| WL.m rfl rfl <| WL.m rfl rfl <| WL.p (.nck rfl) rfl <| WL.p (.fa underlying48 rfl sizeOf45 dD rfl) rfl <| WL.r (Rd.ld (isAgg45 _) rfl hk11 rfl) rfl <| WL.m rfl rfl <| WL.bsl (ps := _) underlying45 sizeOf51 zeroValue51 rfl rfl rfl rfl rfl pR rfl (fun b16 wb16 eb16 hkb16 hub16 hsb16 => ?_)
 have ho17 := OwnM.new hout eb16 hub16
 have hl19 : bm < b16 := by rw [eb16]; exact hk11.lt
 have hk18 := hk11.upd hub16 (Nat.ne_of_lt hl19)
 have hl21 : b1 < b16 := by rw [eb16]; exact hk13.lt
 have hk20 := hk13.upd hub16 (Nat.ne_of_lt hl21)
 have hl23 : b10 < b16 := by rw [eb16]; exact hkb10.lt
 have hk22 := hkb10.upd hub16 (Nat.ne_of_lt hl23)
 have hgeb16 : w.heap.size ≤ b16 := by rw [eb16]; exact hB15.size
 have hB24 := KeepB.trans hB15 (KeepB.of_new hub16 hgeb16)
 have hxl := RowM.lit (L := ptL) (l := [_]) hkb16 rfl
 refine WL.appM underlying45 inf51 rfl rfl rfl ho17 rfl hxl (by simp only [List.length_cons, List.length_nil]; omega) (z_le) rfl (fun h => absurd h (List.cons_ne_nil _ _)) (fun v25 w26 how26 hbw26 hgw26 hfw26 => ?_)
 have hk27 := hk18.grown hgw26 (fun e => by cases e)
 have hk28 := hk20.grown hgw26 (fun e => by cases e)
 have hk29 := hk22.grown hgw26 (fun e => by cases e)
 have hB30 := KeepB.trans hB24 (KeepB.of_grown hgw26 (fun g hg => by cases hg) hB24.size)
 obtain ⟨pm, cm, hvm, -⟩ := (how26).row
 subst hvm
 refine WL.p (.nck rfl) rfl <| WL.p (.fa underlying48 rfl sizeOf45 dD rfl) rfl <| WL.st sizeOf45 rfl rfl rfl hk27 oD (fun w31 hkw31 huw31 hsw31 => ?_)
 have hkw31 : Blk w31 bm _ _ := hkw31
 have huw31 : Upd bm _ _ := huw31
 have hk32 := hk28.up huw31
 have hk33 := hk29.up huw31
 have hB34 := KeepB.trans hB30 (by first | exact KeepB.of_new huw31 oO | exact KeepB.of_mem huw31 (by simp))
 refine WL.nil <| ?_
 refine W.sr <| WL.m rfl rfl <| ?_
 refine WL.p (.buildL (ps := _) blt53 rfl rfl rfl pS) rfl ?_
 refine WL.stL rfl rfl hk32 isz53 rfl rfl (fun w35 hkw35 huw35 hsw35 => ?_)
 have hk37 := hk33.up huw35
 have hB38 := KeepB.trans hB34 (by first | exact KeepB.of_new huw35 oO | exact KeepB.of_mem huw35 (by simp))
 refine WL.z rfl rfl ?_
 refine W.ret (W.retc2 rfl rfl (ldRow hkw35 underlying53 rfl isz53) rfl ?_)
 exact ⟨_, rfl, ⟨b10, _, _, _, _, _, rfl, by omega, hk37⟩, hB38⟩
end
end Go.Proofs.YtopnfojdmeageaaGreatDoor
