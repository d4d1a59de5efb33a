/-
  The law PreadApart, in its second form: a file does not change where what was written, or what is read, is changed. Condition: the row's own, that what is read is of bulk at most 1048576.
-/
import Derived.Test.YthljhjcndpnleaaGreatDoorPa5
namespace Go.Proofs.YthljhjcndpnleaaGreatDoor
open Go.RowKit
open Go.Proofs.Tryz
section
/-- bytes as elements -/
def bvL : Lay UInt8 := ⟨1, fun b => [.int .u8 (b.toNat : Int)], by decide, fun _ => rfl, fun x u hu => by simp only [List.mem_singleton] at hu; subst hu; rfl⟩
theorem bvL_flat (l : List UInt8) : bvL.flat l = byteVals l := by
 unfold Lay.flat byteVals
 induction l with
 | nil => rfl
 | cons a r ih => rw [List.flatMap_cons, ih]; rfl
theorem Own.bv {e : TypeId} {B : Nat} {w : World} {v : Value} {l : List UInt8} (h : Own e B w v (byteVals l)) : OwnM bvL e B w v l := by
 have hl : (byteVals l).length = l.length := by simp [byteVals]
 refine OwnM.of ?_
 rw [bvL_flat, ← hl]; exact h
theorem own_sep {α β : Type} {L : Lay α} {L' : Lay β} {e e' : TypeId} {B B' : Nat} {w : World} {v v' : Value} {l : List α} {l' : List β} (h : OwnM L e B w v l) (h' : OwnM L' e' B' w v' l') (he : e ≠ e') : ∀ g, v.ownBlock = some g → v'.ownBlock ≠ some g := fun g hg hg' => by
 rcases h with ⟨rfl, -⟩ | ⟨g1, cap, cur, rfl, -, h1, -⟩
 ·
  cases hg
 ·
  rcases h' with ⟨rfl, -⟩ | ⟨g2, cap', cur', rfl, -, h2, -⟩
  ·
   cases hg'
  ·
   cases hg; cases hg'
   rw [h1] at h2
   simp only [Option.some.injEq, Obj.cells.injEq] at h2
   exact he h2.2.1
theorem Own.bvAt {L : Lay UInt8} {w : World} {p : Option Addr} {l : List UInt8} (hL : L = bvL) (h : RowM L w p l) : BytesAt w p l := by
 subst hL
 exact ⟨h.isp, fun j hj => by have := h.cells j hj 0 dD; simpa [bvL] using this⟩
theorem ATop.rows {w : World} {S : Nat → Prop} {B : Nat} {z : AC} {o : AV} (h : ATop w S z o) (hS : ∀ k, S k → B ≤ k) : ∃ ks cs d, OwnM strL 9 B w (.slice z.kp z.kl z.kc) ks ∧ OwnM acL 28 B w (.slice z.lp z.ll z.lc) cs ∧ OwnM bvL 5 B w (.slice z.dp z.dl z.dc) d ∧ z.kl = ks.length ∧ z.ll = cs.length ∧ z.dl = d.length ∧ z.kl = o.keys.length ∧ z.ll = o.list.length := by
 obtain ⟨hr, ⟨ks, hk⟩, ⟨cs, hl⟩, ⟨d, hd⟩⟩ := h
 obtain ⟨keys, list, data, cs', ho, ok, -, -, -, -, -, -, -, hcl, -⟩ := hr.inv
 have hk' := hk.1.base (C := B) (fun g hg => hS g (hk.2 g hg))
 have hl' := hl.1.base (C := B) (fun g hg => hS g (hl.2 g hg))
 have hd' := (Own.bv hd.1).base (C := B) (fun g hg => hS g (hd.2 g hg))
 refine ⟨ks, cs, d, hk', hl', hd', hk'.full.1, hl'.full.1, hd'.full.1, ?_, ?_⟩
 ·
  rw [ho]; exact ok.kl
 ·
  rw [ho]; exact ok.ll.trans hcl
/-- what the trailer has -/
theorem r18_GetRoot (x : AC) (S : Nat → Prop) (K : Nat) (w : World) (h : ARep w S x (trA K)) :
  Calls Tryz.prog 15 #[.agg (acV x).toArray, .string (bs kRoot)] w fun e w' => ∃ z : { z : AC // z.n = 1 }, e = .returned (.tuple #[.agg (acV z.1).toArray, .bool true]) ∧ Below w.heap.size w w' := by
 obtain ⟨keys, list, data, cs, ho, ok, hkl, hk, hks, hr, hrs, hd, hds, hcl, hsub⟩ := h.inv
 unfold trA at ho
 simp only [AV.mk.injEq] at ho
 obtain ⟨hkd, -, -, rfl, rfl, rfl⟩ := ho
 have e1 := ok.kl; have e2 := ok.ll
 simp only [List.length_cons, List.length_nil] at hcl e1
 have hz := (hsub 0 oO (by simp)).nE
 have hz1 : (cs[0]'oO).n = 1 := hz.symm
 obtain ⟨k, i, s, kp, kl, kc, lp, ll, lc, dp, dl, dc⟩ := x
 simp only at e1 e2 hk hr hkd
 subst e1 e2 hkd
 simp only [acV]
 have hk2 : ([kRoot, kSize] : List (List UInt8)).length = 2 := rfl
 refine W.enter func15 rfl ntmps15 (Nat.le_of_ble_eq_true rfl) ?_
 have hB0 := Below.refl (w.heap.size) w
 refine W.sr <| WL.box rfl rfl (fun b1 wb1 eb1 hkb1 hub1 hsb1 => ?_)
 have hvl3 := fun h0 => eb1 ▸ hr.lt h0
 have hv2 := RowM.upd hr hub1 (fun h0 => Nat.ne_of_lt (hvl3 h0))
 have hvl5 := fun h0 => eb1 ▸ hk.lt h0
 have hv4 := RowAt.upd hk hub1 (fun h0 => Nat.ne_of_lt (hvl5 h0))
 have hB6 := Upd.below hB0 (by rw [eb1]; exact hB0.size) hub1
 have hgeb1 : w.heap.size ≤ b1 := by rw [eb1]; exact hB0.size
 refine WL.alloc zeroValue28 rfl (fun b7 wb7 eb7 hkb7 hub7 hsb7 => ?_)
 have hl9 : b1 < b7 := by rw [eb7]; exact hkb1.lt
 have hk8 := hkb1.upd hub7 (Nat.ne_of_lt hl9)
 have hvl11 := fun h0 => eb7 ▸ hv2.lt h0
 have hv10 := RowM.upd hv2 hub7 (fun h0 => Nat.ne_of_lt (hvl11 h0))
 have hvl13 := fun h0 => eb7 ▸ hv4.lt h0
 have hv12 := RowAt.upd hv4 hub7 (fun h0 => Nat.ne_of_lt (hvl13 h0))
 have hB14 := Upd.below hB6 (by rw [eb7]; exact hB6.size) hub7
 have hgeb7 : w.heap.size ≤ b7 := by rw [eb7]; exact hB6.size
 refine WL.z rfl rfl ?_
 refine W.seq <| W.sr <| WL.p (.fa underlying28 rfl sizeOf3 dD rfl) rfl <| WL.r (Rd.ld (isAgg3 _) rfl hk8 rfl) rfl <| WL.p (.bis (true) (.eql rfl rfl) dD) rfl <| WL.m rfl rfl <| WL.gn rfl rfl rfl rfl <| WL.gn rfl rfl rfl rfl <| WL.gn rfl rfl rfl rfl <| WL.p (.pkT rfl rfl rfl) rfl <| WL.nil <| ?_
 refine W.condT rfl rfl ?_
 refine W.sr <| WL.z rfl rfl ?_
 refine W.block ?_
 refine W.loop (α := Unit) (fun t => [(1, .string (bs kRoot)), (2, .pointer (some ⟨b1, 0, none⟩)), (4, .pointer (some ⟨b7, 0, none⟩)), (6, .int .i64 0)]) (fun t w' => wb7 = w') (fun t => 0) (()) ⟨rfl, rfl, rfl, rfl, trivial⟩ (rfl) (fun t w1 hR => ?_)
 obtain rfl := hR
 refine W.seq <| W.sr <| WL.m rfl rfl <| WL.p (.fa underlying28 rfl sizeOf25 dD rfl) rfl <| WL.r (Rd.ld (isAgg25 _) rfl hk8 rfl) rfl <| WL.p (.lenS underlying25 rfl) rfl <| WL.p (.bis (true) (.lss rfl rfl) dD) rfl <| WL.m rfl rfl <| WL.gy rfl rfl rfl rfl <| WL.m rfl rfl <| WL.gy rfl rfl rfl rfl <| WL.p (.fa underlying28 rfl sizeOf22 dD rfl) rfl <| WL.gy rfl rfl rfl rfl <| WL.r (Rd.ld (isAgg22 _) rfl hk8 rfl) rfl <| WL.gy rfl rfl rfl rfl <| WL.p (.lenS underlying22 rfl) rfl <| WL.gy rfl rfl rfl rfl <| WL.p (.bis (true) (.lss rfl rfl) (by exact decide_eq_true oO)) rfl <| WL.p (.pkT rfl rfl rfl) rfl <| WL.nil <| ?_
 refine W.condT rfl rfl ?_
 refine W.skip <| W.seq <| W.block <| W.sr <| WL.p (.fa underlying28 rfl sizeOf25 dD rfl) rfl <| WL.r (Rd.ld (isAgg25 _) rfl hk8 rfl) rfl <| WL.m rfl rfl <| WL.p (.ixb underlying25 sizeOf9 rfl rfl (hv12.isp oO) (0) (rfl) (dD)) rfl <| WL.r (Rd.ldc (isAgg9 _) rfl (hv12.cells (0) (dD))) rfl <| WL.m rfl rfl <| WL.p (.bis (true) (.eqs rfl rfl) dD) rfl <| WL.nil <| ?_
 refine W.condT rfl rfl ?_
 refine W.sr <| WL.p (.fa underlying28 rfl sizeOf22 dD rfl) rfl <| WL.r (Rd.ld (isAgg22 _) rfl hk8 rfl) rfl <| WL.m rfl rfl <| WL.p (.ixm underlying22 sizeOf28 rfl rfl (hv10.isp (by first | omega | (simp only [List.length_cons, List.length_nil]; omega))) (0) (rfl) (by show 0 < cs.length; omega)) rfl <| WL.r (Rd.ldS underlying28 rfl isz28 hv10 (0) (by first | omega | (simp only [List.length_cons, List.length_nil]; omega)) rfl) rfl <| WL.stL rfl rfl hkb7 isz28 rfl rfl (fun w15 hkw15 huw15 hsw15 => ?_)
 have hB19 := Upd.below hB14 oO huw15
 refine WL.z rfl rfl ?_
 refine W.ret (W.retc2 rfl rfl (ldRow hkw15 underlying28 rfl isz28) rfl ?_)
 exact ⟨⟨_, hz1⟩, rfl, hB19⟩
theorem u8_add1 (b : UInt8) : IntKind.u8.wrap ((b.toNat : Int) + 1) = ((b + 1 : UInt8).toNat : Int) := by
 rw [IntKind.wrap_u8', UInt8.toNat_add]; simp
theorem law_PreadApart (lp : Option Addr) (ys : List AC) (os : List AV) (lc : Nat) (n : Int) (w : World) (hr : RowM acL w lp ys) (hc : ys.length ≤ lc) (hA : AInv w (· < w.heap.size) ys os) (hbk : bkL os ≤ 1048576) (_hwf : (Lit.int .i64 n).wf = true) :
  Calls Tryz.prog 5 #[.slice lp ys.length lc, .int .i64 n] w fun e w' => e = .returned (.bool true) ∧ Below w.heap.size w w' := by
 have hlen := hA.len
 have hrlt := hr.lt
 refine W.enter func5 rfl ntmps5 (Nat.le_of_ble_eq_true rfl) ?_
 have hB0 := Below.refl (w.heap.size) w
 refine W.sr <| WL.z rfl rfl ?_
 refine W.seq <| W.sr <| WL.c1 hb6 rfl rfl ((law23_answers _)) (fun w1 hw1 => ?_)
 have hF2 := AInv.same (w1 := w1) hA (fun k hk hl => hw1.block k hl)
 have hv3 := RowM.below hr hw1 (fun h0 => hr.lt h0)
 have hB4 := btr hB0 hw1
 refine WL.p (.not rfl) rfl <| WL.m rfl rfl <| WL.gy rfl rfl rfl rfl <| WL.m rfl rfl <| WL.gy rfl rfl rfl rfl <| WL.p (.lenS underlying22 rfl) rfl <| WL.gy rfl rfl rfl rfl <| WL.p (.gtr rfl rfl) rfl <| WL.p (.pkF rfl rfl rfl) rfl <| WL.nil <| ?_
 refine W.cond rfl (fun h5 => ?_) (fun h5 => ?_)
 have h5' := dT h5
 refine W.sr <| WL.c1 hb6 rfl rfl ((law23_answers _)) (fun w6 hw6 => ?_)
 have hB9 := btr hB4 hw6
 refine WL.z rfl rfl ?_
 refine W.ret (W.ret1 rfl rfl ?_)
 first | exact ⟨rfl, hB9⟩ | contradiction
 have h5' := dF h5
 refine W.skip <| W.seq <| W.sr <| WL.z rfl rfl ?_
 refine W.block ?_
 refine W.loop (α := Nat) (fun t => [(0, .slice lp ys.length lc), (1, .int .i64 n), (5, .int .i64 (t : Int))]) (fun t w' => Below w.heap.size w w' ∧ RowM acL w' lp ys ∧ AInv w' (· < w.heap.size) ys os ∧ (∀ o ∈ os.take t, o.list.length ≤ 100) ∧ t ≤ ys.length) (fun t => ys.length - t) (0) ⟨rfl, rfl, rfl, trivial⟩ (⟨hB4, hv3, hF2, fun o h => by simp at h, Nat.zero_le _⟩) (fun t w1 hR => ?_)
 obtain ⟨i, rfl⟩ : ∃ i, i = t := ⟨t, rfl⟩
 obtain ⟨q1, q2, q3, q4, q5⟩ := hR
 refine W.seq <| W.sr <| WL.m rfl rfl <| WL.m rfl rfl <| WL.p (.lenS underlying22 rfl) rfl <| WL.p (.lss rfl rfl) rfl <| WL.nil <| ?_
 refine W.cond rfl (fun h10 => ?_) (fun h10 => ?_)
 have h10' := dT h10
 refine W.skip <| W.seq <| W.block <| W.sr <| WL.m rfl rfl <| WL.m rfl rfl <| WL.p (.ixm underlying22 sizeOf28 rfl rfl (q2.isp (by first | omega | (simp only [List.length_cons, List.length_nil]; omega))) (i) (rfl) oO) rfl <| WL.r (Rd.ldS underlying28 rfl isz28 q2 (i) (by first | omega | (simp only [List.length_cons, List.length_nil]; omega)) rfl) rfl <| WL.call hb7 rfl rfl ((law23_small _ (os[i]'oO) (Nat.lt_succ_self _) _ _ 35 _ ((q3).sub i oO oO) dD dD)) (fun sb w11 hw11 => ?_)
 have hF12 := AInv.same (w1 := w11) q3 (fun k hk hl => hw11.block k hl)
 have hv13 := RowM.below q2 hw11 (fun h0 => q2.lt h0)
 have hB14 := btr q1 hw11
 refine WL.p (.not rfl) rfl <| WL.nil <| ?_
 refine W.cond rfl (fun h15 => ?_) (fun h15 => ?_)
 have h15' := (nT h15)
 refine W.sr <| WL.z rfl rfl ?_
 refine W.ret (W.ret1 rfl rfl ?_)
 first | exact ⟨rfl, hB14⟩ | contradiction
 have h15' := (nF h15)
 have hsi := sb.2 (nF (show (!sb.1) = false by assumption))
 refine W.skip <| W.reg <| WL.m rfl rfl <| WL.p (.iis (((i + 1 : Nat) : Int)) (.add rfl rfl (i64w oO)) oO) rfl <| WL.z rfl rfl ?_
 exact ⟨i + 1, ⟨rfl, rfl, rfl, trivial⟩, ⟨hB14, hv13, hF12, fun o ho => by
  rw [List.take_succ_eq_append_getElem oO, List.mem_append, List.mem_singleton] at ho
  rcases ho with ho | rfl
  exact q4 o ho
  exact hsi, by ((try simp only) <;> omega)⟩, by ((try simp only) <;> omega)⟩
 have h10' := dF h10
 refine W.exit <| W.seq ?_
 have hsml : ∀ o ∈ os, o.list.length ≤ 100 := fun o ho => q4 o (by rw [List.take_of_length_le oO]; exact ho)
 refine W.reg <| WL.z rfl rfl ?_
 refine W.sr <| WL.m rfl rfl <| WL.m rfl rfl <| WL.c1 hb11 rfl rfl ((pread_Object0 n _)) (fun w16 hw16 => ?_)
 have hF17 := AInv.same (w1 := w16) q3 (fun k hk hl => hw16.block k hl)
 have hv18 := RowM.below q2 hw16 (fun h0 => q2.lt h0)
 have hB19 := btr q1 hw16
 refine WL.m rfl rfl <| WL.p (.ext rfl rfl) rfl <| WL.p (.ext rfl rfl) rfl <| WL.alloc zeroValue28 rfl (fun b20 wb20 eb20 hkb20 hub20 hsb20 => ?_)
 have hF21 := AInv.same (w1 := wb20) hF17 (fun k hk hl => hub20.other k oO)
 have hvl23 := fun h0 => eb20 ▸ hv18.lt h0
 have hv22 := RowM.upd hv18 hub20 (fun h0 => Nat.ne_of_lt (hvl23 h0))
 have hB24 := Upd.below hB19 (by rw [eb20]; exact hB19.size) hub20
 have hgeb20 : w.heap.size ≤ b20 := by rw [eb20]; exact hB19.size
 refine WL.stL rfl rfl hkb20 isz28 rfl rfl (fun w25 hkw25 huw25 hsw25 => ?_)
 have hF26 := AInv.same (w1 := w25) hF21 (fun k hk hl => huw25.other k (by first | ((try simp only) <;> omega) | (have := hk.1; ((try simp only) <;> omega))))
 have hv27 := RowM.upd hv22 huw25 (fun h0 => Nat.ne_of_lt (hvl23 h0))
 have hB28 := Upd.below hB24 oO huw25
 refine WL.z rfl rfl ?_
 refine W.sr <| WL.m rfl rfl <| WL.m rfl rfl <| ?_
 refine WL.p (.buildL (ps := _) blt28 rfl rfl rfl pS) rfl ?_
 refine WL.c1 hb13 rfl rfl ((pread_Resolve0 _ _)) (fun w29 hw29 => ?_)
 have hF30 := AInv.same (w1 := w29) hF26 (fun k hk hl => hw29.block k hl)
 have hk31 := hkw25.below hw29 hkw25.lt
 have hv32 := RowM.below hv27 hw29 (fun h0 => hv27.lt h0)
 have hB33 := btr hB28 hw29
 refine WL.m rfl rfl <| WL.p (.ext rfl rfl) rfl <| WL.p (.ext rfl rfl) rfl <| WL.alloc zeroValue28 rfl (fun b34 wb34 eb34 hkb34 hub34 hsb34 => ?_)
 have hF35 := AInv.same (w1 := wb34) hF30 (fun k hk hl => hub34.other k oO)
 have hl37 : b20 < b34 := by rw [eb34]; exact hk31.lt
 have hvl39 := fun h0 => eb34 ▸ hv32.lt h0
 have hv38 := RowM.upd hv32 hub34 (fun h0 => Nat.ne_of_lt (hvl39 h0))
 have hB40 := Upd.below hB33 (by rw [eb34]; exact hB33.size) hub34
 have hgeb34 : w.heap.size ≤ b34 := by rw [eb34]; exact hB33.size
 refine WL.stL rfl rfl hkb34 isz28 rfl rfl (fun w41 hkw41 huw41 hsw41 => ?_)
 have hF42 := AInv.same (w1 := w41) hF35 (fun k hk hl => huw41.other k (by first | ((try simp only) <;> omega) | (have := hk.1; ((try simp only) <;> omega))))
 have hv44 := RowM.upd hv38 huw41 (fun h0 => Nat.ne_of_lt (hvl39 h0))
 have hB45 := Upd.below hB40 oO huw41
 refine WL.z rfl rfl ?_
 refine W.seq <| W.sr <| WL.m rfl rfl <| WL.p (.bis (false) (.neq rfl rfl) dD) rfl <| WL.m rfl rfl <| WL.gy rfl rfl rfl rfl <| WL.m rfl rfl <| WL.gy rfl rfl rfl rfl <| WL.p (.bis (false) (.neq rfl rfl) dD) rfl <| WL.p (.pkF rfl rfl rfl) rfl <| WL.m rfl rfl <| WL.gy rfl rfl rfl rfl <| WL.m rfl rfl <| WL.gy rfl rfl rfl rfl <| WL.c1 hb10 rfl rfl ((pread_Len0 _)) (fun w46 hw46 => ?_)
 obtain rfl := hw46
 refine WL.gy rfl rfl rfl rfl <| WL.p (.bis (false) (.neq rfl rfl) dD) rfl <| WL.p (.pkF rfl rfl rfl) rfl <| WL.m rfl rfl <| WL.gy rfl rfl rfl rfl <| WL.m rfl rfl <| WL.gy rfl rfl rfl rfl <| WL.c1 hb14 rfl rfl ((pread_Trailer0 _)) (fun w47 hw47 => ?_)
 have hF48 := AInv.same (w1 := w47) hF42 (fun k hk hl => hw47.block k hl)
 have hv51 := RowM.below hv44 hw47 (fun h0 => hv44.lt h0)
 have hB52 := btr hB45 hw47
 refine WL.gy rfl rfl rfl rfl <| WL.p (.fld underlying28 rfl isAgg3 rfl rfl) rfl <| WL.gy rfl rfl rfl rfl <| WL.p (.bis (false) (.neq rfl rfl) dD) rfl <| WL.p (.pkF rfl rfl rfl) rfl <| WL.nil <| ?_
 refine W.condF rfl rfl ?_
 refine W.skip <| W.sr <| WL.m rfl rfl <| WL.call hb8 rfl rfl ((ref_WriteA lp ys os lc _ _ hv51 hc hF48 (bk_pr hbk))) (fun x w53 hw53 => ?_)
 have hF54 := AInv.same (w1 := w53) hF48 (fun k hk hl => hw53.1.block k hl)
 have hv57 := RowM.below hv51 hw53.1 (fun h0 => hv51.lt h0)
 have hB58 := btr hB52 hw53.1
 obtain ⟨xp, xn, xc, xe⟩ := x
 have hW := hw53.2
 simp only at hW ⊢
 have hszW := hB52.size
 refine WL.m rfl rfl <| WL.p (.ext rfl rfl) rfl <| WL.p (.ext rfl rfl) rfl <| WL.a rfl rfl <| WL.z rfl rfl ?_
 refine W.seq <| W.sr <| WL.m rfl rfl <| WL.p (.neq rfl rfl) rfl <| WL.nil <| ?_
 refine W.cond rfl (fun h59 => ?_) (fun h59 => ?_)
 have h59' := ndT h59
 refine W.sr <| WL.z rfl rfl ?_
 refine W.ret (W.ret1 rfl rfl ?_)
 first | exact ⟨rfl, hB58⟩ | contradiction
 have h59' := ndF h59
 obtain rfl : xe = 0 := by assumption
 obtain ⟨rfl, hxb, hxc, hxB, -, -, -, hxo⟩ := hW.ok rfl
 have H := Objs.of hW hsml
 have hrb := (Own.bv hxo.1).base (C := w.heap.size) (fun g hg => Nat.le_trans hszW (hxo.2 g hg))
 obtain ⟨N, hN⟩ : ∃ N, N = (fileO os).length := ⟨_, rfl⟩
 have hNle : N ≤ 1048576 := hN ▸ H.size
 refine W.skip <| W.sr <| WL.m rfl rfl <| WL.call hb9 rfl rfl ((pread_OpenA os H xp _ xc _ rfl hxb hxc)) (fun bf w60 hw60 => ?_)
 have ho61 := OwnM.below hrb hw60.2
 have hF62 := AInv.same (w1 := w60) hF54 (fun k hk hl => hw60.2.block k hl)
 have hv63 := RowM.below hv57 hw60.2 (fun h0 => hv57.lt h0)
 have hB65 := btr hB58 hw60.2
 obtain ⟨MW, hMW⟩ : ∃ M, M = w53.heap.size := ⟨_, rfl⟩
 obtain ⟨MO, hMO⟩ : ∃ M, M = w60.heap.size := ⟨_, rfl⟩
 have hWO := (hw60.2).size
 have hrbl := (hrb).lt
 have hff := (hw60.1).mono (T := fun k => MW ≤ k ∧ k < MO) (fun k hk hl => ⟨by omega, by omega⟩)
 rw [← hMW, ← hMO] at hWO
 rw [← hMW] at hrbl
 refine WL.m rfl rfl <| WL.p (.ext rfl rfl) rfl <| WL.p (.ext rfl rfl) rfl <| WL.a rfl rfl <| WL.z rfl rfl ?_
 refine W.seq <| W.sr <| WL.m rfl rfl <| WL.p (.bis (false) (.neq rfl rfl) dD) rfl <| WL.nil <| ?_
 refine W.condF rfl rfl ?_
 refine W.skip <| W.seq <| W.sr <| WL.z rfl rfl ?_
 refine W.block ?_
 refine W.loop (α := List UInt8 × Nat) (fun t => [(0, .slice lp ys.length lc), (11, .slice xp (fileO os).length xc), (13, .pointer (some ⟨bf, 0, none⟩)), (15, .int .i64 (t.2 : Int))]) (fun t w' => Below w.heap.size w w' ∧ RowM acL w' lp ys ∧ AInv w' (· < w.heap.size) ys os ∧ FileAt (fun k => MW ≤ k ∧ k < MO) w' bf (fileO os) (placeO os) ∧ OwnM bvL 5 w.heap.size w' (.slice xp (fileO os).length xc) t.1 ∧ MO ≤ w'.heap.size ∧ t.1.length = N ∧ t.2 ≤ N) (fun t => N - t.2) ((fileO os, 0)) ⟨rfl, rfl, rfl, rfl, trivial⟩ (⟨hB65, hv63, hF62, hff, ho61, Nat.le_of_eq hMO, hN.symm, Nat.zero_le _⟩) (fun t w1 hR => ?_)
 obtain ⟨⟨bs2, i2⟩, hbi⟩ : ∃ i, i = t := ⟨t, rfl⟩
 subst hbi
 obtain ⟨r1, r2, r3, r4, r5, r6, r7, r8⟩ := hR
 simp only at r5 r7 r8
 have hleMO : MO ≤ w1.heap.size := r6
 refine W.seq <| W.sr <| WL.m rfl rfl <| WL.m rfl rfl <| WL.p (.lenS underlying26 rfl) rfl <| WL.p (.lss rfl rfl) rfl <| WL.nil <| ?_
 refine W.cond rfl (fun h66 => ?_) (fun h66 => ?_)
 have h66' := dT h66
 refine W.skip <| W.seq <| W.block ?_
 have hpp := (r5).rowp.isp oO
 refine W.reg <| WL.m rfl rfl <| WL.m rfl rfl <| WL.p (.ixb underlying26 sizeOf5 rfl rfl hpp i2 rfl oO) rfl <| WL.stE (L := bvL) (120) (i2) sizeOf5 rfl r5 oO rfl rfl rfl rfl (fun w67 g68 hgcw67 huw67 how67 => ?_)
 have hglw67 := (r5).lt g68 (by rw [hgcw67]; rfl)
 have hgm := (hrbl g68 (by rw [hgcw67]; rfl)).2
 have hF69 := AInv.same (w1 := w67) r3 (fun k hk hl => huw67.other k (by first | ((try simp only) <;> omega) | (have := hk.1; ((try simp only) <;> omega))))
 have hF70 := FileAt.same (w1 := w67) r4 (fun k hk hl => huw67.other k (by first | ((try simp only) <;> omega) | (have := hk.1; ((try simp only) <;> omega))))
 have hv71 := RowM.upd r2 huw67 ((fun h0 => by have := hrlt h0; omega))
 have hB72 := Upd.below r1 oO huw67
 have hle73 := Nat.le_trans hleMO huw67.size
 refine WL.nil <| ?_
 refine W.reg <| WL.m rfl rfl <| WL.p (.iis (((i2 + 1 : Nat) : Int)) (.add rfl rfl (i64w oO)) oO) rfl <| WL.z rfl rfl ?_
 exact ⟨(bs2.set i2 120, i2 + 1), ⟨rfl, rfl, rfl, rfl, trivial⟩, ⟨hB72, hv71, hF69, hF70, how67, hle73, by simp only [List.length_set]; exact r7, by ((try simp only) <;> omega)⟩, by ((try simp only) <;> omega)⟩
 have h66' := dF h66
 refine W.exit <| W.sr <| WL.m rfl rfl <| WL.call hb14 rfl rfl ((pread_Trailer bf _ _ _ _ r4 (by rw [placeO_len]; exact H.len))) (fun z w74 hw74 => ?_)
 have hle76 := Nat.le_trans hleMO hw74.2.size
 have hF77 := AInv.same (w1 := w74) r3 (fun k hk hl => hw74.2.block k hl)
 have hF78 := FileAt.same (w1 := w74) r4 (fun k hk hl => hw74.2.block k hl)
 have hv79 := RowM.below r2 hw74.2 (fun h0 => r2.lt h0)
 have hB80 := btr r1 hw74.2
 obtain ⟨zk0, zl0, zd0, hzk, hzl, -, e1, e2, -, e3, e4⟩ := ATop.rows (B := w1.heap.size) hw74.1 (fun k hk => hk)
 obtain ⟨zk, zi, zs, zkp, zkl, zkc, zlp, zll, zlc, zdp, zdl, zdc⟩ := z
 simp only at hzk hzl e1 e2 e3 e4
 have e3 : zkl = 2 := e3
 have e4 : zll = 2 := e4
 obtain ⟨MT, hMT⟩ : ∃ M, M = w74.heap.size := ⟨_, rfl⟩
 have hrkl := hzk.lt
 have hrll := hzl.lt
 have hszT := (hw74.2).size
 have hzk := hzk.base (C := w.heap.size) (fun g hg => Nat.le_trans r1.size (hzk.lt g hg).1)
 have hzl := hzl.base (C := w.heap.size) (fun g hg => Nat.le_trans r1.size (hzl.lt g hg).1)
 have hsepKL := own_sep hzk hzl dD
 have hsepLK := own_sep hzl hzk dD
 rw [← hMT] at hrkl hrll hszT
 have hOT : MO ≤ w1.heap.size := r6
 simp only [acV]
 refine WL.alloc zeroValue28 rfl (fun b81 wb81 eb81 hkb81 hub81 hsb81 => ?_)
 have ho82 := OwnM.new hzk eb81 hub81
 have ho83 := OwnM.new hzl eb81 hub81
 have hF84 := AInv.same (w1 := wb81) hF77 (fun k hk hl => hub81.other k oO)
 have hF85 := FileAt.same (w1 := wb81) hF78 (fun k hk hl => hub81.other k oO)
 have hvl87 := fun h0 => eb81 ▸ hv79.lt h0
 have hv86 := RowM.upd hv79 hub81 (fun h0 => Nat.ne_of_lt (hvl87 h0))
 have hB88 := Upd.below hB80 (by rw [eb81]; exact hB80.size) hub81
 have hgeb81 : w.heap.size ≤ b81 := by rw [eb81]; exact hB80.size
 refine WL.stL rfl rfl hkb81 isz28 rfl rfl (fun w89 hkw89 huw89 hsw89 => ?_)
 have ho90 := OwnM.upd ho82 huw89 ((fun g hg e => by first | exact hsepKL g hg (by rw [hgq, e]; rfl) | (have := hrkl g hg; omega)))
 have ho91 := OwnM.upd ho83 huw89 ((fun g hg e => by first | exact hsepLK g hg (by rw [hgq, e]; rfl) | (have := hrll g hg; omega)))
 have hF92 := AInv.same (w1 := w89) hF84 (fun k hk hl => huw89.other k (by first | ((try simp only) <;> omega) | (have := hk.1; ((try simp only) <;> omega))))
 have hF93 := FileAt.same (w1 := w89) hF85 (fun k hk hl => huw89.other k (by first | ((try simp only) <;> omega) | (have := hk.1; ((try simp only) <;> omega))))
 have hv94 := RowM.upd hv86 huw89 (fun h0 => Nat.ne_of_lt (hvl87 h0))
 have hB95 := Upd.below hB88 oO huw89
 refine WL.nil <| ?_
 refine W.seq <| W.sr <| WL.z rfl rfl ?_
 refine W.block ?_
 refine W.loop (α := (List (List UInt8) × List AC) × Nat) (fun t => [(0, .slice lp ys.length lc), (13, .pointer (some ⟨bf, 0, none⟩)), (16, .pointer (some ⟨b81, 0, none⟩)), (17, .int .i64 (t.2 : Int))]) (fun t w' => Below w.heap.size w w' ∧ RowM acL w' lp ys ∧ AInv w' (· < w.heap.size) ys os ∧ FileAt (fun k => MW ≤ k ∧ k < MO) w' bf (fileO os) (placeO os) ∧ Blk w' b81 #[.int .i64 zk, .int .i64 zi, .string (bs zs), .slice zkp zkl zkc, .slice zlp zll zlc, .slice zdp zdl zdc] 28 ∧ OwnM strL 9 w.heap.size w' (.slice zkp zkl zkc) t.1.1 ∧ OwnM acL 28 w.heap.size w' (.slice zlp zll zlc) t.1.2 ∧ MT ≤ w'.heap.size ∧ t.1.1.length = 2 ∧ t.1.2.length = 2 ∧ t.2 ≤ 2) (fun t => 2 - t.2) (((zk0, zl0), 0)) ⟨rfl, rfl, rfl, rfl, trivial⟩ (⟨hB95, hv94, hF92, hF93, hkw89, ho90, ho91, by omega, by simp only; omega, by simp only; omega, Nat.zero_le _⟩) (fun t w1 hR => ?_)
 obtain ⟨⟨⟨ks3, ls3⟩, i3⟩, hbi⟩ : ∃ i, i = t := ⟨t, rfl⟩
 subst hbi
 obtain ⟨s1, s2, s3, s4, s5, s6, s7, s8, s9, s10, s11⟩ := hR
 simp only at s6 s7 s9 s10 s11
 have hleMT : MT ≤ w1.heap.size := s8
 refine W.seq <| W.sr <| WL.m rfl rfl <| WL.p (.fa underlying28 rfl sizeOf25 dD rfl) rfl <| WL.r (Rd.ld (isAgg25 _) rfl s5 rfl) rfl <| WL.p (.lenS underlying25 rfl) rfl <| WL.p (.lss rfl rfl) rfl <| WL.nil <| ?_
 refine W.cond rfl (fun h96 => ?_) (fun h96 => ?_)
 have h96' := dT h96
 refine W.skip <| W.seq <| W.block <| W.seq ?_
 have hpp := (s6).rowp.isp oO
 refine W.reg <| WL.p (.fa underlying28 rfl sizeOf25 dD rfl) rfl <| WL.r (Rd.ld (isAgg25 _) rfl s5 rfl) rfl <| WL.m rfl rfl <| WL.p (.ixb underlying25 sizeOf9 rfl rfl hpp i3 rfl oO) rfl <| WL.stE (L := strL) ([120]) (i3) sizeOf9 rfl s6 oO rfl rfl rfl rfl (fun w97 g98 hgcw97 huw97 how97 => ?_)
 have hglw97 := (s6).lt g98 (by rw [hgcw97]; rfl)
 have hgm := hrkl g98 (by rw [hgcw97]; rfl)
 have hgq := hgcw97
 have hle100 := Nat.le_trans hleMT huw97.size
 have ho99 := OwnM.upd s7 huw97 ((fun g hg e => by first | exact hsepLK g hg (by rw [hgq, e]; rfl) | (have := hrll g hg; omega)))
 have hF101 := AInv.same (w1 := w97) s3 (fun k hk hl => huw97.other k (by first | ((try simp only) <;> omega) | (have := hk.1; ((try simp only) <;> omega))))
 have hF102 := FileAt.same (w1 := w97) s4 (fun k hk hl => huw97.other k (by first | ((try simp only) <;> omega) | (have := hk.1; ((try simp only) <;> omega))))
 have hk103 := s5.upd huw97 oM
 have hv104 := RowM.upd s2 huw97 ((fun h0 => by have := hrlt h0; omega))
 have hB105 := Upd.below s1 oO huw97
 have hle106 := Nat.le_trans hleMT huw97.size
 refine WL.nil <| ?_
 have hpp2 := (ho99).rowp.isp oO
 refine W.reg <| WL.p (.fa underlying28 rfl sizeOf22 dD rfl) rfl <| WL.r (Rd.ld (isAgg22 _) rfl hk103 rfl) rfl <| WL.m rfl rfl <| ?_
 refine WL.p (.buildL (ps := _) blt28 rfl rfl rfl pZ) rfl ?_
 refine WL.p (.ixm underlying22 sizeOf28 rfl rfl hpp2 i3 rfl oO) rfl <| WL.stM (L := acL) (acOf (pc0 0 0 [])) (i3) ho99 oO isz28 rfl rfl rfl (fun w107 g108 hgcw107 huw107 how107 => ?_)
 have hglw107 := (ho99).lt g108 (by rw [hgcw107]; rfl)
 have hgm := hrll g108 (by rw [hgcw107]; rfl)
 have hgq := hgcw107
 have hle110 := Nat.le_trans hle106 huw107.size
 have ho109 := OwnM.upd how97 huw107 ((fun g hg e => by first | exact hsepKL g hg (by rw [hgq, e]; rfl) | (have := hrkl g hg; omega)))
 have hF111 := AInv.same (w1 := w107) hF101 (fun k hk hl => huw107.other k (by first | ((try simp only) <;> omega) | (have := hk.1; ((try simp only) <;> omega))))
 have hF112 := FileAt.same (w1 := w107) hF102 (fun k hk hl => huw107.other k (by first | ((try simp only) <;> omega) | (have := hk.1; ((try simp only) <;> omega))))
 have hk113 := hk103.up huw107
 have hv114 := RowM.upd hv104 huw107 ((fun h0 => by have := hrlt h0; omega))
 have hB115 := Upd.below hB105 oO huw107
 have hle116 := Nat.le_trans hle100 huw107.size
 refine WL.nil <| ?_
 refine W.reg <| WL.m rfl rfl <| WL.p (.iis (((i3 + 1 : Nat) : Int)) (.add rfl rfl (i64w oO)) oO) rfl <| WL.z rfl rfl ?_
 exact ⟨((ks3.set i3 [120], ls3.set i3 (acOf (pc0 0 0 []))), i3 + 1), ⟨rfl, rfl, rfl, rfl, trivial⟩, ⟨hB115, hv114, hF111, hF112, hk113, ho109, how107, hle116, by simp only [List.length_set]; exact s9, by simp only [List.length_set]; exact s10, by ((try simp only) <;> omega)⟩, by ((try simp only) <;> omega)⟩
 have h96' := dF h96
 refine W.exit <| W.seq <| W.sr <| WL.z rfl rfl ?_
 refine W.block ?_
 refine W.loop (α := Nat) (fun t => [(0, .slice lp ys.length lc), (13, .pointer (some ⟨bf, 0, none⟩)), (18, .int .i64 (t : Int))]) (fun t w' => Below w.heap.size w w' ∧ RowM acL w' lp ys ∧ AInv w' (· < w.heap.size) ys os ∧ FileAt (fun k => MW ≤ k ∧ k < MO) w' bf (fileO os) (placeO os) ∧ MO ≤ w'.heap.size ∧ t ≤ ys.length) (fun t => ys.length - t) (0) ⟨rfl, rfl, rfl, trivial⟩ (⟨s1, s2, s3, s4, by omega, Nat.zero_le _⟩) (fun t w1 hR => ?_)
 obtain ⟨i4, rfl⟩ : ∃ i, i = t := ⟨t, rfl⟩
 obtain ⟨t1, t2, t3, t4, t5, t6⟩ := hR
 have hleM4 : MO ≤ w1.heap.size := t5
 refine W.seq <| W.sr <| WL.m rfl rfl <| WL.m rfl rfl <| WL.p (.lenS underlying22 rfl) rfl <| WL.p (.lss rfl rfl) rfl <| WL.nil <| ?_
 refine W.cond rfl (fun h117 => ?_) (fun h117 => ?_)
 have h117' := dT h117
 refine W.skip <| W.seq <| W.block <| W.sr <| WL.m rfl rfl <| WL.m rfl rfl <| WL.p (.iis (((i4 + 1 : Nat) : Int)) (.add rfl rfl (i64w oO)) oO) rfl <| WL.call hb11 rfl rfl ((pread_ObjectA bf _ os H i4 oO _ t4)) (fun z w118 hw118 => ?_)
 have hF119 := AInv.same (w1 := w118) t3 (fun k hk hl => hw118.2.block k hl)
 have hF120 := FileAt.same (w1 := w118) t4 (fun k hk hl => hw118.2.block k hl)
 have hv121 := RowM.below t2 hw118.2 (fun h0 => t2.lt h0)
 have hB122 := btr t1 hw118.2
 have hz := (hw118.1).1.mono (T := fun k => k < w118.heap.size) (fun k _ hk => hk)
 obtain ⟨zk0, zl0, zd0, -, hzl, hzd, -, e2, e5, -, -⟩ := ATop.rows (B := w1.heap.size) hw118.1 (fun k hk => hk)
 obtain ⟨zk, zi, zs, zkp, zkl, zkc, zlp, zll, zlc, zdp, zdl, zdc⟩ := z
 simp only at hzl hzd e2 e5
 obtain ⟨MQ, hMQ⟩ : ∃ M, M = w118.heap.size := ⟨_, rfl⟩
 have hrll := hzl.lt
 have hrdl := hzd.lt
 have hszT := (hw118.2).size
 have hzl := hzl.base (C := w.heap.size) (fun g hg => Nat.le_trans t1.size (hzl.lt g hg).1)
 have hzd := hzd.base (C := w.heap.size) (fun g hg => Nat.le_trans t1.size (hzd.lt g hg).1)
 have hlm := hzl.full.2
 have hdm := hzd.full.2
 have hsepDL := own_sep hzd hzl dD
 rw [← hMQ] at hrll hrdl hszT
 simp only [acV]
 refine WL.m rfl rfl <| WL.p (.ext rfl rfl) rfl <| WL.p (.ext rfl rfl) rfl <| WL.alloc zeroValue28 rfl (fun b123 wb123 eb123 hkb123 hub123 hsb123 => ?_)
 have ho124 := OwnM.new hzl eb123 hub123
 have ho125 := OwnM.new hzd eb123 hub123
 have hF126 := AInv.same (w1 := wb123) hF119 (fun k hk hl => hub123.other k oO)
 have hF127 := FileAt.same (w1 := wb123) hF120 (fun k hk hl => hub123.other k oO)
 have hF128 := ARep.same (w1 := wb123) hz (fun k hk hl => hub123.other k oO)
 have hvl130 := fun h0 => eb123 ▸ hv121.lt h0
 have hv129 := RowM.upd hv121 hub123 (fun h0 => Nat.ne_of_lt (hvl130 h0))
 have hB131 := Upd.below hB122 (by rw [eb123]; exact hB122.size) hub123
 have hgeb123 : w.heap.size ≤ b123 := by rw [eb123]; exact hB122.size
 refine WL.stL rfl rfl hkb123 isz28 rfl rfl (fun w132 hkw132 huw132 hsw132 => ?_)
 have ho133 := OwnM.upd ho124 huw132 ((fun g hg e => by first | exact hsepLK g hg (by rw [hgq, e]; rfl) | (have := hrll g hg; omega)))
 have ho134 := OwnM.upd ho125 huw132 ((fun g hg e => by first | exact hsepDL g hg (by rw [hgq, e]; rfl) | (have := hrdl g hg; omega)))
 have hF135 := AInv.same (w1 := w132) hF126 (fun k hk hl => huw132.other k (by first | ((try simp only) <;> omega) | (have := hk.1; ((try simp only) <;> omega))))
 have hF136 := FileAt.same (w1 := w132) hF127 (fun k hk hl => huw132.other k (by first | ((try simp only) <;> omega) | (have := hk.1; ((try simp only) <;> omega))))
 have hF137 := ARep.same (w1 := w132) hF128 (fun k hk hl => huw132.other k (by first | ((try simp only) <;> omega) | (have := hk.1; ((try simp only) <;> omega))))
 have hv138 := RowM.upd hv129 huw132 (fun h0 => Nat.ne_of_lt (hvl130 h0))
 have hB139 := Upd.below hB131 oO huw132
 refine WL.z rfl rfl ?_
 refine W.seq <| W.seq <| W.regH 11 rfl mixed (fun w' => w'.heap[b123]? = w132.heap[b123]? ∧ RowM acL w' lp ys ∧ True) (fun w140 dw140 => ?_)
 have ho141 := OwnM.drew ho133 dw140
 have ho142 := OwnM.drew ho134 dw140
 have hF143 := AInv.same (w1 := w140) hF135 (fun k hk hl => (by obtain ⟨m, rfl⟩ := dw140; rfl))
 have hF144 := FileAt.same (w1 := w140) hF136 (fun k hk hl => (by obtain ⟨m, rfl⟩ := dw140; rfl))
 have hF145 := ARep.same (w1 := w140) hF137 (fun k hk hl => (by obtain ⟨m, rfl⟩ := dw140; rfl))
 have hk146 := hkw132.drew dw140
 have hv147 := hv138.drew dw140
 have hB148 := Drew.below hB139 dw140
 refine WH.tp 0 rfl (.mv rfl) ⟨(hk146).trans (hkw132).symm, hv147, trivial⟩ rfl ?_
 refine WH.tp 1 rfl (.bis (false) (.neq rfl rfl) dD) ⟨(hk146).trans (hkw132).symm, hv147, trivial⟩ rfl ?_
 refine WH.tp 2 rfl (.mv rfl) ⟨(hk146).trans (hkw132).symm, hv147, trivial⟩ rfl ?_
 refine WH.ty 3 rfl rfl rfl rfl (fun w' hw' => Rd.ldA rfl ((hw'.1).trans hkw132) underlying28 rfl isz28) ⟨(hk146).trans (hkw132).symm, hv147, trivial⟩ rfl ?_
 refine WH.ty 4 rfl rfl rfl rfl (fun _ _ => Pure.rd (.mv rfl)) ⟨(hk146).trans (hkw132).symm, hv147, trivial⟩ rfl ?_
 refine WH.ty 5 rfl rfl rfl rfl (fun _ _ => Pure.rd (.mv rfl)) ⟨(hk146).trans (hkw132).symm, hv147, trivial⟩ rfl ?_
 refine WH.ty 6 rfl rfl rfl rfl (fun _ _ => Pure.rd (.ixm underlying22 sizeOf28 rfl rfl (hv147.isp (by first | omega | (simp only [List.length_cons, List.length_nil]; omega))) (i4) (rfl) oO)) ⟨(hk146).trans (hkw132).symm, hv147, trivial⟩ rfl ?_
 refine WH.ty 7 rfl rfl rfl rfl (fun w' hw' => Rd.ldS underlying28 rfl isz28 (hw'.2.1) (i4) (by first | omega | (simp only [List.length_cons, List.length_nil]; omega)) rfl) ⟨(hk146).trans (hkw132).symm, hv147, trivial⟩ rfl ?_
 refine WH.br1 8 rfl ?_
 refine WL.gy rfl rfl rfl rfl <| ?_
 have hsz138 := Drew.size dw140
 refine WL.c1 hb12 rfl rfl ((r18_EqualA _ (os[i4]'oO) (Nat.lt_succ_self _) ⟨zk, zi, zs, zkp, zkl, zkc, zlp, zll, zlc, zdp, zdl, zdc⟩ _ _ _ _ hF145 ((hF143).sub i4 oO oO))) (fun w149 hw149 => ?_)
 have ho150 := OwnM.below ho141 hw149
 have ho151 := OwnM.below ho142 hw149
 have hF152 := AInv.same (w1 := w149) hF143 (fun k hk hl => hw149.block k hl)
 have hF153 := FileAt.same (w1 := w149) hF144 (fun k hk hl => hw149.block k hl)
 have hk155 := hk146.below hw149 hk146.lt
 have hv156 := RowM.below hv147 hw149 (fun h0 => hv147.lt h0)
 have hB157 := btr hB148 hw149
 have hszE := (hw149).size
 refine WL.nil <| ?_
 refine ⟨⟨(hk155).trans (hkw132).symm, hv156, trivial⟩, ?_⟩
 refine WH.ty 9 rfl rfl rfl rfl (fun _ _ => Pure.rd (.not rfl)) ⟨(hk155).trans (hkw132).symm, hv156, trivial⟩ rfl ?_
 refine WH.tp 10 rfl (.pkF rfl rfl rfl) ⟨(hk155).trans (hkw132).symm, hv156, trivial⟩ rfl ?_
 refine WH.done kR ?_
 refine W.condF rfl rfl ?_
 refine W.skip <| W.seq <| W.seq ?_
 have hleMQ : MQ ≤ w149.heap.size := by omega
 refine W.reg <| WL.z rfl rfl ?_
 refine W.block ?_
 refine W.loop (α := List AC × Nat) (fun t => [(0, .slice lp ys.length lc), (13, .pointer (some ⟨bf, 0, none⟩)), (18, .int .i64 (i4 : Int)), (19, .pointer (some ⟨b123, 0, none⟩)), (21, .int .i64 (t.2 : Int))]) (fun t w' => Below w.heap.size w w' ∧ RowM acL w' lp ys ∧ AInv w' (· < w.heap.size) ys os ∧ FileAt (fun k => MW ≤ k ∧ k < MO) w' bf (fileO os) (placeO os) ∧ Blk w' b123 #[.int .i64 zk, .int .i64 zi, .string (bs zs), .slice zkp zkl zkc, .slice zlp zll zlc, .slice zdp zdl zdc] 28 ∧ OwnM acL 28 w.heap.size w' (.slice zlp zll zlc) t.1 ∧ OwnM bvL 5 w.heap.size w' (.slice zdp zdl zdc) zd0 ∧ MQ ≤ w'.heap.size ∧ t.1.length = zll ∧ t.2 ≤ zll) (fun t => zll - t.2) ((zl0, 0)) ⟨rfl, rfl, rfl, rfl, rfl, trivial⟩ (⟨hB157, hv156, hF152, hF153, hk155, ho150, ho151, hleMQ, e2.symm, Nat.zero_le _⟩) (fun t w1 hR => ?_)
 obtain ⟨⟨ls5, i5⟩, hbi⟩ : ∃ i, i = t := ⟨t, rfl⟩
 subst hbi
 obtain ⟨u1, u2, u3, u4, u5, u6, u7, u8, u9, u10⟩ := hR
 simp only at u6 u9 u10
 have hleM5 : MQ ≤ w1.heap.size := u8
 refine W.seq <| W.sr <| WL.m rfl rfl <| WL.p (.fa underlying28 rfl sizeOf22 dD rfl) rfl <| WL.r (Rd.ld (isAgg22 _) rfl u5 rfl) rfl <| WL.p (.lenS underlying22 rfl) rfl <| WL.p (.lss rfl rfl) rfl <| WL.nil <| ?_
 refine W.cond rfl (fun h158 => ?_) (fun h158 => ?_)
 have h158' := dT h158
 refine W.skip <| W.seq <| W.block ?_
 have hpp2 := (u6).rowp.isp oO
 refine W.reg <| WL.p (.fa underlying28 rfl sizeOf22 dD rfl) rfl <| WL.r (Rd.ld (isAgg22 _) rfl u5 rfl) rfl <| WL.m rfl rfl <| ?_
 refine WL.p (.buildL (ps := _) blt28 rfl rfl rfl pZ) rfl ?_
 refine WL.p (.ixm underlying22 sizeOf28 rfl rfl hpp2 i5 rfl oO) rfl <| WL.stM (L := acL) (acOf (pc0 0 0 [])) (i5) u6 oO isz28 rfl rfl rfl (fun w159 g160 hgcw159 huw159 how159 => ?_)
 have hglw159 := (u6).lt g160 (by rw [hgcw159]; rfl)
 have hgm := hrll g160 (by rw [hgcw159]; rfl)
 have hgq := hgcw159
 have hle162 := Nat.le_trans hleM5 huw159.size
 have ho161 := OwnM.upd u7 huw159 ((fun g hg e => by first | exact hsepDL g hg (by rw [hgq, e]; rfl) | (have := hrdl g hg; omega)))
 have hF163 := AInv.same (w1 := w159) u3 (fun k hk hl => huw159.other k (by first | ((try simp only) <;> omega) | (have := hk.1; ((try simp only) <;> omega))))
 have hF164 := FileAt.same (w1 := w159) u4 (fun k hk hl => huw159.other k (by first | ((try simp only) <;> omega) | (have := hk.1; ((try simp only) <;> omega))))
 have hk165 := u5.upd huw159 oM
 have hv166 := RowM.upd u2 huw159 ((fun h0 => by have := hrlt h0; omega))
 have hB167 := Upd.below u1 oO huw159
 have hle168 := Nat.le_trans hleM5 huw159.size
 refine WL.nil <| ?_
 refine W.reg <| WL.m rfl rfl <| WL.p (.iis (((i5 + 1 : Nat) : Int)) (.add rfl rfl (i64w oO)) oO) rfl <| WL.z rfl rfl ?_
 exact ⟨(ls5.set i5 (acOf (pc0 0 0 [])), i5 + 1), ⟨rfl, rfl, rfl, rfl, rfl, trivial⟩, ⟨hB167, hv166, hF163, hF164, hk165, how159, ho161, hle168, by simp only [List.length_set]; exact u9, by ((try simp only) <;> omega)⟩, by ((try simp only) <;> omega)⟩
 have h158' := dF h158
 refine W.exit <| W.seq <| W.sr <| WL.z rfl rfl ?_
 refine W.block ?_
 refine W.loop (α := List UInt8 × Nat) (fun t => [(0, .slice lp ys.length lc), (13, .pointer (some ⟨bf, 0, none⟩)), (18, .int .i64 (i4 : Int)), (19, .pointer (some ⟨b123, 0, none⟩)), (22, .int .i64 (t.2 : Int))]) (fun t w' => Below w.heap.size w w' ∧ RowM acL w' lp ys ∧ AInv w' (· < w.heap.size) ys os ∧ FileAt (fun k => MW ≤ k ∧ k < MO) w' bf (fileO os) (placeO os) ∧ Blk w' b123 #[.int .i64 zk, .int .i64 zi, .string (bs zs), .slice zkp zkl zkc, .slice zlp zll zlc, .slice zdp zdl zdc] 28 ∧ OwnM bvL 5 w.heap.size w' (.slice zdp zdl zdc) t.1 ∧ MQ ≤ w'.heap.size ∧ t.1.length = zdl ∧ t.2 ≤ zdl) (fun t => zdl - t.2) ((zd0, 0)) ⟨rfl, rfl, rfl, rfl, rfl, trivial⟩ (⟨u1, u2, u3, u4, u5, u7, hleM5, e5.symm, Nat.zero_le _⟩) (fun t w1 hR => ?_)
 obtain ⟨⟨ds6, i6⟩, hbi⟩ : ∃ i, i = t := ⟨t, rfl⟩
 subst hbi
 obtain ⟨v1, v2, v3, v4, v5, v6, v7, v8, v9⟩ := hR
 simp only at v6 v8 v9
 have hleM6 : MQ ≤ w1.heap.size := v7
 refine W.seq <| W.sr <| WL.m rfl rfl <| WL.p (.fa underlying28 rfl sizeOf26 dD rfl) rfl <| WL.r (Rd.ld (isAgg26 _) rfl v5 rfl) rfl <| WL.p (.lenS underlying26 rfl) rfl <| WL.p (.lss rfl rfl) rfl <| WL.nil <| ?_
 refine W.cond rfl (fun h169 => ?_) (fun h169 => ?_)
 have h169' := dT h169
 refine W.skip <| W.seq <| W.block ?_
 have hpp := (v6).rowp.isp oO
 have hrv := Own.bvAt rfl (v6).rowp
 refine W.reg <| WL.p (.fa underlying28 rfl sizeOf26 dD rfl) rfl <| WL.r (Rd.ld (isAgg26 _) rfl v5 rfl) rfl <| WL.m rfl rfl <| WL.p (.ixb underlying26 sizeOf5 rfl rfl (hrv.isp oO) (i6) (rfl) oO) rfl <| WL.r (Rd.ldc (isAgg5 _) rfl (hrv.cells (i6) oO)) rfl <| WL.p (.add rfl rfl (u8_add1 (ds6[i6]'oO))) rfl <| WL.p (.ixb underlying26 sizeOf5 rfl rfl hpp i6 rfl oO) rfl <| WL.stE (L := bvL) ((ds6[i6]'oO + 1)) (i6) sizeOf5 rfl v6 oO rfl rfl rfl rfl (fun w170 g171 hgcw170 huw170 how170 => ?_)
 have hglw170 := (v6).lt g171 (by rw [hgcw170]; rfl)
 have hgm := hrdl g171 (by rw [hgcw170]; rfl)
 have hF172 := AInv.same (w1 := w170) v3 (fun k hk hl => huw170.other k (by first | ((try simp only) <;> omega) | (have := hk.1; ((try simp only) <;> omega))))
 have hF173 := FileAt.same (w1 := w170) v4 (fun k hk hl => huw170.other k (by first | ((try simp only) <;> omega) | (have := hk.1; ((try simp only) <;> omega))))
 have hk174 := v5.upd huw170 oM
 have hv175 := RowM.upd v2 huw170 ((fun h0 => by have := hrlt h0; omega))
 have hB177 := Upd.below v1 oO huw170
 have hle178 := Nat.le_trans hleM6 huw170.size
 refine WL.nil <| ?_
 refine W.reg <| WL.m rfl rfl <| WL.p (.iis (((i6 + 1 : Nat) : Int)) (.add rfl rfl (i64w oO)) oO) rfl <| WL.z rfl rfl ?_
 exact ⟨(ds6.set i6 (ds6[i6]'oO + 1), i6 + 1), ⟨rfl, rfl, rfl, rfl, rfl, trivial⟩, ⟨hB177, hv175, hF172, hF173, hk174, how170, hle178, by simp only [List.length_set]; exact v8, by ((try simp only) <;> omega)⟩, by ((try simp only) <;> omega)⟩
 have h169' := dF h169
 refine W.exit <| W.sr <| WL.m rfl rfl <| WL.m rfl rfl <| WL.p (.iis (((i4 + 1 : Nat) : Int)) (.add rfl rfl (i64w oO)) oO) rfl <| WL.call hb11 rfl rfl ((pread_ObjectA bf _ os H i4 oO _ v4)) (fun z2 w179 hw179 => ?_)
 have hF180 := AInv.same (w1 := w179) v3 (fun k hk hl => hw179.2.block k hl)
 have hF181 := FileAt.same (w1 := w179) v4 (fun k hk hl => hw179.2.block k hl)
 have hv182 := RowM.below v2 hw179.2 (fun h0 => v2.lt h0)
 have hB183 := btr v1 hw179.2
 have hszO := (hw179.2).size
 have hz := (hw179.1).1.mono (T := fun k => k < w179.heap.size) (fun k _ hk => hk)
 refine WL.m rfl rfl <| WL.p (.ext rfl rfl) rfl <| WL.p (.ext rfl rfl) rfl <| WL.alloc zeroValue28 rfl (fun b184 wb184 eb184 hkb184 hub184 hsb184 => ?_)
 have hF185 := AInv.same (w1 := wb184) hF180 (fun k hk hl => hub184.other k oO)
 have hF186 := FileAt.same (w1 := wb184) hF181 (fun k hk hl => hub184.other k oO)
 have hF187 := ARep.same (w1 := wb184) hz (fun k hk hl => hub184.other k oO)
 have hvl189 := fun h0 => eb184 ▸ hv182.lt h0
 have hv188 := RowM.upd hv182 hub184 (fun h0 => Nat.ne_of_lt (hvl189 h0))
 have hB190 := Upd.below hB183 (by rw [eb184]; exact hB183.size) hub184
 have hgeb184 : w.heap.size ≤ b184 := by rw [eb184]; exact hB183.size
 refine WL.stL rfl rfl hkb184 isz28 rfl rfl (fun w191 hkw191 huw191 hsw191 => ?_)
 have hF192 := AInv.same (w1 := w191) hF185 (fun k hk hl => huw191.other k (by first | ((try simp only) <;> omega) | (have := hk.1; ((try simp only) <;> omega))))
 have hF193 := FileAt.same (w1 := w191) hF186 (fun k hk hl => huw191.other k (by first | ((try simp only) <;> omega) | (have := hk.1; ((try simp only) <;> omega))))
 have hF194 := ARep.same (w1 := w191) hF187 (fun k hk hl => huw191.other k (by first | ((try simp only) <;> omega) | (have := hk.1; ((try simp only) <;> omega))))
 have hv195 := RowM.upd hv188 huw191 (fun h0 => Nat.ne_of_lt (hvl189 h0))
 have hB196 := Upd.below hB190 oO huw191
 refine WL.z rfl rfl ?_
 refine W.seq <| W.regH 11 rfl mixed (fun w' => w'.heap[b184]? = w191.heap[b184]? ∧ RowM acL w' lp ys ∧ True) (fun w197 dw197 => ?_)
 have hF198 := AInv.same (w1 := w197) hF192 (fun k hk hl => (by obtain ⟨m, rfl⟩ := dw197; rfl))
 have hF199 := FileAt.same (w1 := w197) hF193 (fun k hk hl => (by obtain ⟨m, rfl⟩ := dw197; rfl))
 have hF200 := ARep.same (w1 := w197) hF194 (fun k hk hl => (by obtain ⟨m, rfl⟩ := dw197; rfl))
 have hk201 := hkw191.drew dw197
 have hv202 := hv195.drew dw197
 have hB203 := Drew.below hB196 dw197
 refine WH.tp 0 rfl (.mv rfl) ⟨(hk201).trans (hkw191).symm, hv202, trivial⟩ rfl ?_
 refine WH.tp 1 rfl (.bis (false) (.neq rfl rfl) dD) ⟨(hk201).trans (hkw191).symm, hv202, trivial⟩ rfl ?_
 refine WH.tp 2 rfl (.mv rfl) ⟨(hk201).trans (hkw191).symm, hv202, trivial⟩ rfl ?_
 refine WH.ty 3 rfl rfl rfl rfl (fun w' hw' => Rd.ldA rfl ((hw'.1).trans hkw191) underlying28 rfl isz28) ⟨(hk201).trans (hkw191).symm, hv202, trivial⟩ rfl ?_
 refine WH.ty 4 rfl rfl rfl rfl (fun _ _ => Pure.rd (.mv rfl)) ⟨(hk201).trans (hkw191).symm, hv202, trivial⟩ rfl ?_
 refine WH.ty 5 rfl rfl rfl rfl (fun _ _ => Pure.rd (.mv rfl)) ⟨(hk201).trans (hkw191).symm, hv202, trivial⟩ rfl ?_
 refine WH.ty 6 rfl rfl rfl rfl (fun _ _ => Pure.rd (.ixm underlying22 sizeOf28 rfl rfl (hv202.isp (by first | omega | (simp only [List.length_cons, List.length_nil]; omega))) (i4) (rfl) oO)) ⟨(hk201).trans (hkw191).symm, hv202, trivial⟩ rfl ?_
 refine WH.ty 7 rfl rfl rfl rfl (fun w' hw' => Rd.ldS underlying28 rfl isz28 (hw'.2.1) (i4) (by first | omega | (simp only [List.length_cons, List.length_nil]; omega)) rfl) ⟨(hk201).trans (hkw191).symm, hv202, trivial⟩ rfl ?_
 refine WH.br1 8 rfl ?_
 refine WL.gy rfl rfl rfl rfl <| ?_
 have hsz182 := Drew.size dw197
 refine WL.c1 hb12 rfl rfl ((r18_EqualA _ (os[i4]'oO) (Nat.lt_succ_self _) _ _ _ _ _ hF200 ((hF198).sub i4 oO oO))) (fun w204 hw204 => ?_)
 have hF205 := AInv.same (w1 := w204) hF198 (fun k hk hl => hw204.block k hl)
 have hF206 := FileAt.same (w1 := w204) hF199 (fun k hk hl => hw204.block k hl)
 have hk208 := hk201.below hw204 hk201.lt
 have hv209 := RowM.below hv202 hw204 (fun h0 => hv202.lt h0)
 have hB210 := btr hB203 hw204
 have hszE2 := (hw204).size
 refine WL.nil <| ?_
 refine ⟨⟨(hk208).trans (hkw191).symm, hv209, trivial⟩, ?_⟩
 refine WH.ty 9 rfl rfl rfl rfl (fun _ _ => Pure.rd (.not rfl)) ⟨(hk208).trans (hkw191).symm, hv209, trivial⟩ rfl ?_
 refine WH.tp 10 rfl (.pkF rfl rfl rfl) ⟨(hk208).trans (hkw191).symm, hv209, trivial⟩ rfl ?_
 refine WH.done kR ?_
 refine W.condF rfl rfl ?_
 refine W.skip <| W.reg <| WL.m rfl rfl <| WL.p (.iis (((i4 + 1 : Nat) : Int)) (.add rfl rfl (i64w oO)) oO) rfl <| WL.z rfl rfl ?_
 exact ⟨i4 + 1, ⟨rfl, rfl, rfl, trivial⟩, ⟨hB210, hv209, hF205, hF206, by omega, by ((try simp only) <;> omega)⟩, by ((try simp only) <;> omega)⟩
 have h117' := dF h117
 refine W.exit <| W.sr <| WL.m rfl rfl <| WL.call hb14 rfl rfl ((pread_Trailer bf _ _ _ _ t4 (by rw [placeO_len]; exact H.len))) (fun z w211 hw211 => ?_)
 have hB215 := btr t1 hw211.2
 have hzT := (hw211.1).1
 refine WL.call hb15 rfl rfl ((r18_GetRoot _ _ _ _ hzT)) (fun zz w216 hw216 => ?_)
 have hB220 := btr hB215 hw216
 obtain ⟨⟨zk, zi, zs, zkp, zkl, zkc, zlp, zll, zlc, zdp, zdl, zdc⟩, hz1⟩ := zz
 simp only at hz1
 subst hz1
 simp only [acV]
 refine WL.m rfl rfl <| WL.p (.ext rfl rfl) rfl <| WL.p (.ext rfl rfl) rfl <| WL.alloc zeroValue28 rfl (fun b221 wb221 eb221 hkb221 hub221 hsb221 => ?_)
 have hB226 := Upd.below hB220 (by rw [eb221]; exact hB220.size) hub221
 have hgeb221 : w.heap.size ≤ b221 := by rw [eb221]; exact hB220.size
 refine WL.stL rfl rfl hkb221 isz28 rfl rfl (fun w227 hkw227 huw227 hsw227 => ?_)
 have hB231 := Upd.below hB226 oO huw227
 refine WL.z rfl rfl ?_
 refine W.sr <| WL.m rfl rfl <| WL.m rfl rfl <| WL.gd rfl rfl rfl (fun g232 => ?_) (fun g232 => ?_)
 refine WL.p (.fa underlying28 rfl sizeOf3 dD rfl) rfl <| WL.gy rfl rfl rfl g232 <| WL.r (Rd.ld (isAgg3 _) rfl hkw227 rfl) rfl <| WL.gy rfl rfl rfl g232 <| WL.p (.bis (true) (.eql rfl rfl) dD) rfl <| WL.p (.pkT rfl g232 rfl) rfl <| WL.z rfl rfl ?_
 refine W.ret (W.ret1 rfl rfl ?_)
 first | exact ⟨rfl, hB231⟩ | contradiction
 refine WL.gn rfl rfl rfl g232 <| WL.gn rfl rfl rfl g232 <| WL.p (.pkF rfl g232 rfl) rfl <| WL.z rfl rfl ?_
 refine W.ret (W.ret1 rfl rfl ?_)
 first | exact ⟨rfl, hB231⟩ | contradiction
end
section
open Go.ChangeShapes Go.WideShapes Go.ChangeAt Go.RowKit
theorem own : ownKnob Tryz.prog.godebug = none := by kernel_rfl
theorem laidOut : laidOutB Tryz.prog = true := by kernel_rfl
def firstCells : Array Value := (Go.Pinned.utf8FirstZ.map fun (n : Nat) => Value.int .u8 (n : Int)).toArray
def rangeCells : Array Value := #[.int .u8 128, .int .u8 191, .int .u8 160, .int .u8 191, .int .u8 128, .int .u8 159, .int .u8 144, .int .u8 191, .int .u8 128, .int .u8 143, .int .u8 0, .int .u8 0, .int .u8 0, .int .u8 0, .int .u8 0, .int .u8 0, .int .u8 0, .int .u8 0, .int .u8 0, .int .u8 0, .int .u8 0, .int .u8 0, .int .u8 0, .int .u8 0, .int .u8 0, .int .u8 0, .int .u8 0, .int .u8 0, .int .u8 0, .int .u8 0, .int .u8 0, .int .u8 0]
def putCells (cs : Array Value) : Obj → Obj
 | .cells _ t frozen => .cells cs t frozen
 | o => o
/-- a world for a witness: the settled one, the two tables (blocks 1 and 2) holding what their initialisers lay -/
noncomputable def laidWorld (os : Os) : World :=
 { World.holding Tryz.prog os ⟨#[], #[], []⟩ with heap := ((World.holding Tryz.prog os ⟨#[], #[], []⟩).heap.modify 1 (putCells firstCells)).modify 2 (putCells rangeCells) }
end
section
open Go.ChangeShapes Go.WideShapes Go.ChangeAt Go.RowKit
open Go.ChangeMaps (open_string shut_string)
set_option maxRecDepth 100000 in
theorem contract_PreadApart (H : Type) (enc : TypeId × Value → H) (W : World) (base : Nat) (args : Array Value) (ds gs : List (DataW H)) (before : List MemPlace)
  (hval : ∀ (j : Nat) t v, Tryz.f5.params[j]? = some t → args[j]? = some v → Value.okWide Tryz.prog W .any base t v)
  (hW : DataW.Whole enc Tryz.prog Tryz.f5.params.toList Rows.preadApartSpec.vars false W args.toList ds gs before) (hcd : Rows.uptoBulkAll (ds ++ gs) ≤ 1048576) :
  Calls Tryz.prog 5 args W fun e W' => ∃ v, e = .returned v ∧ Rows.preadApartSpec.post enc Tryz.prog Tryz.f5 false true false false W args v W' := by
 have hW' := hW
 obtain ⟨p, q, hA0, hV, rfl, hfz, hnd⟩ := hW
 have hA : DataW.TrodAll enc Tryz.prog W 0 (fun _ => true) true Tryz.f5.params.toList args.toList ds p := hA0
 rw [Tryz.params5] at hA hval
 obtain ⟨v0, vs0, d0, ds0, p0, q0, hargs0, rfl, rfl, h0, r0⟩ := trodAll_cons hA
 obtain ⟨v1, vs1, d1, ds1, p1, q1, hargs1, rfl, rfl, h1, r1⟩ := trodAll_cons r0
 obtain ⟨rfl, rfl, rfl⟩ := trodAll_nil r1
 obtain rfl : args = #[v0, v1] := by cases args; simp_all
 obtain ⟨rfl, rfl⟩ := trodVars_none hV
 simp only [List.append_nil, Rows.uptoBulkAll] at hcd
 obtain ⟨a0, n0, k0, rfl⟩ := okWide_slice underlying22 (hval 0 22 v0 rfl rfl)
 have hh0 := h0
 obtain ⟨fu0, ft0⟩ := hh0
 obtain ⟨p0, ys0, os0, c0, ec0, hr0, hc0, hm0, hA0, hb0⟩ := open_pobjs ft0
 have hb0 : bkL os0 + 1 ≤ Rows.uptoBulk d0 := hb0
 simp only [Value.cells, List.cons.injEq, and_true, Value.slice.injEq] at ec0
 obtain ⟨rfl, rfl, rfl⟩ := ec0
 obtain ⟨s1, rfl, rfl, rfl, hm1⟩ := open_int underlying3 (hval 1 3 v1 rfl rfl) h1
 clear hA0
 simp only [List.append_nil] at hW'
 refine (law_PreadApart a0 ys0 os0 k0 s1 W hr0 hc0 hA0 oO hm1).mono fun e W' ⟨he, bel⟩ => ?_
 subst he
 exact ⟨_, rfl, _, _, _, [], _, [], hW', trodAll_mk1 (shut_bool underlying4 _), (trodAll_cons_mk (trod_keep laidOut kR kR h0 bel (fun x hx => hW'.lt x (by first | exact hx | (simp only [List.mem_append]; simp_all)))) (trodAll_cons_mk (shut_int underlying3 hm1) trodAll_mk0)), rfl, bel.frame _, fun h => by cases h⟩
theorem laid_met_PreadApart (os : Os) : laidMet Tryz.prog Rows.preadApartUptoRow.laid ((laidWorld os).forCall (fun _ _ => 0) ⟨#[], #[.slice none 0 0, .int .i64 0], []⟩).memory :=
 laidMet_of_run' 8 kR kR
theorem reads_PreadApart (os : Os) {H : Type} (enc : TypeId × Value → H) : ∃ places, DataW.whole enc Tryz.prog ((laidWorld os).forCall (fun _ _ => 0) ⟨#[], #[.slice none 0 0, .int .i64 0], []⟩).memory Tryz.f5.params.toList Rows.preadApartSpec.vars false #[Value.slice none 0 0, .int .i64 0].toList 8 = some ([.nil, .lit (.int .i64 0)], [], places) :=
 ⟨[], by kernel_rfl⟩
set_option maxRecDepth 100000 in
theorem lifted_PreadApart (os : Os) (started : os.Started) (H : Type) (enc : TypeId × Value → H) (F : Stop.Interp) :
    ReturnsInHanded {} Tryz.checked os 5 .any ((Rows.OpenSpec.upto Rows.preadApartSpec).preRow enc Tryz.prog Tryz.f5 Rows.preadApartUptoRow.domain false Rows.preadApartUptoRow.laid) (((Rows.OpenSpec.upto Rows.preadApartSpec).at F).post enc Tryz.prog Tryz.f5 false true false false) := by
  obtain ⟨places, hx⟩ := reads_PreadApart os enc
  refine returnsInHanded_of_row (C := Tryz.checked) (s := Rows.OpenSpec.upto Rows.preadApartSpec) own started kR func5
    (witness_row_at (enc := enc) (C := Tryz.checked) false (laidWorld os) #[.slice none 0 0, .int .i64 0] rfl kR kR kR
      (OpenSpec.preRow_of_cond 8 hx kR (fun k hk => by cases hk; rfl) kR (laid_met_PreadApart os))) ?_
  intro W base args ds gs before hval hW _ hcd _ hL _ _
  exact contract_PreadApart H enc W base args ds gs before hval hW (dT (hcd _ rfl))
theorem said_PreadApart : Rows.PreadApartUptoSaid :=
  OpenClaim.holds_of_cond 5 Tryz.f5 rfl rfl rfl rfl rfl rfl rfl ⟨rfl, rfl, rfl, rfl, rfl⟩ rfl rfl rfl rfl rfl kR func5 kR
    (dT kR) (by unfold Func.isWrapper; first | (rw [if_pos (by decide +kernel)]; kernel_rfl) | (rw [if_neg (by decide +kernel)]; exact ⟨rfl, rfl⟩))
    (fun os started H enc _ F => by rw [OpenClaim.pre_eq_preRow]; exact lifted_PreadApart os started H enc F)
theorem plain_PreadApart (f : FuncId) (fn : Func) (hf : Tryz.pinned.checked.prog.funcNamed "mezzotint/mezzotintlaw23.PreadApart" = some f) (hfn : Tryz.pinned.checked.prog.funcs[f]? = some fn) :
  true = Tryz.pinned.checked.prog.looks [] ∧ ∀ (j : Nat) t, fn.params[j]? = some t → Tryz.pinned.checked.prog.wantsStandIn t = false := by
 obtain rfl : f = 5 := Option.some.inj ((show Tryz.prog.funcNamed "mezzotint/mezzotintlaw23.PreadApart" = some 5 by kernel_rfl).symm.trans hf) |>.symm
 obtain rfl : fn = Tryz.f5 := (Option.some.inj (func5.symm.trans hfn)).symm
 refine ⟨by kernel_rfl, fun j t ht => ?_⟩
 rw [Tryz.params5] at ht
 have hmem := Array.mem_of_getElem? ht
 simp only [List.mem_toArray, List.mem_cons, List.not_mem_nil, or_false] at hmem
 rcases hmem with rfl | rfl
 ·
  exact (show Tryz.prog.wantsStandIn 22 = false by kernel_rfl)
 ·
  exact (show Tryz.prog.wantsStandIn 3 = false by kernel_rfl)
/-- THE CARD -/
theorem PreadApart_holds : Rows.PreadApartUptoCardSaid :=
 Claim7.holds_tied_plain_at .later [] _ _ _ _ said_PreadApart (fun _ h => by cases h) kR (fun _ h => by cases h) preadApartUpto_row_tie rfl ⟨rfl, rfl⟩ kR rfl plain_PreadApart kR
#print axioms PreadApart_holds
end
end Go.Proofs.YthljhjcndpnleaaGreatDoor
