/-
  What the claim leans on, part 5: pruned and joined by my own tool out of the texts that stand in wip/ as templates.
-/
import Derived.Test.YthljhjcndpnleaaGreatDoorPa4
namespace Go.Proofs.YthljhjcndpnleaaGreatDoor
open Go.RowKit
open Go.Proofs.Tryz
section
/-- an object's own rows -/
def ARow (S : Nat → Prop) (w : World) (v : Value) (cs : List AC) : Prop := OwnM acL 28 0 w v cs ∧ ∀ g, v.ownBlock = some g → S g
theorem ARow.same {S : Nat → Prop} {w w1 : World} {v : Value} {l : List AC} (h : ARow S w v l) (hb : ∀ k, S k → k < w.heap.size → w1.heap[k]? = w.heap[k]?) : ARow S w1 v l := ⟨h.1.same fun g hg => hb g (h.2 g hg) (h.1.lt g hg).2, h.2⟩
theorem ARow.mono {S T : Nat → Prop} {w : World} {v : Value} {l : List AC} (h : ARow S w v l) (hT : ∀ k, S k → k < w.heap.size → T k) : ARow T w v l := ⟨h.1, fun g hg => hT g (h.2 g hg) (h.1.lt g hg).2⟩
theorem StrsAt.mono {S T : Nat → Prop} {w : World} {v : Value} {l : List (List UInt8)} (h : StrsAt S w v l) (hT : ∀ k, S k → k < w.heap.size → T k) : StrsAt T w v l := ⟨h.1, fun g hg => hT g (h.2 g hg) (h.1.lt g hg).2⟩
theorem ownAC {e : TypeId} {B : Nat} {w : World} {v : Value} {cs : List PC} (h : OwnM pcL e B w v cs) : OwnM acL e B w v (cs.map acOf) := by
  have hf : acL.flat (cs.map acOf) = pcL.flat cs := by
    unfold Lay.flat
    rw [List.flatMap_map]; rfl
  rcases h with ⟨h1, h2⟩ | ⟨g, cap, cur, h1, h2, h3, h4, h5, h6, h7⟩
  · exact .inl ⟨h1, by rw [h2]; rfl⟩
  · refine .inr ⟨g, cap, cur, by rw [List.length_map]; exact h1, h2, h3, by rw [List.length_map]; exact h4, h5, h6, ?_⟩
    rw [List.length_map, hf]; exact h7
structure Tops (w : World) (S : Nat → Prop) (z : AC) : Prop where
 k : ∃ ks, StrsAt S w (.slice z.kp z.kl z.kc) ks
 l : ∃ cs, ARow S w (.slice z.lp z.ll z.lc) cs
 d : ∃ d, DOwn S w (.slice z.dp z.dl z.dc) d
theorem Tops.same {w w1 : World} {S : Nat → Prop} {z : AC} (h : Tops w S z) (hb : ∀ k, S k → k < w.heap.size → w1.heap[k]? = w.heap[k]?) : Tops w1 S z := ⟨h.k.imp fun _ q => q.same hb, h.l.imp fun _ q => q.same hb, h.d.imp fun _ q => q.same hb⟩
theorem Tops.mono {w : World} {S T : Nat → Prop} {z : AC} (h : Tops w S z) (hb : ∀ k, S k → k < w.heap.size → T k) : Tops w T z := ⟨h.k.imp fun _ q => q.mono hb, h.l.imp fun _ q => q.mono hb, h.d.imp fun _ q => q.mono hb⟩
theorem PRep.tops {w : World} {S : Nat → Prop} {x : PC} {o : PV} (h : PRep w S x o) : Tops w S (acOf x) := by
 cases h with
 | mk _ keys list cs hk hr hlen hsub => exact ⟨⟨keys, hk⟩, ⟨_, ownAC hr.1, hr.2⟩, ⟨[], DOwn.nil _ _⟩⟩
/-- an object with rows of its own -/
def ATop (w : World) (S : Nat → Prop) (z : AC) (o : AV) : Prop := ARep w S z o ∧ Tops w S z
theorem ATop.same {w w1 : World} {S : Nat → Prop} {z : AC} {o : AV} (h : ATop w S z o) (hb : ∀ k, S k → k < w.heap.size → w1.heap[k]? = w.heap[k]?) : ATop w1 S z o := ⟨h.1.same hb, h.2.same hb⟩
theorem ATop.mono {w : World} {S T : Nat → Prop} {z : AC} {o : AV} (h : ATop w S z o) (hb : ∀ k, S k → k < w.heap.size → T k) : ATop w T z o := ⟨h.1.mono hb, h.2.mono hb⟩
def kLen : List UInt8 := [76, 101, 110, 103, 116, 104]
theorem PRep.nE {w : World} {S : Nat → Prop} {x : PC} {k n : Int} {t : List UInt8} {ks : List (List UInt8)} {l : List PV} (h : PRep w S x (.mk k n t ks l)) : x.n = n := h.parts.choose_spec.2.1
theorem pread_length (f : Value) (y : PC) (S : Nat → Prop) (ks : List (List UInt8)) (vs : List PV) (m : Nat) (w : World) (hy : PRep w S y (.mk 7 0 [] (ks ++ [kLen]) (vs ++ [pv0 2 (m : Int) []]))) (hn : kLen ∉ ks) (hl : ks.length ≤ 100000) (hkl : ks.length = vs.length) :
  Calls Tryz.prog 57 #[f, .agg (pcV y).toArray] w fun e w' => e = .returned (.int .i64 (m : Int)) ∧ Below w.heap.size w w' := by
 obtain ⟨cs, -, -, -, hk, hr, hlen, hsub⟩ := hy.parts
 obtain ⟨k1, k2, k3, k4, -⟩ := hk.1.full
 obtain ⟨r1, r2, r3, r4, -⟩ := hr.1.full
 have k5 := k4.strs
 have e1 : (ks ++ [kLen]).length = ks.length + 1 := by simp
 have e2 : (vs ++ [pv0 2 (m : Int) []]).length = vs.length + 1 := by simp
 have hz : PRep w S (cs[ks.length]'oO) (pv0 2 (m : Int) []) := by
  have := hsub ks.length oO oO
  rwa [List.getElem_append_right oO, show (pv0 2 (m : Int) [] :: [])[ks.length - vs.length]'(by simp; omega) = pv0 2 (m : Int) [] by simp] at this
 have hz1 := hz.kindE
 have hz2 := hz.nE
 obtain ⟨yk, yn, yt, ykp, ykl, ykc, ylp, yll, ylc⟩ := y
 simp only at k1 r1 k5 r4 k2 r2
 subst k1 r1
 refine W.enter func57 rfl ntmps57 (Nat.le_of_ble_eq_true rfl) ?_
 have hB0 := Below.refl (w.heap.size) w
 refine W.sr <| WL.box rfl rfl (fun b1 wb1 eb1 hkb1 hub1 hsb1 => ?_)
 have hvl3 := fun h0 => eb1 ▸ k5.lt h0
 have hv2 := RowAt.upd k5 hub1 (fun h0 => Nat.ne_of_lt (hvl3 h0))
 have hvl5 := fun h0 => eb1 ▸ r4.lt h0
 have hv4 := RowM.upd r4 hub1 (fun h0 => Nat.ne_of_lt (hvl5 h0))
 have hB6 := Upd.below hB0 (by rw [eb1]; exact hB0.size) hub1
 have hgeb1 : w.heap.size ≤ b1 := by rw [eb1]; exact hB0.size
 refine WL.z rfl rfl ?_
 refine W.sr <| WL.p (.fa underlying28 rfl sizeOf25 dD rfl) rfl <| WL.r (Rd.ld (isAgg25 _) rfl hkb1 rfl) rfl <| WL.c1 hb72 rfl rfl ((lib_idxN _ (ks ++ [kLen]) _ kLen _ hv2 oO ks.length oO (by simp) (by simpa using hn))) (fun w7 hw7 => ?_)
 obtain rfl := hw7
 refine WL.z rfl rfl ?_
 refine W.seq <| W.sr <| WL.m rfl rfl <| WL.p (.bis (false) (.lss rfl rfl) (by exact decide_eq_false oO)) rfl <| WL.nil <| ?_
 refine W.condF rfl rfl ?_
 refine W.skip <| W.sr <| WL.p (.fa underlying28 rfl sizeOf22 dD rfl) rfl <| WL.r (Rd.ld (isAgg22 _) rfl hkb1 rfl) rfl <| WL.m rfl rfl <| WL.p (.ixm underlying22 sizeOf28 rfl rfl (hv4.isp (by first | omega | (simp only [List.length_cons, List.length_nil]; omega))) (ks.length) (rfl) (by show ks.length < cs.length; omega)) rfl <| WL.r (Rd.ldS underlying28 rfl isz28 hv4 (ks.length) (by first | omega | (simp only [List.length_cons, List.length_nil]; omega)) rfl) rfl <| WL.alloc zeroValue28 rfl (fun b8 wb8 eb8 hkb8 hub8 hsb8 => ?_)
 have hl10 : b1 < b8 := by rw [eb8]; exact hkb1.lt
 have hB15 := Upd.below hB6 (by rw [eb8]; exact hB6.size) hub8
 have hgeb8 : w.heap.size ≤ b8 := by rw [eb8]; exact hB6.size
 refine WL.stL rfl rfl hkb8 isz28 rfl rfl (fun w16 hkw16 huw16 hsw16 => ?_)
 have hB20 := Upd.below hB15 oO huw16
 refine WL.nil <| ?_
 refine W.seq <| W.sr <| WL.p (.fa underlying28 rfl sizeOf3 dD rfl) rfl <| WL.r (Rd.ld (isAgg3 _) rfl hkw16 rfl) rfl <| WL.p (.bis (false) (.eql rfl rfl) (by rw [hz1]; rfl)) rfl <| WL.nil <| ?_
 refine W.condF rfl rfl ?_
 refine W.skip <| W.seq <| W.sr <| WL.p (.fa underlying28 rfl sizeOf3 dD rfl) rfl <| WL.r (Rd.ld (isAgg3 _) rfl hkw16 rfl) rfl <| WL.p (.bis (false) (.neq rfl rfl) (by rw [hz1]; rfl)) rfl <| WL.m rfl rfl <| WL.gy rfl rfl rfl rfl <| WL.p (.fa underlying28 rfl sizeOf3 dD rfl) rfl <| WL.gy rfl rfl rfl rfl <| WL.r (Rd.ld (isAgg3 _) rfl hkw16 rfl) rfl <| WL.gy rfl rfl rfl rfl <| WL.p (.bis (false) (.lss rfl rfl) (by rw [hz2]; exact decide_eq_false oO)) rfl <| WL.p (.pkF rfl rfl rfl) rfl <| WL.nil <| ?_
 refine W.condF rfl rfl ?_
 refine W.skip <| W.sr <| WL.p (.fa underlying28 rfl sizeOf3 dD rfl) rfl <| WL.r (Rd.ld (isAgg3 _) rfl hkw16 rfl) rfl <| WL.z rfl rfl ?_
 refine W.ret (W.ret1 rfl rfl ?_)
 exact ⟨rvE (show Value.int .i64 (cs[ks.length]'oO).n = .int .i64 (m : Int) by rw [hz2]), hB20⟩
theorem pPart_ne {p : Option Addr} {c a : Nat} (h : p = some (pA p)) : pPart p c a ≠ none := by
 unfold pPart
 rw [h]; split <;> simp
def f_str : List UInt8 := [115, 116, 114, 101, 97, 109]
def f_est : List UInt8 := [101, 110, 100, 115, 116, 114, 101, 97, 109]
theorem key_len {ks : List (List UInt8)} (hn : kLen ∉ ks) (i : Nat) (hi : i < (ks ++ [kLen]).length) : (!decide ((ks ++ [kLen])[i] = [76, 101, 110, 103, 116, 104])) = !decide (ks.length ≤ i) := by
  congr 1
  by_cases h : ks.length ≤ i
  · have e : (ks ++ [kLen])[i] = kLen := by
      rw [List.getElem_append_right h]
      simp
    rw [e, decide_eq_true h]; rfl
  · rw [decide_eq_false h, decide_eq_false_iff_not, List.getElem_append_left oO]
    exact fun q => hn (by rw [show kLen = ks[i]'oO from q.symm]; exact List.getElem_mem _)
theorem key_at {ks : List (List UInt8)} (i : Nat) (hi : i < ks.length) (hi2 : i < (ks ++ [kLen]).length) : ks.take i ++ [(ks ++ [kLen])[i]] = ks.take (i + 1) := by
 rw [List.getElem_append_left hi, List.take_succ_eq_append_getElem hi]
theorem OwnM.cast {α : Type} {L : Lay α} {e : TypeId} {B : Nat} {w : World} {v : Value} {l l' : List α} (h : OwnM L e B w v l) (q : l = l') : OwnM L e B w v l' := q ▸ h
theorem row_at {α : Type} {cs : List α} {n i : Nat} (hi : i < n) (hn : n ≤ cs.length) : (cs.take n).take i ++ [cs[i]'oO] = (cs.take n).take (i + 1) := by
 have h := List.take_succ_eq_append_getElem (l := cs.take n) (i := i) (by rw [List.length_take]; omega)
 rw [List.getElem_take] at h
 exact h.symm
theorem strm_rep {w : World} {S : Nat → Prop} {M nk ck nl cl dc : Nat} {pk pl dp : Option Addr} {ks : List (List UInt8)} {cs : List PC} {vs : List AV} {d : List UInt8} (hk : OwnM strL 9 M w (.slice pk nk ck) ks) (hr : OwnM pcL 28 M w (.slice pl nl cl) cs) (hSM : ∀ g, M ≤ g → S g)
  (hkk : ∀ k ∈ ks, k.length ≤ 127) (hd : BytesAt w dp d) (hdS : 0 < d.length → S (pA dp).block) (hdc : d.length ≤ dc) (hdm : dc ≤ 9223372036854775807) (hlen : cs.length = vs.length) (hsub : ∀ i (h : i < cs.length) (h2 : i < vs.length), PRep w S cs[i] (pvO vs[i])) (hsnd : ∀ o ∈ vs, Snd 31 false o) :
  ARep w S ⟨9, 0, [], pk, nk, ck, pl, nl, cl, dp, d.length, dc⟩ (.mk 9 0 [] ks vs d) := by
 obtain ⟨k1, k2, k3, k4, k5⟩ := hk.full
 obtain ⟨r1, r2, r3, r4, r5⟩ := hr.full
 refine ARep.mk ⟨9, 0, [], pk, nk, ck, pl, nl, cl, dp, d.length, dc⟩ ks vs d (cs.map acOf) ⟨by simp, by simp, k1, by rw [List.length_map]; exact r1, rfl, k2, by rw [List.length_map]; exact r2, hdc, k3, r3, hdm⟩ (fun k h => by have := hkk k h; omega) k4.strs (fun h0 => hSM _ (hk.lt _ (k5 h0)).1) (rowOf r4) (fun h0 => hSM _ (hr.lt _ (r5 (by simpa using h0))).1) hd hdS (by simpa using hlen) fun i h h2 => ?_
 rw [List.getElem_map]
 have ho := hsnd _ (List.getElem_mem h2)
 have := (hsub i (by simpa using h) h2).rep (pwf_snd ho)
 rwa [av_pv ho (snd_no9 ho)] at this
/-- what stands behind the word -/
theorem pread_stream (f : Value) (br B : Nat) (p : Option Addr) (l : List UInt8) (c : Nat) (y : PC) (ks : List (List UInt8)) (vs : List AV) (d X : List UInt8) (w : World) (h : Blk w br (rdC p l c (sx l (10 :: (d ++ (10 :: (f_est ++ (10 :: X))))))) 57) (hb : BytesAt w p l) (hc : l.length ≤ c) (hl : l.length ≤ 100000000) (hpb : 0 < l.length → (pA p).block ≠ br)
    (hs : (10 :: (d ++ (10 :: (f_est ++ (10 :: X))))) <:+ l) (hy : PRep w (fun k => B ≤ k ∧ br < k) y (.mk 7 0 [] (ks ++ [kLen]) (pvL vs ++ [pv0 2 (d.length : Int) []]))) (hB : B ≤ w.heap.size) (hn : kLen ∉ ks) (hkk : ∀ k ∈ ks, k.length ≤ 127) (hkl : ks.length = vs.length) (hvl : vs.length ≤ 100) (hd : d.length ≤ 1048576)
    (hsnd : ∀ o ∈ vs, Snd 31 false o) :
    Calls Tryz.prog 35 #[f, .pointer (some ⟨br, 0, none⟩), .agg (pcV y).toArray] w fun e w' => ∃ z : AC, e = .returned (.agg (acV z).toArray) ∧ ATop w' (fun k => B ≤ k) z (.mk 9 0 [] ks vs d) ∧ KeepB w.heap.size [br] w w' ∧ Blk w' br (rdC p l c (sx l (10 :: X))) 57 := by
  have s1 := sfx_cons hs
  have s2 := sfx_of s1
  have a1 := sx_add (A := [10]) hs
  have a2 := sx_add s1
  have l1 := sx_len s1
  have l0 := sx_len hs
  simp only [List.length_append, List.length_cons, List.length_nil] at l1 l0 a1
  have hyl : PRep w (fun k => (B ≤ k ∧ br < k) ∧ k < w.heap.size) y (.mk 7 0 [] (ks ++ [kLen]) (pvL vs ++ [pv0 2 (d.length : Int) []])) := hy.mono fun k hk hlt => ⟨hk, hlt⟩
  obtain ⟨cs, hyk, hyn, hyt, hk, hr, hlen, hsub⟩ := hyl.parts
  have hLen := fun (w1 : World) (h1 : Below w.heap.size w w1) => h1
  obtain ⟨k1, k2, k3, k4, -⟩ := hk.1.full
  obtain ⟨r1, r2, r3, r4, -⟩ := hr.1.full
  have k5 := k4.strs
  have e1 : (ks ++ [kLen]).length = ks.length + 1 := by simp
  have e2 : (pvL vs ++ [pv0 2 (d.length : Int) []]).length = vs.length + 1 := by rw [pvL_map]; simp
  have hnl : decide (d.length ≤ 9223372036854775807) = true := decide_eq_true oO
  have hinv : LInv w (fun k => (B ≤ k ∧ br < k) ∧ k < w.heap.size) cs (pvL vs ++ [pv0 2 (d.length : Int) []]) := ⟨hlen, hsub⟩
  obtain ⟨yk, yn, yt, ykp, ykl, ykc, ylp, yll, ylc⟩ := y
  simp only at k1 r1 k5 r4 k2 r2
  subst k1 r1
  have hbl := h.lt
  have k6 := hk.1.full.2.2.2.2
  have r6 := hr.1.full.2.2.2.2
  have hkx : 0 < (ks ++ [kLen]).length → (B ≤ (pA ykp).block ∧ br < (pA ykp).block) ∧ (pA ykp).block < w.heap.size := fun h0 => hk.2 _ (k6 h0)
  have hlx : 0 < cs.length → (B ≤ (pA ylp).block ∧ br < (pA ylp).block) ∧ (pA ylp).block < w.heap.size := fun h0 => hr.2 _ (r6 h0)
  refine W.enter func35 rfl ntmps35 (Nat.le_of_ble_eq_true rfl) ?_
  have hB0 := KeepB.refl w.heap.size ([br]) w
  refine W.sr <| WL.box rfl rfl (fun b1 wb1 eb1 hkb1 hub1 hsb1 => ?_)
  have hF2 := LInv.same (w1 := wb1) hinv (fun k hk hl => hub1.other k oO)
  have hF3 := PRep.same (w1 := wb1) hyl (fun k hk hl => hub1.other k oO)
  have hl5 : br < b1 := by rw [eb1]; exact h.lt
  have hk4 := h.upd hub1 (Nat.ne_of_lt hl5)
  have hvl7 := fun h0 => eb1 ▸ hb.lt h0
  have hv6 := bup hb hub1 hvl7
  have hvl9 := fun h0 => eb1 ▸ k5.lt h0
  have hv8 := RowAt.upd k5 hub1 (fun h0 => Nat.ne_of_lt (hvl9 h0))
  have hvl11 := fun h0 => eb1 ▸ r4.lt h0
  have hv10 := RowM.upd r4 hub1 (fun h0 => Nat.ne_of_lt (hvl11 h0))
  have hgeb1 : w.heap.size ≤ b1 := by rw [eb1]; exact hB0.size
  have hB12 := KeepB.trans hB0 (KeepB.of_new hub1 hgeb1)
  refine WL.alloc zeroValue28 rfl (fun b13 wb13 eb13 hkb13 hub13 hsb13 => ?_)
  have hF14 := LInv.same (w1 := wb13) hF2 (fun k hk hl => hub13.other k oO)
  have hF15 := PRep.same (w1 := wb13) hF3 (fun k hk hl => hub13.other k oO)
  have hl17 : br < b13 := by rw [eb13]; exact hk4.lt
  have hk16 := hk4.upd hub13 (Nat.ne_of_lt hl17)
  have hl19 : b1 < b13 := by rw [eb13]; exact hkb1.lt
  have hk18 := hkb1.upd hub13 (Nat.ne_of_lt hl19)
  have hvl21 := fun h0 => eb13 ▸ hv6.lt h0
  have hv20 := bup hv6 hub13 hvl21
  have hvl23 := fun h0 => eb13 ▸ hv8.lt h0
  have hv22 := RowAt.upd hv8 hub13 (fun h0 => Nat.ne_of_lt (hvl23 h0))
  have hvl25 := fun h0 => eb13 ▸ hv10.lt h0
  have hv24 := RowM.upd hv10 hub13 (fun h0 => Nat.ne_of_lt (hvl25 h0))
  have hgeb13 : w.heap.size ≤ b13 := by rw [eb13]; exact hB12.size
  have hB26 := KeepB.trans hB12 (KeepB.of_new hub13 hgeb13)
  refine WL.nil <| ?_
  refine W.seq <| W.regH 10 rfl mixed (fun w' => w'.heap[br]? = wb13.heap[br]? ∧ True) (fun w27 dw27 => ?_)
  have hF28 := LInv.same (w1 := w27) hF14 (fun k hk hl => (by obtain ⟨m, rfl⟩ := dw27; rfl))
  have hF29 := PRep.same (w1 := w27) hF15 (fun k hk hl => (by obtain ⟨m, rfl⟩ := dw27; rfl))
  have hk30 := hk16.drew dw27
  have hk31 := hk18.drew dw27
  have hk32 := hkb13.drew dw27
  have hv33 := hv20.drew dw27
  have hv34 := hv22.drew dw27
  have hv35 := hv24.drew dw27
  have hB36 := KeepB.trans hB26 (KeepB.of_drew dw27)
  refine WH.tp 0 rfl (.mv rfl) ⟨(hk30).trans (hk16).symm, trivial⟩ rfl ?_
  refine WH.tp 1 rfl (.nck rfl) ⟨(hk30).trans (hk16).symm, trivial⟩ rfl ?_
  refine WH.tp 2 rfl (.fa underlying57 rfl sizeOf26 dD rfl) ⟨(hk30).trans (hk16).symm, trivial⟩ rfl ?_
  refine WH.tk 3 rfl (fun w' hw' => Rd.ld (isAgg26 _) rfl ((hw'.1).trans hk16) rfl) ⟨(hk30).trans (hk16).symm, trivial⟩ rfl ?_
  refine WH.tp 4 rfl (.mv rfl) ⟨(hk30).trans (hk16).symm, trivial⟩ rfl ?_
  refine WH.tp 5 rfl (.nck rfl) ⟨(hk30).trans (hk16).symm, trivial⟩ rfl ?_
  refine WH.tp 6 rfl (.fa underlying57 rfl sizeOf3 dD rfl) ⟨(hk30).trans (hk16).symm, trivial⟩ rfl ?_
  refine WH.tk 7 rfl (fun w' hw' => Rd.ld (isAgg3 _) rfl ((hw'.1).trans hk16) rfl) ⟨(hk30).trans (hk16).symm, trivial⟩ rfl ?_
  refine WH.tp 8 rfl (.slbF underlying26 sizeOf5 rfl rfl  (sx l (10 :: (d ++ (10 :: (f_est ++ (10 :: X)))))) (rfl) (sx_le _ _)) ⟨(hk30).trans (hk16).symm, trivial⟩ rfl ?_
  refine WH.tp 9 rfl (.as rfl) ⟨(hk30).trans (hk16).symm, trivial⟩ rfl ?_
  refine WH.done kR ?_
  refine W.seq <| W.block <| W.sr <| WL.m rfl rfl <| WL.bsl (ps := _) underlying26 sizeOf5 zeroValue5 rfl rfl rfl rfl rfl pR rfl (fun b37 wb37 eb37 hkb37 hub37 hsb37 => ?_)
  have hF38 := LInv.same (w1 := wb37) hF28 (fun k hk hl => hub37.other k oO)
  have hF39 := PRep.same (w1 := wb37) hF29 (fun k hk hl => hub37.other k oO)
  have hl41 : br < b37 := by rw [eb37]; exact hk30.lt
  have hk40 := hk30.upd hub37 (Nat.ne_of_lt hl41)
  have hl43 : b1 < b37 := by rw [eb37]; exact hk31.lt
  have hk42 := hk31.upd hub37 (Nat.ne_of_lt hl43)
  have hl45 : b13 < b37 := by rw [eb37]; exact hk32.lt
  have hk44 := hk32.upd hub37 (Nat.ne_of_lt hl45)
  have hvl47 := fun h0 => eb37 ▸ hv33.lt h0
  have hv46 := bup hv33 hub37 hvl47
  have hvl49 := fun h0 => eb37 ▸ hv34.lt h0
  have hv48 := RowAt.upd hv34 hub37 (fun h0 => Nat.ne_of_lt (hvl49 h0))
  have hvl51 := fun h0 => eb37 ▸ hv35.lt h0
  have hv50 := RowM.upd hv35 hub37 (fun h0 => Nat.ne_of_lt (hvl51 h0))
  have hgeb37 : w.heap.size ≤ b37 := by rw [eb37]; exact hB36.size
  have hB52 := KeepB.trans hB36 (KeepB.of_new hub37 hgeb37)
  refine WL.cvB ([13, 10]) underlying26 underlying5 rfl hkb37 rfl rfl (fun w53 hc2 huw53 hsw53 => ?_)
  have hF54 := LInv.same (w1 := w53) hF38 (fun k hk hl => huw53.other k (by first | ((try simp only) <;> omega) | (have := hk.1; ((try simp only) <;> omega))))
  have hF55 := PRep.same (w1 := w53) hF39 (fun k hk hl => huw53.other k (by first | ((try simp only) <;> omega) | (have := hk.1; ((try simp only) <;> omega))))
  have hk56 := hk40.up huw53
  have hk57 := hk42.up huw53
  have hk58 := hk44.up huw53
  have hv59 := bup hv46 huw53 hvl47
  have hv60 := RowAt.upd hv48 huw53 (fun h0 => Nat.ne_of_lt (hvl49 h0))
  have hv61 := RowM.upd hv50 huw53 (fun h0 => Nat.ne_of_lt (hvl51 h0))
  have hB62 := KeepB.trans hB52 (by first | exact KeepB.of_new huw53 oO | exact KeepB.of_mem huw53 (by simp))
  have hPx := (hv59).rest hc hs
  refine WL.c1 hb23 rfl rfl ((byt_HasPrefixB false _ (10 :: (d ++ (10 :: (f_est ++ (10 :: X))))) _ _ _ [13, 10] _ _ _ (by have := sx_len hs; omega) rfl hPx hc2 (by simp only [List.length_cons, List.length_append, List.length_nil]; omega) (by have := sx_len hs; omega) (by simp))) (fun w63 hw63 => ?_)
  obtain rfl := hw63
  refine WL.z rfl rfl ?_
  refine W.condF rfl rfl ?_
  refine W.sr <| WL.m rfl rfl <| WL.bsl (ps := _) underlying26 sizeOf5 zeroValue5 rfl rfl rfl rfl rfl pR rfl (fun b64 wb64 eb64 hkb64 hub64 hsb64 => ?_)
  have hF65 := LInv.same (w1 := wb64) hF54 (fun k hk hl => hub64.other k oO)
  have hF66 := PRep.same (w1 := wb64) hF55 (fun k hk hl => hub64.other k oO)
  have hl68 : br < b64 := by rw [eb64]; exact hk56.lt
  have hk67 := hk56.upd hub64 (Nat.ne_of_lt hl68)
  have hl70 : b1 < b64 := by rw [eb64]; exact hk57.lt
  have hk69 := hk57.upd hub64 (Nat.ne_of_lt hl70)
  have hl72 : b13 < b64 := by rw [eb64]; exact hk58.lt
  have hk71 := hk58.upd hub64 (Nat.ne_of_lt hl72)
  have hvl74 := fun h0 => eb64 ▸ hv59.lt h0
  have hv73 := bup hv59 hub64 hvl74
  have hvl76 := fun h0 => eb64 ▸ hv60.lt h0
  have hv75 := RowAt.upd hv60 hub64 (fun h0 => Nat.ne_of_lt (hvl76 h0))
  have hvl78 := fun h0 => eb64 ▸ hv61.lt h0
  have hv77 := RowM.upd hv61 hub64 (fun h0 => Nat.ne_of_lt (hvl78 h0))
  have hgeb64 : w.heap.size ≤ b64 := by rw [eb64]; exact hB62.size
  have hB81 := KeepB.trans hB62 (KeepB.of_new hub64 hgeb64)
  refine WL.cvB ([10]) underlying26 underlying5 rfl hkb64 rfl rfl (fun w82 hc1 huw82 hsw82 => ?_)
  have hF83 := LInv.same (w1 := w82) hF65 (fun k hk hl => huw82.other k (by first | ((try simp only) <;> omega) | (have := hk.1; ((try simp only) <;> omega))))
  have hF84 := PRep.same (w1 := w82) hF66 (fun k hk hl => huw82.other k (by first | ((try simp only) <;> omega) | (have := hk.1; ((try simp only) <;> omega))))
  have hk85 := hk67.up huw82
  have hk86 := hk69.up huw82
  have hk87 := hk71.up huw82
  have hv88 := bup hv73 huw82 hvl74
  have hv89 := RowAt.upd hv75 huw82 (fun h0 => Nat.ne_of_lt (hvl76 h0))
  have hv90 := RowM.upd hv77 huw82 (fun h0 => Nat.ne_of_lt (hvl78 h0))
  have hB92 := KeepB.trans hB81 (by first | exact KeepB.of_new huw82 oO | exact KeepB.of_mem huw82 (by simp))
  have hPy := (hv88).rest hc hs
  refine WL.c1 hb23 rfl rfl ((byt_HasPrefixB true _ (10 :: (d ++ (10 :: (f_est ++ (10 :: X))))) _ _ _ [10] _ _ _ (by have := sx_len hs; omega) rfl hPy hc1 (by simp only [List.length_cons, List.length_append, List.length_nil]; omega) (by have := sx_len hs; omega) (by simp))) (fun w93 hw93 => ?_)
  obtain rfl := hw93
  refine WL.z rfl rfl ?_
  refine W.condT rfl rfl ?_
  refine W.reg <| WL.m rfl rfl <| WL.p (.nck rfl) rfl <| WL.p (.fa underlying57 rfl sizeOf3 dD rfl) rfl <| WL.r (Rd.ld (isAgg3 _) rfl hk85 rfl) rfl <| WL.p (.iis ((sx l (d ++ (10 :: (f_est ++ (10 :: X)))) : Int)) (.add rfl rfl (i64w oO)) oO) rfl <| WL.p (.nck rfl) rfl <| WL.p (.fa underlying57 rfl sizeOf3 dD rfl) rfl <| WL.st sizeOf3 rfl rfl rfl hk85 oD (fun w94 hkw94 huw94 hsw94 => ?_)
  have hkw94 : Blk w94 br _ _ := hkw94
  have huw94 : Upd br _ _ := huw94
  have hF95 := LInv.same (w1 := w94) hF83 (fun k hk hl => huw94.other k (by first | ((try simp only) <;> omega) | (have := hk.1; ((try simp only) <;> omega))))
  have hF96 := PRep.same (w1 := w94) hF84 (fun k hk hl => huw94.other k (by first | ((try simp only) <;> omega) | (have := hk.1; ((try simp only) <;> omega))))
  have hk97 := hk86.up huw94
  have hk98 := hk87.up huw94
  have hv99 := BytesAt.upd hv88 huw94 (hpb)
  have hv100 := RowAt.upd hv89 huw94 ((fun h0 => by have := hkx h0; omega))
  have hv101 := RowM.upd hv90 huw94 ((fun h0 => by have := hlx h0; omega))
  have hB104 := KeepB.trans hB92 (by first | exact KeepB.of_new huw94 oO | exact KeepB.of_mem huw94 (by simp))
  refine WL.nil <| ?_
  refine W.sr <| WL.m rfl rfl <| ?_
  have hyc := hF96
  refine WL.r (Rd.ldA rfl hk97 underlying28 rfl isz28) rfl <| WL.c1 hb57 rfl rfl ((pread_length f _ _ ks (pvL vs) d.length _ hyc hn oO (by rw [pvL_map]; simpa using hkl))) (fun w105 hw105 => ?_)
  have hF106 := LInv.same (w1 := w105) hF95 (fun k hk hl => hw105.block k hl)
  have hk108 := hkw94.below hw105 hkw94.lt
  have hk109 := hk97.below hw105 hk97.lt
  have hk110 := hk98.below hw105 hk98.lt
  have hv111 := BytesAt.below hv99 hw105 (fun h0 => hv99.lt h0)
  have hv112 := RowAt.below hv100 hw105 (fun h0 => hv100.lt h0)
  have hv113 := RowM.below hv101 hw105 (fun h0 => hv101.lt h0)
  have hB116 := KeepB.trans hB104 (KeepB.of_below hw105 hB104.size)
  refine WL.z rfl rfl ?_
  refine W.seq <| W.seq <| W.regH 12 rfl mixed (fun w' => w'.heap[br]? = w105.heap[br]? ∧ True) (fun w117 dw117 => ?_)
  have hF118 := LInv.same (w1 := w117) hF106 (fun k hk hl => (by obtain ⟨m, rfl⟩ := dw117; rfl))
  have hk120 := hk108.drew dw117
  have hk121 := hk109.drew dw117
  have hk122 := hk110.drew dw117
  have hv123 := hv111.drew dw117
  have hv124 := hv112.drew dw117
  have hv125 := hv113.drew dw117
  have hB128 := KeepB.trans hB116 (KeepB.of_drew dw117)
  refine WH.tp 0 rfl (.mv rfl) ⟨(hk120).trans (hk108).symm, trivial⟩ rfl ?_
  refine WH.tp 1 rfl (.mv rfl) ⟨(hk120).trans (hk108).symm, trivial⟩ rfl ?_
  refine WH.tp 2 rfl (.nck rfl) ⟨(hk120).trans (hk108).symm, trivial⟩ rfl ?_
  refine WH.tp 3 rfl (.fa underlying57 rfl sizeOf26 dD rfl) ⟨(hk120).trans (hk108).symm, trivial⟩ rfl ?_
  refine WH.tk 4 rfl (fun w' hw' => Rd.ld (isAgg26 _) rfl ((hw'.1).trans hk108) rfl) ⟨(hk120).trans (hk108).symm, trivial⟩ rfl ?_
  refine WH.tp 5 rfl (.lenS underlying26 rfl) ⟨(hk120).trans (hk108).symm, trivial⟩ rfl ?_
  refine WH.tp 6 rfl (.mv rfl) ⟨(hk120).trans (hk108).symm, trivial⟩ rfl ?_
  refine WH.tp 7 rfl (.nck rfl) ⟨(hk120).trans (hk108).symm, trivial⟩ rfl ?_
  refine WH.tp 8 rfl (.fa underlying57 rfl sizeOf3 dD rfl) ⟨(hk120).trans (hk108).symm, trivial⟩ rfl ?_
  refine WH.tk 9 rfl (fun w' hw' => Rd.ld (isAgg3 _) rfl ((hw'.1).trans hk108) rfl) ⟨(hk120).trans (hk108).symm, trivial⟩ rfl ?_
  refine WH.tp 10 rfl (.sub rfl rfl (i64w oO)) ⟨(hk120).trans (hk108).symm, trivial⟩ rfl ?_
  refine WH.tp 11 rfl (.bis (false) (.gtr rfl rfl) (by exact decide_eq_false oO)) ⟨(hk120).trans (hk108).symm, trivial⟩ rfl ?_
  refine WH.done kR ?_
  refine W.condF rfl rfl ?_
  refine W.skip ?_
  have hz5 := (hk121).lt
  have hz6 := (hk122).lt
  refine W.cut (α := (Option Addr × Nat) × Nat) (fun t => [(1, .pointer (some ⟨br, 0, none⟩)), (5, .pointer (some ⟨b1, 0, none⟩)), (6, .pointer (some ⟨b13, 0, none⟩)), (8, .int .i64 (d.length : Int)), (9, .pointer (some ⟨t.2, 0, none⟩))]) (fun t w' => KeepB w.heap.size [br] w w' ∧ Blk w' br (rdC p l c (sx l (d ++ (10 :: (f_est ++ (10 :: X)))))) 57 ∧ Blk w' b1 #[.int .i64 yk, .int .i64 yn, .string (bs yt), .slice ykp (ks ++ [kLen]).length ykc, .slice ylp cs.length ylc, .slice none 0 0] 28 ∧ Blk w' b13 #[.int .i64 0, .int .i64 0, .string ⟨#[]⟩, .slice none 0 0, .slice none 0 0, .slice none 0 0] 28 ∧ Blk w' t.2 #[.int .i64 9, .int .i64 0, .string ⟨#[]⟩, .slice none 0 0, .slice none 0 0, .slice t.1.1 d.length t.1.2] 28 ∧ BytesAt w' p l ∧ RowAt strV w' ykp (ks ++ [kLen]) ∧ RowM pcL w' ylp cs ∧ LInv w' (fun k => (B ≤ k ∧ br < k) ∧ k < w.heap.size) cs (pvL vs ++ [pv0 2 (d.length : Int) []]) ∧ BytesAt w' t.1.1 d ∧ (0 < d.length → b13 < (pA t.1.1).block ∧ (pA t.1.1).block ≠ t.2) ∧ d.length ≤ t.1.2 ∧ t.1.2 ≤ 9223372036854775807 ∧ b13 < t.2 ∧ t.2 < w'.heap.size ∧ DOwn (fun k => b13 < k ∧ k ≠ t.2) w' (.slice t.1.1 d.length t.1.2) d) ?_ (fun t w1 hR => ?_)
  refine W.regH 19 rfl mixed (fun w' => w'.heap[br]? = w117.heap[br]? ∧ True) (fun w129 dw129 => ?_)
  have hF130 := LInv.same (w1 := w129) hF118 (fun k hk hl => (by obtain ⟨m, rfl⟩ := dw129; rfl))
  have hk132 := hk120.drew dw129
  have hk133 := hk121.drew dw129
  have hk134 := hk122.drew dw129
  have hv135 := hv123.drew dw129
  have hv136 := hv124.drew dw129
  have hv137 := hv125.drew dw129
  have hB140 := KeepB.trans hB128 (KeepB.of_drew dw129)
  refine WH.tp 0 rfl (.mv rfl) ⟨(hk132).trans (hk120).symm, trivial⟩ rfl ?_
  refine WH.tp 1 rfl (.nck rfl) ⟨(hk132).trans (hk120).symm, trivial⟩ rfl ?_
  refine WH.tp 2 rfl (.fa underlying57 rfl sizeOf26 dD rfl) ⟨(hk132).trans (hk120).symm, trivial⟩ rfl ?_
  refine WH.tk 3 rfl (fun w' hw' => Rd.ld (isAgg26 _) rfl ((hw'.1).trans hk120) rfl) ⟨(hk132).trans (hk120).symm, trivial⟩ rfl ?_
  refine WH.tp 4 rfl (.mv rfl) ⟨(hk132).trans (hk120).symm, trivial⟩ rfl ?_
  refine WH.tp 5 rfl (.nck rfl) ⟨(hk132).trans (hk120).symm, trivial⟩ rfl ?_
  refine WH.tp 6 rfl (.fa underlying57 rfl sizeOf3 dD rfl) ⟨(hk132).trans (hk120).symm, trivial⟩ rfl ?_
  refine WH.tk 7 rfl (fun w' hw' => Rd.ld (isAgg3 _) rfl ((hw'.1).trans hk120) rfl) ⟨(hk132).trans (hk120).symm, trivial⟩ rfl ?_
  refine WH.tp 8 rfl (.mv rfl) ⟨(hk132).trans (hk120).symm, trivial⟩ rfl ?_
  refine WH.tp 9 rfl (.nck rfl) ⟨(hk132).trans (hk120).symm, trivial⟩ rfl ?_
  refine WH.tp 10 rfl (.fa underlying57 rfl sizeOf3 dD rfl) ⟨(hk132).trans (hk120).symm, trivial⟩ rfl ?_
  refine WH.tk 11 rfl (fun w' hw' => Rd.ld (isAgg3 _) rfl ((hw'.1).trans hk120) rfl) ⟨(hk132).trans (hk120).symm, trivial⟩ rfl ?_
  refine WH.tp 12 rfl (.mv rfl) ⟨(hk132).trans (hk120).symm, trivial⟩ rfl ?_
  refine WH.tp 13 rfl (.iis ((sx l (10 :: (f_est ++ (10 :: X))) : Int)) (.add rfl rfl (i64w oO)) oO) ⟨(hk132).trans (hk120).symm, trivial⟩ rfl ?_
  refine WH.tp 14 rfl (.slb underlying26 sizeOf5 rfl rfl rfl  (sx l (d ++ (10 :: (f_est ++ (10 :: X))))) (sx l (10 :: (f_est ++ (10 :: X)))) (rfl) (rfl) (oO) ((by have := sx_le l (10 :: (f_est ++ (10 :: X))); omega))) ⟨(hk132).trans (hk120).symm, trivial⟩ rfl ?_
  refine WH.br2 15 rfl 17 rfl ?_ ?_
  have hz6c := (hk134).lt
  have hPd : BytesAt w129 (pPart p c (sx l (d ++ (10 :: (f_est ++ (10 :: X)))))) d := by
    have q := BytesAt.part (a := sx l (d ++ (10 :: (f_est ++ (10 :: X))))) (b := sx l (10 :: (f_est ++ (10 :: X)))) hv135 oO (sx_le _ _) hc
    rwa [sx_drop s1, ← a2, Nat.add_sub_cancel_left, List.take_left] at q
  refine WL.call hb25 rfl rfl ((byt_CloneP _ d _ _ _ oO hPd (fun _ => .inr (pPart_ne (hb.isp oO))) oO)) (fun v w141 hw141 => ?_)
  have hF142 := LInv.same (w1 := w141) hF130 (fun k hk hl => hw141.1.block k hl)
  have hk144 := hk132.below hw141.1 hk132.lt
  have hk145 := hk133.below hw141.1 hk133.lt
  have hk146 := hk134.below hw141.1 hk134.lt
  have hv147 := BytesAt.below hv135 hw141.1 (fun h0 => hv135.lt h0)
  have hv148 := RowAt.below hv136 hw141.1 (fun h0 => hv136.lt h0)
  have hv149 := RowM.below hv137 hw141.1 (fun h0 => hv137.lt h0)
  have hB152 := KeepB.trans hB140 (KeepB.of_below hw141.1 hB140.size)
  have hdv := hw141.2.1
  have hdv2 := hw141.2.2
  have hdvlt := hdv.lt
  have hfd0 := (hw141.2.2.2.2.2).mono (T := fun k => w129.heap.size ≤ k ∧ k < w141.heap.size) (fun k hk hl => ⟨hk, hl⟩)
  refine WL.nil <| ?_
  refine ⟨⟨(hk144).trans (hk120).symm, trivial⟩, ?_⟩
  refine WH.tp 16 rfl (.buildL (ps := _) blt28 rfl rfl rfl pS) ⟨(hk144).trans (hk120).symm, trivial⟩ rfl ?_
  refine WH.br1 17 rfl ?_
  refine WL.alloc zeroValue28 rfl (fun b153 wb153 eb153 hkb153 hub153 hsb153 => ?_)
  have hF154 := LInv.same (w1 := wb153) hF142 (fun k hk hl => hub153.other k oO)
  have hF156 := DOwn.same (w1 := wb153) hfd0 (fun k hk hl => hub153.other k oO)
  have hl158 : br < b153 := by rw [eb153]; exact hk144.lt
  have hk157 := hk144.upd hub153 (Nat.ne_of_lt hl158)
  have hl160 : b1 < b153 := by rw [eb153]; exact hk145.lt
  have hk159 := hk145.upd hub153 (Nat.ne_of_lt hl160)
  have hl162 : b13 < b153 := by rw [eb153]; exact hk146.lt
  have hk161 := hk146.upd hub153 (Nat.ne_of_lt hl162)
  have hvl164 := fun h0 => eb153 ▸ hv147.lt h0
  have hv163 := bup hv147 hub153 hvl164
  have hvl166 := fun h0 => eb153 ▸ hv148.lt h0
  have hv165 := RowAt.upd hv148 hub153 (fun h0 => Nat.ne_of_lt (hvl166 h0))
  have hvl168 := fun h0 => eb153 ▸ hv149.lt h0
  have hv167 := RowM.upd hv149 hub153 (fun h0 => Nat.ne_of_lt (hvl168 h0))
  have hvl174 := fun h0 => eb153 ▸ hdv.lt h0
  have hv173 := bup hdv hub153 hvl174
  have hgeb153 : w.heap.size ≤ b153 := by rw [eb153]; exact hB152.size
  have hB175 := KeepB.trans hB152 (KeepB.of_new hub153 hgeb153)
  refine WL.nil <| ?_
  refine ⟨⟨(hk157).trans (hk120).symm, trivial⟩, ?_⟩
  refine WH.br1 18 rfl ?_
  refine WL.stL rfl rfl hkb153 isz28 rfl rfl (fun w176 hkw176 huw176 hsw176 => ?_)
  have hF177 := LInv.same (w1 := w176) hF154 (fun k hk hl => huw176.other k (by first | ((try simp only) <;> omega) | (have := hk.1; ((try simp only) <;> omega))))
  have hF179 := DOwn.same (w1 := w176) hF156 (fun k hk hl => huw176.other k (by first | ((try simp only) <;> omega) | (have := hk.1; ((try simp only) <;> omega))))
  have hk180 := hk157.up huw176
  have hk181 := hk159.up huw176
  have hk182 := hk161.up huw176
  have hv183 := bup hv163 huw176 hvl164
  have hv184 := RowAt.upd hv165 huw176 (fun h0 => Nat.ne_of_lt (hvl166 h0))
  have hv185 := RowM.upd hv167 huw176 (fun h0 => Nat.ne_of_lt (hvl168 h0))
  have hv188 := bup hv173 huw176 hvl174
  have hB189 := KeepB.trans hB175 (by first | exact KeepB.of_new huw176 oO | exact KeepB.of_mem huw176 (by simp))
  refine WL.nil <| ?_
  refine ⟨⟨(hk180).trans (hk120).symm, trivial⟩, ?_⟩
  refine WH.done kR ?_
  exact ⟨(v, b153), ⟨rfl, rfl, rfl, rfl, rfl, trivial⟩, hB189, hk180, hk181, hk182, hkw176, hv183, hv184, hv185, hF177, hv188, fun h0 => ⟨by have := hdv2.1 h0; show b13 < (pA v.1).block; omega, by have := hdv2.1 h0; have := hdvlt h0; show (pA v.1).block ≠ b153; omega⟩, hdv2.2.1, hdv2.2.2.1, by show b13 < b153; omega, (hkw176).lt, (hF179).mono (fun k hk _ => ⟨by omega, by show k ≠ b153; omega⟩)⟩
  refine WL.alloc zeroValue28 rfl (fun b190 wb190 eb190 hkb190 hub190 hsb190 => ?_)
  have hF191 := LInv.same (w1 := wb190) hF130 (fun k hk hl => hub190.other k oO)
  have hl194 : br < b190 := by rw [eb190]; exact hk132.lt
  have hk193 := hk132.upd hub190 (Nat.ne_of_lt hl194)
  have hl196 : b1 < b190 := by rw [eb190]; exact hk133.lt
  have hk195 := hk133.upd hub190 (Nat.ne_of_lt hl196)
  have hl198 : b13 < b190 := by rw [eb190]; exact hk134.lt
  have hk197 := hk134.upd hub190 (Nat.ne_of_lt hl198)
  have hvl200 := fun h0 => eb190 ▸ hv135.lt h0
  have hv199 := bup hv135 hub190 hvl200
  have hvl202 := fun h0 => eb190 ▸ hv136.lt h0
  have hv201 := RowAt.upd hv136 hub190 (fun h0 => Nat.ne_of_lt (hvl202 h0))
  have hvl204 := fun h0 => eb190 ▸ hv137.lt h0
  have hv203 := RowM.upd hv137 hub190 (fun h0 => Nat.ne_of_lt (hvl204 h0))
  have hgeb190 : w.heap.size ≤ b190 := by rw [eb190]; exact hB140.size
  have hB209 := KeepB.trans hB140 (KeepB.of_new hub190 hgeb190)
  refine WL.nil <| ?_
  refine ⟨⟨(hk193).trans (hk120).symm, trivial⟩, ?_⟩
  refine WH.br1 15 rfl ?_
  have hz6c := (hk197).lt
  have hPd : BytesAt wb190 (pPart p c (sx l (d ++ (10 :: (f_est ++ (10 :: X)))))) d := by
    have q := BytesAt.part (a := sx l (d ++ (10 :: (f_est ++ (10 :: X))))) (b := sx l (10 :: (f_est ++ (10 :: X)))) hv199 oO (sx_le _ _) hc
    rwa [sx_drop s1, ← a2, Nat.add_sub_cancel_left, List.take_left] at q
  refine WL.call hb25 rfl rfl ((byt_CloneP _ d _ _ _ oO hPd (fun _ => .inr (pPart_ne (hb.isp oO))) oO)) (fun v w210 hw210 => ?_)
  have hF211 := LInv.same (w1 := w210) hF191 (fun k hk hl => hw210.1.block k hl)
  have hk213 := hk193.below hw210.1 hk193.lt
  have hk214 := hk195.below hw210.1 hk195.lt
  have hk215 := hk197.below hw210.1 hk197.lt
  have hk216 := hkb190.below hw210.1 hkb190.lt
  have hv217 := BytesAt.below hv199 hw210.1 (fun h0 => hv199.lt h0)
  have hv218 := RowAt.below hv201 hw210.1 (fun h0 => hv201.lt h0)
  have hv219 := RowM.below hv203 hw210.1 (fun h0 => hv203.lt h0)
  have hB222 := KeepB.trans hB209 (KeepB.of_below hw210.1 hB209.size)
  have hdv := hw210.2.1
  have hdv2 := hw210.2.2
  have hdvlt := hdv.lt
  have hfd0 := (hw210.2.2.2.2.2).mono (T := fun k => wb190.heap.size ≤ k ∧ k < w210.heap.size) (fun k hk hl => ⟨hk, hl⟩)
  refine WL.nil <| ?_
  refine ⟨⟨(hk213).trans (hk120).symm, trivial⟩, ?_⟩
  refine WH.tp 16 rfl (.buildL (ps := _) blt28 rfl rfl rfl pS) ⟨(hk213).trans (hk120).symm, trivial⟩ rfl ?_
  refine WH.br1 18 rfl ?_
  refine WL.stL rfl rfl hk216 isz28 rfl rfl (fun w223 hkw223 huw223 hsw223 => ?_)
  have hF224 := LInv.same (w1 := w223) hF211 (fun k hk hl => huw223.other k (by first | ((try simp only) <;> omega) | (have := hk.1; ((try simp only) <;> omega))))
  have hF226 := DOwn.same (w1 := w223) hfd0 (fun k hk hl => huw223.other k (by first | ((try simp only) <;> omega) | (have := hk.1; ((try simp only) <;> omega))))
  have hk227 := hk213.up huw223
  have hk228 := hk214.up huw223
  have hk229 := hk215.up huw223
  have hv230 := bup hv217 huw223 hvl200
  have hv231 := RowAt.upd hv218 huw223 (fun h0 => Nat.ne_of_lt (hvl202 h0))
  have hv232 := RowM.upd hv219 huw223 (fun h0 => Nat.ne_of_lt (hvl204 h0))
  have hv235 := BytesAt.upd hdv huw223 ((fun h0 => by first | (have := hdvB h0; omega) | (have := hdv2.1 h0; omega)))
  have hB236 := KeepB.trans hB222 (by first | exact KeepB.of_new huw223 oO | exact KeepB.of_mem huw223 (by simp))
  refine WL.nil <| ?_
  refine ⟨⟨(hk227).trans (hk120).symm, trivial⟩, ?_⟩
  refine WH.done kR ?_
  exact ⟨(v, b190), ⟨rfl, rfl, rfl, rfl, rfl, trivial⟩, hB236, hk227, hk228, hk229, hkw223, hv230, hv231, hv232, hF224, hv235, fun h0 => ⟨by have := hdv2.1 h0; show b13 < (pA v.1).block; omega, by have := hdv2.1 h0; have := hdvlt h0; show (pA v.1).block ≠ b190; omega⟩, hdv2.2.1, hdv2.2.2.1, by show b13 < b190; omega, (hkw223).lt, (hF226).mono (fun k hk _ => ⟨by omega, by show k ≠ b190; omega⟩)⟩
  obtain ⟨⟨dp, dc⟩, b9⟩ := t
  obtain ⟨q1, q2, q3, q4, q5, q6, q7, q8, q9, q10, q11, q12, q13, q14, q15, q16⟩ := hR
  simp only at q5 q10 q11 q12 q13 q14 q15 q16
  have hdvB := q11
  have hdvM := q10.lt
  have hB6M := q4.lt
  have hB5M := q3.lt
  obtain ⟨M, hM⟩ : ∃ M, M = w1.heap.size := ⟨_, rfl⟩
  have hM0 := q1.size
  rw [← hM] at hdvM hB6M hB5M q15 hM0
  have hM1 : M ≤ w1.heap.size := by omega
  have hfdM := q16.mono (T := fun k => (b13 < k ∧ k ≠ b9) ∧ k < M) (fun k hk hl => ⟨hk, by omega⟩)
  have hkxM : 0 < (ks ++ [kLen]).length → (pA ykp).block < M := fun h0 => by have := hkx h0; omega
  have hlxM : 0 < cs.length → (pA ylp).block < M := fun h0 => by have := hlx h0; omega
  refine W.sr <| WL.m rfl rfl <| WL.p (.nck rfl) rfl <| WL.p (.fa underlying57 rfl sizeOf3 dD rfl) rfl <| WL.r (Rd.ld (isAgg3 _) rfl q2 rfl) rfl <| WL.m rfl rfl <| WL.p (.iis ((sx l (10 :: (f_est ++ (10 :: X))) : Int)) (.add rfl rfl (i64w oO)) oO) rfl <| WL.p (.nck rfl) rfl <| WL.p (.fa underlying57 rfl sizeOf3 dD rfl) rfl <| WL.st sizeOf3 rfl rfl rfl q2 oD (fun w237 hkw237 huw237 hsw237 => ?_)
  have hkw237 : Blk w237 br _ _ := hkw237
  have huw237 : Upd br _ _ := huw237
  have hF238 := LInv.same (w1 := w237) q9 (fun k hk hl => huw237.other k (by first | ((try simp only) <;> omega) | (have := hk.1; ((try simp only) <;> omega))))
  have hF239 := DOwn.same (w1 := w237) hfdM (fun k hk hl => huw237.other k (by first | ((try simp only) <;> omega) | (have := hk.1; ((try simp only) <;> omega))))
  have hk240 := q3.upd huw237 oM
  have hk241 := q4.upd huw237 oM
  have hk242 := q5.upd huw237 oM
  have hv243 := BytesAt.upd q6 huw237 (hpb)
  have hv244 := RowAt.upd q7 huw237 ((fun h0 => by have := hkx h0; omega))
  have hv245 := RowM.upd q8 huw237 ((fun h0 => by have := hlx h0; omega))
  have hv246 := BytesAt.upd q10 huw237 ((fun h0 => by first | (have := hdvB h0; omega) | (have := hdv2.1 h0; omega)))
  have hB247 := KeepB.trans q1 (by first | exact KeepB.of_new huw237 oO | exact KeepB.of_mem huw237 (by simp))
  refine WL.nil <| ?_
  refine W.sr <| WL.m rfl rfl <| WL.c1 hb36 rfl rfl ((rd_wordS [10] f_est (10 :: X) hkw237 hv243 hc hl hpb s2 dD dD dD (bnd_blank dD))) (fun w248 hw248 => ?_)
  have hF249 := LInv.same (w1 := w248) hF238 (fun k hk hl => hw248.1.block k hl (by first | (simp only [List.mem_cons, List.not_mem_nil, or_false, not_or, not_false_eq_true]; omega) | (simp only [List.mem_cons, List.not_mem_nil, or_false, not_or, not_false_eq_true]; have := hk.1; omega)))
  have hF250 := DOwn.same (w1 := w248) hF239 (fun k hk hl => hw248.1.block k hl (by first | (simp only [List.mem_cons, List.not_mem_nil, or_false, not_or, not_false_eq_true]; omega) | (simp only [List.mem_cons, List.not_mem_nil, or_false, not_or, not_false_eq_true]; have := hk.1; omega)))
  have hk251 := Blk.keepB hk240 hw248.1 hk240.lt (by simp only [List.mem_cons, List.not_mem_nil, or_false, not_or, not_false_eq_true]; omega)
  have hk252 := Blk.keepB hk241 hw248.1 hk241.lt (by simp only [List.mem_cons, List.not_mem_nil, or_false, not_or, not_false_eq_true]; omega)
  have hk253 := Blk.keepB hk242 hw248.1 hk242.lt (by simp only [List.mem_cons, List.not_mem_nil, or_false, not_or, not_false_eq_true]; omega)
  have hv255 := RowAt.keepB hv244 hw248.1 (fun h0 => ⟨hv244.lt h0, by first | simpa using ((fun h0 => by have := hkx h0; omega)) h0 | (have q := ((fun h0 => by have := hkx h0; omega)) h0; have q1 := hv244.lt h0; simp only [List.mem_cons, List.not_mem_nil, or_false, not_or, not_false_eq_true]; omega)⟩)
  have hv256 := RowM.keepB hv245 hw248.1 (fun h0 => ⟨hv245.lt h0, by first | simpa using ((fun h0 => by have := hlx h0; omega)) h0 | (have q := ((fun h0 => by have := hlx h0; omega)) h0; have q1 := hv245.lt h0; simp only [List.mem_cons, List.not_mem_nil, or_false, not_or, not_false_eq_true]; omega)⟩)
  have hv257 := BytesAt.keepB hv246 hw248.1 (fun h0 => ⟨hv246.lt h0, by first | simpa using ((fun h0 => by first | (have := hdvB h0; omega) | (have := hdv2.1 h0; omega))) h0 | (have q := ((fun h0 => by first | (have := hdvB h0; omega) | (have := hdv2.1 h0; omega))) h0; have q1 := hv246.lt h0; simp only [List.mem_cons, List.not_mem_nil, or_false, not_or, not_false_eq_true]; omega)⟩)
  have hB258 := KeepB.trans hB247 (KeepB.wide hw248.1 hB247.size (by simp <;> omega))
  have hm4 := hw248.2
  have hszL := (hw248).1.size
  refine WL.nil <| ?_
  refine W.seq <| W.sr <| WL.p (.fa underlying28 rfl sizeOf25 dD rfl) rfl <| WL.r (Rd.ld (isAgg25 _) rfl hk251 rfl) rfl <| WL.p (.lenS underlying25 rfl) rfl <| WL.m rfl rfl <| WL.nil <| ?_
  refine W.block ?_
  refine W.loop (α := Value × Value × Nat) (fun t => [(5, .pointer (some ⟨b1, 0, none⟩)), (6, .pointer (some ⟨b13, 0, none⟩)), (9, .pointer (some ⟨b9, 0, none⟩)), (90, .slice ykp (ks ++ [kLen]).length ykc), (91, .int .i64 ((ks ++ [kLen]).length : Int)), (92, .int .i64 (t.2.2 : Int))]) (fun t w' => KeepB w.heap.size [br] w w' ∧ Blk w' br (rdC p l c (sx l (10 :: X))) 57 ∧ Blk w' b1 #[.int .i64 yk, .int .i64 yn, .string (bs yt), .slice ykp (ks ++ [kLen]).length ykc, .slice ylp cs.length ylc, .slice none 0 0] 28 ∧ Blk w' b13 #[.int .i64 0, .int .i64 0, .string ⟨#[]⟩, .slice none 0 0, .slice none 0 0, .slice none 0 0] 28 ∧ Blk w' b9 #[.int .i64 9, .int .i64 0, .string ⟨#[]⟩, t.1, t.2.1, .slice dp d.length dc] 28 ∧ RowAt strV w' ykp (ks ++ [kLen]) ∧ RowM pcL w' ylp cs ∧ LInv w' (fun k => (B ≤ k ∧ br < k) ∧ k < w.heap.size) cs (pvL vs ++ [pv0 2 (d.length : Int) []]) ∧ BytesAt w' dp d ∧ OwnM strL 9 M w' t.1 (ks.take t.2.2) ∧ OwnM pcL 28 M w' t.2.1 ((cs.take ks.length).take t.2.2) ∧ (∀ g, t.1.ownBlock = some g → t.2.1.ownBlock ≠ some g) ∧ M ≤ w'.heap.size ∧ t.2.2 ≤ ks.length + 1 ∧ DOwn (fun k => (b13 < k ∧ k ≠ b9) ∧ k < M) w' (.slice dp d.length dc) d) (fun t => ks.length + 1 - t.2.2) ((.slice none 0 0, .slice none 0 0, 0)) ⟨rfl, rfl, rfl, rfl, rfl, rfl, trivial⟩ (⟨hB258, hm4, hk251, hk252, hk253, hv255, hv256, hF249, hv257, OwnM.nil _ _ _ _, OwnM.nil _ _ _ _, fun g hg => (by cases hg), by omega, Nat.zero_le _, hF250⟩) (fun t w1 hR => ?_)
  obtain ⟨kv, v, i⟩ := t
  obtain ⟨hT, p1, p2, p3, p4, p5, p6, p7, p8, hkeys, hown, hsep, hleM, hi, p9⟩ := hR
  simp only at p4 hkeys hown hsep hi ⊢
  obtain ⟨pl, cl, rfl, -⟩ := hown.row
  obtain ⟨pk, ck, rfl, -⟩ := hkeys.row
  refine W.sr <| WL.p (.lss rfl rfl) rfl <| WL.nil <| ?_
  refine W.seq <| W.cond rfl (fun h259 => ?_) (fun h259 => ?_)
  · have h259' := dT h259
    refine W.skip <| W.seq <| W.block <| W.sr <| WL.m rfl rfl <| WL.p (.ixb underlying25 sizeOf9 rfl rfl (p5.isp oO) (i) (rfl) oO) rfl <| WL.r (Rd.ldc (isAgg9 _) rfl (p5.cells (i) oO)) rfl <| WL.a rfl rfl <| WL.z rfl rfl ?_
    refine W.sr <| WL.m rfl rfl <| WL.p (.bis (!decide (ks.length ≤ i)) (.nes rfl rfl) (by exact key_len hn i oO)) rfl <| WL.nil <| ?_
    refine W.cond rfl (fun h260 => ?_) (fun h260 => ?_)
    · have h260' := ndT h260
      refine W.sr <| WL.p (.fa underlying28 rfl sizeOf25 dD rfl) rfl <| WL.r (Rd.ld (isAgg25 _) rfl p4 rfl) rfl <| WL.m rfl rfl <| WL.bsl (ps := _) underlying25 sizeOf9 zeroValue9 rfl rfl rfl rfl rfl pR rfl (fun b261 wb261 eb261 hkb261 hub261 hsb261 => ?_)
      have hle263 := Nat.le_trans hleM hub261.size
      have ho262 := OwnM.new hkeys eb261 hub261
      have hle265 := Nat.le_trans hleM hub261.size
      have ho264 := OwnM.new hown eb261 hub261
      have hF266 := LInv.same (w1 := wb261) p7 (fun k hk hl => hub261.other k oO)
      have hF267 := DOwn.same (w1 := wb261) p9 (fun k hk hl => hub261.other k oO)
      have hl269 : br < b261 := by rw [eb261]; exact p1.lt
      have hk268 := p1.upd hub261 (Nat.ne_of_lt hl269)
      have hl271 : b1 < b261 := by rw [eb261]; exact p2.lt
      have hk270 := p2.upd hub261 (Nat.ne_of_lt hl271)
      have hl273 : b13 < b261 := by rw [eb261]; exact p3.lt
      have hk272 := p3.upd hub261 (Nat.ne_of_lt hl273)
      have hl275 : b9 < b261 := by rw [eb261]; exact p4.lt
      have hk274 := p4.upd hub261 (Nat.ne_of_lt hl275)
      have hvl277 := fun h0 => eb261 ▸ p5.lt h0
      have hv276 := RowAt.upd p5 hub261 (fun h0 => Nat.ne_of_lt (hvl277 h0))
      have hvl279 := fun h0 => eb261 ▸ p6.lt h0
      have hv278 := RowM.upd p6 hub261 (fun h0 => Nat.ne_of_lt (hvl279 h0))
      have hvl281 := fun h0 => eb261 ▸ p8.lt h0
      have hv280 := BytesAt.upd p8 hub261 (fun h0 => Nat.ne_of_lt (hvl281 h0))
      have hgeb261 : w.heap.size ≤ b261 := by rw [eb261]; exact hT.size
      have hB282 := KeepB.trans hT (KeepB.of_new hub261 hgeb261)
      have hzz := RowM.lit (V := strL) (l := [(ks ++ [kLen])[i]'oO]) hkb261 (rfl)
      have hlo := (ho264).lt
      refine WL.appM underlying25 inf9 rfl rfl rfl ho262 rfl hzz (by simp only [List.length_cons, List.length_nil, List.length_take]; omega) (hle263) rfl (fun h => nomatch h) (fun v283 w284 how284 hbw284 hgw284 hfw284 => ?_)
      have hk285 := hk268.below hbw284 oO
      have hk286 := hk270.below hbw284 oO
      have hk287 := hk272.below hbw284 oO
      have hk288 := hk274.below hbw284 oO
      have hF289 := LInv.same hF266 (fun k hk hl => hgw284.block k hl (fun e => by have := (ho262).lt k e.symm; omega))
      have hF290 := DOwn.same hF267 (fun k hk hl => hgw284.block k hl (fun e => by have := (ho262).lt k e.symm; omega))
      have ho291 := OwnM.same ho264 (fun g hg => hgw284.block g ((ho264).lt g hg).2 (fun hx => hsep g hx.symm hg))
      have hle292 := Nat.le_trans hle265 hbw284.size
      have hv293 := RowAt.below hv276 hbw284 hkxM
      have hv294 := RowM.below hv278 hbw284 hlxM
      have hv295 := BytesAt.below hv280 hbw284 hdvM
      have hB296 := KeepB.trans hB282 (KeepB.of_grown hgw284 (fun g hg => .inr (by have := (ho262).lt g hg; omega)) hB282.size)
      have hle297 := Nat.le_trans hle263 hbw284.size
      have hsep2 : ∀ g, (v283).ownBlock = some g → (Value.slice pl ((cs.take ks.length).take i).length cl).ownBlock ≠ some g := fun g hg => by rcases hfw284 g hg with h | h; exact hsep g h; exact fun h2 => by have := hlo g h2; omega
      obtain ⟨kv2, rfl⟩ : ∃ kv2, kv2 = v283 := ⟨v283, rfl⟩
      refine WL.p (.fa underlying28 rfl sizeOf25 dD rfl) rfl <| WL.st sizeOf25 rfl rfl (how284).one hk288 oD (fun w298 hkw298 huw298 hsw298 => ?_)
      have hkw298 : Blk w298 b9 _ _ := hkw298
      have huw298 : Upd b9 _ _ := huw298
      have hle300 := Nat.le_trans hle297 huw298.size
      have ho299 := OwnM.touch how284 huw298 oM
      have hle302 := Nat.le_trans hle292 huw298.size
      have ho301 := OwnM.touch ho291 huw298 oM
      have hF303 := LInv.same (w1 := w298) hF289 (fun k hk hl => huw298.other k (by first | ((try simp only) <;> omega) | (have := hk.1; ((try simp only) <;> omega))))
      have hF304 := DOwn.same (w1 := w298) hF290 (fun k hk hl => huw298.other k (by first | ((try simp only) <;> omega) | (have := hk.1; ((try simp only) <;> omega))))
      have hk305 := hk285.up huw298
      have hk306 := hk286.up huw298
      have hk307 := hk287.up huw298
      have hv308 := RowAt.upd hv293 huw298 ((fun h0 => by have := hkx h0; omega))
      have hv309 := RowM.upd hv294 huw298 ((fun h0 => by have := hlx h0; omega))
      have hv310 := BytesAt.upd hv295 huw298 ((fun h0 => by first | (have := hdvB h0; omega) | (have := hdv2.1 h0; omega)))
      have hB311 := KeepB.trans hB296 (by first | exact KeepB.of_new huw298 oO | exact KeepB.of_mem huw298 (by simp))
      refine WL.nil <| ?_
      refine W.regH 11 rfl mixed (fun w' => w'.heap[b1]? = w298.heap[b1]? ∧ RowM pcL w' ylp cs ∧ True) (fun w312 dw312 => ?_)
      have hle314 := Drew.le hle300 dw312
      have ho313 := OwnM.drew ho299 dw312
      have hle316 := Drew.le hle302 dw312
      have ho315 := OwnM.drew ho301 dw312
      have hF317 := LInv.same (w1 := w312) hF303 (fun k hk hl => (by obtain ⟨m, rfl⟩ := dw312; rfl))
      have hF318 := DOwn.same (w1 := w312) hF304 (fun k hk hl => (by obtain ⟨m, rfl⟩ := dw312; rfl))
      have hk319 := hk305.drew dw312
      have hk320 := hk306.drew dw312
      have hk321 := hk307.drew dw312
      have hk322 := hkw298.drew dw312
      have hv323 := hv308.drew dw312
      have hv324 := hv309.drew dw312
      have hv325 := hv310.drew dw312
      have hB326 := KeepB.trans hB311 (KeepB.of_drew dw312)
      refine WH.tp 0 rfl (.fa underlying28 rfl sizeOf22 dD rfl) ⟨(hk320).trans (hk306).symm, hv324, trivial⟩ rfl ?_
      refine WH.tp 2 rfl (.fa underlying28 rfl sizeOf22 dD rfl) ⟨(hk320).trans (hk306).symm, hv324, trivial⟩ rfl ?_
      refine WH.tk 3 rfl (fun w' hw' => Rd.ld (isAgg22 _) rfl ((hw'.1).trans hk306) rfl) ⟨(hk320).trans (hk306).symm, hv324, trivial⟩ rfl ?_
      refine WH.tp 4 rfl (.mv rfl) ⟨(hk320).trans (hk306).symm, hv324, trivial⟩ rfl ?_
      refine WH.tp 5 rfl (.ixm underlying22 sizeOf28 rfl rfl (hv324.isp (by first | omega | (simp only [List.length_cons, List.length_nil]; omega))) (i) (rfl) oO) ⟨(hk320).trans (hk306).symm, hv324, trivial⟩ rfl ?_
      refine WH.tk 6 rfl (fun w' hw' => Rd.ldS underlying28 rfl isz28 (hw'.2.1) (i) (by first | omega | (simp only [List.length_cons, List.length_nil]; omega)) rfl) ⟨(hk320).trans (hk306).symm, hv324, trivial⟩ rfl ?_
      refine WH.br2 1 rfl 7 rfl ?_ ?_
      refine WL.r (Rd.ld (isAgg22 _) rfl hk322 rfl) rfl <| WL.nil <| ?_
      refine ⟨⟨(hk320).trans (hk306).symm, hv324, trivial⟩, ?_⟩
      refine WH.br1 7 rfl ?_
      refine WL.bslM (L := pcL) (ps := _) ([cs[i]'oO]) underlying22 sizeOf28 zeroValue28 rfl rfl rfl rfl rfl (by first | rfl | decide) rfl rfl (fun b327 wb327 eb327 hob327 hub327 hsb327 => ?_)
      have hle329 := Nat.le_trans hle314 hub327.size
      have ho328 := OwnM.new ho313 eb327 hub327
      have hle331 := Nat.le_trans hle316 hub327.size
      have ho330 := OwnM.new ho315 eb327 hub327
      have hF332 := LInv.same (w1 := wb327) hF317 (fun k hk hl => hub327.other k oO)
      have hF333 := DOwn.same (w1 := wb327) hF318 (fun k hk hl => hub327.other k oO)
      have hl335 : br < b327 := by rw [eb327]; exact hk319.lt
      have hk334 := hk319.upd hub327 (Nat.ne_of_lt hl335)
      have hl337 : b1 < b327 := by rw [eb327]; exact hk320.lt
      have hk336 := hk320.upd hub327 (Nat.ne_of_lt hl337)
      have hl339 : b13 < b327 := by rw [eb327]; exact hk321.lt
      have hk338 := hk321.upd hub327 (Nat.ne_of_lt hl339)
      have hl341 : b9 < b327 := by rw [eb327]; exact hk322.lt
      have hk340 := hk322.upd hub327 (Nat.ne_of_lt hl341)
      have hvl343 := fun h0 => eb327 ▸ hv323.lt h0
      have hv342 := RowAt.upd hv323 hub327 (fun h0 => Nat.ne_of_lt (hvl343 h0))
      have hvl345 := fun h0 => eb327 ▸ hv324.lt h0
      have hv344 := RowM.upd hv324 hub327 (fun h0 => Nat.ne_of_lt (hvl345 h0))
      have hvl347 := fun h0 => eb327 ▸ hv325.lt h0
      have hv346 := bup hv325 hub327 hvl347
      have hgeb327 : w.heap.size ≤ b327 := by rw [eb327]; exact hB326.size
      have hB348 := KeepB.trans hB326 (KeepB.of_new hub327 hgeb327)
      have hleb327 : b327 ≤ wb327.heap.size := by omega
      refine WL.nil <| ?_
      refine ⟨⟨(hk336).trans (hk306).symm, hv344, trivial⟩, ?_⟩
      refine WH.br1 8 rfl ?_
      have hlk := (ho328).lt
      refine WL.appM underlying22 inf28 rfl rfl rfl ho330 rfl (hob327).rowp (by simp only [List.length_cons, List.length_nil, List.length_take]; omega) (hle331) rfl (fun h => nomatch h) (fun v349 w350 how350 hbw350 hgw350 hfw350 => ?_)
      have hk351 := hk334.below hbw350 oO
      have hk352 := hk336.below hbw350 oO
      have hk353 := hk338.below hbw350 oO
      have hk354 := hk340.below hbw350 oO
      have hF355 := LInv.same hF332 (fun k hk hl => hgw350.block k hl (fun e => by have := (ho330).lt k e.symm; omega))
      have hF356 := DOwn.same hF333 (fun k hk hl => hgw350.block k hl (fun e => by have := (ho330).lt k e.symm; omega))
      have ho357 := OwnM.same ho328 (fun g hg => hgw350.block g ((ho328).lt g hg).2 (fun hx => hsep2 g hg hx.symm))
      have hle358 := Nat.le_trans hle329 hbw350.size
      have hv359 := RowAt.below hv342 hbw350 hkxM
      have hv360 := RowM.below hv344 hbw350 hlxM
      have hv361 := BytesAt.below hv346 hbw350 hdvM
      have hB362 := KeepB.trans hB348 (KeepB.of_grown hgw350 (fun g hg => .inr (by have := (ho330).lt g hg; omega)) hB348.size)
      have hle363 := Nat.le_trans hle331 hbw350.size
      have hsep3 : ∀ g, kv2.ownBlock = some g → (v349).ownBlock ≠ some g := fun g hg h2 => by rcases hfw350 g h2 with h | h; exact hsep2 g hg h; have := hlk g hg; omega
      refine WL.nil <| ?_
      refine ⟨⟨(hk352).trans (hk306).symm, hv360, trivial⟩, ?_⟩
      refine WH.tp 9 rfl (.fa underlying28 rfl sizeOf22 dD rfl) ⟨(hk352).trans (hk306).symm, hv360, trivial⟩ rfl ?_
      refine WH.br1 10 rfl ?_
      refine WL.st sizeOf22 rfl rfl (how350).one hk354 oD (fun w364 hkw364 huw364 hsw364 => ?_)
      have hkw364 : Blk w364 b9 _ _ := hkw364
      have huw364 : Upd b9 _ _ := huw364
      have hle366 := Nat.le_trans hle358 huw364.size
      have ho365 := OwnM.touch ho357 huw364 oM
      have hle368 := Nat.le_trans hle363 huw364.size
      have ho367 := OwnM.touch how350 huw364 oM
      have hF369 := LInv.same (w1 := w364) hF355 (fun k hk hl => huw364.other k (by first | ((try simp only) <;> omega) | (have := hk.1; ((try simp only) <;> omega))))
      have hF370 := DOwn.same (w1 := w364) hF356 (fun k hk hl => huw364.other k (by first | ((try simp only) <;> omega) | (have := hk.1; ((try simp only) <;> omega))))
      have hk371 := hk351.up huw364
      have hk372 := hk352.up huw364
      have hk373 := hk353.up huw364
      have hv374 := RowAt.upd hv359 huw364 ((fun h0 => by have := hkx h0; omega))
      have hv375 := RowM.upd hv360 huw364 ((fun h0 => by have := hlx h0; omega))
      have hv376 := BytesAt.upd hv361 huw364 ((fun h0 => by first | (have := hdvB h0; omega) | (have := hdv2.1 h0; omega)))
      have hB377 := KeepB.trans hB362 (by first | exact KeepB.of_new huw364 oO | exact KeepB.of_mem huw364 (by simp))
      refine WL.nil <| ?_
      refine ⟨⟨(hk372).trans (hk306).symm, hv375, trivial⟩, ?_⟩
      refine WH.done kR ?_
      refine W.reg <| WL.p (.iis (((i + 1 : Nat) : Int)) (.add rfl rfl (i64w oO)) oO) rfl <| WL.m rfl rfl <| WL.nil <| ?_
      first
      | (have hK2 := ho365
         have hO2 := ho367
         rw [key_at i oO oO] at hK2
         rw [row_at oO oO] at hO2
         exact ⟨(_, _, i + 1), ⟨rfl, rfl, rfl, rfl, rfl, rfl, trivial⟩, ⟨hB377, hk371, hk372, hk373, hkw364, hv374, hv375, hF369, hv376, hK2, hO2, hsep3, hle366, by ((try simp only) <;> omega), hF370⟩, by ((try simp only) <;> omega)⟩)
      | (have hK2 := (ho365).cast (show ks.take i = ks.take (i + 1) by rw [List.take_of_length_le oO, List.take_of_length_le oO])
         have hO2 := (ho367).cast (show (cs.take ks.length).take i = (cs.take ks.length).take (i + 1) by
           have hct : (cs.take ks.length).length = ks.length := by rw [List.length_take]; omega
           rw [List.take_of_length_le (l := cs.take ks.length) oO, List.take_of_length_le (l := cs.take ks.length) oO])
         exact ⟨(_, _, i + 1), ⟨rfl, rfl, rfl, rfl, rfl, rfl, trivial⟩, ⟨hB377, hk371, hk372, hk373, hkw364, hv374, hv375, hF369, hv376, hK2, hO2, hsep, hle366, by ((try simp only) <;> omega), hF370⟩, by ((try simp only) <;> omega)⟩)
      refine WL.bslM (L := pcL) (ps := _) ([cs[i]'oO]) underlying22 sizeOf28 zeroValue28 rfl rfl rfl rfl rfl (by first | rfl | decide) rfl rfl (fun b378 wb378 eb378 hob378 hub378 hsb378 => ?_)
      have hle380 := Nat.le_trans hle314 hub378.size
      have ho379 := OwnM.new ho313 eb378 hub378
      have hle382 := Nat.le_trans hle316 hub378.size
      have ho381 := OwnM.new ho315 eb378 hub378
      have hF383 := LInv.same (w1 := wb378) hF317 (fun k hk hl => hub378.other k oO)
      have hF384 := DOwn.same (w1 := wb378) hF318 (fun k hk hl => hub378.other k oO)
      have hl386 : br < b378 := by rw [eb378]; exact hk319.lt
      have hk385 := hk319.upd hub378 (Nat.ne_of_lt hl386)
      have hl388 : b1 < b378 := by rw [eb378]; exact hk320.lt
      have hk387 := hk320.upd hub378 (Nat.ne_of_lt hl388)
      have hl390 : b13 < b378 := by rw [eb378]; exact hk321.lt
      have hk389 := hk321.upd hub378 (Nat.ne_of_lt hl390)
      have hl392 : b9 < b378 := by rw [eb378]; exact hk322.lt
      have hk391 := hk322.upd hub378 (Nat.ne_of_lt hl392)
      have hvl394 := fun h0 => eb378 ▸ hv323.lt h0
      have hv393 := RowAt.upd hv323 hub378 (fun h0 => Nat.ne_of_lt (hvl394 h0))
      have hvl396 := fun h0 => eb378 ▸ hv324.lt h0
      have hv395 := RowM.upd hv324 hub378 (fun h0 => Nat.ne_of_lt (hvl396 h0))
      have hvl398 := fun h0 => eb378 ▸ hv325.lt h0
      have hv397 := bup hv325 hub378 hvl398
      have hgeb378 : w.heap.size ≤ b378 := by rw [eb378]; exact hB326.size
      have hB399 := KeepB.trans hB326 (KeepB.of_new hub378 hgeb378)
      have hleb378 : b378 ≤ wb378.heap.size := by omega
      refine WL.nil <| ?_
      refine ⟨⟨(hk387).trans (hk306).symm, hv395, trivial⟩, ?_⟩
      refine WH.br1 1 rfl ?_
      refine WL.r (Rd.ld (isAgg22 _) rfl hk391 rfl) rfl <| WL.nil <| ?_
      refine ⟨⟨(hk387).trans (hk306).symm, hv395, trivial⟩, ?_⟩
      refine WH.br1 8 rfl ?_
      have hlk := (ho379).lt
      refine WL.appM underlying22 inf28 rfl rfl rfl ho381 rfl (hob378).rowp (by simp only [List.length_cons, List.length_nil, List.length_take]; omega) (hle382) rfl (fun h => nomatch h) (fun v400 w401 how401 hbw401 hgw401 hfw401 => ?_)
      have hk402 := hk385.below hbw401 oO
      have hk403 := hk387.below hbw401 oO
      have hk404 := hk389.below hbw401 oO
      have hk405 := hk391.below hbw401 oO
      have hF406 := LInv.same hF383 (fun k hk hl => hgw401.block k hl (fun e => by have := (ho381).lt k e.symm; omega))
      have hF407 := DOwn.same hF384 (fun k hk hl => hgw401.block k hl (fun e => by have := (ho381).lt k e.symm; omega))
      have ho408 := OwnM.same ho379 (fun g hg => hgw401.block g ((ho379).lt g hg).2 (fun hx => hsep2 g hg hx.symm))
      have hle409 := Nat.le_trans hle380 hbw401.size
      have hv410 := RowAt.below hv393 hbw401 hkxM
      have hv411 := RowM.below hv395 hbw401 hlxM
      have hv412 := BytesAt.below hv397 hbw401 hdvM
      have hB413 := KeepB.trans hB399 (KeepB.of_grown hgw401 (fun g hg => .inr (by have := (ho381).lt g hg; omega)) hB399.size)
      have hle414 := Nat.le_trans hle382 hbw401.size
      have hsep3 : ∀ g, kv2.ownBlock = some g → (v400).ownBlock ≠ some g := fun g hg h2 => by rcases hfw401 g h2 with h | h; exact hsep2 g hg h; have := hlk g hg; omega
      refine WL.nil <| ?_
      refine ⟨⟨(hk403).trans (hk306).symm, hv411, trivial⟩, ?_⟩
      refine WH.tp 9 rfl (.fa underlying28 rfl sizeOf22 dD rfl) ⟨(hk403).trans (hk306).symm, hv411, trivial⟩ rfl ?_
      refine WH.br1 10 rfl ?_
      refine WL.st sizeOf22 rfl rfl (how401).one hk405 oD (fun w415 hkw415 huw415 hsw415 => ?_)
      have hkw415 : Blk w415 b9 _ _ := hkw415
      have huw415 : Upd b9 _ _ := huw415
      have hle417 := Nat.le_trans hle409 huw415.size
      have ho416 := OwnM.touch ho408 huw415 oM
      have hle419 := Nat.le_trans hle414 huw415.size
      have ho418 := OwnM.touch how401 huw415 oM
      have hF420 := LInv.same (w1 := w415) hF406 (fun k hk hl => huw415.other k (by first | ((try simp only) <;> omega) | (have := hk.1; ((try simp only) <;> omega))))
      have hF421 := DOwn.same (w1 := w415) hF407 (fun k hk hl => huw415.other k (by first | ((try simp only) <;> omega) | (have := hk.1; ((try simp only) <;> omega))))
      have hk422 := hk402.up huw415
      have hk423 := hk403.up huw415
      have hk424 := hk404.up huw415
      have hv425 := RowAt.upd hv410 huw415 ((fun h0 => by have := hkx h0; omega))
      have hv426 := RowM.upd hv411 huw415 ((fun h0 => by have := hlx h0; omega))
      have hv427 := BytesAt.upd hv412 huw415 ((fun h0 => by first | (have := hdvB h0; omega) | (have := hdv2.1 h0; omega)))
      have hB428 := KeepB.trans hB413 (by first | exact KeepB.of_new huw415 oO | exact KeepB.of_mem huw415 (by simp))
      refine WL.nil <| ?_
      refine ⟨⟨(hk423).trans (hk306).symm, hv426, trivial⟩, ?_⟩
      refine WH.done kR ?_
      refine W.reg <| WL.p (.iis (((i + 1 : Nat) : Int)) (.add rfl rfl (i64w oO)) oO) rfl <| WL.m rfl rfl <| WL.nil <| ?_
      first
      | (have hK2 := ho416
         have hO2 := ho418
         rw [key_at i oO oO] at hK2
         rw [row_at oO oO] at hO2
         exact ⟨(_, _, i + 1), ⟨rfl, rfl, rfl, rfl, rfl, rfl, trivial⟩, ⟨hB428, hk422, hk423, hk424, hkw415, hv425, hv426, hF420, hv427, hK2, hO2, hsep3, hle417, by ((try simp only) <;> omega), hF421⟩, by ((try simp only) <;> omega)⟩)
      | (have hK2 := (ho416).cast (show ks.take i = ks.take (i + 1) by rw [List.take_of_length_le oO, List.take_of_length_le oO])
         have hO2 := (ho418).cast (show (cs.take ks.length).take i = (cs.take ks.length).take (i + 1) by
           have hct : (cs.take ks.length).length = ks.length := by rw [List.length_take]; omega
           rw [List.take_of_length_le (l := cs.take ks.length) oO, List.take_of_length_le (l := cs.take ks.length) oO])
         exact ⟨(_, _, i + 1), ⟨rfl, rfl, rfl, rfl, rfl, rfl, trivial⟩, ⟨hB428, hk422, hk423, hk424, hkw415, hv425, hv426, hF420, hv427, hK2, hO2, hsep, hle417, by ((try simp only) <;> omega), hF421⟩, by ((try simp only) <;> omega)⟩)
    have h260' := ndF h260
    refine W.skip <| W.reg <| WL.p (.iis (((i + 1 : Nat) : Int)) (.add rfl rfl (i64w oO)) oO) rfl <| WL.m rfl rfl <| WL.nil <| ?_
    first
    | (have hK2 := hkeys
       have hO2 := hown
       rw [key_at i oO oO] at hK2
       rw [row_at oO oO] at hO2
       exact ⟨(_, _, i + 1), ⟨rfl, rfl, rfl, rfl, rfl, rfl, trivial⟩, ⟨hT, p1, p2, p3, p4, p5, p6, p7, p8, hK2, hO2, hsep3, hleM, by ((try simp only) <;> omega), p9⟩, by ((try simp only) <;> omega)⟩)
    | (have hK2 := (hkeys).cast (show ks.take i = ks.take (i + 1) by rw [List.take_of_length_le oO, List.take_of_length_le oO])
       have hO2 := (hown).cast (show (cs.take ks.length).take i = (cs.take ks.length).take (i + 1) by
         have hct : (cs.take ks.length).length = ks.length := by rw [List.length_take]; omega
         rw [List.take_of_length_le (l := cs.take ks.length) oO, List.take_of_length_le (l := cs.take ks.length) oO])
       exact ⟨(_, _, i + 1), ⟨rfl, rfl, rfl, rfl, rfl, rfl, trivial⟩, ⟨hT, p1, p2, p3, p4, p5, p6, p7, p8, hK2, hO2, hsep, hleM, by ((try simp only) <;> omega), p9⟩, by ((try simp only) <;> omega)⟩)
  have h259' := dF h259
  refine W.exit <| W.sr <| WL.r (Rd.ldA rfl p4 underlying28 rfl isz28) rfl <| WL.stL rfl rfl p3 isz28 rfl rfl (fun w429 hkw429 huw429 hsw429 => ?_)
  have hle431 := Nat.le_trans hleM huw429.size
  have ho430 := OwnM.touch hkeys huw429 oM
  have hle433 := Nat.le_trans hleM huw429.size
  have ho432 := OwnM.touch hown huw429 oM
  have hF434 := LInv.same (w1 := w429) p7 (fun k hk hl => huw429.other k (by first | ((try simp only) <;> omega) | (have := hk.1; ((try simp only) <;> omega))))
  have hF435 := DOwn.same (w1 := w429) p9 (fun k hk hl => huw429.other k (by first | ((try simp only) <;> omega) | (have := hk.1; ((try simp only) <;> omega))))
  have hk436 := p1.upd huw429 oM
  have hv441 := BytesAt.upd p8 huw429 ((fun h0 => by first | (have := hdvB h0; omega) | (have := hdv2.1 h0; omega)))
  have hB442 := KeepB.trans hT (by first | exact KeepB.of_new huw429 oO | exact KeepB.of_mem huw429 (by simp))
  refine WL.nil <| ?_
  refine W.ret (W.retc1 rfl rfl (ldRow hkw429 underlying28 rfl isz28)  ?_)
  obtain rfl : i = ks.length + 1 := by omega
  have hK2 := (ho430).cast (List.take_of_length_le (l := ks) oO)
  have hO2 := (ho432).cast (List.take_of_length_le (l := cs.take ks.length) (by rw [List.length_take]; omega))
  have hI2 := hF434
  refine ⟨⟨9, 0, [], pk, _, ck, pl, _, cl, dp, d.length, dc⟩, rfl, ⟨strm_rep (S := fun k => B ≤ k) hK2 hO2 (fun g hg => by omega) hkk hv441 (fun h0 => by have := hdvB h0; omega) q12 q13 (by rw [List.length_take]; omega) (fun i h h2 => ?_) hsnd, ⟨⟨_, hK2.base (fun g hg => Nat.zero_le _), fun g hg => by have := hK2.lt g hg; show B ≤ g; omega⟩, ⟨_, ownAC (hO2.base (fun g hg => Nat.zero_le _)), fun g hg => by have := hO2.lt g hg; show B ≤ g; omega⟩, ⟨_, (hF435).mono (fun k hk _ => by omega)⟩⟩⟩, hB442, hk436⟩
  have hi2 := hI2.sub i (by rw [List.length_take] at h; omega) oO
  rw [List.getElem_append_left (by rw [pvL_map, List.length_map]; exact h2)] at hi2
  rw [List.getElem_take]
  have e3 : (pvL vs)[i]'(by rw [pvL_map, List.length_map]; exact h2) = pvO vs[i] := by simp only [pvL_map, List.getElem_map]
  rw [e3] at hi2
  exact hi2.mono fun k hk _ => hk.1.1
end
section
def f_eo : List UInt8 := [101, 110, 100, 111, 98, 106]
theorem nor_end (k : Int) (x : List UInt8) : NoR k (10 :: (f_eo ++ x)) := fun _ h => by
 have e : firstW (10 :: (f_eo ++ x)) = 101 :: (([110, 100, 111, 98, 106] ++ x).takeWhile regB) := by
  unfold firstW
  have e1 : skipS false (10 :: (f_eo ++ x)) = f_eo ++ x := by
   have := skipS_blanks [10] (f_eo ++ x) dD
   rw [show [10] ++ (f_eo ++ x) = 10 :: (f_eo ++ x) from rfl] at this
   rw [this]
   exact skipS_stop (c := 101) dD dD
  rw [e1]
  show (101 :: ([110, 100, 111, 98, 106] ++ x)).takeWhile regB = _
  rw [List.takeWhile_cons, if_pos dD]
 rw [e] at h
 exact absurd (List.cons.inj h.1).1 dD
theorem obj_quiet (b4 b5 : Nat) (w : World) (h : Blk w b5 #[.int .i64 0] 29) :
  CallsD Tryz.prog 29 #[.pointer (some ⟨b5, 0, none⟩), .pointer (some ⟨b4, 0, none⟩)] .returning w fun e u' w' => u' = .returning ∧ (∃ v, e = .returned v) ∧ w' = w := by
 refine CallsD.rec func29 rfl ntmps29 (Nat.le_of_ble_eq_true rfl) rfl ?_
 refine WL.c1 hb21 rfl rfl ((prd_guard_nil _ _)) (fun w1 hw1 => ?_)
 obtain rfl := hw1
 refine WL.nil <| ?_
 refine W.sr <| WL.r (Rd.ld (isAgg29 _) rfl h rfl) rfl <| WL.p (.neq rfl rfl) rfl <| WL.nil <| ?_
 refine W.condF rfl rfl ?_
 refine W.skip ?_
 refine W.norm (W.ret0 rfl ?_)
 exact ⟨⟨_, rfl⟩, rfl⟩
end
section
/-- what stands at an object's place -/
def objR (j : Nat) (t R : List UInt8) : List UInt8 := digitsL (j + 1) ++ (32 :: 48 :: 32 :: 111 :: 98 :: 106 :: 10 :: (t ++ (10 :: (f_eo ++ (10 :: R)))))
theorem pread_ObjectF (bf : Nat) (S : Nat → Prop) (l : List UInt8) (ps : List Nat) (j : Nat) (o : AV) (R : List UInt8) (w : World) (h : FileAt S w bf l ps) (hl : l.length ≤ 1048576) (hj : j < ps.length) (hpl : ps.length ≤ 4096) (hs : objR j (prO o) R <:+ l) (hp : ps[j] = sx l (objR j (prO o) R)) (hsnd : Snd 32 true o) (h9 : o.kind ≠ 9) :
  Calls Tryz.prog 11 #[.pointer (some ⟨bf, 0, none⟩), .int .i64 ((j + 1 : Nat) : Int)] w fun e w' => ∃ z : AC, e = .returned (.tuple #[.agg (acV z).toArray, .int .i64 0]) ∧ ATop w' (fun k => w.heap.size ≤ k) z o ∧ Below w.heap.size w w' := by
 obtain ⟨p, c, bm, y0, hf, -, hb, -, hc, hm, -, -⟩ := h
 have hg := plG_of ps j hj
 have hple := sx_le l (objR j (prO o) R)
 have s1 : (10 :: (prO o ++ (10 :: (f_eo ++ (10 :: R))))) <:+ l := sfx_of (A := [32, 48, 32, 111, 98, 106]) (sfx_of hs)
 have s2 : (10 :: (f_eo ++ (10 :: R))) <:+ l := sfx_of (sfx_cons s1)
 have hO := objT_sx (B := [10]) hsnd h9 s1 dD (bnd_blank dD) (nor_end _ _) (by have := dp_le hsnd; omega)
 obtain ⟨hW1, hW2, -, -⟩ := nw_at (B := [10]) (A := f_eo) (r := 10 :: R) (sx_drop s2) dD dD dD (bnd_blank dD)
 have hav := av_pv hsnd h9
 have hwf := pwf_snd hsnd
 refine W.enterD func11 rfl ntmps11 (Nat.le_of_ble_eq_true rfl) ?_
 have hB0 := Below.refl (w.heap.size) w
 refine WD.seq ?_
 refine W.reg <| WL.alloc zeroValue28 rfl (fun b1 wb1 eb1 hkb1 hub1 hsb1 => ?_)
 have hF2 := MapI.same (w1 := wb1) hm (fun k hk hl => hub1.other k oO)
 have hl4 : bf < b1 := by rw [eb1]; exact hf.lt
 have hk3 := hf.upd hub1 (Nat.ne_of_lt hl4)
 have hvl6 := fun h0 => eb1 ▸ hb.lt h0
 have hv5 := bup hb hub1 hvl6
 have hB7 := Upd.below hB0 (by rw [eb1]; exact hB0.size) hub1
 have hgeb1 : w.heap.size ≤ b1 := by rw [eb1]; exact hB0.size
 refine WL.alloc zeroValue29 rfl (fun b8 wb8 eb8 hkb8 hub8 hsb8 => ?_)
 have hF9 := MapI.same (w1 := wb8) hF2 (fun k hk hl => hub8.other k oO)
 have hl11 : bf < b8 := by rw [eb8]; exact hk3.lt
 have hk10 := hk3.upd hub8 (Nat.ne_of_lt hl11)
 have hl13 : b1 < b8 := by rw [eb8]; exact hkb1.lt
 have hk12 := hkb1.upd hub8 (Nat.ne_of_lt hl13)
 have hvl15 := fun h0 => eb8 ▸ hv5.lt h0
 have hv14 := bup hv5 hub8 hvl15
 have hB16 := Upd.below hB7 (by rw [eb8]; exact hB7.size) hub8
 have hgeb8 : w.heap.size ≤ b8 := by rw [eb8]; exact hB7.size
 refine WL.nil <| ?_
 refine WD.seq ?_
 refine W.sr <| WL.m rfl rfl <| WL.p (.eqP underlying32 rfl) rfl <| WL.nil <| ?_
 refine W.condF rfl rfl ?_
 refine W.skip ?_
 refine WD.defer rfl rfl ?_
 refine WD.of ?_
 refine W.seq ?_
 refine W.pnK [(4, .pointer (some ⟨b1, 0, none⟩)), (5, .pointer (some ⟨b8, 0, none⟩))] (fun c f w hle h tmps ht => h tmps (fun i u hu => ht i u (hle.look hu))) ?_
 refine W.regH 10 rfl mixed (fun w' => w'.heap[bf]? = wb8.heap[bf]? ∧ True) (fun w17 dw17 => ?_)
 have hF18 := MapI.same (w1 := w17) hF9 (fun k hk hl => (by obtain ⟨m, rfl⟩ := dw17; rfl))
 have hk19 := hk10.drew dw17
 have hk20 := hk12.drew dw17
 have hk21 := hkb8.drew dw17
 have hv22 := hv14.drew dw17
 have hB23 := Drew.below hB16 dw17
 refine WH.tp 0 rfl (.mv rfl) ⟨(hk19).trans (hk10).symm, trivial⟩ rfl ?_
 refine WH.tp 1 rfl (.nck rfl) ⟨(hk19).trans (hk10).symm, trivial⟩ rfl ?_
 refine WH.tp 2 rfl (.fa underlying60 rfl sizeOf26 dD rfl) ⟨(hk19).trans (hk10).symm, trivial⟩ rfl ?_
 refine WH.tk 3 rfl (fun w' hw' => Rd.ld (isAgg26 _) rfl ((hw'.1).trans hk10) rfl) ⟨(hk19).trans (hk10).symm, trivial⟩ rfl ?_
 refine WH.tp 4 rfl (.mv rfl) ⟨(hk19).trans (hk10).symm, trivial⟩ rfl ?_
 refine WH.tp 5 rfl (.mv rfl) ⟨(hk19).trans (hk10).symm, trivial⟩ rfl ?_
 refine WH.br1 6 rfl ?_
 refine WL.c1 hb30 rfl rfl ((rd_place bf bm _ _ _ p l c (plG ps) _ ps[j] _ hk19 rfl rfl hF18 (wfI oO) hg oO)) (fun w24 hw24 => ?_)
 obtain rfl := hw24
 refine WL.nil <| ?_
 refine ⟨⟨(hk19).trans (hk10).symm, trivial⟩, ?_⟩
 refine WH.tp 7 rfl (.buildL (ps := _) blt57 rfl rfl rfl pS) ⟨(hk19).trans (hk10).symm, trivial⟩ rfl ?_
 refine WH.br1 8 rfl ?_
 have hbl21 := (hv22).lt
 refine WL.box rfl rfl (fun b25 wb25 eb25 hkb25 hub25 hsb25 => ?_)
 have hl28 : bf < b25 := by rw [eb25]; exact hk19.lt
 have hk27 := hk19.upd hub25 (Nat.ne_of_lt hl28)
 have hl30 : b1 < b25 := by rw [eb25]; exact hk20.lt
 have hk29 := hk20.upd hub25 (Nat.ne_of_lt hl30)
 have hl32 : b8 < b25 := by rw [eb25]; exact hk21.lt
 have hk31 := hk21.upd hub25 (Nat.ne_of_lt hl32)
 have hvl34 := fun h0 => eb25 ▸ hv22.lt h0
 have hv33 := bup hv22 hub25 hvl34
 have hB35 := Upd.below hB23 (by rw [eb25]; exact hB23.size) hub25
 have hgeb25 : w.heap.size ≤ b25 := by rw [eb25]; exact hB23.size
 have hrd : Blk wb25 b25 (rdC p l c (sx l (objR j (prO o) R))) 57 := by rw [← hp]; exact hkb25
 have hne : 0 < l.length → (pA p).block ≠ b25 := fun h0 => by have := hbl21 h0; omega
 refine WL.nil <| ?_
 refine ⟨⟨(hk27).trans (hk10).symm, trivial⟩, ?_⟩
 refine WH.tp 9 rfl (.as rfl) ⟨(hk27).trans (hk10).symm, trivial⟩ rfl ?_
 refine WH.done kR ?_
 refine W.sr <| WL.m rfl rfl <| WL.m rfl rfl <| WL.c1 hb31 rfl rfl ((rd_headS b25 p l c (j + 1) oO _ _ hrd hv33 hc oO hne hs)) (fun w36 hw36 => ?_)
 have hk39 := Blk.keepB hk29 hw36.1 hk29.lt (by simp only [List.mem_cons, List.not_mem_nil, or_false, not_or, not_false_eq_true]; omega)
 have hk40 := Blk.keepB hk31 hw36.1 hk31.lt (by simp only [List.mem_cons, List.not_mem_nil, or_false, not_or, not_false_eq_true]; omega)
 have hv41 := BytesAt.keepB hv33 hw36.1 (fun h0 => ⟨hv33.lt h0, by first | simpa using (hne) h0 | (have q := (hne) h0; have q1 := hv33.lt h0; simp only [List.mem_cons, List.not_mem_nil, or_false, not_or, not_false_eq_true]; omega)⟩)
 have hB42 := Below.trans hB35 (KeepB.below hw36.1 hB35.size (by simp <;> omega))
 have hm2 := hw36.2
 have hbrl := (hw36.2).lt
 refine WL.nil <| ?_
 refine W.sr <| WL.m rfl rfl <| ?_
 have hge26 := hB42.size
 have hlt26 := (hk39).lt
 have hlt26b := (hk40).lt
 have hlt26c := (hm2).lt
 refine WL.call hb32 rfl rfl ((rd_body b25 p l c _ _ _ _ hm2 hv41 hc oO hne hO)) (fun y w43 hw43 => ?_)
 have hk46 := Blk.keepB hk39 hw43.2.1 hk39.lt (by simp only [List.mem_cons, List.not_mem_nil, or_false, not_or, not_false_eq_true]; omega)
 have hk47 := Blk.keepB hk40 hw43.2.1 hk40.lt (by simp only [List.mem_cons, List.not_mem_nil, or_false, not_or, not_false_eq_true]; omega)
 have hv48 := BytesAt.keepB hv41 hw43.2.1 (fun h0 => ⟨hv41.lt h0, by first | simpa using (hne) h0 | (have q := (hne) h0; have q1 := hv41.lt h0; simp only [List.mem_cons, List.not_mem_nil, or_false, not_or, not_false_eq_true]; omega)⟩)
 have hB49 := Below.trans hB42 (KeepB.below hw43.2.1 hB42.size (by simp <;> omega))
 have hmy := hw43.2.2
 have hpy := (hw43.1).mono (T := fun k => w.heap.size ≤ k ∧ k ≠ b1 ∧ k ≠ b8 ∧ k ≠ b25 ∧ k < w43.heap.size) (fun k hk hlt => ⟨by omega, by omega, by omega, by omega, hlt⟩)
 have hz4 := (hk39).lt
 refine WL.stL rfl rfl hk46 isz28 rfl rfl (fun w50 hkw50 huw50 hsw50 => ?_)
 have hF52 := PRep.same (w1 := w50) hpy (fun k hk hl => huw50.other k (by first | ((try simp only) <;> omega) | (have := hk.1; ((try simp only) <;> omega))))
 have hk54 := hk47.up huw50
 have hk55 := hmy.upd huw50 oM
 have hv56 := bup hv48 huw50 hvl6
 have hB57 := Upd.below hB49 oO huw50
 refine WL.nil <| ?_
 refine W.seq <| W.seq ?_
 refine W.noPn ?_
 refine W.regH 19 rfl mixed (fun w' => w'.heap[b25]? = w50.heap[b25]? ∧ True) (fun w58 dw58 => ?_)
 have hF60 := PRep.same (w1 := w58) hF52 (fun k hk hl => (by obtain ⟨m, rfl⟩ := dw58; rfl))
 have hk62 := hkw50.drew dw58
 have hk63 := hk54.drew dw58
 have hk64 := hk55.drew dw58
 have hv65 := hv56.drew dw58
 have hB66 := Drew.below hB57 dw58
 refine WH.tp 0 rfl (.mv rfl) ⟨(hk64).trans (hk55).symm, trivial⟩ rfl ?_
 refine WH.tp 1 rfl (.nck rfl) ⟨(hk64).trans (hk55).symm, trivial⟩ rfl ?_
 refine WH.tp 2 rfl (.fa underlying57 rfl sizeOf26 dD rfl) ⟨(hk64).trans (hk55).symm, trivial⟩ rfl ?_
 refine WH.tk 3 rfl (fun w' hw' => Rd.ld (isAgg26 _) rfl ((hw'.1).trans hk55) rfl) ⟨(hk64).trans (hk55).symm, trivial⟩ rfl ?_
 refine WH.tp 4 rfl (.mv rfl) ⟨(hk64).trans (hk55).symm, trivial⟩ rfl ?_
 refine WH.tp 5 rfl (.nck rfl) ⟨(hk64).trans (hk55).symm, trivial⟩ rfl ?_
 refine WH.tp 6 rfl (.fa underlying57 rfl sizeOf26 dD rfl) ⟨(hk64).trans (hk55).symm, trivial⟩ rfl ?_
 refine WH.tk 7 rfl (fun w' hw' => Rd.ld (isAgg26 _) rfl ((hw'.1).trans hk55) rfl) ⟨(hk64).trans (hk55).symm, trivial⟩ rfl ?_
 refine WH.tp 8 rfl (.mv rfl) ⟨(hk64).trans (hk55).symm, trivial⟩ rfl ?_
 refine WH.tp 9 rfl (.nck rfl) ⟨(hk64).trans (hk55).symm, trivial⟩ rfl ?_
 refine WH.tp 10 rfl (.fa underlying57 rfl sizeOf3 dD rfl) ⟨(hk64).trans (hk55).symm, trivial⟩ rfl ?_
 refine WH.tk 11 rfl (fun w' hw' => Rd.ld (isAgg3 _) rfl ((hw'.1).trans hk55) rfl) ⟨(hk64).trans (hk55).symm, trivial⟩ rfl ?_
 refine WH.br1 12 rfl ?_
 refine WL.c1 hb34 rfl rfl ((plex_SkipN p l c _ _ (sx_le _ _) hv65 oO)) (fun w67 hw67 => ?_)
 obtain rfl := hw67
 refine WL.nil <| ?_
 refine ⟨⟨(hk64).trans (hk55).symm, trivial⟩, ?_⟩
 refine WH.br1 13 rfl ?_
 refine WL.c1 hb33 rfl rfl ((plex_WordN p l c _ _ (skipAt_le _ _ _) hv65 hc oO)) (fun w68 hw68 => ?_)
 obtain rfl := hw68
 refine WL.nil <| ?_
 refine ⟨⟨(hk64).trans (hk55).symm, trivial⟩, ?_⟩
 refine WH.tp 14 rfl (.mv rfl) ⟨(hk64).trans (hk55).symm, trivial⟩ rfl ?_
 refine WH.tp 15 rfl (.ext rfl rfl) ⟨(hk64).trans (hk55).symm, trivial⟩ rfl ?_
 refine WH.tp 16 rfl (.ext rfl rfl) ⟨(hk64).trans (hk55).symm, trivial⟩ rfl ?_
 refine WH.tp 17 rfl (.as rfl) ⟨(hk64).trans (hk55).symm, trivial⟩ rfl ?_
 refine WH.tp 18 rfl (.as rfl) ⟨(hk64).trans (hk55).symm, trivial⟩ rfl ?_
 refine WH.done kR ?_
 rw [show wordL l (skipAt false l (sx l (10 :: (f_eo ++ 10 :: R)))) = f_eo from hW1]
 refine W.cutB 50 (false) ?_ ?_
 refine W.reg <| WL.p (.fa underlying28 rfl sizeOf3 dD rfl) rfl <| WL.r (Rd.ld (isAgg3 _) rfl hk62 rfl) rfl <| WL.p (.eql rfl rfl) rfl <| WL.m rfl rfl <| WL.gd rfl rfl rfl (fun g69 => ?_) (fun g69 => ?_)
 have g69' := dT g69
 refine WL.m rfl rfl <| WL.gy rfl rfl rfl g69 <| WL.p (.eqs rfl rfl) rfl <| WL.p (.pkT rfl g69 rfl) rfl <| WL.nil <| ?_
 exact ⟨leE (lk_b rfl (by first | rfl | decide)), rfl⟩
 have g69' := dF g69
 refine WL.gn rfl rfl rfl g69 <| WL.p (.pkF rfl g69 rfl) rfl <| WL.nil <| ?_
 exact ⟨leE (lk_b rfl (by first | rfl | decide)), rfl⟩
 refine W.condF rfl rfl ?_
 refine W.skip <| W.sr <| WL.m rfl rfl <| WL.c1 hb36 rfl rfl ((rd_wordS [10] f_eo (10 :: R) hk64 hv65 hc oO hne s2 dD dD dD (bnd_blank dD))) (fun w70 hw70 => ?_)
 have hF72 := PRep.same (w1 := w70) hF60 (fun k hk hl => hw70.1.block k hl (by first | (simp only [List.mem_cons, List.not_mem_nil, or_false, not_or, not_false_eq_true]; omega) | (simp only [List.mem_cons, List.not_mem_nil, or_false, not_or, not_false_eq_true]; have := hk.1; omega)))
 have hk74 := Blk.keepB hk62 hw70.1 hk62.lt (by simp only [List.mem_cons, List.not_mem_nil, or_false, not_or, not_false_eq_true]; omega)
 have hk75 := Blk.keepB hk63 hw70.1 hk63.lt (by simp only [List.mem_cons, List.not_mem_nil, or_false, not_or, not_false_eq_true]; omega)
 have hB77 := Below.trans hB66 (KeepB.below hw70.1 hB66.size (by simp <;> omega))
 have hm4 := hw70.2
 refine WL.nil <| ?_
 refine W.sr <| WL.r (Rd.ldA rfl hk74 underlying28 rfl isz28) rfl <| WL.stL rfl rfl hk74 isz28 rfl rfl (fun w78 hkw78 huw78 hsw78 => ?_)
 have hF80 := PRep.same (w1 := w78) hF72 (fun k hk hl => huw78.other k (by first | ((try simp only) <;> omega) | (have := hk.1; ((try simp only) <;> omega))))
 have hk82 := hk75.up huw78
 have hB85 := Upd.below hB77 oO huw78
 refine WL.st sizeOf29 rfl rfl rfl hk82 oD (fun w86 hkw86 huw86 hsw86 => ?_)
 have hkw86 : Blk w86 b8 _ _ := hkw86
 have huw86 : Upd b8 _ _ := huw86
 have hF88 := PRep.same (w1 := w86) hF80 (fun k hk hl => huw86.other k (by first | ((try simp only) <;> omega) | (have := hk.1; ((try simp only) <;> omega))))
 have hk90 := hkw78.up huw86
 have hB93 := Upd.below hB85 oO huw86
 refine WL.nil <| ?_
 refine W.ret ?_
 exact PostD.ret hb29 (fun w' => _) (obj_quiet b1 b8 _ hkw86) (fun w' hS => by
  subst hS
  have hq0 := (hF88).mono (T := fun k => w.heap.size ≤ k) (fun k hk _ => hk.1)
  have hq1 := hq0.rep hwf
  rw [hav] at hq1
  have hq : ATop _ _ _ _ := ⟨hq1, hq0.tops⟩
  exact ⟨_, ResOk.cells2 rfl rfl rfl (ldRow hk90 underlying28 rfl isz28) (ldCell hkw86 (isAgg29 _) rfl), ⟨_, rvE rfl, hq, hB93⟩⟩)
/-- a stream as the dictionary that is read -/
def strmD (ks : List (List UInt8)) (vs : List AV) (d : List UInt8) : AV := .mk 7 0 [] (ks ++ [kLen]) (vs ++ [.mk 2 (d.length : Int) [] [] [] []]) []
theorem strmD_pv (ks : List (List UInt8)) (vs : List AV) (d : List UInt8) : pvO (strmD ks vs d) = .mk 7 0 [] (ks ++ [kLen]) (pvL vs ++ [pv0 2 (d.length : Int) []]) := by
 simp [strmD, pvO, pvL_map, pv0]
theorem strm_pr (ks : List (List UInt8)) (vs : List AV) (d : List UInt8) (h : ks.length = vs.length) : prO (.mk 9 0 [] ks vs d) = prO (strmD ks vs d) ++ (10 :: (f_str ++ (10 :: (d ++ (10 :: f_est))))) := by
 have h1 : nmT kLen = [47, 76, 101, 110, 103, 116, 104] := by decide
 have h2 : prO (.mk 2 (d.length : Int) [] [] [] []) = decL (d.length : Int) := by simp [prO]
 have e1 : prO (.mk 9 0 [] ks vs d) = 60 :: 60 :: (prP ks vs ++ strmE d) := by simp [prO]
 have e2 : prO (strmD ks vs d) = 60 :: 60 :: (prP (ks ++ [kLen]) (vs ++ [.mk 2 (d.length : Int) [] [] [] []]) ++ [32, 62, 62]) := by simp [prO, strmD]
 rw [e1, e2, prP_snoc ks vs _ _ h, h1, h2]
 simp [strmE, f_str, f_est]
theorem strm_snd {ks : List (List UInt8)} {vs : List AV} {d : List UInt8} (h : Snd 32 true (.mk 9 0 [] ks vs d)) (hv : vs.length ≤ 100) :
  kLen ∉ ks ∧ ks.length = vs.length ∧ (∀ k ∈ ks, k.length ≤ 127) ∧ d.length ≤ 1048576 ∧ (∀ o ∈ vs, Snd 31 false o) ∧ Snd 32 true (strmD ks vs d) := by
 cases h with
 | num _ _ k n hk hf => simp at hk
 | dict _ _ k ks L dd hk hD hl hkl hn hnd hS =>
  have hk9 : d.length ≤ 1048576 ∧ [76, 101, 110, 103, 116, 104] ∉ ks := by
   rcases hk with ⟨h, -⟩ | ⟨-, -, h1, h2⟩
   ·
    exact absurd h dD
   ·
    exact ⟨h1, h2⟩
  refine ⟨hk9.2, hkl, fun k hk => (hn k hk).2.2, hk9.1, hS, ?_⟩
  refine .dict _ _ 7 _ _ _ (.inl ⟨rfl, rfl⟩) dD (by simp; omega) (by simp [hkl]) ?_ ?_ ?_
  ·
   intro x hx
   rcases List.mem_append.1 hx with hx | hx
   ·
    exact hn x hx
   ·
    rw [List.mem_singleton] at hx; subst hx; exact ⟨by decide, by decide, by decide⟩
  ·
   rw [List.nodup_append]
   refine ⟨hnd, by simp, fun a ha b hb => ?_⟩
   rw [List.mem_singleton] at hb; subst hb
   exact fun e => hk9.2 (by rw [e] at ha; exact ha)
  ·
   intro o ho
   rcases List.mem_append.1 ho with ho | ho
   ·
    exact hS o ho
   ·
    rw [List.mem_singleton] at ho; subst ho
    exact .num _ _ _ _ (.inl rfl) (by unfold fitsB; simp; omega)
theorem pread_ObjectS (bf : Nat) (S : Nat → Prop) (l : List UInt8) (ps : List Nat) (j : Nat) (ks : List (List UInt8)) (vs : List AV) (d R : List UInt8) (w : World) (h : FileAt S w bf l ps) (hl : l.length ≤ 1048576) (hj : j < ps.length) (hpl : ps.length ≤ 4096) (hs : objR j (prO (.mk 9 0 [] ks vs d)) R <:+ l) (hp : ps[j] = sx l (objR j (prO (.mk 9 0 [] ks vs d)) R)) (hsnd : Snd 32 true (.mk 9 0 [] ks vs d)) (hvl : vs.length ≤ 100) :
  Calls Tryz.prog 11 #[.pointer (some ⟨bf, 0, none⟩), .int .i64 ((j + 1 : Nat) : Int)] w fun e w' => ∃ z : AC, e = .returned (.tuple #[.agg (acV z).toArray, .int .i64 0]) ∧ ATop w' (fun k => w.heap.size ≤ k) z (.mk 9 0 [] ks vs d) ∧ Below w.heap.size w w' := by
 obtain ⟨p, c, bm, y0, hf, -, hb, -, hc, hm, -, -⟩ := h
 have hg := plG_of ps j hj
 have hple := sx_le l (objR j (prO (.mk 9 0 [] ks vs d)) R)
 obtain ⟨hn, hkl, hnm, hd, hvs, ho2⟩ := strm_snd hsnd hvl
 have s1 : (10 :: (prO (strmD ks vs d) ++ (10 :: (f_str ++ (10 :: (d ++ (10 :: (f_est ++ (10 :: (f_eo ++ (10 :: R)))))))))))<:+ l := by
  have q : (10 :: (prO (.mk 9 0 [] ks vs d) ++ (10 :: (f_eo ++ (10 :: R))))) <:+ l := sfx_of (A := [32, 48, 32, 111, 98, 106]) (sfx_of hs)
  rw [strm_pr ks vs d hkl] at q
  simpa only [List.append_assoc, List.cons_append] using q
 have s2 : (10 :: (f_str ++ (10 :: (d ++ (10 :: (f_est ++ (10 :: (f_eo ++ (10 :: R))))))))) <:+ l := sfx_of (sfx_cons s1)
 have s3 : (10 :: (d ++ (10 :: (f_est ++ (10 :: (f_eo ++ (10 :: R))))))) <:+ l := sfx_of (sfx_cons s2)
 have s4 : (10 :: (f_eo ++ (10 :: R))) <:+ l := sfx_of (sfx_cons (sfx_of (sfx_cons s3)))
 have hO := objT_sx (B := [10]) ho2 (by simp [strmD, AV.kind]) s1 dD (bnd_blank dD) (fun q => by simp [strmD, AV.kind] at q) (by have := dp_le ho2; omega)
 rw [strmD_pv] at hO
 obtain ⟨hW1, hW2, -, -⟩ := nw_at (B := [10]) (A := f_str) (sx_drop s2) dD dD dD (bnd_blank dD)
 refine W.enterD func11 rfl ntmps11 (Nat.le_of_ble_eq_true rfl) ?_
 have hB0 := Below.refl (w.heap.size) w
 refine WD.seq ?_
 refine W.reg <| WL.alloc zeroValue28 rfl (fun b1 wb1 eb1 hkb1 hub1 hsb1 => ?_)
 have hF2 := MapI.same (w1 := wb1) hm (fun k hk hl => hub1.other k oO)
 have hl4 : bf < b1 := by rw [eb1]; exact hf.lt
 have hk3 := hf.upd hub1 (Nat.ne_of_lt hl4)
 have hvl6 := fun h0 => eb1 ▸ hb.lt h0
 have hv5 := bup hb hub1 hvl6
 have hB7 := Upd.below hB0 (by rw [eb1]; exact hB0.size) hub1
 have hgeb1 : w.heap.size ≤ b1 := by rw [eb1]; exact hB0.size
 refine WL.alloc zeroValue29 rfl (fun b8 wb8 eb8 hkb8 hub8 hsb8 => ?_)
 have hF9 := MapI.same (w1 := wb8) hF2 (fun k hk hl => hub8.other k oO)
 have hl11 : bf < b8 := by rw [eb8]; exact hk3.lt
 have hk10 := hk3.upd hub8 (Nat.ne_of_lt hl11)
 have hl13 : b1 < b8 := by rw [eb8]; exact hkb1.lt
 have hk12 := hkb1.upd hub8 (Nat.ne_of_lt hl13)
 have hvl15 := fun h0 => eb8 ▸ hv5.lt h0
 have hv14 := bup hv5 hub8 hvl15
 have hB16 := Upd.below hB7 (by rw [eb8]; exact hB7.size) hub8
 have hgeb8 : w.heap.size ≤ b8 := by rw [eb8]; exact hB7.size
 refine WL.nil <| ?_
 refine WD.seq ?_
 refine W.sr <| WL.m rfl rfl <| WL.p (.eqP underlying32 rfl) rfl <| WL.nil <| ?_
 refine W.condF rfl rfl ?_
 refine W.skip ?_
 refine WD.defer rfl rfl ?_
 refine WD.of ?_
 refine W.seq ?_
 refine W.pnK [(4, .pointer (some ⟨b1, 0, none⟩)), (5, .pointer (some ⟨b8, 0, none⟩))] (fun c f w hle h tmps ht => h tmps (fun i u hu => ht i u (hle.look hu))) ?_
 refine W.regH 10 rfl mixed (fun w' => w'.heap[bf]? = wb8.heap[bf]? ∧ True) (fun w17 dw17 => ?_)
 have hF18 := MapI.same (w1 := w17) hF9 (fun k hk hl => (by obtain ⟨m, rfl⟩ := dw17; rfl))
 have hk19 := hk10.drew dw17
 have hk20 := hk12.drew dw17
 have hk21 := hkb8.drew dw17
 have hv22 := hv14.drew dw17
 have hB23 := Drew.below hB16 dw17
 refine WH.tp 0 rfl (.mv rfl) ⟨(hk19).trans (hk10).symm, trivial⟩ rfl ?_
 refine WH.tp 1 rfl (.nck rfl) ⟨(hk19).trans (hk10).symm, trivial⟩ rfl ?_
 refine WH.tp 2 rfl (.fa underlying60 rfl sizeOf26 dD rfl) ⟨(hk19).trans (hk10).symm, trivial⟩ rfl ?_
 refine WH.tk 3 rfl (fun w' hw' => Rd.ld (isAgg26 _) rfl ((hw'.1).trans hk10) rfl) ⟨(hk19).trans (hk10).symm, trivial⟩ rfl ?_
 refine WH.tp 4 rfl (.mv rfl) ⟨(hk19).trans (hk10).symm, trivial⟩ rfl ?_
 refine WH.tp 5 rfl (.mv rfl) ⟨(hk19).trans (hk10).symm, trivial⟩ rfl ?_
 refine WH.br1 6 rfl ?_
 refine WL.c1 hb30 rfl rfl ((rd_place bf bm _ _ _ p l c (plG ps) _ ps[j] _ hk19 rfl rfl hF18 (wfI oO) hg oO)) (fun w24 hw24 => ?_)
 obtain rfl := hw24
 refine WL.nil <| ?_
 refine ⟨⟨(hk19).trans (hk10).symm, trivial⟩, ?_⟩
 refine WH.tp 7 rfl (.buildL (ps := _) blt57 rfl rfl rfl pS) ⟨(hk19).trans (hk10).symm, trivial⟩ rfl ?_
 refine WH.br1 8 rfl ?_
 have hbl21 := (hv22).lt
 refine WL.box rfl rfl (fun b25 wb25 eb25 hkb25 hub25 hsb25 => ?_)
 have hl28 : bf < b25 := by rw [eb25]; exact hk19.lt
 have hk27 := hk19.upd hub25 (Nat.ne_of_lt hl28)
 have hl30 : b1 < b25 := by rw [eb25]; exact hk20.lt
 have hk29 := hk20.upd hub25 (Nat.ne_of_lt hl30)
 have hl32 : b8 < b25 := by rw [eb25]; exact hk21.lt
 have hk31 := hk21.upd hub25 (Nat.ne_of_lt hl32)
 have hvl34 := fun h0 => eb25 ▸ hv22.lt h0
 have hv33 := bup hv22 hub25 hvl34
 have hB35 := Upd.below hB23 (by rw [eb25]; exact hB23.size) hub25
 have hgeb25 : w.heap.size ≤ b25 := by rw [eb25]; exact hB23.size
 have hrd : Blk wb25 b25 (rdC p l c (sx l (objR j (prO (.mk 9 0 [] ks vs d)) R))) 57 := by rw [← hp]; exact hkb25
 have hne : 0 < l.length → (pA p).block ≠ b25 := fun h0 => by have := hbl21 h0; omega
 refine WL.nil <| ?_
 refine ⟨⟨(hk27).trans (hk10).symm, trivial⟩, ?_⟩
 refine WH.tp 9 rfl (.as rfl) ⟨(hk27).trans (hk10).symm, trivial⟩ rfl ?_
 refine WH.done kR ?_
 refine W.sr <| WL.m rfl rfl <| WL.m rfl rfl <| WL.c1 hb31 rfl rfl ((rd_headS b25 p l c (j + 1) oO _ _ hrd hv33 hc oO hne hs)) (fun w36 hw36 => ?_)
 have hk39 := Blk.keepB hk29 hw36.1 hk29.lt (by simp only [List.mem_cons, List.not_mem_nil, or_false, not_or, not_false_eq_true]; omega)
 have hk40 := Blk.keepB hk31 hw36.1 hk31.lt (by simp only [List.mem_cons, List.not_mem_nil, or_false, not_or, not_false_eq_true]; omega)
 have hv41 := BytesAt.keepB hv33 hw36.1 (fun h0 => ⟨hv33.lt h0, by first | simpa using (hne) h0 | (have q := (hne) h0; have q1 := hv33.lt h0; simp only [List.mem_cons, List.not_mem_nil, or_false, not_or, not_false_eq_true]; omega)⟩)
 have hB42 := Below.trans hB35 (KeepB.below hw36.1 hB35.size (by simp <;> omega))
 have hm2 : Blk w36 b25 (rdC p l c (sx l (10 :: (prO (strmD ks vs d) ++ (10 :: (f_str ++ (10 :: (d ++ (10 :: (f_est ++ (10 :: (f_eo ++ (10 :: R)))))))))))) ) 57 := by (have q := hw36.2); (rw [strm_pr ks vs d hkl] at q); (simpa only [List.append_assoc, List.cons_append] using q)
 have hbrl := (hw36.2).lt
 refine WL.nil <| ?_
 refine W.sr <| WL.m rfl rfl <| ?_
 have hge26 := hB42.size
 have hlt26 := (hk39).lt
 have hlt26b := (hk40).lt
 have hlt26c := (hm2).lt
 refine WL.call hb32 rfl rfl ((rd_body b25 p l c _ _ _ _ hm2 hv41 hc oO hne hO)) (fun y w43 hw43 => ?_)
 have hk46 := Blk.keepB hk39 hw43.2.1 hk39.lt (by simp only [List.mem_cons, List.not_mem_nil, or_false, not_or, not_false_eq_true]; omega)
 have hk47 := Blk.keepB hk40 hw43.2.1 hk40.lt (by simp only [List.mem_cons, List.not_mem_nil, or_false, not_or, not_false_eq_true]; omega)
 have hv48 := BytesAt.keepB hv41 hw43.2.1 (fun h0 => ⟨hv41.lt h0, by first | simpa using (hne) h0 | (have q := (hne) h0; have q1 := hv41.lt h0; simp only [List.mem_cons, List.not_mem_nil, or_false, not_or, not_false_eq_true]; omega)⟩)
 have hB49 := Below.trans hB42 (KeepB.below hw43.2.1 hB42.size (by simp <;> omega))
 have hmy := hw43.2.2
 have hpy := (hw43.1).mono (T := fun k => w.heap.size ≤ k ∧ k ≠ b1 ∧ k ≠ b8 ∧ b25 < k ∧ k < w43.heap.size) (fun k hk hlt => ⟨by omega, by omega, by omega, by omega, hlt⟩)
 have hyk := (hw43.1).kindE
 have hz4 := (hk39).lt
 refine WL.stL rfl rfl hk46 isz28 rfl rfl (fun w50 hkw50 huw50 hsw50 => ?_)
 have hF52 := PRep.same (w1 := w50) hpy (fun k hk hl => huw50.other k (by first | ((try simp only) <;> omega) | (have := hk.1; ((try simp only) <;> omega))))
 have hk54 := hk47.up huw50
 have hk55 := hmy.upd huw50 oM
 have hv56 := bup hv48 huw50 hvl6
 have hB57 := Upd.below hB49 oO huw50
 refine WL.nil <| ?_
 refine W.seq <| W.seq ?_
 refine W.noPn ?_
 refine W.regH 19 rfl mixed (fun w' => w'.heap[b25]? = w50.heap[b25]? ∧ True) (fun w58 dw58 => ?_)
 have hF60 := PRep.same (w1 := w58) hF52 (fun k hk hl => (by obtain ⟨m, rfl⟩ := dw58; rfl))
 have hk62 := hkw50.drew dw58
 have hk63 := hk54.drew dw58
 have hk64 := hk55.drew dw58
 have hv65 := hv56.drew dw58
 have hB66 := Drew.below hB57 dw58
 refine WH.tp 0 rfl (.mv rfl) ⟨(hk64).trans (hk55).symm, trivial⟩ rfl ?_
 refine WH.tp 1 rfl (.nck rfl) ⟨(hk64).trans (hk55).symm, trivial⟩ rfl ?_
 refine WH.tp 2 rfl (.fa underlying57 rfl sizeOf26 dD rfl) ⟨(hk64).trans (hk55).symm, trivial⟩ rfl ?_
 refine WH.tk 3 rfl (fun w' hw' => Rd.ld (isAgg26 _) rfl ((hw'.1).trans hk55) rfl) ⟨(hk64).trans (hk55).symm, trivial⟩ rfl ?_
 refine WH.tp 4 rfl (.mv rfl) ⟨(hk64).trans (hk55).symm, trivial⟩ rfl ?_
 refine WH.tp 5 rfl (.nck rfl) ⟨(hk64).trans (hk55).symm, trivial⟩ rfl ?_
 refine WH.tp 6 rfl (.fa underlying57 rfl sizeOf26 dD rfl) ⟨(hk64).trans (hk55).symm, trivial⟩ rfl ?_
 refine WH.tk 7 rfl (fun w' hw' => Rd.ld (isAgg26 _) rfl ((hw'.1).trans hk55) rfl) ⟨(hk64).trans (hk55).symm, trivial⟩ rfl ?_
 refine WH.tp 8 rfl (.mv rfl) ⟨(hk64).trans (hk55).symm, trivial⟩ rfl ?_
 refine WH.tp 9 rfl (.nck rfl) ⟨(hk64).trans (hk55).symm, trivial⟩ rfl ?_
 refine WH.tp 10 rfl (.fa underlying57 rfl sizeOf3 dD rfl) ⟨(hk64).trans (hk55).symm, trivial⟩ rfl ?_
 refine WH.tk 11 rfl (fun w' hw' => Rd.ld (isAgg3 _) rfl ((hw'.1).trans hk55) rfl) ⟨(hk64).trans (hk55).symm, trivial⟩ rfl ?_
 refine WH.br1 12 rfl ?_
 refine WL.c1 hb34 rfl rfl ((plex_SkipN p l c _ _ (sx_le _ _) hv65 oO)) (fun w67 hw67 => ?_)
 obtain rfl := hw67
 refine WL.nil <| ?_
 refine ⟨⟨(hk64).trans (hk55).symm, trivial⟩, ?_⟩
 refine WH.br1 13 rfl ?_
 refine WL.c1 hb33 rfl rfl ((plex_WordN p l c _ _ (skipAt_le _ _ _) hv65 hc oO)) (fun w68 hw68 => ?_)
 obtain rfl := hw68
 refine WL.nil <| ?_
 refine ⟨⟨(hk64).trans (hk55).symm, trivial⟩, ?_⟩
 refine WH.tp 14 rfl (.mv rfl) ⟨(hk64).trans (hk55).symm, trivial⟩ rfl ?_
 refine WH.tp 15 rfl (.ext rfl rfl) ⟨(hk64).trans (hk55).symm, trivial⟩ rfl ?_
 refine WH.tp 16 rfl (.ext rfl rfl) ⟨(hk64).trans (hk55).symm, trivial⟩ rfl ?_
 refine WH.tp 17 rfl (.as rfl) ⟨(hk64).trans (hk55).symm, trivial⟩ rfl ?_
 refine WH.tp 18 rfl (.as rfl) ⟨(hk64).trans (hk55).symm, trivial⟩ rfl ?_
 refine WH.done kR ?_
 refine W.seq ?_
 rw [show wordL l (skipAt false l (sx l (10 :: (f_str ++ (10 :: (d ++ (10 :: (f_est ++ (10 :: (f_eo ++ (10 :: R)))))))))) ) = f_str from hW1, show wordAt l (skipAt false l (sx l (10 :: (f_str ++ (10 :: (d ++ (10 :: (f_est ++ (10 :: (f_eo ++ (10 :: R)))))))))) ) = sx l (10 :: (d ++ (10 :: (f_est ++ (10 :: (f_eo ++ (10 :: R))))))) from hW2]
 refine W.reg <| WL.p (.fa underlying28 rfl sizeOf3 dD rfl) rfl <| WL.r (Rd.ld (isAgg3 _) rfl hk62 rfl) rfl <| WL.p (.bis (true) (.eql rfl rfl) (by rw [hyk]; rfl)) rfl <| WL.m rfl rfl <| WL.gy rfl rfl rfl rfl <| WL.m rfl rfl <| WL.gy rfl rfl rfl rfl <| WL.p (.bis (true) (.eqs rfl rfl) dD) rfl <| WL.p (.pkT rfl rfl rfl) rfl <| WL.nil <| ?_
 refine W.condT rfl rfl ?_
 refine W.sr <| WL.m rfl rfl <| WL.m rfl rfl <| WL.p (.nck rfl) rfl <| WL.p (.fa underlying57 rfl sizeOf3 dD rfl) rfl <| WL.st sizeOf3 rfl rfl rfl hk64 oD (fun w69 hkw69 huw69 hsw69 => ?_)
 have hkw69 : Blk w69 b25 _ _ := hkw69
 have huw69 : Upd b25 _ _ := huw69
 have hF71 := PRep.same (w1 := w69) hF60 (fun k hk hl => huw69.other k (by first | ((try simp only) <;> omega) | (have := hk.1; ((try simp only) <;> omega))))
 have hk73 := hk62.up huw69
 have hk74 := hk63.up huw69
 have hv75 := bup hv65 huw69 hvl34
 have hB76 := Upd.below hB66 oO huw69
 refine WL.nil <| ?_
 refine W.reg <| WL.m rfl rfl <| WL.m rfl rfl <| WL.r (Rd.ldA rfl hk73 underlying28 rfl isz28) rfl <| ?_
 have hyc := (hF71).mono (T := fun k => b25 + 1 ≤ k ∧ b25 < k) (fun k hk _ => by omega)
 have hlt58 := (hkw69).lt
 refine WL.call hb35 rfl rfl ((pread_stream _ b25 (b25 + 1) p l c y ks vs d (f_eo ++ (10 :: R)) _ hkw69 hv75 hc oO hne s3 hyc hlt58 hn hnm hkl hvl hd hvs)) (fun z w77 hw77 => ?_)
 have hk80 := Blk.keepB hk73 hw77.2.1 hk73.lt (by simp only [List.mem_cons, List.not_mem_nil, or_false, not_or, not_false_eq_true]; omega)
 have hk81 := Blk.keepB hk74 hw77.2.1 hk74.lt (by simp only [List.mem_cons, List.not_mem_nil, or_false, not_or, not_false_eq_true]; omega)
 have hv82 := BytesAt.keepB hv75 hw77.2.1 (fun h0 => ⟨hv75.lt h0, by first | simpa using (hne) h0 | (have q := (hne) h0; have q1 := hv75.lt h0; simp only [List.mem_cons, List.not_mem_nil, or_false, not_or, not_false_eq_true]; omega)⟩)
 have hB83 := Below.trans hB76 (KeepB.below hw77.2.1 hB76.size (by simp <;> omega))
 have hm5 := hw77.2.2
 have hz := (hw77.1).mono (T := fun k => b25 + 1 ≤ k ∧ k < w77.heap.size) (fun k hk hlt => ⟨hk, hlt⟩)
 refine WL.stL rfl rfl hk80 isz28 rfl rfl (fun w84 hkw84 huw84 hsw84 => ?_)
 have hF86 := ATop.same (w1 := w84) hz (fun k hk hl => huw84.other k (by first | ((try simp only) <;> omega) | (have := hk.1; ((try simp only) <;> omega))))
 have hk88 := hk81.up huw84
 have hk89 := hm5.upd huw84 oM
 have hv90 := bup hv82 huw84 hvl6
 have hB91 := Upd.below hB83 oO huw84
 refine WL.nil <| ?_
 refine W.sr <| WL.m rfl rfl <| WL.c1 hb36 rfl rfl ((rd_wordS [10] f_eo (10 :: R) hk89 hv90 hc oO hne s4 dD dD dD (bnd_blank dD))) (fun w92 hw92 => ?_)
 have hF94 := ATop.same (w1 := w92) hF86 (fun k hk hl => hw92.1.block k hl (by first | (simp only [List.mem_cons, List.not_mem_nil, or_false, not_or, not_false_eq_true]; omega) | (simp only [List.mem_cons, List.not_mem_nil, or_false, not_or, not_false_eq_true]; have := hk.1; omega)))
 have hk96 := Blk.keepB hkw84 hw92.1 hkw84.lt (by simp only [List.mem_cons, List.not_mem_nil, or_false, not_or, not_false_eq_true]; omega)
 have hk97 := Blk.keepB hk88 hw92.1 hk88.lt (by simp only [List.mem_cons, List.not_mem_nil, or_false, not_or, not_false_eq_true]; omega)
 have hB99 := Below.trans hB91 (KeepB.below hw92.1 hB91.size (by simp <;> omega))
 have hm4 := hw92.2
 refine WL.nil <| ?_
 refine W.sr <| WL.r (Rd.ldA rfl hk96 underlying28 rfl isz28) rfl <| WL.stL rfl rfl hk96 isz28 rfl rfl (fun w100 hkw100 huw100 hsw100 => ?_)
 have hF102 := ATop.same (w1 := w100) hF94 (fun k hk hl => huw100.other k (by first | ((try simp only) <;> omega) | (have := hk.1; ((try simp only) <;> omega))))
 have hk104 := hk97.up huw100
 have hB107 := Upd.below hB99 oO huw100
 refine WL.st sizeOf29 rfl rfl rfl hk104 oD (fun w108 hkw108 huw108 hsw108 => ?_)
 have hkw108 : Blk w108 b8 _ _ := hkw108
 have huw108 : Upd b8 _ _ := huw108
 have hF110 := ATop.same (w1 := w108) hF102 (fun k hk hl => huw108.other k (by first | ((try simp only) <;> omega) | (have := hk.1; ((try simp only) <;> omega))))
 have hk112 := hkw100.up huw108
 have hB115 := Upd.below hB107 oO huw108
 refine WL.nil <| ?_
 refine W.ret ?_
 exact PostD.ret hb29 (fun w' => _) (obj_quiet b1 b8 _ hkw108) (fun w' hS => by
  subst hS
  have hq := (hF110).mono (T := fun k => w.heap.size ≤ k) (fun k hk _ => by omega)
  exact ⟨_, ResOk.cells2 rfl rfl rfl (ldRow hk112 underlying28 rfl isz28) (ldCell hkw108 (isAgg29 _) rfl), ⟨_, rvE rfl, hq, hB115⟩⟩)
end
section
theorem RowAt.rowS {w : World} {p : Option Addr} {l : List (List UInt8)} (h : RowAt strV w p l) : RowM strL w p l := ⟨h.isp, fun j hj i hi => by
 have h1 : i < 1 := hi
 obtain rfl : i = 0 := by omega
 rw [show j * strL.m + 0 = j by show j * 1 + 0 = j; omega, h.cells j hj]; rfl⟩
theorem byt_CloneNil (c : Nat) (w : World) : Calls Tryz.prog 25 #[.slice none 0 c] w fun e w' => e = .returned (.slice none 0 0) ∧ w = w' := by
 refine W.enter func25 rfl ntmps25 (Nat.le_of_ble_eq_true rfl) ?_
 refine W.sr <| WL.z rfl rfl ?_
 refine W.seq <| W.sr <| WL.m rfl rfl <| WL.p (.eqSN underlying26 rfl) rfl <| WL.nil <| ?_
 refine W.condT rfl rfl ?_
 refine W.sr <| WL.z rfl rfl ?_
 refine W.ret (W.ret1 rfl rfl ?_)
 exact ⟨rfl, rfl⟩
theorem byt_CloneA (p : Option Addr) (l : List UInt8) (c : Nat) (w : World) (h : BytesAt w p l) (hl : l.length ≤ 100000000) :
  Calls Tryz.prog 25 #[.slice p l.length c] w fun e w' => ∃ x : Option Addr × Nat, e = .returned (.slice x.1 l.length x.2) ∧ Below w.heap.size w w' ∧ BytesAt w' x.1 l ∧ (0 < l.length → w.heap.size ≤ (pA x.1).block) ∧ l.length ≤ x.2 ∧ x.2 ≤ 9223372036854775807 ∧ DOwn (fun k => w.heap.size ≤ k) w' (.slice x.1 l.length x.2) l := by
 by_cases hp : p = none
 ·
  subst hp
  have hl0 : l = [] := by
   cases l with
   | nil => rfl
   | cons x r => have := h.isp (by simp); cases this
  subst hl0
  exact (byt_CloneNil c w).mono fun e w' ⟨h1, h2⟩ => by
   subst h2
   exact ⟨(none, 0), h1, Below.refl _ _, BytesAt.nil _, fun h0 => by simp at h0, Nat.le_refl _, by decide, DOwn.nil _ _⟩
 ·
  exact byt_CloneP p l l.length c w rfl h (fun _ => .inr hp) hl
theorem lib_CloneStr (p : Option Addr) (l : List (List UInt8)) (c : Nat) (w : World) (h : RowAt strV w p l) (hl : l.length ≤ 10000000) :
    Calls Tryz.prog 58 #[.slice p l.length c] w fun e w' => ∃ x : Option Addr × Nat, e = .returned (.slice x.1 l.length x.2) ∧ Below w.heap.size w w' ∧ RowAt strV w' x.1 l ∧ (0 < l.length → w.heap.size ≤ (pA x.1).block) ∧ l.length ≤ x.2 ∧ x.2 ≤ 9223372036854775807 ∧ StrsAt (fun k => w.heap.size ≤ k) w' (.slice x.1 l.length x.2) l := by
  have hr := h.rowS
  refine W.enter func58 rfl ntmps58 (Nat.le_of_ble_eq_true rfl) ?_
  have hB0 := Below.refl (w.heap.size) w
  refine W.sr <| WL.z rfl rfl ?_
  refine W.seq <| W.sr <| WL.m rfl rfl <| WL.p (.eqSN underlying25 rfl) rfl <| WL.nil <| ?_
  refine W.cond rfl (fun h1 => ?_) (fun h1 => ?_)
  have hp : p = none := by cases p with | none => rfl | some a => exact absurd (show (some a).isNone = true by assumption) (by simp)
  have hl0 : l = [] := by
    cases l with
    | nil => rfl
    | cons x r => have := h.isp (by simp); rw [hp] at this; cases this
  refine W.sr <| WL.z rfl rfl ?_
  refine W.ret (W.ret1 rfl rfl ?_)
  first
  | exact ⟨(none, 0), by rw [hl0]; rfl, hB0, by rw [hl0]; exact RowAt.nil _, fun h0 => by rw [hl0] at h0; simp at h0, by rw [hl0]; exact Nat.le_refl _, by decide, by rw [hl0]; exact ⟨OwnM.nil _ _ _ _, fun g hg => by cases hg⟩⟩
  | (have ho2 := (OWN).base (C := w.heap.size) (fun g hg => Nat.le_trans (Nat.le_of_eq eb2.symm) ((OWN).lt g hg).1)
     simp only [List.nil_append] at ho2
     obtain ⟨q, d, rfl, -⟩ := ho2.row
     obtain ⟨-, k2, k3, k4, k5⟩ := ho2.full
     exact ⟨(q, d), rfl, hB0, k4.strs, fun h0 => (ho2.lt _ (k5 h0)).1, k2, k3, ho2.base (fun g hg => Nat.zero_le _), fun g hg => (ho2.lt g hg).1⟩)
  have hpn : p ≠ none := fun e => by (have q : p.isNone = false := by assumption); rw [e] at q; cases q
  refine W.skip <| W.sr <| WL.bsl0 underlying25 sizeOf9 rfl (fun b2 wb2 eb2 hob2 hub2 hsb2 => ?_)
  have hvl4 := fun h0 => eb2 ▸ hr.lt h0
  have hv3 := RowM.upd hr hub2 (fun h0 => Nat.ne_of_lt (hvl4 h0))
  have hB5 := Upd.below hB0 (by rw [eb2]; exact hB0.size) hub2
  have hgeb2 : w.heap.size ≤ b2 := by rw [eb2]; exact hB0.size
  have hob2 := OwnM.of (L := strL) (l := []) (hob2 b2 (Nat.le_refl _))
  have hleb2 : b2 ≤ wb2.heap.size := by omega
  refine WL.m rfl rfl <| WL.appM underlying25 inf9 rfl rfl rfl hob2 rfl hv3 (by simp only [List.length_nil]; omega) (hleb2) rfl (fun _ => .inr hpn) (fun v6 w7 how7 hbw7 hgw7 hfw7 => ?_)
  have hB9 := Below.trans hB5 (hbw7.mono (hgeb2))
  have hle10 := Nat.le_trans hleb2 hbw7.size
  refine WL.z rfl rfl ?_
  refine W.ret (W.ret1 rfl rfl ?_)
  first
  | exact ⟨(none, 0), by rw [hl0]; rfl, hB9, by rw [hl0]; exact RowAt.nil _, fun h0 => by rw [hl0] at h0; simp at h0, by rw [hl0]; exact Nat.le_refl _, by decide, by rw [hl0]; exact ⟨OwnM.nil _ _ _ _, fun g hg => by cases hg⟩⟩
  | (have ho2 := (how7).base (C := w.heap.size) (fun g hg => Nat.le_trans (Nat.le_of_eq eb2.symm) ((how7).lt g hg).1)
     simp only [List.nil_append] at ho2
     obtain ⟨q, d, rfl, -⟩ := ho2.row
     obtain ⟨-, k2, k3, k4, k5⟩ := ho2.full
     exact ⟨(q, d), rfl, hB9, k4.strs, fun h0 => (ho2.lt _ (k5 h0)).1, k2, k3, ho2.base (fun g hg => Nat.zero_le _), fun g hg => (ho2.lt g hg).1⟩)
theorem lib_ClonePO (p : Option Addr) (l : List AC) (c : Nat) (w : World) (h : RowM acL w p l) (hl : l.length ≤ 10000000) :
    Calls Tryz.prog 59 #[.slice p l.length c] w fun e w' => ∃ x : Option Addr × Nat, e = .returned (.slice x.1 l.length x.2) ∧ Below w.heap.size w w' ∧ OwnM acL 28 w.heap.size w' (.slice x.1 l.length x.2) l := by
  refine W.enter func59 rfl ntmps59 (Nat.le_of_ble_eq_true rfl) ?_
  have hB0 := Below.refl (w.heap.size) w
  refine W.sr <| WL.z rfl rfl ?_
  refine W.seq <| W.sr <| WL.m rfl rfl <| WL.p (.eqSN underlying22 rfl) rfl <| WL.nil <| ?_
  refine W.cond rfl (fun h1 => ?_) (fun h1 => ?_)
  have hp : p = none := by cases p with | none => rfl | some a => exact absurd (show (some a).isNone = true by assumption) (by simp)
  have hl0 : l = [] := by
    cases l with
    | nil => rfl
    | cons x r => have := h.isp (by simp); rw [hp] at this; cases this
  refine W.sr <| WL.z rfl rfl ?_
  refine W.ret (W.ret1 rfl rfl ?_)
  first
  | exact ⟨(none, 0), by rw [hl0]; rfl, hB0, by rw [hl0]; exact OwnM.nil _ _ _ _⟩
  | (have ho2 := (OWN).base (C := w.heap.size) (fun g hg => Nat.le_trans (Nat.le_of_eq eb2.symm) ((OWN).lt g hg).1)
     simp only [List.nil_append] at ho2
     obtain ⟨q, d, rfl, -⟩ := ho2.row
     exact ⟨(q, d), rfl, hB0, ho2⟩)
  have hpn : p ≠ none := fun e => by (have q : p.isNone = false := by assumption); rw [e] at q; cases q
  refine W.skip <| W.sr <| WL.bsl0 underlying22 sizeOf28 rfl (fun b2 wb2 eb2 hob2 hub2 hsb2 => ?_)
  have hvl4 := fun h0 => eb2 ▸ h.lt h0
  have hv3 := RowM.upd h hub2 (fun h0 => Nat.ne_of_lt (hvl4 h0))
  have hB5 := Upd.below hB0 (by rw [eb2]; exact hB0.size) hub2
  have hgeb2 : w.heap.size ≤ b2 := by rw [eb2]; exact hB0.size
  have hob2 := OwnM.of (L := acL) (l := []) (hob2 b2 (Nat.le_refl _))
  have hleb2 : b2 ≤ wb2.heap.size := by omega
  refine WL.m rfl rfl <| WL.appM underlying22 inf28 rfl rfl rfl hob2 rfl hv3 (by simp only [List.length_nil]; omega) (hleb2) rfl (fun _ => .inr hpn) (fun v6 w7 how7 hbw7 hgw7 hfw7 => ?_)
  have hB9 := Below.trans hB5 (hbw7.mono (hgeb2))
  have hle10 := Nat.le_trans hleb2 hbw7.size
  refine WL.z rfl rfl ?_
  refine W.ret (W.ret1 rfl rfl ?_)
  first
  | exact ⟨(none, 0), by rw [hl0]; rfl, hB9, by rw [hl0]; exact OwnM.nil _ _ _ _⟩
  | (have ho2 := (how7).base (C := w.heap.size) (fun g hg => Nat.le_trans (Nat.le_of_eq eb2.symm) ((how7).lt g hg).1)
     simp only [List.nil_append] at ho2
     obtain ⟨q, d, rfl, -⟩ := ho2.row
     exact ⟨(q, d), rfl, hB9, ho2⟩)
end
section
theorem snd_bounds {D : Int} {st : Bool} {k n : Int} {t d : List UInt8} {ks : List (List UInt8)} {l : List AV} (h : Snd D st (.mk k n t ks l d)) : ks.length ≤ 65535 ∧ l.length ≤ 65535 ∧ d.length ≤ 1048576 ∧ ∀ o ∈ l, ∃ D', Snd D' false o := by
 cases h with
 | null => exact ⟨by simp, by simp, by simp, fun o h => by cases h⟩
 | bool => exact ⟨by simp, by simp, by simp, fun o h => by cases h⟩
 | num => exact ⟨by simp, by simp, by simp, fun o h => by cases h⟩
 | name => exact ⟨by simp, by simp, by simp, fun o h => by cases h⟩
 | text => exact ⟨by simp, by simp, by simp, fun o h => by cases h⟩
 | ref => exact ⟨by simp, by simp, by simp, fun o h => by cases h⟩
 | arr _ _ l hD hl h => exact ⟨by simp, hl, by simp, fun o ho => ⟨_, h o ho⟩⟩
 | dict _ _ k ks l d hk hD hl hkl hn hnd h => exact ⟨by omega, hl, by rcases hk with ⟨-, rfl⟩ | ⟨-, -, h, -⟩; simp; exact h, fun o ho => ⟨_, h o ho⟩⟩
theorem drop_cons_at {α : Type} {cs zs : List α} {i : Nat} (hz : zs.length = i) (h : i < cs.length) (z : α) : (zs ++ cs.drop i).set i z = (zs ++ [z]) ++ cs.drop (i + 1) := by
 rw [List.drop_eq_getElem_cons h, List.set_append_right _ _ oO, hz, Nat.sub_self, List.set_cons_zero, List.append_assoc]; rfl
theorem AInv.pushA {w : World} {S : Nat → Prop} {cs : List AC} {acc : List AV} {x : AC} {o : AV} (h : AInv w S cs acc) (hx : ARep w S x o) : AInv w S (cs ++ [x]) (acc ++ [o]) :=
  ⟨by simp [h.len], fun i h1 h2 => by
    have hl := h.len
    by_cases hi : i < cs.length
    · rw [List.getElem_append_left hi, List.getElem_append_left oO]
      exact h.sub i hi oO
    · simp only [List.length_append, List.length_cons, List.length_nil] at h1 h2
      have : i = cs.length := by omega
      subst this
      rw [List.getElem_append_right oO, List.getElem_append_right oO]
      simpa [hl] using hx⟩
theorem pread_own : ∀ (n : Nat) (o : AV), SizeOf.sizeOf o < n → ∀ (x : AC) (S : Nat → Prop) (D : Int) (st : Bool) (w : World), ARep w S x o → Snd D st o →
  Calls Tryz.prog 39 #[.agg (acV x).toArray] w fun e w' => ∃ z : AC, e = .returned (.agg (acV z).toArray) ∧ ATop w' (fun k => w.heap.size ≤ k) z o ∧ Below w.heap.size w w' := by
 intro n
 induction n with
 | zero => intro o h; omega
 | succ n ih =>
 intro o hn x S D st w hx hS
 obtain ⟨keys, list, data, cs, rfl, ok, hkl, hk, hks, hr, hrs, hd, hds, hcl, hsub⟩ := hx.inv
 obtain ⟨b1', b2', b3', b4'⟩ := snd_bounds hS
 obtain ⟨k, i, s, kp, kl, kc, lp, ll, lc, dp, dl, dc⟩ := x
 have e1 := ok.kl; have e2 := ok.ll; have e3 := ok.dl
 have m7 := ok.text; have m8 := ok.n
 simp only at e1 e2 e3 m7 m8 hk hr hd hrs hks hds
 subst e1; subst e2; subst e3
 simp only [AV.mk.sizeOf_spec] at hn
 have hsz : ∀ j (h : j < list.length), SizeOf.sizeOf list[j] < n := fun j h => by have := List.sizeOf_lt_of_mem (List.getElem_mem h); omega
 have hs0 : AInv w (fun k => k < w.heap.size) cs list := ⟨hcl, fun i h h2 => (hsub i h h2).mono fun k _ hk => hk⟩
 simp only [acV]
 refine W.enter func39 rfl ntmps39 (Nat.le_of_ble_eq_true rfl) ?_
 have hB0 := Below.refl (w.heap.size) w
 refine W.sr <| WL.box rfl rfl (fun b1 wb1 eb1 hkb1 hub1 hsb1 => ?_)
 have hF2 := AInv.same (w1 := wb1) hs0 (fun k hk hl => hub1.other k oO)
 have hvl4 := fun h0 => eb1 ▸ hr.lt h0
 have hv3 := RowM.upd hr hub1 (fun h0 => Nat.ne_of_lt (hvl4 h0))
 have hvl6 := fun h0 => eb1 ▸ hk.lt h0
 have hv5 := RowAt.upd hk hub1 (fun h0 => Nat.ne_of_lt (hvl6 h0))
 have hvl8 := fun h0 => eb1 ▸ hd.lt h0
 have hv7 := bup hd hub1 hvl8
 have hB9 := Upd.below hB0 (by rw [eb1]; exact hB0.size) hub1
 have hgeb1 : w.heap.size ≤ b1 := by rw [eb1]; exact hB0.size
 refine WL.alloc zeroValue28 rfl (fun b10 wb10 eb10 hkb10 hub10 hsb10 => ?_)
 have hF11 := AInv.same (w1 := wb10) hF2 (fun k hk hl => hub10.other k oO)
 have hl13 : b1 < b10 := by rw [eb10]; exact hkb1.lt
 have hk12 := hkb1.upd hub10 (Nat.ne_of_lt hl13)
 have hvl15 := fun h0 => eb10 ▸ hv3.lt h0
 have hv14 := RowM.upd hv3 hub10 (fun h0 => Nat.ne_of_lt (hvl15 h0))
 have hvl17 := fun h0 => eb10 ▸ hv5.lt h0
 have hv16 := RowAt.upd hv5 hub10 (fun h0 => Nat.ne_of_lt (hvl17 h0))
 have hvl19 := fun h0 => eb10 ▸ hv7.lt h0
 have hv18 := bup hv7 hub10 hvl19
 have hB20 := Upd.below hB9 (by rw [eb10]; exact hB9.size) hub10
 have hgeb10 : w.heap.size ≤ b10 := by rw [eb10]; exact hB9.size
 refine WL.nil <| ?_
 refine W.cut (α := (Option Addr × Nat) × (Option Addr × Nat)) (fun t => [(1, .pointer (some ⟨b1, 0, none⟩)), (2, .pointer (some ⟨b10, 0, none⟩))]) (fun t w' => Below w.heap.size w w' ∧ Blk w' b1 #[.int .i64 k, .int .i64 i, .string (bs s), .slice t.1.1 keys.length t.1.2, .slice lp cs.length lc, .slice t.2.1 data.length t.2.2] 28 ∧ Blk w' b10 #[.int .i64 0, .int .i64 0, .string ⟨#[]⟩, .slice none 0 0, .slice none 0 0, .slice none 0 0] 28 ∧ RowM acL w' lp cs ∧ AInv w' (fun k => k < w.heap.size) cs list ∧ RowAt strV w' t.1.1 keys ∧ (0 < keys.length → b10 < (pA t.1.1).block) ∧ keys.length ≤ t.1.2 ∧ t.1.2 ≤ 9223372036854775807 ∧ BytesAt w' t.2.1 data ∧ (0 < data.length → b10 < (pA t.2.1).block) ∧ data.length ≤ t.2.2 ∧ t.2.2 ≤ 9223372036854775807 ∧ StrsAt (fun k => b10 < k) w' (.slice t.1.1 keys.length t.1.2) keys ∧ DOwn (fun k => b10 < k) w' (.slice t.2.1 data.length t.2.2) data) ?_ (fun t w1 hR => ?_)
 refine W.regY 10 rfl mixed (fun w21 dw21 => ?_)
 have hF22 := AInv.same (w1 := w21) hF11 (fun k hk hl => (by obtain ⟨m, rfl⟩ := dw21; rfl))
 have hk23 := hk12.drew dw21
 have hk24 := hkb10.drew dw21
 have hv25 := hv14.drew dw21
 have hv26 := hv16.drew dw21
 have hv27 := hv18.drew dw21
 have hB28 := Drew.below hB20 dw21
 refine WY.tk 0 rfl (.fa underlying28 rfl sizeOf25 dD rfl) rfl ?_
 refine WY.tk 3 rfl (.fa underlying28 rfl sizeOf26 dD rfl) rfl ?_
 refine WY.br2 1 rfl 4 rfl ?_ ?_
 refine WL.r (Rd.ld (isAgg25 _) rfl hk23 rfl) rfl <| WL.nil <| ?_
 refine WY.br2 2 rfl 4 rfl ?_ ?_
 have hz2a := (hk24).lt
 refine WL.call hb58 rfl rfl ((lib_CloneStr _ keys _ _ hv26 oO)) (fun xk w29 hw29 => ?_)
 have hF30 := AInv.same (w1 := w29) hF22 (fun k hk hl => hw29.1.block k hl)
 have hk31 := hk23.below hw29.1 hk23.lt
 have hk32 := hk24.below hw29.1 hk24.lt
 have hv33 := RowM.below hv25 hw29.1 (fun h0 => hv25.lt h0)
 have hv35 := BytesAt.below hv27 hw29.1 (fun h0 => hv27.lt h0)
 have hB36 := btr hB28 hw29.1
 have hxk := hw29.2.1
 have hxk2 := hw29.2.2
 have hfk0 := (hw29.2.2.2.2.2).mono (T := fun k => b10 < k) (fun k hk _ => by omega)
 refine WL.nil <| ?_
 refine WY.br1 4 rfl ?_
 refine WL.r (Rd.ld (isAgg26 _) rfl hk31 rfl) rfl <| WL.nil <| ?_
 refine WY.tk 6 rfl (.fa underlying28 rfl sizeOf25 dD rfl) rfl ?_
 refine WY.br1 5 rfl ?_
 have hz2b := (hk32).lt
 refine WL.call hb25 rfl rfl ((byt_CloneA _ data _ _ hv35 oO)) (fun xd w37 hw37 => ?_)
 have hF38 := AInv.same (w1 := w37) hF30 (fun k hk hl => hw37.1.block k hl)
 have hF39 := StrsAt.same (w1 := w37) hfk0 (fun k hk hl => hw37.1.block k hl)
 have hk40 := hk31.below hw37.1 hk31.lt
 have hk41 := hk32.below hw37.1 hk32.lt
 have hv42 := RowM.below hv33 hw37.1 (fun h0 => hv33.lt h0)
 have hv45 := RowAt.below hxk hw37.1 (fun h0 => hxk.lt h0)
 have hB46 := btr hB36 hw37.1
 have hxd := hw37.2.1
 have hxd2 := hw37.2.2
 have hfd0 := (hw37.2.2.2.2.2).mono (T := fun k => b10 < k) (fun k hk _ => by omega)
 refine WL.nil <| ?_
 refine WY.br1 7 rfl ?_
 refine WL.st sizeOf25 rfl rfl rfl hk40 oD (fun w47 hkw47 huw47 hsw47 => ?_)
 have hkw47 : Blk w47 b1 _ _ := hkw47
 have huw47 : Upd b1 _ _ := huw47
 have hF48 := AInv.same (w1 := w47) hF38 (fun k hk hl => huw47.other k (by first | ((try simp only) <;> omega) | (have := hk.1; ((try simp only) <;> omega))))
 have hF49 := StrsAt.same (w1 := w47) hF39 (fun k hk hl => huw47.other k (by first | ((try simp only) <;> omega) | (have := hk.1; ((try simp only) <;> omega))))
 have hF50 := DOwn.same (w1 := w47) hfd0 (fun k hk hl => huw47.other k (by first | ((try simp only) <;> omega) | (have := hk.1; ((try simp only) <;> omega))))
 have hk51 := hk41.up huw47
 have hv52 := RowM.upd hv42 huw47 (fun h0 => Nat.ne_of_lt (hvl4 h0))
 have hv55 := RowAt.upd hv45 huw47 ((fun h0 => by first | (have := q7 h0; omega) | (have := hxk2.1 h0; omega)))
 have hv56 := BytesAt.upd hxd huw47 ((fun h0 => by first | (have := q11 h0; omega) | (have := hxd2.1 h0; omega)))
 have hB57 := Upd.below hB46 oO huw47
 refine WL.nil <| ?_
 refine WY.tk 8 rfl (.fa underlying28 rfl sizeOf26 dD rfl) rfl ?_
 refine WY.br1 9 rfl ?_
 refine WL.st sizeOf26 rfl rfl rfl hkw47 oD (fun w58 hkw58 huw58 hsw58 => ?_)
 have hkw58 : Blk w58 b1 _ _ := hkw58
 have huw58 : Upd b1 _ _ := huw58
 have hF59 := AInv.same (w1 := w58) hF48 (fun k hk hl => huw58.other k (by first | ((try simp only) <;> omega) | (have := hk.1; ((try simp only) <;> omega))))
 have hF60 := StrsAt.same (w1 := w58) hF49 (fun k hk hl => huw58.other k (by first | ((try simp only) <;> omega) | (have := hk.1; ((try simp only) <;> omega))))
 have hF61 := DOwn.same (w1 := w58) hF50 (fun k hk hl => huw58.other k (by first | ((try simp only) <;> omega) | (have := hk.1; ((try simp only) <;> omega))))
 have hk62 := hk51.up huw58
 have hv63 := RowM.upd hv52 huw58 (fun h0 => Nat.ne_of_lt (hvl4 h0))
 have hv66 := RowAt.upd hv55 huw58 ((fun h0 => by first | (have := q7 h0; omega) | (have := hxk2.1 h0; omega)))
 have hv67 := BytesAt.upd hv56 huw58 ((fun h0 => by first | (have := q11 h0; omega) | (have := hxd2.1 h0; omega)))
 have hB68 := Upd.below hB57 oO huw58
 refine WL.nil <| ?_
 refine WY.done kR ?_
 exact ⟨(xk, xd), ⟨rfl, rfl, trivial⟩, hB68, hkw58, hk62, hv63, hF59, hv66, fun h0 => by (have := hxk2.1 h0; show b10 < (pA xk.1).block; omega), hxk2.2.1, hxk2.2.2.1, hv67, fun h0 => by (have := hxd2.1 h0; show b10 < (pA xd.1).block; omega), hxd2.2.1, hxd2.2.2.1, hF60, hF61⟩
 refine WL.r (Rd.ld (isAgg26 _) rfl hk23 rfl) rfl <| WL.nil <| ?_
 refine WY.br1 2 rfl ?_
 have hz2a := (hk24).lt
 refine WL.call hb58 rfl rfl ((lib_CloneStr _ keys _ _ hv26 oO)) (fun xk w69 hw69 => ?_)
 have hF70 := AInv.same (w1 := w69) hF22 (fun k hk hl => hw69.1.block k hl)
 have hk71 := hk23.below hw69.1 hk23.lt
 have hk72 := hk24.below hw69.1 hk24.lt
 have hv73 := RowM.below hv25 hw69.1 (fun h0 => hv25.lt h0)
 have hv75 := BytesAt.below hv27 hw69.1 (fun h0 => hv27.lt h0)
 have hB76 := btr hB28 hw69.1
 have hxk := hw69.2.1
 have hxk2 := hw69.2.2
 have hfk0 := (hw69.2.2.2.2.2).mono (T := fun k => b10 < k) (fun k hk _ => by omega)
 refine WL.nil <| ?_
 refine WY.tk 6 rfl (.fa underlying28 rfl sizeOf25 dD rfl) rfl ?_
 refine WY.br1 5 rfl ?_
 have hz2b := (hk72).lt
 refine WL.call hb25 rfl rfl ((byt_CloneA _ data _ _ hv75 oO)) (fun xd w77 hw77 => ?_)
 have hF78 := AInv.same (w1 := w77) hF70 (fun k hk hl => hw77.1.block k hl)
 have hF79 := StrsAt.same (w1 := w77) hfk0 (fun k hk hl => hw77.1.block k hl)
 have hk80 := hk71.below hw77.1 hk71.lt
 have hk81 := hk72.below hw77.1 hk72.lt
 have hv82 := RowM.below hv73 hw77.1 (fun h0 => hv73.lt h0)
 have hv85 := RowAt.below hxk hw77.1 (fun h0 => hxk.lt h0)
 have hB86 := btr hB76 hw77.1
 have hxd := hw77.2.1
 have hxd2 := hw77.2.2
 have hfd0 := (hw77.2.2.2.2.2).mono (T := fun k => b10 < k) (fun k hk _ => by omega)
 refine WL.nil <| ?_
 refine WY.br1 7 rfl ?_
 refine WL.st sizeOf25 rfl rfl rfl hk80 oD (fun w87 hkw87 huw87 hsw87 => ?_)
 have hkw87 : Blk w87 b1 _ _ := hkw87
 have huw87 : Upd b1 _ _ := huw87
 have hF88 := AInv.same (w1 := w87) hF78 (fun k hk hl => huw87.other k (by first | ((try simp only) <;> omega) | (have := hk.1; ((try simp only) <;> omega))))
 have hF89 := StrsAt.same (w1 := w87) hF79 (fun k hk hl => huw87.other k (by first | ((try simp only) <;> omega) | (have := hk.1; ((try simp only) <;> omega))))
 have hF90 := DOwn.same (w1 := w87) hfd0 (fun k hk hl => huw87.other k (by first | ((try simp only) <;> omega) | (have := hk.1; ((try simp only) <;> omega))))
 have hk91 := hk81.up huw87
 have hv92 := RowM.upd hv82 huw87 (fun h0 => Nat.ne_of_lt (hvl4 h0))
 have hv95 := RowAt.upd hv85 huw87 ((fun h0 => by first | (have := q7 h0; omega) | (have := hxk2.1 h0; omega)))
 have hv96 := BytesAt.upd hxd huw87 ((fun h0 => by first | (have := q11 h0; omega) | (have := hxd2.1 h0; omega)))
 have hB97 := Upd.below hB86 oO huw87
 refine WL.nil <| ?_
 refine WY.tk 8 rfl (.fa underlying28 rfl sizeOf26 dD rfl) rfl ?_
 refine WY.br1 9 rfl ?_
 refine WL.st sizeOf26 rfl rfl rfl hkw87 oD (fun w98 hkw98 huw98 hsw98 => ?_)
 have hkw98 : Blk w98 b1 _ _ := hkw98
 have huw98 : Upd b1 _ _ := huw98
 have hF99 := AInv.same (w1 := w98) hF88 (fun k hk hl => huw98.other k (by first | ((try simp only) <;> omega) | (have := hk.1; ((try simp only) <;> omega))))
 have hF100 := StrsAt.same (w1 := w98) hF89 (fun k hk hl => huw98.other k (by first | ((try simp only) <;> omega) | (have := hk.1; ((try simp only) <;> omega))))
 have hF101 := DOwn.same (w1 := w98) hF90 (fun k hk hl => huw98.other k (by first | ((try simp only) <;> omega) | (have := hk.1; ((try simp only) <;> omega))))
 have hk102 := hk91.up huw98
 have hv103 := RowM.upd hv92 huw98 (fun h0 => Nat.ne_of_lt (hvl4 h0))
 have hv106 := RowAt.upd hv95 huw98 ((fun h0 => by first | (have := q7 h0; omega) | (have := hxk2.1 h0; omega)))
 have hv107 := BytesAt.upd hv96 huw98 ((fun h0 => by first | (have := q11 h0; omega) | (have := hxd2.1 h0; omega)))
 have hB108 := Upd.below hB97 oO huw98
 refine WL.nil <| ?_
 refine WY.done kR ?_
 exact ⟨(xk, xd), ⟨rfl, rfl, trivial⟩, hB108, hkw98, hk102, hv103, hF99, hv106, fun h0 => by (have := hxk2.1 h0; show b10 < (pA xk.1).block; omega), hxk2.2.1, hxk2.2.2.1, hv107, fun h0 => by (have := hxd2.1 h0; show b10 < (pA xd.1).block; omega), hxd2.2.1, hxd2.2.2.1, hF100, hF101⟩
 refine WL.r (Rd.ld (isAgg26 _) rfl hk23 rfl) rfl <| WL.nil <| ?_
 refine WY.br1 1 rfl ?_
 refine WL.r (Rd.ld (isAgg25 _) rfl hk23 rfl) rfl <| WL.nil <| ?_
 refine WY.br1 2 rfl ?_
 have hz2a := (hk24).lt
 refine WL.call hb58 rfl rfl ((lib_CloneStr _ keys _ _ hv26 oO)) (fun xk w109 hw109 => ?_)
 have hF110 := AInv.same (w1 := w109) hF22 (fun k hk hl => hw109.1.block k hl)
 have hk111 := hk23.below hw109.1 hk23.lt
 have hk112 := hk24.below hw109.1 hk24.lt
 have hv113 := RowM.below hv25 hw109.1 (fun h0 => hv25.lt h0)
 have hv115 := BytesAt.below hv27 hw109.1 (fun h0 => hv27.lt h0)
 have hB116 := btr hB28 hw109.1
 have hxk := hw109.2.1
 have hxk2 := hw109.2.2
 have hfk0 := (hw109.2.2.2.2.2).mono (T := fun k => b10 < k) (fun k hk _ => by omega)
 refine WL.nil <| ?_
 refine WY.tk 6 rfl (.fa underlying28 rfl sizeOf25 dD rfl) rfl ?_
 refine WY.br1 5 rfl ?_
 have hz2b := (hk112).lt
 refine WL.call hb25 rfl rfl ((byt_CloneA _ data _ _ hv115 oO)) (fun xd w117 hw117 => ?_)
 have hF118 := AInv.same (w1 := w117) hF110 (fun k hk hl => hw117.1.block k hl)
 have hF119 := StrsAt.same (w1 := w117) hfk0 (fun k hk hl => hw117.1.block k hl)
 have hk120 := hk111.below hw117.1 hk111.lt
 have hk121 := hk112.below hw117.1 hk112.lt
 have hv122 := RowM.below hv113 hw117.1 (fun h0 => hv113.lt h0)
 have hv125 := RowAt.below hxk hw117.1 (fun h0 => hxk.lt h0)
 have hB126 := btr hB116 hw117.1
 have hxd := hw117.2.1
 have hxd2 := hw117.2.2
 have hfd0 := (hw117.2.2.2.2.2).mono (T := fun k => b10 < k) (fun k hk _ => by omega)
 refine WL.nil <| ?_
 refine WY.br1 7 rfl ?_
 refine WL.st sizeOf25 rfl rfl rfl hk120 oD (fun w127 hkw127 huw127 hsw127 => ?_)
 have hkw127 : Blk w127 b1 _ _ := hkw127
 have huw127 : Upd b1 _ _ := huw127
 have hF128 := AInv.same (w1 := w127) hF118 (fun k hk hl => huw127.other k (by first | ((try simp only) <;> omega) | (have := hk.1; ((try simp only) <;> omega))))
 have hF129 := StrsAt.same (w1 := w127) hF119 (fun k hk hl => huw127.other k (by first | ((try simp only) <;> omega) | (have := hk.1; ((try simp only) <;> omega))))
 have hF130 := DOwn.same (w1 := w127) hfd0 (fun k hk hl => huw127.other k (by first | ((try simp only) <;> omega) | (have := hk.1; ((try simp only) <;> omega))))
 have hk131 := hk121.up huw127
 have hv132 := RowM.upd hv122 huw127 (fun h0 => Nat.ne_of_lt (hvl4 h0))
 have hv135 := RowAt.upd hv125 huw127 ((fun h0 => by first | (have := q7 h0; omega) | (have := hxk2.1 h0; omega)))
 have hv136 := BytesAt.upd hxd huw127 ((fun h0 => by first | (have := q11 h0; omega) | (have := hxd2.1 h0; omega)))
 have hB137 := Upd.below hB126 oO huw127
 refine WL.nil <| ?_
 refine WY.tk 8 rfl (.fa underlying28 rfl sizeOf26 dD rfl) rfl ?_
 refine WY.br1 9 rfl ?_
 refine WL.st sizeOf26 rfl rfl rfl hkw127 oD (fun w138 hkw138 huw138 hsw138 => ?_)
 have hkw138 : Blk w138 b1 _ _ := hkw138
 have huw138 : Upd b1 _ _ := huw138
 have hF139 := AInv.same (w1 := w138) hF128 (fun k hk hl => huw138.other k (by first | ((try simp only) <;> omega) | (have := hk.1; ((try simp only) <;> omega))))
 have hF140 := StrsAt.same (w1 := w138) hF129 (fun k hk hl => huw138.other k (by first | ((try simp only) <;> omega) | (have := hk.1; ((try simp only) <;> omega))))
 have hF141 := DOwn.same (w1 := w138) hF130 (fun k hk hl => huw138.other k (by first | ((try simp only) <;> omega) | (have := hk.1; ((try simp only) <;> omega))))
 have hk142 := hk131.up huw138
 have hv143 := RowM.upd hv132 huw138 (fun h0 => Nat.ne_of_lt (hvl4 h0))
 have hv146 := RowAt.upd hv135 huw138 ((fun h0 => by first | (have := q7 h0; omega) | (have := hxk2.1 h0; omega)))
 have hv147 := BytesAt.upd hv136 huw138 ((fun h0 => by first | (have := q11 h0; omega) | (have := hxd2.1 h0; omega)))
 have hB148 := Upd.below hB137 oO huw138
 refine WL.nil <| ?_
 refine WY.done kR ?_
 exact ⟨(xk, xd), ⟨rfl, rfl, trivial⟩, hB148, hkw138, hk142, hv143, hF139, hv146, fun h0 => by (have := hxk2.1 h0; show b10 < (pA xk.1).block; omega), hxk2.2.1, hxk2.2.2.1, hv147, fun h0 => by (have := hxd2.1 h0; show b10 < (pA xd.1).block; omega), hxd2.2.1, hxd2.2.2.1, hF140, hF141⟩
 obtain ⟨⟨nkp, nkc⟩, ⟨ndp, ndc⟩⟩ := t
 obtain ⟨q1, q2, q3, q4, q5, q6, q7, q8, q9, q10, q11, q12, q13, q14, q15⟩ := hR
 simp only at q2 q6 q7 q8 q9 q10 q11 q12 q13 q14 q15
 obtain ⟨LB, hLB⟩ : ∃ M, M = w1.heap.size := ⟨_, rfl⟩
 have hLB0 := q1.size
 have hLB1 := q2.lt
 have hLB2 := q3.lt
 rw [← hLB] at hLB0 hLB1 hLB2
 have hfkL := q14.mono (T := fun k => b10 < k ∧ k < LB) (fun k hk hl => ⟨hk, by omega⟩)
 have hfdL := q15.mono (T := fun k => b10 < k ∧ k < LB) (fun k hk hl => ⟨hk, by omega⟩)
 refine W.sr <| WL.p (.fa underlying28 rfl sizeOf22 dD rfl) rfl <| WL.r (Rd.ld (isAgg22 _) rfl q2 rfl) rfl <| WL.call hb59 rfl rfl ((lib_ClonePO _ cs _ _ q4 oO)) (fun xl w149 hw149 => ?_)
 have hF150 := AInv.same (w1 := w149) q5 (fun k hk hl => hw149.1.block k hl)
 have hF151 := StrsAt.same (w1 := w149) hfkL (fun k hk hl => hw149.1.block k hl)
 have hF152 := DOwn.same (w1 := w149) hfdL (fun k hk hl => hw149.1.block k hl)
 have hk153 := q2.below hw149.1 q2.lt
 have hk154 := q3.below hw149.1 q3.lt
 have hv156 := RowAt.below q6 hw149.1 (fun h0 => q6.lt h0)
 have hv157 := BytesAt.below q10 hw149.1 (fun h0 => q10.lt h0)
 have hB158 := btr q1 hw149.1
 have hxl := hw149.2
 have hleL := (hw149).1.size
 rw [← hLB] at hxl hleL
 have hknL := (q6).lt
 have hdnL := (q10).lt
 have hb1L := (q2).lt
 have hb2L := (q3).lt
 refine WL.p (.fa underlying28 rfl sizeOf22 dD rfl) rfl <| WL.st sizeOf22 rfl rfl rfl hk153 oD (fun w159 hkw159 huw159 hsw159 => ?_)
 have hkw159 : Blk w159 b1 _ _ := hkw159
 have huw159 : Upd b1 _ _ := huw159
 have hle161 := Nat.le_trans hleL huw159.size
 have ho160 := OwnM.touch hxl huw159 oM
 have hF162 := AInv.same (w1 := w159) hF150 (fun k hk hl => huw159.other k (by first | ((try simp only) <;> omega) | (have := hk.1; ((try simp only) <;> omega))))
 have hF163 := StrsAt.same (w1 := w159) hF151 (fun k hk hl => huw159.other k (by first | ((try simp only) <;> omega) | (have := hk.1; ((try simp only) <;> omega))))
 have hF164 := DOwn.same (w1 := w159) hF152 (fun k hk hl => huw159.other k (by first | ((try simp only) <;> omega) | (have := hk.1; ((try simp only) <;> omega))))
 have hk165 := hk154.up huw159
 have hv166 := RowAt.upd hv156 huw159 ((fun h0 => by first | (have := q7 h0; omega) | (have := hxk2.1 h0; omega)))
 have hv167 := BytesAt.upd hv157 huw159 ((fun h0 => by first | (have := q11 h0; omega) | (have := hxd2.1 h0; omega)))
 have hB168 := Upd.below hB158 oO huw159
 refine WL.nil <| ?_
 refine W.seq <| W.sr <| WL.p (.fa underlying28 rfl sizeOf22 dD rfl) rfl <| WL.r (Rd.ld (isAgg22 _) rfl hkw159 rfl) rfl <| WL.p (.lenS underlying22 rfl) rfl <| WL.m rfl rfl <| WL.nil <| ?_
 refine W.block ?_
 obtain ⟨M, hM⟩ : ∃ M, M = w159.heap.size := ⟨_, rfl⟩
 have hM0 := hB168.size
 have hMb1 := (hkw159).lt
 have hMb2 := (hk165).lt
 have hMr := (ho160).lt
 have hMk := (hv166).lt
 have hMd := (hv167).lt
 rw [← hM] at hM0 hMb1 hMb2 hMr hMk hMd
 have hML : LB ≤ M := by have := hle161; omega
 refine W.loop (α := List AC) (fun t => [(1, .pointer (some ⟨b1, 0, none⟩)), (2, .pointer (some ⟨b10, 0, none⟩)), (18, .int .i64 (cs.length : Int)), (19, .int .i64 (t.length : Int))]) (fun t w' => Below w.heap.size w w' ∧ Blk w' b1 #[.int .i64 k, .int .i64 i, .string (bs s), .slice nkp keys.length nkc, .slice xl.1 cs.length xl.2, .slice ndp data.length ndc] 28 ∧ Blk w' b10 #[.int .i64 0, .int .i64 0, .string ⟨#[]⟩, .slice none 0 0, .slice none 0 0, .slice none 0 0] 28 ∧ AInv w' (fun k => k < w.heap.size) cs list ∧ RowAt strV w' nkp keys ∧ BytesAt w' ndp data ∧ OwnM acL 28 LB w' (.slice xl.1 cs.length xl.2) (t ++ cs.drop t.length) ∧ AInv w' (fun k => M ≤ k) t (list.take t.length) ∧ M ≤ w'.heap.size ∧ t.length ≤ cs.length ∧ StrsAt (fun k => b10 < k ∧ k < LB) w' (.slice nkp keys.length nkc) keys ∧ DOwn (fun k => b10 < k ∧ k < LB) w' (.slice ndp data.length ndc) data) (fun t => cs.length - t.length) ([]) ⟨rfl, rfl, rfl, rfl, trivial⟩ (⟨hB168, hkw159, hk165, hF162, hv166, hv167, ho160, ⟨rfl, fun i h => by simp at h⟩, by omega, Nat.zero_le _, hF163, hF164⟩) (fun t w1 hR => ?_)
 obtain ⟨zs, rfl⟩ : ∃ zs, zs = t := ⟨t, rfl⟩
 obtain ⟨p1, p2, p3, p4, p5, p6, p7, p8, p9, p10, p11, p12⟩ := hR
 have hleM : M ≤ w1.heap.size := p9
 refine W.sr <| WL.p (.lss rfl rfl) rfl <| WL.nil <| ?_
 refine W.seq <| W.cond rfl (fun h169 => ?_) (fun h169 => ?_)
 have h169' := dT h169
 refine W.skip <| W.seq <| W.block <| W.sr <| WL.m rfl rfl <| WL.z rfl rfl ?_
 have hel : (zs ++ cs.drop zs.length)[zs.length]'(by rw [List.length_append, List.length_drop]; omega) = cs[zs.length]'oO := by
  rw [List.getElem_append_right (Nat.le_refl _)]; simp [List.getElem_drop]
 have hrl : (zs ++ cs.drop zs.length).length = cs.length := by rw [List.length_append, List.length_drop]; omega
 have hpp := (p7).rowp.isp (by rw [List.length_append, List.length_drop]; omega)
 have hrv := (p7).rowp
 have hrg := (p7).lt
 refine W.regH 11 rfl mixed (fun w' => w'.heap[b1]? = w1.heap[b1]? ∧ True) (fun w170 dw170 => ?_)
 have hle172 := Drew.le hleM dw170
 have ho171 := OwnM.drew p7 dw170
 have hF173 := AInv.same (w1 := w170) p4 (fun k hk hl => (by obtain ⟨m, rfl⟩ := dw170; rfl))
 have hF174 := AInv.same (w1 := w170) p8 (fun k hk hl => (by obtain ⟨m, rfl⟩ := dw170; rfl))
 have hF175 := StrsAt.same (w1 := w170) p11 (fun k hk hl => (by obtain ⟨m, rfl⟩ := dw170; rfl))
 have hF176 := DOwn.same (w1 := w170) p12 (fun k hk hl => (by obtain ⟨m, rfl⟩ := dw170; rfl))
 have hk177 := p2.drew dw170
 have hk178 := p3.drew dw170
 have hv179 := p5.drew dw170
 have hv180 := p6.drew dw170
 have hv181 := hrv.drew dw170
 have hB182 := Drew.below p1 dw170
 refine WH.tp 0 rfl (.fa underlying28 rfl sizeOf22 dD rfl) ⟨(hk177).trans (p2).symm, trivial⟩ rfl ?_
 refine WH.tk 1 rfl (fun w' hw' => Rd.ld (isAgg22 _) rfl ((hw'.1).trans p2) rfl) ⟨(hk177).trans (p2).symm, trivial⟩ rfl ?_
 refine WH.tp 2 rfl (.mv rfl) ⟨(hk177).trans (p2).symm, trivial⟩ rfl ?_
 refine WH.tp 3 rfl (.fa underlying28 rfl sizeOf22 dD rfl) ⟨(hk177).trans (p2).symm, trivial⟩ rfl ?_
 refine WH.tk 4 rfl (fun w' hw' => Rd.ld (isAgg22 _) rfl ((hw'.1).trans p2) rfl) ⟨(hk177).trans (p2).symm, trivial⟩ rfl ?_
 refine WH.tp 5 rfl (.mv rfl) ⟨(hk177).trans (p2).symm, trivial⟩ rfl ?_
 refine WH.tp 6 rfl (.ixm underlying22 sizeOf28 rfl rfl (hv181.isp (by first | omega | (simp only [List.length_cons, List.length_nil]; omega))) (zs.length) (rfl) oO) ⟨(hk177).trans (p2).symm, trivial⟩ rfl ?_
 refine WH.br1 7 rfl ?_
 refine WL.r (Rd.ldS underlying28 rfl isz28 hv181 (zs.length) (by first | omega | (simp only [List.length_cons, List.length_nil]; omega)) rfl) rfl <| WL.nil <| ?_
 refine ⟨⟨(hk177).trans (p2).symm, trivial⟩, ?_⟩
 refine WH.br1 8 rfl ?_
 refine WL.call hb39 rfl rfl ((ih (list[zs.length]'oO) (hsz _ oO) _ (fun k => k < w.heap.size) _ _ _ (by rw [hel]; exact (hF173).sub zs.length oO oO) (b4' _ (List.getElem_mem _)).choose_spec)) (fun z w183 hw183 => ?_)
 have hle185 := Nat.le_trans hle172 hw183.2.size
 have ho184 := OwnM.below ho171 hw183.2
 have hF186 := AInv.same (w1 := w183) hF173 (fun k hk hl => hw183.2.block k hl)
 have hF187 := AInv.same (w1 := w183) hF174 (fun k hk hl => hw183.2.block k hl)
 have hF188 := StrsAt.same (w1 := w183) hF175 (fun k hk hl => hw183.2.block k hl)
 have hF189 := DOwn.same (w1 := w183) hF176 (fun k hk hl => hw183.2.block k hl)
 have hk190 := hk177.below hw183.2 hk177.lt
 have hk191 := hk178.below hw183.2 hk178.lt
 have hv192 := RowAt.below hv179 hw183.2 (fun h0 => hv179.lt h0)
 have hv193 := BytesAt.below hv180 hw183.2 (fun h0 => hv180.lt h0)
 have hB195 := btr hB182 hw183.2
 have hz := (hw183.1).1.mono (T := fun k => M ≤ k) (fun k hk _ => by (have := Drew.size dw170); omega)
 have hfz := (hF187).pushA hz
 refine WL.nil <| ?_
 refine ⟨⟨(hk190).trans (p2).symm, trivial⟩, ?_⟩
 refine WH.tp 9 rfl (.ixm underlying22 sizeOf28 rfl rfl hpp zs.length rfl oO) ⟨(hk190).trans (p2).symm, trivial⟩ rfl ?_
 refine WH.br1 10 rfl ?_
 refine WL.stM (L := acL) (z) (zs.length) ho184 oO isz28 rfl rfl rfl (fun w196 g197 hgcw196 huw196 how196 => ?_)
 have hglw196 := (ho184).lt g197 (by rw [hgcw196]; rfl)
 have hgm := hMr g197 (by rw [hgcw196]; rfl)
 have hF198 := AInv.same (w1 := w196) hF186 (fun k hk hl => huw196.other k (by first | ((try simp only) <;> omega) | (have := hk.1; ((try simp only) <;> omega))))
 have hF199 := AInv.same (w1 := w196) hfz (fun k hk hl => huw196.other k (by first | ((try simp only) <;> omega) | (have := hk.1; ((try simp only) <;> omega))))
 have hF200 := StrsAt.same (w1 := w196) hF188 (fun k hk hl => huw196.other k (by first | ((try simp only) <;> omega) | (have := hk.1; ((try simp only) <;> omega))))
 have hF201 := DOwn.same (w1 := w196) hF189 (fun k hk hl => huw196.other k (by first | ((try simp only) <;> omega) | (have := hk.1; ((try simp only) <;> omega))))
 have hk202 := hk190.up huw196
 have hk203 := hk191.up huw196
 have hv204 := RowAt.upd hv192 huw196 ((fun h0 => by first | (have := q7 h0; omega) | (have := hxk2.1 h0; omega)))
 have hv205 := BytesAt.upd hv193 huw196 ((fun h0 => by first | (have := q11 h0; omega) | (have := hxd2.1 h0; omega)))
 have hB206 := Upd.below hB195 oO huw196
 have hle207 := Nat.le_trans hle185 huw196.size
 have hnr := how196
 rw [drop_cons_at rfl oO] at hnr
 have hfz2 := hF199
 have htk : list.take zs.length ++ [list[zs.length]'oO] = list.take (zs ++ [z]).length := by rw [List.length_append]; exact (List.take_succ_eq_append_getElem oO).symm
 rw [htk] at hfz2
 refine WL.nil <| ?_
 refine ⟨⟨(hk202).trans (p2).symm, trivial⟩, ?_⟩
 refine WH.done kR ?_
 refine W.reg <| WL.p (.iis (((zs ++ [z]).length : Int)) (.add rfl rfl (i64w oO)) (by rw [List.length_append]; simp)) rfl <| WL.m rfl rfl <| WL.nil <| ?_
 exact ⟨zs ++ [z], ⟨rfl, rfl, rfl, rfl, trivial⟩, ⟨hB206, hk202, hk203, hF198, hv204, hv205, by rw [List.length_append]; exact hnr, hfz2, hle207, (by rw [List.length_append]; simp; omega), hF200, hF201⟩, by rw [List.length_append]; simp; omega⟩
 have h169' := dF h169
 refine W.exit <| W.sr <| WL.r (Rd.ldA rfl p2 underlying28 rfl isz28) rfl <| WL.stL rfl rfl p3 isz28 rfl rfl (fun w208 hkw208 huw208 hsw208 => ?_)
 have hle210 := Nat.le_trans hleM huw208.size
 have ho209 := OwnM.touch p7 huw208 oM
 have hF212 := AInv.same (w1 := w208) p8 (fun k hk hl => huw208.other k (by first | ((try simp only) <;> omega) | (have := hk.1; ((try simp only) <;> omega))))
 have hF213 := StrsAt.same (w1 := w208) p11 (fun k hk hl => huw208.other k (by first | ((try simp only) <;> omega) | (have := hk.1; ((try simp only) <;> omega))))
 have hF214 := DOwn.same (w1 := w208) p12 (fun k hk hl => huw208.other k (by first | ((try simp only) <;> omega) | (have := hk.1; ((try simp only) <;> omega))))
 have hv216 := RowAt.upd p5 huw208 ((fun h0 => by first | (have := q7 h0; omega) | (have := hxk2.1 h0; omega)))
 have hv217 := BytesAt.upd p6 huw208 ((fun h0 => by first | (have := q11 h0; omega) | (have := hxd2.1 h0; omega)))
 have hB218 := Upd.below p1 oO huw208
 refine WL.nil <| ?_
 refine W.ret (W.retc1 rfl rfl (ldRow hkw208 underlying28 rfl isz28)  ?_)
 obtain hzl : zs.length = cs.length := by omega
 have hrow := (ho209).cast (show zs ++ cs.drop zs.length = zs by rw [List.drop_of_length_le oO, List.append_nil])
 have hfz2 := hF212
 rw [List.take_of_length_le oO] at hfz2
 obtain ⟨-, r2, r3, r4, r5⟩ := hrow.full
 refine ⟨⟨k, i, s, nkp, keys.length, nkc, xl.1, cs.length, xl.2, ndp, data.length, ndc⟩, rvE rfl, ⟨ARep.mk ⟨k, i, s, nkp, keys.length, nkc, xl.1, cs.length, xl.2, ndp, data.length, ndc⟩ keys list data zs ⟨m8, m7, rfl, hzl.symm, rfl, q8, r2, q12, q9, r3, q13⟩ hkl hv216 (fun h0 => by have := q7 h0; show w.heap.size ≤ (pA nkp).block; omega) r4 (fun h0 => by have := (hrow.lt _ (r5 h0)).1; show w.heap.size ≤ (pA xl.1).block; omega) hv217 (fun h0 => by have := q11 h0; show w.heap.size ≤ (pA ndp).block; omega) oO (fun j h1 h2 => (hfz2.sub j h1 h2).mono fun k hk _ => by omega), ⟨⟨_, (hF213).mono (fun k hk _ => by omega)⟩, ⟨_, hrow.base (fun g hg => Nat.zero_le _), fun g hg => by have := hrow.lt g hg; omega⟩, ⟨_, (hF214).mono (fun k hk _ => by omega)⟩⟩⟩, hB218⟩
end
section
theorem ref_fits (n : Int) (w : World) : Calls Tryz.prog 60 #[.int .i64 n] w fun e w' => e = .returned (.bool (fitsB n)) ∧ w = w' :=
 (ref_Fits n w).mono fun e w' h => ⟨h.1, h.2⟩
/-- keys, the first so many of which are names, not one of them twice -/
def KeysB (k : Int) (ks : List (List UInt8)) (i : Nat) : Prop := (∀ x ∈ ks.take i, nmOk x) ∧ (ks.take i).Nodup ∧ (k = 9 → [76, 101, 110, 103, 116, 104] ∉ ks.take i)
theorem KeysB.step {k : Int} {ks : List (List UInt8)} {i : Nat} (h : KeysB k ks i) (hi : i < ks.length) (h1 : nmOk ks[i]) (h2 : ks[i] ∉ ks.take i) (h3 : k = 9 → ks[i] ≠ [76, 101, 110, 103, 116, 104]) : KeysB k ks (i + 1) := by
 have e : ks.take (i + 1) = ks.take i ++ [ks[i]] := List.take_succ_eq_append_getElem hi
 refine ⟨fun x hx => ?_, ?_, fun hk hx => ?_⟩
 ·
  rw [e] at hx
  rcases List.mem_append.1 hx with hx | hx
  ·
   exact h.1 x hx
  ·
   rw [List.mem_singleton.1 hx]; exact h1
 ·
  rw [e, List.nodup_append]
  refine ⟨h.2.1, by simp, fun a ha b hb => ?_⟩
  rw [List.mem_singleton.1 hb]
  exact fun e => h2 (e ▸ ha)
 ·
  rw [e] at hx
  rcases List.mem_append.1 hx with hx | hx
  ·
   exact h.2.2 hk hx
  ·
   exact h3 hk (List.mem_singleton.1 hx).symm
theorem str_mem {c : List UInt8} {l : List (List UInt8)} {i : Nat} (hi : i < l.length) (h : c ∉ l.take i) (hc : ¬ l[i] = c) : c ∉ l.take (i + 1) := by
 rw [List.take_add_one, List.getElem?_eq_getElem hi, Option.toList_some, List.mem_append, List.mem_singleton]
 exact fun hx => hx.elim h (fun e => hc e.symm)
set_option maxHeartbeats 1000000 in
theorem r18_soundA : ∀ (n : Nat) (o : AV), SizeOf.sizeOf o < n → ∀ (x : AC) (S : Nat → Prop) (D : Int) (st : Bool) (w : World), ARep w S x o → -1 ≤ D → D ≤ 100 →
  Calls Tryz.prog 40 #[.agg (acV x).toArray, .int .i64 D, .bool st] w fun e w' => ∃ b : { b : Bool // b = true → Snd D st o }, e = .returned (.bool b.1) ∧ Below w.heap.size w w' := by
 intro n
 induction n with
 | zero => intro o h; omega
 | succ n ih =>
 intro o hn x S D st w hx hD hD2
 obtain ⟨keys, list, data, cs, rfl, ok, hkl, hk, hks, hr, hrs, hd, hds, hcl, hsub⟩ := hx.inv
 obtain ⟨k, i, s, kp, kl, kc, lp, ll, lc, dp, dl, dc⟩ := x
 have e1 := ok.kl; have e2 := ok.ll; have e3 := ok.dl
 have m1 := ok.kc; have m2 := ok.lc; have m3 := ok.dc; have m4 := ok.km; have m5 := ok.lm; have m6 := ok.dm; have m7 := ok.text
 simp only at e1 e2 e3 m1 m2 m3 m4 m5 m6 m7 hk hr hd hrs ⊢
 subst e1; subst e2; subst e3
 simp only [AV.mk.sizeOf_spec] at hn
 have hsz : ∀ j (h : j < list.length), SizeOf.sizeOf list[j] < n := fun j h => by have := List.sizeOf_lt_of_mem (List.getElem_mem h); omega
 have hs0 : AInv w S cs list := ⟨hcl, hsub⟩
 simp only [acV]
 have hklen : ∀ j (h : j < keys.length), keys[j].length ≤ 9223372036854775807 := fun j h => hkl _ (List.getElem_mem h)
 obtain ⟨bD, hbD⟩ : ∃ b, b = decide (D < 1) := ⟨_, rfl⟩
 obtain ⟨b7, hb7⟩ : ∃ b, b = decide (i = 0) := ⟨_, rfl⟩
 obtain ⟨b8, hb8⟩ : ∃ b, b = decide (s = []) := ⟨_, rfl⟩
 obtain ⟨b9, hb9⟩ : ∃ b, b = decide ((keys.length : Int) = 0) := ⟨_, rfl⟩
 obtain ⟨b10, hb10⟩ : ∃ b, b = decide ((cs.length : Int) = 0) := ⟨_, rfl⟩
 obtain ⟨b11, hb11⟩ : ∃ b, b = decide ((data.length : Int) = 0) := ⟨_, rfl⟩
 obtain ⟨bm, hbm⟩ : ∃ b, b = !decide ((keys.length : Int) = (cs.length : Int)) := ⟨_, rfl⟩
 obtain ⟨b71, hb71⟩ : ∃ b, b = decide (k = 7) := ⟨_, rfl⟩
 obtain ⟨b91, hb91⟩ : ∃ b, b = decide (k = 9) := ⟨_, rfl⟩
 obtain ⟨bg, hbg⟩ : ∃ b, b = decide ((data.length : Int) > 1048576) := ⟨_, rfl⟩
 refine W.enter func40 rfl ntmps40 (Nat.le_of_ble_eq_true rfl) ?_
 have hB0 := Below.refl (w.heap.size) w
 refine W.sr <| WL.box rfl rfl (fun b1 wb1 eb1 hkb1 hub1 hsb1 => ?_)
 have hF2 := AInv.same (w1 := wb1) hs0 (fun k hk hl => hub1.other k oO)
 have hvl4 := fun h0 => eb1 ▸ hk.lt h0
 have hv3 := RowAt.upd hk hub1 (fun h0 => Nat.ne_of_lt (hvl4 h0))
 have hvl6 := fun h0 => eb1 ▸ hr.lt h0
 have hv5 := RowM.upd hr hub1 (fun h0 => Nat.ne_of_lt (hvl6 h0))
 have hB7 := Upd.below hB0 (by rw [eb1]; exact hB0.size) hub1
 have hgeb1 : w.heap.size ≤ b1 := by rw [eb1]; exact hB0.size
 refine WL.z rfl rfl ?_
 refine W.sr <| WL.p (.fa underlying28 rfl sizeOf3 dD rfl) rfl <| WL.r (Rd.ld (isAgg3 _) rfl hkb1 rfl) rfl <| WL.p (.bis (b7) (.eql rfl rfl) (by exact hb7.symm)) rfl <| WL.z rfl rfl ?_
 refine W.sr <| WL.p (.fa underlying28 rfl sizeOf9 dD rfl) rfl <| WL.r (Rd.ld (isAgg9 _) rfl hkb1 rfl) rfl <| WL.p (.bis (b8) (.eqs rfl rfl) (by exact hb8.symm)) rfl <| WL.z rfl rfl ?_
 refine W.sr <| WL.p (.fa underlying28 rfl sizeOf25 dD rfl) rfl <| WL.r (Rd.ld (isAgg25 _) rfl hkb1 rfl) rfl <| WL.p (.lenS underlying25 rfl) rfl <| WL.p (.bis (b9) (.eql rfl rfl) (by exact hb9.symm)) rfl <| WL.z rfl rfl ?_
 refine W.sr <| WL.p (.fa underlying28 rfl sizeOf22 dD rfl) rfl <| WL.r (Rd.ld (isAgg22 _) rfl hkb1 rfl) rfl <| WL.p (.lenS underlying22 rfl) rfl <| WL.p (.bis (b10) (.eql rfl rfl) (by exact hb10.symm)) rfl <| WL.z rfl rfl ?_
 refine W.sr <| WL.p (.fa underlying28 rfl sizeOf26 dD rfl) rfl <| WL.r (Rd.ld (isAgg26 _) rfl hkb1 rfl) rfl <| WL.p (.lenS underlying26 rfl) rfl <| WL.p (.bis (b11) (.eql rfl rfl) (by exact hb11.symm)) rfl <| WL.z rfl rfl ?_
 refine W.cut (α := Unit) (fun t => [(1, .int .i64 D), (3, .pointer (some ⟨b1, 0, none⟩))]) (fun t w' => Below w.heap.size w w' ∧ Blk w' b1 #[.int .i64 k, .int .i64 i, .string (bs s), .slice kp keys.length kc, .slice lp cs.length lc, .slice dp data.length dc] 28 ∧ RowM acL w' lp cs ∧ AInv w' S cs list ∧ PreS D st k i s keys list.length data) ?_ (fun t w1 hR => ?_)
 refine W.sr <| WL.p (.fa underlying28 rfl sizeOf3 dD rfl) rfl <| WL.r (Rd.ld (isAgg3 _) rfl hkb1 rfl) rfl <| WL.nil <| ?_
 refine W.block <| W.sr <| WL.p (.eql rfl rfl) rfl <| WL.z rfl rfl ?_
 refine W.cond rfl (fun h8 => ?_) (fun h8 => ?_)
 have h8' := dT h8
 refine W.sr <| WL.m rfl rfl <| WL.m rfl rfl <| WL.gd rfl rfl rfl (fun g9 => ?_) (fun g9 => ?_)
 refine WL.m rfl rfl <| WL.p (.pkT rfl g9 rfl) rfl <| WL.m rfl rfl <| WL.gd rfl rfl rfl (fun g10 => ?_) (fun g10 => ?_)
 refine WL.m rfl rfl <| WL.p (.pkT rfl g10 rfl) rfl <| WL.m rfl rfl <| WL.gd rfl rfl rfl (fun g11 => ?_) (fun g11 => ?_)
 refine WL.m rfl rfl <| WL.p (.pkT rfl g11 rfl) rfl <| WL.m rfl rfl <| WL.gd rfl rfl rfl (fun g12 => ?_) (fun g12 => ?_)
 refine WL.m rfl rfl <| WL.p (.pkT rfl g12 rfl) rfl <| WL.z rfl rfl ?_
 refine W.ret (W.ret1 rfl rfl ?_)
 exact ⟨⟨_, fun hb => fin0 hcl aS (dT (hb7.symm.trans aS)) (dT (hb8.symm.trans aS)) (dT (hb9.symm.trans aS)) (dT (hb10.symm.trans aS)) (dT (hb11.symm.trans hb))⟩, rfl, hB7⟩
 refine WL.p (.pkF rfl g12 rfl) rfl <| WL.z rfl rfl ?_
 refine W.ret (W.ret1 rfl rfl ?_)
 exact ⟨⟨false, fun h => by cases h⟩, rfl, hB7⟩
 refine WL.p (.pkF rfl g11 rfl) rfl <| WL.m rfl rfl <| WL.gn rfl rfl rfl rfl <| WL.p (.pkF rfl rfl rfl) rfl <| WL.z rfl rfl ?_
 refine W.ret (W.ret1 rfl rfl ?_)
 exact ⟨⟨false, fun h => by cases h⟩, rfl, hB7⟩
 refine WL.p (.pkF rfl g10 rfl) rfl <| WL.m rfl rfl <| WL.gn rfl rfl rfl rfl <| WL.p (.pkF rfl rfl rfl) rfl <| WL.m rfl rfl <| WL.gn rfl rfl rfl rfl <| WL.p (.pkF rfl rfl rfl) rfl <| WL.z rfl rfl ?_
 refine W.ret (W.ret1 rfl rfl ?_)
 exact ⟨⟨false, fun h => by cases h⟩, rfl, hB7⟩
 refine WL.p (.pkF rfl g9 rfl) rfl <| WL.m rfl rfl <| WL.gn rfl rfl rfl rfl <| WL.p (.pkF rfl rfl rfl) rfl <| WL.m rfl rfl <| WL.gn rfl rfl rfl rfl <| WL.p (.pkF rfl rfl rfl) rfl <| WL.m rfl rfl <| WL.gn rfl rfl rfl rfl <| WL.p (.pkF rfl rfl rfl) rfl <| WL.z rfl rfl ?_
 refine W.ret (W.ret1 rfl rfl ?_)
 exact ⟨⟨false, fun h => by cases h⟩, rfl, hB7⟩
 have h8' := dF h8
 refine W.sr <| WL.p (.eql rfl rfl) rfl <| WL.z rfl rfl ?_
 refine W.cond rfl (fun h13 => ?_) (fun h13 => ?_)
 have h13' := dT h13
 refine W.sr <| WL.p (.fa underlying28 rfl sizeOf3 dD rfl) rfl <| WL.r (Rd.ld (isAgg3 _) rfl hkb1 rfl) rfl <| WL.p (.eql rfl rfl) rfl <| WL.m rfl rfl <| WL.gd rfl rfl rfl (fun g14 => ?_) (fun g14 => ?_)
 have g14' := dF g14
 refine WL.p (.fa underlying28 rfl sizeOf3 dD rfl) rfl <| WL.gy rfl rfl rfl g14 <| WL.r (Rd.ld (isAgg3 _) rfl hkb1 rfl) rfl <| WL.gy rfl rfl rfl g14 <| WL.p (.eql rfl rfl) rfl <| WL.p (.pkF rfl g14 rfl) rfl <| WL.m rfl rfl <| WL.gd rfl rfl rfl (fun g15 => ?_) (fun g15 => ?_)
 have g15' := dT g15
 refine WL.m rfl rfl <| WL.p (.pkT rfl g15 rfl) rfl <| WL.m rfl rfl <| WL.gd rfl rfl rfl (fun g16 => ?_) (fun g16 => ?_)
 refine WL.m rfl rfl <| WL.p (.pkT rfl g16 rfl) rfl <| WL.m rfl rfl <| WL.gd rfl rfl rfl (fun g17 => ?_) (fun g17 => ?_)
 refine WL.m rfl rfl <| WL.p (.pkT rfl g17 rfl) rfl <| WL.m rfl rfl <| WL.gd rfl rfl rfl (fun g18 => ?_) (fun g18 => ?_)
 refine WL.m rfl rfl <| WL.p (.pkT rfl g18 rfl) rfl <| WL.z rfl rfl ?_
 refine W.ret (W.ret1 rfl rfl ?_)
 exact ⟨⟨_, fun hb => fin1 hcl aS (by first | exact .inl aS | exact .inr aS) (dT (hb8.symm.trans aS)) (dT (hb9.symm.trans aS)) (dT (hb10.symm.trans aS)) (dT (hb11.symm.trans hb))⟩, rfl, hB7⟩
 refine WL.p (.pkF rfl g18 rfl) rfl <| WL.z rfl rfl ?_
 refine W.ret (W.ret1 rfl rfl ?_)
 exact ⟨⟨false, fun h => by cases h⟩, rfl, hB7⟩
 refine WL.p (.pkF rfl g17 rfl) rfl <| WL.m rfl rfl <| WL.gn rfl rfl rfl rfl <| WL.p (.pkF rfl rfl rfl) rfl <| WL.z rfl rfl ?_
 refine W.ret (W.ret1 rfl rfl ?_)
 exact ⟨⟨false, fun h => by cases h⟩, rfl, hB7⟩
 refine WL.p (.pkF rfl g16 rfl) rfl <| WL.m rfl rfl <| WL.gn rfl rfl rfl rfl <| WL.p (.pkF rfl rfl rfl) rfl <| WL.m rfl rfl <| WL.gn rfl rfl rfl rfl <| WL.p (.pkF rfl rfl rfl) rfl <| WL.z rfl rfl ?_
 refine W.ret (W.ret1 rfl rfl ?_)
 exact ⟨⟨false, fun h => by cases h⟩, rfl, hB7⟩
 have g15' := dF g15
 refine WL.p (.pkF rfl g15 rfl) rfl <| WL.m rfl rfl <| WL.gn rfl rfl rfl rfl <| WL.p (.pkF rfl rfl rfl) rfl <| WL.m rfl rfl <| WL.gn rfl rfl rfl rfl <| WL.p (.pkF rfl rfl rfl) rfl <| WL.m rfl rfl <| WL.gn rfl rfl rfl rfl <| WL.p (.pkF rfl rfl rfl) rfl <| WL.z rfl rfl ?_
 refine W.ret (W.ret1 rfl rfl ?_)
 exact ⟨⟨false, fun h => by cases h⟩, rfl, hB7⟩
 have g14' := dT g14
 refine WL.gn rfl rfl rfl g14 <| WL.gn rfl rfl rfl g14 <| WL.p (.pkT rfl g14 rfl) rfl <| WL.m rfl rfl <| WL.gy rfl rfl rfl rfl <| WL.m rfl rfl <| WL.p (.pkT rfl rfl rfl) rfl <| WL.m rfl rfl <| WL.gd rfl rfl rfl (fun g19 => ?_) (fun g19 => ?_)
 refine WL.m rfl rfl <| WL.p (.pkT rfl g19 rfl) rfl <| WL.m rfl rfl <| WL.gd rfl rfl rfl (fun g20 => ?_) (fun g20 => ?_)
 refine WL.m rfl rfl <| WL.p (.pkT rfl g20 rfl) rfl <| WL.m rfl rfl <| WL.gd rfl rfl rfl (fun g21 => ?_) (fun g21 => ?_)
 refine WL.m rfl rfl <| WL.p (.pkT rfl g21 rfl) rfl <| WL.z rfl rfl ?_
 refine W.ret (W.ret1 rfl rfl ?_)
 exact ⟨⟨_, fun hb => fin1 hcl aS (by first | exact .inl aS | exact .inr aS) (dT (hb8.symm.trans aS)) (dT (hb9.symm.trans aS)) (dT (hb10.symm.trans aS)) (dT (hb11.symm.trans hb))⟩, rfl, hB7⟩
 refine WL.p (.pkF rfl g21 rfl) rfl <| WL.z rfl rfl ?_
 refine W.ret (W.ret1 rfl rfl ?_)
 exact ⟨⟨false, fun h => by cases h⟩, rfl, hB7⟩
 refine WL.p (.pkF rfl g20 rfl) rfl <| WL.m rfl rfl <| WL.gn rfl rfl rfl rfl <| WL.p (.pkF rfl rfl rfl) rfl <| WL.z rfl rfl ?_
 refine W.ret (W.ret1 rfl rfl ?_)
 exact ⟨⟨false, fun h => by cases h⟩, rfl, hB7⟩
 refine WL.p (.pkF rfl g19 rfl) rfl <| WL.m rfl rfl <| WL.gn rfl rfl rfl rfl <| WL.p (.pkF rfl rfl rfl) rfl <| WL.m rfl rfl <| WL.gn rfl rfl rfl rfl <| WL.p (.pkF rfl rfl rfl) rfl <| WL.z rfl rfl ?_
 refine W.ret (W.ret1 rfl rfl ?_)
 exact ⟨⟨false, fun h => by cases h⟩, rfl, hB7⟩
 have h13' := dF h13
 refine W.seq <| W.sr <| WL.p (.eql rfl rfl) rfl <| WL.z rfl rfl ?_
 refine W.cond rfl (fun h22 => ?_) (fun h22 => ?_)
 have h22' := dT h22
 refine W.skip <| W.condT rfl h22 ?_
 refine W.sr <| WL.p (.fa underlying28 rfl sizeOf3 dD rfl) rfl <| WL.r (Rd.ld (isAgg3 _) rfl hkb1 rfl) rfl <| WL.c1 hb60 rfl rfl ((ref_fits _ _)) (fun w23 hw23 => ?_)
 obtain rfl := hw23
 refine WL.m rfl rfl <| WL.gd rfl rfl rfl (fun g24 => ?_) (fun g24 => ?_)
 refine WL.m rfl rfl <| WL.p (.pkT rfl g24 rfl) rfl <| WL.m rfl rfl <| WL.gd rfl rfl rfl (fun g25 => ?_) (fun g25 => ?_)
 refine WL.m rfl rfl <| WL.p (.pkT rfl g25 rfl) rfl <| WL.m rfl rfl <| WL.gd rfl rfl rfl (fun g26 => ?_) (fun g26 => ?_)
 refine WL.m rfl rfl <| WL.p (.pkT rfl g26 rfl) rfl <| WL.m rfl rfl <| WL.gd rfl rfl rfl (fun g27 => ?_) (fun g27 => ?_)
 refine WL.m rfl rfl <| WL.p (.pkT rfl g27 rfl) rfl <| WL.z rfl rfl ?_
 refine W.ret (W.ret1 rfl rfl ?_)
 exact ⟨⟨_, fun hb => fin2 hcl (by first | exact .inl aS | exact .inr aS) aS (dT (hb8.symm.trans aS)) (dT (hb9.symm.trans aS)) (dT (hb10.symm.trans aS)) (dT (hb11.symm.trans hb))⟩, rfl, hB7⟩
 refine WL.p (.pkF rfl g27 rfl) rfl <| WL.z rfl rfl ?_
 refine W.ret (W.ret1 rfl rfl ?_)
 exact ⟨⟨false, fun h => by cases h⟩, rfl, hB7⟩
 refine WL.p (.pkF rfl g26 rfl) rfl <| WL.m rfl rfl <| WL.gn rfl rfl rfl rfl <| WL.p (.pkF rfl rfl rfl) rfl <| WL.z rfl rfl ?_
 refine W.ret (W.ret1 rfl rfl ?_)
 exact ⟨⟨false, fun h => by cases h⟩, rfl, hB7⟩
 refine WL.p (.pkF rfl g25 rfl) rfl <| WL.m rfl rfl <| WL.gn rfl rfl rfl rfl <| WL.p (.pkF rfl rfl rfl) rfl <| WL.m rfl rfl <| WL.gn rfl rfl rfl rfl <| WL.p (.pkF rfl rfl rfl) rfl <| WL.z rfl rfl ?_
 refine W.ret (W.ret1 rfl rfl ?_)
 exact ⟨⟨false, fun h => by cases h⟩, rfl, hB7⟩
 refine WL.p (.pkF rfl g24 rfl) rfl <| WL.m rfl rfl <| WL.gn rfl rfl rfl rfl <| WL.p (.pkF rfl rfl rfl) rfl <| WL.m rfl rfl <| WL.gn rfl rfl rfl rfl <| WL.p (.pkF rfl rfl rfl) rfl <| WL.m rfl rfl <| WL.gn rfl rfl rfl rfl <| WL.p (.pkF rfl rfl rfl) rfl <| WL.z rfl rfl ?_
 refine W.ret (W.ret1 rfl rfl ?_)
 exact ⟨⟨false, fun h => by cases h⟩, rfl, hB7⟩
 have h22' := dF h22
 refine W.reg <| WL.p (.eql rfl rfl) rfl <| WL.z rfl rfl ?_
 refine W.cond rfl (fun h28 => ?_) (fun h28 => ?_)
 have h28' := dT h28
 refine W.sr <| WL.p (.fa underlying28 rfl sizeOf3 dD rfl) rfl <| WL.r (Rd.ld (isAgg3 _) rfl hkb1 rfl) rfl <| WL.c1 hb60 rfl rfl ((ref_fits _ _)) (fun w29 hw29 => ?_)
 obtain rfl := hw29
 refine WL.m rfl rfl <| WL.gd rfl rfl rfl (fun g30 => ?_) (fun g30 => ?_)
 refine WL.m rfl rfl <| WL.p (.pkT rfl g30 rfl) rfl <| WL.m rfl rfl <| WL.gd rfl rfl rfl (fun g31 => ?_) (fun g31 => ?_)
 refine WL.m rfl rfl <| WL.p (.pkT rfl g31 rfl) rfl <| WL.m rfl rfl <| WL.gd rfl rfl rfl (fun g32 => ?_) (fun g32 => ?_)
 refine WL.m rfl rfl <| WL.p (.pkT rfl g32 rfl) rfl <| WL.m rfl rfl <| WL.gd rfl rfl rfl (fun g33 => ?_) (fun g33 => ?_)
 refine WL.m rfl rfl <| WL.p (.pkT rfl g33 rfl) rfl <| WL.z rfl rfl ?_
 refine W.ret (W.ret1 rfl rfl ?_)
 exact ⟨⟨_, fun hb => fin2 hcl (by first | exact .inl aS | exact .inr aS) aS (dT (hb8.symm.trans aS)) (dT (hb9.symm.trans aS)) (dT (hb10.symm.trans aS)) (dT (hb11.symm.trans hb))⟩, rfl, hB7⟩
 refine WL.p (.pkF rfl g33 rfl) rfl <| WL.z rfl rfl ?_
 refine W.ret (W.ret1 rfl rfl ?_)
 exact ⟨⟨false, fun h => by cases h⟩, rfl, hB7⟩
 refine WL.p (.pkF rfl g32 rfl) rfl <| WL.m rfl rfl <| WL.gn rfl rfl rfl rfl <| WL.p (.pkF rfl rfl rfl) rfl <| WL.z rfl rfl ?_
 refine W.ret (W.ret1 rfl rfl ?_)
 exact ⟨⟨false, fun h => by cases h⟩, rfl, hB7⟩
 refine WL.p (.pkF rfl g31 rfl) rfl <| WL.m rfl rfl <| WL.gn rfl rfl rfl rfl <| WL.p (.pkF rfl rfl rfl) rfl <| WL.m rfl rfl <| WL.gn rfl rfl rfl rfl <| WL.p (.pkF rfl rfl rfl) rfl <| WL.z rfl rfl ?_
 refine W.ret (W.ret1 rfl rfl ?_)
 exact ⟨⟨false, fun h => by cases h⟩, rfl, hB7⟩
 refine WL.p (.pkF rfl g30 rfl) rfl <| WL.m rfl rfl <| WL.gn rfl rfl rfl rfl <| WL.p (.pkF rfl rfl rfl) rfl <| WL.m rfl rfl <| WL.gn rfl rfl rfl rfl <| WL.p (.pkF rfl rfl rfl) rfl <| WL.m rfl rfl <| WL.gn rfl rfl rfl rfl <| WL.p (.pkF rfl rfl rfl) rfl <| WL.z rfl rfl ?_
 refine W.ret (W.ret1 rfl rfl ?_)
 exact ⟨⟨false, fun h => by cases h⟩, rfl, hB7⟩
 have h28' := dF h28
 refine W.sr <| WL.p (.eql rfl rfl) rfl <| WL.z rfl rfl ?_
 refine W.cond rfl (fun h34 => ?_) (fun h34 => ?_)
 have h34' := dT h34
 refine W.sr <| WL.m rfl rfl <| WL.m rfl rfl <| WL.gd rfl rfl rfl (fun g35 => ?_) (fun g35 => ?_)
 refine WL.p (.fa underlying28 rfl sizeOf9 dD rfl) rfl <| WL.gy rfl rfl rfl g35 <| WL.r (Rd.ld (isAgg9 _) rfl hkb1 rfl) rfl <| WL.gy rfl rfl rfl g35 <| WL.c1 hb61 rfl rfl ((r18_nameB s _ oO)) (fun w36 hw36 => ?_)
 obtain rfl := hw36
 refine WL.p (.pkT rfl g35 rfl) rfl <| WL.m rfl rfl <| WL.gd rfl rfl rfl (fun g37 => ?_) (fun g37 => ?_)
 refine WL.m rfl rfl <| WL.p (.pkT rfl g37 rfl) rfl <| WL.m rfl rfl <| WL.gd rfl rfl rfl (fun g38 => ?_) (fun g38 => ?_)
 refine WL.m rfl rfl <| WL.p (.pkT rfl g38 rfl) rfl <| WL.m rfl rfl <| WL.gd rfl rfl rfl (fun g39 => ?_) (fun g39 => ?_)
 refine WL.m rfl rfl <| WL.p (.pkT rfl g39 rfl) rfl <| WL.z rfl rfl ?_
 refine W.ret (W.ret1 rfl rfl ?_)
 exact ⟨⟨_, fun hb => fin4 hcl aS (dT (hb7.symm.trans aS)) (nmB_ok aS) (dT (hb9.symm.trans aS)) (dT (hb10.symm.trans aS)) (dT (hb11.symm.trans hb))⟩, rfl, hB7⟩
 refine WL.p (.pkF rfl g39 rfl) rfl <| WL.z rfl rfl ?_
 refine W.ret (W.ret1 rfl rfl ?_)
 exact ⟨⟨false, fun h => by cases h⟩, rfl, hB7⟩
 refine WL.p (.pkF rfl g38 rfl) rfl <| WL.m rfl rfl <| WL.gn rfl rfl rfl rfl <| WL.p (.pkF rfl rfl rfl) rfl <| WL.z rfl rfl ?_
 refine W.ret (W.ret1 rfl rfl ?_)
 exact ⟨⟨false, fun h => by cases h⟩, rfl, hB7⟩
 refine WL.p (.pkF rfl g37 rfl) rfl <| WL.m rfl rfl <| WL.gn rfl rfl rfl rfl <| WL.p (.pkF rfl rfl rfl) rfl <| WL.m rfl rfl <| WL.gn rfl rfl rfl rfl <| WL.p (.pkF rfl rfl rfl) rfl <| WL.z rfl rfl ?_
 refine W.ret (W.ret1 rfl rfl ?_)
 exact ⟨⟨false, fun h => by cases h⟩, rfl, hB7⟩
 refine WL.gn rfl rfl rfl g35 <| WL.gn rfl rfl rfl g35 <| WL.p (.pkF rfl g35 rfl) rfl <| WL.m rfl rfl <| WL.gn rfl rfl rfl rfl <| WL.p (.pkF rfl rfl rfl) rfl <| WL.m rfl rfl <| WL.gn rfl rfl rfl rfl <| WL.p (.pkF rfl rfl rfl) rfl <| WL.m rfl rfl <| WL.gn rfl rfl rfl rfl <| WL.p (.pkF rfl rfl rfl) rfl <| WL.z rfl rfl ?_
 refine W.ret (W.ret1 rfl rfl ?_)
 exact ⟨⟨false, fun h => by cases h⟩, rfl, hB7⟩
 have h34' := dF h34
 refine W.sr <| WL.p (.eql rfl rfl) rfl <| WL.z rfl rfl ?_
 refine W.cond rfl (fun h40 => ?_) (fun h40 => ?_)
 have h40' := dT h40
 refine W.sr <| WL.m rfl rfl <| WL.m rfl rfl <| WL.gd rfl rfl rfl (fun g41 => ?_) (fun g41 => ?_)
 refine WL.p (.fa underlying28 rfl sizeOf9 dD rfl) rfl <| WL.gy rfl rfl rfl g41 <| WL.r (Rd.ld (isAgg9 _) rfl hkb1 rfl) rfl <| WL.gy rfl rfl rfl g41 <| WL.p (.len underlying9 rfl) rfl <| WL.gy rfl rfl rfl g41 <| WL.p (.leq rfl rfl) rfl <| WL.p (.pkT rfl g41 rfl) rfl <| WL.m rfl rfl <| WL.gd rfl rfl rfl (fun g42 => ?_) (fun g42 => ?_)
 have g42' := dT g42
 refine WL.m rfl rfl <| WL.p (.pkT rfl g42 rfl) rfl <| WL.m rfl rfl <| WL.gd rfl rfl rfl (fun g43 => ?_) (fun g43 => ?_)
 refine WL.m rfl rfl <| WL.p (.pkT rfl g43 rfl) rfl <| WL.m rfl rfl <| WL.gd rfl rfl rfl (fun g44 => ?_) (fun g44 => ?_)
 refine WL.m rfl rfl <| WL.p (.pkT rfl g44 rfl) rfl <| WL.z rfl rfl ?_
 refine W.ret (W.ret1 rfl rfl ?_)
 exact ⟨⟨_, fun hb => fin5 hcl aS (dT (hb7.symm.trans aS)) aS (dT (hb9.symm.trans aS)) (dT (hb10.symm.trans aS)) (dT (hb11.symm.trans hb))⟩, rfl, hB7⟩
 refine WL.p (.pkF rfl g44 rfl) rfl <| WL.z rfl rfl ?_
 refine W.ret (W.ret1 rfl rfl ?_)
 exact ⟨⟨false, fun h => by cases h⟩, rfl, hB7⟩
 refine WL.p (.pkF rfl g43 rfl) rfl <| WL.m rfl rfl <| WL.gn rfl rfl rfl rfl <| WL.p (.pkF rfl rfl rfl) rfl <| WL.z rfl rfl ?_
 refine W.ret (W.ret1 rfl rfl ?_)
 exact ⟨⟨false, fun h => by cases h⟩, rfl, hB7⟩
 have g42' := dF g42
 refine WL.p (.pkF rfl g42 rfl) rfl <| WL.m rfl rfl <| WL.gn rfl rfl rfl rfl <| WL.p (.pkF rfl rfl rfl) rfl <| WL.m rfl rfl <| WL.gn rfl rfl rfl rfl <| WL.p (.pkF rfl rfl rfl) rfl <| WL.z rfl rfl ?_
 refine W.ret (W.ret1 rfl rfl ?_)
 exact ⟨⟨false, fun h => by cases h⟩, rfl, hB7⟩
 refine WL.gn rfl rfl rfl g41 <| WL.gn rfl rfl rfl g41 <| WL.gn rfl rfl rfl g41 <| WL.p (.pkF rfl g41 rfl) rfl <| WL.m rfl rfl <| WL.gn rfl rfl rfl rfl <| WL.p (.pkF rfl rfl rfl) rfl <| WL.m rfl rfl <| WL.gn rfl rfl rfl rfl <| WL.p (.pkF rfl rfl rfl) rfl <| WL.m rfl rfl <| WL.gn rfl rfl rfl rfl <| WL.p (.pkF rfl rfl rfl) rfl <| WL.z rfl rfl ?_
 refine W.ret (W.ret1 rfl rfl ?_)
 exact ⟨⟨false, fun h => by cases h⟩, rfl, hB7⟩
 have h40' := dF h40
 refine W.sr <| WL.p (.eql rfl rfl) rfl <| WL.z rfl rfl ?_
 refine W.cond rfl (fun h45 => ?_) (fun h45 => ?_)
 have h45' := dT h45
 refine W.sr <| WL.p (.fa underlying28 rfl sizeOf3 dD rfl) rfl <| WL.r (Rd.ld (isAgg3 _) rfl hkb1 rfl) rfl <| WL.p (.geq rfl rfl) rfl <| WL.m rfl rfl <| WL.gd rfl rfl rfl (fun g46 => ?_) (fun g46 => ?_)
 have g46' := dT g46
 refine WL.p (.fa underlying28 rfl sizeOf3 dD rfl) rfl <| WL.gy rfl rfl rfl g46 <| WL.r (Rd.ld (isAgg3 _) rfl hkb1 rfl) rfl <| WL.gy rfl rfl rfl g46 <| WL.p (.leq rfl rfl) rfl <| WL.p (.pkT rfl g46 rfl) rfl <| WL.m rfl rfl <| WL.gd rfl rfl rfl (fun g47 => ?_) (fun g47 => ?_)
 have g47' := dT g47
 refine WL.m rfl rfl <| WL.p (.pkT rfl g47 rfl) rfl <| WL.m rfl rfl <| WL.gd rfl rfl rfl (fun g48 => ?_) (fun g48 => ?_)
 refine WL.m rfl rfl <| WL.p (.pkT rfl g48 rfl) rfl <| WL.m rfl rfl <| WL.gd rfl rfl rfl (fun g49 => ?_) (fun g49 => ?_)
 refine WL.m rfl rfl <| WL.p (.pkT rfl g49 rfl) rfl <| WL.m rfl rfl <| WL.gd rfl rfl rfl (fun g50 => ?_) (fun g50 => ?_)
 refine WL.m rfl rfl <| WL.p (.pkT rfl g50 rfl) rfl <| WL.z rfl rfl ?_
 refine W.ret (W.ret1 rfl rfl ?_)
 exact ⟨⟨_, fun hb => fin8 hcl aS aS aS (dT (hb8.symm.trans aS)) (dT (hb9.symm.trans aS)) (dT (hb10.symm.trans aS)) (dT (hb11.symm.trans hb))⟩, rfl, hB7⟩
 refine WL.p (.pkF rfl g50 rfl) rfl <| WL.z rfl rfl ?_
 refine W.ret (W.ret1 rfl rfl ?_)
 exact ⟨⟨false, fun h => by cases h⟩, rfl, hB7⟩
 refine WL.p (.pkF rfl g49 rfl) rfl <| WL.m rfl rfl <| WL.gn rfl rfl rfl rfl <| WL.p (.pkF rfl rfl rfl) rfl <| WL.z rfl rfl ?_
 refine W.ret (W.ret1 rfl rfl ?_)
 exact ⟨⟨false, fun h => by cases h⟩, rfl, hB7⟩
 refine WL.p (.pkF rfl g48 rfl) rfl <| WL.m rfl rfl <| WL.gn rfl rfl rfl rfl <| WL.p (.pkF rfl rfl rfl) rfl <| WL.m rfl rfl <| WL.gn rfl rfl rfl rfl <| WL.p (.pkF rfl rfl rfl) rfl <| WL.z rfl rfl ?_
 refine W.ret (W.ret1 rfl rfl ?_)
 exact ⟨⟨false, fun h => by cases h⟩, rfl, hB7⟩
 have g47' := dF g47
 refine WL.p (.pkF rfl g47 rfl) rfl <| WL.m rfl rfl <| WL.gn rfl rfl rfl rfl <| WL.p (.pkF rfl rfl rfl) rfl <| WL.m rfl rfl <| WL.gn rfl rfl rfl rfl <| WL.p (.pkF rfl rfl rfl) rfl <| WL.m rfl rfl <| WL.gn rfl rfl rfl rfl <| WL.p (.pkF rfl rfl rfl) rfl <| WL.z rfl rfl ?_
 refine W.ret (W.ret1 rfl rfl ?_)
 exact ⟨⟨false, fun h => by cases h⟩, rfl, hB7⟩
 have g46' := dF g46
 refine WL.gn rfl rfl rfl g46 <| WL.gn rfl rfl rfl g46 <| WL.p (.pkF rfl g46 rfl) rfl <| WL.m rfl rfl <| WL.gn rfl rfl rfl rfl <| WL.p (.pkF rfl rfl rfl) rfl <| WL.m rfl rfl <| WL.gn rfl rfl rfl rfl <| WL.p (.pkF rfl rfl rfl) rfl <| WL.m rfl rfl <| WL.gn rfl rfl rfl rfl <| WL.p (.pkF rfl rfl rfl) rfl <| WL.m rfl rfl <| WL.gn rfl rfl rfl rfl <| WL.p (.pkF rfl rfl rfl) rfl <| WL.z rfl rfl ?_
 refine W.ret (W.ret1 rfl rfl ?_)
 exact ⟨⟨false, fun h => by cases h⟩, rfl, hB7⟩
 have h45' := dF h45
 refine W.sr <| WL.p (.eql rfl rfl) rfl <| WL.z rfl rfl ?_
 refine W.cond rfl (fun h51 => ?_) (fun h51 => ?_)
 have h51' := dT h51
 refine W.cutB 166 ((bD || !b7 || !b8 || !b9 || !b11)) ?_ ?_
 refine W.reg <| WL.m rfl rfl <| WL.p (.bis (bD) (.lss rfl rfl) (by exact hbD.symm)) rfl <| WL.m rfl rfl <| WL.gd rfl rfl rfl (fun g52 => ?_) (fun g52 => ?_)
 refine WL.m rfl rfl <| WL.gy rfl rfl rfl g52 <| WL.p (.not rfl) rfl <| WL.p (.pkF rfl g52 rfl) rfl <| WL.m rfl rfl <| WL.gd rfl rfl rfl (fun g53 => ?_) (fun g53 => ?_)
 have g53' := (nF g53)
 refine WL.m rfl rfl <| WL.gy rfl rfl rfl (by rw [(nF g53)] <;> rfl) <| WL.p (.not rfl) rfl <| WL.p (.pkF rfl (by rw [(nF g53)] <;> rfl) rfl) rfl <| WL.m rfl rfl <| WL.gd rfl rfl rfl (fun g54 => ?_) (fun g54 => ?_)
 have g54' := (nF g54)
 refine WL.m rfl rfl <| WL.gy rfl rfl rfl (by rw [(nF g54)] <;> rfl) <| WL.p (.not rfl) rfl <| WL.p (.pkF rfl (by rw [(nF g54)] <;> rfl) rfl) rfl <| WL.m rfl rfl <| WL.gd rfl rfl rfl (fun g55 => ?_) (fun g55 => ?_)
 have g55' := (nF g55)
 refine WL.m rfl rfl <| WL.gy rfl rfl rfl (by rw [(nF g55)] <;> rfl) <| WL.p (.not rfl) rfl <| WL.p (.pkF rfl (by rw [(nF g55)] <;> rfl) rfl) rfl <| WL.nil <| ?_
 exact ⟨leE (lk_b rfl (by clear hbD hb7 hb8 hb9 hb10 hb11 hbm hb71 hb91 hbg; subst_vars; first | rfl | (cases st <;> first | rfl | contradiction))), rfl⟩
 have g55' := (nT g55)
 refine WL.gn rfl rfl rfl (by rw [(nT g55)] <;> rfl) <| WL.p (.pkT rfl (by rw [(nT g55)] <;> rfl) rfl) rfl <| WL.nil <| ?_
 exact ⟨leE (lk_b rfl (by clear hbD hb7 hb8 hb9 hb10 hb11 hbm hb71 hb91 hbg; subst_vars; first | rfl | (cases st <;> first | rfl | contradiction))), rfl⟩
 have g54' := (nT g54)
 refine WL.gn rfl rfl rfl (by rw [(nT g54)] <;> rfl) <| WL.p (.pkT rfl (by rw [(nT g54)] <;> rfl) rfl) rfl <| WL.m rfl rfl <| WL.gn rfl rfl rfl rfl <| WL.gn rfl rfl rfl rfl <| WL.p (.pkT rfl rfl rfl) rfl <| WL.nil <| ?_
 exact ⟨leE (lk_b rfl (by clear hbD hb7 hb8 hb9 hb10 hb11 hbm hb71 hb91 hbg; subst_vars; first | rfl | (cases st <;> first | rfl | contradiction))), rfl⟩
 have g53' := (nT g53)
 refine WL.gn rfl rfl rfl (by rw [(nT g53)] <;> rfl) <| WL.p (.pkT rfl (by rw [(nT g53)] <;> rfl) rfl) rfl <| WL.m rfl rfl <| WL.gn rfl rfl rfl rfl <| WL.gn rfl rfl rfl rfl <| WL.p (.pkT rfl rfl rfl) rfl <| WL.m rfl rfl <| WL.gn rfl rfl rfl rfl <| WL.gn rfl rfl rfl rfl <| WL.p (.pkT rfl rfl rfl) rfl <| WL.nil <| ?_
 exact ⟨leE (lk_b rfl (by clear hbD hb7 hb8 hb9 hb10 hb11 hbm hb71 hb91 hbg; subst_vars; first | rfl | (cases st <;> first | rfl | contradiction))), rfl⟩
 refine WL.gn rfl rfl rfl g52 <| WL.p (.pkT rfl g52 rfl) rfl <| WL.m rfl rfl <| WL.gn rfl rfl rfl rfl <| WL.gn rfl rfl rfl rfl <| WL.p (.pkT rfl rfl rfl) rfl <| WL.m rfl rfl <| WL.gn rfl rfl rfl rfl <| WL.gn rfl rfl rfl rfl <| WL.p (.pkT rfl rfl rfl) rfl <| WL.m rfl rfl <| WL.gn rfl rfl rfl rfl <| WL.gn rfl rfl rfl rfl <| WL.p (.pkT rfl rfl rfl) rfl <| WL.nil <| ?_
 exact ⟨leE (lk_b rfl (by clear hbD hb7 hb8 hb9 hb10 hb11 hbm hb71 hb91 hbg; subst_vars; first | rfl | (cases st <;> first | rfl | contradiction))), rfl⟩
 refine W.cond rfl (fun h56 => ?_) (fun h56 => ?_)
 refine W.sr <| WL.z rfl rfl ?_
 refine W.ret (W.ret1 rfl rfl ?_)
 exact ⟨⟨false, fun h => by cases h⟩, rfl, hB7⟩
 obtain ⟨q1, q2, q3, q4, q5⟩ : 1 ≤ D ∧ i = 0 ∧ s = [] ∧ keys = [] ∧ data = [] := by
  have h0 : (bD || !b7 || !b8 || !b9 || !b11) = false := by assumption
  rw [hbD, hb7, hb8, hb9, hb11] at h0
  simp only [Bool.or_eq_false_iff, Bool.not_eq_false', decide_eq_true_eq, decide_eq_false_iff_not] at h0
  exact ⟨by omega, h0.1.1.1.2, h0.1.1.2, lenz h0.1.2, lenz h0.2⟩
 refine W.skip ?_
 exact ⟨(), ⟨rfl, rfl, trivial⟩, hB7, hkb1, hv5, hF2, .inl ⟨by assumption, q1, q2, q3, q4, q5⟩⟩
 have h51' := dF h51
 refine W.cut (α := Unit) (fun t => [(1, .int .i64 D), (2, .bool st), (3, .pointer (some ⟨b1, 0, none⟩)), (7, .bool b7), (8, .bool b8), (11, .bool b11), (167, .bool (b71 || b91))]) (fun t w' => wb1 = w') ?_ (fun t w1 hR => ?_)
 refine W.sr <| WL.p (.bis (b71) (.eql rfl rfl) (by exact hb71.symm)) rfl <| WL.z rfl rfl ?_
 refine W.cond rfl (fun h57 => ?_) (fun h57 => ?_)
 refine W.skip ?_
 exact ⟨(), ⟨rfl, rfl, rfl, rfl, rfl, rfl, lk_b rfl (by rw [show b71 = true by assumption]; rfl), trivial⟩, rfl⟩
 refine W.reg <| WL.p (.bis (b91) (.eql rfl rfl) (by exact hb91.symm)) rfl <| WL.z rfl rfl ?_
 exact ⟨(), ⟨rfl, rfl, rfl, rfl, rfl, rfl, lk_b rfl (by rw [show b71 = false by assumption]; rfl), trivial⟩, rfl⟩
 obtain rfl := hR
 refine W.cond rfl (fun h58 => ?_) (fun h58 => ?_)
 refine W.seq ?_
 refine W.cutB 212 ((bD || !b7 || !b8 || bm || (b71 && !b11) || (b91 && (!st || bg)))) ?_ ?_
 refine W.reg <| WL.m rfl rfl <| WL.p (.bis (bD) (.lss rfl rfl) (by exact hbD.symm)) rfl <| WL.m rfl rfl <| WL.gd rfl rfl rfl (fun g59 => ?_) (fun g59 => ?_)
 refine WL.m rfl rfl <| WL.gy rfl rfl rfl g59 <| WL.p (.not rfl) rfl <| WL.p (.pkF rfl g59 rfl) rfl <| WL.m rfl rfl <| WL.gd rfl rfl rfl (fun g60 => ?_) (fun g60 => ?_)
 have g60' := (nF g60)
 refine WL.m rfl rfl <| WL.gy rfl rfl rfl (by rw [(nF g60)] <;> rfl) <| WL.p (.not rfl) rfl <| WL.p (.pkF rfl (by rw [(nF g60)] <;> rfl) rfl) rfl <| WL.m rfl rfl <| WL.gd rfl rfl rfl (fun g61 => ?_) (fun g61 => ?_)
 have g61' := (nF g61)
 refine WL.p (.fa underlying28 rfl sizeOf25 dD rfl) rfl <| WL.gy rfl rfl rfl (by rw [(nF g61)] <;> rfl) <| WL.r (Rd.ld (isAgg25 _) rfl hkb1 rfl) rfl <| WL.gy rfl rfl rfl (by rw [(nF g61)] <;> rfl) <| WL.p (.lenS underlying25 rfl) rfl <| WL.gy rfl rfl rfl (by rw [(nF g61)] <;> rfl) <| WL.p (.fa underlying28 rfl sizeOf22 dD rfl) rfl <| WL.gy rfl rfl rfl (by rw [(nF g61)] <;> rfl) <| WL.r (Rd.ld (isAgg22 _) rfl hkb1 rfl) rfl <| WL.gy rfl rfl rfl (by rw [(nF g61)] <;> rfl) <| WL.p (.lenS underlying22 rfl) rfl <| WL.gy rfl rfl rfl (by rw [(nF g61)] <;> rfl) <| WL.p (.bis (bm) (.neq rfl rfl) (by exact hbm.symm)) rfl <| WL.p (.pkF rfl (by rw [(nF g61)] <;> rfl) rfl) rfl <| WL.m rfl rfl <| WL.gd rfl rfl rfl (fun g62 => ?_) (fun g62 => ?_)
 refine WL.p (.fa underlying28 rfl sizeOf3 dD rfl) rfl <| WL.gy rfl rfl rfl g62 <| WL.r (Rd.ld (isAgg3 _) rfl hkb1 rfl) rfl <| WL.gy rfl rfl rfl g62 <| WL.p (.bis (b71) (.eql rfl rfl) (by exact hb71.symm)) rfl <| WL.gy rfl rfl rfl g62 <| WL.m rfl rfl <| WL.gd rfl rfl rfl (fun g63 => ?_) (fun g63 => ?_)
 refine WL.m rfl rfl <| WL.gy rfl rfl rfl g63 <| WL.p (.not rfl) rfl <| WL.gy rfl rfl rfl g62 <| WL.p (.pkT rfl g63 rfl) rfl <| WL.p (.pkF rfl g62 rfl) rfl <| WL.m rfl rfl <| WL.gd rfl rfl rfl (fun g64 => ?_) (fun g64 => ?_)
 have g64' := (nF g64)
 refine WL.p (.fa underlying28 rfl sizeOf3 dD rfl) rfl <| WL.gy rfl rfl rfl (by rw [(nF g64)] <;> rfl) <| WL.r (Rd.ld (isAgg3 _) rfl hkb1 rfl) rfl <| WL.gy rfl rfl rfl (by rw [(nF g64)] <;> rfl) <| WL.p (.bis (b91) (.eql rfl rfl) (by exact hb91.symm)) rfl <| WL.gy rfl rfl rfl (by rw [(nF g64)] <;> rfl) <| WL.m rfl rfl <| WL.gd rfl rfl rfl (fun g65 => ?_) (fun g65 => ?_)
 refine WL.m rfl rfl <| WL.gy rfl rfl rfl g65 <| WL.p (.not rfl) rfl <| WL.gy rfl rfl rfl g65 <| WL.m rfl rfl <| WL.gd rfl rfl rfl (fun g66 => ?_) (fun g66 => ?_)
 refine WL.p (.fa underlying28 rfl sizeOf26 dD rfl) rfl <| WL.gy rfl rfl rfl (by rw [(nF g66)] <;> rfl) <| WL.r (Rd.ld (isAgg26 _) rfl hkb1 rfl) rfl <| WL.gy rfl rfl rfl (by rw [(nF g66)] <;> rfl) <| WL.p (.lenS underlying26 rfl) rfl <| WL.gy rfl rfl rfl (by rw [(nF g66)] <;> rfl) <| WL.p (.bis (bg) (.gtr rfl rfl) (by exact hbg.symm)) rfl <| WL.gy rfl rfl rfl g65 <| WL.p (.pkF rfl (by rw [(nF g66)] <;> rfl) rfl) rfl <| WL.gy rfl rfl rfl (by rw [(nF g64)] <;> rfl) <| WL.p (.pkT rfl g65 rfl) rfl <| WL.p (.pkF rfl (by rw [(nF g64)] <;> rfl) rfl) rfl <| WL.nil <| ?_
 exact ⟨leE (lk_b rfl (by clear hbD hb7 hb8 hb9 hb10 hb11 hbm hb71 hb91 hbg; subst_vars; first | rfl | (cases st <;> first | rfl | contradiction))), rfl⟩
 refine WL.gn rfl rfl rfl (by rw [(nT g66)] <;> rfl) <| WL.gn rfl rfl rfl (by rw [(nT g66)] <;> rfl) <| WL.gn rfl rfl rfl (by rw [(nT g66)] <;> rfl) <| WL.gy rfl rfl rfl g65 <| WL.p (.pkT rfl (by rw [(nT g66)] <;> rfl) rfl) rfl <| WL.gy rfl rfl rfl (by rw [(nF g64)] <;> rfl) <| WL.p (.pkT rfl g65 rfl) rfl <| WL.p (.pkF rfl (by rw [(nF g64)] <;> rfl) rfl) rfl <| WL.nil <| ?_
 exact ⟨leE (lk_b rfl (by clear hbD hb7 hb8 hb9 hb10 hb11 hbm hb71 hb91 hbg; subst_vars; first | rfl | (cases st <;> first | rfl | contradiction))), rfl⟩
 refine WL.gn rfl rfl rfl g65 <| WL.gn rfl rfl rfl g65 <| WL.gu rfl rfl rfl <| WL.gu rfl rfl rfl <| WL.gu rfl rfl rfl <| WL.gu rfl rfl rfl <| WL.gn rfl rfl rfl g65 <| WL.gy rfl rfl rfl (by rw [(nF g64)] <;> rfl) <| WL.p (.pkF rfl g65 rfl) rfl <| WL.p (.pkF rfl (by rw [(nF g64)] <;> rfl) rfl) rfl <| WL.nil <| ?_
 exact ⟨leE (lk_b rfl (by clear hbD hb7 hb8 hb9 hb10 hb11 hbm hb71 hb91 hbg; subst_vars; first | rfl | (cases st <;> first | rfl | contradiction))), rfl⟩
 have g64' := (nT g64)
 refine WL.gn rfl rfl rfl (by rw [(nT g64)] <;> rfl) <| WL.gn rfl rfl rfl (by rw [(nT g64)] <;> rfl) <| WL.gn rfl rfl rfl (by rw [(nT g64)] <;> rfl) <| WL.gu rfl rfl rfl <| WL.gu rfl rfl rfl <| WL.gu rfl rfl rfl <| WL.gu rfl rfl rfl <| WL.gu rfl rfl rfl <| WL.gu rfl rfl rfl <| WL.gu rfl rfl rfl <| WL.gu rfl rfl rfl <| WL.gn rfl rfl rfl (by rw [(nT g64)] <;> rfl) <| WL.p (.pkT rfl (by rw [(nT g64)] <;> rfl) rfl) rfl <| WL.nil <| ?_
 exact ⟨leE (lk_b rfl (by clear hbD hb7 hb8 hb9 hb10 hb11 hbm hb71 hb91 hbg; subst_vars; first | rfl | (cases st <;> first | rfl | contradiction))), rfl⟩
 refine WL.gn rfl rfl rfl g63 <| WL.gy rfl rfl rfl g62 <| WL.p (.pkF rfl g63 rfl) rfl <| WL.p (.pkF rfl g62 rfl) rfl <| WL.m rfl rfl <| WL.gy rfl rfl rfl rfl <| WL.p (.fa underlying28 rfl sizeOf3 dD rfl) rfl <| WL.gy rfl rfl rfl rfl <| WL.r (Rd.ld (isAgg3 _) rfl hkb1 rfl) rfl <| WL.gy rfl rfl rfl rfl <| WL.p (.bis (b91) (.eql rfl rfl) (by exact hb91.symm)) rfl <| WL.gy rfl rfl rfl rfl <| WL.m rfl rfl <| WL.gd rfl rfl rfl (fun g67 => ?_) (fun g67 => ?_)
 refine WL.m rfl rfl <| WL.gy rfl rfl rfl g67 <| WL.p (.not rfl) rfl <| WL.gy rfl rfl rfl g67 <| WL.m rfl rfl <| WL.gd rfl rfl rfl (fun g68 => ?_) (fun g68 => ?_)
 refine WL.p (.fa underlying28 rfl sizeOf26 dD rfl) rfl <| WL.gy rfl rfl rfl (by rw [(nF g68)] <;> rfl) <| WL.r (Rd.ld (isAgg26 _) rfl hkb1 rfl) rfl <| WL.gy rfl rfl rfl (by rw [(nF g68)] <;> rfl) <| WL.p (.lenS underlying26 rfl) rfl <| WL.gy rfl rfl rfl (by rw [(nF g68)] <;> rfl) <| WL.p (.bis (bg) (.gtr rfl rfl) (by exact hbg.symm)) rfl <| WL.gy rfl rfl rfl g67 <| WL.p (.pkF rfl (by rw [(nF g68)] <;> rfl) rfl) rfl <| WL.gy rfl rfl rfl rfl <| WL.p (.pkT rfl g67 rfl) rfl <| WL.p (.pkF rfl rfl rfl) rfl <| WL.nil <| ?_
 exact ⟨leE (lk_b rfl (by clear hbD hb7 hb8 hb9 hb10 hb11 hbm hb71 hb91 hbg; subst_vars; first | rfl | (cases st <;> first | rfl | contradiction))), rfl⟩
 refine WL.gn rfl rfl rfl (by rw [(nT g68)] <;> rfl) <| WL.gn rfl rfl rfl (by rw [(nT g68)] <;> rfl) <| WL.gn rfl rfl rfl (by rw [(nT g68)] <;> rfl) <| WL.gy rfl rfl rfl g67 <| WL.p (.pkT rfl (by rw [(nT g68)] <;> rfl) rfl) rfl <| WL.gy rfl rfl rfl rfl <| WL.p (.pkT rfl g67 rfl) rfl <| WL.p (.pkF rfl rfl rfl) rfl <| WL.nil <| ?_
 exact ⟨leE (lk_b rfl (by clear hbD hb7 hb8 hb9 hb10 hb11 hbm hb71 hb91 hbg; subst_vars; first | rfl | (cases st <;> first | rfl | contradiction))), rfl⟩
 refine WL.gn rfl rfl rfl g67 <| WL.gn rfl rfl rfl g67 <| WL.gu rfl rfl rfl <| WL.gu rfl rfl rfl <| WL.gu rfl rfl rfl <| WL.gu rfl rfl rfl <| WL.gn rfl rfl rfl g67 <| WL.gy rfl rfl rfl rfl <| WL.p (.pkF rfl g67 rfl) rfl <| WL.p (.pkF rfl rfl rfl) rfl <| WL.nil <| ?_
 exact ⟨leE (lk_b rfl (by clear hbD hb7 hb8 hb9 hb10 hb11 hbm hb71 hb91 hbg; subst_vars; first | rfl | (cases st <;> first | rfl | contradiction))), rfl⟩
 refine WL.gn rfl rfl rfl g62 <| WL.gn rfl rfl rfl g62 <| WL.gn rfl rfl rfl g62 <| WL.gu rfl rfl rfl <| WL.gu rfl rfl rfl <| WL.gn rfl rfl rfl g62 <| WL.p (.pkT rfl g62 rfl) rfl <| WL.m rfl rfl <| WL.gn rfl rfl rfl rfl <| WL.gn rfl rfl rfl rfl <| WL.gn rfl rfl rfl rfl <| WL.gn rfl rfl rfl rfl <| WL.gu rfl rfl rfl <| WL.gu rfl rfl rfl <| WL.gu rfl rfl rfl <| WL.gu rfl rfl rfl <| WL.gu rfl rfl rfl <| WL.gu rfl rfl rfl <| WL.gu rfl rfl rfl <| WL.gu rfl rfl rfl <| WL.gn rfl rfl rfl rfl <| WL.p (.pkT rfl rfl rfl) rfl <| WL.nil <| ?_
 exact ⟨leE (lk_b rfl (by clear hbD hb7 hb8 hb9 hb10 hb11 hbm hb71 hb91 hbg; subst_vars; first | rfl | (cases st <;> first | rfl | contradiction))), rfl⟩
 have g61' := (nT g61)
 refine WL.gn rfl rfl rfl (by rw [(nT g61)] <;> rfl) <| WL.gn rfl rfl rfl (by rw [(nT g61)] <;> rfl) <| WL.gn rfl rfl rfl (by rw [(nT g61)] <;> rfl) <| WL.gn rfl rfl rfl (by rw [(nT g61)] <;> rfl) <| WL.gn rfl rfl rfl (by rw [(nT g61)] <;> rfl) <| WL.gn rfl rfl rfl (by rw [(nT g61)] <;> rfl) <| WL.p (.pkT rfl (by rw [(nT g61)] <;> rfl) rfl) rfl <| WL.m rfl rfl <| WL.gn rfl rfl rfl rfl <| WL.gn rfl rfl rfl rfl <| WL.gn rfl rfl rfl rfl <| WL.gn rfl rfl rfl rfl <| WL.gu rfl rfl rfl <| WL.gu rfl rfl rfl <| WL.gn rfl rfl rfl rfl <| WL.p (.pkT rfl rfl rfl) rfl <| WL.m rfl rfl <| WL.gn rfl rfl rfl rfl <| WL.gn rfl rfl rfl rfl <| WL.gn rfl rfl rfl rfl <| WL.gn rfl rfl rfl rfl <| WL.gu rfl rfl rfl <| WL.gu rfl rfl rfl <| WL.gu rfl rfl rfl <| WL.gu rfl rfl rfl <| WL.gu rfl rfl rfl <| WL.gu rfl rfl rfl <| WL.gu rfl rfl rfl <| WL.gu rfl rfl rfl <| WL.gn rfl rfl rfl rfl <| WL.p (.pkT rfl rfl rfl) rfl <| WL.nil <| ?_
 exact ⟨leE (lk_b rfl (by clear hbD hb7 hb8 hb9 hb10 hb11 hbm hb71 hb91 hbg; subst_vars; first | rfl | (cases st <;> first | rfl | contradiction))), rfl⟩
 have g60' := (nT g60)
 refine WL.gn rfl rfl rfl (by rw [(nT g60)] <;> rfl) <| WL.p (.pkT rfl (by rw [(nT g60)] <;> rfl) rfl) rfl <| WL.m rfl rfl <| WL.gn rfl rfl rfl rfl <| WL.gn rfl rfl rfl rfl <| WL.gn rfl rfl rfl rfl <| WL.gn rfl rfl rfl rfl <| WL.gn rfl rfl rfl rfl <| WL.gn rfl rfl rfl rfl <| WL.gn rfl rfl rfl rfl <| WL.p (.pkT rfl rfl rfl) rfl <| WL.m rfl rfl <| WL.gn rfl rfl rfl rfl <| WL.gn rfl rfl rfl rfl <| WL.gn rfl rfl rfl rfl <| WL.gn rfl rfl rfl rfl <| WL.gu rfl rfl rfl <| WL.gu rfl rfl rfl <| WL.gn rfl rfl rfl rfl <| WL.p (.pkT rfl rfl rfl) rfl <| WL.m rfl rfl <| WL.gn rfl rfl rfl rfl <| WL.gn rfl rfl rfl rfl <| WL.gn rfl rfl rfl rfl <| WL.gn rfl rfl rfl rfl <| WL.gu rfl rfl rfl <| WL.gu rfl rfl rfl <| WL.gu rfl rfl rfl <| WL.gu rfl rfl rfl <| WL.gu rfl rfl rfl <| WL.gu rfl rfl rfl <| WL.gu rfl rfl rfl <| WL.gu rfl rfl rfl <| WL.gn rfl rfl rfl rfl <| WL.p (.pkT rfl rfl rfl) rfl <| WL.nil <| ?_
 exact ⟨leE (lk_b rfl (by clear hbD hb7 hb8 hb9 hb10 hb11 hbm hb71 hb91 hbg; subst_vars; first | rfl | (cases st <;> first | rfl | contradiction))), rfl⟩
 refine WL.gn rfl rfl rfl g59 <| WL.p (.pkT rfl g59 rfl) rfl <| WL.m rfl rfl <| WL.gn rfl rfl rfl rfl <| WL.gn rfl rfl rfl rfl <| WL.p (.pkT rfl rfl rfl) rfl <| WL.m rfl rfl <| WL.gn rfl rfl rfl rfl <| WL.gn rfl rfl rfl rfl <| WL.gn rfl rfl rfl rfl <| WL.gn rfl rfl rfl rfl <| WL.gn rfl rfl rfl rfl <| WL.gn rfl rfl rfl rfl <| WL.gn rfl rfl rfl rfl <| WL.p (.pkT rfl rfl rfl) rfl <| WL.m rfl rfl <| WL.gn rfl rfl rfl rfl <| WL.gn rfl rfl rfl rfl <| WL.gn rfl rfl rfl rfl <| WL.gn rfl rfl rfl rfl <| WL.gu rfl rfl rfl <| WL.gu rfl rfl rfl <| WL.gn rfl rfl rfl rfl <| WL.p (.pkT rfl rfl rfl) rfl <| WL.m rfl rfl <| WL.gn rfl rfl rfl rfl <| WL.gn rfl rfl rfl rfl <| WL.gn rfl rfl rfl rfl <| WL.gn rfl rfl rfl rfl <| WL.gu rfl rfl rfl <| WL.gu rfl rfl rfl <| WL.gu rfl rfl rfl <| WL.gu rfl rfl rfl <| WL.gu rfl rfl rfl <| WL.gu rfl rfl rfl <| WL.gu rfl rfl rfl <| WL.gu rfl rfl rfl <| WL.gn rfl rfl rfl rfl <| WL.p (.pkT rfl rfl rfl) rfl <| WL.nil <| ?_
 exact ⟨leE (lk_b rfl (by clear hbD hb7 hb8 hb9 hb10 hb11 hbm hb71 hb91 hbg; subst_vars; first | rfl | (cases st <;> first | rfl | contradiction))), rfl⟩
 refine W.cond rfl (fun h69 => ?_) (fun h69 => ?_)
 refine W.sr <| WL.z rfl rfl ?_
 refine W.ret (W.ret1 rfl rfl ?_)
 exact ⟨⟨false, fun h => by cases h⟩, rfl, hB7⟩
 have hk79 : k = 7 ∨ k = 9 := by
  have h0 : (b71 || b91) = true := by assumption
  rw [hb71, hb91] at h0
  simpa using h0
 obtain ⟨q1, q2, q3, q4, q5, q6⟩ : 1 ≤ D ∧ i = 0 ∧ s = [] ∧ (keys.length : Int) = (cs.length : Int) ∧ (k = 7 → data = []) ∧ (k = 9 → st = true ∧ data.length ≤ 1048576) := by
  have h0 : (bD || !b7 || !b8 || bm || (b71 && !b11) || (b91 && (!st || bg))) = false := by assumption
  rw [hbD, hb7, hb8, hbm, hb71, hb11, hb91, hbg] at h0
  simp only [Bool.or_eq_false_iff, Bool.and_eq_false_iff, Bool.not_eq_false', decide_eq_true_eq, decide_eq_false_iff_not] at h0
  obtain ⟨⟨⟨⟨⟨h1, h2⟩, h3⟩, h4⟩, h5⟩, h6⟩ := h0
  exact ⟨by omega, h2, h3, h4, fun hk => lenz (h5.resolve_left (fun h => h hk)), fun hk => by have := h6.resolve_left (fun h => h hk); exact ⟨this.1, by omega⟩⟩
 have keysAll : ∀ j, keys.length ≤ j → KeysB k keys j → (∀ x ∈ keys, nmOk x) ∧ keys.Nodup := fun j hj hb => by rw [← List.take_of_length_le hj]; exact ⟨hb.1, hb.2.1⟩
 have hkk : ∀ j, keys.length ≤ j → KeysB k keys j → (k = 7 ∧ data = []) ∨ (k = 9 ∧ st = true ∧ data.length ≤ 1048576 ∧ [76, 101, 110, 103, 116, 104] ∉ keys) := fun j hj hb => by
  rcases hk79 with h7 | h9
  exact .inl ⟨h7, q5 h7⟩
  exact .inr ⟨h9, (q6 h9).1, (q6 h9).2, by rw [← List.take_of_length_le hj]; exact hb.2.2 h9⟩
 refine W.skip <| W.sr <| WL.z rfl rfl ?_
 refine W.block ?_
 refine W.loop (α := Nat) (fun t => [(1, .int .i64 D), (2, .bool st), (3, .pointer (some ⟨b1, 0, none⟩)), (12, .int .i64 (t : Int))]) (fun t w' => Below w.heap.size w w' ∧ Blk w' b1 #[.int .i64 k, .int .i64 i, .string (bs s), .slice kp keys.length kc, .slice lp cs.length lc, .slice dp data.length dc] 28 ∧ RowAt strV w' kp keys ∧ RowM acL w' lp cs ∧ AInv w' S cs list ∧ KeysB k keys t ∧ t ≤ keys.length) (fun t => keys.length - t) (0) ⟨rfl, rfl, rfl, rfl, trivial⟩ (⟨hB7, hkb1, hv3, hv5, hF2, ⟨by simp, by simp, by simp⟩, Nat.zero_le _⟩) (fun t w1 hR => ?_)
 obtain ⟨i1, rfl⟩ : ∃ i, i = t := ⟨t, rfl⟩
 obtain ⟨hT1, hk1, hkx1, hlx1, hf1, hkb, ht⟩ := hR
 refine W.seq <| W.sr <| WL.m rfl rfl <| WL.p (.fa underlying28 rfl sizeOf25 dD rfl) rfl <| WL.r (Rd.ld (isAgg25 _) rfl hk1 rfl) rfl <| WL.p (.lenS underlying25 rfl) rfl <| WL.p (.lss rfl rfl) rfl <| WL.nil <| ?_
 refine W.cond rfl (fun h70 => ?_) (fun h70 => ?_)
 have h70' := dT h70
 refine W.skip <| W.seq <| W.block <| W.seq ?_
 obtain ⟨bL, hbL⟩ : ∃ b, b = decide (keys[i1]'oO = [76, 101, 110, 103, 116, 104]) := ⟨_, rfl⟩
 refine W.cutB 239 ((!nmB (keys[i1]'oO) || (b91 && bL))) ?_ ?_
 refine W.reg <| WL.p (.fa underlying28 rfl sizeOf25 dD rfl) rfl <| WL.r (Rd.ld (isAgg25 _) rfl hk1 rfl) rfl <| WL.m rfl rfl <| WL.p (.ixb underlying25 sizeOf9 rfl rfl (hkx1.isp oO) (i1) (rfl) oO) rfl <| WL.r (Rd.ldc (isAgg9 _) rfl (hkx1.cells (i1) oO)) rfl <| WL.c1 hb61 rfl rfl ((r18_nameB _ _ (hklen _ _))) (fun w71 hw71 => ?_)
 obtain rfl := hw71
 refine WL.p (.not rfl) rfl <| WL.m rfl rfl <| WL.gd rfl rfl rfl (fun g72 => ?_) (fun g72 => ?_)
 have g72' := (nF g72)
 refine WL.p (.fa underlying28 rfl sizeOf3 dD rfl) rfl <| WL.gy rfl rfl rfl (by rw [(nF g72)] <;> rfl) <| WL.r (Rd.ld (isAgg3 _) rfl hk1 rfl) rfl <| WL.gy rfl rfl rfl (by rw [(nF g72)] <;> rfl) <| WL.p (.bis (b91) (.eql rfl rfl) (by exact hb91.symm)) rfl <| WL.gy rfl rfl rfl (by rw [(nF g72)] <;> rfl) <| WL.m rfl rfl <| WL.gd rfl rfl rfl (fun g73 => ?_) (fun g73 => ?_)
 refine WL.p (.fa underlying28 rfl sizeOf25 dD rfl) rfl <| WL.gy rfl rfl rfl g73 <| WL.r (Rd.ld (isAgg25 _) rfl hk1 rfl) rfl <| WL.gy rfl rfl rfl g73 <| WL.m rfl rfl <| WL.gy rfl rfl rfl g73 <| WL.p (.ixb underlying25 sizeOf9 rfl rfl (hkx1.isp oO) (i1) (rfl) oO) rfl <| WL.gy rfl rfl rfl g73 <| WL.r (Rd.ldc (isAgg9 _) rfl (hkx1.cells (i1) oO)) rfl <| WL.gy rfl rfl rfl g73 <| WL.p (.bis (bL) (.eqs rfl rfl) (by exact hbL.symm)) rfl <| WL.gy rfl rfl rfl (by rw [(nF g72)] <;> rfl) <| WL.p (.pkT rfl g73 rfl) rfl <| WL.p (.pkF rfl (by rw [(nF g72)] <;> rfl) rfl) rfl <| WL.nil <| ?_
 exact ⟨leE (lk_b rfl (by first | (rw [show nmB (keys[i1]'oO) = false by assumption]; rfl) | (rw [show nmB (keys[i1]'oO) = true by assumption]; clear hb91 hbL; subst_vars; rfl))), rfl⟩
 refine WL.gn rfl rfl rfl g73 <| WL.gn rfl rfl rfl g73 <| WL.gn rfl rfl rfl g73 <| WL.gn rfl rfl rfl g73 <| WL.gn rfl rfl rfl g73 <| WL.gy rfl rfl rfl (by rw [(nF g72)] <;> rfl) <| WL.p (.pkF rfl g73 rfl) rfl <| WL.p (.pkF rfl (by rw [(nF g72)] <;> rfl) rfl) rfl <| WL.nil <| ?_
 exact ⟨leE (lk_b rfl (by first | (rw [show nmB (keys[i1]'oO) = false by assumption]; rfl) | (rw [show nmB (keys[i1]'oO) = true by assumption]; clear hb91 hbL; subst_vars; rfl))), rfl⟩
 have g72' := (nT g72)
 refine WL.gn rfl rfl rfl (by rw [(nT g72)] <;> rfl) <| WL.gn rfl rfl rfl (by rw [(nT g72)] <;> rfl) <| WL.gn rfl rfl rfl (by rw [(nT g72)] <;> rfl) <| WL.gu rfl rfl rfl <| WL.gu rfl rfl rfl <| WL.gu rfl rfl rfl <| WL.gu rfl rfl rfl <| WL.gu rfl rfl rfl <| WL.gu rfl rfl rfl <| WL.gn rfl rfl rfl (by rw [(nT g72)] <;> rfl) <| WL.p (.pkT rfl (by rw [(nT g72)] <;> rfl) rfl) rfl <| WL.nil <| ?_
 exact ⟨leE (lk_b rfl (by first | (rw [show nmB (keys[i1]'oO) = false by assumption]; rfl) | (rw [show nmB (keys[i1]'oO) = true by assumption]; clear hb91 hbL; subst_vars; rfl))), rfl⟩
 refine W.cond rfl (fun h74 => ?_) (fun h74 => ?_)
 refine W.sr <| WL.z rfl rfl ?_
 refine W.ret (W.ret1 rfl rfl ?_)
 exact ⟨⟨false, fun h => by cases h⟩, rfl, hT1⟩
 have hq : (!nmB (keys[i1]'oO) || (b91 && bL)) = false := by assumption
 have hqn : nmB (keys[i1]'oO) = true := by cases hx : nmB (keys[i1]'oO) <;> rw [hx] at hq <;> first | rfl | cases hq
 have hqL : k = 9 → keys[i1]'oO ≠ [76, 101, 110, 103, 116, 104] := fun hk e => by
  rw [hqn, hb91, hbL, decide_eq_true hk, decide_eq_true e] at hq; cases hq
 refine W.skip <| W.sr <| WL.z rfl rfl ?_
 refine W.block ?_
 refine W.loop (α := Nat) (fun t => [(1, .int .i64 D), (2, .bool st), (3, .pointer (some ⟨b1, 0, none⟩)), (12, .int .i64 (i1 : Int)), (13, .int .i64 (t : Int))]) (fun t w' => Below w.heap.size w w' ∧ Blk w' b1 #[.int .i64 k, .int .i64 i, .string (bs s), .slice kp keys.length kc, .slice lp cs.length lc, .slice dp data.length dc] 28 ∧ RowAt strV w' kp keys ∧ RowM acL w' lp cs ∧ AInv w' S cs list ∧ keys[i1]'oO ∉ keys.take t ∧ t ≤ i1) (fun t => i1 - t) (0) ⟨rfl, rfl, rfl, rfl, rfl, trivial⟩ (⟨hT1, hk1, hkx1, hlx1, hf1, by simp, Nat.zero_le _⟩) (fun t w1 hR => ?_)
 obtain ⟨j1, rfl⟩ : ∃ i, i = t := ⟨t, rfl⟩
 obtain ⟨hT2, hk2, hkx2, hlx2, hf2, hno, ht2⟩ := hR
 refine W.seq <| W.sr <| WL.m rfl rfl <| WL.m rfl rfl <| WL.p (.lss rfl rfl) rfl <| WL.nil <| ?_
 refine W.cond rfl (fun h75 => ?_) (fun h75 => ?_)
 have h75' := dT h75
 refine W.skip <| W.seq <| W.block <| W.seq <| W.regQ mixed kR ?_
 refine WQ.p (.fa underlying28 rfl sizeOf25 dD rfl) rfl <| WQ.r (fun m => Rd.ld (isAgg25 _) rfl hk2 rfl) rfl <| WQ.p (.mv rfl) rfl <| WQ.p (.ixb underlying25 sizeOf9 rfl rfl (hkx2.isp oO) (j1) (rfl) oO) rfl <| WQ.r (fun m => Rd.ldc (isAgg9 _) rfl ((hkx2.drewN m).cells (j1) oO)) rfl <| WQ.p (.fa underlying28 rfl sizeOf25 dD rfl) rfl <| WQ.r (fun m => Rd.ld (isAgg25 _) rfl hk2 rfl) rfl <| WQ.p (.mv rfl) rfl <| WQ.p (.ixb underlying25 sizeOf9 rfl rfl (hkx2.isp oO) (i1) (rfl) oO) rfl <| WQ.r (fun m => Rd.ldc (isAgg9 _) rfl ((hkx2.drewN m).cells (i1) oO)) rfl <| WQ.p (.eqs rfl rfl) rfl <| WQ.nil (fun w76 dw76 => ?_)
 have hF77 := AInv.same (w1 := w76) hf2 (fun k hk hl => (by obtain ⟨m, rfl⟩ := dw76; rfl))
 have hk78 := hk2.drew dw76
 have hv79 := hkx2.drew dw76
 have hv80 := hlx2.drew dw76
 have hB81 := Drew.below hT2 dw76
 refine W.cond rfl (fun h82 => ?_) (fun h82 => ?_)
 have h82' := dT h82
 refine W.sr <| WL.z rfl rfl ?_
 refine W.ret (W.ret1 rfl rfl ?_)
 exact ⟨⟨false, fun h => by cases h⟩, rfl, hB81⟩
 have h82' := dF h82
 refine W.skip <| W.reg <| WL.m rfl rfl <| WL.p (.iis (((j1 + 1 : Nat) : Int)) (.add rfl rfl (i64w oO)) oO) rfl <| WL.z rfl rfl ?_
 exact ⟨j1 + 1, ⟨rfl, rfl, rfl, rfl, rfl, trivial⟩, ⟨hB81, hk78, hv79, hv80, hF77, str_mem oO hno aS, by ((try simp only) <;> omega)⟩, by ((try simp only) <;> omega)⟩
 have h75' := dF h75
 refine W.exit <| W.reg <| WL.m rfl rfl <| WL.p (.iis (((i1 + 1 : Nat) : Int)) (.add rfl rfl (i64w oO)) oO) rfl <| WL.z rfl rfl ?_
 exact ⟨i1 + 1, ⟨rfl, rfl, rfl, rfl, trivial⟩, ⟨hT2, hk2, hkx2, hlx2, hf2, hkb.step oO (nmB_ok hqn) (by (have e : j1 = i1 := by omega); (rw [e] at hno); exact hno) hqL, by ((try simp only) <;> omega)⟩, by ((try simp only) <;> omega)⟩
 have h70' := dF h70
 refine W.exit ?_
 exact ⟨(), ⟨rfl, rfl, trivial⟩, hT1, hk1, hlx1, hf1, .inr ⟨hkk i1 oO hkb, q1, q2, q3, by omega, (keysAll i1 oO hkb).1, (keysAll i1 oO hkb).2⟩⟩
 refine W.sr <| WL.z rfl rfl ?_
 refine W.ret (W.ret1 rfl rfl ?_)
 exact ⟨⟨false, fun h => by cases h⟩, rfl, hB7⟩
 obtain ⟨hj1, hj2, hj3, hj4, hpre⟩ := hR
 refine W.seq <| W.sr <| WL.p (.fa underlying28 rfl sizeOf22 dD rfl) rfl <| WL.r (Rd.ld (isAgg22 _) rfl hj2 rfl) rfl <| WL.p (.lenS underlying22 rfl) rfl <| WL.p (.gtr rfl rfl) rfl <| WL.nil <| ?_
 refine W.cond rfl (fun h83 => ?_) (fun h83 => ?_)
 have h83' := dT h83
 refine W.sr <| WL.z rfl rfl ?_
 refine W.ret (W.ret1 rfl rfl ?_)
 exact ⟨⟨false, fun h => by cases h⟩, rfl, hj1⟩
 have h83' := dF h83
 refine W.skip <| W.seq <| W.sr <| WL.z rfl rfl ?_
 refine W.block ?_
 refine W.loop (α := Nat) (fun t => [(1, .int .i64 D), (3, .pointer (some ⟨b1, 0, none⟩)), (14, .int .i64 (t : Int))]) (fun t w' => Below w.heap.size w w' ∧ Blk w' b1 #[.int .i64 k, .int .i64 i, .string (bs s), .slice kp keys.length kc, .slice lp cs.length lc, .slice dp data.length dc] 28 ∧ RowM acL w' lp cs ∧ AInv w' S cs list ∧ (∀ o ∈ list.take t, Snd (D - 1) false o) ∧ t ≤ cs.length) (fun t => cs.length - t) (0) ⟨rfl, rfl, rfl, trivial⟩ (⟨hj1, hj2, hj3, hj4, by simp, Nat.zero_le _⟩) (fun t w1 hR => ?_)
 obtain ⟨i3, rfl⟩ : ∃ i, i = t := ⟨t, rfl⟩
 obtain ⟨hT3, hk3, hlx3, hf3, hall, ht3⟩ := hR
 have hD1 := hpre.one
 refine W.seq <| W.sr <| WL.m rfl rfl <| WL.p (.fa underlying28 rfl sizeOf22 dD rfl) rfl <| WL.r (Rd.ld (isAgg22 _) rfl hk3 rfl) rfl <| WL.p (.lenS underlying22 rfl) rfl <| WL.p (.lss rfl rfl) rfl <| WL.nil <| ?_
 refine W.cond rfl (fun h84 => ?_) (fun h84 => ?_)
 have h84' := dT h84
 refine W.skip <| W.seq <| W.block <| W.sr <| WL.p (.fa underlying28 rfl sizeOf22 dD rfl) rfl <| WL.r (Rd.ld (isAgg22 _) rfl hk3 rfl) rfl <| WL.m rfl rfl <| WL.p (.ixm underlying22 sizeOf28 rfl rfl (hlx3.isp (by first | omega | (simp only [List.length_cons, List.length_nil]; omega))) (i3) (rfl) oO) rfl <| WL.r (Rd.ldS underlying28 rfl isz28 hlx3 (i3) (by first | omega | (simp only [List.length_cons, List.length_nil]; omega)) rfl) rfl <| WL.m rfl rfl <| WL.p (.sub rfl rfl (i64w oO)) rfl <| WL.call hb40 rfl rfl ((ih (list[i3]'oO) (hsz i3 oO) _ S (D - 1) false _ ((hf3).sub i3 oO oO) oO oO)) (fun sb w85 hw85 => ?_)
 have hF86 := AInv.same (w1 := w85) hf3 (fun k hk hl => hw85.block k hl)
 have hk87 := hk3.below hw85 hk3.lt
 have hv88 := RowM.below hlx3 hw85 (fun h0 => hlx3.lt h0)
 have hB89 := btr hT3 hw85
 refine WL.p (.not rfl) rfl <| WL.nil <| ?_
 refine W.cond rfl (fun h90 => ?_) (fun h90 => ?_)
 have h90' := (nT h90)
 refine W.sr <| WL.z rfl rfl ?_
 refine W.ret (W.ret1 rfl rfl ?_)
 exact ⟨⟨false, fun h => by cases h⟩, rfl, hB89⟩
 have h90' := (nF h90)
 refine W.skip <| W.reg <| WL.m rfl rfl <| WL.p (.iis (((i3 + 1 : Nat) : Int)) (.add rfl rfl (i64w oO)) oO) rfl <| WL.z rfl rfl ?_
 exact ⟨i3 + 1, ⟨rfl, rfl, rfl, trivial⟩, ⟨hB89, hk87, hv88, hF86, fun o ho => by
  rw [List.take_add_one, List.getElem?_eq_getElem oO, Option.toList_some, List.mem_append, List.mem_singleton] at ho
  exact ho.elim (hall o) (fun e => by rw [e]; exact sb.2 (by cases hq : sb.1 <;> simp_all)), by ((try simp only) <;> omega)⟩, by ((try simp only) <;> omega)⟩
 have h84' := dF h84
 refine W.exit <| W.sr <| WL.z rfl rfl ?_
 refine W.ret (W.ret1 rfl rfl ?_)
 exact ⟨⟨true, fun _ => hpre.snd oO (fun o ho => hall o (by rw [List.take_of_length_le oO]; exact ho))⟩, rfl, hT3⟩
end
section
theorem r18_SoundA (y : AC) (o : AV) (S : Nat → Prop) (w : World) (h : ARep w S y o) :
  Calls Tryz.prog 16 #[.agg (acV y).toArray] w fun e w' => ∃ b : { b : Bool // b = true → Snd 32 true o }, e = .returned (.bool b.1) ∧ Below w.heap.size w w' := by
 refine W.enter func16 rfl ntmps16 (Nat.le_of_ble_eq_true rfl) ?_
 have hB0 := Below.refl (w.heap.size) w
 refine W.sr <| WL.box rfl rfl (fun b1 wb1 eb1 hkb1 hub1 hsb1 => ?_)
 have hF2 := ARep.same (w1 := wb1) h (fun k hk hl => hub1.other k oO)
 have hB3 := Upd.below hB0 (by rw [eb1]; exact hB0.size) hub1
 have hgeb1 : w.heap.size ≤ b1 := by rw [eb1]; exact hB0.size
 refine WL.z rfl rfl ?_
 refine W.sr <| WL.r (Rd.ldA rfl hkb1 underlying28 rfl isz28) rfl <| WL.call hb40 rfl rfl ((r18_soundA _ o (Nat.lt_succ_self _) y S 32 true _ hF2 dD dD)) (fun sb w4 hw4 => ?_)
 have hB7 := btr hB3 hw4
 refine WL.z rfl rfl ?_
 refine W.ret (W.ret1 rfl rfl ?_)
 exact ⟨sb, rfl, hB7⟩
theorem ARep.kind {w : World} {S : Nat → Prop} {x : AC} {o : AV} (h : ARep w S x o) : o.kind = x.kind := by
 cases h; rfl
theorem PRep.head {w : World} {S : Nat → Prop} {x : PC} {k n : Int} (h : PRep w S x (pv0 k n [])) : x.kind = k ∧ x.n = n := by
 obtain ⟨o, ho⟩ : ∃ o, o = pv0 k n [] := ⟨_, rfl⟩
 rw [← ho] at h
 cases h with
 | mk _ keys list cs => injection ho with h1 h2; exact ⟨h1, h2⟩
end
section
/-- objects of which there is a file -/
structure Objs (os : List AV) : Prop where
 snd : ∀ o ∈ os, Snd 32 true o
 sml : ∀ o ∈ os, o.list.length ≤ 100
 len : os.length ≤ 4096
 size : (fileF (os.map prO)).length ≤ 1048576
def fileO (os : List AV) : List UInt8 := fileF (os.map prO)
def placeO (os : List AV) : List Nat := placeF 9 0 (os.map prO)
theorem placeO_len (os : List AV) : (placeO os).length = os.length := by unfold placeO; rw [placeF_len, List.length_map]
theorem file_obj (os : List AV) (j : Nat) (hj : j < os.length) : ∃ R, objR j (prO os[j]) R <:+ fileO os ∧ (placeO os)[j]'(by rw [placeO_len]; exact hj) = sx (fileO os) (objR j (prO os[j]) R) := by
 obtain ⟨X, hX⟩ : ∃ X, fileO os = f_head ++ (bodyF 0 (os.map prO) ++ X) := ⟨_, rfl⟩
 obtain ⟨hp, R, h1, h2⟩ := place_drop (os.map prO) f_head X 0 j (by rw [List.length_map]; exact hj)
 rw [List.getElem_map, Nat.zero_add] at h1
 rw [← hX] at h1
 have e : objF j (prO os[j]) ++ R = objR j (prO os[j]) R := by
  unfold objF objR f_obj f_endobj f_eo
  simp only [List.append_assoc, List.cons_append, List.nil_append]
 rw [e] at h1
 have hle : (placeO os)[j]'(by rw [placeO_len]; exact hj) ≤ (fileO os).length := by
  rw [hX]; simp only [List.length_append] at h2 ⊢
  have h3 : (placeO os)[j]'(by rw [placeO_len]; exact hj) = (placeF f_head.length 0 (os.map prO))[j] := rfl
  omega
 refine ⟨R, ?_, ?_⟩
 ·
  rw [← h1]; exact List.drop_suffix _ _
 ·
  unfold sx
  rw [← h1, List.length_drop]
  have h3 : (placeO os)[j]'(by rw [placeO_len]; exact hj) = (placeF f_head.length 0 (os.map prO))[j] := rfl
  omega
theorem Snd.nine {D : Int} {st : Bool} {o : AV} (h : Snd D st o) (h9 : o.kind = 9) : ∃ ks vs d, o = .mk 9 0 [] ks vs d := by
 cases h with
 | null => simp [AV.kind] at h9
 | bool => simp [AV.kind] at h9
 | num _ _ k n hk hf => rcases hk with rfl | rfl <;> simp [AV.kind] at h9
 | name => simp [AV.kind] at h9
 | text => simp [AV.kind] at h9
 | ref => simp [AV.kind] at h9
 | arr => simp [AV.kind] at h9
 | dict _ _ k ks l d hk =>
  have : k = 9 := h9
  subst this
  exact ⟨ks, l, d, rfl⟩
theorem pread_ObjectA (bf : Nat) (S : Nat → Prop) (os : List AV) (H : Objs os) (j : Nat) (hj : j < os.length) (w : World) (h : FileAt S w bf (fileO os) (placeO os)) :
  Calls Tryz.prog 11 #[.pointer (some ⟨bf, 0, none⟩), .int .i64 ((j + 1 : Nat) : Int)] w fun e w' => ∃ z : AC, e = .returned (.tuple #[.agg (acV z).toArray, .int .i64 0]) ∧ ATop w' (fun k => w.heap.size ≤ k) z os[j] ∧ Below w.heap.size w w' := by
 obtain ⟨R, h1, h2⟩ := file_obj os j hj
 have hS := H.snd _ (List.getElem_mem hj)
 have hm := H.sml _ (List.getElem_mem hj)
 have hl := placeO_len os
 have hl2 := H.len
 generalize os[j] = o at *
 by_cases h9 : o.kind = 9
 ·
  obtain ⟨ks, vs, d, rfl⟩ := hS.nine h9
  exact pread_ObjectS bf S _ _ j ks vs d R w h H.size oO oO h1 h2 hS hm
 ·
  exact pread_ObjectF bf S _ _ j o R w h H.size oO oO h1 h2 hS h9
theorem pread_Trailer (bf : Nat) (S : Nat → Prop) (l : List UInt8) (ps : List Nat) (w : World) (h : FileAt S w bf l ps) (hps : ps.length ≤ 4096) :
  Calls Tryz.prog 14 #[.pointer (some ⟨bf, 0, none⟩)] w fun e w' => ∃ z : AC, e = .returned (.agg (acV z).toArray) ∧ ATop w' (fun k => w.heap.size ≤ k) z (trA (ps.length + 1)) ∧ Below w.heap.size w w' := by
 obtain ⟨p, c, bm, y, hf, -, hb, -, hc, hm, -, hy⟩ := h
 have hsn := trA_snd (ps.length + 1) oO
 have hyr := hy.rep (by rw [← pvO_tr]; exact pwf_snd hsn)
 rw [← pvO_tr, av_pv hsn (by simp [trA, AV.kind])] at hyr
 refine W.enter func14 rfl ntmps14 (Nat.le_of_ble_eq_true rfl) ?_
 have hB0 := Below.refl (w.heap.size) w
 refine W.sr <| WL.alloc zeroValue28 rfl (fun b1 wb1 eb1 hkb1 hub1 hsb1 => ?_)
 have hF2 := ARep.same (w1 := wb1) hyr (fun k hk hl => hub1.other k oO)
 have hl4 : bf < b1 := by rw [eb1]; exact hf.lt
 have hk3 := hf.upd hub1 (Nat.ne_of_lt hl4)
 have hB5 := Upd.below hB0 (by rw [eb1]; exact hB0.size) hub1
 have hgeb1 : w.heap.size ≤ b1 := by rw [eb1]; exact hB0.size
 refine WL.nil <| ?_
 refine W.seq <| W.sr <| WL.m rfl rfl <| WL.p (.eqP underlying32 rfl) rfl <| WL.nil <| ?_
 refine W.condF rfl rfl ?_
 refine W.skip <| W.sr <| WL.m rfl rfl <| WL.p (.nck rfl) rfl <| WL.p (.fa underlying60 rfl sizeOf28 dD rfl) rfl <| WL.r (Rd.ldF (L := acL) underlying28 rfl isz28 hk3 (acOf y) (rfl) rfl) rfl <| ?_
 have hb2l := (hkb1).lt
 have hge10 := hB5.size
 refine WL.call hb39 rfl rfl ((pread_own _ _ (Nat.lt_succ_self _) (acOf y) S _ _ _ hF2 hsn)) (fun z w6 hw6 => ?_)
 have hk9 := hkb1.below hw6.2 hkb1.lt
 have hB10 := btr hB5 hw6.2
 have hz := (hw6.1).mono (T := fun k => w.heap.size ≤ k ∧ wb1.heap.size ≤ k ∧ k < w6.heap.size) (fun k hk hlt => ⟨by omega, hk, hlt⟩)
 refine WL.stL rfl rfl hk9 isz28 rfl rfl (fun w11 hkw11 huw11 hsw11 => ?_)
 have hF13 := ATop.same (w1 := w11) hz (fun k hk hl => huw11.other k (by first | ((try simp only) <;> omega) | (have := hk.1; ((try simp only) <;> omega))))
 have hB15 := Upd.below hB10 oO huw11
 refine WL.nil <| ?_
 refine W.ret (W.retc1 rfl rfl (ldRow hkw11 underlying28 rfl isz28)  ?_)
 exact ⟨z, rfl, (hF13).mono (fun k hk _ => hk.1), hB15⟩
theorem ARep.nE {w : World} {S : Nat → Prop} {x : AC} {o : AV} (h : ARep w S x o) : o.n = x.n := by cases h; rfl
end
section
open Go.ChangeShapes Go.WideShapes Go.ChangeAt Go.RowKit
theorem cells28 : Tryz.prog.cellsOf 28 = 6 := by kernel_rfl
theorem cells3 : Tryz.prog.cellsOf 3 = 1 := by kernel_rfl
theorem cells9 : Tryz.prog.cellsOf 9 = 1 := by kernel_rfl
theorem cells25 : Tryz.prog.cellsOf 25 = 1 := by kernel_rfl
theorem cells22 : Tryz.prog.cellsOf 22 = 1 := by kernel_rfl
theorem cells26 : Tryz.prog.cellsOf 26 = 1 := by kernel_rfl
theorem cells5 : Tryz.prog.cellsOf 5 = 1 := by kernel_rfl
/-- a sum over elements is no more than the bulk of what they read as -/
theorem bulk_sum {H : Type} {α : Type} (b : α → Nat) (l : List α) (D : Nat → DataW H) (h : ∀ i (hi : i < l.length), b l[i] ≤ Rows.uptoBulk (D i)) : (l.map b).sum ≤ Rows.uptoBulkAll ((List.range l.length).map D) := by
 have happ : ∀ a c : List (DataW H), Rows.uptoBulkAll (a ++ c) = Rows.uptoBulkAll a + Rows.uptoBulkAll c := by
  intro a c
  induction a with
  | nil => simp [Rows.uptoBulkAll]
  | cons x a ih => simp only [List.cons_append, Rows.uptoBulkAll, ih]; omega
 have key : ∀ k, k ≤ l.length → ((l.take k).map b).sum ≤ Rows.uptoBulkAll ((List.range k).map D) := by
  intro k
  induction k with
  | zero => intro _; simp [Rows.uptoBulkAll]
  | succ k ih =>
   intro hk
   have h1 := ih oO
   have h2 := h k oO
   rw [List.range_succ, List.map_append, happ, List.take_succ_eq_append_getElem oO, List.map_append, List.sum_append]
   simp only [List.map_cons, List.map_nil, List.sum_cons, List.sum_nil, Rows.uptoBulkAll]
   omega
 have := key l.length (Nat.le_refl _)
 rwa [List.take_length] at this
theorem bkK_sum : ∀ l : List (List UInt8), bkK l = (l.map fun k => k.length + 1).sum
 | [] => rfl
 | k :: r => by rw [bkK, bkK_sum r]; rfl
theorem bkL_sum : ∀ l : List AV, bkL l = (l.map bkO).sum
 | [] => by simp [bkL]
 | o :: r => by rw [bkL, bkL_sum r]; rfl
theorem sum_ones {α : Type} : ∀ l : List α, (l.map fun _ => 1).sum = l.length
 | [] => rfl
 | a :: r => by rw [List.map_cons, List.sum_cons, sum_ones r, List.length_cons]; omega
section
variable {H : Type} {enc : TypeId × Value → H} {w : World} {base : Nat} {sp : Nat → Bool} {held : Bool}
/-- a slice of strings -/
theorem open_keys {fuel : Nat} {cs : List Value} {x : DataW H × List MemPlace} (h : DataW.trod enc Tryz.prog w base sp held fuel 25 cs = some x) :
    ∃ p l c, cs = [.slice p (l : List (List UInt8)).length c] ∧ RowAt strV w p l ∧ l.length ≤ c ∧ c ≤ maxLen ∧ (∀ k ∈ l, k.length ≤ 9223372036854775807) ∧ bkK l + 1 ≤ Rows.uptoBulk x.1 := by
  rcases Go.Deep.open_slice1 underlying25 cells9 h with ⟨rfl, rfl⟩ | ⟨a, len, cap, k, n, F, D, Pl, rfl, -, hl, hm, hk, rfl, hx⟩
  · exact ⟨none, [], 0, rfl, RowAt.nil w, Nat.le_refl _, Nat.zero_le _, by simp, by simp [bkK, Rows.uptoBulk]⟩
  · have hlk : len ≤ k := by rw [hk]; split <;> omega
    obtain ⟨l, hll, hp⟩ := list_choose (fun i (o : List UInt8) => w.cell? (a.add i) = some (strV o) ∧ o.length + 1 ≤ Rows.uptoBulk (D i) ∧ o.length ≤ 9223372036854775807) len (fun i hi => by
      obtain ⟨h1, h2⟩ := hx i oO
      obtain ⟨s, e, e2, hs⟩ := DataW.trod_string underlying9 h2
      simp only [List.cons.injEq, and_true] at e
      refine ⟨s.data.toList, by rw [h1, e]; rfl, ?_, by rw [Array.length_toList]; unfold maxLen at hs; have : s.data.size = s.size := rfl; omega⟩
      rw [show D i = (D i, Pl i).1 from rfl, e2]
      simp [Rows.uptoBulk])
    subst hll
    refine ⟨some a, l, cap, rfl, ⟨fun _ => rfl, fun j hj => (hp j hj).1⟩, by omega, hm, fun k hk => by obtain ⟨i, hi, rfl⟩ := List.getElem_of_mem hk; exact (hp i hi).2.2, ?_⟩
    have := bulk_sum (fun k : List UInt8 => k.length + 1) l D (fun i hi => (hp i hi).2.1)
    rw [← bkK_sum] at this
    simp only [Rows.uptoBulk]; omega
/-- a slice of bytes -/
theorem open_data {fuel : Nat} {cs : List Value} {x : DataW H × List MemPlace} (h : DataW.trod enc Tryz.prog w base sp held fuel 26 cs = some x) :
    ∃ p l c, cs = [.slice p (l : List UInt8).length c] ∧ BytesAt w p l ∧ l.length ≤ c ∧ c ≤ maxLen ∧ l.length + 1 ≤ Rows.uptoBulk x.1 := by
  rcases Go.Deep.open_slice1 underlying26 cells5 h with ⟨rfl, rfl⟩ | ⟨a, len, cap, k, n, F, D, Pl, rfl, -, hl, hm, hk, rfl, hx⟩
  · exact ⟨none, [], 0, rfl, ⟨fun h => by simp at h, fun j h => by simp at h⟩, Nat.le_refl _, Nat.zero_le _, by simp [Rows.uptoBulk]⟩
  · have hlk : len ≤ k := by rw [hk]; split <;> omega
    obtain ⟨l, hll, hp⟩ := list_choose (fun i (o : UInt8) => w.cell? (a.add i) = some (.int .u8 (o.toNat : Int)) ∧ 1 ≤ Rows.uptoBulk (D i)) len (fun i hi => by
      obtain ⟨h1, h2⟩ := hx i oO
      obtain ⟨b, e, e2, w⟩ := DataW.trod_int underlying5 h2
      simp only [List.cons.injEq, and_true] at e
      have hb : 0 ≤ b ∧ b ≤ 255 := by simp only [Lit.wf, Bool.and_eq_true, decide_eq_true_eq] at w; exact w
      refine ⟨b.toNat.toUInt8, ?_, ?_⟩
      · rw [h1, e]
        have : (b.toNat.toUInt8).toNat = b.toNat % 256 := by simp
        rw [this]; congr 2; omega
      · rw [show D i = (D i, Pl i).1 from rfl, e2]; simp [Rows.uptoBulk])
    subst hll
    refine ⟨some a, l, cap, rfl, ⟨fun _ => rfl, fun j hj => (hp j hj).1⟩, by omega, hm, ?_⟩
    have := bulk_sum (fun _ : UInt8 => 1) l D (fun i hi => (hp i hi).2)
    rw [sum_ones] at this
    simp only [Rows.uptoBulk]; omega
set_option maxRecDepth 100000 in
/-- objects within objects -/
theorem open_pobj : ∀ (fuel : Nat) {cs : List Value} {x : DataW H × List MemPlace}, DataW.trod enc Tryz.prog w base sp held fuel 28 cs = some x → ∃ (y : AC) (o : AV), cs = acV y ∧ ARep w (· < w.heap.size) y o ∧ bkO o ≤ Rows.uptoBulk x.1 := by
 intro fuel
 induction fuel using Nat.strongRecOn with
 | _ fuel ih =>
 intro cs x h
 obtain ⟨xs, n, hfu, rfl, hl, hlen, hf⟩ := DataW.trod_struct underlying28 h
 rw [cells28] at hl
 have hlen6 : xs.length = 6 := hlen
 match cs, hl with
 | [c0, c1, c2, c3, c4, c5], _ =>
  have g : ∀ (i : Nat) (f : Field) (c : Value), _ → Tryz.prog.cellsOf f.type = 1 → (([c0, c1, c2, c3, c4, c5] : List Value).drop f.offset).take 1 = [c] → DataW.trod enc Tryz.prog w base sp held n f.type [c] = xs[i]? := fun i f c h1 h2 h3 => by
   have := hf i f h1
   rw [h2, h3] at this
   exact this
  have f0 := (g 0 _ c0 rfl cells3 rfl).trans (List.getElem?_eq_getElem oO)
  have f1 := (g 1 _ c1 rfl cells3 rfl).trans (List.getElem?_eq_getElem oO)
  have f2 := (g 2 _ c2 rfl cells9 rfl).trans (List.getElem?_eq_getElem oO)
  have f3 := (g 3 _ c3 rfl cells25 rfl).trans (List.getElem?_eq_getElem oO)
  have f4 := (g 4 _ c4 rfl cells22 rfl).trans (List.getElem?_eq_getElem oO)
  have f5 := (g 5 _ c5 rfl cells26 rfl).trans (List.getElem?_eq_getElem oO)
  obtain ⟨a0, e0, b0, w0⟩ := DataW.trod_int underlying3 f0
  obtain ⟨a1, e1, b1, w1⟩ := DataW.trod_int underlying3 f1
  obtain ⟨a2, e2, b2, w2⟩ := DataW.trod_string underlying9 f2
  obtain ⟨p3, l3, k3, e3, r3, g3, m3, q3, b3⟩ := open_keys f3
  obtain ⟨p5, l5, k5, e5, r5, g5, m5, b5⟩ := open_data f5
  have h4 : ∃ (p : Option Addr) (ys : List AC) (os : List AV) (c : Nat), [c4] = [.slice p ys.length c] ∧ RowM acL w p ys ∧ ys.length ≤ c ∧ c ≤ maxLen ∧ AInv w (· < w.heap.size) ys os ∧ bkL os + 1 ≤ Rows.uptoBulk (xs[4]'oO).1 := by
   generalize xs[4]'oO = z at f4
   rcases DataW.trod_slice underlying22 f4 with ⟨h0, rfl⟩ | ⟨a, len, cap, elems, rest, n2, hn2, h0, rfl, -, hle, hm, hel, hx, -, -⟩
   ·
    exact ⟨none, [], [], 0, h0, RowM.nil w, Nat.le_refl _, Nat.zero_le _, ⟨rfl, fun i h => by simp at h⟩, by simp [bkL, Rows.uptoBulk]⟩
   ·
    rw [cells28] at hx
    obtain ⟨zs, hz, hp⟩ := list_choose (fun i (z : AC × AV) => (∀ q, q < 6 → w.cell? (a.add (i * 6 + q)) = (acV z.1)[q]?) ∧ ARep w (· < w.heap.size) z.1 z.2 ∧ ∃ hi : i < elems.length, bkO z.2 ≤ Rows.uptoBulk elems[i].1) len (fun i hi => by
     have h1 := hx i hi
     rw [List.getElem?_eq_getElem oO] at h1
     obtain ⟨cs, h2, h3⟩ := Option.bind_eq_some_iff.1 h1
     obtain ⟨y, o, rfl, ho, hb⟩ := ih n2 oO h3
     obtain ⟨-, -, h4⟩ := World.cells?_some h2
     exact ⟨(y, o), fun q hq => by rw [← add_add]; exact h4 q hq, ho, by omega, hb⟩)
    subst hz
    refine ⟨some a, zs.map (·.1), zs.map (·.2), cap, by rw [List.length_map]; exact h0, ⟨fun _ => rfl, fun j hj q hq => ?_⟩, by rw [List.length_map]; omega, hm, ⟨by simp, fun i h1 h2 => ?_⟩, ?_⟩
    ·
     rw [List.getElem_map]
     exact (hp j (by simpa using hj)).1 q hq
    ·
     rw [List.getElem_map, List.getElem_map]
     exact (hp i (by simpa using h1)).2.1
    ·
     have := bulk_sum bkO (zs.map (·.2)) (fun i => (elems.getD i (.nil, [])).1) (fun i hi => by
      rw [List.getElem_map]
      obtain ⟨h5, h6⟩ := (hp i (by simpa using hi)).2.2
      rw [List.getD_eq_getElem?_getD, List.getElem?_eq_getElem h5]
      exact h6)
     rw [← bkL_sum] at this
     have e : (List.range (zs.map (·.2)).length).map (fun i => (elems.getD i (.nil, [])).1) = elems.map (·.1) := by
      refine List.ext_getElem (by simp; omega) fun i h1 h2 => ?_
      simp only [List.getElem_map, List.getElem_range]
      rw [List.getD_eq_getElem?_getD, List.getElem?_eq_getElem (by simpa using h2)]
      rfl
     rw [e] at this
     simp only [Rows.uptoBulk]; omega
  obtain ⟨p4, ys, os, k4, e4, r4, g4, m4, i4, b4⟩ := h4
  simp only [List.cons.injEq, and_true] at e0 e1 e2 e3 e4 e5
  have w1' := wf64 w1
  have hs2 : a2.data.toList.length = a2.size := by rw [Array.length_toList]; rfl
  unfold maxLen at *
  refine ⟨⟨a0, a1, a2.data.toList, p3, l3.length, k3, p4, ys.length, k4, p5, l5.length, k5⟩, .mk a0 a1 a2.data.toList l3 os l5, ?_, ?_, ?_⟩
  ·
   rw [e0, e1, e2, e3, e4, e5]; rfl
  ·
   exact ARep.mk ⟨a0, a1, a2.data.toList, p3, l3.length, k3, p4, ys.length, k4, p5, l5.length, k5⟩ l3 os l5 ys ⟨w1', by show a2.data.toList.length ≤ _; omega, rfl, rfl, rfl, g3, g4, g5, by show k3 ≤ _; omega, by show k4 ≤ _; omega, by show k5 ≤ _; omega⟩ q3 r3 (fun h0 => r3.lt h0) r4 (fun h0 => r4.lt h0) r5 (fun h0 => r5.lt h0) i4.len i4.sub
  ·
   have hall : Rows.uptoBulkAll (xs.map (·.1)) = Rows.uptoBulk (xs[0]'oO).1 + Rows.uptoBulk (xs[1]'oO).1 + Rows.uptoBulk (xs[2]'oO).1 + Rows.uptoBulk (xs[3]'oO).1 + Rows.uptoBulk (xs[4]'oO).1 + Rows.uptoBulk (xs[5]'oO).1 := by
    match xs, hlen6 with
    | [x0, x1, x2, x3, x4, x5], _ => simp [Rows.uptoBulkAll]; omega
   rw [b0, b1, b2] at hall
   simp only [Rows.uptoBulk] at hall
   simp only [bkO, Rows.uptoBulk]
   omega
end
end
section
open Go.ChangeShapes Go.WideShapes Go.ChangeAt Go.RowKit
section
variable {H : Type} {enc : TypeId × Value → H} {w : World} {base : Nat} {sp : Nat → Bool} {held : Bool}
theorem open_pobjs {fuel : Nat} {cs : List Value} {z : DataW H × List MemPlace} (f4 : DataW.trod enc Tryz.prog w base sp held fuel 22 cs = some z) :
  ∃ (p : Option Addr) (ys : List AC) (os : List AV) (c : Nat), cs = [.slice p ys.length c] ∧ RowM acL w p ys ∧ ys.length ≤ c ∧ c ≤ maxLen ∧ AInv w (· < w.heap.size) ys os ∧ bkL os + 1 ≤ Rows.uptoBulk z.1 := by
 rcases DataW.trod_slice underlying22 f4 with ⟨h0, rfl⟩ | ⟨a, len, cap, elems, rest, n2, hn2, h0, rfl, -, hle, hm, hel, hx, -, -⟩
 ·
  exact ⟨none, [], [], 0, h0, RowM.nil w, Nat.le_refl _, Nat.zero_le _, ⟨rfl, fun i h => by simp at h⟩, by simp [bkL, Rows.uptoBulk]⟩
 ·
  rw [cells28] at hx
  obtain ⟨zs, hz, hp⟩ := list_choose (fun i (z : AC × AV) => (∀ q, q < 6 → w.cell? (a.add (i * 6 + q)) = (acV z.1)[q]?) ∧ ARep w (· < w.heap.size) z.1 z.2 ∧ ∃ hi : i < elems.length, bkO z.2 ≤ Rows.uptoBulk elems[i].1) len (fun i hi => by
   have h1 := hx i hi
   rw [List.getElem?_eq_getElem oO] at h1
   obtain ⟨cs, h2, h3⟩ := Option.bind_eq_some_iff.1 h1
   obtain ⟨y, o, rfl, ho, hb⟩ := open_pobj n2 h3
   obtain ⟨-, -, h4⟩ := World.cells?_some h2
   exact ⟨(y, o), fun q hq => by rw [← add_add]; exact h4 q hq, ho, by omega, hb⟩)
  subst hz
  refine ⟨some a, zs.map (·.1), zs.map (·.2), cap, by rw [List.length_map]; exact h0, ⟨fun _ => rfl, fun j hj q hq => ?_⟩, by rw [List.length_map]; omega, hm, ⟨by simp, fun i h1 h2 => ?_⟩, ?_⟩
  ·
   rw [List.getElem_map]
   exact (hp j (by simpa using hj)).1 q hq
  ·
   rw [List.getElem_map, List.getElem_map]
   exact (hp i (by simpa using h1)).2.1
  ·
   have := bulk_sum bkO (zs.map (·.2)) (fun i => (elems.getD i (.nil, [])).1) (fun i hi => by
    rw [List.getElem_map]
    obtain ⟨h5, h6⟩ := (hp i (by simpa using hi)).2.2
    rw [List.getD_eq_getElem?_getD, List.getElem?_eq_getElem h5]
    exact h6)
   rw [← bkL_sum] at this
   have e : (List.range (zs.map (·.2)).length).map (fun i => (elems.getD i (.nil, [])).1) = elems.map (·.1) := by
    refine List.ext_getElem (by simp; omega) fun i h1 h2 => ?_
    simp only [List.getElem_map, List.getElem_range]
    rw [List.getD_eq_getElem?_getD, List.getElem?_eq_getElem (by simpa using h2)]
    rfl
   rw [e] at this
   simp only [Rows.uptoBulk]; omega
end
end
section
/-- bytes of the call's own, or as a constant's conversion lays them: no room behind -/
def OwnB (e : TypeId) (B : Nat) (w : World) (p : Option Addr) (n c : Nat) (l : List UInt8) : Prop :=
 n = l.length ∧ (Own e B w (.slice p n c) (byteVals l) ∨ (c = n ∧ 0 < n ∧ BytesAt w p l ∧ B ≤ (pA p).block))
section
variable {P : Program} {n : Sh} {f : Fr}
theorem OwnB.bytes {e : TypeId} {B m c : Nat} {w : World} {p : Option Addr} {l : List UInt8} (h : OwnB e B w p m c l) : BytesAt w p l ∧ (0 < l.length → B ≤ (pA p).block) ∧ l.length ≤ c ∧ (l = [] → c = 0 ∨ p ≠ none) := by
 obtain ⟨rfl, h | ⟨rfl, h1, h2, h3⟩⟩ := h
 ·
  obtain ⟨p', c', hv, hb, hB, hc, hn⟩ := h.bytesC
  simp only [Value.slice.injEq] at hv
  obtain ⟨rfl, -, rfl⟩ := hv
  exact ⟨hb, hB, hc, hn⟩
 ·
  exact ⟨h2, fun _ => h3, Nat.le_refl _, fun q => by rw [q] at h1; simp at h1⟩
theorem OwnB.same {e : TypeId} {B m c : Nat} {w w1 : World} {p : Option Addr} {l : List UInt8} (h : OwnB e B w p m c l) (hb : ∀ k, B ≤ k → k < w.heap.size → w1.heap[k]? = w.heap[k]?) : OwnB e B w1 p m c l := by
 obtain ⟨h0, h | ⟨h1, h2, h3, h4⟩⟩ := h
 ·
  refine ⟨h0, .inl ?_⟩
  obtain ⟨hl, h⟩ := h
  exact ⟨hl, h.imp id fun ⟨g, cap, cur, e1, e2, e3, e4⟩ => ⟨g, cap, cur, e1, e2, (hb g e2 (Array.getElem?_eq_some_iff.1 e3).1).trans e3, e4⟩⟩
 ·
  refine ⟨h0, .inr ⟨h1, h2, ⟨h3.isp, fun j hj => ?_⟩, h4⟩⟩
  rw [World.cell?_of_block (w := w) (by rw [add_block]; exact hb _ h4 (h3.lt oO))]
  exact h3.cells j hj
/-- append(bytes, string...) -/
theorem WL.appX {ops : Array Oper} {Q : Exit → Fr → World → Prop} {w : World} {rest : List Oper} {d ty : Nat} {pos : String} {aft : Array Edge} {s x : Operand} {t u e : TypeId} {B m c : Nat} {p : Option Addr} {l r : List UInt8}
    (ht : P.underlying t = some (.slice e)) (hu : P.underlying u = some .string) (hi : (P.info? e).map (fun i => (i.zero, i.size, i.bytes)) = some (some (.int .u8 0), 1, 1))
    (hs : evo f s = some (.slice p m c)) (hown : OwnB e B w p m c l) (hx : evo f x = some (.string (bs r))) (hr : r ≠ [])
    (hn : l.length + r.length ≤ 1000000000) (hB : B ≤ w.heap.size) (hd : Nat.blt d n.n = true)
    (k : ∀ q c' w', Own e B w' (.slice q (l ++ r).length c') (byteVals (l ++ r)) → Below B w w' → WL P n ops Q rest ((d, .slice q (l ++ r).length c') :: f) w') :
    WL P n ops Q (⟨some d, .call ⟨.builtin .append, #[s, x], #[t, u]⟩, ty, pos, aft, none⟩ :: rest) f w := by
  obtain ⟨rfl, h | ⟨rfl, h1, h2, h3⟩⟩ := hown
  · refine WL.appS ht hu hi hs h hx (by simp [byteVals]; omega) hB hd fun v' w' ho hb _ => ?_
    rw [show byteVals l ++ byteVals r = byteVals (l ++ r) by simp [byteVals]] at ho
    obtain ⟨q, c', rfl, -⟩ := ho.bytesC
    exact k q c' w' ho hb
  · cases hh : P.info? e with
    | none => rw [hh] at hi; cases hi
    | some i =>
      rw [hh] at hi
      simp only [Option.map_some, Option.some.injEq, Prod.mk.injEq] at hi
      obtain ⟨hz, hsize, hby⟩ := hi
      have hsz : (bs r).size = r.length := bs_size r
      have hcells : Lib.strCells (bs r) = byteVals r := by simp [Lib.strCells, byteVals, bs]
      have hr0 : 0 < r.length := List.length_pos_iff.2 hr
      have hbl : (byteVals l).length = l.length := by simp [byteVals]
      have hbr : (byteVals r).length = r.length := by simp [byteVals]
      have holds : ∀ j u, (byteVals l)[j]? = some u → w.cell? ((pA p).add j) = some u := fun j u hj => by
        have hj' : j < l.length := by
          rcases Nat.lt_or_ge j l.length with h | h
          · exact h
          · rw [List.getElem?_eq_none (by rw [hbl]; omega)] at hj; cases hj
        rw [h2.cells j hj', ← hj]; simp [byteVals, hj']
      have hgr := Lib.run_append_grow_string (P := P) w t u ty e i (.int .u8 0) ht hu hh hz (pA p) l.length l.length (byteVals l) (by rw [hsize, hbl]; omega) holds (bs r) oO oO (by rw [hby]; exact growslice_fits oO oO)
      rw [hsz, hcells] at hgr
      have hge := grownCap_ge w (l.length + r.length) l.length e
      have hcm : grownCap w (l.length + r.length) l.length e ≤ maxLen := grownCap_le_maxLen w (l.length + r.length) l.length e (by unfold maxLen; omega)
      have hlen : (byteVals (l ++ r)).length = l.length + r.length := by simp [byteVals]
      refine WL.run hd (w' := _) (v := .slice (some ⟨w.heap.size, 0, none⟩) (l ++ r).length (grownCap w (l.length + r.length) l.length e)) (fun ρ hρ => ?_) (k (some ⟨w.heap.size, 0, none⟩) _ (w.drew.alloc (.cells ((byteVals l).toArray ++ (byteVals r).toArray ++ Builtin.zeroCells (Value.int .u8 0).cells (grownCap w (l.length + r.length) l.length e - (l.length + r.length))) e)) ?_ ?_)
      · unfold execOp
        simp only [resolve, invoke, builtin, Sem.run_bind, Sem.run_pure, Result.andThen_ok, List.map_toArray, List.map_cons, List.map_nil, hρ _ _ (hs.trans (by rw [h2.isp h1])), hρ _ _ hx, hgr, List.length_append]
      · refine ⟨by simp, .inr ⟨w.heap.size, _, _, by simp [byteVals], hB, heap_alloc_new w.drew _, by simpa [byteVals] using hge, hcm, ?_, ?_⟩⟩
        · have hz1 : (Value.int IntKind.u8 0).cells.size = 1 := rfl
          simp only [Array.size_append, List.size_toArray, size_zeroCells, hz1, hbl, hbr]
          omega
        · have e1 : byteVals (l ++ r) = byteVals l ++ byteVals r := by simp [byteVals]
          simp only [Array.toList_append, List.append_assoc, e1]
          rw [← List.append_assoc, Nat.mul_one]
          exact List.take_left
      · exact Upd.below (Drew.below (Below.refl B w) ⟨1, rfl⟩) hB (Upd.alloc w.drew _)
/-- a value into an element of an own row of one-cell elements -/
theorem WL.stE {α : Type} {L : Lay α} {ops : Array Oper} {Q : Exit → Fr → World → Prop} {w : World} {rest : List Oper} {ty : Nat} {pos : String} {aft : Array Edge} {t e : TypeId} {x y : Operand} {B nn c : Nat} {p : Option Addr} {l : List α} {v : Value} (o : α) (k : Nat)
  (hs : ∀ w, (sizeOf t).run P w = .ok 1 w) (hL : L.m = 1) (hown : OwnM L e B w (.slice p nn c) l) (hk : k < l.length) (hx : evo f x = some (.pointer (some ((pA p).add k)))) (hy : evo f y = some v) (hv : L.V o = [v]) (h1 : v.oneCell' = true)
  (kk : ∀ w1 g, p = some ⟨g, 0, none⟩ → Upd g w w1 → OwnM L e B w1 (.slice p nn c) (l.set k o) → WL P n ops Q rest f w1) :
  WL P n ops Q (⟨none, .store t x y, ty, pos, aft, none⟩ :: rest) f w :=
 WL.stF o k 0 hown hk oO hs (by rw [hx, hL, Nat.mul_one, add_zero_addr]) hy h1 (by
  have hl := L.len l[k]
  rw [hL] at hl
  obtain ⟨a, ha⟩ := List.length_eq_one_iff.1 hl
  rw [hv, ha]; rfl) kk
end
end
section
/-- what Write answers: bytes, error -/
structure WrA (G : Prop) (w0 w : World) (os : List AV) (p : Option Addr) (n c : Nat) (e : Int) : Prop where
 sure : G → 1 ≤ os.length → os.length ≤ 4096 → (fileO os).length ≤ 1048576 → e = 0
 ok : e = 0 → n = (fileO os).length ∧ BytesAt w p (fileO os) ∧ (fileO os).length ≤ c ∧ (0 < (fileO os).length → w0.heap.size ≤ (pA p).block) ∧ (∀ o ∈ os, Snd 32 true o) ∧ os.length ≤ 4096 ∧ (fileO os).length ≤ 1048576 ∧ DOwn (fun k => w0.heap.size ≤ k) w (.slice p (fileO os).length c) (fileO os)
theorem WrA.no {G : Prop} {w0 w : World} {os : List AV} {p : Option Addr} {n c : Nat} {e : Int} (h : e ≠ 0) (hs : G → 1 ≤ os.length → os.length ≤ 4096 → (fileO os).length ≤ 1048576 → False) : WrA G w0 w os p n c e := ⟨fun g h1 h2 h3 => (hs g h1 h2 h3).elim, fun q => absurd q h⟩
def headB_ (os : List AV) (i : Nat) : List UInt8 := f_head ++ bodyF 0 ((os.take i).map prO)
def headP (os : List AV) (i : Nat) : List Nat := placeF 9 0 ((os.take i).map prO)
theorem headB_snoc (os : List AV) (i : Nat) (h : i < os.length) : headB_ os i ++ objF i (prO os[i]) = headB_ os (i + 1) := by
 unfold headB_
 rw [List.take_succ_eq_append_getElem h, List.map_append, List.map_singleton, bodyF_snoc, List.append_assoc]
 congr 2
 rw [List.length_map, List.length_take, Nat.min_eq_left oO, Nat.zero_add]
theorem headP_snoc (os : List AV) (i : Nat) (h : i < os.length) : tableF (headP os i) ++ entryF (headB_ os i).length = tableF (headP os (i + 1)) := by
 unfold headP headB_
 rw [List.take_succ_eq_append_getElem h, List.map_append, List.map_singleton, placeF_snoc, tableF_snoc, List.length_append]; rfl
theorem tableF_len (ps : List Nat) (h : ∀ p ∈ ps, p < 10000000000) : (tableF ps).length = 20 * (ps.length + 1) := by
 unfold tableF
 rw [List.length_append, show f_first.length = 20 from rfl]
 have : (ps.flatMap entryF).length = 20 * ps.length := by
  induction ps with
  | nil => rfl
  | cons a r ih =>
   rw [List.flatMap_cons, List.length_append, entryF_len (h a (by simp)), ih fun p hp => h p (by simp [hp]), List.length_cons]; omega
 omega
theorem headP_len (os : List AV) (i : Nat) (h : i ≤ os.length) : (headP os i).length = i := by unfold headP; rw [placeF_len, List.length_map, List.length_take]; omega
theorem headP_le (os : List AV) (i : Nat) : ∀ p ∈ headP os i, p ≤ (headB_ os i).length := fun p hp => by
 have := placeF_le _ _ _ p hp
 unfold headB_; rw [List.length_append]; exact this
theorem objF_len (i : Nat) (t : List UInt8) (hi : i < 9999) : (objF i t).length ≤ t.length + 30 := by
 have := digitsL_len 9 (i + 1) oO
 unfold objF; simp only [List.length_append, f_obj, f_endobj, List.length_cons, List.length_nil]; omega
theorem decN_dig (n : Nat) : decL (n : Int) = digitsL n := by unfold decL; rw [if_neg oO]; simp
theorem fileO_eq (os : List AV) : headB_ os os.length ++ ((((((((([120, 114, 101, 102, 10, 48, 32] ++ digitsL (os.length + 1)) ++ [10]) ++ tableF (headP os os.length)) ++ [116, 114, 97, 105, 108, 101, 114, 10, 60, 60, 32, 47, 82, 111, 111, 116, 32, 49, 32, 48, 32, 82, 32, 47, 83, 105, 122, 101, 32]) ++ digitsL (os.length + 1)) ++ [32, 62, 62, 10, 115, 116, 97, 114, 116, 120, 114, 101, 102, 10]) ++ digitsL (headB_ os os.length).length) ++ [10, 37, 37, 69, 79, 70, 10])) = fileO os := by
 unfold fileO fileF headB_ headP
 simp only [List.take_length, List.length_map, List.append_assoc, List.cons_append, List.nil_append, f_xref, f_trailer, f_start, f_eof, List.length_append]
 rfl
theorem bodyF_take : ∀ (ts : List (List UInt8)) (i k : Nat), (bodyF k (ts.take i)).length ≤ (bodyF k ts).length
 | [], _, _ => by simp
 | t :: ts, 0, k => by simp [bodyF]
 | t :: ts, i + 1, k => by
  have := bodyF_take ts i (k + 1)
  simp only [List.take_succ_cons, bodyF, List.length_append]; omega
theorem headB_le (os : List AV) (i : Nat) : (headB_ os i).length ≤ (fileO os).length := by
 have h := bodyF_take (os.map prO) i 0
 unfold headB_ fileO fileF
 rw [List.map_take]
 simp only [List.length_append]; omega
set_option maxHeartbeats 400000 in
theorem ref_Write (lp : Option Addr) (ys : List AC) (os : List AV) (lc : Nat) (S : Nat → Prop) (w : World) (hr : RowM acL w lp ys) (hc : ys.length ≤ lc) (hA : AInv w S ys os) (hbk : ∀ o ∈ os, Snd 32 true o → (prO o).length ≤ 50000000) (G : Prop)
  (hsd : ∀ i (h : i < ys.length) (h2 : i < os.length) (w1 : World), ARep w1 (fun k => k < w.heap.size) ys[i] os[i] → Calls Tryz.prog 16 #[.agg (acV ys[i]).toArray] w1 fun e w' => ∃ b : { b : Bool // (b = true → Snd 32 true os[i]) ∧ (G → b = true) }, e = .returned (.bool b.1) ∧ Below w1.heap.size w1 w') :
  Calls Tryz.prog 8 #[.slice lp ys.length lc] w fun e w' => ∃ x : Option Addr × Nat × Nat × Int, e = .returned (.tuple #[.slice x.1 x.2.1 x.2.2.1, .int .i64 x.2.2.2]) ∧ Below w.heap.size w w' ∧ WrA G w w' os x.1 x.2.1 x.2.2.1 x.2.2.2 := by
 have hrl := hr.lt
 have hlen := hA.len
 have hA0 : AInv w (fun k => k < w.heap.size) ys os := hA.mono fun k _ hk => hk
 refine W.enter func8 rfl ntmps8 (Nat.le_of_ble_eq_true rfl) ?_
 have hB0 := Below.refl (w.heap.size) w
 refine W.sr <| WL.a rfl rfl <| WL.z rfl rfl ?_
 refine W.seq ?_
 refine W.cutB 17 (decide (ys.length < 1 ∨ 4096 < ys.length)) ?_ ?_
 refine W.reg <| WL.m rfl rfl <| WL.p (.lenS underlying22 rfl) rfl <| WL.p (.lss rfl rfl) rfl <| WL.m rfl rfl <| WL.gd rfl rfl rfl (fun g1 => ?_) (fun g1 => ?_)
 have g1' := dF g1
 refine WL.m rfl rfl <| WL.gy rfl rfl rfl g1 <| WL.p (.lenS underlying22 rfl) rfl <| WL.gy rfl rfl rfl g1 <| WL.p (.gtr rfl rfl) rfl <| WL.p (.pkF rfl g1 rfl) rfl <| WL.nil <| ?_
 exact ⟨leE (lk_b rfl (by first | exact (decide_eq_true oO).symm | exact decide_eq_decide.2 oO)), rfl⟩
 have g1' := dT g1
 refine WL.gn rfl rfl rfl g1 <| WL.gn rfl rfl rfl g1 <| WL.p (.pkT rfl g1 rfl) rfl <| WL.nil <| ?_
 exact ⟨leE (lk_b rfl (by first | exact (decide_eq_true oO).symm | exact decide_eq_decide.2 oO)), rfl⟩
 refine W.cond rfl (fun h2 => ?_) (fun h2 => ?_)
 have h2' := dT h2
 have h17 : ys.length < 1 ∨ 4096 < ys.length := dT aS
 refine W.sr <| WL.a rfl rfl <| WL.z rfl rfl ?_
 refine W.ret (W.ret2 rfl rfl rfl ?_)
 first
 | exact ⟨(none, 0, 0, 22), rfl, hB0, WrA.no dD (fun _ h1 h2 _ => by omega)⟩
 | exact ⟨(none, 0, 0, 22), rfl, hB0, WrA.no dD (fun g _ _ _ => hsb g)⟩
 | exact ⟨(none, 0, 0, 25), rfl, hB0, WrA.no dD (fun _ _ _ h3 => by have := headB_le os (i + 1); omega)⟩
 | exact ⟨(none, 0, 0, 25), rfl, hB0, WrA.no dD (fun _ _ _ h3 => by omega)⟩
 | exact ⟨(pe, (fileO os).length, ce, 0), rfl, hB0, ⟨fun _ _ _ _ => rfl, fun _ => ⟨rfl, hb1, hb3, hb2, hsnd, by omega, by omega, FACT⟩⟩⟩
 have h2' := dF h2
 have h17 : ¬ (ys.length < 1 ∨ 4096 < ys.length) := dF aS
 refine W.skip <| W.seq <| W.sr <| WL.z rfl rfl ?_
 refine W.block ?_
 refine W.loop (α := Nat) (fun t => [(0, .slice lp ys.length lc), (2, .slice none 0 0), (3, .int .i64 0), (4, .int .i64 (t : Int))]) (fun t w' => Below w.heap.size w w' ∧ RowM acL w' lp ys ∧ AInv w' (fun k => k < w.heap.size) ys os ∧ (∀ o ∈ os.take t, Snd 32 true o) ∧ t ≤ ys.length) (fun t => ys.length - t) (0) ⟨rfl, rfl, rfl, rfl, trivial⟩ (⟨hB0, hr, hA0, fun o h => by simp at h, Nat.zero_le _⟩) (fun t w1 hR => ?_)
 obtain ⟨i, rfl⟩ : ∃ i, i = t := ⟨t, rfl⟩
 obtain ⟨q1, q2, q3, q4, q5⟩ := hR
 refine W.seq <| W.sr <| WL.m rfl rfl <| WL.m rfl rfl <| WL.p (.lenS underlying22 rfl) rfl <| WL.p (.lss rfl rfl) rfl <| WL.nil <| ?_
 refine W.cond rfl (fun h3 => ?_) (fun h3 => ?_)
 have h3' := dT h3
 refine W.skip <| W.seq <| W.block <| W.sr <| WL.m rfl rfl <| WL.m rfl rfl <| WL.p (.ixm underlying22 sizeOf28 rfl rfl (q2.isp (by first | omega | (simp only [List.length_cons, List.length_nil]; omega))) (i) (rfl) oO) rfl <| WL.r (Rd.ldS underlying28 rfl isz28 q2 (i) (by first | omega | (simp only [List.length_cons, List.length_nil]; omega)) rfl) rfl <| WL.call hb16 rfl rfl ((hsd i oO oO _ ((q3).sub i oO oO))) (fun sb w4 hw4 => ?_)
 have hF5 := AInv.same (w1 := w4) q3 (fun k hk hl => hw4.block k hl)
 have hv6 := RowM.below q2 hw4 (fun h0 => q2.lt h0)
 have hB7 := btr q1 hw4
 refine WL.p (.not rfl) rfl <| WL.nil <| ?_
 refine W.cond rfl (fun h8 => ?_) (fun h8 => ?_)
 have h8' := (nT h8)
 have hsb : G → False := fun g => by (have q := sb.2.2 g); (have q2 := nT (show (!sb.1) = true by assumption)); rw [q] at q2; cases q2
 refine W.sr <| WL.a rfl rfl <| WL.z rfl rfl ?_
 refine W.ret (W.ret2 rfl rfl rfl ?_)
 first
 | exact ⟨(none, 0, 0, 22), rfl, hB7, WrA.no dD (fun _ h1 h2 _ => by omega)⟩
 | exact ⟨(none, 0, 0, 22), rfl, hB7, WrA.no dD (fun g _ _ _ => hsb g)⟩
 | exact ⟨(none, 0, 0, 25), rfl, hB7, WrA.no dD (fun _ _ _ h3 => by have := headB_le os (i + 1); omega)⟩
 | exact ⟨(none, 0, 0, 25), rfl, hB7, WrA.no dD (fun _ _ _ h3 => by omega)⟩
 | exact ⟨(pe, (fileO os).length, ce, 0), rfl, hB7, ⟨fun _ _ _ _ => rfl, fun _ => ⟨rfl, hb1, hb3, hb2, hsnd, by omega, by omega, FACT⟩⟩⟩
 have h8' := (nF h8)
 have hsi : Snd 32 true (os[i]'oO) := sb.2.1 (nF aS)
 refine W.skip <| W.reg <| WL.m rfl rfl <| WL.p (.iis (((i + 1 : Nat) : Int)) (.add rfl rfl (i64w oO)) oO) rfl <| WL.z rfl rfl ?_
 exact ⟨i + 1, ⟨rfl, rfl, rfl, rfl, trivial⟩, ⟨hB7, hv6, hF5, fun o ho => by
  rw [List.take_succ_eq_append_getElem oO, List.mem_append, List.mem_singleton] at ho
  rcases ho with ho | rfl
  exact q4 o ho
  exact hsi, by ((try simp only) <;> omega)⟩, by ((try simp only) <;> omega)⟩
 have h3' := dF h3
 refine W.exit <| W.seq ?_
 have hsnd : ∀ o ∈ os, Snd 32 true o := fun o ho => q4 o (by rw [List.take_of_length_le oO]; exact ho)
 refine W.reg <| WL.bsl (ps := _) underlying26 sizeOf5 zeroValue5 rfl rfl rfl rfl rfl pR rfl (fun b9 wb9 eb9 hkb9 hub9 hsb9 => ?_)
 have hF10 := AInv.same (w1 := wb9) q3 (fun k hk hl => hub9.other k oO)
 have hvl12 := fun h0 => eb9 ▸ q2.lt h0
 have hv11 := RowM.upd q2 hub9 (fun h0 => Nat.ne_of_lt (hvl12 h0))
 have hB13 := Upd.below q1 (by rw [eb9]; exact q1.size) hub9
 have hgeb9 : w.heap.size ≤ b9 := by rw [eb9]; exact q1.size
 refine WL.cvB ([37, 80, 68, 70, 45, 49, 46, 52, 10]) underlying26 underlying5 rfl hkb9 rfl rfl (fun w14 hhd huw14 hsw14 => ?_)
 have hF15 := AInv.same (w1 := w14) hF10 (fun k hk hl => huw14.other k (by first | ((try simp only) <;> omega) | (have := hk.1; ((try simp only) <;> omega))))
 have hv16 := RowM.upd hv11 huw14 (fun h0 => Nat.ne_of_lt (hvl12 h0))
 have hB17 := Upd.below hB13 oO huw14
 refine WL.z rfl rfl ?_
 refine W.sr <| WL.z rfl rfl ?_
 refine W.seq <| W.sr <| WL.z rfl rfl ?_
 refine W.block ?_
 have hB0 : OwnB 5 w.heap.size w14 (some ⟨b9, 0, none⟩) 9 9 (headB_ os 0) := ⟨rfl, .inr ⟨rfl, by decide, hhd, by show w.heap.size ≤ b9; omega⟩⟩
 refine W.loop (α := Option Addr × Nat × Nat) (fun t => [(0, .slice lp ys.length lc), (2, .slice none 0 0), (3, .int .i64 0), (5, .slice t.1 (headB_ os t.2.2).length t.2.1), (6, .string (bs (tableF (headP os t.2.2)))), (7, .int .i64 (t.2.2 : Int))]) (fun t w' => Below w.heap.size w w' ∧ RowM acL w' lp ys ∧ AInv w' (fun k => k < w.heap.size) ys os ∧ OwnB 5 w.heap.size w' t.1 (headB_ os t.2.2).length t.2.1 (headB_ os t.2.2) ∧ (headB_ os t.2.2).length ≤ 1048576 ∧ t.2.2 ≤ ys.length) (fun t => ys.length - t.2.2) ((some ⟨b9, 0, none⟩, 9, 0)) ⟨rfl, rfl, rfl, rfl, rfl, rfl, trivial⟩ (⟨hB17, hv16, hF15, hB0, by show (f_head ++ bodyF 0 []).length ≤ 1048576; decide, Nat.zero_le _⟩) (fun t w1 hR => ?_)
 obtain ⟨p, c, i⟩ := t
 obtain ⟨p1, p2, p3, p4, p5, p6⟩ := hR
 simp only at p4 p5 p6 ⊢
 have hpl := headP_len os i oO
 have hple : ∀ n ∈ headP os i, n < 10000000000 := fun n hn => by have := headP_le os i n hn; omega
 have htl := tableF_len (headP os i) hple
 refine W.seq <| W.sr <| WL.m rfl rfl <| WL.m rfl rfl <| WL.p (.lenS underlying22 rfl) rfl <| WL.p (.lss rfl rfl) rfl <| WL.nil <| ?_
 refine W.cond rfl (fun h18 => ?_) (fun h18 => ?_)
 have h18' := dT h18
 refine W.skip <| W.seq <| W.block <| W.seq ?_
 have hi : i < os.length := by omega
 have hso := hsnd _ (List.getElem_mem hi)
 have hpo := hbk _ (List.getElem_mem hi) hso
 have hdl := digitsL_len 9 (i + 1) oO
 have htn := tenL_len (n := (headB_ os i).length) oO
 refine W.reg <| WL.m rfl rfl <| WL.m rfl rfl <| WL.p (.lenS underlying26 rfl) rfl <| WL.c1 hb17 rfl rfl ((ref_ten _ _ oO)) (fun w19 hw19 => ?_)
 have hF20 := AInv.same (w1 := w19) p3 (fun k hk hl => hw19.block k hl)
 have hF21 := OwnB.same (w1 := w19) p4 (fun k hk hl => hw19.block k hl)
 have hv22 := RowM.below p2 hw19 (fun h0 => p2.lt h0)
 have hB23 := btr p1 hw19
 refine WL.p (.cat rfl rfl oO) rfl <| WL.p (.sis (tableF (headP os (i + 1))) (.cat rfl rfl (by simp only [List.length_append, List.length_cons, List.length_nil]; omega)) (by rw [← headP_snoc os i hi]; unfold entryF f_used; simp only [List.append_assoc])) rfl <| WL.z rfl rfl ?_
 refine W.seq <| W.regH 14 rfl mixed (fun w' => RowM acL w' lp ys ∧ True) (fun w24 dw24 => ?_)
 have hF25 := AInv.same (w1 := w24) hF20 (fun k hk hl => (by obtain ⟨m, rfl⟩ := dw24; rfl))
 have hF26 := OwnB.same (w1 := w24) hF21 (fun k hk hl => (by obtain ⟨m, rfl⟩ := dw24; rfl))
 have hv27 := hv22.drew dw24
 have hB28 := Drew.below hB23 dw24
 refine WH.tp 0 rfl (.mv rfl) ⟨hv27, trivial⟩ rfl ?_
 refine WH.tp 1 rfl (.mv rfl) ⟨hv27, trivial⟩ rfl ?_
 refine WH.tp 2 rfl (.iis (((i + 1 : Nat) : Int)) (.add rfl rfl (i64w oO)) oO) ⟨hv27, trivial⟩ rfl ?_
 refine WH.tp 5 rfl (.mv rfl) ⟨hv27, trivial⟩ rfl ?_
 refine WH.tp 6 rfl (.mv rfl) ⟨hv27, trivial⟩ rfl ?_
 refine WH.tp 7 rfl (.ixm underlying22 sizeOf28 rfl rfl (hv27.isp (by first | omega | (simp only [List.length_cons, List.length_nil]; omega))) (i) (rfl) oO) ⟨hv27, trivial⟩ rfl ?_
 refine WH.tk 8 rfl (fun w' hw' => Rd.ldS underlying28 rfl isz28 (hw'.1) (i) (by first | omega | (simp only [List.length_cons, List.length_nil]; omega)) rfl) ⟨hv27, trivial⟩ rfl ?_
 refine WH.br1 3 rfl ?_
 refine WL.c1 hb18 rfl rfl ((by have q := ref_DecT ((i + 1 : Nat) : Int) w24 oO oO; rw [decN_dig] at q; exact q)) (fun w29 hw29 => ?_)
 have hF30 := AInv.same (w1 := w29) hF25 (fun k hk hl => hw29.block k hl)
 have hF31 := OwnB.same (w1 := w29) hF26 (fun k hk hl => hw29.block k hl)
 have hv32 := RowM.below hv27 hw29 (fun h0 => hv27.lt h0)
 have hB33 := btr hB28 hw29
 refine WL.nil <| ?_
 refine ⟨⟨hv32, trivial⟩, ?_⟩
 refine WH.tp 4 rfl (.cat rfl rfl (by simp only [List.length_append, List.length_cons, List.length_nil]; omega)) ⟨hv32, trivial⟩ rfl ?_
 refine WH.br1 9 rfl ?_
 refine WL.c1 hb19 rfl rfl ((r18_PrintA _ _ (Nat.lt_succ_self _) _ _ _ _ _ ((hF30).sub i oO hi) hso oO)) (fun w34 hw34 => ?_)
 have hF35 := AInv.same (w1 := w34) hF30 (fun k hk hl => hw34.block k hl)
 have hF36 := OwnB.same (w1 := w34) hF31 (fun k hk hl => hw34.block k hl)
 have hv37 := RowM.below hv32 hw34 (fun h0 => hv32.lt h0)
 have hB38 := btr hB33 hw34
 refine WL.nil <| ?_
 refine ⟨⟨hv37, trivial⟩, ?_⟩
 refine WH.tp 10 rfl (.cat rfl rfl (by simp only [List.length_append, List.length_cons, List.length_nil]; omega)) ⟨hv37, trivial⟩ rfl ?_
 refine WH.tp 11 rfl (.cat rfl rfl (by simp only [List.length_append, List.length_cons, List.length_nil]; omega)) ⟨hv37, trivial⟩ rfl ?_
 refine WH.br1 12 rfl ?_
 refine WL.appX (r := objF i (prO (os[i]'hi))) underlying26 underlying9 inf5 rfl hF36 rfl (by unfold objF; simp [dig_ne]) (by have := objF_len i (prO (os[i]'hi)) oO; omega) hB38.size rfl (fun pq cq wq hoq hbq => ?_)
 have hBq := Below.trans hB38 hbq
 have hoq2 : OwnB 5 w.heap.size wq pq _ cq (headB_ os i ++ objF i (prO (os[i]'hi))) := ⟨rfl, .inl hoq⟩
 have hlxq := (hv37).below hbq hrl
 have hfxq := AInv.same (w1 := wq) hF35 (fun k hk _ => hbq.block k hk)
 refine WL.nil <| ?_
 refine ⟨⟨hlxq, trivial⟩, ?_⟩
 refine WH.tp 13 rfl (.as rfl) ⟨hlxq, trivial⟩ rfl ?_
 refine WH.done kR ?_
 refine W.seq ?_
 have hsn := headB_snoc os i hi
 have hfb2 := hoq2
 rw [hsn] at hfb2
 rw [hsn]
 refine W.reg <| WL.m rfl rfl <| WL.p (.lenS underlying26 rfl) rfl <| WL.p (.gtr rfl rfl) rfl <| WL.nil <| ?_
 refine W.cond rfl (fun h39 => ?_) (fun h39 => ?_)
 have h39' := dT h39
 refine W.sr <| WL.a rfl rfl <| WL.z rfl rfl ?_
 refine W.ret (W.ret2 rfl rfl rfl ?_)
 first
 | exact ⟨(none, 0, 0, 22), rfl, hBq, WrA.no dD (fun _ h1 h2 _ => by omega)⟩
 | exact ⟨(none, 0, 0, 22), rfl, hBq, WrA.no dD (fun g _ _ _ => hsb g)⟩
 | exact ⟨(none, 0, 0, 25), rfl, hBq, WrA.no dD (fun _ _ _ h3 => by have := headB_le os (i + 1); omega)⟩
 | exact ⟨(none, 0, 0, 25), rfl, hBq, WrA.no dD (fun _ _ _ h3 => by omega)⟩
 | exact ⟨(pe, (fileO os).length, ce, 0), rfl, hBq, ⟨fun _ _ _ _ => rfl, fun _ => ⟨rfl, hb1, hb3, hb2, hsnd, by omega, by omega, FACT⟩⟩⟩
 have h39' := dF h39
 refine W.skip <| W.reg <| WL.m rfl rfl <| WL.p (.iis (((i + 1 : Nat) : Int)) (.add rfl rfl (i64w oO)) oO) rfl <| WL.z rfl rfl ?_
 exact ⟨(pq, cq, i + 1), ⟨rfl, rfl, rfl, rfl, rfl, rfl, trivial⟩, ⟨hBq, hlxq, hfxq, hfb2, by ((try simp only) <;> omega), by ((try simp only) <;> omega)⟩, by ((try simp only) <;> omega)⟩
 have h18' := dF h18
 refine W.exit <| W.seq ?_
 obtain rfl : i = os.length := by omega
 have hdl2 := digitsL_len 9 (os.length + 1) oO
 have hdl3 := digitsL_len 9 (headB_ os os.length).length oO
 rw [hlen]
 refine W.reg <| WL.m rfl rfl <| WL.p (.lenS underlying26 rfl) rfl <| WL.z rfl rfl ?_
 refine W.sr <| WL.m rfl rfl <| WL.p (.lenS underlying22 rfl) rfl <| WL.p (.iis (((os.length + 1 : Nat) : Int)) (.add rfl rfl (i64w oO)) oO) rfl <| WL.c1 hb18 rfl rfl ((by have q := ref_DecT ((os.length + 1 : Nat) : Int) w1 oO oO; rw [decN_dig] at q; exact q)) (fun w40 hw40 => ?_)
 have hF42 := OwnB.same (w1 := w40) p4 (fun k hk hl => hw40.block k hl)
 have hB44 := btr p1 hw40
 refine WL.z rfl rfl ?_
 refine W.sr <| WL.m rfl rfl <| WL.m rfl rfl <| WL.p (.cat rfl rfl (by simp only [List.length_append, List.length_cons, List.length_nil]; omega)) rfl <| WL.p (.cat rfl rfl (by simp only [List.length_append, List.length_cons, List.length_nil]; omega)) rfl <| WL.m rfl rfl <| WL.p (.cat rfl rfl (by simp only [List.length_append, List.length_cons, List.length_nil]; omega)) rfl <| WL.p (.cat rfl rfl (by simp only [List.length_append, List.length_cons, List.length_nil]; omega)) rfl <| WL.m rfl rfl <| WL.p (.cat rfl rfl (by simp only [List.length_append, List.length_cons, List.length_nil]; omega)) rfl <| WL.p (.cat rfl rfl (by simp only [List.length_append, List.length_cons, List.length_nil]; omega)) rfl <| WL.m rfl rfl <| WL.c1 hb18 rfl rfl ((by have q := ref_DecT ((headB_ os os.length).length : Int) w40 oO oO; rw [decN_dig] at q; exact q)) (fun w45 hw45 => ?_)
 have hF47 := OwnB.same (w1 := w45) hF42 (fun k hk hl => hw45.block k hl)
 have hB49 := btr hB44 hw45
 refine WL.p (.cat rfl rfl (by simp only [List.length_append, List.length_cons, List.length_nil]; omega)) rfl <| WL.p (.cat rfl rfl (by simp only [List.length_append, List.length_cons, List.length_nil]; omega)) rfl <| WL.appX underlying26 underlying9 inf5 rfl hF47 rfl (by simp) (by simp only [List.length_append, List.length_cons, List.length_nil]; omega) hB49.size rfl (fun pe ce we hoe hbe => ?_)
 have hBe := Below.trans hB49 hbe
 have hoe2 : DOwn (fun k => w.heap.size ≤ k) we _ _ := ⟨hoe.baseB (Nat.zero_le _), fun g hg => (hoe.ltB g hg).1⟩
 have hbe2 := hoe.bytesC
 refine WL.z rfl rfl ?_
 refine W.seq <| W.seq ?_
 have hfb2 := hoe2
 rw [fileO_eq] at hfb2 hbe2
 rw [fileO_eq]
 obtain ⟨pe', ce', hve, hb1, hb2, hb3, -⟩ := hbe2
 simp only [Value.slice.injEq] at hve
 obtain ⟨rfl, -, rfl⟩ := hve
 refine W.reg <| WL.m rfl rfl <| WL.p (.lenS underlying26 rfl) rfl <| WL.p (.gtr rfl rfl) rfl <| WL.nil <| ?_
 refine W.cond rfl (fun h50 => ?_) (fun h50 => ?_)
 have h50' := dT h50
 refine W.sr <| WL.a rfl rfl <| WL.z rfl rfl ?_
 refine W.ret (W.ret2 rfl rfl rfl ?_)
 first
 | exact ⟨(none, 0, 0, 22), rfl, hBe, WrA.no dD (fun _ h1 h2 _ => by omega)⟩
 | exact ⟨(none, 0, 0, 22), rfl, hBe, WrA.no dD (fun g _ _ _ => hsb g)⟩
 | exact ⟨(none, 0, 0, 25), rfl, hBe, WrA.no dD (fun _ _ _ h3 => by have := headB_le os (i + 1); omega)⟩
 | exact ⟨(none, 0, 0, 25), rfl, hBe, WrA.no dD (fun _ _ _ h3 => by omega)⟩
 | exact ⟨(pe, (fileO os).length, ce, 0), rfl, hBe, ⟨fun _ _ _ _ => rfl, fun _ => ⟨rfl, hb1, hb3, hb2, hsnd, by omega, by omega, hfb2⟩⟩⟩
 have h50' := dF h50
 refine W.skip <| W.sr <| WL.m rfl rfl <| WL.a rfl rfl <| WL.z rfl rfl ?_
 refine W.ret (W.ret2 rfl rfl rfl ?_)
 first
 | exact ⟨(none, 0, 0, 22), rfl, hBe, WrA.no dD (fun _ h1 h2 _ => by omega)⟩
 | exact ⟨(none, 0, 0, 22), rfl, hBe, WrA.no dD (fun g _ _ _ => hsb g)⟩
 | exact ⟨(none, 0, 0, 25), rfl, hBe, WrA.no dD (fun _ _ _ h3 => by have := headB_le os (i + 1); omega)⟩
 | exact ⟨(none, 0, 0, 25), rfl, hBe, WrA.no dD (fun _ _ _ h3 => by omega)⟩
 | exact ⟨(pe, (fileO os).length, ce, 0), rfl, hBe, ⟨fun _ _ _ _ => rfl, fun _ => ⟨rfl, hb1, hb3, hb2, hsnd, by omega, by omega, hfb2⟩⟩⟩
end
section
theorem law23_small : ∀ (n : Nat) (o : AV), SizeOf.sizeOf o < n → ∀ (x : AC) (S : Nat → Prop) (D : Int) (w : World), ARep w S x o → -1 ≤ D → D ≤ 100 →
  Calls Tryz.prog 7 #[.agg (acV x).toArray, .int .i64 D] w fun e w' => ∃ b : { b : Bool // b = true → o.list.length ≤ 100 }, e = .returned (.bool b.1) ∧ Below w.heap.size w w' := by
 intro n
 induction n with
 | zero => intro o h; omega
 | succ n ih =>
 intro o hn x S D w hx hD hD2
 obtain ⟨keys, list, data, cs, rfl, ok, hkl, hk, hks, hr, hrs, hd, hds, hcl, hsub⟩ := hx.inv
 obtain ⟨k, i, s, kp, kl, kc, lp, ll, lc, dp, dl, dc⟩ := x
 have e1 := ok.kl; have e2 := ok.ll; have e3 := ok.dl
 have m1 := ok.kc; have m2 := ok.lc; have m3 := ok.dc; have m4 := ok.km; have m5 := ok.lm; have m6 := ok.dm; have m7 := ok.text
 simp only at e1 e2 e3 m1 m2 m3 m4 m5 m6 m7 hk hr hd hrs
 subst e1; subst e2; subst e3
 simp only [AV.mk.sizeOf_spec] at hn
 have hsz : ∀ j (h : j < list.length), SizeOf.sizeOf list[j] < n := fun j h => by have := List.sizeOf_lt_of_mem (List.getElem_mem h); omega
 have hs0 : AInv w S cs list := ⟨hcl, hsub⟩
 simp only [acV]
 refine W.enter func7 rfl ntmps7 (Nat.le_of_ble_eq_true rfl) ?_
 have hB0 := Below.refl (w.heap.size) w
 refine W.sr <| WL.box rfl rfl (fun b1 wb1 eb1 hkb1 hub1 hsb1 => ?_)
 have hF2 := AInv.same (w1 := wb1) hs0 (fun k hk hl => hub1.other k oO)
 have hvl4 := fun h0 => eb1 ▸ hr.lt h0
 have hv3 := RowM.upd hr hub1 (fun h0 => Nat.ne_of_lt (hvl4 h0))
 have hvl6 := fun h0 => eb1 ▸ hk.lt h0
 have hv5 := RowAt.upd hk hub1 (fun h0 => Nat.ne_of_lt (hvl6 h0))
 have hB7 := Upd.below hB0 (by rw [eb1]; exact hB0.size) hub1
 have hgeb1 : w.heap.size ≤ b1 := by rw [eb1]; exact hB0.size
 refine WL.z rfl rfl ?_
 refine W.seq <| W.sr <| WL.m rfl rfl <| WL.p (.lss rfl rfl) rfl <| WL.m rfl rfl <| WL.gd rfl rfl rfl (fun g8 => ?_) (fun g8 => ?_)
 have g8' := dF g8
 refine WL.p (.fa underlying28 rfl sizeOf22 dD rfl) rfl <| WL.gy rfl rfl rfl g8 <| WL.r (Rd.ld (isAgg22 _) rfl hkb1 rfl) rfl <| WL.gy rfl rfl rfl g8 <| WL.p (.lenS underlying22 rfl) rfl <| WL.gy rfl rfl rfl g8 <| WL.p (.gtr rfl rfl) rfl <| WL.p (.pkF rfl g8 rfl) rfl <| WL.m rfl rfl <| WL.gd rfl rfl rfl (fun g9 => ?_) (fun g9 => ?_)
 have g9' := dF g9
 refine WL.p (.fa underlying28 rfl sizeOf25 dD rfl) rfl <| WL.gy rfl rfl rfl g9 <| WL.r (Rd.ld (isAgg25 _) rfl hkb1 rfl) rfl <| WL.gy rfl rfl rfl g9 <| WL.p (.lenS underlying25 rfl) rfl <| WL.gy rfl rfl rfl g9 <| WL.p (.gtr rfl rfl) rfl <| WL.p (.pkF rfl g9 rfl) rfl <| WL.m rfl rfl <| WL.gd rfl rfl rfl (fun g10 => ?_) (fun g10 => ?_)
 have g10' := dF g10
 refine WL.p (.fa underlying28 rfl sizeOf9 dD rfl) rfl <| WL.gy rfl rfl rfl g10 <| WL.r (Rd.ld (isAgg9 _) rfl hkb1 rfl) rfl <| WL.gy rfl rfl rfl g10 <| WL.p (.len underlying9 rfl) rfl <| WL.gy rfl rfl rfl g10 <| WL.p (.gtr rfl rfl) rfl <| WL.p (.pkF rfl g10 rfl) rfl <| WL.m rfl rfl <| WL.gd rfl rfl rfl (fun g11 => ?_) (fun g11 => ?_)
 have g11' := dF g11
 refine WL.p (.fa underlying28 rfl sizeOf26 dD rfl) rfl <| WL.gy rfl rfl rfl g11 <| WL.r (Rd.ld (isAgg26 _) rfl hkb1 rfl) rfl <| WL.gy rfl rfl rfl g11 <| WL.p (.lenS underlying26 rfl) rfl <| WL.gy rfl rfl rfl g11 <| WL.p (.gtr rfl rfl) rfl <| WL.p (.pkF rfl g11 rfl) rfl <| WL.nil <| ?_
 refine W.cond rfl (fun h12 => ?_) (fun h12 => ?_)
 have h12' := dT h12
 refine W.sr <| WL.z rfl rfl ?_
 refine W.ret (W.ret1 rfl rfl ?_)
 first
 | exact ⟨⟨false, fun h => by cases h⟩, rfl, hB7⟩
 | exact ⟨⟨true, fun _ => by show list.length ≤ 100; omega⟩, rfl, hB7⟩
 have h12' := dF h12
 refine W.skip <| W.seq <| W.sr <| WL.z rfl rfl ?_
 refine W.block ?_
 refine W.loop (α := Nat) (fun t => [(1, .int .i64 D), (2, .pointer (some ⟨b1, 0, none⟩)), (5, .int .i64 (t : Int))]) (fun t w' => Below w.heap.size w w' ∧ Blk w' b1 #[.int .i64 k, .int .i64 i, .string (bs s), .slice kp keys.length kc, .slice lp cs.length lc, .slice dp data.length dc] 28 ∧ RowM acL w' lp cs ∧ RowAt strV w' kp keys ∧ AInv w' S cs list ∧ t ≤ keys.length) (fun t => keys.length - t) (0) ⟨rfl, rfl, rfl, trivial⟩ (⟨hB7, hkb1, hv3, hv5, hF2, Nat.zero_le _⟩) (fun t w1 hR => ?_)
 obtain ⟨i0, rfl⟩ : ∃ i, i = t := ⟨t, rfl⟩
 obtain ⟨hT1, hk1, hlx1, hkx1, hf1, ht⟩ := hR
 refine W.seq <| W.sr <| WL.m rfl rfl <| WL.p (.fa underlying28 rfl sizeOf25 dD rfl) rfl <| WL.r (Rd.ld (isAgg25 _) rfl hk1 rfl) rfl <| WL.p (.lenS underlying25 rfl) rfl <| WL.p (.lss rfl rfl) rfl <| WL.nil <| ?_
 refine W.cond rfl (fun h13 => ?_) (fun h13 => ?_)
 have h13' := dT h13
 refine W.skip <| W.seq <| W.block <| W.sr <| WL.p (.fa underlying28 rfl sizeOf25 dD rfl) rfl <| WL.r (Rd.ld (isAgg25 _) rfl hk1 rfl) rfl <| WL.m rfl rfl <| WL.p (.ixb underlying25 sizeOf9 rfl rfl (hkx1.isp oO) (i0) (rfl) oO) rfl <| WL.r (Rd.ldc (isAgg9 _) rfl (hkx1.cells (i0) oO)) rfl <| WL.p (.len underlying9 rfl) rfl <| WL.p (.gtr rfl rfl) rfl <| WL.nil <| ?_
 refine W.cond rfl (fun h14 => ?_) (fun h14 => ?_)
 have h14' := dT h14
 refine W.sr <| WL.z rfl rfl ?_
 refine W.ret (W.ret1 rfl rfl ?_)
 first
 | exact ⟨⟨false, fun h => by cases h⟩, rfl, hT1⟩
 | exact ⟨⟨true, fun _ => by show list.length ≤ 100; omega⟩, rfl, hT1⟩
 have h14' := dF h14
 refine W.skip <| W.reg <| WL.m rfl rfl <| WL.p (.iis (((i0 + 1 : Nat) : Int)) (.add rfl rfl (i64w oO)) oO) rfl <| WL.z rfl rfl ?_
 exact ⟨i0 + 1, ⟨rfl, rfl, rfl, trivial⟩, ⟨hT1, hk1, hlx1, hkx1, hf1, by ((try simp only) <;> omega)⟩, by ((try simp only) <;> omega)⟩
 have h13' := dF h13
 refine W.exit <| W.seq <| W.sr <| WL.z rfl rfl ?_
 refine W.block ?_
 refine W.loop (α := Nat) (fun t => [(1, .int .i64 D), (2, .pointer (some ⟨b1, 0, none⟩)), (6, .int .i64 (t : Int))]) (fun t w' => Below w.heap.size w w' ∧ Blk w' b1 #[.int .i64 k, .int .i64 i, .string (bs s), .slice kp keys.length kc, .slice lp cs.length lc, .slice dp data.length dc] 28 ∧ RowM acL w' lp cs ∧ AInv w' S cs list ∧ t ≤ cs.length) (fun t => cs.length - t) (0) ⟨rfl, rfl, rfl, trivial⟩ (⟨hT1, hk1, hlx1, hf1, Nat.zero_le _⟩) (fun t w1 hR => ?_)
 obtain ⟨i1, rfl⟩ : ∃ i, i = t := ⟨t, rfl⟩
 obtain ⟨hT2, hk2, hlx2, hf2, ht2⟩ := hR
 refine W.seq <| W.sr <| WL.m rfl rfl <| WL.p (.fa underlying28 rfl sizeOf22 dD rfl) rfl <| WL.r (Rd.ld (isAgg22 _) rfl hk2 rfl) rfl <| WL.p (.lenS underlying22 rfl) rfl <| WL.p (.lss rfl rfl) rfl <| WL.nil <| ?_
 refine W.cond rfl (fun h15 => ?_) (fun h15 => ?_)
 have h15' := dT h15
 refine W.skip <| W.seq <| W.block <| W.sr <| WL.p (.fa underlying28 rfl sizeOf22 dD rfl) rfl <| WL.r (Rd.ld (isAgg22 _) rfl hk2 rfl) rfl <| WL.m rfl rfl <| WL.p (.ixm underlying22 sizeOf28 rfl rfl (hlx2.isp (by first | omega | (simp only [List.length_cons, List.length_nil]; omega))) (i1) (rfl) oO) rfl <| WL.r (Rd.ldS underlying28 rfl isz28 hlx2 (i1) (by first | omega | (simp only [List.length_cons, List.length_nil]; omega)) rfl) rfl <| WL.m rfl rfl <| WL.p (.sub rfl rfl (i64w oO)) rfl <| WL.call hb7 rfl rfl ((ih (list[i1]'oO) (hsz i1 oO) _ S (D - 1) _ ((hf2).sub i1 oO oO) oO oO)) (fun qb w16 hw16 => ?_)
 have hF17 := AInv.same (w1 := w16) hf2 (fun k hk hl => hw16.block k hl)
 have hk18 := hk2.below hw16 hk2.lt
 have hv19 := RowM.below hlx2 hw16 (fun h0 => hlx2.lt h0)
 have hB20 := btr hT2 hw16
 refine WL.p (.not rfl) rfl <| WL.nil <| ?_
 refine W.cond rfl (fun h21 => ?_) (fun h21 => ?_)
 have h21' := (nT h21)
 refine W.sr <| WL.z rfl rfl ?_
 refine W.ret (W.ret1 rfl rfl ?_)
 first
 | exact ⟨⟨false, fun h => by cases h⟩, rfl, hB20⟩
 | exact ⟨⟨true, fun _ => by show list.length ≤ 100; omega⟩, rfl, hB20⟩
 have h21' := (nF h21)
 refine W.skip <| W.reg <| WL.m rfl rfl <| WL.p (.iis (((i1 + 1 : Nat) : Int)) (.add rfl rfl (i64w oO)) oO) rfl <| WL.z rfl rfl ?_
 exact ⟨i1 + 1, ⟨rfl, rfl, rfl, trivial⟩, ⟨hB20, hk18, hv19, hF17, by ((try simp only) <;> omega)⟩, by ((try simp only) <;> omega)⟩
 have h15' := dF h15
 refine W.exit <| W.sr <| WL.z rfl rfl ?_
 refine W.ret (W.ret1 rfl rfl ?_)
 first
 | exact ⟨⟨false, fun h => by cases h⟩, rfl, hT2⟩
 | exact ⟨⟨true, fun _ => by show list.length ≤ 100; omega⟩, rfl, hT2⟩
 have g11' := dT g11
 refine WL.gn rfl rfl rfl g11 <| WL.gn rfl rfl rfl g11 <| WL.gn rfl rfl rfl g11 <| WL.p (.pkT rfl g11 rfl) rfl <| WL.nil <| ?_
 refine W.condT rfl rfl ?_
 refine W.sr <| WL.z rfl rfl ?_
 refine W.ret (W.ret1 rfl rfl ?_)
 first
 | exact ⟨⟨false, fun h => by cases h⟩, rfl, hB7⟩
 | exact ⟨⟨true, fun _ => by show list.length ≤ 100; omega⟩, rfl, hB7⟩
 have g10' := dT g10
 refine WL.gn rfl rfl rfl g10 <| WL.gn rfl rfl rfl g10 <| WL.gn rfl rfl rfl g10 <| WL.p (.pkT rfl g10 rfl) rfl <| WL.m rfl rfl <| WL.gn rfl rfl rfl rfl <| WL.gn rfl rfl rfl rfl <| WL.gn rfl rfl rfl rfl <| WL.gn rfl rfl rfl rfl <| WL.p (.pkT rfl rfl rfl) rfl <| WL.nil <| ?_
 refine W.condT rfl rfl ?_
 refine W.sr <| WL.z rfl rfl ?_
 refine W.ret (W.ret1 rfl rfl ?_)
 first
 | exact ⟨⟨false, fun h => by cases h⟩, rfl, hB7⟩
 | exact ⟨⟨true, fun _ => by show list.length ≤ 100; omega⟩, rfl, hB7⟩
 have g9' := dT g9
 refine WL.gn rfl rfl rfl g9 <| WL.gn rfl rfl rfl g9 <| WL.gn rfl rfl rfl g9 <| WL.p (.pkT rfl g9 rfl) rfl <| WL.m rfl rfl <| WL.gn rfl rfl rfl rfl <| WL.gn rfl rfl rfl rfl <| WL.gn rfl rfl rfl rfl <| WL.gn rfl rfl rfl rfl <| WL.p (.pkT rfl rfl rfl) rfl <| WL.m rfl rfl <| WL.gn rfl rfl rfl rfl <| WL.gn rfl rfl rfl rfl <| WL.gn rfl rfl rfl rfl <| WL.gn rfl rfl rfl rfl <| WL.p (.pkT rfl rfl rfl) rfl <| WL.nil <| ?_
 refine W.condT rfl rfl ?_
 refine W.sr <| WL.z rfl rfl ?_
 refine W.ret (W.ret1 rfl rfl ?_)
 first
 | exact ⟨⟨false, fun h => by cases h⟩, rfl, hB7⟩
 | exact ⟨⟨true, fun _ => by show list.length ≤ 100; omega⟩, rfl, hB7⟩
 have g8' := dT g8
 refine WL.gn rfl rfl rfl g8 <| WL.gn rfl rfl rfl g8 <| WL.gn rfl rfl rfl g8 <| WL.p (.pkT rfl g8 rfl) rfl <| WL.m rfl rfl <| WL.gn rfl rfl rfl rfl <| WL.gn rfl rfl rfl rfl <| WL.gn rfl rfl rfl rfl <| WL.gn rfl rfl rfl rfl <| WL.p (.pkT rfl rfl rfl) rfl <| WL.m rfl rfl <| WL.gn rfl rfl rfl rfl <| WL.gn rfl rfl rfl rfl <| WL.gn rfl rfl rfl rfl <| WL.gn rfl rfl rfl rfl <| WL.p (.pkT rfl rfl rfl) rfl <| WL.m rfl rfl <| WL.gn rfl rfl rfl rfl <| WL.gn rfl rfl rfl rfl <| WL.gn rfl rfl rfl rfl <| WL.gn rfl rfl rfl rfl <| WL.p (.pkT rfl rfl rfl) rfl <| WL.nil <| ?_
 refine W.condT rfl rfl ?_
 refine W.sr <| WL.z rfl rfl ?_
 refine W.ret (W.ret1 rfl rfl ?_)
 first
 | exact ⟨⟨false, fun h => by cases h⟩, rfl, hB7⟩
 | exact ⟨⟨true, fun _ => by show list.length ≤ 100; omega⟩, rfl, hB7⟩
end
section
theorem Objs.of {G : Prop} {w0 w : World} {os : List AV} {p : Option Addr} {n c : Nat} (h : WrA G w0 w os p n c 0) (hs : ∀ o ∈ os, o.list.length ≤ 100) : Objs os := by
 obtain ⟨-, -, -, -, h1, h2, h3, -⟩ := h.ok rfl
 exact ⟨h1, hs, h2, h3⟩
theorem pread_OpenA (os : List AV) (H : Objs os) (p : Option Addr) (n c : Nat) (w : World) (hn : n = (fileO os).length) (hb : BytesAt w p (fileO os)) (hc : (fileO os).length ≤ c) :
  Calls Tryz.prog 9 #[.slice p n c] w fun e w' => ∃ bf, e = .returned (.tuple #[.pointer (some ⟨bf, 0, none⟩), .int .i64 0]) ∧ FileAt (fun k => w.heap.size ≤ k) w' bf (fileO os) (placeO os) ∧ Below w.heap.size w w' := by
 subst hn
 exact pread_Open p c (os.map prO) w hb hc H.size (by rw [List.length_map]; exact H.len)
theorem pread_LenA (bf : Nat) (S : Nat → Prop) (os : List AV) (w : World) (h : FileAt S w bf (fileO os) (placeO os)) :
  Calls Tryz.prog 10 #[.pointer (some ⟨bf, 0, none⟩)] w fun e w' => e = .returned (.int .i64 (os.length : Int)) ∧ w = w' := by
 obtain ⟨p, c, bm, y, h1, -, -, -, -, h5, -, -⟩ := h
 rw [← placeO_len os]
 exact pread_Len bf bm _ _ _ _ w h1 rfl h5
theorem r18_sound2 (n D : Int) (st : Bool) (w : World) (hn : fitsB n = true) : Calls Tryz.prog 40 #[.agg (acV (acOf (pc0 2 n []))).toArray, .int .i64 D, .bool st] w fun e w' => e = .returned (.bool true) ∧ Below w.heap.size w w' := by
 simp only [acV, acOf, pc0]
 refine W.enter func40 rfl ntmps40 (Nat.le_of_ble_eq_true rfl) ?_
 have hB0 := Below.refl (w.heap.size) w
 refine W.sr <| WL.box rfl rfl (fun b1 wb1 eb1 hkb1 hub1 hsb1 => ?_)
 have hB2 := Upd.below hB0 (by rw [eb1]; exact hB0.size) hub1
 have hgeb1 : w.heap.size ≤ b1 := by rw [eb1]; exact hB0.size
 refine WL.z rfl rfl ?_
 refine W.sr <| WL.p (.fa underlying28 rfl sizeOf3 dD rfl) rfl <| WL.r (Rd.ld (isAgg3 _) rfl hkb1 rfl) rfl <| WL.p (.eql rfl rfl) rfl <| WL.z rfl rfl ?_
 refine W.sr <| WL.p (.fa underlying28 rfl sizeOf9 dD rfl) rfl <| WL.r (Rd.ld (isAgg9 _) rfl hkb1 rfl) rfl <| WL.p (.bis (true) (.eqs rfl rfl) dD) rfl <| WL.z rfl rfl ?_
 refine W.sr <| WL.p (.fa underlying28 rfl sizeOf25 dD rfl) rfl <| WL.r (Rd.ld (isAgg25 _) rfl hkb1 rfl) rfl <| WL.p (.lenS underlying25 rfl) rfl <| WL.p (.bis (true) (.eql rfl rfl) dD) rfl <| WL.z rfl rfl ?_
 refine W.sr <| WL.p (.fa underlying28 rfl sizeOf22 dD rfl) rfl <| WL.r (Rd.ld (isAgg22 _) rfl hkb1 rfl) rfl <| WL.p (.lenS underlying22 rfl) rfl <| WL.p (.bis (true) (.eql rfl rfl) dD) rfl <| WL.z rfl rfl ?_
 refine W.sr <| WL.p (.fa underlying28 rfl sizeOf26 dD rfl) rfl <| WL.r (Rd.ld (isAgg26 _) rfl hkb1 rfl) rfl <| WL.p (.lenS underlying26 rfl) rfl <| WL.p (.bis (true) (.eql rfl rfl) dD) rfl <| WL.z rfl rfl ?_
 refine W.seq <| W.sr <| WL.p (.fa underlying28 rfl sizeOf3 dD rfl) rfl <| WL.r (Rd.ld (isAgg3 _) rfl hkb1 rfl) rfl <| WL.nil <| ?_
 refine W.block <| W.sr <| WL.p (.bis (false) (.eql rfl rfl) dD) rfl <| WL.z rfl rfl ?_
 refine W.condF rfl rfl ?_
 refine W.sr <| WL.p (.bis (false) (.eql rfl rfl) dD) rfl <| WL.z rfl rfl ?_
 refine W.condF rfl rfl ?_
 refine W.seq <| W.sr <| WL.p (.bis (true) (.eql rfl rfl) dD) rfl <| WL.z rfl rfl ?_
 refine W.condT rfl rfl ?_
 refine W.skip <| W.condT rfl rfl ?_
 refine W.sr <| WL.p (.fa underlying28 rfl sizeOf3 dD rfl) rfl <| WL.r (Rd.ld (isAgg3 _) rfl hkb1 rfl) rfl <| WL.c1 hb60 rfl rfl ((by have q := ref_fits n wb1; rw [hn] at q; exact q)) (fun w3 hw3 => ?_)
 obtain rfl := hw3
 refine WL.m rfl rfl <| WL.gy rfl rfl rfl rfl <| WL.m rfl rfl <| WL.p (.pkT rfl rfl rfl) rfl <| WL.m rfl rfl <| WL.gy rfl rfl rfl rfl <| WL.m rfl rfl <| WL.p (.pkT rfl rfl rfl) rfl <| WL.m rfl rfl <| WL.gy rfl rfl rfl rfl <| WL.m rfl rfl <| WL.p (.pkT rfl rfl rfl) rfl <| WL.m rfl rfl <| WL.gy rfl rfl rfl rfl <| WL.m rfl rfl <| WL.p (.pkT rfl rfl rfl) rfl <| WL.z rfl rfl ?_
 refine W.ret (W.ret1 rfl rfl ?_)
 exact ⟨rfl, hB2⟩
theorem r18_Sound2 (n : Int) (w : World) (hn : fitsB n = true) : Calls Tryz.prog 16 #[.agg (acV (acOf (pc0 2 n []))).toArray] w fun e w' => e = .returned (.bool true) ∧ Below w.heap.size w w' := by
 refine W.enter func16 rfl ntmps16 (Nat.le_of_ble_eq_true rfl) ?_
 have hB0 := Below.refl (w.heap.size) w
 refine W.sr <| WL.box rfl rfl (fun b1 wb1 eb1 hkb1 hub1 hsb1 => ?_)
 have hB2 := Upd.below hB0 (by rw [eb1]; exact hB0.size) hub1
 have hgeb1 : w.heap.size ≤ b1 := by rw [eb1]; exact hB0.size
 refine WL.z rfl rfl ?_
 refine W.sr <| WL.r (Rd.ldA rfl hkb1 underlying28 rfl isz28) rfl <| WL.c1 hb40 rfl rfl ((r18_sound2 n _ _ _ hn)) (fun w3 hw3 => ?_)
 have hB5 := btr hB2 hw3
 refine WL.z rfl rfl ?_
 refine W.ret (W.ret1 rfl rfl ?_)
 exact ⟨rfl, hB5⟩
theorem ref_WriteA (lp : Option Addr) (ys : List AC) (os : List AV) (lc : Nat) (S : Nat → Prop) (w : World) (hr : RowM acL w lp ys) (hc : ys.length ≤ lc) (hA : AInv w S ys os) (hbk : ∀ o ∈ os, Snd 32 true o → (prO o).length ≤ 50000000) :
  Calls Tryz.prog 8 #[.slice lp ys.length lc] w fun e w' => ∃ x : Option Addr × Nat × Nat × Int, e = .returned (.tuple #[.slice x.1 x.2.1 x.2.2.1, .int .i64 x.2.2.2]) ∧ Below w.heap.size w w' ∧ WrA False w w' os x.1 x.2.1 x.2.2.1 x.2.2.2 :=
 ref_Write lp ys os lc S w hr hc hA hbk False fun i h h2 w1 ha => (r18_SoundA _ _ _ w1 ha).mono fun e w' ⟨b, h1, h2⟩ => ⟨⟨b.1, b.2, False.elim⟩, h1, h2⟩
theorem fileO_len (os : List AV) (L : Nat) (h : ∀ o ∈ os, (prO o).length ≤ L) (hn : os.length ≤ 4096) (hL : L ≤ 100000) : (fileO os).length ≤ 200 + os.length * (L + 50) := by
 have hb : ∀ (l : List AV) (k : Nat), (∀ o ∈ l, (prO o).length ≤ L) → k + l.length ≤ 9000 → (bodyF k (l.map prO)).length ≤ l.length * (L + 30) := by
  intro l
  induction l with
  | nil => intro k _ _; simp [bodyF]
  | cons o r ih =>
   intro k h1 h2
   simp only [List.length_cons] at h2
   have i1 := ih (k + 1) (fun o ho => h1 o (by simp [ho])) oO
   have i2 := h1 o (by simp)
   have i3 := objF_len k (prO o) oO
   simp only [List.map_cons, bodyF, List.length_append, List.length_cons, Nat.succ_mul]
   omega
 have h0 := hb os 0 h oO
 have hm : os.length * (L + 30) ≤ 4096 * (L + 30) := Nat.mul_le_mul_right _ hn
 have hple : ∀ n ∈ placeF 9 0 (os.map prO), n < 10000000000 := fun n hn => by
  have := placeF_le _ _ _ n hn
  omega
 have ht := tableF_len _ hple
 rw [placeF_len, List.length_map] at ht
 have d1 := digitsL_len 9 (os.length + 1) oO
 have d2 := digitsL_len 9 (9 + (bodyF 0 (os.map prO)).length) oO
 have e : os.length * (L + 50) = os.length * (L + 30) + 20 * os.length := by rw [Nat.mul_add, Nat.mul_add]; omega
 unfold fileO fileF
 simp only [List.length_append, List.length_cons, List.length_map, ht, f_head, f_xref, f_trailer, f_start, f_eof, List.length_nil]
 omega
theorem law23_answers (w : World) : Calls Tryz.prog 6 #[] w fun e w' => e = .returned (.bool true) ∧ Below w.heap.size w w' := by
 obtain ⟨o5, ho5⟩ : ∃ o, o = AV.mk 2 5 [] [] [] [] := ⟨_, rfl⟩
 have hs5 : Snd 32 true o5 := by subst ho5; exact .num _ _ _ _ (.inl rfl) dD
 have hp5 : ∀ o ∈ [o5], (prO o).length ≤ 1000 := fun o ho => by
  rw [List.mem_singleton] at ho; subst ho
  have := pr_len hs5; subst ho5; simp [bkO, bkL, bkK] at this; omega
 have hl5 := fileO_len [o5] 1000 hp5 (by simp) dD
 simp only [List.length_cons, List.length_nil] at hl5
 have hrep : ∀ (w1 : World) (S : Nat → Prop), AInv w1 S [acOf (pc0 2 5 [])] [o5] := fun w1 S => ⟨rfl, fun i h h2 => by
  have := (PRep.zero w1 S 2 5 []).rep (.mk _ _ _ _ _ dD (by simp) (by simp) (by simp))
  rw [show avO (pv0 2 5 []) = o5 by subst ho5; simp [pv0, avO, avL]] at this
  simp only [List.length_cons, List.length_nil] at h
  obtain rfl : i = 0 := by omega
  exact this⟩
 have hsd : ∀ (W : World) i (h : i < [acOf (pc0 2 5 [])].length) (h2 : i < [o5].length) (w1 : World), ARep w1 (fun k => k < W.heap.size) [acOf (pc0 2 5 [])][i] [o5][i] → Calls Tryz.prog 16 #[.agg (acV [acOf (pc0 2 5 [])][i]).toArray] w1 fun e w' => ∃ b : { b : Bool // (b = true → Snd 32 true [o5][i]) ∧ (True → b = true) }, e = .returned (.bool b.1) ∧ Below w1.heap.size w1 w' := fun W i h h2 w1 _ => by
  simp only [List.length_cons, List.length_nil] at h
  obtain rfl : i = 0 := by omega
  exact (r18_Sound2 5 w1 dD).mono fun e w' ⟨h1, h2⟩ => ⟨⟨true, fun _ => hs5, fun _ => rfl⟩, h1, h2⟩
 refine W.enter func6 rfl ntmps6 (Nat.le_of_ble_eq_true rfl) ?_
 have hB0 := Below.refl (w.heap.size) w
 refine W.sr <| WL.z rfl rfl ?_
 refine W.sr <| WL.p (.buildL (ps := _) blt28 rfl rfl rfl pS) rfl ?_
 refine WL.bslM (L := acL) (ps := _) ([acOf (pc0 2 5 [])]) underlying22 sizeOf28 zeroValue28 rfl rfl rfl rfl rfl (by first | rfl | decide) rfl rfl (fun b1 wb1 eb1 hob1 hub1 hsb1 => ?_)
 have hB2 := Upd.below hB0 (by rw [eb1]; exact hB0.size) hub1
 have hgeb1 : w.heap.size ≤ b1 := by rw [eb1]; exact hB0.size
 have hleb1 : b1 ≤ wb1.heap.size := by omega
 refine WL.call hb8 rfl rfl ((ref_Write _ [acOf (pc0 2 5 [])] [o5] _ (fun _ => True) _ (hob1).rowp (by simp) (hrep _ _) (fun o ho _ => by have := hp5 o ho; omega) True (hsd _))) (fun x w3 hw3 => ?_)
 have hle5 := Nat.le_trans hleb1 hw3.1.size
 have hB7 := btr hB2 hw3.1
 obtain ⟨xp, xn, xc, xe⟩ := x
 have hW := hw3.2
 simp only at hW ⊢
 obtain rfl : xe = 0 := hW.sure trivial (by simp) (by simp) oO
 obtain ⟨rfl, hxb, hxc, hxB, -⟩ := hW.ok rfl
 have H := Objs.of hW (by intro o ho; rw [List.mem_singleton] at ho; subst ho; subst ho5; simp [AV.list])
 refine WL.m rfl rfl <| WL.p (.ext rfl rfl) rfl <| WL.p (.ext rfl rfl) rfl <| WL.a rfl rfl <| WL.z rfl rfl ?_
 refine W.sr <| WL.m rfl rfl <| WL.call hb9 rfl rfl ((pread_OpenA [o5] H xp _ xc _ rfl hxb hxc)) (fun bf w8 hw8 => ?_)
 have hle10 := Nat.le_trans hle5 hw8.2.size
 have hB13 := btr hB7 hw8.2
 have hff := (hw8.1).mono (T := fun k => k < w8.heap.size) (fun k _ hk => hk)
 refine WL.m rfl rfl <| WL.p (.ext rfl rfl) rfl <| WL.p (.ext rfl rfl) rfl <| WL.a rfl rfl <| WL.z rfl rfl ?_
 refine W.seq <| W.sr <| WL.m rfl rfl <| WL.p (.bis (false) (.neq rfl rfl) dD) rfl <| WL.m rfl rfl <| WL.gy rfl rfl rfl rfl <| WL.m rfl rfl <| WL.gy rfl rfl rfl rfl <| WL.p (.bis (false) (.neq rfl rfl) dD) rfl <| WL.p (.pkF rfl rfl rfl) rfl <| WL.nil <| ?_
 refine W.condF rfl rfl ?_
 refine W.skip <| W.sr <| WL.m rfl rfl <| WL.call hb11 rfl rfl ((pread_ObjectA bf _ [o5] H 0 (by simp) _ hff)) (fun z w14 hw14 => ?_)
 have hle16 := Nat.le_trans hle10 hw14.2.size
 have hF17 := FileAt.same (w1 := w14) hff (fun k hk hl => hw14.2.block k hl)
 have hB20 := btr hB13 hw14.2
 have hszO := (hw14.2).size
 have hz1 := (hw14.1).1.nE
 have hz5 : z.n = 5 := by (rw [← hz1]); (subst ho5); rfl
 refine WL.m rfl rfl <| WL.p (.ext rfl rfl) rfl <| WL.p (.ext rfl rfl) rfl <| WL.alloc zeroValue28 rfl (fun b21 wb21 eb21 hkb21 hub21 hsb21 => ?_)
 have hle23 := Nat.le_trans hle16 hub21.size
 have hF24 := FileAt.same (w1 := wb21) hF17 (fun k hk hl => hub21.other k oO)
 have hB29 := Upd.below hB20 (by rw [eb21]; exact hB20.size) hub21
 have hgeb21 : w.heap.size ≤ b21 := by rw [eb21]; exact hB20.size
 refine WL.stL rfl rfl hkb21 isz28 rfl rfl (fun w30 hkw30 huw30 hsw30 => ?_)
 have hle32 := Nat.le_trans hle23 huw30.size
 have hF33 := FileAt.same (w1 := w30) hF24 (fun k hk hl => huw30.other k (by first | ((try simp only) <;> omega) | (have := hk.1; ((try simp only) <;> omega))))
 have hB36 := Upd.below hB29 oO huw30
 refine WL.z rfl rfl ?_
 refine W.sr <| WL.m rfl rfl <| WL.p (.bis (true) (.eql rfl rfl) dD) rfl <| WL.m rfl rfl <| WL.gy rfl rfl rfl rfl <| WL.p (.fa underlying28 rfl sizeOf3 dD rfl) rfl <| WL.gy rfl rfl rfl rfl <| WL.r (Rd.ld (isAgg3 _) rfl hkw30 rfl) rfl <| WL.gy rfl rfl rfl rfl <| WL.p (.bis (true) (.eql rfl rfl) (by exact decide_eq_true hz5)) rfl <| WL.p (.pkT rfl rfl rfl) rfl <| WL.m rfl rfl <| WL.gy rfl rfl rfl rfl <| WL.m rfl rfl <| WL.gy rfl rfl rfl rfl <| WL.c1 hb10 rfl rfl ((pread_LenA bf _ [o5] _ hF33)) (fun w37 hw37 => ?_)
 obtain rfl := hw37
 refine WL.gy rfl rfl rfl rfl <| WL.p (.bis (true) (.eql rfl rfl) (by exact decide_eq_true (by simp))) rfl <| WL.p (.pkT rfl rfl rfl) rfl <| WL.z rfl rfl ?_
 refine W.ret (W.ret1 rfl rfl ?_)
 exact ⟨rfl, hB36⟩
theorem bk_mem : ∀ (l : List AV) (o : AV), o ∈ l → bkO o ≤ bkL l
 | a :: r, o, h => by
  rcases List.mem_cons.1 h with rfl | h
  ·
   rw [bkL]; omega
  ·
   have := bk_mem r o h; rw [bkL]; omega
theorem bk_pr {os : List AV} (hb : bkL os ≤ 1048576) : ∀ o ∈ os, Snd 32 true o → (prO o).length ≤ 50000000 := fun o ho hs => by
 have h1 := pr_len hs
 have h2 := bk_mem os o ho
 omega
end
end Go.Proofs.YthljhjcndpnleaaGreatDoor
