/-
  The law ViewSound: what a stream of operators answers is sound items, or an error and none. No condition beyond the row's own.
-/
import Derived.Test.YthmhfjeojkbpfaaGreatDoorVs5
namespace Go.Proofs.YthmhfjeojkbpfaaGreatDoor
open Go.RowKit
open Go.Proofs.Tryz
section
theorem KeepB.of_or {N g : Nat} {S : List Nat} {w w1 : World} (h : Upd g w w1) (hg : g ∈ S ∨ N ≤ g) : KeepB N S w w1 := hg.elim (km_ h) (kn_ h)
theorem PRep.ofN {c N : Nat} {F : Nat → Prop} {w : World} {x : PC} {o : PV} (h : StN N (fun w => PRep w (Frz c F w) x o) w) : PRep w (Frz c F w) x o := by
 obtain ⟨e, a, b, d⟩ := h
 exact b.mv (Frz.ofN a d)
section
variable {B : Nat} {fs : Fcx} {w w1 : World} {bv : Nat} {F : Nat → Prop} {V : Vw} {args : List PV}
theorem Vwr.push {H : VwH} {vp v1 : Value} {its : List ItemV} {hs : List StC} {cs : List PC} {x : PC} {o : PV} (hO : VwO B w bv H vp V its hs cs) (hR : VwR (Frz fs.c (VwF bv H vp) w) w H fs V args its hs cs) (K : KeepB w.heap.size [bv, vb H.args bv] w w1)
    (hk : Blk w1 bv (vwC { H with args := v1 }).toArray 74) (ho : OwnM pcL 99 B w1 v1 (cs ++ [x])) (hn : ∀ g, v1.ownBlock = some g → H.args.ownBlock = some g ∨ w.heap.size ≤ g) (hp : PRep w (Frz fs.c (VwF bv H vp) w) x o) :
    Vwr B fs w1 bv (VwF bv { H with args := v1 } vp) V (args ++ [o]) ∧ Chg (VwF bv H vp) (VwF bv { H with args := v1 } vp) w w1 := by
  obtain ⟨-, f, j, k, -⟩ := hO.rest K _ (two_ty hO.oa hO.blk.ty)
  have hC : Chg (VwF bv H vp) (VwF bv { H with args := v1 } vp) w w1 := Chg.of_keep K (two_F (fun g hg => .inr (.inr (.inr (.inr (.inr hg)))))) (fun g hg => by
    rcases hg with a | a | a | a | a | a
    · exact .inl (.inl a)
    · exact .inl (.inr (.inl a))
    · exact .inl (.inr (.inr (.inl a)))
    · exact .inl (.inr (.inr (.inr (.inl a))))
    · exact .inl (.inr (.inr (.inr (.inr (.inl a)))))
    · exact (hn g a).imp (fun h => .inr (.inr (.inr (.inr (.inr h))))) id)
  have hq := hR.mv (Frz.mv (c := fs.c) hC)
  have d := hp.mv (Frz.mv (c := fs.c) hC)
  have ha := hq.ar
  refine ⟨⟨_, vp, its, hs, cs ++ [x], rfl, ⟨hk, f dD dD, j dD, k dD, ho, hO.lbv, hO.lbp⟩, ?_⟩, hC⟩
  exact { hq with ar := ⟨by rw [List.length_append, List.length_append, ha.1]; rfl, fun i a m => by
    rcases Nat.lt_or_ge i cs.length with b | b
    · have e : i < args.length := ha.1 ▸ b
      rw [List.getElem_append_left b, List.getElem_append_left e]
      exact ha.2 i b e
    · have l : i = cs.length := by rw [List.length_append] at a; simp only [List.length_cons, List.length_nil] at a; omega
      subst l
      rw [List.getElem_append_right (nr_ _), List.getElem_append_right (Nat.le_of_eq ha.1.symm)]
      simp only [ha.1, Nat.sub_self, List.getElem_cons_zero]
      exact d⟩ }
theorem Vwr.push2 {H : VwH} {vp : Value} {its : List ItemV} {hs : List StC} {cs : List PC} {x z : PC} {o : PV} {pv : Option Addr} {cv : Nat} (hO : VwO B w bv H vp V its hs cs) (hR : VwR (Frz fs.c (VwF bv H vp) w) w H fs V args its hs cs) (K : KeepB w.heap.size [bv, vb H.args bv] w w1)
  (hk : Blk w1 bv (vwC { H with args := .slice pv (cs ++ [z]).length cv }).toArray 74) (ho : OwnM pcL 99 B w1 (.slice pv (cs ++ [z]).length cv) ((cs ++ [z]).set cs.length x)) (hn : ∀ g, (Value.slice pv (cs ++ [z]).length cv).ownBlock = some g → H.args.ownBlock = some g ∨ w.heap.size ≤ g) (hp : PRep w (Frz fs.c (VwF bv H vp) w) x o) :
  Vwr B fs w1 bv (VwF bv { H with args := .slice pv (cs ++ [z]).length cv } vp) V (args ++ [o]) ∧ Chg (VwF bv H vp) (VwF bv { H with args := .slice pv (cs ++ [z]).length cv } vp) w w1 :=
 Vwr.push hO hR K hk (by rwa [List.set_append_right _ _ (nr_ _), Nat.sub_self, List.set_cons_zero] at ho) hn hp
theorem run_next {F0 F1 F2 : Nat → Prop} {w0 wJ w2 : World} {p : Option Addr} {l : List UInt8} {R : Except Int Vw} {f m : Nat} {o : PV} (k2 : Chg F0 F1 w0 wJ) (k3 : BytesAt wJ p l) (j4 : 0 < l.length → ¬ F1 (pA p).block) (hpu : Vwr B fs w2 bv F2 V (args ++ [o]) ∧ Chg F1 F2 wJ w2)
  (k6 : args.length < 32) (j6 : ∀ x ∈ args, PvB x) (hbd : PvB o) (j7 : SndV V) (k7 : runV (fun f b => sumF f 0 b) fs.fs l f (m : Int) V (args ++ [o]) = R) (h1 : m ≤ l.length) (h2 : l.length < f + m) :
  Vwr B fs w2 bv F2 V (args ++ [o]) ∧ Chg F0 F2 w0 w2 ∧ BytesAt w2 p l ∧ (0 < l.length → ¬ F2 (pA p).block) ∧ (args ++ [o]).length ≤ 32 ∧ (∀ x ∈ args ++ [o], PvB x) ∧ SndV V ∧ runV (fun f b => sumF f 0 b) fs.fs l f (m : Int) V (args ++ [o]) = R ∧ m ≤ l.length ∧ l.length < f + m :=
 ⟨hpu.1, ct_ k2 hpu.2, k3.chg hpu.2 j4, fun h0 => hpu.2.nf (j4 h0) (k3.lt h0), by rw [List.length_append, List.length_singleton]; omega, fun y hy => (List.mem_append.1 hy).elim (j6 y) (fun h => by rw [List.mem_singleton.1 h]; exact hbd), j7, k7, h1, h2⟩
theorem Vwr.noargs {H : VwH} {vp : Value} {its : List ItemV} {hs : List StC} {cs : List PC} (hO : VwO B w bv H vp V its hs cs) (hR : VwR (Frz fs.c (VwF bv H vp) w) w H fs V args its hs cs) (K : KeepB w.heap.size [bv] w w1)
  (hk : Blk w1 bv (vwC { H with args := .slice none 0 0 }).toArray 74) :
  Vwr B fs w1 bv (VwF bv { H with args := .slice none 0 0 } vp) V [] ∧ Chg (VwF bv H vp) (VwF bv { H with args := .slice none 0 0 } vp) w w1 := by
 obtain ⟨-, b, d, e, -⟩ := hO.rest K [74] (fun g hg => ⟨_, List.mem_singleton.2 rfl, by rw [List.mem_singleton.1 hg]; exact hO.blk.ty⟩)
 have hC : Chg (VwF bv H vp) (VwF bv { H with args := .slice none 0 0 } vp) w w1 := Chg.of_keep K (fun g hg => .inl (.inl (List.mem_singleton.1 hg))) (fun g hg => by
  rcases hg with a | a | a | a | a | a
  ·
   exact .inl (.inl a)
  ·
   exact .inl (.inr (.inl a))
  ·
   exact .inl (.inr (.inr (.inl a)))
  ·
   exact .inl (.inr (.inr (.inr (.inl a))))
  ·
   exact .inl (.inr (.inr (.inr (.inr (.inl a)))))
  ·
   cases a)
 have hq := hR.mv (Frz.mv (c := fs.c) hC)
 exact ⟨⟨_, vp, its, hs, [], rfl, ⟨hk, b dD dD, d dD, e dD, OwnM.nil _ _ _ _, hO.lbv, hO.lbp⟩, { hq with ar := ArR.nil _ _ }⟩, hC⟩
set_option maxHeartbeats 3200000 in
theorem vw_run (p : Option Addr) (l : List UInt8) (c : Nat) (h : Vwr B fs w bv F V []) (hb : BytesAt w p l) (hc : l.length ≤ c) (hl : l.length ≤ 100000000) (hpF : 0 < l.length → ¬ F (pA p).block) (hsn : SndV V) (hff : ∀ f ∈ fs.fs, 0 ≤ f.font ∧ f.font ≤ 13) (hfc : fs.c = bv) :
    Calls Tryz.prog 19 #[.pointer (some ⟨bv, 0, none⟩), .slice p l.length c] w (VwE B fs bv F w (runV (fun f b => sumF f 0 b) fs.fs l (l.length + 1) 0 V []) []) := by
  obtain ⟨R, cw⟩ : ∃ R, runV (fun f b => sumF f 0 b) fs.fs l (l.length + 1) 0 V [] = R := ⟨_, rfl⟩; rw [cw]; obtain ⟨ef, cy⟩ := h.base; have cI := h.lt; have ap : ∀ {F1 : Nat → Prop} {w1 : World}, Chg F F1 w w1 → Below B w w1 := fun h => h.below cy (fun g hg => (cI g hg).1)
  have d' := VwrN.of h; have hP : ∀ (w1 : World) (a : Nat), BytesAt w1 p l → Calls Tryz.prog 34 #[.slice p l.length c, .int .i64 (a : Int)] w1 fun e w' => ∃ x : PC, e = .returned (.tuple #[.agg (pcV x).toArray, .string (bs (tokP l a).2.1), .int .i64 (tokP l a).2.2.1, .int .i64 (tokP l a).2.2.2]) ∧ Below w1.heap.size w1 w' ∧ PRep w' (fun k => w1.heap.size ≤ k) x (tokP l a).1 := fun w1 a d =>
    Calls.mono (plex_Token p l c a w1 d hc hl) fun e w' q => by
      obtain ⟨⟨x, d, h2⟩, h3⟩ := q; exact ⟨x, d, h3, h2⟩
  refine W.e func19 rfl ntmps19 bL ?_; have dq := Chg.refl F w; refine W.seq <| W.sr <| WL.Z rfl <| W.b <| W.loop (α := Nat × Nat × (Nat → Prop) × Vw × List PV) (fun t => [(0, .pointer (some ⟨bv, 0, none⟩)), (1, .slice p l.length c), (4, .int .i64 (t.2.1 : Int))]) (fun t w' => Vwr B fs w' bv t.2.2.1 t.2.2.2.1 t.2.2.2.2 ∧ Chg F t.2.2.1 w w' ∧ BytesAt w' p l ∧ (0 < l.length → ¬ t.2.2.1 (pA p).block) ∧ t.2.2.2.2.length ≤ 32 ∧ (∀ x ∈ t.2.2.2.2, PvB x) ∧ SndV t.2.2.2.1 ∧ runV (fun f b => sumF f 0 b) fs.fs l t.1 (t.2.1 : Int) t.2.2.2.1 t.2.2.2.2 = R ∧ t.2.1 ≤ l.length ∧ l.length < t.1 + t.2.1) (fun t => t.1) ((l.length + 1, 0, F, V, [])) ⟨rfl, rfl, rfl, tT⟩ (⟨h, dq, hb, hpF, nl_ _, (fun x hx => by cases hx), hsn, cw, nl_ _, by simp⟩) (fun t w1 hR => ?_); obtain ⟨⟨f, a, F1, V1, args⟩, bo⟩ : ∃ u, u = t := ⟨t, rfl⟩; subst bo; obtain ⟨j1, j2, j3, j4, j5, j6, j7, j8, j9, dr⟩ := hR; simp only at j1 j2 j4 j5 j6 j7 j8 j9 dr; obtain ⟨f, rfl⟩ : ∃ n, f = n + 1 := ⟨f - 1, by omega⟩; unfold runV at j8; have bp := fun w1 => hP w1 a
  have aG := tokP_adv (l := l) j9; have aC := tokP_bnd l a
  generalize tokP l a = T at bp aG aC j8; obtain ⟨o, wd, nx, er⟩ := T; simp only at bp aG aC j8; obtain ⟨wL, ds⟩ : ∃ u, u = w1 := ⟨_, rfl⟩; subst ds; have cJ := VwrN.of j1; have b1 := j1.lt; have cK : F1 bv := by obtain ⟨H, vp, its, hs, cs, aq, -, -⟩ := j1.mem; rw [aq]; exact .inl rfl
  have e0 := (b1 bv cK).2; refine W.b <| W.sr <| WL.M rfl <| WL.M rfl <| WL.call hB_ rfl rfl ((bp _ j3)) (fun x w1 aV => ?_); have cz := vs_ (w1 := w1) cJ (fun k hk hl => aV.1.block k hl); have cA := bb_ j3 aV.1 (fun h0 => j3.lt h0); have cB := Chg.low j2 aV.1; have dt := aV.2; have e1 := aV.1.size; have du := StN.of (Q := fun w => PRep w (Frz fs.c F1 w) x o) (dt.mono (fun k hk hl => ⟨hl, fun hf => by have := (b1 k hf).2; omega, by rw [hfc]; omega⟩)); refine WL.M rfl <| WL.O (.ext rfl rfl) <| WL.O (.ext rfl rfl) <| WL.O (.ext rfl rfl) <| WL.O (.ext rfl rfl) <| WL.al z99_ rfl (fun b5 cC cD cL aH e2 => ?_); have dv := vs_ (w1 := cC) cz (fun k hk hl => aH.other k oO); have dw := ss_ (w1 := cC) du (fun k hk hl => aH.other k oO); have bq := fun h0 => cD ▸ cA.lt h0
  have dx := bup cA aH bq; have c2 := bge cD cB.size; have cM := Chg.upd cB aH c2; have c3 : ¬ F1 b5 := fun hq => by have eg := (cz).lt hq; omega
  refine WL.stL rfl rfl cL isz99 rfl rfl (fun cE b7 am dS => ?_); have au := vs_ (w1 := cE) dv (fun k hk hl => am.other k (by first | ((try simp only) <;> omega) | (have := hk.1; ((try simp only) <;> omega)))); have cN := ss_ (w1 := cE) dw (fun k hk hl => am.other k (by first | ((try simp only) <;> omega) | (have := hk.1; ((try simp only) <;> omega)))); have aI := bup dx am bq; have a7 := Chg.upd cM am oO; refine WL.A rfl <| WL.A rfl <| WL.Z rfl <| W.seq <| W.sr <| WL.M rfl <| WL.O (.eql rfl rfl) <| WL.e <| W.cond rfl (fun bt => ?_) (fun bt => ?_)
  · have cO := dT bt
    refine W.exit ?_; obtain ⟨H, vp, its, hs, cs, aq, hO, a2⟩ := (au).get.mem; have i := hO.blk; have aW : H.inText = V1.inText := a2.inText; obtain ⟨psv, csv, esv, -⟩ := hO.os.row; obtain ⟨par, car, ear, -⟩ := hO.oa.row; have eh : hs.length = V1.saved.length := by have := a2.sv.1; rw [List.length_map] at this; exact this
    have ei : hs.reverse.length = hs.length := List.length_reverse; have cF : cs.length = args.length := a2.ar.1; obtain ⟨⟨ctm, fi, sk, pe, clv, fn, sz⟩, fo, sa, pa, cl, it, lo, te, li, ar, itv⟩ := H; simp only at aW esv ear; subst esv; subst ear; rw [if_pos (show er = 26 by assumption)] at j8; refine W.reg <| WL.M rfl <| WL.O (.nck rfl) <| WL.O (.fa u74_ rfl s72_ dD rfl) <| WL.R (Rd.ld (g72_ _) rfl i rfl) <| WL.O (.lenS u72_ rfl) <| WL.O (.eql rfl rfl) <| WL.M rfl <| WL.gd rfl rfl rfl (fun J => ?_) (fun J => ?_)
    · have cP := dT J
      refine WL.M rfl <| WL.Y J <| WL.O (.nck rfl) <| WL.Y J <| WL.O (.fa u74_ rfl s71_ dD rfl) <| WL.Y J <| WL.R (Rd.ld (g71_ _) rfl i rfl) <| WL.Y J <| WL.O (.lenS u71_ rfl) <| WL.Y J <| WL.O (.eql rfl rfl) <| WL.O (.pkT rfl J rfl) <| WL.M rfl <| WL.gd rfl rfl rfl (fun a3 => ?_) (fun a3 => ?_)
      · have cQ := dT a3
        refine WL.M rfl <| WL.Y a3 <| WL.O (.nck rfl) <| WL.Y a3 <| WL.O (.fa u74_ rfl s4_ dD rfl) <| WL.Y a3 <| WL.R (Rd.ld (isAgg4 _) rfl i rfl) <| WL.Y a3 <| WL.O (.not rfl) <| WL.O (.pkT rfl a3 rfl) <| WL.ce hB_ rfl rfl ((vw_want _ _)) (fun ej cG aJ aK => ?_) (fun ek cG aJ aK => ?_); have bu := Chg.low a7 aK; obtain ⟨ak, rfl⟩ := want_err aJ; exact pn_is (ee_ 22 (j8.symm.trans (bind_err ((if_neg (fun hz => by
          simp only [Bool.and_eq_true, decide_eq_true_eq, Bool.not_eq_true'] at hz
          first
            | omega
            | (rw [aW, hz.2] at ak; cases ak))).trans rfl))) (ap bu))
        have cR := vs_ (w1 := cG) au (fun k hk hl => aK.block k hl); have cS := Chg.low a7 aK; refine WL.e <| W.norm (W.ret0 rfl ?_)
        (have dy := want_ok aJ
         have dz : args = [] := List.eq_nil_of_length_eq_zero oO; have cT : (decide ((args.length : Int) = 0) && decide ((V1.saved.length : Int) = 0) && !V1.inText) = true := by
           rw [decide_eq_true oO, decide_eq_true oO, ← aW]; exact dy
         rw [cT] at j8; subst dz; exact eo_ V1 _ (j8.symm.trans rfl) rfl ⟨rfl, F1, (cR).get, cS⟩)
      have cQ := dF a3; refine WL.N a3 <| WL.N a3 <| WL.N a3 <| WL.N a3 <| WL.O (.pkF rfl a3 rfl) <| WL.ce hB_ rfl rfl ((vw_want _ _)) (fun el dA aL bw => ?_) (fun em dA aL bw => ?_); have bx := Chg.low a7 bw; obtain ⟨ak, rfl⟩ := want_err aL; exact pn_is (ee_ 22 (j8.symm.trans (bind_err ((if_neg (fun hz => by
        simp only [Bool.and_eq_true, decide_eq_true_eq, Bool.not_eq_true'] at hz
        first
          | omega
          | (rw [aW, hz.2] at ak; cases ak))).trans rfl))) (ap bx))
      refine WL.e <| W.norm (W.ret0 rfl ?_); exact ab_ (want_ok aL) dD
    have cP := dF J; refine WL.N J <| WL.N J <| WL.N J <| WL.N J <| WL.N J <| WL.O (.pkF rfl J rfl) <| WL.M rfl <| WL.N rfl <| WL.N rfl <| WL.N rfl <| WL.N rfl <| WL.N rfl <| WL.O (.pkF rfl rfl rfl) <| WL.ce hB_ rfl rfl ((vw_want _ _)) (fun en dB aM bz => ?_) (fun eo dB aM bz => ?_); have bA := Chg.low a7 bz; obtain ⟨ak, rfl⟩ := want_err aM; exact pn_is (ee_ 22 (j8.symm.trans (bind_err ((if_neg (fun hz => by
      simp only [Bool.and_eq_true, decide_eq_true_eq, Bool.not_eq_true'] at hz
      first
        | omega
        | (rw [aW, hz.2] at ak; cases ak))).trans rfl))) (ap bA))
    refine WL.e <| W.norm (W.ret0 rfl ?_); exact ab_ (want_ok aM) dD
  have cO := dF bt; refine W.k <| W.seq <| W.sr <| WL.M rfl <| WL.O (.neq rfl rfl) <| WL.e <| W.cond rfl (fun bB => ?_) (fun bB => ?_)
  · have cU := ndT bB
    refine W.reg <| WL.M rfl <| WL.O (.mkI u30_ rfl) <| WL.panic rfl (pn_is ?_); exact ee_ er (by rw [← j8, if_neg (show ¬ er = 26 by assumption), if_pos aS]) (ap a7)
  have cU := ndF bB; have bC : er = 0 := by assumption
  obtain ⟨m, rfl⟩ : ∃ m : Nat, nx = (m : Int) := ⟨nx.toNat, by have := (aG bC).1; omega⟩; obtain ⟨e3, e4⟩ := aG bC; rw [if_neg (show ¬ er = 26 by assumption), if_neg (fun h => h bC)] at j8; refine W.k <| W.sr <| WL.M rfl <| WL.Z rfl <| W.seq <| W.sr <| WL.M rfl <| WL.O (.eqs rfl rfl) <| WL.e <| W.cond rfl (fun bD => ?_) (fun bD => ?_)
  · have cV := dT bD
    rw [if_pos (show wd = [] by assumption)] at j8; refine W.cut (α := Unit) (fun t => [(0, .pointer (some ⟨bv, 0, none⟩)), (1, .slice p l.length c), (4, .int .i64 (m : Int)), (5, .pointer (some ⟨b5, 0, none⟩))]) (fun t w' => Vwr B fs w' bv F1 V1 args ∧ Chg F F1 w w' ∧ BytesAt w' p l ∧ PRep w' (Frz fs.c F1 w') x o ∧ Blk w' b5 (pcV x).toArray 99 ∧ args.length < 32 ∧ runV (fun f b => sumF f 0 b) fs.fs l f (m : Int) V1 (args ++ [o]) = R) ?_ (fun t w1 hR => ?_); obtain ⟨H, vp, its, hs, cs, aq, hO, a2⟩ := (au).get.mem; have i := hO.blk; obtain ⟨par, car, ear, -⟩ := hO.oa.row; have cF : cs.length = args.length := a2.ar.1; obtain ⟨⟨ctm, fi, sk, pe, clv, fn, sz⟩, fo, sa, pa, cl, it, lo, te, li, ar, itv⟩ := H; simp only at ear; subst ear; refine W.reg <| WL.M rfl <| WL.O (.nck rfl) <| WL.O (.fa u74_ rfl s72_ dD rfl) <| WL.R (Rd.ld (g72_ _) rfl i rfl) <| WL.O (.lenS u72_ rfl) <| WL.O (.bis (decide ((args.length : Int) < 32)) (.lss rfl rfl) (by exact decide_eq_decide.2 oO)) <| WL.ce hB_ rfl rfl ((vw_room _ _)) (fun dC bE an ag => ?_) (fun ep bE an ag => ?_); have bG := Chg.low a7 ag; exact pn_is (ee_ dC (by rw [← j8]; exact bind_err an) (ap bG)); have cW := vs_ (w1 := bE) au (fun k hk hl => ag.block k hl); have cX := ss_ (w1 := bE) cN (fun k hk hl => ag.block k hl); have cY := b7.bl ag; have cZ := bb_ aI ag (fun h0 => aI.lt h0); have c' := Chg.low a7 ag; rw [bind_ok an] at j8; have b2 := an; refine WL.e <| ?_; exact ⟨(), ⟨rfl, rfl, rfl, rfl, tT⟩, (cW).get, c', cZ, PRep.ofN cX, cY, (by
      unfold roomV at b2
      split at b2
      · have := dT aS; omega
      · cases b2), j8⟩
    obtain ⟨k1, k2, k3, k4, k5, k6, k7⟩ := hR; obtain ⟨wJ, bH⟩ : ∃ u, u = w1 := ⟨_, rfl⟩; subst bH; have e5 := k1.lt; obtain ⟨H, vp, its, hs, cs, aq, hO, a2⟩ := k1.mem; have i := hO.blk; have C := hO.oa; obtain ⟨par, car, ear, -, -, e6, -, -, d0, -⟩ := hO.oa.row; have cF : cs.length = args.length := a2.ar.1; obtain ⟨⟨ctm, fi, sk, pe, clv, fn, sz⟩, fo, sa, pa, cl, it, lo, te, li, ar, itv⟩ := H; simp only at ear i C; subst ear; subst aq; have e7 := C.lt; have d1 := i.lt; have e8 := k5.lt; have c4 : B ≤ wJ.heap.size := nt_ cy (ap k2).size; have bI := KeepB.refl wJ.heap.size [bv, vb (.slice par cs.length car) bv] wJ; have aj : ∀ g, (Value.slice par cs.length car).ownBlock = some g → g < b5 := fun g hg => by have := (b1 g (.inr (.inr (.inr (.inr (.inr hg)))))).2; omega
    unfold maxLen at d0; refine W.seq <| W.regH 13 rfl mixed (fun w' => w'.heap[b5]? = wJ.heap[b5]? ∧ True) (fun eq av => ?_); have b8 := Drew.le c4 av; have bJ := OwnM.drew C av; have aw := i.drew av; have ax := k5.drew av; have aN := kt_ bI (kd_ av); have aD := And.intro (ax.trans k5.symm) True.intro; refine WH.tp 0 rfl (.mv rfl) aD rfl ?_; refine WH.tp 1 rfl (.nck rfl) aD rfl ?_; refine WH.tp 2 rfl (.fa u74_ rfl s72_ dD rfl) aD rfl ?_; refine WH.tk 4 rfl (fun w' hw' => Rd.ldA rfl ((hw'.1).trans k5) u99_ rfl isz99) aD rfl ?_; refine WH.br2 3 rfl 6 rfl ?_ ?_; refine WL.R (Rd.ld (g72_ _) rfl aw rfl) <| WL.e <| ⟨aD, ?_⟩; refine WH.tp 5 rfl (.lenS u72_ rfl) aD rfl ?_; refine WH.br1 6 rfl <| WL.bslM (L := pcL) (ps := _) ([pc0 0 0 []]) u72_ s99_ z99_ rfl rfl rfl rfl rfl (by first | rfl | decide) rfl rfl (fun cH d2 aO c5 ah dU => ?_); have b9 := nt_ b8 ah.size; have d3 := on_ bJ aO ah; have d4 := bgl aO aw.lt; have d5 := aw.un ah d4; have d6 := bgl aO ax.lt; have bK := ax.un ah d6; have bM : wJ.heap.size ≤ cH := by rw [aO]; exact aN.size
    have X := kt_ aN (kn_ ah bM); have dE : cH ≤ d2.heap.size := by omega
    refine WL.e <| ⟨⟨(bK).trans (k5).symm, tT⟩, ?_⟩; refine WH.br1 7 rfl <| WL.appM u72_ inf99 rfl rfl rfl d3 rfl (c5).rowp (by simp only [List.length_cons, List.length_nil]; omega) (b9) rfl (fun h => ab_ h (lc_ _ _)) (fun es et ab c6 aP s => ?_); have bN := d5.grown aP (fun e => blk_sep C i dD _ e rfl); have b3 := bK.grown aP (fun e => by have := aj _ e; omega); have bO := kt_ X (KeepB.of_grown aP (fun g hg => .inl (by have hg : (Value.slice par cs.length car).ownBlock = some g := hg; rw [vb_own hg]; simp)) X.size); have ba := nt_ b9 c6.size; obtain ⟨pv, cv, evv, -⟩ := (ab).row; subst evv; have bP := (ab).rowp.isp (by rw [List.length_append, List.length_singleton]; omega); have dG : (cs ++ [pc0 0 0 []]).length = cs.length + 1 := List.length_append; refine WL.e <| ?_; have bb := And.intro (b3.trans k5.symm) True.intro; refine ⟨bb, ?_⟩; refine WH.tp 8 rfl (.ixm u72_ s99_ rfl rfl bP cs.length rfl oO) bb rfl ?_; refine WH.tp 10 rfl (.nck rfl) bb rfl ?_; refine WH.tp 11 rfl (.fa u74_ rfl s72_ dD rfl) bb rfl ?_; refine WH.br2 9 rfl 12 rfl ?_ ?_; refine WL.stM (L := pcL) (x) (cs.length) ab oO isz99 rfl rfl rfl (fun eu ae aX ac bc => ?_); have dH := (ab).lt ae (by rw [aX]; rfl); have K : (Value.slice pv (cs ++ [pc0 0 0 []]).length cv).ownBlock = some ae := by rw [aX]; rfl
    have G : ae ∈ [bv, vb (.slice par cs.length car) bv] ∨ wJ.heap.size ≤ ae := (s ae K).elim (fun d => .inl (by have d : (Value.slice par cs.length car).ownBlock = some ae := d; rw [vb_own d]; simp)) (fun d => .inr (nt_ X.size d)); have b4 : ae ≠ bv := fun e => (s ae K).elim (fun d => blk_sep C i dD _ d e) (fun d => by have := X.size; omega)
    have b6 : ae ≠ b5 := fun e => (s ae K).elim (fun d => by have := aj _ d; omega) (fun d => by have := X.size; omega)
    have d7 := bN.up ac; have bQ := b3.up ac; have d8 := kt_ bO (by first | exact kn_ ac oO | exact KeepB.of_or ac G | exact km_ ac (by simp)); have c7 := nt_ ba ac.size; refine WL.e <| ⟨⟨(bQ).trans (k5).symm, tT⟩, ?_⟩; refine WH.br1 12 rfl <| WL.stC (o := 43) ((vwC ⟨⟨ctm, fi, sk, pe, clv, fn, sz⟩, fo, sa, pa, cl, it, lo, te, li, .slice pv (cs ++ [pc0 0 0 []]).length cv, itv⟩).toArray) s72_ rfl (rfl) rfl ((bc).one) d7 bL (rfl) (fun dI aQ P dV => ?_); have aQ : Blk dI bv _ _ := aQ; have P : Upd bv _ _ := P; have dW := nt_ c7 P.size; have d9 := ou_ bc P (fun g hg e => by subst e; first | exact blk_sep C i dD _ hg rfl | (rcases s _ hg with d | d <;> first | exact blk_sep C i dD _ d rfl | omega)); have da := bQ.up P; have db := kt_ d8 (by first | exact kn_ P oO | exact KeepB.of_or P G | exact km_ P (by simp)); refine WL.e <| ⟨⟨(da).trans (k5).symm, tT⟩, ?_⟩; refine WH.done kR <| W.exit ?_; have a8 := Vwr.push2 hO a2 db aQ d9 (fun g d => (s g d).imp id (nt_ X.size)) k4; exact ⟨(f, m, _, V1, args ++ [o]), ⟨rfl, rfl, rfl, tT⟩, run_next (f := f) (m := m) k2 k3 j4 a8 k6 j6 aC j7 k7 oO oO, by ((try simp only) <;> omega)⟩; refine WL.stC (o := 43) ((vwC ⟨⟨ctm, fi, sk, pe, clv, fn, sz⟩, fo, sa, pa, cl, it, lo, te, li, .slice pv (cs ++ [pc0 0 0 []]).length cv, itv⟩).toArray) s72_ rfl (rfl) rfl ((ab).one) bN bL (rfl) (fun dJ aR U dX => ?_); have aR : Blk dJ bv _ _ := aR; have U : Upd bv _ _ := U; have c8 := nt_ ba U.size; have bR := ou_ ab U (fun g hg e => by subst e; first | exact blk_sep C i dD _ hg rfl | (rcases s _ hg with d | d <;> first | exact blk_sep C i dD _ d rfl | omega)); have bS := b3.up U; have dc := kt_ bO (by first | exact kn_ U oO | exact KeepB.of_or U G | exact km_ U (by simp)); refine WL.e <| ⟨⟨(bS).trans (k5).symm, tT⟩, ?_⟩; refine WH.br1 9 rfl <| WL.stM (L := pcL) (x) (cs.length) bR oO isz99 rfl rfl rfl (fun ev af aY ad c9 => ?_); have dK := (bR).lt af (by rw [aY]; rfl); have K : (Value.slice pv (cs ++ [pc0 0 0 []]).length cv).ownBlock = some af := by rw [aY]; rfl
    have G : af ∈ [bv, vb (.slice par cs.length car) bv] ∨ wJ.heap.size ≤ af := (s af K).elim (fun d => .inl (by have d : (Value.slice par cs.length car).ownBlock = some af := d; rw [vb_own d]; simp)) (fun d => .inr (nt_ X.size d)); have b4 : af ≠ bv := fun e => (s af K).elim (fun d => blk_sep C i dD _ d e) (fun d => by have := X.size; omega)
    have b6 : af ≠ b5 := fun e => (s af K).elim (fun d => by have := aj _ d; omega) (fun d => by have := X.size; omega)
    have dd := aR.up ad; have de := bS.up ad; have df := kt_ dc (by first | exact kn_ ad oO | exact KeepB.of_or ad G | exact km_ ad (by simp)); have dY := nt_ c8 ad.size; refine WL.e <| ⟨⟨(de).trans (k5).symm, tT⟩, ?_⟩; refine WH.done kR <| W.exit ?_; have a8 := Vwr.push2 hO a2 df dd c9 (fun g d => (s g d).imp id (nt_ X.size)) k4; exact ⟨(f, m, _, V1, args ++ [o]), ⟨rfl, rfl, rfl, tT⟩, run_next (f := f) (m := m) k2 k3 j4 a8 k6 j6 aC j7 k7 oO oO, by ((try simp only) <;> omega)⟩; refine WL.bslM (L := pcL) (ps := _) ([pc0 0 0 []]) u72_ s99_ z99_ rfl rfl rfl rfl rfl (by first | rfl | decide) rfl rfl (fun bT ca ao bU a9 dL => ?_); have aZ := nt_ b8 a9.size; have cb := on_ bJ ao a9; have cc := bgl ao aw.lt; have bd := aw.un a9 cc; have cd := bgl ao ax.lt; have be := ax.un a9 cd; have bn : wJ.heap.size ≤ bT := by rw [ao]; exact aN.size
    have v := kt_ aN (kn_ a9 bn); have dm : bT ≤ ca.heap.size := by omega
    refine WL.e <| ?_; have bV := And.intro (be.trans k5.symm) True.intro; refine ⟨bV, ?_⟩; refine WH.br1 3 rfl <| WL.R (Rd.ld (g72_ _) rfl bd rfl) <| WL.e <| ⟨bV, ?_⟩; refine WH.tp 5 rfl (.lenS u72_ rfl) bV rfl ?_; refine WH.br1 7 rfl <| WL.appM u72_ inf99 rfl rfl rfl cb rfl (bU).rowp (by simp only [List.length_cons, List.length_nil]; omega) (aZ) rfl (fun h => ab_ h (lc_ _ _)) (fun e9 ea a4 bW ay j => ?_); have bf := bd.grown ay (fun e => blk_sep C i dD _ e rfl); have aT := be.grown ay (fun e => by have := aj _ e; omega); have bg := kt_ v (KeepB.of_grown ay (fun g hg => .inl (by have hg : (Value.slice par cs.length car).ownBlock = some g := hg; rw [vb_own hg]; simp)) v.size); have a' := nt_ aZ bW.size; obtain ⟨pv, cv, evv, -⟩ := (a4).row; subst evv; have bP := (a4).rowp.isp (by rw [List.length_append, List.length_singleton]; omega); have dG : (cs ++ [pc0 0 0 []]).length = cs.length + 1 := List.length_append; refine WL.e <| ?_; have bh := And.intro (aT.trans k5.symm) True.intro; refine ⟨bh, ?_⟩; refine WH.tp 8 rfl (.ixm u72_ s99_ rfl rfl bP cs.length rfl oO) bh rfl ?_; refine WH.tp 10 rfl (.nck rfl) bh rfl ?_; refine WH.tp 11 rfl (.fa u74_ rfl s72_ dD rfl) bh rfl ?_; refine WH.br2 9 rfl 12 rfl ?_ ?_; refine WL.stM (L := pcL) (x) (cs.length) a4 oO isz99 rfl rfl rfl (fun eb a0 aE a5 b0 => ?_); have dn := (a4).lt a0 (by rw [aE]; rfl); have K : (Value.slice pv (cs ++ [pc0 0 0 []]).length cv).ownBlock = some a0 := by rw [aE]; rfl
    have G : a0 ∈ [bv, vb (.slice par cs.length car) bv] ∨ wJ.heap.size ≤ a0 := (j a0 K).elim (fun d => .inl (by have d : (Value.slice par cs.length car).ownBlock = some a0 := d; rw [vb_own d]; simp)) (fun d => .inr (nt_ v.size d)); have b4 : a0 ≠ bv := fun e => (j a0 K).elim (fun d => blk_sep C i dD _ d e) (fun d => by have := v.size; omega)
    have b6 : a0 ≠ b5 := fun e => (j a0 K).elim (fun d => by have := aj _ d; omega) (fun d => by have := v.size; omega)
    have cf := bf.up a5; have bi := aT.up a5; have cg := kt_ bg (by first | exact kn_ a5 oO | exact KeepB.of_or a5 G | exact km_ a5 (by simp)); have bX := nt_ a' a5.size; refine WL.e <| ⟨⟨(bi).trans (k5).symm, tT⟩, ?_⟩; refine WH.br1 12 rfl <| WL.stC (o := 43) ((vwC ⟨⟨ctm, fi, sk, pe, clv, fn, sz⟩, fo, sa, pa, cl, it, lo, te, li, .slice pv (cs ++ [pc0 0 0 []]).length cv, itv⟩).toArray) s72_ rfl (rfl) rfl ((b0).one) cf bL (rfl) (fun dg az D dM => ?_); have az : Blk dg bv _ _ := az; have D : Upd bv _ _ := D; have dN := nt_ bX D.size; have ci := ou_ b0 D (fun g hg e => by subst e; first | exact blk_sep C i dD _ hg rfl | (rcases j _ hg with d | d <;> first | exact blk_sep C i dD _ d rfl | omega)); have cj := bi.up D; have ck := kt_ cg (by first | exact kn_ D oO | exact KeepB.of_or D G | exact km_ D (by simp)); refine WL.e <| ⟨⟨(cj).trans (k5).symm, tT⟩, ?_⟩; refine WH.done kR <| W.exit ?_; have a8 := Vwr.push2 hO a2 ck az ci (fun g d => (j g d).imp id (nt_ v.size)) k4; exact ⟨(f, m, _, V1, args ++ [o]), ⟨rfl, rfl, rfl, tT⟩, run_next (f := f) (m := m) k2 k3 j4 a8 k6 j6 aC j7 k7 oO oO, by ((try simp only) <;> omega)⟩; refine WL.stC (o := 43) ((vwC ⟨⟨ctm, fi, sk, pe, clv, fn, sz⟩, fo, sa, pa, cl, it, lo, te, li, .slice pv (cs ++ [pc0 0 0 []]).length cv, itv⟩).toArray) s72_ rfl (rfl) rfl ((a4).one) bf bL (rfl) (fun dh aA E dO => ?_); have aA : Blk dh bv _ _ := aA; have E : Upd bv _ _ := E; have bY := nt_ a' E.size; have bj := ou_ a4 E (fun g hg e => by subst e; first | exact blk_sep C i dD _ hg rfl | (rcases j _ hg with d | d <;> first | exact blk_sep C i dD _ d rfl | omega)); have bk := aT.up E; have cm := kt_ bg (by first | exact kn_ E oO | exact KeepB.of_or E G | exact km_ E (by simp)); refine WL.e <| ⟨⟨(bk).trans (k5).symm, tT⟩, ?_⟩; refine WH.br1 9 rfl <| WL.stM (L := pcL) (x) (cs.length) bj oO isz99 rfl rfl rfl (fun ec a1 aF a6 bZ => ?_); have dp := (bj).lt a1 (by rw [aF]; rfl); have K : (Value.slice pv (cs ++ [pc0 0 0 []]).length cv).ownBlock = some a1 := by rw [aF]; rfl
    have G : a1 ∈ [bv, vb (.slice par cs.length car) bv] ∨ wJ.heap.size ≤ a1 := (j a1 K).elim (fun d => .inl (by have d : (Value.slice par cs.length car).ownBlock = some a1 := d; rw [vb_own d]; simp)) (fun d => .inr (nt_ v.size d)); have b4 : a1 ≠ bv := fun e => (j a1 K).elim (fun d => blk_sep C i dD _ d e) (fun d => by have := v.size; omega)
    have b6 : a1 ≠ b5 := fun e => (j a1 K).elim (fun d => by have := aj _ d; omega) (fun d => by have := v.size; omega)
    have cn := aA.up a6; have co := bk.up a6; have cq := kt_ cm (by first | exact kn_ a6 oO | exact KeepB.of_or a6 G | exact km_ a6 (by simp)); have dP := nt_ bY a6.size; refine WL.e <| ⟨⟨(co).trans (k5).symm, tT⟩, ?_⟩; refine WH.done kR <| W.exit ?_; have a8 := Vwr.push2 hO a2 cq cn bZ (fun g d => (j g d).imp id (nt_ v.size)) k4; exact ⟨(f, m, _, V1, args ++ [o]), ⟨rfl, rfl, rfl, tT⟩, run_next (f := f) (m := m) k2 k3 j4 a8 k6 j6 aC j7 k7 oO oO, by ((try simp only) <;> omega)⟩
  have cV := dF bD; rw [if_neg (show ¬ wd = [] by assumption)] at j8; refine W.k <| W.cut (α := (Nat → Prop) × Vw) (fun t => [(0, .pointer (some ⟨bv, 0, none⟩)), (1, .slice p l.length c), (4, .int .i64 (m : Int))]) (fun t w' => Vwr B fs w' bv t.1 t.2 args ∧ Chg F t.1 w w' ∧ BytesAt w' p l ∧ (0 < l.length → ¬ t.1 (pA p).block) ∧ runV (fun f b => sumF f 0 b) fs.fs l f (m : Int) t.2 [] = R ∧ SndV t.2) ?_ (fun t w1 hR => ?_); refine W.reg <| WL.M rfl <| WL.M rfl <| WL.cx hB_ rfl rfl ((vw_operator wd (au).get j5 (fun x hx => (j6 x hx).1) (fun x hx => (j6 x hx).2) j7 hfc)) (fun di dj ai aU => ?_) (fun ed ee dj ai aU => ?_); exact pn_is (ee_ di (j8.symm.trans (bind_err ai)) (bt_ (ap a7) aU)); obtain ⟨rfl, F2, b', bm⟩ := aU; have dZ := VwrN.of b'; have dk := opV_snd hff (fun x hx => (j6 x hx).1) j7 ai; rw [bind_ok ai] at j8; have dQ := Chg.nf bm c3 b7.lt; have c0 := fun h0 => Chg.nf bm (j4 h0) (aI.lt h0)
  have cr := BytesAt.chg aI bm j4; have ct := ct_ a7 bm; refine WL.e <| ?_; exact ⟨(F2, _), ⟨rfl, rfl, rfl, tT⟩, b', ct, cr, c0, j8, dk⟩; obtain ⟨⟨F2, V2⟩, bo⟩ : ∃ u, u = t := ⟨t, rfl⟩; subst bo; obtain ⟨k1, k2, k3, k4, k5, k6⟩ := hR; simp only at k1 k2 k4 k5 k6; obtain ⟨wJ, bH⟩ : ∃ u, u = w1 := ⟨_, rfl⟩; subst bH; obtain ⟨H, vp, its, hs, cs, aq, hO, a2⟩ := k1.mem; have i := hO.blk; obtain ⟨⟨ctm, fi, sk, pe, clv, fn, sz⟩, fo, sa, pa, cl, it, lo, te, li, ar, itv⟩ := H; subst aq; have d1 := i.lt; have bI := KeepB.refl wJ.heap.size [bv] wJ; refine W.reg <| WL.M rfl <| WL.O (.nck rfl) <| WL.O (.fa u74_ rfl s72_ dD rfl) <| WL.stC (o := 43) ((vwC ⟨⟨ctm, fi, sk, pe, clv, fn, sz⟩, fo, sa, pa, cl, it, lo, te, li, .slice none 0 0, itv⟩).toArray) s72_ rfl (rfl) rfl (rfl) i bL (rfl) (fun dl aB aa dR => ?_); have aB : Blk dl bv _ _ := aB; have aa : Upd bv _ _ := aa; have cu := kt_ bI (by first | exact kn_ aa oO | exact KeepB.of_or aa G | exact km_ aa (by simp)); refine WL.e <| ?_; have a8 := Vwr.noargs hO a2 cu aB; exact ⟨(f, m, _, V2, []), ⟨rfl, rfl, rfl, tT⟩, ⟨a8.1, ct_ k2 a8.2, k3.chg a8.2 k4, fun h0 => a8.2.nf (k4 h0) (k3.lt h0), nl_ _, fun y hy => (by cases hy), k6, k5, by ((try simp only) <;> omega), by ((try simp only) <;> omega)⟩, by ((try simp only) <;> omega)⟩
end
end
section
theorem items_quiet (b4 b5 : Nat) (w : World) :
  CallsD Tryz.prog 16 #[.pointer (some ⟨b4, 0, none⟩), .pointer (some ⟨b5, 0, none⟩)] .returning w fun e u' w' => u' = .returning ∧ (∃ v, e = .returned v) ∧ w' = w := by
 refine CallsD.rec func16 rfl ntmps16 bL rfl <| WL.e <| W.b <| W.sr <| WL.O (.eqNil0 kR rfl) <| WL.e <| W.condT rfl rfl <| W.reg <| WL.Z rfl <| W.norm (W.ret0 rfl ?_)
 exact ⟨⟨_, rfl⟩, rfl⟩
theorem items_caught (b4 b5 B : Nat) (v : Value) (j k : Int) (w : World) (h4 : Blk w b4 #[v] 29) (h5 : Blk w b5 #[.int .i64 j] 30) (hB1 : B ≤ b4) (h45 : b4 < b5) :
  CallsD Tryz.prog 16 #[.pointer (some ⟨b4, 0, none⟩), .pointer (some ⟨b5, 0, none⟩)] (.panicking [{ v := .iface 30 (.int .i64 k), recovered := false }]) w
   fun e u' w' => u' = .panicking [{ v := .iface 30 (.int .i64 k), recovered := true }] ∧ (∃ v, e = .returned v) ∧
    Blk w' b4 #[.slice none 0 0] 29 ∧ Blk w' b5 #[.int .i64 k] 30 ∧ Below B w w' := by
 refine CallsD.rec func16 rfl ntmps16 bL rfl ?_
 have g := br_ (B) w
 refine WL.e <| W.b <| W.sr <| WL.O (.eqNil kR rfl) <| WL.e <| W.condF rfl rfl <| W.sr <| WL.O (.tas u30_ rfl) <| WL.O (.ext rfl rfl) <| WL.O (.ext rfl rfl) <| WL.e <| W.condT rfl rfl <| W.sr <| WL.Z rfl <| W.reg <| WL.M rfl <| WL.st s29_ rfl rfl rfl h4 oD (fun o d a q => ?_)
 have d : Blk o b4 _ _ := d
 have a : Upd b4 _ _ := a
 have i := h5.upd a oM
 have l := ub_ g oO a
 refine WL.st s30_ rfl rfl rfl i oD (fun s f c t => ?_)
 have f : Blk s b5 _ _ := f
 have c : Upd b5 _ _ := c
 have m := d.up c
 have n := ub_ l oO c
 refine WL.e <| W.norm (W.ret0 rfl ?_)
 exact ⟨⟨_, rfl⟩, m, f, n⟩
theorem ResOk.two {P : Program} {fn : Func} {f : Fr} {w : World} {a b : Tmp} {ta tb : TypeId} {pa pb : Addr} {x y : Value} (hr : fn.results = #[.cell a ta, .cell b tb]) (ha : look f a = some (.pointer (some pa))) (hb : look f b = some (.pointer (some pb)))
  (hx : (loadVar ta pa).run P w = .ok x w) (hy : (loadVar tb pb).run P w = .ok y w) : ResOk P fn f w (.tuple #[x, y]) := fun tmps hh => by
 have e1 := hh _ _ ha; have e2 := hh _ _ hb
 simp only [Array.getD_eq_getD_getElem?] at e1 e2
 simp [results, hr, e1, e2, asAddr, hx, hy]
def ItemsA (R : Except Int Vw) (e : Ending) (w' : World) : Prop := match R with
 | .ok V => ∃ p c its, e = .returned (.tuple #[.slice p its.length c, .int .i64 0]) ∧ Row3 itemL (fun g => g < w'.heap.size) w' p its c ∧ (∀ x ∈ its, ItemR (fun g => g < w'.heap.size) w' x) ∧ its.map itemE = V.items
 | .error k => e = .returned (.tuple #[.slice none 0 0, .int .i64 k])
def pen1 : PenV := ⟨65536, 0, 0, 655360, none, [], 0, 0⟩
def st1 : StH := ⟨m6I, col0 1, col0 1, pen1, .slice none 0 0, -1, 0⟩
def vwH1 (fo : Value) (bp : Nat) : VwH := ⟨st1, fo, .slice none 0 0, bp, 0, false, false, m60, m60, .slice none 0 0, .slice none 0 0⟩
theorem bldV1 : Tryz.prog.built 37 [(0, .int .i64 1)] = some (colorV (col0 1)).toArray := by kernel_rfl
theorem bldV2 : Tryz.prog.built 41 [(0, .int .i64 65536), (3, .int .i64 655360)] = some (penV pen1).toArray := by kernel_rfl
theorem bldV3 : Tryz.prog.built 68 [(0, .agg (m6V m6I).toArray), (1, .agg (colorV (col0 1)).toArray), (2, .agg (colorV (col0 1)).toArray), (3, .agg (penV pen1).toArray), (4, .slice none 0 0), (5, .int .i64 (-1)), (6, .int .i64 0)] = some (stV st1).toArray := by kernel_rfl
theorem bldV4 (p : Option Addr) (n c bp : Nat) : Tryz.prog.built 74 [(0, .agg (stV st1).toArray), (1, .slice p n c), (3, .pointer (some ⟨bp, 0, none⟩))] = some (vwC (vwH1 (.slice p n c) bp)).toArray := by kernel_rfl
theorem vwr1 {B : Nat} {w : World} {bv bp : Nat} {pf : Option Addr} {fl : List FtV} {cf : Nat} (hk : Blk w bv (vwC (vwH1 (.slice pf fl.length cf) bp)).toArray 74) (hp : PthAt B w bp 4096 path0 (.slice none 0 0)) (hbv : B ≤ bv) (hbp : B ≤ bp) (hf : Row3 ftL (fun k => k < B) w pf fl cf) :
  Vwr B ⟨fl, bv⟩ w bv (VwF bv (vwH1 (.slice pf fl.length cf) bp) (.slice none 0 0)) vw0 [] := by
 have a := hp.base
 refine ⟨⟨_, .slice none 0 0, [], [], [], rfl, ⟨hk, hp, OwnM.nil _ _ _ _, OwnM.nil _ _ _ _, OwnM.nil _ _ _ _, hbv, hbp⟩, ?_⟩⟩
 refine ⟨⟨rfl, rfl, rfl, rfl, Row3.nil _ _ _, ⟨none, 0, [], rfl, Row3.nil _ _ _, fun y hy => (by cases hy), rfl⟩, rfl, rfl⟩, ⟨rfl, fun i h => ab_ h (by simp)⟩, rfl, fun x hx => (by cases hx), ArR.nil _ _, rfl, rfl, rfl, rfl, rfl, ⟨pf, cf, rfl, hf.mono fun g hg => ⟨by omega, fun h => ?_, by show g ≠ bv; omega⟩⟩, hk.lt⟩
 rcases h with h | h | h | h | h | h
 ·
  omega
 ·
  have h : g = bp := h
  omega
 all_goals cases h
theorem cell_one {w : World} {b : Nat} {v y : Value} {t : TypeId} {a : Addr} (hb : Blk w b #[v] t) (ha : a.block = b) (hc : w.cell? a = some y) : a = ⟨b, 0, none⟩ ∧ y = v := by
 obtain ⟨b', o, sp⟩ := a
 obtain rfl : b' = b := ha
 unfold World.cell? at hc
 unfold Blk at hb
 simp only [hb] at hc
 cases sp with
 | some s => simp at hc
 | none =>
  cases o with
  | zero => simp at hc; exact ⟨rfl, hc.symm⟩
  | succ n => simp at hc
theorem row_ne {α : Type} {L : Lay α} {w : World} {p : Option Addr} {l : List α} {b : Nat} {v : Value} {t : TypeId} (h : RowM L w p l) (h0 : 0 < l.length) (hb : Blk w b #[v] t) (hv : (∀ x, (L.V x)[0]? ≠ some v) ∨ 1 < L.m) : (pA p).block ≠ b := fun e => by
 have h1 := h.cells 0 h0 0 L.pos
 rw [Nat.zero_mul, Nat.zero_add, add_zero_addr, List.getElem?_eq_getElem (by rw [L.len]; exact L.pos)] at h1
 obtain ⟨ha, hy⟩ := cell_one hb e h1
 rcases hv with hv | hv
 ·
  exact hv l[0] (by rw [List.getElem?_eq_getElem (by rw [L.len]; exact L.pos), hy])
 ·
  have h2 := h.cells 0 h0 1 hv
  rw [Nat.zero_mul, Nat.zero_add, ha, add_lit, List.getElem?_eq_getElem (by rw [L.len]; exact hv)] at h2
  have h3 := (cell_one hb rfl h2).1
  simp at h3
theorem Row3.excl {α : Type} {L : Lay α} {Z : Nat → Prop} {w : World} {p : Option Addr} {l : List α} {c : Nat} {b : Nat} {v : Value} {t : TypeId} (h : Row3 L Z w p l c) (hb : Blk w b #[v] t) (hv : (∀ x, (L.V x)[0]? ≠ some v) ∨ 1 < L.m) : Row3 L (fun g => Z g ∧ g ≠ b) w p l c :=
 ⟨h.row, h.sl, fun h0 => ⟨h.inn h0, row_ne h.row h0 hb hv⟩⟩
theorem ItemR.excl {Z : Nat → Prop} {w : World} {x : ItemV} {b : Nat} {t : TypeId} (h : ItemR Z w x) (hb : Blk w b #[.slice none 0 0] t) : ItemR (fun g => Z g ∧ g ≠ b) w x :=
 ⟨h.path.excl hb (.inr dD), h.clips.excl hb (.inr dD), fun y hy => (h.all y hy).excl hb (.inr dD), h.pen.excl hb (.inl fun x => by simp [ivL]), ⟨h.bytes.row, h.bytes.sl, fun h0 => ⟨h.bytes.inn h0, fun e => by
  have h1 := h.bytes.row.cells 0 h0
  rw [add_zero_addr] at h1
  exact ab_ (cell_one hb e h1).2 (by simp)⟩⟩⟩
theorem Row3.ofS {α : Type} {L : Lay α} {N : Nat} {w : World} {p : Option Addr} {l : List α} {c : Nat} (h : StN N (fun w1 => Row3 L (fun k => k < N) w1 p l c) w) : Row3 L (fun k => k < N) w p l c := by
 have hs := h.size
 obtain ⟨d, e, a, b⟩ := h
 exact a.mv ⟨by omega, fun g hg => ⟨b g hg, hg⟩⟩
theorem vwH1_out {B bv bp g : Nat} {fo : Value} (hbv : B ≤ bv) (hbp : B ≤ bp) (hg : g < B) : ¬ VwF bv (vwH1 fo bp) (.slice none 0 0) g := fun h => by
 rcases h with h | h | h | h | h | h
 ·
  omega
 ·
  have h : g = bp := h
  omega
 all_goals cases h
set_option maxHeartbeats 3200000 in
theorem view_Items (p : Option Addr) (l : List UInt8) (c : Nat) (pf : Option Addr) (fl : List FtV) (cf : Nat) (w : World) (hb : BytesAt w p l) (hc : l.length ≤ c) (hl : l.length ≤ 100000000) (hf : Row3 ftL (fun k => k < w.heap.size) w pf fl cf) (hff : ∀ f ∈ fl, 0 ≤ f.font ∧ f.font ≤ 13) :
    Calls Tryz.prog 8 #[.slice p l.length c, .slice pf fl.length cf] w fun e w' => ItemsA (runV (fun f b => sumF f 0 b) fl l (l.length + 1) 0 vw0 []) e w' ∧ Below w.heap.size w w' := by
  obtain ⟨R, hR⟩ : ∃ R, runV (fun f b => sumF f 0 b) fl l (l.length + 1) 0 vw0 [] = R := ⟨_, rfl⟩; rw [hR]; have aY := StN.of (Q := fun w1 => Row3 ftL (fun k => k < w.heap.size) w1 pf fl cf) hf; refine W.enterD func8 rfl ntmps8 bL ?_; have aD := br_ (w.heap.size) w; refine WD.seq <| W.reg <| WL.al zeroValue29 rfl (fun T aZ a6 a7 V bk => ?_); have aP := fun o => a6 ▸ hb.lt o
  have aE := bup hb V aP; have aF := uB aD a6 V; have bd := bge a6 aD.size; refine WL.al zeroValue30 rfl (fun F a' a1 a8 G bm => ?_); have b0 := bgl a1 a7.lt; have aG := a7.un G b0; have az := fun o => a1 ▸ aE.lt o
  have a9 := bup aE G az; have aa := uB aF a1 G; have be := bge a1 aF.size; refine WL.e <| WD.defer rfl rfl <| WD.of ?_; refine W.sr <| WL.O (.build rfl bldV1) ?_; refine WL.al zeroValue37 rfl (fun aH aQ C aA j bf => ?_); have aR := bgl C aG.lt; have aS := bgl C a8.lt; have a2 := fun o => C ▸ a9.lt o
  have b2 := bge C aa.size; refine WL.stL rfl rfl aA isz37 rfl rfl (fun aI a n bg => ?_); refine WL.e <| W.seq <| W.noPn <| W.regH 10 rfl mixed (fun w' => w'.heap[aH]? = aI.heap[aH]? ∧ True) (fun b3 q => ?_); have ab := a.drew q; have ac := (bup (bup a9 j a2) n a2).drew q; have a3 := And.intro (ab.trans a.symm) True.intro; refine WH.tk 1 rfl (fun w' hw' => Rd.ldF (L := colorL) u37_ rfl isz37 ((hw'.1).trans a) (col0 1) (rfl) rfl) a3 rfl ?_; refine WH.tk 2 rfl (fun w' hw' => Rd.ldF (L := colorL) u37_ rfl isz37 ((hw'.1).trans a) (col0 1) (rfl) rfl) a3 rfl ?_; refine WH.tp 3 rfl (.build rfl bldV2) a3 rfl ?_; refine WH.tp 5 rfl (.mv rfl) a3 rfl ?_; refine WH.br1 0 rfl <| WL.c1 hB_ rfl rfl ((mat_Identity _)) (fun aJ s => ?_); have ad := (((aG.un j aR).up n).drew q).bl s; have ae := (((a8.un j aS).up n).drew q).bl s; have X := ab.bl s; have af := bb_ ac s (fun o => ac.lt o); have ag := btr (Drew.below (ub_ (uB aa C j) oO n) q) s; refine WL.e <| ⟨⟨(X).trans (a).symm, tT⟩, ?_⟩; refine WH.tp 4 rfl (.build rfl bldV3) ⟨(X).trans (a).symm, tT⟩ rfl ?_; refine WH.br1 6 rfl <| WL.call hB_ rfl rfl ((pth_New 4096 _ dD)) (fun bp b4 i => ?_); have ah := ad.bl i.1; have ai := ae.bl i.1; have J := X.bl i.1; have aj := bb_ af i.1 (fun o => af.lt o); have ak := btr ag i.1; obtain ⟨K, am⟩ := i.2; obtain ⟨Bz, a4⟩ : ∃ B, B = aJ.heap.size := ⟨_, rfl⟩; rw [← a4] at K am; have aT := StN.of (Q := fun w1 => PthAt Bz w1 bp 4096 path0 (.slice none 0 0)) am; have aK : T < Bz := by rw [a4]; exact (ad).lt
  have aL : F < Bz := by rw [a4]; exact (ae).lt
  have a5 : w.heap.size ≤ Bz := by rw [a4]; exact ag.size
  have bn := am.base; refine WL.e <| ⟨⟨(J).trans (a).symm, tT⟩, ?_⟩; refine WH.tp 7 rfl (.build rfl (bldV4 pf fl.length cf bp)) ⟨(J).trans (a).symm, tT⟩ rfl ?_; refine WH.br1 8 rfl <| WL.box rfl rfl (fun bo Y t aB d bh => ?_); have aU := bgl t ah.lt; have an := ah.un d aU; have aV := bgl t ai.lt; have ao := ai.un d aV; have aW := bgl t J.lt; have ap := J.un d aW; have aC := fun o => t ▸ aj.lt o
  have aq := uB ak t d; have b5 := bge t ak.size; refine WL.e <| ⟨⟨(ap).trans (a).symm, tT⟩, ?_⟩; refine WH.tp 9 rfl (.as rfl) ⟨(ap).trans (a).symm, tT⟩ rfl ?_; refine WH.done kR <| W.sr <| WL.M rfl <| WL.M rfl <| WL.cx hB_ rfl rfl ((vw_run p l c (vwr1 (B := Bz) aB (PthAt.ofN (ss_ (w1 := Y) aT (fun k hk hl => d.other k oO))) oO K ((Row3.ofS (ss_ (w1 := Y) (ss_ (w1 := b4) (ss_ (w1 := aJ) (ss_ (w1 := b3) (ss_ (w1 := aI) (ss_ (w1 := aQ) (ss_ (w1 := a') (ss_ (w1 := aZ) aY (fun k hk hl => V.other k oO)) (fun k hk hl => G.other k oO)) (fun k hk hl => j.other k oO)) (fun k hk hl => n.other k (by first | ((try simp only) <;> omega) | (have := hk.1; ((try simp only) <;> omega))))) (fun k hk hl => (by obtain ⟨m, rfl⟩ := q; rfl))) (fun k hk hl => s.block k hl)) (fun k hk hl => i.1.block k hl)) (fun k hk hl => d.other k oO))).mono fun g hg => Nat.lt_of_lt_of_le hg a5)) (bup aj d aC) hc hl (fun o => vwH1_out oO K (Nat.lt_of_lt_of_le (hb.lt o) a5)) vw0_snd hff rfl)) (fun b7 au N D => ?_) (fun bq bt au N D => ?_); exact PostD.caught hb16 (fun w' => _) (items_caught T F w.heap.size _ _ b7 _ ((an).below D aK) ((ao).below D aL) oO oO)
    (fun w' hS => ⟨_, ResOk.two rfl rfl rfl (ldCell hS.1 (isAgg29 _) rfl) (ldCell hS.2.1 (g30_ _) rfl), by rw [← hR, N]; exact ⟨rfl, bt_ aq (bt_ (Below.mono D a5) hS.2.2)⟩⟩)
  obtain ⟨rfl, F1, aX, b8⟩ := D; have a0 : Below Bz Y au := b8.below oO (fun g hg => Nat.le_of_not_lt fun h => vwH1_out oO K h hg); have aM := (an).below a0 aK; have aN := (ao).below a0 aL; obtain ⟨wR, U⟩ : ∃ u, u = au := ⟨_, rfl⟩; obtain ⟨H, vp, its, hs, cs, bu, hO, av⟩ := aX.mem; have b9 := hO.blk; obtain ⟨⟨ctm, fi, sk, pe, clv, fn, sz⟩, fo, sa, pa, cl, it, lo, te, li, ar, itv⟩ := H; obtain ⟨pit, cit, eit, aO⟩ := Row3.own (Z := fun g => g < wR.heap.size) hO.oi (fun g hg => U ▸ (hO.oi.lt g hg).2); simp only at eit; subst eit; have ba := N; refine WL.e <| W.sr <| WL.M rfl <| WL.O (.nck rfl) <| WL.O (.fa u74_ rfl s29_ dD rfl) <| WL.R (Rd.ld (isAgg29 _) rfl b9 rfl) <| WL.st s29_ rfl rfl rfl aM oD (fun bb P v bi => ?_); have P : Blk bb T _ _ := P; have v : Upd T _ _ := v; refine WL.st s30_ rfl rfl rfl (aN.up v) oD (fun E y A bj => ?_); have y : Blk E F _ _ := y; have A : Upd F _ _ := A; refine WL.e <| W.ret ?_; obtain ⟨wm, aw, ax⟩ : ∃ wm, Upd T wR wm ∧ Upd F wm E := by rw [U]; exact ⟨_, by assumption, by assumption⟩
  have bc : wR.heap[F]? = E.heap[F]? := by rw [U]; exact aN.trans (y).symm
  have m : Mv (fun g => g < wR.heap.size ∧ g ≠ T) (fun g => g < E.heap.size) wR E := ⟨nt_ aw.size ax.size, fun g hg => ⟨by
    rcases Nat.decEq g F with h1 | h1
    · exact (ax.other g h1).trans (aw.other g hg.2)
    · rw [h1]; exact bc.symm, Nat.lt_of_lt_of_le hg.1 (nt_ aw.size ax.size)⟩⟩
  have ay : Blk wR T #[.slice none 0 0] 29 := U ▸ aM; have hA : ItemsA R (.returned (.tuple #[.slice pit its.length cit, .int .i64 0])) E := by
    rw [← hR, ba]; rw [← U] at aO av; exact ⟨pit, cit, its, rfl, (aO.excl ay (.inr dD)).mv m, fun x hx => (((av.itr x hx).mv (Z1 := fun g => g < wR.heap.size) ⟨nr_ _, fun g hg => ⟨rfl, hg.1⟩⟩).excl ay).mv m, av.it⟩
  exact PostD.ret hb16 (fun w' => _) (items_quiet T F _) (fun w' hS => by
    subst hS; exact ⟨_, ResOk.two rfl rfl rfl (ldCell (P.up A) (isAgg29 _) rfl) (ldCell y (g30_ _) rfl), hA, (ub_ (ub_ (bt_ aq (Below.mono a0 a5)) oO v) oO A)⟩)
end
section
theorem gdE {α : Type} {l : List α} {i : Nat} {d : α} (h : i < l.length) : l.getD i d = l[i] := by rw [List.getD_eq_getElem?_getD, List.getElem?_eq_getElem h]; rfl
theorem gdN {α : Type} {l : List α} {i : Nat} {d : α} (h : l.length ≤ i) : l.getD i d = d := by rw [List.getD_eq_getElem?_getD, List.getElem?_eq_none h]; rfl
def fontAt (names : List (List UInt8)) (nums : List UInt8) (i : Nat) : FtV := ⟨names.getD i [], (((nums.getD i 0).toNat % 14 : Nat) : Int)⟩
def fontsV (names : List (List UInt8)) (nums : List UInt8) : List FtV := (List.range (min 20 names.length)).map (fontAt names nums)
theorem fontsV_ok (names : List (List UInt8)) (nums : List UInt8) : ∀ f ∈ fontsV names nums, 0 ≤ f.font ∧ f.font ≤ 13 := fun f hf => by
 obtain ⟨i, -, rfl⟩ := List.mem_map.1 hf
 show 0 ≤ (((nums.getD i 0).toNat % 14 : Nat) : Int) ∧ (((nums.getD i 0).toNat % 14 : Nat) : Int) ≤ 13
 omega
theorem inf53 : (Tryz.prog.info? 53).map (fun i => (i.zero, i.size, i.bytes)) = some (some (.agg #[.string ⟨#[]⟩, .int .i64 0]), 2, 24) := by kernel_rfl
theorem inf64 : (Tryz.prog.info? 64).map (fun i => (i.zero, i.size, i.bytes)) = some (some (.agg #[.string ⟨#[]⟩, .int .i64 0]), 2, 24) := by kernel_rfl
theorem bldF1 (s : List UInt8) (n : Int) : Tryz.prog.built 53 [(0, .string (bs s)), (1, .int .i64 n)] = some (ftV ⟨s, n⟩).toArray := by kernel_rfl
theorem bldF2 (s : List UInt8) (n : Int) : Tryz.prog.built 64 [(0, .string (bs s)), (1, .int .i64 n)] = some (ftV ⟨s, n⟩).toArray := by kernel_rfl
set_option maxHeartbeats 1600000 in
theorem law21_fonts (pn : Option Addr) (names : List (List UInt8)) (cn : Nat) (pm : Option Addr) (nums : List UInt8) (cm : Nat) (w : World) (hn : RowAt strV w pn names) (hm : BytesAt w pm nums) (hnl : names.length ≤ 9223372036854775807) (hml : nums.length ≤ 9223372036854775807) :
  Calls Tryz.prog 7 #[.slice pn names.length cn, .slice pm nums.length cm] w fun e w' => ∃ v : Value × Value, e = .returned (.tuple #[v.1, v.2]) ∧ Below w.heap.size w w' ∧ OwnM ftL 53 w.heap.size w' v.1 (fontsV names nums) ∧ OwnM ftL 64 w.heap.size w' v.2 (fontsV names nums) := by
 have a4 := hn.lt
 have a5 := hm.lt
 refine W.e func7 rfl ntmps7 bL ?_
 have aj := br_ (w.heap.size) w
 refine W.sr <| WL.A rfl <| WL.Z rfl <| W.sr <| WL.Z rfl <| W.sr <| WL.Z rfl <| W.seq <| W.sr <| WL.Z rfl <| W.b <| W.loop (α := Nat × Value × Value) (fun t => [(0, .slice pn names.length cn), (1, .slice pm nums.length cm), (6, t.2.1), (7, t.2.2), (8, .int .i64 (t.1 : Int))]) (fun t w' => Below w.heap.size w w' ∧ RowAt strV w' pn names ∧ BytesAt w' pm nums ∧ OwnM ftL 53 w.heap.size w' t.2.1 ((List.range t.1).map (fontAt names nums)) ∧ OwnM ftL 64 w.heap.size w' t.2.2 ((List.range t.1).map (fontAt names nums)) ∧ t.1 ≤ 20 ∧ t.1 ≤ names.length) (fun t => 20 - t.1) ((0, .slice none 0 0, .slice none 0 0)) ⟨rfl, rfl, rfl, rfl, rfl, tT⟩ (⟨aj, hn, hm, OwnM.nil _ _ _ _, OwnM.nil _ _ _ _, nl_ _, nl_ _⟩) (fun t w1 hR => ?_)
 obtain ⟨⟨k, v6, v7⟩, ak⟩ : ∃ u, u = t := ⟨t, rfl⟩
 subst ak
 obtain ⟨H, y, B, q4, q5, q6, q7⟩ := hR
 simp only at q4 q5 q6 q7
 have C := H.size
 have aG := y.lt
 have aH := B.lt
 refine W.seq <| W.cutB 17 (decide (k < names.length ∧ k < 20)) ?_ ?_
 refine W.reg <| WL.M rfl <| WL.M rfl <| WL.O (.lenS u23_ rfl) <| WL.O (.lss rfl rfl) <| WL.M rfl <| WL.gd rfl rfl rfl (fun o => ?_) (fun o => ?_)
 have al := dT o
 refine WL.M rfl <| WL.Y o <| WL.O (.lss rfl rfl) <| WL.O (.pkT rfl o rfl) <| WL.e <| ?_
 exact ⟨leE (lk_b rfl (by first | (simp only [decide_eq_decide]; omega) | (simp; omega) | (exfalso; simp_all; omega) | (simp_all; done))), rfl⟩
 have al := dF o
 refine WL.N o <| WL.O (.pkF rfl o rfl) <| WL.e <| ?_
 exact ⟨leE (lk_b rfl (by first | (simp only [decide_eq_decide]; omega) | (simp; omega) | (exfalso; simp_all; omega) | (simp_all; done))), rfl⟩
 refine W.cond rfl (fun h2 => ?_) (fun h2 => ?_)
 have am := dT h2
 have an : k < names.length := (show k < names.length ∧ k < 20 by assumption).1
 have aI : k < 20 := (show k < names.length ∧ k < 20 by assumption).2
 refine W.k <| W.seq <| W.b <| W.sr <| WL.Z rfl <| W.cut (α := Int) (fun t => [(0, .slice pn names.length cn), (1, .slice pm nums.length cm), (6, v6), (7, v7), (8, .int .i64 (k : Int)), (9, .int .i64 t)]) (fun t w' => w1 = w' ∧ t = (fontAt names nums k).font) ?_ (fun t w1 hR => ?_)
 refine W.sr <| WL.M rfl <| WL.M rfl <| WL.O (.lenS u22_ rfl) <| WL.O (.lss rfl rfl) <| WL.e <| W.cond rfl (fun h3 => ?_) (fun h3 => ?_)
 have ao := dT h3
 refine W.reg <| WL.M rfl <| WL.M rfl <| WL.O (.ixb u22_ s5_ rfl rfl (B.isp (by first | omega | exact nz_ _)) (k) (rfl) oO) <| WL.R (Rd.ldc (g5_ _) rfl (B.cells (k) oO)) <| WL.O (.rem rfl rfl oO (Int.tmod_eq_emod_of_nonneg oO)) <| WL.O (.cvt u5_ u3_ rfl (i64w oO)) <| WL.Z rfl ?_
 first
 | exact ⟨_, ⟨rfl, rfl, rfl, rfl, rfl, rfl, tT⟩, rfl, by show _ = (((nums.getD k 0).toNat % 14 : Nat) : Int); rw [gdE oO]; omega⟩
 | exact ⟨_, ⟨rfl, rfl, rfl, rfl, rfl, rfl, tT⟩, rfl, by show _ = (((nums.getD k 0).toNat % 14 : Nat) : Int); rw [gdN oO]; rfl⟩
 have ao := dF h3
 refine W.k ?_
 first
 | exact ⟨_, ⟨rfl, rfl, rfl, rfl, rfl, rfl, tT⟩, rfl, by show _ = (((nums.getD k 0).toNat % 14 : Nat) : Int); rw [gdE oO]; omega⟩
 | exact ⟨_, ⟨rfl, rfl, rfl, rfl, rfl, rfl, tT⟩, rfl, by show _ = (((nums.getD k 0).toNat % 14 : Nat) : Int); rw [gdN oO]; rfl⟩
 obtain ⟨rfl, ap⟩ := hR
 have aq : (⟨names[k], t⟩ : FtV) = fontAt names nums k := by rw [ap]; unfold fontAt; rw [gdE an]
 refine W.sr <| WL.M rfl <| WL.M rfl <| WL.M rfl <| WL.O (.ixb u23_ s9_ rfl rfl (y.isp (by first | omega | exact nz_ _)) (k) (rfl) oO) <| WL.R (Rd.ldc (g9_ _) rfl (y.cells (k) oO)) <| WL.M rfl <| ?_
 refine WL.O (.build rfl (bldF1 names[k] t)) ?_
 refine WL.bslM (L := ftL) (ps := _) ([(⟨names[k], t⟩ : FtV)]) u25_ sizeOf53 zeroValue53 rfl rfl rfl rfl rfl (by first | rfl | decide) rfl rfl (fun b4 ar l a6 c aF => ?_)
 have D := nt_ C c.size
 have E := on_ q4 l c
 have a7 := nt_ C c.size
 have s := on_ q5 l c
 have J := fun i => l ▸ y.lt i
 have au := RowAt.upd y c (fun i => nn_ (J i))
 have K := fun i => l ▸ B.lt i
 have a8 := BytesAt.upd B c (fun i => nn_ (K i))
 have a9 := uB H l c
 have ay := bge l H.size
 have az : b4 ≤ ar.heap.size := by omega
 refine WL.appM u25_ inf53 rfl rfl rfl E rfl (a6).rowp (by simp only [List.length_cons, List.length_nil, List.length_map, List.length_range]; omega) (D) rfl (fun h => ab_ h (lc_ _ _)) (fun aJ aK P d Q aA => ?_)
 have aa := OwnM.same s (fun g hg => Q.block g ((s).lt g hg).2 (fun hx => by first | exact own_sepV E s dD g hx.symm hg | exact own_sepV s E dD g hg hx.symm))
 have T := nt_ a7 d.size
 have m := RowAt.below au d a4
 have F := bb_ a8 d a5
 have G := bt_ a9 (d.mono (nr_ _))
 have U := nt_ D d.size
 refine WL.Z rfl <| W.reg <| WL.M rfl <| WL.M rfl <| WL.M rfl <| WL.O (.ixb u23_ s9_ rfl rfl (m.isp (by first | omega | exact nz_ _)) (k) (rfl) oO) <| WL.R (Rd.ldc (g9_ _) rfl (m.cells (k) oO)) <| WL.M rfl <| ?_
 refine WL.O (.build rfl (bldF2 names[k] t)) ?_
 refine WL.bslM (L := ftL) (ps := _) ([(⟨names[k], t⟩ : FtV)]) underlying26 sizeOf64 zeroValue64 rfl rfl rfl rfl rfl (by first | rfl | decide) rfl rfl (fun av ab j V a aB => ?_)
 have X := nt_ U a.size
 have n := on_ P j a
 have x := nt_ T a.size
 have q := on_ aa j a
 have a0 := fun i => j ▸ m.lt i
 have ac := RowAt.upd m a (fun i => nn_ (a0 i))
 have a1 := fun i => j ▸ F.lt i
 have ad := bup F a a1
 have ae := uB G j a
 have aw := bge j G.size
 have ax : av ≤ ab.heap.size := by omega
 refine WL.appM underlying26 inf64 rfl rfl rfl q rfl (V).rowp (by simp only [List.length_cons, List.length_nil, List.length_map, List.length_range]; omega) (x) rfl (fun h => ab_ h (lc_ _ _)) (fun aL aM a2 f a3 aC => ?_)
 have af := OwnM.same n (fun g hg => a3.block g ((n).lt g hg).2 (fun hx => by first | exact own_sepV n q dD g hg hx.symm | exact own_sepV q n dD g hx.symm hg))
 have aD := nt_ X f.size
 have ag := RowAt.below ac f a4
 have ah := bb_ ad f a5
 have ai := bt_ ae (f.mono (nr_ _))
 have aE := nt_ x f.size
 refine WL.Z rfl <| W.reg <| WL.M rfl <| WL.O (.iis (((k + 1 : Nat) : Int)) (.add rfl rfl (i64w oO)) oO) <| WL.Z rfl ?_
 have e9 : (List.range k).map (fontAt names nums) ++ [(⟨names[k], t⟩ : FtV)] = (List.range (k + 1)).map (fontAt names nums) := by rw [aq, List.range_succ, List.map_append]; rfl
 have h8 := af
 have h9 := a2
 rw [e9] at h8 h9
 exact ⟨(k + 1, _, _), ⟨rfl, rfl, rfl, rfl, rfl, tT⟩, ⟨ai, ag, ah, h8, h9, by ((try simp only) <;> omega), by ((try simp only) <;> omega)⟩, by ((try simp only) <;> omega)⟩
 have am := dF h2
 have aN : ¬ (k < names.length ∧ k < 20) := by assumption
 refine W.exit <| W.sr <| WL.M rfl <| WL.M rfl <| WL.A rfl <| WL.Z rfl <| W.ret (W.ret2 rfl rfl rfl ?_)
 have he : fontsV names nums = (List.range k).map (fontAt names nums) := by unfold fontsV; rw [show min 20 names.length = k by omega]
 exact ⟨(v6, v7), rfl, H, by rw [he]; exact q4, by rw [he]; exact q5⟩
end
section
theorem wf_i64 {n : Int} (h1 : -9223372036854775808 ≤ n) (h2 : n ≤ 9223372036854775807) : (Lit.int .i64 n).wf = true := by
 simp only [Lit.wf, Bool.and_eq_true, decide_eq_true_eq]
 exact ⟨h1, h2⟩
theorem wf_fits {n : Int} (h : fitsB n = true) : (Lit.int .i64 n).wf = true := by
 unfold fitsB at h
 simp only [Bool.and_eq_true, decide_eq_true_eq] at h
 exact wf_i64 oO oO
theorem ptOk {w : World} {x : PointV} (h : fitsP x = true) : PointOk w x := by
 unfold fitsP at h
 simp only [Bool.and_eq_true] at h
 exact ⟨wf_fits h.1, wf_fits h.2⟩
theorem sgOk {w : World} {s : SegV} {k : Int} (h : segB s k = true) : SegOk w s := by
 unfold segB at h
 simp only [Bool.and_eq_true, decide_eq_true_eq, List.all_cons, List.all_nil] at h
 obtain ⟨⟨⟨a, -⟩, b, c, d, -⟩, -⟩ := h
 have hk : 1 ≤ s.fKind ∧ s.fKind ≤ 4 := by
  unfold segN at a
  split at a
  ·
   omega
  ·
   split at a
   ·
    omega
   ·
    split at a
    ·
     omega
    ·
     omega
 exact ⟨wf_i64 oO oO, ptOk b, ptOk c, ptOk d⟩
theorem sgsOk {w : World} : ∀ (l : List SegV) (k : Int), segsB k l = true → ∀ y ∈ l, SegOk w y
 | [], _, _, y, hy => by cases hy
 | s :: r, k, h, y, hy => by
  unfold segsB at h
  simp only [Bool.and_eq_true] at h
  rcases List.mem_cons.1 hy with rfl | hy
  ·
   exact sgOk h.1
  ·
   exact sgsOk r _ h.2 y hy
theorem pathOk {w : World} {l : List SegV} (h : pathB l = true) : ∀ y ∈ l, SegOk w y := by
 unfold pathB at h
 simp only [Bool.and_eq_true] at h
 exact sgsOk l 0 h.2
theorem clOk {Z : Nat → Prop} {w : World} {x : ClipV} (hr : ClipR Z w x) (h : clipB x = true) : ClipOk w x := by
 unfold clipB at h
 simp only [Bool.and_eq_true] at h
 exact ⟨hr.row, hr.sl, pathOk h.2⟩
theorem coOk {w : World} {x : ColorV} (h : colorB x = true) : ColorOk w x := by
 unfold colorB spaceB partB parts at h
 simp only [Bool.and_eq_true, Bool.or_eq_true, decide_eq_true_eq, List.getElem_cons_zero, List.getElem_cons_succ, Bool.not_eq_true', Bool.and_eq_false_iff, decide_eq_false_iff_not, Bool.not_eq_false'] at h
 obtain ⟨hs, ⟨⟨⟨a, -⟩, b, -⟩, c, -⟩, d, -⟩ := h
 have a : 0 ≤ x.fPart_0 ∧ x.fPart_0 ≤ 65536 := a
 have b : 0 ≤ x.fPart_1 ∧ x.fPart_1 ≤ 65536 := b
 have c : 0 ≤ x.fPart_2 ∧ x.fPart_2 ≤ 65536 := c
 have d : 0 ≤ x.fPart_3 ∧ x.fPart_3 ≤ 65536 := d
 refine ⟨wf_i64 ?_ ?_, wf_i64 oO oO, wf_i64 oO oO, wf_i64 oO oO, wf_i64 oO oO⟩
 ·
  omega
 ·
  omega
theorem noneOk {Z : Nat → Prop} {w : World} {x : PenV} (hr : PenR Z w x) (h : noneB x = true) : PenOk w x := by
 unfold noneB at h
 simp only [Bool.and_eq_true, decide_eq_true_eq] at h
 obtain ⟨⟨⟨⟨⟨a, b⟩, c⟩, d⟩, e⟩, f⟩ := h
 exact ⟨wf_i64 oO oO, wf_i64 oO oO, wf_i64 oO oO, wf_i64 oO oO, hr.row.ofI, hr.sl, fun y hy => (by have := List.length_pos_of_mem hy; omega), wf_i64 oO oO⟩
theorem penOk {Z : Nat → Prop} {w : World} {x : PenV} (hr : PenR Z w x) (h : penB x = true) : PenOk w x := by
 unfold penB penH at h
 simp only [Bool.and_eq_true, Bool.not_eq_true', Bool.or_eq_false_iff, decide_eq_false_iff_not, Bool.not_eq_false'] at h
 obtain ⟨⟨⟨⟨⟨⟨⟨⟨⟨⟨⟨⟨f, d⟩, g⟩, i⟩, j⟩, k⟩, l⟩, e⟩, m⟩, b⟩, -⟩, c⟩, -⟩ := h
 refine ⟨wf_fits d, wf_i64 oO oO, wf_i64 oO oO, wf_fits e, hr.row.ofI, hr.sl, fun y hy => ?_, wf_fits b⟩
 have a := List.all_eq_true.1 c y hy
 unfold dashB at a
 simp only [Bool.and_eq_true] at a
 exact wf_fits a.2
theorem clipsB_E (l : List ClipV) : clipsB (l.map clipE) = clipsB l := by
 unfold clipsB
 rw [List.length_map, List.all_map]
 rfl
theorem itemB_E (x : ItemV) : itemB (itemE x) = itemB x := by
 show (colorB x.fColor && clipsB (x.fClips.map clipE) && _) = _
 rw [clipsB_E]
 rfl
theorem itemOk {Z : Nat → Prop} {w : World} {x : ItemV} (hr : ItemR Z w x) (h : itemB x = true) : ItemOk w x := by
 unfold itemB at h
 simp only [Bool.and_eq_true] at h
 obtain ⟨⟨hc, c⟩, h⟩ := h
 unfold clipsB at c
 simp only [Bool.and_eq_true] at c
 have d : ∀ y ∈ x.fClips, ClipOk w y := fun y hy => clOk (hr.all y hy) (List.all_eq_true.1 c.2 y hy)
 split at h
 ·
  next h4 =>
  simp only [Bool.and_eq_true, decide_eq_true_eq] at h
  obtain ⟨⟨hl, hp⟩, hn⟩ := h
  unfold lettersB mats at hl
  simp only [Bool.and_eq_true, decide_eq_true_eq, List.all_cons, List.all_nil] at hl
  obtain ⟨⟨⟨⟨f1, f2⟩, -⟩, -⟩, e, f, g, i, j, k, -⟩ := hl
  exact ⟨wf_i64 oO oO, hr.path.row, hr.path.sl, fun y hy => (by have := List.length_pos_of_mem hy; omega), coOk hc, hr.clips.row, hr.clips.sl, d, noneOk hr.pen hn, wf_i64 oO oO, wf_fits e, wf_fits f, wf_fits g, wf_fits i, wf_fits j, wf_fits k, hr.bytes.row, hr.bytes.sl⟩
 ·
  simp only [Bool.and_eq_true] at h
  obtain ⟨b, a⟩ := h
  unfold restB mat0 at b
  simp only [Bool.and_eq_true, decide_eq_true_eq] at b
  obtain ⟨⟨⟨⟨f1, e, f, g, i, j, k⟩, -⟩, -⟩, l⟩ := b
  have hk : 1 ≤ x.fKind ∧ x.fKind ≤ 3 ∧ PenOk w x.fPen := by
   split at a
   ·
    exact ⟨by omega, by omega, noneOk hr.pen a⟩
   ·
    split at a
    ·
     exact ⟨by omega, by omega, penOk hr.pen a⟩
    ·
     cases a
  exact ⟨wf_i64 oO oO, hr.path.row, hr.path.sl, pathOk l, coOk hc, hr.clips.row, hr.clips.sl, d, hk.2.2, wf_i64 oO oO, wf_i64 oO oO, wf_i64 oO oO, wf_i64 oO oO, wf_i64 oO oO, wf_i64 oO oO, wf_i64 oO oO, hr.bytes.row, hr.bytes.sl⟩
end
section
def s21 : List UInt8 := [48, 32, 48, 32, 49, 48, 32, 49, 48, 32, 114, 101, 32, 102]
def fiveB : Except Int Vw → Bool
 | .ok V => decide (V.items.map (fun x => x.fPath.length) = [5])
 | .error _ => false
theorem five21 : fiveB (runV (fun f b => sumF f 0 b) [] s21 (s21.length + 1) 0 vw0 []) = true := by decide +kernel
theorem ans21 : ∃ V, runV (fun f b => sumF f 0 b) [] s21 (s21.length + 1) 0 vw0 [] = .ok V ∧ V.items.map (fun x => x.fPath.length) = [5] := by
 have h := five21
 cases hr : runV (fun f b => sumF f 0 b) [] s21 (s21.length + 1) 0 vw0 [] with
 | error k => rw [hr] at h; cases h
 | ok V => rw [hr] at h; exact ⟨V, rfl, dT h⟩
theorem view_Items21 (p : Option Addr) (c : Nat) (w : World) (hb : BytesAt w p s21) (hc : s21.length ≤ c) :
  Calls Tryz.prog 8 #[.slice p s21.length c, .slice none 0 0] w fun e w' => ∃ x : Option Addr × Nat × ItemV, e = .returned (.tuple #[.slice x.1 1 x.2.1, .int .i64 0]) ∧ Below w.heap.size w w' ∧ RowM itemL w' x.1 [x.2.2] ∧ x.2.2.fPath.length = 5 :=
 Calls.mono (view_Items p s21 c none [] 0 w hb hc dD (Row3.nil _ _ _) (fun f hf => by cases hf)) fun e w' q => by
  obtain ⟨V, hV, h5⟩ := ans21
  obtain ⟨q1, q2⟩ := q
  rw [hV] at q1
  obtain ⟨pi, ci, its, e1, e2, -, e4⟩ := q1
  rw [← e4, List.map_map] at h5
  have hl : its.length = 1 := by have := congrArg List.length h5; rw [List.length_map] at this; exact this
  obtain ⟨x, rfl⟩ := List.length_eq_one_iff.1 hl
  exact ⟨(pi, ci, x), e1, q2, e2.row, (List.cons.inj h5).1⟩
theorem law21_answers (w : World) : Calls Tryz.prog 6 #[] w fun e w' => e = .returned (.bool true) ∧ Below w.heap.size w w' := by
 refine W.e func6 rfl ntmps6 bL ?_
 have d := br_ (w.heap.size) w
 refine W.sr <| WL.Z rfl <| W.sr <| WL.bsl (ps := _) u22_ s5_ z5_ rfl rfl rfl rfl rfl pR rfl (fun C B f i j u => ?_)
 have l := uB d f j
 have t := bge f d.size
 refine WL.cvB ([48, 32, 48, 32, 49, 48, 32, 49, 48, 32, 114, 101, 32, 102]) u22_ u5_ rfl i rfl rfl (fun D hs k v => ?_)
 have m := ub_ l oO k
 refine WL.call hB_ rfl rfl ((view_Items21 _ _ _ hs dD)) (fun x E g => ?_)
 have n := btr m g.1
 obtain ⟨xp, xc, y⟩ := x
 obtain ⟨c, o⟩ := g.2
 simp only at c o
 refine WL.M rfl <| WL.O (.ext rfl rfl) <| WL.O (.ext rfl rfl) <| WL.A rfl <| WL.Z rfl <| W.sr <| WL.M rfl <| WL.O (.eql rfl rfl) <| WL.M rfl <| WL.gd rfl rfl rfl (fun b => ?_) (fun b => ?_)
 have q := dT b
 refine WL.M rfl <| WL.Y b <| WL.O (.lenS u29_ rfl) <| WL.Y b <| WL.O (.eql rfl rfl) <| WL.O (.pkT rfl b rfl) <| WL.M rfl <| WL.gd rfl rfl rfl (fun a => ?_) (fun a => ?_)
 have s := dT a
 refine WL.M rfl <| WL.Y a <| WL.O (.ixm u29_ sizeOf44 rfl rfl (c.isp (by first | omega | (simp only [List.length_cons, List.length_nil]; omega))) (0) (rfl) dD) <| WL.Y a <| WL.O (.fa u44_ rfl s34_ dD rfl) <| WL.Y a <| WL.R (Rd.ldc (g34_ _) rfl ((c.field (0) (by first | omega | (simp only [List.length_cons, List.length_nil]; omega)) 1 dD).trans rfl)) <| WL.Y a <| WL.O (.lenS u34_ rfl) <| WL.Y a <| WL.O (.eql rfl rfl) <| WL.O (.pkT rfl a rfl) <| WL.Z rfl <| W.ret (W.r1 rfl rfl ?_)
 exact ⟨scr_val (congrArg Value.bool (decide_eq_true (show (y.fPath.length : Int) = 5 by omega))), n⟩
 have s := dF a
 refine WL.N a <| WL.N a <| WL.N a <| WL.N a <| WL.N a <| WL.O (.pkF rfl a rfl) <| WL.Z rfl <| W.ret (W.r1 rfl rfl ?_)
 first
 | exact ab_ aS dD
 | (exfalso; simp_all; done)
 | (exfalso; omega)
 have q := dF b
 refine WL.N b <| WL.N b <| WL.O (.pkF rfl b rfl) <| WL.M rfl <| WL.N rfl <| WL.N rfl <| WL.N rfl <| WL.N rfl <| WL.N rfl <| WL.N rfl <| WL.O (.pkF rfl rfl rfl) <| WL.Z rfl <| W.ret (W.r1 rfl rfl ?_)
 first
 | exact ab_ aS dD
 | (exfalso; simp_all; done)
 | (exfalso; omega)
end
section
theorem itemB_4 {x : ItemV} (hc : colorB x.fColor = true) (hl : clipsB x.fClips = true) (h : x.fKind = 4) : itemB x = (lettersB x && decide ((x.fPath.length : Int) = 0) && noneB x.fPen) := by unfold itemB; rw [hc, hl, if_pos h]; rfl
theorem itemB_n {x : ItemV} (hc : colorB x.fColor = true) (hl : clipsB x.fClips = true) (h : ¬ x.fKind = 4) (hr : restB x = true) : itemB x = (if x.fKind = 1 ∨ x.fKind = 2 then noneB x.fPen else if x.fKind = 3 then penB x.fPen else false) := by unfold itemB; rw [hc, hl, if_neg h, hr]; rfl
theorem itemB_r {x : ItemV} (h : ¬ x.fKind = 4) (hr : restB x = false) : itemB x = false := by unfold itemB; rw [if_neg h, hr]; simp
theorem itemB_c {x : ItemV} (h : colorB x.fColor = false) : itemB x = false := by unfold itemB; rw [h]; rfl
theorem itemB_l {x : ItemV} (h : clipsB x.fClips = false) : itemB x = false := by unfold itemB; rw [h]; simp
def restQ (x : ItemV) : Bool := !decide (x.fFont = 0) || !mat0 x || decide ((x.fBytes.length : Int) > 0) || decide ((x.fPath.length : Int) = 0) || !pathB x.fPath
theorem restQ_eq (x : ItemV) : restB x = !restQ x := by
 have e : decide ((x.fBytes.length : Int) > 0) = !decide ((x.fBytes.length : Int) = 0) := by rw [Bool.eq_iff_iff]; simp only [decide_eq_true_eq, Bool.not_eq_true', decide_eq_false_iff_not]; omega
 unfold restB restQ; rw [e]
 cases decide (x.fFont = 0) <;> cases mat0 x <;> cases decide ((x.fBytes.length : Int) = 0) <;> cases decide ((x.fPath.length : Int) = 0) <;> cases pathB x.fPath <;> rfl
theorem restB_yes {x : ItemV} (h : restQ x = false) : restB x = true := by rw [restQ_eq, h]; rfl
end
section
def lettersQ (x : ItemV) : Bool := decide (x.fFont ≥ 0) && decide (x.fFont ≤ 13) && decide ((x.fBytes.length : Int) ≥ 1) && decide ((x.fBytes.length : Int) ≤ 65535) && decide ((x.fPath.length : Int) = 0) && noneB x.fPen
theorem lettersQ_eq {x : ItemV} (h : (mats x).all fitsB = true) : lettersQ x = (lettersB x && decide ((x.fPath.length : Int) = 0) && noneB x.fPen) := by
 unfold lettersQ lettersB; rw [h, Bool.and_true]
theorem lettersB_no {x : ItemV} (h : (mats x).all fitsB = false) : lettersB x = false := by unfold lettersB; rw [h, Bool.and_false]
def restR (x : ItemV) : Bool := decide (x.fKind < 1) || decide (x.fKind > 3) || restQ x
theorem itemB_q {x : ItemV} (hc : colorB x.fColor = true) (hl : clipsB x.fClips = true) (h : ¬ x.fKind = 4) (hr : restR x = true) : itemB x = false := by
 cases hq : restB x with
 | false => exact itemB_r h hq
 | true =>
  have a : restQ x = false := by rw [restQ_eq] at hq; simpa using hq
  unfold restR at hr
  rw [a, Bool.or_false, Bool.or_eq_true, decide_eq_true_eq, decide_eq_true_eq] at hr
  rw [itemB_n hc hl h hq, if_neg oO, if_neg oO]
theorem clips_all {l : List ClipV} (h1 : (l.length : Int) ≤ 16) (h : ∀ j (hj : j < l.length), clipB l[j] = true) : clipsB l = true := by
 unfold clipsB; rw [decide_eq_true h1, all_of h]; rfl
theorem clips_no {l : List ClipV} {j : Nat} (hj : j < l.length) (h : clipB l[j] = false) : clipsB l = false := by
 unfold clipsB; rw [all_not hj h, Bool.and_false]
set_option maxHeartbeats 1600000 in
theorem ref_SoundItem (x : ItemV) (w : World) (hx : ItemOk w x) : Calls Tryz.prog 9 #[.agg (itemV x).toArray] w fun e w' => e = .returned (.bool (itemB x)) ∧ Below w.heap.size w w' := by
 have bn : 0 < x.fClips.length → (pA x.pfClips).block < w.heap.size := fun h0 => hx.row_fClips.lt h0
 refine W.e func9 rfl ntmps9 bL ?_
 have ah := br_ (w.heap.size) w
 refine W.sr <| WL.box rfl rfl (fun Q bo ai V aw bj => ?_)
 have aj := uB ah ai aw
 have bh := bge ai ah.size
 refine WL.Z rfl <| W.sr <| WL.O (.fa u44_ rfl s37_ dD rfl) <| WL.R (Rd.ldF (L := colorL) u37_ rfl isz37 V (x.fColor) (rfl) rfl) <| WL.al zeroValue37 rfl (fun b3 bp a3 ax a4 bk => ?_)
 have b5 := bgl a3 V.lt
 have b6 := V.un a4 b5
 have b7 := uB aj a3 a4
 have bi := bge a3 aj.size
 refine WL.stL rfl rfl ax isz37 rfl rfl (fun w7 D a5 bm => ?_)
 have ak := b6.up a5
 have X := ub_ b7 oO a5
 refine WL.e <| W.seq <| W.cutB 22 (!spaceB x.fColor.fSpace) ?_ ?_
 refine W.reg <| WL.O (.fa u37_ rfl s3_ dD rfl) <| WL.R (Rd.ld (g3_ _) rfl D rfl) <| WL.O (.neq rfl rfl) <| WL.M rfl <| WL.gd rfl rfl rfl (fun E => ?_) (fun E => ?_)
 have ay := ndT E
 refine WL.O (.fa u37_ rfl s3_ dD rfl) <| WL.Y E <| WL.R (Rd.ld (g3_ _) rfl D rfl) <| WL.Y E <| WL.O (.neq rfl rfl) <| WL.O (.pkT rfl E rfl) <| WL.M rfl <| WL.gd rfl rfl rfl (fun F => ?_) (fun F => ?_)
 have az := ndT F
 refine WL.O (.fa u37_ rfl s3_ dD rfl) <| WL.Y F <| WL.R (Rd.ld (g3_ _) rfl D rfl) <| WL.Y F <| WL.O (.neq rfl rfl) <| WL.O (.pkT rfl F rfl) <| WL.e <| ?_
 exact ⟨leE (lk_b rfl (by unfold spaceB; simp_all)), rfl⟩
 have az := ndF F
 refine WL.N F <| WL.N F <| WL.O (.pkF rfl F rfl) <| WL.e <| ?_
 exact ⟨leE (lk_b rfl (by unfold spaceB; simp_all)), rfl⟩
 have ay := ndF E
 refine WL.N E <| WL.N E <| WL.O (.pkF rfl E rfl) <| WL.M rfl <| WL.N rfl <| WL.N rfl <| WL.N rfl <| WL.O (.pkF rfl rfl rfl) <| WL.e <| ?_
 exact ⟨leE (lk_b rfl (by unfold spaceB; simp_all)), rfl⟩
 refine W.cond rfl (fun b8 => ?_) (fun b8 => ?_)
 refine W.sr <| WL.Z rfl <| W.ret (W.r1 rfl rfl ?_)
 exact ⟨scr_val (by rw [itemB_c (by unfold colorB; rw [show spaceB x.fColor.fSpace = false from by simpa using (show (!spaceB _) = true by assumption)]; rfl)]), X⟩
 have b9 : spaceB x.fColor.fSpace = true := by simp_all
 refine W.k <| W.seq <| W.sr <| WL.Z rfl <| W.b <| W.loop (α := Nat) (fun t => [(1, .pointer (some ⟨Q, 0, none⟩)), (3, .pointer (some ⟨b3, 0, none⟩)), (4, .int .i64 (t : Int))]) (fun t w' => w7 = w' ∧ t ≤ 4 ∧ ∀ i (hi : i < (parts x.fColor).length), i < t → partB x.fColor i hi = true) (fun t => 4 - t) (0) ⟨rfl, rfl, rfl, tT⟩ (⟨rfl, by decide, fun i _ h => ab_ h oO⟩) (fun t w1 hR => ?_)
 obtain ⟨k, rfl⟩ : ∃ k, k = t := ⟨t, rfl⟩
 obtain ⟨rfl, hk, a6⟩ := hR
 refine W.seq <| W.sr <| WL.M rfl <| WL.O (.lss rfl rfl) <| WL.e <| W.cond rfl (fun a7 => ?_) (fun a7 => ?_)
 have aA := dT a7
 have am : k < (parts x.fColor).length := by simp [parts]; omega
 refine W.k <| W.seq <| W.b <| W.cutB 51 (!partB x.fColor k am) ?_ ?_
 refine W.reg <| WL.M rfl <| WL.O (.fa u37_ rfl sizeOf35 dD rfl) <| WL.O (.ixr1 u35_ s3_ rfl rfl (k) (rfl) oO) <| WL.R (Rd.ldc (g3_ _) rfl ((parts_row D).cells (k) oO)) <| WL.O (.lss rfl rfl) <| WL.M rfl <| WL.gd rfl rfl rfl (fun g => ?_) (fun g => ?_)
 have aB := dF g
 refine WL.M rfl <| WL.Y g <| WL.O (.fa u37_ rfl sizeOf35 dD rfl) <| WL.Y g <| WL.O (.ixr1 u35_ s3_ rfl rfl (k) (rfl) oO) <| WL.Y g <| WL.R (Rd.ldc (g3_ _) rfl ((parts_row D).cells (k) oO)) <| WL.Y g <| WL.O (.gtr rfl rfl) <| WL.O (.pkF rfl g rfl) <| WL.M rfl <| WL.gd rfl rfl rfl (fun f => ?_) (fun f => ?_)
 have aC := dF f
 refine WL.M rfl <| WL.Y f <| WL.O (.fa u37_ rfl s3_ dD rfl) <| WL.Y f <| WL.R (Rd.ld (g3_ _) rfl D rfl) <| WL.Y f <| WL.O (.geq rfl rfl) <| WL.Y f <| WL.M rfl <| WL.gd rfl rfl rfl (fun l => ?_) (fun l => ?_)
 have aD := dT l
 refine WL.M rfl <| WL.Y l <| WL.O (.fa u37_ rfl sizeOf35 dD rfl) <| WL.Y l <| WL.O (.ixr1 u35_ s3_ rfl rfl (k) (rfl) oO) <| WL.Y l <| WL.R (Rd.ldc (g3_ _) rfl ((parts_row D).cells (k) oO)) <| WL.Y l <| WL.O (.neq rfl rfl) <| WL.Y f <| WL.O (.pkT rfl l rfl) <| WL.O (.pkF rfl f rfl) <| WL.e <| ?_
 exact ⟨leE (lk_b rfl (by unfold partB; first | (simp_all; done) | (simp_all <;> (intros; omega)))), rfl⟩
 have aD := dF l
 refine WL.N l <| WL.N l <| WL.N l <| WL.N l <| WL.Y f <| WL.O (.pkF rfl l rfl) <| WL.O (.pkF rfl f rfl) <| WL.e <| ?_
 exact ⟨leE (lk_b rfl (by unfold partB; first | (simp_all; done) | (simp_all <;> (intros; omega)))), rfl⟩
 have aC := dT f
 refine WL.N f <| WL.N f <| WL.N f <| WL.N f <| WL.U <| WL.U <| WL.U <| WL.U <| WL.U <| WL.N f <| WL.O (.pkT rfl f rfl) <| WL.e <| ?_
 exact ⟨leE (lk_b rfl (by unfold partB; first | (simp_all; done) | (simp_all <;> (intros; omega)))), rfl⟩
 have aB := dT g
 refine WL.N g <| WL.N g <| WL.N g <| WL.N g <| WL.O (.pkT rfl g rfl) <| WL.M rfl <| WL.N rfl <| WL.N rfl <| WL.N rfl <| WL.N rfl <| WL.N rfl <| WL.U <| WL.U <| WL.U <| WL.U <| WL.U <| WL.N rfl <| WL.O (.pkT rfl rfl rfl) <| WL.e <| ?_
 exact ⟨leE (lk_b rfl (by unfold partB; first | (simp_all; done) | (simp_all <;> (intros; omega)))), rfl⟩
 refine W.cond rfl (fun ba => ?_) (fun ba => ?_)
 refine W.sr <| WL.Z rfl <| W.ret (W.r1 rfl rfl ?_)
 exact ⟨scr_val (by rw [itemB_c (colorB_no am (by simpa using (show (!partB _ _ _) = true by assumption)))]), X⟩
 refine W.k <| W.reg <| WL.M rfl <| WL.O (.iis (((k + 1 : Nat) : Int)) (.add rfl rfl (i64w oO)) oO) <| WL.Z rfl ?_
 exact ⟨k + 1, ⟨rfl, rfl, rfl, tT⟩, ⟨rfl, by ((try simp only) <;> omega), fun j hj h => by
  rcases Nat.lt_succ_iff_lt_or_eq.1 h with h2 | rfl; exact a6 j hj h2
  simp_all⟩, by ((try simp only) <;> omega)⟩
 have aA := dF a7
 have B : colorB x.fColor = true := colorB_yes b9 fun i hi => a6 i hi (by have h4 : i < 4 := hi; omega)
 refine W.exit <| W.seq <| W.sr <| WL.O (.fa u44_ rfl s38_ dD rfl) <| WL.R (Rd.ld (g38_ _) rfl ak rfl) <| WL.O (.lenS u38_ rfl) <| WL.O (.gtr rfl rfl) <| WL.e <| W.cond rfl (fun a8 => ?_) (fun a8 => ?_)
 have aE := dT a8
 refine W.sr <| WL.Z rfl <| W.ret (W.r1 rfl rfl ?_)
 exact ⟨scr_val (by rw [itemB_l (by unfold clipsB; rw [decide_eq_false oO]; rfl)]), X⟩
 have aE := dF a8
 have aF : (x.fClips.length : Int) ≤ 16 := by omega
 refine W.k <| W.seq <| W.sr <| WL.Z rfl <| W.b <| W.loop (α := Nat) (fun t => [(1, .pointer (some ⟨Q, 0, none⟩)), (5, .int .i64 (t : Int))]) (fun t w' => Below w.heap.size w w' ∧ Blk w' Q (itemV x).toArray 44 ∧ t ≤ x.fClips.length ∧ ∀ j (hj : j < x.fClips.length), j < t → clipB x.fClips[j] = true) (fun t => x.fClips.length - t) (0) ⟨rfl, rfl, tT⟩ (⟨X, ak, nl_ _, fun j _ h => ab_ h oO⟩) (fun t w1 hR => ?_)
 obtain ⟨i, rfl⟩ : ∃ i, i = t := ⟨t, rfl⟩
 obtain ⟨hT, n, hi, an⟩ := hR
 have a0 := (hx.below hT).row_fClips
 refine W.seq <| W.sr <| WL.M rfl <| WL.O (.fa u44_ rfl s38_ dD rfl) <| WL.R (Rd.ld (g38_ _) rfl n rfl) <| WL.O (.lenS u38_ rfl) <| WL.O (.lss rfl rfl) <| WL.e <| W.cond rfl (fun a9 => ?_) (fun a9 => ?_)
 have aG := dT a9
 have ao : i < x.fClips.length := by omega
 have ap := hx.all_fClips _ (List.getElem_mem ao)
 have aq : x.fClips[i].fPath.isEmpty = decide ((x.fClips[i].fPath.length : Int) = 0) := by cases x.fClips[i].fPath <;> simp <;> omega
 refine W.k <| W.seq <| W.b <| W.cut (α := Unit) (fun t => [(1, .pointer (some ⟨Q, 0, none⟩)), (5, .int .i64 (i : Int)), (80, .bool (!clipB x.fClips[i]))]) (fun t w' => Below w.heap.size w w' ∧ Blk w' Q (itemV x).toArray 44) ?_ (fun t w1 hR => ?_)
 refine W.reg <| WL.O (.fa u44_ rfl s38_ dD rfl) <| WL.R (Rd.ld (g38_ _) rfl n rfl) <| WL.M rfl <| WL.O (.ixm u38_ s61_ rfl rfl (a0.isp (by first | omega | (simp only [List.length_cons, List.length_nil]; omega))) (i) (rfl) oO) <| WL.O (.fa u61_ rfl s34_ dD rfl) <| WL.R (Rd.ldc (g34_ _) rfl ((a0.field (i) (by first | omega | (simp only [List.length_cons, List.length_nil]; omega)) 0 dD).trans rfl)) <| WL.O (.lenS u34_ rfl) <| WL.O (.eql rfl rfl) <| WL.M rfl <| WL.gd rfl rfl rfl (fun d => ?_) (fun d => ?_)
 have aH := dF d
 refine WL.O (.fa u44_ rfl s38_ dD rfl) <| WL.Y d <| WL.R (Rd.ld (g38_ _) rfl n rfl) <| WL.Y d <| WL.M rfl <| WL.Y d <| WL.O (.ixm u38_ s61_ rfl rfl (a0.isp (by first | omega | (simp only [List.length_cons, List.length_nil]; omega))) (i) (rfl) oO) <| WL.Y d <| WL.O (.fa u61_ rfl s34_ dD rfl) <| WL.Y d <| WL.R (Rd.ldc (g34_ _) rfl ((a0.field (i) (by first | omega | (simp only [List.length_cons, List.length_nil]; omega)) 0 dD).trans rfl)) <| WL.Y d <| WL.c1 hB_ rfl rfl ((ref_SoundPath _ _ _ _ (ap.below hT).row_fPath ap.sl_fPath.len)) (fun bq aa => ?_)
 have aI := n.bl aa
 have aJ := btr hT aa
 refine WL.Y d <| WL.O (.not rfl) <| WL.O (.pkF rfl d rfl) <| WL.e <| ?_
 exact ⟨(), ⟨rfl, rfl, lk_b rfl (by unfold clipB; rw [aq]; simp_all), tT⟩, aJ, aI⟩
 have aH := dT d
 refine WL.N d <| WL.N d <| WL.N d <| WL.N d <| WL.N d <| WL.N d <| WL.N d <| WL.O (.pkT rfl d rfl) <| WL.e <| ?_
 exact ⟨(), ⟨rfl, rfl, lk_b rfl (by unfold clipB; rw [aq]; simp_all), tT⟩, hT, n⟩
 obtain ⟨ar, bb⟩ := hR
 refine W.cond rfl (fun bc => ?_) (fun bc => ?_)
 refine W.sr <| WL.Z rfl <| W.ret (W.r1 rfl rfl ?_)
 exact ⟨scr_val (by rw [itemB_l (clips_no ao (by simpa using (show (!clipB _) = true by assumption)))]), ar⟩
 refine W.k <| W.reg <| WL.M rfl <| WL.O (.iis (((i + 1 : Nat) : Int)) (.add rfl rfl (i64w oO)) oO) <| WL.Z rfl ?_
 exact ⟨i + 1, ⟨rfl, rfl, tT⟩, ⟨ar, bb, by ((try simp only) <;> omega), fun j hj h => by
  rcases Nat.lt_succ_iff_lt_or_eq.1 h with h2 | rfl; exact an j hj h2
  simp_all⟩, by ((try simp only) <;> omega)⟩
 have aG := dF a9
 have C : clipsB x.fClips = true := clips_all aF fun j hj => an j hj oO
 refine W.exit <| W.sr <| WL.O (.fa u44_ rfl s41_ dD rfl) <| WL.R (Rd.ldF (L := penL) u41_ rfl isz41 n (x.fPen) (rfl) rfl) <| ?_
 refine WL.O (.buildL (ps := _) blt41 rfl rfl rfl pZ) ?_
 refine WL.c1 hB_ rfl rfl ((by have h := ref_SamePen x.fPen pen0 _ (hx.below hT).ok_fPen.row_fDash RowAt.none hx.ok_fPen.sl_fDash.len; rw [pen0_none] at h; exact h)) (fun bd ab => ?_)
 have a := n.bl ab
 have c := btr hT ab
 refine WL.Z rfl <| W.seq <| W.sr <| WL.O (.fa u44_ rfl s3_ dD rfl) <| WL.R (Rd.ld (g3_ _) rfl a rfl) <| WL.O (.eql rfl rfl) <| WL.e <| W.cond rfl (fun ac => ?_) (fun ac => ?_)
 have aK := dT ac
 refine W.seq <| W.sr <| WL.Z rfl <| W.b <| W.loop (α := Nat) (fun t => [(1, .pointer (some ⟨Q, 0, none⟩)), (6, .bool (noneB x.fPen)), (7, .int .i64 (t : Int))]) (fun t w' => bd = w' ∧ t ≤ 6 ∧ ∀ i (hi : i < (mats x).length), i < t → fitsB (mats x)[i] = true) (fun t => 6 - t) (0) ⟨rfl, rfl, rfl, tT⟩ (⟨rfl, by decide, fun i _ h => ab_ h oO⟩) (fun t w1 hR => ?_)
 obtain ⟨m, rfl⟩ : ∃ k, k = t := ⟨t, rfl⟩
 obtain ⟨rfl, hm, au⟩ := hR
 refine W.seq <| W.sr <| WL.M rfl <| WL.O (.lss rfl rfl) <| WL.e <| W.cond rfl (fun ad => ?_) (fun ad => ?_)
 have aL := dT ad
 have be : m < (mats x).length := by simp [mats]; omega
 refine W.k <| W.seq <| W.b <| W.sr <| WL.M rfl <| WL.O (.fa u44_ rfl s42_ dD rfl) <| WL.O (.ixr1 u42_ s3_ rfl rfl (m) (rfl) oO) <| WL.R (Rd.ldc (g3_ _) rfl ((mats_row a).cells (m) oO)) <| WL.c1 hB_ rfl rfl ((ref_Fits _ _)) (fun bt aM => ?_)
 obtain rfl := aM
 refine WL.O (.not rfl) <| WL.e <| W.cond rfl (fun ae => ?_) (fun ae => ?_)
 have aN := (nT ae)
 refine W.sr <| WL.Z rfl <| W.ret (W.r1 rfl rfl ?_)
 exact ⟨scr_val (by rw [itemB_4 B C aS, lettersB_no (all_not be (by simpa using (show (!fitsB _) = true by assumption)))]; rfl), c⟩
 have aN := (nF ae)
 refine W.k <| W.reg <| WL.M rfl <| WL.O (.iis (((m + 1 : Nat) : Int)) (.add rfl rfl (i64w oO)) oO) <| WL.Z rfl ?_
 exact ⟨m + 1, ⟨rfl, rfl, rfl, tT⟩, ⟨rfl, by ((try simp only) <;> omega), fun j hj h => by
  rcases Nat.lt_succ_iff_lt_or_eq.1 h with h2 | rfl; exact au j hj h2
  simp_all⟩, by ((try simp only) <;> omega)⟩
 have aL := dF ad
 have bf : (mats x).all fitsB = true := all_of fun i hi => au i hi (by have h6 : i < 6 := hi; omega)
 have P := lettersQ_eq bf
 refine W.exit <| W.sr <| WL.O (.fa u44_ rfl s3_ dD rfl) <| WL.R (Rd.ld (g3_ _) rfl a rfl) <| WL.O (.geq rfl rfl) <| WL.M rfl <| WL.gd rfl rfl rfl (fun G => ?_) (fun G => ?_)
 have aO := dT G
 refine WL.O (.fa u44_ rfl s3_ dD rfl) <| WL.Y G <| WL.R (Rd.ld (g3_ _) rfl a rfl) <| WL.Y G <| WL.O (.leq rfl rfl) <| WL.O (.pkT rfl G rfl) <| WL.M rfl <| WL.gd rfl rfl rfl (fun o => ?_) (fun o => ?_)
 have aP := dT o
 refine WL.O (.fa u44_ rfl s22_ dD rfl) <| WL.Y o <| WL.R (Rd.ld (g22_ _) rfl a rfl) <| WL.Y o <| WL.O (.lenS u22_ rfl) <| WL.Y o <| WL.O (.geq rfl rfl) <| WL.O (.pkT rfl o rfl) <| WL.M rfl <| WL.gd rfl rfl rfl (fun q => ?_) (fun q => ?_)
 have aQ := dT q
 refine WL.O (.fa u44_ rfl s22_ dD rfl) <| WL.Y q <| WL.R (Rd.ld (g22_ _) rfl a rfl) <| WL.Y q <| WL.O (.lenS u22_ rfl) <| WL.Y q <| WL.O (.leq rfl rfl) <| WL.O (.pkT rfl q rfl) <| WL.M rfl <| WL.gd rfl rfl rfl (fun s => ?_) (fun s => ?_)
 have aR := dT s
 refine WL.O (.fa u44_ rfl s34_ dD rfl) <| WL.Y s <| WL.R (Rd.ld (g34_ _) rfl a rfl) <| WL.Y s <| WL.O (.lenS u34_ rfl) <| WL.Y s <| WL.O (.eql rfl rfl) <| WL.O (.pkT rfl s rfl) <| WL.M rfl <| WL.gd rfl rfl rfl (fun T => ?_) (fun T => ?_)
 have aT := dT T
 refine WL.M rfl <| WL.O (.pkT rfl T rfl) <| WL.Z rfl <| W.ret (W.r1 rfl rfl ?_)
 exact ⟨scr_val (by rw [itemB_4 B C aS, ← P]; unfold lettersQ; first | (simp_all; done) | (simp_all <;> omega)), c⟩
 have aT := dF T
 refine WL.O (.pkF rfl T rfl) <| WL.Z rfl <| W.ret (W.r1 rfl rfl ?_)
 exact ⟨scr_val (by rw [itemB_4 B C aS, ← P]; unfold lettersQ; first | (simp_all; done) | (simp_all <;> omega)), c⟩
 have aR := dF s
 refine WL.N s <| WL.N s <| WL.N s <| WL.O (.pkF rfl s rfl) <| WL.M rfl <| WL.N rfl <| WL.O (.pkF rfl rfl rfl) <| WL.Z rfl <| W.ret (W.r1 rfl rfl ?_)
 exact ⟨scr_val (by rw [itemB_4 B C aS, ← P]; unfold lettersQ; first | (simp_all; done) | (simp_all <;> omega)), c⟩
 have aQ := dF q
 refine WL.N q <| WL.N q <| WL.N q <| WL.O (.pkF rfl q rfl) <| WL.M rfl <| WL.N rfl <| WL.N rfl <| WL.N rfl <| WL.N rfl <| WL.O (.pkF rfl rfl rfl) <| WL.M rfl <| WL.N rfl <| WL.O (.pkF rfl rfl rfl) <| WL.Z rfl <| W.ret (W.r1 rfl rfl ?_)
 exact ⟨scr_val (by rw [itemB_4 B C aS, ← P]; unfold lettersQ; first | (simp_all; done) | (simp_all <;> omega)), c⟩
 have aP := dF o
 refine WL.N o <| WL.N o <| WL.N o <| WL.O (.pkF rfl o rfl) <| WL.M rfl <| WL.N rfl <| WL.N rfl <| WL.N rfl <| WL.N rfl <| WL.O (.pkF rfl rfl rfl) <| WL.M rfl <| WL.N rfl <| WL.N rfl <| WL.N rfl <| WL.N rfl <| WL.O (.pkF rfl rfl rfl) <| WL.M rfl <| WL.N rfl <| WL.O (.pkF rfl rfl rfl) <| WL.Z rfl <| W.ret (W.r1 rfl rfl ?_)
 exact ⟨scr_val (by rw [itemB_4 B C aS, ← P]; unfold lettersQ; first | (simp_all; done) | (simp_all <;> omega)), c⟩
 have aO := dF G
 refine WL.N G <| WL.N G <| WL.O (.pkF rfl G rfl) <| WL.M rfl <| WL.N rfl <| WL.N rfl <| WL.N rfl <| WL.N rfl <| WL.O (.pkF rfl rfl rfl) <| WL.M rfl <| WL.N rfl <| WL.N rfl <| WL.N rfl <| WL.N rfl <| WL.O (.pkF rfl rfl rfl) <| WL.M rfl <| WL.N rfl <| WL.N rfl <| WL.N rfl <| WL.N rfl <| WL.O (.pkF rfl rfl rfl) <| WL.M rfl <| WL.N rfl <| WL.O (.pkF rfl rfl rfl) <| WL.Z rfl <| W.ret (W.r1 rfl rfl ?_)
 exact ⟨scr_val (by rw [itemB_4 B C aS, ← P]; unfold lettersQ; first | (simp_all; done) | (simp_all <;> omega)), c⟩
 have aK := dF ac
 refine W.k <| W.seq <| W.cut (α := Unit) (fun t => [(1, .pointer (some ⟨Q, 0, none⟩)), (6, .bool (noneB x.fPen)), (163, .bool (restR x))]) (fun t w' => Below w.heap.size w w' ∧ Blk w' Q (itemV x).toArray 44) ?_ (fun t w1 hR => ?_)
 refine W.reg <| WL.O (.fa u44_ rfl s3_ dD rfl) <| WL.R (Rd.ld (g3_ _) rfl a rfl) <| WL.O (.lss rfl rfl) <| WL.M rfl <| WL.gd rfl rfl rfl (fun H => ?_) (fun H => ?_)
 have aU := dF H
 refine WL.O (.fa u44_ rfl s3_ dD rfl) <| WL.Y H <| WL.R (Rd.ld (g3_ _) rfl a rfl) <| WL.Y H <| WL.O (.gtr rfl rfl) <| WL.O (.pkF rfl H rfl) <| WL.M rfl <| WL.gd rfl rfl rfl (fun J => ?_) (fun J => ?_)
 have aV := dF J
 refine WL.O (.fa u44_ rfl s3_ dD rfl) <| WL.Y J <| WL.R (Rd.ld (g3_ _) rfl a rfl) <| WL.Y J <| WL.O (.neq rfl rfl) <| WL.O (.pkF rfl J rfl) <| WL.M rfl <| WL.gd rfl rfl rfl (fun u => ?_) (fun u => ?_)
 have aW := ndF u
 refine WL.O (.fa u44_ rfl s42_ dD rfl) <| WL.Y u <| WL.R (Rd.ldF (L := matL) u42_ rfl isz42 a (x) (rfl) rfl) <| WL.Y u <| ?_
 refine WL.O (.build (ps := []) (vs := []) rfl blz42) ?_
 refine WL.Y u <| WL.O (.neAgg rfl rfl eg42 (neA42 _ _ _ _ _ _ _ _ _ _ _ _)) <| WL.O (.pkF rfl u rfl) <| WL.M rfl <| WL.gd rfl rfl rfl (fun K => ?_) (fun K => ?_)
 refine WL.O (.fa u44_ rfl s22_ dD rfl) <| WL.Y K <| WL.R (Rd.ld (g22_ _) rfl a rfl) <| WL.Y K <| WL.O (.lenS u22_ rfl) <| WL.Y K <| WL.O (.gtr rfl rfl) <| WL.O (.pkF rfl K rfl) <| WL.M rfl <| WL.gd rfl rfl rfl (fun v => ?_) (fun v => ?_)
 have aX := dF v
 refine WL.O (.fa u44_ rfl s34_ dD rfl) <| WL.Y v <| WL.R (Rd.ld (g34_ _) rfl a rfl) <| WL.Y v <| WL.O (.lenS u34_ rfl) <| WL.Y v <| WL.O (.eql rfl rfl) <| WL.O (.pkF rfl v rfl) <| WL.M rfl <| WL.gd rfl rfl rfl (fun y => ?_) (fun y => ?_)
 have aY := dF y
 refine WL.O (.fa u44_ rfl s34_ dD rfl) <| WL.Y y <| WL.R (Rd.ld (g34_ _) rfl a rfl) <| WL.Y y <| WL.c1 hB_ rfl rfl ((ref_SoundPath _ _ _ _ (hx.below c).row_fPath hx.sl_fPath.len)) (fun bu af => ?_)
 have aZ := a.bl af
 have a' := btr c af
 refine WL.Y y <| WL.O (.not rfl) <| WL.O (.pkF rfl y rfl) <| WL.e <| ?_
 exact ⟨(), ⟨rfl, rfl, lk_b rfl (by unfold restR restQ mat0; generalize pathB x.fPath = A at *; first | (simp_all; done) | (rw [decide_eq_true (show x.fKind < 1 by omega)]; simp_all; done) | (rw [decide_eq_false (show ¬ x.fKind < 1 by omega), decide_eq_true (show x.fKind > 3 by omega)]; simp_all; done) | (rw [decide_eq_false (show ¬ x.fKind < 1 by omega), decide_eq_false (show ¬ x.fKind > 3 by omega)]; first | (simp_all; done) | (rw [decide_eq_true (show (x.fBytes.length : Int) > 0 by omega)]; simp_all; done) | (rw [decide_eq_false (show ¬ (x.fBytes.length : Int) > 0 by omega)]; simp_all; done))), tT⟩, a', aZ⟩
 have aY := dT y
 refine WL.N y <| WL.N y <| WL.N y <| WL.O (.pkT rfl y rfl) <| WL.e <| ?_
 exact ⟨(), ⟨rfl, rfl, lk_b rfl (by unfold restR restQ mat0; generalize pathB x.fPath = A at *; first | (simp_all; done) | (rw [decide_eq_true (show x.fKind < 1 by omega)]; simp_all; done) | (rw [decide_eq_false (show ¬ x.fKind < 1 by omega), decide_eq_true (show x.fKind > 3 by omega)]; simp_all; done) | (rw [decide_eq_false (show ¬ x.fKind < 1 by omega), decide_eq_false (show ¬ x.fKind > 3 by omega)]; first | (simp_all; done) | (rw [decide_eq_true (show (x.fBytes.length : Int) > 0 by omega)]; simp_all; done) | (rw [decide_eq_false (show ¬ (x.fBytes.length : Int) > 0 by omega)]; simp_all; done))), tT⟩, c, a⟩
 have aX := dT v
 refine WL.N v <| WL.N v <| WL.N v <| WL.O (.pkT rfl v rfl) <| WL.M rfl <| WL.N rfl <| WL.N rfl <| WL.N rfl <| WL.N rfl <| WL.O (.pkT rfl rfl rfl) <| WL.e <| ?_
 exact ⟨(), ⟨rfl, rfl, lk_b rfl (by unfold restR restQ mat0; generalize pathB x.fPath = A at *; first | (simp_all; done) | (rw [decide_eq_true (show x.fKind < 1 by omega)]; simp_all; done) | (rw [decide_eq_false (show ¬ x.fKind < 1 by omega), decide_eq_true (show x.fKind > 3 by omega)]; simp_all; done) | (rw [decide_eq_false (show ¬ x.fKind < 1 by omega), decide_eq_false (show ¬ x.fKind > 3 by omega)]; first | (simp_all; done) | (rw [decide_eq_true (show (x.fBytes.length : Int) > 0 by omega)]; simp_all; done) | (rw [decide_eq_false (show ¬ (x.fBytes.length : Int) > 0 by omega)]; simp_all; done))), tT⟩, c, a⟩
 refine WL.N K <| WL.N K <| WL.N K <| WL.O (.pkT rfl K rfl) <| WL.M rfl <| WL.N rfl <| WL.N rfl <| WL.N rfl <| WL.N rfl <| WL.O (.pkT rfl rfl rfl) <| WL.M rfl <| WL.N rfl <| WL.N rfl <| WL.N rfl <| WL.N rfl <| WL.O (.pkT rfl rfl rfl) <| WL.e <| ?_
 exact ⟨(), ⟨rfl, rfl, lk_b rfl (by unfold restR restQ mat0; generalize pathB x.fPath = A at *; first | (simp_all; done) | (rw [decide_eq_true (show x.fKind < 1 by omega)]; simp_all; done) | (rw [decide_eq_false (show ¬ x.fKind < 1 by omega), decide_eq_true (show x.fKind > 3 by omega)]; simp_all; done) | (rw [decide_eq_false (show ¬ x.fKind < 1 by omega), decide_eq_false (show ¬ x.fKind > 3 by omega)]; first | (simp_all; done) | (rw [decide_eq_true (show (x.fBytes.length : Int) > 0 by omega)]; simp_all; done) | (rw [decide_eq_false (show ¬ (x.fBytes.length : Int) > 0 by omega)]; simp_all; done))), tT⟩, c, a⟩
 have aW := ndT u
 refine WL.N u <| WL.N u <| WL.N u <| WL.O (.pkT rfl u rfl) <| WL.M rfl <| WL.N rfl <| WL.N rfl <| WL.N rfl <| WL.N rfl <| WL.O (.pkT rfl rfl rfl) <| WL.M rfl <| WL.N rfl <| WL.N rfl <| WL.N rfl <| WL.N rfl <| WL.O (.pkT rfl rfl rfl) <| WL.M rfl <| WL.N rfl <| WL.N rfl <| WL.N rfl <| WL.N rfl <| WL.O (.pkT rfl rfl rfl) <| WL.e <| ?_
 exact ⟨(), ⟨rfl, rfl, lk_b rfl (by unfold restR restQ mat0; generalize pathB x.fPath = A at *; first | (simp_all; done) | (rw [decide_eq_true (show x.fKind < 1 by omega)]; simp_all; done) | (rw [decide_eq_false (show ¬ x.fKind < 1 by omega), decide_eq_true (show x.fKind > 3 by omega)]; simp_all; done) | (rw [decide_eq_false (show ¬ x.fKind < 1 by omega), decide_eq_false (show ¬ x.fKind > 3 by omega)]; first | (simp_all; done) | (rw [decide_eq_true (show (x.fBytes.length : Int) > 0 by omega)]; simp_all; done) | (rw [decide_eq_false (show ¬ (x.fBytes.length : Int) > 0 by omega)]; simp_all; done))), tT⟩, c, a⟩
 have aV := dT J
 refine WL.N J <| WL.N J <| WL.O (.pkT rfl J rfl) <| WL.M rfl <| WL.N rfl <| WL.N rfl <| WL.N rfl <| WL.N rfl <| WL.O (.pkT rfl rfl rfl) <| WL.M rfl <| WL.N rfl <| WL.N rfl <| WL.N rfl <| WL.N rfl <| WL.O (.pkT rfl rfl rfl) <| WL.M rfl <| WL.N rfl <| WL.N rfl <| WL.N rfl <| WL.N rfl <| WL.O (.pkT rfl rfl rfl) <| WL.M rfl <| WL.N rfl <| WL.N rfl <| WL.N rfl <| WL.N rfl <| WL.O (.pkT rfl rfl rfl) <| WL.e <| ?_
 exact ⟨(), ⟨rfl, rfl, lk_b rfl (by unfold restR restQ mat0; generalize pathB x.fPath = A at *; first | (simp_all; done) | (rw [decide_eq_true (show x.fKind < 1 by omega)]; simp_all; done) | (rw [decide_eq_false (show ¬ x.fKind < 1 by omega), decide_eq_true (show x.fKind > 3 by omega)]; simp_all; done) | (rw [decide_eq_false (show ¬ x.fKind < 1 by omega), decide_eq_false (show ¬ x.fKind > 3 by omega)]; first | (simp_all; done) | (rw [decide_eq_true (show (x.fBytes.length : Int) > 0 by omega)]; simp_all; done) | (rw [decide_eq_false (show ¬ (x.fBytes.length : Int) > 0 by omega)]; simp_all; done))), tT⟩, c, a⟩
 have aU := dT H
 refine WL.N H <| WL.N H <| WL.O (.pkT rfl H rfl) <| WL.M rfl <| WL.N rfl <| WL.N rfl <| WL.N rfl <| WL.O (.pkT rfl rfl rfl) <| WL.M rfl <| WL.N rfl <| WL.N rfl <| WL.N rfl <| WL.N rfl <| WL.O (.pkT rfl rfl rfl) <| WL.M rfl <| WL.N rfl <| WL.N rfl <| WL.N rfl <| WL.N rfl <| WL.O (.pkT rfl rfl rfl) <| WL.M rfl <| WL.N rfl <| WL.N rfl <| WL.N rfl <| WL.N rfl <| WL.O (.pkT rfl rfl rfl) <| WL.M rfl <| WL.N rfl <| WL.N rfl <| WL.N rfl <| WL.N rfl <| WL.O (.pkT rfl rfl rfl) <| WL.e <| ?_
 exact ⟨(), ⟨rfl, rfl, lk_b rfl (by unfold restR restQ mat0; generalize pathB x.fPath = A at *; first | (simp_all; done) | (rw [decide_eq_true (show x.fKind < 1 by omega)]; simp_all; done) | (rw [decide_eq_false (show ¬ x.fKind < 1 by omega), decide_eq_true (show x.fKind > 3 by omega)]; simp_all; done) | (rw [decide_eq_false (show ¬ x.fKind < 1 by omega), decide_eq_false (show ¬ x.fKind > 3 by omega)]; first | (simp_all; done) | (rw [decide_eq_true (show (x.fBytes.length : Int) > 0 by omega)]; simp_all; done) | (rw [decide_eq_false (show ¬ (x.fBytes.length : Int) > 0 by omega)]; simp_all; done))), tT⟩, c, a⟩
 obtain ⟨n, av⟩ := hR
 refine W.cond rfl (fun bg => ?_) (fun bg => ?_)
 have a1 : restR x = true := by assumption
 refine W.sr <| WL.Z rfl <| W.ret (W.r1 rfl rfl ?_)
 exact ⟨scr_val (by rw [itemB_q B C aS a1]), n⟩
 have a1 : restR x = false := by assumption
 simp only [restR, Bool.or_eq_false_iff, decide_eq_false_iff_not] at a1
 have a2 := restB_yes a1.2
 refine W.k <| W.seq <| W.sr <| WL.O (.fa u44_ rfl s3_ dD rfl) <| WL.R (Rd.ld (g3_ _) rfl av rfl) <| WL.O (.eql rfl rfl) <| WL.e <| W.cond rfl (fun ag => ?_) (fun ag => ?_)
 have b0 := dT ag
 refine W.sr <| WL.O (.fa u44_ rfl s41_ dD rfl) <| WL.R (Rd.ldF (L := penL) u41_ rfl isz41 av (x.fPen) (rfl) rfl) <| WL.c1 hB_ rfl rfl ((ref_soundPen x.fPen _ (hx.below n).ok_fPen.row_fDash)) (fun bv b2 => ?_)
 have b4 := btr n b2
 refine WL.Z rfl <| W.ret (W.r1 rfl rfl ?_)
 exact ⟨scr_val (by rw [itemB_n B C aS a2, if_neg oO, if_pos aS]), b4⟩
 have b0 := dF ag
 refine W.k <| W.sr <| WL.M rfl <| WL.Z rfl <| W.ret (W.r1 rfl rfl ?_)
 exact ⟨scr_val (by rw [itemB_n B C aS a2, if_pos oO]), n⟩
end
section
theorem view_ItemsS (p : Option Addr) (l : List UInt8) (c : Nat) (pf : Option Addr) (fl : List FtV) (cf : Nat) (w : World) (hb : BytesAt w p l) (hc : l.length ≤ c) (hl : l.length ≤ 100000000) (hf : Row3 ftL (fun k => k < w.heap.size) w pf fl cf) (hff : ∀ f ∈ fl, 0 ≤ f.font ∧ f.font ≤ 13) :
  Calls Tryz.prog 8 #[.slice p l.length c, .slice pf fl.length cf] w fun e w' => ∃ x : Option Addr × Nat × List ItemV × Int, e = .returned (.tuple #[.slice x.1 x.2.2.1.length x.2.1, .int .i64 x.2.2.2]) ∧ Below w.heap.size w w' ∧ RowM itemL w' x.1 x.2.2.1 ∧ x.2.2.1.length ≤ 9223372036854775807 ∧ (x.2.2.2 ≠ 0 → x.2.2.1 = []) ∧ ∀ y ∈ x.2.2.1, ItemOk w' y ∧ itemB y = true :=
 Calls.mono (view_Items p l c pf fl cf w hb hc hl hf hff) fun e w' q => by
  obtain ⟨q1, q2⟩ := q
  have hsn : ∀ v1, runV (fun f b => sumF f 0 b) fl l (l.length + 1) 0 vw0 [] = .ok v1 → SndV v1 := fun v1 h => runV_snd hff (l.length + 1) 0 vw0 [] (fun x hx => by cases hx) vw0_snd h
  cases hr : runV (fun f b => sumF f 0 b) fl l (l.length + 1) 0 vw0 [] with
  | error k =>
   rw [hr] at q1
   exact ⟨(none, 0, [], k), q1, q2, RowM.nil _, nl_ _, fun _ => rfl, fun y hy => (by cases hy)⟩
  | ok V =>
   rw [hr] at q1
   obtain ⟨pi, ci, its, e1, e2, e3, e4⟩ := q1
   refine ⟨(pi, ci, its, 0), e1, q2, e2.row, e2.sl.len, fun h => ab_ rfl h, fun y hy => ?_⟩
   have hy2 : itemB y = true := by
    rw [← itemB_E]
    exact (hsn V hr).items _ (by rw [← e4]; exact List.mem_map_of_mem hy)
   exact ⟨itemOk (e3 y hy) hy2, hy2⟩
set_option maxHeartbeats 1600000 in
theorem law_ViewSound (p : Option Addr) (l : List UInt8) (c : Nat) (pn : Option Addr) (names : List (List UInt8)) (cn : Nat) (w : World) (hb : BytesAt w p l) (hc : l.length ≤ c) (hcn : l = [] → c = 0 ∨ p ≠ none) (hn : RowAt strV w pn names) (hnl : names.length ≤ 9223372036854775807) :
  Calls Tryz.prog 3 #[.slice p l.length c, .slice pn names.length cn] w fun e w' => e = .returned (.bool true) ∧ Below w.heap.size w w' := by
 refine W.e func3 rfl ntmps3 bL ?_
 have a2 := br_ (w.heap.size) w
 refine W.sr <| WL.Z rfl <| W.seq <| W.sr <| WL.M rfl <| WL.O (.lenS u22_ rfl) <| WL.O (.gtr rfl rfl) <| WL.e <| W.cond rfl (fun h1 => ?_) (fun h1 => ?_)
 have ai := dT h1
 refine W.sr <| WL.c1 hB_ rfl rfl ((law21_answers _)) (fun w2 aj => ?_)
 have a3 := btr a2 aj
 refine WL.Z rfl <| W.ret (W.r1 rfl rfl ?_)
 first
 | exact ⟨rfl, a3⟩
 | exact ab_ aS dD
 | exact ⟨scr_val (congrArg Value.bool (decide_eq_true (show (its.length : Int) = 0 by rw [n aS]; rfl))), a3⟩
 have ai := dF h1
 refine W.k <| W.sr <| WL.M rfl <| WL.call hB_ rfl rfl ((law21_fonts pn names cn none [] 0 _ hn ⟨fun h => ab_ h (by simp), fun j h => ab_ h (by simp)⟩ hnl (by simp))) (fun v w6 D => ?_)
 have a4 := bb_ hb D.1 (fun E => hb.lt E)
 have a5 := btr a2 D.1
 obtain ⟨F, -⟩ := D.2
 obtain ⟨v1, v2⟩ := v
 simp only at F
 obtain ⟨pf, cf, evf, ak⟩ := Row3.own (Z := fun k => k < w6.heap.size) F (fun g hg => (F.lt g hg).2)
 subst evf
 have al := StN.of (Q := fun w1 => Row3 ftL (fun k => k < w6.heap.size) w1 pf (fontsV names []) cf) ak
 refine WL.M rfl <| WL.O (.ext rfl rfl) <| WL.O (.ext rfl rfl) <| WL.A rfl <| WL.Z rfl <| W.sr <| WL.bsl0 u22_ s5_ rfl (fun a6 G q a f ar => ?_)
 have a9 := ss_ (w1 := G) al (fun k hk hl => f.other k oO)
 have V := fun E => q ▸ a4.lt E
 have aa := bup a4 f V
 have ab := uB a5 q f
 have H := bge q a5.size
 have a := a a6 (nr_ _)
 have o : a6 ≤ G.heap.size := by omega
 refine WL.M rfl <| WL.appB u22_ inf5 rfl rfl rfl a rfl aa (by simp only [byteVals_len, List.length_nil]; omega) (o) rfl (hcn) (fun aw am au C X => ?_)
 have J := ss_ a9 (fun k hk hl => X.block k hl (fun e => by have ax := Own.ltV (e := 5) (B := _) (xs := []) a k e.symm; omega))
 have ac := bt_ ab (C.mono (H))
 have a0 := nt_ o C.size
 obtain ⟨pb, cb, evb, an, -, ao, -⟩ := Own.bytesC (l := l) (by assumption : Own 5 _ am _ (byteVals l))
 subst evb
 refine WL.M rfl <| WL.call hB_ rfl rfl ((view_ItemsS pb l cb pf (fontsV names []) cf _ an ao oO ((Row3.ofS J).mono (fun g hg => Nat.lt_of_lt_of_le hg (J).size)) (fontsV_ok _ _))) (fun x ay s => ?_)
 have a1 := nt_ a0 s.1.size
 have K := btr ac s.1
 obtain ⟨xp, xc, its, k⟩ := x
 obtain ⟨a7, ap, n, a8⟩ := s.2
 simp only at a7 ap n a8
 refine WL.M rfl <| WL.O (.ext rfl rfl) <| WL.O (.ext rfl rfl) <| WL.A rfl <| WL.Z rfl <| W.seq <| W.sr <| WL.M rfl <| WL.O (.neq rfl rfl) <| WL.e <| W.cond rfl (fun L => ?_) (fun L => ?_)
 have ad := ndT L
 refine W.sr <| WL.c1 hB_ rfl rfl ((law21_answers _)) (fun az P => ?_)
 have av := nt_ a1 P.size
 have m := btr K P
 refine WL.M rfl <| WL.gd rfl rfl rfl (fun d => ?_) (fun d => ?_)
 refine WL.M rfl <| WL.Y d <| WL.O (.lenS u29_ rfl) <| WL.Y d <| WL.O (.eql rfl rfl) <| WL.O (.pkT rfl d rfl) <| WL.Z rfl <| W.ret (W.r1 rfl rfl ?_)
 first
 | exact ⟨rfl, m⟩
 | exact ab_ aS dD
 | exact ⟨scr_val (congrArg Value.bool (decide_eq_true (show (its.length : Int) = 0 by rw [n aS]; rfl))), m⟩
 refine WL.N d <| WL.N d <| WL.O (.pkF rfl d rfl) <| WL.Z rfl <| W.ret (W.r1 rfl rfl ?_)
 first
 | exact ⟨rfl, m⟩
 | exact ab_ aS dD
 | exact ⟨scr_val (congrArg Value.bool (decide_eq_true (show (its.length : Int) = 0 by rw [n aS]; rfl))), m⟩
 have ad := ndF L
 refine W.k <| W.seq <| W.sr <| WL.Z rfl <| W.b <| W.loop (α := Nat) (fun t => [(7, .slice xp its.length xc), (9, .int .i64 (t : Int))]) (fun t w' => Below w.heap.size w w' ∧ RowM itemL w' xp its ∧ (∀ y ∈ its, ItemOk w' y ∧ itemB y = true) ∧ t ≤ its.length) (fun t => its.length - t) (0) ⟨rfl, rfl, tT⟩ (⟨K, a7, a8, nl_ _⟩) (fun t w1 hR => ?_)
 obtain ⟨i, rfl⟩ : ∃ i, i = t := ⟨t, rfl⟩
 obtain ⟨q1, q2, q3, q4⟩ := hR
 refine W.seq <| W.sr <| WL.M rfl <| WL.M rfl <| WL.O (.lenS u29_ rfl) <| WL.O (.lss rfl rfl) <| WL.e <| W.cond rfl (fun T => ?_) (fun T => ?_)
 have ae := dT T
 refine W.k <| W.seq <| W.b <| W.sr <| WL.M rfl <| WL.M rfl <| WL.O (.ixm u29_ sizeOf44 rfl rfl (q2.isp (by first | omega | (simp only [List.length_cons, List.length_nil]; omega))) (i) (rfl) oO) <| WL.R (Rd.ldS u44_ rfl isz44 q2 (i) (by first | omega | (simp only [List.length_cons, List.length_nil]; omega)) rfl) <| WL.c1 hB_ rfl rfl ((ref_SoundItem its[i] _ (q3 _ (List.getElem_mem oO)).1)) (fun aA u => ?_)
 have af := rb_ q2 u (fun E => q2.lt E)
 have ag := btr q1 u
 have aq := u
 rw [(q3 _ (List.getElem_mem (by omega : i < its.length))).2]
 refine WL.O (.not rfl) <| WL.e <| W.condF rfl rfl <| W.k <| W.reg <| WL.M rfl <| WL.O (.iis (((i + 1 : Nat) : Int)) (.add rfl rfl (i64w oO)) oO) <| WL.Z rfl ?_
 exact ⟨i + 1, ⟨rfl, rfl, tT⟩, ⟨ag, af, fun y hy => ⟨(q3 y hy).1.below aq, (q3 y hy).2⟩, by ((try simp only) <;> omega)⟩, by ((try simp only) <;> omega)⟩
 have ae := dF T
 refine W.exit <| W.sr <| WL.c1 hB_ rfl rfl ((law21_answers _)) (fun aB ah => ?_)
 have U := btr q1 ah
 refine WL.Z rfl <| W.ret (W.r1 rfl rfl ?_)
 first
 | exact ⟨rfl, U⟩
 | exact ab_ aS dD
 | exact ⟨scr_val (congrArg Value.bool (decide_eq_true (show (its.length : Int) = 0 by rw [n aS]; rfl))), U⟩
end
section
open Go.ChangeShapes Go.WideShapes Go.ChangeAt Go.RowKit
theorem own : ownKnob Tryz.prog.godebug = none := by kernel_rfl
theorem laidOut : laidOutB Tryz.prog = true := by kernel_rfl
def firstCells : Array Value := (Go.Pinned.utf8FirstZ.map fun (n : Nat) => Value.int .u8 (n : Int)).toArray
def rangeCells : Array Value := #[.int .u8 128, .int .u8 191, .int .u8 160, .int .u8 191, .int .u8 128, .int .u8 159, .int .u8 144, .int .u8 191, .int .u8 128, .int .u8 143, .int .u8 0, .int .u8 0, .int .u8 0, .int .u8 0, .int .u8 0, .int .u8 0, .int .u8 0, .int .u8 0, .int .u8 0, .int .u8 0, .int .u8 0, .int .u8 0, .int .u8 0, .int .u8 0, .int .u8 0, .int .u8 0, .int .u8 0, .int .u8 0, .int .u8 0, .int .u8 0, .int .u8 0, .int .u8 0]
def putCells (cs : Array Value) : Obj → Obj
 | .cells _ t frozen => .cells cs t frozen
 | o => o
noncomputable def laidWorld (os : Os) : World :=
 { World.holding Tryz.prog os ⟨#[], #[], []⟩ with heap := ((World.holding Tryz.prog os ⟨#[], #[], []⟩).heap.modify 1 (putCells firstCells)).modify 2 (putCells rangeCells) }
end
section
open Go.ChangeShapes Go.WideShapes Go.ChangeAt Go.RowKit
open Go.ChangeMaps (open_string shut_string)
set_option maxRecDepth 100000 in
theorem contract_ViewSound (H : Type) (enc : TypeId × Value → H) (W : World) (base : Nat) (args : Array Value) (ds gs : List (DataW H)) (before : List MemPlace)
  (hval : ∀ (j : Nat) t v, Tryz.f3.params[j]? = some t → args[j]? = some v → Value.okWide Tryz.prog W .any base t v)
  (hW : DataW.Whole enc Tryz.prog Tryz.f3.params.toList Rows.viewSoundSpec.vars false W args.toList ds gs before) :
  Calls Tryz.prog 3 args W fun e W' => ∃ v, e = .returned v ∧ Rows.viewSoundSpec.post enc Tryz.prog Tryz.f3 false true false false W args v W' := by
 have hW' := hW
 obtain ⟨p, q, a, hV, rfl, J, K⟩ := hW
 have hA : DataW.TrodAll enc Tryz.prog W 0 (fun _ => true) true Tryz.f3.params.toList args.toList ds p := a
 rw [Tryz.params3] at hA hval
 obtain ⟨c, L, U, M, V, X, d, rfl, rfl, f, y⟩ := trodAll_cons hA
 obtain ⟨g, N, Y, O, A, Z, i, rfl, rfl, k, B⟩ := trodAll_cons y
 obtain ⟨rfl, rfl, rfl⟩ := trodAll_nil B
 obtain rfl : args = #[c, g] := by cases args; simp_all
 obtain ⟨rfl, rfl⟩ := trodVars_none hV
 obtain ⟨C, D, E, rfl, hb0, l, m, P⟩ := open_bytes u22_ u5_ kR (hval 0 22 c rfl rfl) f
 obtain ⟨F, n1, G, rfl⟩ := okWide_slice u23_ (hval 1 23 g rfl rfl)
 have n := k
 obtain ⟨Q, o⟩ := n
 obtain ⟨A, s, c1, b, u, w, R, T⟩ := open_strs u23_ u9_ kR o
 simp only [Value.cells, List.cons.injEq, and_true, Value.slice.injEq] at b
 obtain ⟨rfl, rfl, rfl⟩ := b
 clear a
 simp only [List.append_nil] at hW'
 refine (law_ViewSound C D E F s G W hb0 l m u w.len).mono fun e W' ⟨he, bel⟩ => ?_
 subst he
 exact ⟨_, rfl, _, _, _, [], _, [], hW', trodAll_mk1 (shut_bool underlying4 _), (trodAll_cons_mk (trod_keep laidOut kR kR f bel (fun x hx => hW'.lt x (by first | exact hx | (simp only [List.mem_append]; simp_all)))) (trodAll_cons_mk (trod_keep laidOut kR kR k bel (fun x hx => hW'.lt x (by first | exact hx | (simp only [List.mem_append]; simp_all)))) trodAll_mk0)), rfl, bel.frame _, fun h => by cases h⟩
theorem laid_met_ViewSound (os : Os) : laidMet Tryz.prog Rows.viewSoundRow.laid ((laidWorld os).forCall (fun _ _ => 0) ⟨#[], #[.slice none 0 0, .slice none 0 0], []⟩).memory :=
 laidMet_of_run' 8 kR kR
theorem reads_ViewSound (os : Os) {H : Type} (enc : TypeId × Value → H) : ∃ places, DataW.whole enc Tryz.prog ((laidWorld os).forCall (fun _ _ => 0) ⟨#[], #[.slice none 0 0, .slice none 0 0], []⟩).memory Tryz.f3.params.toList Rows.viewSoundSpec.vars false #[Value.slice none 0 0, .slice none 0 0].toList 8 = some ([.nil, .nil], [], places) :=
 ⟨[], by kernel_rfl⟩
set_option maxRecDepth 100000 in
theorem lifted_ViewSound (os : Os) (started : os.Started) (H : Type) (enc : TypeId × Value → H) (F : Stop.Interp) :
    ReturnsInHanded {} Tryz.checked os 3 .any ((OpenSpec.ofChange Rows.viewSoundSpec).preRow enc Tryz.prog Tryz.f3 Rows.viewSoundRow.domain false Rows.viewSoundRow.laid) (((OpenSpec.ofChange Rows.viewSoundSpec).at F).post enc Tryz.prog Tryz.f3 false true false false) := by
  obtain ⟨places, hx⟩ := reads_ViewSound os enc
  refine returnsInHanded_of_row (C := Tryz.checked) (s := OpenSpec.ofChange Rows.viewSoundSpec) own started kR func3
    (witness_row_at (enc := enc) (C := Tryz.checked) false (laidWorld os) #[.slice none 0 0, .slice none 0 0] rfl kR kR kR
      (OpenSpec.preRow_of_cond 8 hx kR (fun k hk => by cases hk) kR (laid_met_ViewSound os))) ?_
  intro W base args ds gs before a hW _ b _ hL _ _
  exact contract_ViewSound H enc W base args ds gs before a hW
theorem said_ViewSound : Rows.ViewSoundSaid :=
  OpenClaim.holds_of_cond 3 Tryz.f3 rfl rfl rfl rfl rfl rfl rfl ⟨rfl, rfl, rfl, rfl, rfl⟩ rfl rfl rfl rfl rfl kR func3 kR
    (dT kR) (by unfold Func.isWrapper; first | (rw [if_pos (by decide +kernel)]; kernel_rfl) | (rw [if_neg (by decide +kernel)]; exact ⟨rfl, rfl⟩))
    (fun os started H enc _ F => by rw [OpenClaim.pre_eq_preRow]; exact lifted_ViewSound os started H enc F)
theorem plain_ViewSound (f : FuncId) (fn : Func) (hf : Tryz.pinned.checked.prog.funcNamed "mezzotint/mezzotintlaw21.ViewSound" = some f) (hfn : Tryz.pinned.checked.prog.funcs[f]? = some fn) :
  true = Tryz.pinned.checked.prog.looks [] ∧ ∀ (j : Nat) t, fn.params[j]? = some t → Tryz.pinned.checked.prog.wantsStandIn t = false := by
 obtain rfl : f = 3 := Option.some.inj ((show Tryz.prog.funcNamed "mezzotint/mezzotintlaw21.ViewSound" = some 3 by kernel_rfl).symm.trans hf) |>.symm
 obtain rfl : fn = Tryz.f3 := (Option.some.inj (func3.symm.trans hfn)).symm
 refine ⟨by kernel_rfl, fun j t ht => ?_⟩
 rw [Tryz.params3] at ht
 have a := Array.mem_of_getElem? ht
 simp only [List.mem_toArray, List.mem_cons, List.not_mem_nil, or_false] at a
 rcases a with rfl | rfl
 ·
  exact (show Tryz.prog.wantsStandIn 22 = false by kernel_rfl)
 ·
  exact (show Tryz.prog.wantsStandIn 23 = false by kernel_rfl)
theorem ViewSound_holds : Rows.ViewSoundCardSaid :=
 Claim7.holds_tied_plain_at .later [] _ _ _ _ said_ViewSound (fun _ h => by cases h) kR (fun _ h => by cases h) viewSound_row_tie rfl ⟨rfl, rfl⟩ kR rfl plain_ViewSound kR
#print axioms ViewSound_holds
end
end Go.Proofs.YthmhfjeojkbpfaaGreatDoor
