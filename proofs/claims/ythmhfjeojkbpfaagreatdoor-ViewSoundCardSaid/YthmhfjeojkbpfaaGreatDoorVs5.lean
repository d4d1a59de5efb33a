/-
  What the claim leans on, part 5: pruned and joined by my own tool out of the texts that stand in wip/ as templates.
-/
import Derived.Test.YthmhfjeojkbpfaaGreatDoorVs4
namespace Go.Proofs.YthmhfjeojkbpfaaGreatDoor
open Go.RowKit
open Go.Proofs.Tryz
section
def okPth (V : Vw) (x : Except Int PathP) : Except Int Vw := x >>= fun p => .ok (setP V p)
theorem draw_m {V : Vw} {args : List PV} : drawV V args [109] = (numsV args 2 >>= fun n => ledsV V.s.ctm n >>= fun l => okPth V (stepV (pMove 4096 V.path (l.getD 0 pt0)))) := by unfold drawV; rw [if_pos rfl]; rfl
theorem draw_l {V : Vw} {args : List PV} : drawV V args [108] = (numsV args 2 >>= fun n => ledsV V.s.ctm n >>= fun l => okPth V (stepV (pLine 4096 V.path (l.getD 0 pt0)))) := by unfold drawV; rw [if_neg dD, if_pos rfl]; rfl
theorem draw_c {V : Vw} {args : List PV} : drawV V args [99] = (numsV args 6 >>= fun n => ledsV V.s.ctm n >>= fun l => okPth V (stepV (pCurve 4096 V.path (l.getD 0 pt0) (l.getD 1 pt0) (l.getD 2 pt0)))) := by
 unfold drawV; rw [if_neg dD, if_neg dD, if_pos rfl]; rfl
theorem draw_v {V : Vw} {args : List PV} : drawV V args [118] = (numsV args 4 >>= fun n => ledsV V.s.ctm n >>= fun l => wantV (decide (V.path.list.length ≠ 0)) >>= fun _ => okPth V (stepV (pCurve 4096 V.path V.path.now (l.getD 0 pt0) (l.getD 1 pt0)))) := by
 unfold drawV; rw [if_neg dD, if_neg dD, if_neg dD, if_pos rfl]; rfl
theorem draw_y {V : Vw} {args : List PV} : drawV V args [121] = (numsV args 4 >>= fun n => ledsV V.s.ctm n >>= fun l => okPth V (stepV (pCurve 4096 V.path (l.getD 0 pt0) (l.getD 1 pt0) (l.getD 1 pt0)))) := by
 unfold drawV; rw [if_neg dD, if_neg dD, if_neg dD, if_neg dD, if_pos rfl]; rfl
theorem draw_h {V : Vw} {args : List PV} : drawV V args [104] = (numsV args 0 >>= fun _ => okPth V (stepV (pClose 4096 V.path))) := by
 unfold drawV; rw [if_neg dD, if_neg dD, if_neg dD, if_neg dD, if_neg dD, if_pos rfl]; rfl
theorem draw_re {V : Vw} {args : List PV} {op : List UInt8} (h1 : ¬ op = [109]) (h2 : ¬ op = [108]) (h3 : ¬ op = [99]) (h4 : ¬ op = [118]) (h5 : ¬ op = [121]) (h6 : ¬ op = [104]) : drawV V args op = okPth V (rectV V.s.ctm V.path args) := by
 unfold drawV rectV okPth
 rw [if_neg h1, if_neg h2, if_neg h3, if_neg h4, if_neg h5, if_neg h6]
 cases hn : numsV args 4 with
 | error k => rfl
 | ok n =>
  show (plusV (n.getD 0 0) (n.getD 2 0) >>= fun x => _) = ((plusV (n.getD 0 0) (n.getD 2 0) >>= fun x => _) >>= _)
  cases hx : plusV (n.getD 0 0) (n.getD 2 0) with
  | error k => rfl
  | ok x =>
   show (plusV (n.getD 1 0) (n.getD 3 0) >>= fun y => _) = ((plusV (n.getD 1 0) (n.getD 3 0) >>= fun y => _) >>= _)
   cases hy : plusV (n.getD 1 0) (n.getD 3 0) with
   | error k => rfl
   | ok y =>
    show (ledsV V.s.ctm [n.getD 0 0, n.getD 1 0, x, n.getD 1 0, x, y, n.getD 0 0, y] >>= fun l => _) = ((ledsV V.s.ctm [n.getD 0 0, n.getD 1 0, x, n.getD 1 0, x, y, n.getD 0 0, y] >>= fun l => _) >>= _)
    cases hl : ledsV V.s.ctm [n.getD 0 0, n.getD 1 0, x, n.getD 1 0, x, y, n.getD 0 0, y] with
    | error k => rfl
    | ok l =>
     have j := ledsV_len (k := 4) rfl hl
     match l, j with
     | [a, b, c, d], _ =>
      show (stepV (pMove 4096 V.path a) >>= fun i => stepV (pLine 4096 i b) >>= fun e => stepV (pLine 4096 e c) >>= fun f => stepV (pLine 4096 f d) >>= fun g => stepV (pClose 4096 g) >>= fun p => .ok (setP V p)) =
       ((stepV (pMove 4096 V.path a) >>= fun i => (stepV (pLine 4096 i b) >>= fun e => stepV (pLine 4096 e c) >>= fun f => stepV (pLine 4096 f d) >>= fun g => .ok g) >>= fun g => stepV (pClose 4096 g)) >>= fun p => .ok (setP V p))
      cases stepV (pMove 4096 V.path a) with
      | error k => rfl
      | ok i =>
       show (stepV (pLine 4096 i b) >>= fun e => _) = (((stepV (pLine 4096 i b) >>= fun e => _) >>= _) >>= _)
       cases stepV (pLine 4096 i b) with
       | error k => rfl
       | ok e =>
        show (stepV (pLine 4096 e c) >>= fun f => _) = (((stepV (pLine 4096 e c) >>= fun f => _) >>= _) >>= _)
        cases stepV (pLine 4096 e c) with
        | error k => rfl
        | ok f =>
         show (stepV (pLine 4096 f d) >>= fun g => _) = (((stepV (pLine 4096 f d) >>= fun g => _) >>= _) >>= _)
         cases stepV (pLine 4096 f d) with
         | error k => rfl
         | ok g => rfl
def curV (P : PathP) : PointV × Int := if P.list.length = 0 then (pt0, 10) else (P.now, 0)
theorem cur_ok {P : PathP} {u : Unit} (h : mustV (curV P).2 = .ok u) : decide (P.list.length ≠ 0) = true ∧ P.now = (curV P).1 := by
 have a := must_ok h
 unfold curV at a ⊢
 split at a
 ·
  cases a
 ·
  next hn => rw [if_neg hn]; exact ⟨decide_eq_true hn, rfl⟩
theorem cur_err {P : PathP} {k : Int} (h : mustV (curV P).2 = .error k) : decide (P.list.length ≠ 0) = false ∧ k = 22 := by
 unfold mustV at h
 split at h
 ·
  cases h
 ·
  next hn =>
  cases h
  refine ⟨decide_eq_false fun hl => ?_, rfl⟩
  unfold curV at hn
  rw [if_neg hl] at hn
  exact hn rfl
theorem pth_CurV (B bp : Nat) (m : Int) (v : Value) (P : PathP) (w : World) (h : PthAt B w bp m P v) :
  Calls Tryz.prog 80 #[.pointer (some ⟨bp, 0, none⟩)] w fun e w' => e = .returned (.tuple #[.agg (pointV (curV P).1).toArray, .int .i64 (curV P).2]) ∧ Below w.heap.size w w' :=
 (pth_Current B bp m v P w h).mono fun e w' ⟨h1, h2⟩ => ⟨by rw [h1]; unfold curV; split <;> rfl, h2⟩
theorem getDp {l : List PointV} {n i : Nat} (h : l.length = n) (hi : i < n) : l.getD i pt0 = l[i]'oO := by
 rw [List.getD_eq_getElem?_getD, List.getElem?_eq_getElem oO]; rfl
section
variable {B : Nat} {fs : Fcx} {w w1 : World} {bv : Nat} {F : Nat → Prop} {V : Vw} {args : List PV}
theorem Vwr.setPath {H : VwH} {vp v1 : Value} {its : List ItemV} {hs : List StC} {cs : List PC} {P1 : PathP} (hO : VwO B w bv H vp V its hs cs) (hR : VwR (Frz fs.c (VwF bv H vp) w) w H fs V args its hs cs)
  (K : KeepB w.heap.size [H.path, vb vp H.path] w w1) (hp : PthAt B w1 H.path 4096 P1 v1) (hg : Grew w vp v1) : ∃ F1, Vwr B fs w1 bv F1 (setP V P1) args ∧ Chg (VwF bv H vp) F1 w w1 := by
 obtain ⟨d, -, e, f, i⟩ := hO.rest K _ (two_ty hO.pth.own hO.pth.blk.ty)
 have hC : Chg (VwF bv H vp) (VwF bv H v1) w w1 := Chg.of_keep K (two_F (fun g hg => .inr (.inr (.inl hg))) (.inr (.inl rfl))) (fun g b => by
  rcases b with a | a | a | a
  ·
   exact .inl (.inl a)
  ·
   exact .inl (.inr (.inl a))
  ·
   exact (hg g a).imp (fun h => .inr (.inr (.inl h))) id
  ·
   exact .inl (.inr (.inr (.inr a))))
 have hq := hR.mv (Frz.mv hC)
 exact ⟨_, ⟨H, v1, its, hs, cs, rfl, ⟨d dD, hp, e dD, f dD, i dD, hO.lbv, hO.lbp⟩, { hq with }⟩, hC⟩
set_option maxHeartbeats 3200000 in
theorem vw_draw (op : List UInt8) (h : Vwr B fs w bv F V args) (ha : args.length ≤ 32) :
  Calls Tryz.prog 53 #[.pointer (some ⟨bv, 0, none⟩), .string (bs op)] w (VwE B fs bv F w (drawV V args op) args) := by
 have f := h
 obtain ⟨H, vp, its, hs, cs, rfl, hO, hR⟩ := h.mem
 have an := VwrN.of f
 have y := hO.blk
 have hP := hO.pth
 have c2 := hO.lbp
 have hc := hR.st.ctm
 have aE := @Vwr.setPath B fs w
 obtain ⟨s, fo, sa, pa, b8, it, lo, te, li, ar, itv⟩ := H
 simp only at hP hc c2
 have e7 := hP.blk.lt
 have eq := y.lt
 have eJ := vb_lt hP.own e7
 obtain ⟨eK, eL⟩ := ty_ne hP y
 have C := fun w1 => hP.ctm (w1 := w1) c2
 have ao := StN.of (Q := fun w => PthAt B w pa 4096 V.path vp) hP
 refine W.e func53 rfl ntmps53 bL ?_
 have aa := KeepB.refl w.heap.size ([pa, vb vp pa]) w
 refine W.sr <| WL.M rfl <| WL.e <| W.b <| W.sr <| WL.O (.eqs rfl rfl) <| WL.Z rfl <| W.cond rfl (fun h1 => ?_) (fun h1 => ?_)
 have e8 := dT h1
 have X : op = [109] := by assumption
 have hD := draw_m (V := V) (args := args)
 rw [← X] at hD
 refine W.regH 12 rfl mixed (fun w' => w'.heap[bv]? = w.heap[bv]? ∧ True) (fun w2 bq => ?_)
 have e9 := vs_ (w1 := w2) an (fun k hk hl => (by obtain ⟨m, rfl⟩ := bq; rfl))
 have ea := ss_ (w1 := w2) ao (fun k hk hl => (by obtain ⟨m, rfl⟩ := bq; rfl))
 have dh := y.drew bq
 have di := kt_ aa (kd_ bq)
 have aN := And.intro (dh.trans y.symm) True.intro
 refine WH.tp 0 rfl (.mv rfl) aN rfl ?_
 refine WH.tp 1 rfl (.nck rfl) aN rfl ?_
 refine WH.tp 2 rfl (.fa u74_ rfl s69_ dD rfl) aN rfl ?_
 refine WH.tk 3 rfl (fun w' hw' => Rd.ld (g69_ _) rfl ((hw'.1).trans y) rfl) aN rfl ?_
 refine WH.tp 4 rfl (.mv rfl) aN rfl ?_
 refine WH.tp 5 rfl (.mv rfl) aN rfl ?_
 refine WH.br1 6 rfl <| WL.cx hB_ rfl rfl ((vw_numV 2 (e9).get ha oO)) (fun k9 w7 aQ aO => ?_) (fun a8 eM w7 aQ aO => ?_)
 have cE := kB di aO
 exact pn_is (ee_ k9 (by rw [hD, bind_err aQ]) (C _ cE))
 have dr := ss_ (w1 := w7) ea (fun k hk hl => aO.1.block k hl)
 have ba := dh.bl aO.1
 have bb := kB di aO.1
 obtain ⟨nl, rfl⟩ : ∃ l, l = a8 := ⟨_, rfl⟩
 obtain ⟨pn, cn, evn, ab, bt, ac, -⟩ := aO.2.row
 subst evn
 have bu := (numsV_ok aQ).1
 have ad := ab.ofI
 rw [bind_ok aQ] at hD
 refine WL.e <| ⟨⟨(ba).trans (y).symm, tT⟩, ?_⟩
 refine WH.br1 7 rfl <| WL.cx hB_ rfl rfl ((vw_leds bv ⟨s, fo, sa, pa, b8, it, lo, te, li, ar, itv⟩ pn nl cn 1 _ ba ad oO oO ac)) (fun eb dj a0 ap => ?_) (fun ec eN dj a0 ap => ?_)
 have c3 := kB bb ap
 exact pn_is (ee_ eb (by rw [hc] at a0; rw [hD]; exact bind_err a0) (C _ c3))
 have ds := ss_ (w1 := dj) dr (fun k hk hl => ap.1.block k hl)
 have bc := ba.bl ap.1
 have bd := kB bb ap.1
 obtain ⟨ls, rfl⟩ : ∃ l, l = ec := ⟨_, rfl⟩
 obtain ⟨pl, cl, evl, t, P, aR, -⟩ := ap.2.row
 subst evl
 have G := ledsV_len (k := 1) oO a0
 rw [hc] at a0
 rw [bind_ok a0, getDp G (i := 0) dD] at hD
 have E : 0 < ls.length → w.heap.size ≤ (pA pl).block := fun f => nt_ bb.size (P _ (t.isp f))
 refine WL.e <| ?_
 have c4 := And.intro (bc.trans y.symm) True.intro
 refine ⟨c4, ?_⟩
 refine WH.tp 8 rfl (.ixm u133_ s57_ rfl rfl (t.isp (by first | omega | (simp only [List.length_cons, List.length_nil]; omega))) (0) (rfl) oO) c4 rfl ?_
 refine WH.br1 9 rfl <| WL.R (Rd.ldS u57_ rfl isz57 t (0) (by first | omega | (simp only [List.length_cons, List.length_nil]; omega)) rfl) <| WL.e <| ⟨c4, ?_⟩
 refine WH.br1 10 rfl <| WL.c1 hB_ rfl rfl ((pth_Move B pa 4096 vp V.path ls[0] _ (PthAt.ofN ds))) (fun eO be => ?_)
 have c5 := Blk.keepB bc be.1 bc.lt (by simp only [List.mem_cons, List.not_mem_nil, or_false, not_or, not_false_eq_true]; omega)
 have c6 := kt_ bd (KeepB.wide be.1 bd.size (by simp <;> omega))
 obtain ⟨v1, J, Y⟩ := be.2
 have D := StN.of (Q := fun w => PthAt B w pa 4096 _ v1) J
 have K := Grew.mono Y bd.size
 refine WL.e <| ⟨⟨(c5).trans (y).symm, tT⟩, ?_⟩
 refine WH.br1 11 rfl <| WL.ce hB_ rfl rfl ((vw_step _ _)) (fun ed dk aT aF => ?_) (fun eP dk aT aF => ?_)
 have c7 := kB c6 aF
 exact pn_is (ee_ ed (by rw [hD]; exact bind_err (step_errE aT)) (C _ c7))
 have dt := ss_ (w1 := dk) D (fun k hk hl => aF.block k hl)
 have du := c5.bl aF
 have dv := kB c6 aF
 rw [okPth, bind_ok (step_okE aT)] at hD
 refine WL.e <| ⟨⟨(du).trans (y).symm, tT⟩, ?_⟩
 refine WH.done kR <| W.norm (W.ret0 rfl ?_)
 exact eo_ _ _ hD rfl ⟨rfl, aE hO hR dv (PthAt.ofN dt) K⟩
 have e8 := dF h1
 refine W.sr <| WL.O (.eqs rfl rfl) <| WL.Z rfl <| W.cond rfl (fun c8 => ?_) (fun c8 => ?_)
 have dw := dT c8
 have X : op = [108] := by assumption
 have hD := draw_l (V := V) (args := args)
 rw [← X] at hD
 refine W.regH 12 rfl mixed (fun w' => w'.heap[bv]? = w.heap[bv]? ∧ True) (fun dl aU => ?_)
 have dx := vs_ (w1 := dl) an (fun k hk hl => (by obtain ⟨m, rfl⟩ := aU; rfl))
 have dy := ss_ (w1 := dl) ao (fun k hk hl => (by obtain ⟨m, rfl⟩ := aU; rfl))
 have c9 := y.drew aU
 have ca := kt_ aa (kd_ aU)
 have aP := And.intro (c9.trans y.symm) True.intro
 refine WH.tp 0 rfl (.mv rfl) aP rfl ?_
 refine WH.tp 1 rfl (.nck rfl) aP rfl ?_
 refine WH.tp 2 rfl (.fa u74_ rfl s69_ dD rfl) aP rfl ?_
 refine WH.tk 3 rfl (fun w' hw' => Rd.ld (g69_ _) rfl ((hw'.1).trans y) rfl) aP rfl ?_
 refine WH.tp 4 rfl (.mv rfl) aP rfl ?_
 refine WH.tp 5 rfl (.mv rfl) aP rfl ?_
 refine WH.br1 6 rfl <| WL.cx hB_ rfl rfl ((vw_numV 2 (dx).get ha oO)) (fun ee dm ax aq => ?_) (fun ef eQ dm ax aq => ?_)
 have cb := kB ca aq
 exact pn_is (ee_ ee (by rw [hD, bind_err ax]) (C _ cb))
 have dz := ss_ (w1 := dm) dy (fun k hk hl => aq.1.block k hl)
 have bf := c9.bl aq.1
 have bg := kB ca aq.1
 obtain ⟨nl, rfl⟩ : ∃ l, l = ef := ⟨_, rfl⟩
 obtain ⟨pn, cn, evn, ab, bt, ac, -⟩ := aq.2.row
 subst evn
 have bu := (numsV_ok ax).1
 have ad := ab.ofI
 rw [bind_ok ax] at hD
 refine WL.e <| ⟨⟨(bf).trans (y).symm, tT⟩, ?_⟩
 refine WH.br1 7 rfl <| WL.cx hB_ rfl rfl ((vw_leds bv ⟨s, fo, sa, pa, b8, it, lo, te, li, ar, itv⟩ pn nl cn 1 _ bf ad oO oO ac)) (fun eg dn a1 au => ?_) (fun eh eR dn a1 au => ?_)
 have cc := kB bg au
 exact pn_is (ee_ eg (by rw [hc] at a1; rw [hD]; exact bind_err a1) (C _ cc))
 have dA := ss_ (w1 := dn) dz (fun k hk hl => au.1.block k hl)
 have bh := bf.bl au.1
 have bi := kB bg au.1
 obtain ⟨ls, rfl⟩ : ∃ l, l = eh := ⟨_, rfl⟩
 obtain ⟨pl, cl, evl, t, P, aR, -⟩ := au.2.row
 subst evl
 have G := ledsV_len (k := 1) oO a1
 rw [hc] at a1
 rw [bind_ok a1, getDp G (i := 0) dD] at hD
 have E : 0 < ls.length → w.heap.size ≤ (pA pl).block := fun f => nt_ bg.size (P _ (t.isp f))
 refine WL.e <| ?_
 have cd := And.intro (bh.trans y.symm) True.intro
 refine ⟨cd, ?_⟩
 refine WH.tp 8 rfl (.ixm u133_ s57_ rfl rfl (t.isp (by first | omega | (simp only [List.length_cons, List.length_nil]; omega))) (0) (rfl) oO) cd rfl ?_
 refine WH.br1 9 rfl <| WL.R (Rd.ldS u57_ rfl isz57 t (0) (by first | omega | (simp only [List.length_cons, List.length_nil]; omega)) rfl) <| WL.e <| ⟨cd, ?_⟩
 refine WH.br1 10 rfl <| WL.c1 hB_ rfl rfl ((pth_Line B pa 4096 vp V.path ls[0] _ (PthAt.ofN dA))) (fun eS bj => ?_)
 have cf := Blk.keepB bh bj.1 bh.lt (by simp only [List.mem_cons, List.not_mem_nil, or_false, not_or, not_false_eq_true]; omega)
 have cg := kt_ bi (KeepB.wide bj.1 bi.size (by simp <;> omega))
 obtain ⟨v1, J, Y⟩ := bj.2
 have D := StN.of (Q := fun w => PthAt B w pa 4096 _ v1) J
 have K := Grew.mono Y bi.size
 refine WL.e <| ⟨⟨(cf).trans (y).symm, tT⟩, ?_⟩
 refine WH.br1 11 rfl <| WL.ce hB_ rfl rfl ((vw_step _ _)) (fun ei dp aV aG => ?_) (fun eT dp aV aG => ?_)
 have ci := kB cg aG
 exact pn_is (ee_ ei (by rw [hD]; exact bind_err (step_errE aV)) (C _ ci))
 have dB := ss_ (w1 := dp) D (fun k hk hl => aG.block k hl)
 have dC := cf.bl aG
 have dE := kB cg aG
 rw [okPth, bind_ok (step_okE aV)] at hD
 refine WL.e <| ⟨⟨(dC).trans (y).symm, tT⟩, ?_⟩
 refine WH.done kR <| W.norm (W.ret0 rfl ?_)
 exact eo_ _ _ hD rfl ⟨rfl, aE hO hR dE (PthAt.ofN dB) K⟩
 have dw := dF c8
 refine W.sr <| WL.O (.eqs rfl rfl) <| WL.Z rfl <| W.cond rfl (fun cj => ?_) (fun cj => ?_)
 have dG := dT cj
 have X : op = [99] := by assumption
 have hD := draw_c (V := V) (args := args)
 rw [← X] at hD
 refine W.sr <| WL.M rfl <| WL.M rfl <| WL.cx hB_ rfl rfl ((vw_numV 6 (an).get ha oO)) (fun ej dq ay av => ?_) (fun ek eU dq ay av => ?_)
 have ck := kB aa av
 exact pn_is (ee_ ej (by rw [hD, bind_err ay]) (C _ ck))
 have dH := ss_ (w1 := dq) ao (fun k hk hl => av.1.block k hl)
 have cm := y.bl av.1
 have bk := kB aa av.1
 obtain ⟨nl, rfl⟩ : ∃ l, l = ek := ⟨_, rfl⟩
 obtain ⟨pn, cn, evn, ab, bt, ac, -⟩ := av.2.row
 subst evn
 have bu := (numsV_ok ay).1
 have ad := ab.ofI
 rw [bind_ok ay] at hD
 refine WL.cx hB_ rfl rfl ((vw_leds bv ⟨s, fo, sa, pa, b8, it, lo, te, li, ar, itv⟩ pn nl cn 3 _ cm ad oO oO ac)) (fun el co a2 aw => ?_) (fun em eV co a2 aw => ?_)
 have cq := kB bk aw
 exact pn_is (ee_ el (by rw [hc] at a2; rw [hD]; exact bind_err a2) (C _ cq))
 have dI := ss_ (w1 := co) dH (fun k hk hl => aw.1.block k hl)
 have u := cm.bl aw.1
 have dJ := kB bk aw.1
 obtain ⟨ls, rfl⟩ : ∃ l, l = em := ⟨_, rfl⟩
 obtain ⟨pl, cl, evl, t, P, aR, -⟩ := aw.2.row
 subst evl
 have G := ledsV_len (k := 3) oO a2
 rw [hc] at a2
 rw [bind_ok a2, getDp G (i := 0) dD, getDp G (i := 1) dD, getDp G (i := 2) dD] at hD
 have E : 0 < ls.length → w.heap.size ≤ (pA pl).block := fun f => nt_ bk.size (P _ (t.isp f))
 refine WL.Z rfl <| W.regH 15 rfl mixed (fun w' => w'.heap[bv]? = co.heap[bv]? ∧ RowM pointL w' pl ls ∧ True) (fun en aW => ?_)
 have dK := ss_ (w1 := en) dI (fun k hk hl => (by obtain ⟨m, rfl⟩ := aW; rfl))
 have A := u.drew aW
 have a := t.drew aW
 have aX := kt_ dJ (kd_ aW)
 refine WH.tp 0 rfl (.mv rfl) ⟨(A).trans (u).symm, a, tT⟩ rfl ?_
 refine WH.tp 1 rfl (.nck rfl) ⟨(A).trans (u).symm, a, tT⟩ rfl ?_
 refine WH.tp 2 rfl (.fa u74_ rfl s69_ dD rfl) ⟨(A).trans (u).symm, a, tT⟩ rfl ?_
 refine WH.tk 3 rfl (fun w' hw' => Rd.ld (g69_ _) rfl ((hw'.1).trans u) rfl) ⟨(A).trans (u).symm, a, tT⟩ rfl ?_
 refine WH.tp 4 rfl (.mv rfl) ⟨(A).trans (u).symm, a, tT⟩ rfl ?_
 refine WH.tp 5 rfl (.ixm u133_ s57_ rfl rfl (a.isp (by first | omega | (simp only [List.length_cons, List.length_nil]; omega))) (0) (rfl) oO) ⟨(A).trans (u).symm, a, tT⟩ rfl ?_
 refine WH.tk 6 rfl (fun w' hw' => Rd.ldS u57_ rfl isz57 (hw'.2.1) (0) (by first | omega | (simp only [List.length_cons, List.length_nil]; omega)) rfl) ⟨(A).trans (u).symm, a, tT⟩ rfl ?_
 refine WH.tp 7 rfl (.mv rfl) ⟨(A).trans (u).symm, a, tT⟩ rfl ?_
 refine WH.tp 8 rfl (.ixm u133_ s57_ rfl rfl (a.isp (by first | omega | (simp only [List.length_cons, List.length_nil]; omega))) (1) (rfl) oO) ⟨(A).trans (u).symm, a, tT⟩ rfl ?_
 refine WH.tk 9 rfl (fun w' hw' => Rd.ldS u57_ rfl isz57 (hw'.2.1) (1) (by first | omega | (simp only [List.length_cons, List.length_nil]; omega)) rfl) ⟨(A).trans (u).symm, a, tT⟩ rfl ?_
 refine WH.tp 10 rfl (.mv rfl) ⟨(A).trans (u).symm, a, tT⟩ rfl ?_
 refine WH.tp 11 rfl (.ixm u133_ s57_ rfl rfl (a.isp (by first | omega | (simp only [List.length_cons, List.length_nil]; omega))) (2) (rfl) oO) ⟨(A).trans (u).symm, a, tT⟩ rfl ?_
 refine WH.tk 12 rfl (fun w' hw' => Rd.ldS u57_ rfl isz57 (hw'.2.1) (2) (by first | omega | (simp only [List.length_cons, List.length_nil]; omega)) rfl) ⟨(A).trans (u).symm, a, tT⟩ rfl ?_
 refine WH.br1 13 rfl <| WL.c1 hB_ rfl rfl ((pth_Curve B pa 4096 vp V.path ls[0] ls[1] ls[2] _ (PthAt.ofN dK))) (fun er az => ?_)
 have bw := Blk.keepB A az.1 A.lt (by simp only [List.mem_cons, List.not_mem_nil, or_false, not_or, not_false_eq_true]; omega)
 have aY := rk_ a az.1 (fun f => ⟨a.lt f, by first | simpa using (E) f | (have q := (E) f; have q1 := a.lt f; simp only [List.mem_cons, List.not_mem_nil, or_false, not_or, not_false_eq_true]; omega)⟩)
 have bx := kt_ aX (KeepB.wide az.1 aX.size (by simp <;> omega))
 obtain ⟨v1, J, Y⟩ := az.2
 have D := StN.of (Q := fun w => PthAt B w pa 4096 _ v1) J
 have K := Grew.mono Y aX.size
 refine WL.e <| ⟨⟨(bw).trans (u).symm, aY, tT⟩, ?_⟩
 refine WH.br1 14 rfl <| WL.ce hB_ rfl rfl ((vw_step _ _)) (fun dL cr aH a3 => ?_) (fun es cr aH a3 => ?_)
 have bR := kB bx a3
 exact pn_is (ee_ dL (by rw [hD]; exact bind_err (step_errE aH)) (C _ bR))
 have cF := ss_ (w1 := cr) D (fun k hk hl => a3.block k hl)
 have cG := bw.bl a3
 have cH := rb_ aY a3 (fun f => aY.lt f)
 have cI := kB bx a3
 rw [okPth, bind_ok (step_okE aH)] at hD
 refine WL.e <| ⟨⟨(cG).trans (u).symm, cH, tT⟩, ?_⟩
 refine WH.done kR <| W.norm (W.ret0 rfl ?_)
 exact eo_ _ _ hD rfl ⟨rfl, aE hO hR cI (PthAt.ofN cF) K⟩
 have dG := dF cj
 refine W.sr <| WL.O (.eqs rfl rfl) <| WL.Z rfl <| W.cond rfl (fun bm => ?_) (fun bm => ?_)
 have cJ := dT bm
 have X : op = [118] := by assumption
 have hD := draw_v (V := V) (args := args)
 rw [← X] at hD
 refine W.sr <| WL.M rfl <| WL.M rfl <| WL.cx hB_ rfl rfl ((vw_numV 4 (an).get ha oO)) (fun dM ct ae a4 => ?_) (fun dN et ct ae a4 => ?_)
 have bS := kB aa a4
 exact pn_is (ee_ dM (by rw [hD, bind_err ae]) (C _ bS))
 have cK := ss_ (w1 := ct) ao (fun k hk hl => a4.1.block k hl)
 have bz := y.bl a4.1
 have aZ := kB aa a4.1
 obtain ⟨nl, rfl⟩ : ∃ l, l = dN := ⟨_, rfl⟩
 obtain ⟨pn, cn, evn, ab, bt, ac, -⟩ := a4.2.row
 subst evn
 have bu := (numsV_ok ae).1
 have ad := ab.ofI
 rw [bind_ok ae] at hD
 refine WL.cx hB_ rfl rfl ((vw_leds bv ⟨s, fo, sa, pa, b8, it, lo, te, li, ar, itv⟩ pn nl cn 2 _ bz ad oO oO ac)) (fun dO cu L a5 => ?_) (fun dP eu cu L a5 => ?_)
 have bT := kB aZ a5
 exact pn_is (ee_ dO (by rw [hc] at L; rw [hD]; exact bind_err L) (C _ bT))
 have bA := ss_ (w1 := cu) cK (fun k hk hl => a5.1.block k hl)
 have bB := bz.bl a5.1
 have cL := kB aZ a5.1
 obtain ⟨ls, rfl⟩ : ∃ l, l = dP := ⟨_, rfl⟩
 obtain ⟨pl, cl, evl, t, P, aR, -⟩ := a5.2.row
 subst evl
 have G := ledsV_len (k := 2) oO L
 rw [hc] at L
 rw [bind_ok L, getDp G (i := 0) dD, getDp G (i := 1) dD] at hD
 have E : 0 < ls.length → w.heap.size ≤ (pA pl).block := fun f => nt_ aZ.size (P _ (t.isp f))
 refine WL.Z rfl <| W.sr <| WL.M rfl <| WL.O (.nck rfl) <| WL.O (.fa u74_ rfl s69_ dD rfl) <| WL.R (Rd.ld (g69_ _) rfl bB rfl) <| WL.c1 hB_ rfl rfl ((pth_CurV B pa 4096 vp V.path _ (PthAt.ofN bA))) (fun dQ aA => ?_)
 have cM := ss_ (w1 := dQ) bA (fun k hk hl => aA.block k hl)
 have bC := bB.bl aA
 have bD := rb_ t aA (fun f => t.lt f)
 have bE := kB cL aA
 refine WL.M rfl <| WL.O (.ext rfl rfl) <| WL.O (.ext rfl rfl) <| WL.al z57_ rfl (fun cv cN a' cw af eo => ?_)
 have cO := ss_ (w1 := cN) cM (fun k hk hl => af.other k oO)
 have cP := bgl a' bC.lt
 have cQ := bC.un af cP
 have b9 := fun f => a' ▸ bD.lt f
 have cR := RowM.upd bD af (fun f => nn_ (b9 f))
 have bU := bge a' bE.size
 have cS := kt_ bE (kn_ af bU)
 refine WL.stL rfl rfl cw isz57 rfl rfl (fun dR cy ag ep => ?_)
 have cT := ss_ (w1 := dR) cO (fun k hk hl => ag.other k (by first | ((try simp only) <;> omega) | (have := hk.1; ((try simp only) <;> omega))))
 have cU := cQ.up ag
 have bG := RowM.upd cR ag (fun f => nn_ (b9 f))
 have bH := kU cS ag
 refine WL.Z rfl <| W.sr <| WL.M rfl <| WL.ce hB_ rfl rfl ((vw_must _ _)) (fun dS b0 ah T => ?_) (fun ev b0 ah T => ?_)
 have bV := kB bH T
 exact pn_is (ee_ dS (by rw [hD, (cur_err ah).1, (cur_err ah).2]; rfl) (C _ bV))
 have cV := ss_ (w1 := b0) cT (fun k hk hl => T.block k hl)
 have j := cU.bl T
 have n := cy.bl T
 have cW := rb_ bG T (fun f => bG.lt f)
 have cX := kB bH T
 obtain ⟨dU, dV⟩ := cur_ok ah
 rw [dU, bind_ok (show wantV true = .ok () from rfl), dV] at hD
 refine WL.e <| W.regH 13 rfl mixed (fun w' => w'.heap[bv]? = b0.heap[bv]? ∧ RowM pointL w' pl ls ∧ w'.heap[cv]? = b0.heap[cv]? ∧ True) (fun dW ai => ?_)
 have cY := ss_ (w1 := dW) cV (fun k hk hl => (by obtain ⟨m, rfl⟩ := ai; rfl))
 have v := j.drew ai
 have x := n.drew ai
 have g := cW.drew ai
 have b1 := kt_ cX (kd_ ai)
 refine WH.tp 0 rfl (.mv rfl) ⟨(v).trans (j).symm, g, (x).trans (n).symm, tT⟩ rfl ?_
 refine WH.tp 1 rfl (.nck rfl) ⟨(v).trans (j).symm, g, (x).trans (n).symm, tT⟩ rfl ?_
 refine WH.tp 2 rfl (.fa u74_ rfl s69_ dD rfl) ⟨(v).trans (j).symm, g, (x).trans (n).symm, tT⟩ rfl ?_
 refine WH.tk 3 rfl (fun w' hw' => Rd.ld (g69_ _) rfl ((hw'.1).trans j) rfl) ⟨(v).trans (j).symm, g, (x).trans (n).symm, tT⟩ rfl ?_
 refine WH.tk 4 rfl (fun w' hw' => Rd.ldA rfl ((hw'.2.2.1).trans n) u57_ rfl isz57) ⟨(v).trans (j).symm, g, (x).trans (n).symm, tT⟩ rfl ?_
 refine WH.tp 5 rfl (.mv rfl) ⟨(v).trans (j).symm, g, (x).trans (n).symm, tT⟩ rfl ?_
 refine WH.tp 6 rfl (.ixm u133_ s57_ rfl rfl (g.isp (by first | omega | (simp only [List.length_cons, List.length_nil]; omega))) (0) (rfl) oO) ⟨(v).trans (j).symm, g, (x).trans (n).symm, tT⟩ rfl ?_
 refine WH.tk 7 rfl (fun w' hw' => Rd.ldS u57_ rfl isz57 (hw'.2.1) (0) (by first | omega | (simp only [List.length_cons, List.length_nil]; omega)) rfl) ⟨(v).trans (j).symm, g, (x).trans (n).symm, tT⟩ rfl ?_
 refine WH.tp 8 rfl (.mv rfl) ⟨(v).trans (j).symm, g, (x).trans (n).symm, tT⟩ rfl ?_
 refine WH.tp 9 rfl (.ixm u133_ s57_ rfl rfl (g.isp (by first | omega | (simp only [List.length_cons, List.length_nil]; omega))) (1) (rfl) oO) ⟨(v).trans (j).symm, g, (x).trans (n).symm, tT⟩ rfl ?_
 refine WH.tk 10 rfl (fun w' hw' => Rd.ldS u57_ rfl isz57 (hw'.2.1) (1) (by first | omega | (simp only [List.length_cons, List.length_nil]; omega)) rfl) ⟨(v).trans (j).symm, g, (x).trans (n).symm, tT⟩ rfl ?_
 refine WH.br1 11 rfl <| WL.c1 hB_ rfl rfl ((pth_Curve B pa 4096 vp V.path (curV V.path).1 ls[0] ls[1] _ (PthAt.ofN cY))) (fun ew aj => ?_)
 have bI := Blk.keepB v aj.1 v.lt (by simp only [List.mem_cons, List.not_mem_nil, or_false, not_or, not_false_eq_true]; omega)
 have bJ := Blk.keepB x aj.1 x.lt (by simp only [List.mem_cons, List.not_mem_nil, or_false, not_or, not_false_eq_true]; omega)
 have b2 := rk_ g aj.1 (fun f => ⟨g.lt f, by first | simpa using (E) f | (have q := (E) f; have q1 := g.lt f; simp only [List.mem_cons, List.not_mem_nil, or_false, not_or, not_false_eq_true]; omega)⟩)
 have bK := kt_ b1 (KeepB.wide aj.1 b1.size (by simp <;> omega))
 obtain ⟨v1, J, Y⟩ := aj.2
 have D := StN.of (Q := fun w => PthAt B w pa 4096 _ v1) J
 have K := Grew.mono Y b1.size
 refine WL.e <| ⟨⟨(bI).trans (j).symm, b2, (bJ).trans (n).symm, tT⟩, ?_⟩
 refine WH.br1 12 rfl <| WL.ce hB_ rfl rfl ((vw_step _ _)) (fun dX cz aI U => ?_) (fun ex cz aI U => ?_)
 have bW := kB bK U
 exact pn_is (ee_ dX (by rw [hD]; exact bind_err (step_errE aI)) (C _ bW))
 have cZ := ss_ (w1 := cz) D (fun k hk hl => U.block k hl)
 have c' := bI.bl U
 have d0 := bJ.bl U
 have d1 := rb_ b2 U (fun f => b2.lt f)
 have d2 := kB bK U
 rw [okPth, bind_ok (step_okE aI)] at hD
 refine WL.e <| ⟨⟨(c').trans (j).symm, d1, (d0).trans (n).symm, tT⟩, ?_⟩
 refine WH.done kR <| W.norm (W.ret0 rfl ?_)
 exact eo_ _ _ hD rfl ⟨rfl, aE hO hR d2 (PthAt.ofN cZ) K⟩
 have cJ := dF bm
 refine W.sr <| WL.O (.eqs rfl rfl) <| WL.Z rfl <| W.cond rfl (fun bn => ?_) (fun bn => ?_)
 have d3 := dT bn
 have X : op = [121] := by assumption
 have hD := draw_y (V := V) (args := args)
 rw [← X] at hD
 refine W.sr <| WL.M rfl <| WL.M rfl <| WL.cx hB_ rfl rfl ((vw_numV 4 (an).get ha oO)) (fun dY cA ak a6 => ?_) (fun dZ ey cA ak a6 => ?_)
 have bX := kB aa a6
 exact pn_is (ee_ dY (by rw [hD, bind_err ak]) (C _ bX))
 have d4 := ss_ (w1 := cA) ao (fun k hk hl => a6.1.block k hl)
 have bM := y.bl a6.1
 have b3 := kB aa a6.1
 obtain ⟨nl, rfl⟩ : ∃ l, l = dZ := ⟨_, rfl⟩
 obtain ⟨pn, cn, evn, ab, bt, ac, -⟩ := a6.2.row
 subst evn
 have bu := (numsV_ok ak).1
 have ad := ab.ofI
 rw [bind_ok ak] at hD
 refine WL.cx hB_ rfl rfl ((vw_leds bv ⟨s, fo, sa, pa, b8, it, lo, te, li, ar, itv⟩ pn nl cn 2 _ bM ad oO oO ac)) (fun d' bo N a7 => ?_) (fun e0 ez bo N a7 => ?_)
 have bY := kB b3 a7
 exact pn_is (ee_ d' (by rw [hc] at N; rw [hD]; exact bind_err N) (C _ bY))
 have d5 := ss_ (w1 := bo) d4 (fun k hk hl => a7.1.block k hl)
 have d := bM.bl a7.1
 have d6 := kB b3 a7.1
 obtain ⟨ls, rfl⟩ : ∃ l, l = e0 := ⟨_, rfl⟩
 obtain ⟨pl, cl, evl, t, P, aR, -⟩ := a7.2.row
 subst evl
 have G := ledsV_len (k := 2) oO N
 rw [hc] at N
 rw [bind_ok N, getDp G (i := 0) dD, getDp G (i := 1) dD] at hD
 have E : 0 < ls.length → w.heap.size ≤ (pA pl).block := fun f => nt_ b3.size (P _ (t.isp f))
 refine WL.Z rfl <| W.regH 15 rfl mixed (fun w' => w'.heap[bv]? = bo.heap[bv]? ∧ RowM pointL w' pl ls ∧ True) (fun e1 aB => ?_)
 have d7 := ss_ (w1 := e1) d5 (fun k hk hl => (by obtain ⟨m, rfl⟩ := aB; rfl))
 have o := d.drew aB
 have c := t.drew aB
 have b4 := kt_ d6 (kd_ aB)
 refine WH.tp 0 rfl (.mv rfl) ⟨(o).trans (d).symm, c, tT⟩ rfl ?_
 refine WH.tp 1 rfl (.nck rfl) ⟨(o).trans (d).symm, c, tT⟩ rfl ?_
 refine WH.tp 2 rfl (.fa u74_ rfl s69_ dD rfl) ⟨(o).trans (d).symm, c, tT⟩ rfl ?_
 refine WH.tk 3 rfl (fun w' hw' => Rd.ld (g69_ _) rfl ((hw'.1).trans d) rfl) ⟨(o).trans (d).symm, c, tT⟩ rfl ?_
 refine WH.tp 4 rfl (.mv rfl) ⟨(o).trans (d).symm, c, tT⟩ rfl ?_
 refine WH.tp 5 rfl (.ixm u133_ s57_ rfl rfl (c.isp (by first | omega | (simp only [List.length_cons, List.length_nil]; omega))) (0) (rfl) oO) ⟨(o).trans (d).symm, c, tT⟩ rfl ?_
 refine WH.tk 6 rfl (fun w' hw' => Rd.ldS u57_ rfl isz57 (hw'.2.1) (0) (by first | omega | (simp only [List.length_cons, List.length_nil]; omega)) rfl) ⟨(o).trans (d).symm, c, tT⟩ rfl ?_
 refine WH.tp 7 rfl (.mv rfl) ⟨(o).trans (d).symm, c, tT⟩ rfl ?_
 refine WH.tp 8 rfl (.ixm u133_ s57_ rfl rfl (c.isp (by first | omega | (simp only [List.length_cons, List.length_nil]; omega))) (1) (rfl) oO) ⟨(o).trans (d).symm, c, tT⟩ rfl ?_
 refine WH.tk 9 rfl (fun w' hw' => Rd.ldS u57_ rfl isz57 (hw'.2.1) (1) (by first | omega | (simp only [List.length_cons, List.length_nil]; omega)) rfl) ⟨(o).trans (d).symm, c, tT⟩ rfl ?_
 refine WH.tp 10 rfl (.mv rfl) ⟨(o).trans (d).symm, c, tT⟩ rfl ?_
 refine WH.tp 11 rfl (.ixm u133_ s57_ rfl rfl (c.isp (by first | omega | (simp only [List.length_cons, List.length_nil]; omega))) (1) (rfl) oO) ⟨(o).trans (d).symm, c, tT⟩ rfl ?_
 refine WH.tk 12 rfl (fun w' hw' => Rd.ldS u57_ rfl isz57 (hw'.2.1) (1) (by first | omega | (simp only [List.length_cons, List.length_nil]; omega)) rfl) ⟨(o).trans (d).symm, c, tT⟩ rfl ?_
 refine WH.br1 13 rfl <| WL.c1 hB_ rfl rfl ((pth_Curve B pa 4096 vp V.path ls[0] ls[1] ls[1] _ (PthAt.ofN d7))) (fun eA aC => ?_)
 have bN := Blk.keepB o aC.1 o.lt (by simp only [List.mem_cons, List.not_mem_nil, or_false, not_or, not_false_eq_true]; omega)
 have b5 := rk_ c aC.1 (fun f => ⟨c.lt f, by first | simpa using (E) f | (have q := (E) f; have q1 := c.lt f; simp only [List.mem_cons, List.not_mem_nil, or_false, not_or, not_false_eq_true]; omega)⟩)
 have bO := kt_ b4 (KeepB.wide aC.1 b4.size (by simp <;> omega))
 obtain ⟨v1, J, Y⟩ := aC.2
 have D := StN.of (Q := fun w => PthAt B w pa 4096 _ v1) J
 have K := Grew.mono Y b4.size
 refine WL.e <| ⟨⟨(bN).trans (d).symm, b5, tT⟩, ?_⟩
 refine WH.br1 14 rfl <| WL.ce hB_ rfl rfl ((vw_step _ _)) (fun e2 cB aJ a9 => ?_) (fun eB cB aJ a9 => ?_)
 have bZ := kB bO a9
 exact pn_is (ee_ e2 (by rw [hD]; exact bind_err (step_errE aJ)) (C _ bZ))
 have d8 := ss_ (w1 := cB) D (fun k hk hl => a9.block k hl)
 have d9 := bN.bl a9
 have da := rb_ b5 a9 (fun f => b5.lt f)
 have db := kB bO a9
 rw [okPth, bind_ok (step_okE aJ)] at hD
 refine WL.e <| ⟨⟨(d9).trans (d).symm, da, tT⟩, ?_⟩
 refine WH.done kR <| W.norm (W.ret0 rfl ?_)
 exact eo_ _ _ hD rfl ⟨rfl, aE hO hR db (PthAt.ofN d8) K⟩
 have d3 := dF bn
 refine W.sr <| WL.O (.eqs rfl rfl) <| WL.Z rfl <| W.cond rfl (fun bp => ?_) (fun bp => ?_)
 have dc := dT bp
 have X : op = [104] := by assumption
 have hD := draw_h (V := V) (args := args)
 rw [← X] at hD
 refine W.sr <| WL.M rfl <| WL.cx hB_ rfl rfl ((vw_numV 0 (an).get ha oO)) (fun e3 cC aK am => ?_) (fun eC eD cC aK am => ?_)
 have b' := kB aa am
 exact pn_is (ee_ e3 (by rw [hD, bind_err aK]) (C _ b'))
 have dd := ss_ (w1 := cC) ao (fun k hk hl => am.1.block k hl)
 have de := y.bl am.1
 have b6 := kB aa am.1
 rw [bind_ok aK] at hD
 refine WL.e <| W.reg <| WL.M rfl <| WL.O (.nck rfl) <| WL.O (.fa u74_ rfl s69_ dD rfl) <| WL.R (Rd.ld (g69_ _) rfl de rfl) <| WL.c1 hB_ rfl rfl ((pth_Close B pa 4096 vp V.path _ (PthAt.ofN dd))) (fun eF bP => ?_)
 have bQ := kt_ b6 (KeepB.wide bP.1 b6.size (by simp <;> omega))
 obtain ⟨v1, J, Y⟩ := bP.2
 have D := StN.of (Q := fun w => PthAt B w pa 4096 _ v1) J
 have K := Grew.mono Y b6.size
 refine WL.ce hB_ rfl rfl ((vw_step _ _)) (fun e4 cD aL aD => ?_) (fun eG cD aL aD => ?_)
 have c0 := kB bQ aD
 exact pn_is (ee_ e4 (by rw [hD]; exact bind_err (step_errE aL)) (C _ c0))
 have df := ss_ (w1 := cD) D (fun k hk hl => aD.block k hl)
 have dg := kB bQ aD
 rw [okPth, bind_ok (step_okE aL)] at hD
 refine WL.e <| W.norm (W.ret0 rfl ?_)
 exact eo_ _ _ hD rfl ⟨rfl, aE hO hR dg (PthAt.ofN df) K⟩
 have dc := dF bp
 have hD := draw_re (V := V) (args := args) (op := op) aS aS aS aS aS aS
 refine W.reg <| WL.M rfl <| WL.cx hB_ rfl rfl ((vw_rectangle f ha y hP hc c2)) (fun e5 e6 aM b7 => ?_) (fun eH eI e6 aM b7 => ?_)
 exact pn_is (ee_ e5 (by rw [hD, okPth, bind_err aM]) b7)
 obtain ⟨rfl, hK, v1, J, K⟩ := b7
 rw [okPth, bind_ok aM] at hD
 refine WL.e <| W.norm (W.ret0 rfl ?_)
 exact eo_ _ _ hD rfl ⟨rfl, aE hO hR hK J K⟩
end
end
section
structure LcR (w : World) (S : Nat → Prop) (l : List ClipV) : Prop where
 all : ∀ y ∈ l, Row3 segL S w y.pfPath y.fPath y.cfPath
theorem LcR.nil (w : World) (S : Nat → Prop) : LcR w S [] := ⟨fun y hy => by cases hy⟩
theorem LcR.same {w w1 : World} {S : Nat → Prop} {l : List ClipV} (h : LcR w S l) (hb : ∀ k, S k → k < w.heap.size → w1.heap[k]? = w.heap[k]?) : LcR w1 S l :=
 ⟨fun y hy => ⟨(h.all y hy).row.same fun h0 => hb _ ((h.all y hy).inn h0) ((h.all y hy).row.lt h0), (h.all y hy).sl, (h.all y hy).inn⟩⟩
theorem LcR.mono {w : World} {S T : Nat → Prop} {l : List ClipV} (h : LcR w S l) (hT : ∀ k, S k → k < w.heap.size → T k) : LcR w T l :=
 ⟨fun y hy => ⟨(h.all y hy).row, (h.all y hy).sl, fun h0 => hT _ ((h.all y hy).inn h0) ((h.all y hy).row.lt h0)⟩⟩
theorem LcR.grow {w w1 : World} {S T : Nat → Prop} {l : List ClipV} (h : LcR w S l) (hb : ∀ k, S k → k < w.heap.size → w1.heap[k]? = w.heap[k]?) (hT : ∀ k, S k → k < w.heap.size → T k) : LcR w1 T l :=
 ((h.mono (T := fun k => S k ∧ k < w.heap.size) (fun k hk hl => ⟨hk, hl⟩)).same (fun k hk _ => hb k hk.1 hk.2)).mono (fun k hk _ => hT k hk.1 hk.2)
theorem LcR.app {w : World} {S : Nat → Prop} {l r : List ClipV} (h : LcR w S l) (h2 : LcR w S r) : LcR w S (l ++ r) := ⟨fun y hy => (List.mem_append.1 hy).elim (h.all y) (h2.all y)⟩
theorem inf44 : (Tryz.prog.info? 44).map (fun i => (i.zero, i.size, i.bytes)) = some (some (.agg (itemV ⟨0, none, [], 0, col0 0, none, [], 0, penZ, 0, 0, 0, 0, 0, 0, 0, none, [], 0⟩).toArray), 22, 240) := by kernel_rfl
theorem clipsB_len {l : List ClipV} (h : clipsB (l.map clipE) = true) : l.length ≤ 16 ∧ ∀ y ∈ l, y.fPath.length ≤ 4096 := by
 unfold clipsB at h
 rw [Bool.and_eq_true, decide_eq_true_eq, List.length_map] at h
 refine ⟨by omega, fun y hy => ?_⟩
 have a := List.all_eq_true.1 h.2 _ (List.mem_map.2 ⟨y, hy, rfl⟩)
 unfold clipB pathB at a
 simp only [Bool.and_eq_true, decide_eq_true_eq] at a
 exact a.2.1
def itC (x : ItemV) (p : Option Addr) (l : List ClipV) (c : Nat) : ItemV := { x with pfClips := p, fClips := l, cfClips := c }
section
variable {B : Nat} {fs : Fcx} {w w1 : World} {bv : Nat} {F : Nat → Prop} {V : Vw} {args : List PV}
set_option maxHeartbeats 3200000 in
theorem vw_add (x : ItemV) (h : Vwr B fs w bv F V args) (hsn : SndS V.s) (hi : ItemR (Frz fs.c F w) w x) (hcl : x.pfClips = none ∧ x.fClips = [] ∧ x.cfClips = 0) :
  Calls Tryz.prog 101 #[.pointer (some ⟨bv, 0, none⟩), .agg (itemV x).toArray] w (VwE B fs bv F w (addV V { itemE x with fClips := V.s.clips }) args) := by
 obtain ⟨bw, c9⟩ := h.base
 obtain ⟨H, vp, its, hs, cs, rfl, hO, hR⟩ := h.mem
 have a7 := hO.blk
 have a8 := hO.oi
 obtain ⟨pvc, cvc, lc, evc, em, aM, ca⟩ := hR.st.clips
 obtain ⟨fU, cb⟩ := clipsB_len (ca ▸ hsn.clips)
 obtain ⟨⟨ctm, fi, sk, pe, clv, fn, sz⟩, fo, sa, pa, U, X, lo, te, li, ar, itv⟩ := H
 simp only at evc
 subst evc
 obtain ⟨pit, cit, eit, -, -, g1, -, -, g2, -⟩ := a8.row
 simp only at eit
 subst eit
 have g3 := a7.lt
 have j := a8.lt
 have g9 : its.length = V.items.length := by rw [← hR.it, List.length_map]
 have en := two_ty a8 a7.ty
 have fv : ∀ w1, KeepB w.heap.size [bv, vb (.slice pit its.length cit) bv] w w1 → Below B w w1 := fun w1 hK => hK.below c9 (fun k hk => by
  simp only [List.mem_cons, List.not_mem_nil, or_false] at hk; rcases hk with rfl | rfl; exact bw; rcases vb_or (.slice pit its.length cit) bv with d | d; rw [d]; exact bw; exact (j _ d).1)
 have cc : ∀ g, Frz fs.c (VwF bv ⟨⟨ctm, fi, sk, pe, .slice pvc lc.length cvc, fn, sz⟩, fo, sa, pa, U, X, lo, te, li, ar, .slice pit its.length cit⟩ vp) w g → g < w.heap.size ∧ g ∉ [bv, vb (.slice pit its.length cit) bv] := fun g hg => ⟨hg.1, fun hm => hg.2.1 ((two_F (N := w.heap.size) (v := .slice pit its.length cit) (F := VwF bv ⟨⟨ctm, fi, sk, pe, .slice pvc lc.length cvc, fn, sz⟩, fo, sa, pa, U, X, lo, te, li, ar, .slice pit its.length cit⟩ vp) (fun g hg => .inr (.inr (.inr (.inl hg)))) (.inl rfl) g hm).elim id (fun h => ab_ hg.1 oO))⟩
 have ex : ∀ {w1 : World}, KeepB w.heap.size [bv, vb (.slice pit its.length cit) bv] w w1 → RowM clipL w1 pvc lc := fun hK => rk_ em.row hK (fun h0 => cc _ (em.inn h0))
 have d0 := c9
 refine W.e func101 rfl ntmps101 bL ?_
 have eo := KeepB.refl w.heap.size ([bv, vb (.slice pit its.length cit) bv]) w
 refine W.sr <| WL.box rfl rfl (fun G ga cd ey aN g4 => ?_)
 have ez := nt_ d0 aN.size
 have fw := on_ a8 cd aN
 have fx := bgl cd a7.lt
 have ep := a7.un aN fx
 have d1 := bge cd eo.size
 have eq := kt_ eo (kn_ aN d1)
 refine WL.e <| W.sr <| WL.M rfl <| WL.O (.nck rfl) <| WL.O (.fa u74_ rfl s29_ dD rfl) <| WL.R (Rd.ld (isAgg29 _) rfl ep rfl) <| WL.O (.lenS u29_ rfl) <| WL.O (.bis (decide (V.items.length < 4096)) (.lss rfl rfl) (by exact decide_eq_decide.2 oO)) <| WL.ce hB_ rfl rfl ((vw_room _ _)) (fun fy w9 bj av => ?_) (fun gb w9 bj av => ?_)
 have d2 := kB eq av
 exact pn_is (ee_ fy (by unfold addV; exact bind_err bj) (fv _ d2))
 have fV := nt_ ez av.size
 have eA := OwnM.below fw av
 have cf := ep.bl av
 have eB := ey.bl av
 have eC := kB eq av
 have bk := bj
 refine WL.e <| W.seq <| W.sr <| WL.M rfl <| WL.O (.nck rfl) <| WL.O (.fa u74_ rfl s68_ dD rfl) <| WL.O (.fa u68_ rfl s38_ dD rfl) <| WL.R (Rd.ld (g38_ _) rfl cf rfl) <| WL.O (.lenS u38_ rfl) <| WL.M rfl <| WL.e <| W.b <| W.loop (α := Option Addr × List ClipV × Nat × Nat) (fun t => [(0, .pointer (some ⟨bv, 0, none⟩)), (3, .pointer (some ⟨G, 0, none⟩)), (17, .slice pvc lc.length cvc), (18, .int .i64 (lc.length : Int)), (19, .int .i64 (t.2.2.2 : Int))]) (fun t w' => KeepB w.heap.size [bv, vb (.slice pit its.length cit) bv] w w' ∧ Blk w' bv (vwC ⟨⟨ctm, fi, sk, pe, .slice pvc lc.length cvc, fn, sz⟩, fo, sa, pa, U, X, lo, te, li, ar, .slice pit its.length cit⟩).toArray 74 ∧ Blk w' G (itemV (itC x t.1 t.2.1 t.2.2.1)).toArray 44 ∧ OwnM itemL 44 B w' (.slice pit its.length cit) its ∧ OwnM clipL 61 (G + 1) w' (.slice t.1 t.2.1.length t.2.2.1) t.2.1 ∧ LcR w' (fun k => G < k ∧ (Value.slice t.1 t.2.1.length t.2.2.1).ownBlock ≠ some k) t.2.1 ∧ t.2.2.2 ≤ lc.length ∧ t.2.1.map clipE = (lc.take t.2.2.2).map clipE) (fun t => lc.length - t.2.2.2) ((none, [], 0, 0)) ⟨rfl, rfl, rfl, rfl, rfl, tT⟩ (⟨eC, cf, by have h3 := eB; rw [show x = itC x none [] 0 by obtain ⟨q1, q2, q3⟩ := hcl; unfold itC; rw [← q1, ← q2, ← q3]] at h3; exact h3, eA, OwnM.nil _ _ _ _, LcR.nil _ _, nl_ _, rfl⟩) (fun t w1 hR => ?_)
 obtain ⟨⟨p1, L1, c1, i⟩, fz⟩ : ∃ u, u = t := ⟨t, rfl⟩
 subst fz
 obtain ⟨q1, q2, q3, q4, q5, q6, q7, q8⟩ := hR
 simp only at q3 q5 q6 q7 q8
 have cg := q3.lt
 have ci : B ≤ w1.heap.size := nt_ c9 q1.size
 have f := q5.lt
 have gc : L1.length = i := by have := congrArg List.length q8; rw [List.length_map, List.length_map, List.length_take] at this; omega
 have cj := ex q1
 have er : LcR w1 (fun k => k < w1.heap.size ∧ (G < k ∧ (Value.slice p1 L1.length c1).ownBlock ≠ some k)) L1 := q6.mono (fun k hk hl => ⟨hl, hk⟩)
 refine W.sr <| WL.O (.lss rfl rfl) <| WL.e <| W.seq <| W.cond rfl (fun ck => ?_) (fun ck => ?_)
 have eD := dT ck
 have a9 : i < lc.length := by first | omega | (simp only at *; omega)
 refine W.k <| W.seq <| W.b <| W.sr <| WL.O (.ixm u38_ s61_ rfl rfl (cj.isp (by first | omega | (simp only [List.length_cons, List.length_nil]; omega))) (i) (rfl) oO) <| WL.R (Rd.ldS u61_ rfl isz61 cj (i) (by first | omega | (simp only [List.length_cons, List.length_nil]; omega)) rfl) <| WL.al z61_ rfl (fun es eF aw d3 a1 fW => ?_)
 have d4 := nt_ cg a1.size
 have cl := on_ q5 aw a1
 have d5 := nt_ ci a1.size
 have eG := on_ q4 aw a1
 have eH := LcR.same (w1 := eF) er (fun k hk hl => a1.other k oO)
 have eI := bgl aw q2.lt
 have eJ := q2.un a1 eI
 have eK := bgl aw q3.lt
 have eL := q3.un a1 eK
 have cm := bge aw q1.size
 have eM := kt_ q1 (kn_ a1 cm)
 refine WL.stL rfl rfl d3 isz61 rfl rfl (fun et a a2 fX => ?_)
 have d6 := nt_ d4 a2.size
 have eN := ou_ cl a2 (fun g hg e => by first | (have := (cl).lt g hg; omega) | (have := f g hg; omega))
 have d7 := nt_ d5 a2.size
 have eO := ou_ eG a2 (fun g hg e => by first | (have := j g hg; omega) | (subst e; rcases HF _ hg with d | d <;> first | exact blk_sep a8 a7 dD _ d rfl | omega))
 have eP := LcR.same (w1 := et) eH (fun k hk hl => a2.other k (by first | ((try simp only) <;> omega) | (have := hk.1; ((try simp only) <;> omega))))
 have eQ := eJ.up a2
 have eR := eL.up a2
 have eS := kU eM a2
 refine WL.e <| W.regH 12 rfl mixed (fun w' => w'.heap[es]? = et.heap[es]? ∧ True) (fun fA a5 => ?_)
 have bx := Drew.le d6 a5
 have aO := OwnM.drew eN a5
 have bz := Drew.le d7 a5
 have cn := OwnM.drew eO a5
 have co := LcR.same (w1 := fA) eP (fun k hk hl => (by obtain ⟨m, rfl⟩ := a5; rfl))
 have cq := eQ.drew a5
 have ax := eR.drew a5
 have bm := a.drew a5
 have aP := kt_ eS (kd_ a5)
 have aK := And.intro (bm.trans a.symm) True.intro
 refine WH.tp 0 rfl (.fa u44_ rfl s38_ dD rfl) aK rfl ?_
 refine WH.tp 2 rfl (.fa u61_ rfl s34_ dD rfl) aK rfl ?_
 refine WH.tk 3 rfl (fun w' hw' => Rd.ld (g34_ _) rfl ((hw'.1).trans a) rfl) aK rfl ?_
 refine WH.tp 5 rfl (.fa u61_ rfl s4_ dD rfl) aK rfl ?_
 refine WH.tk 6 rfl (fun w' hw' => Rd.ld (isAgg4 _) rfl ((hw'.1).trans a) rfl) aK rfl ?_
 refine WH.br2 1 rfl 4 rfl ?_ ?_
 refine WL.R (Rd.ld (g38_ _) rfl ax rfl) <| WL.e <| ⟨aK, ?_⟩
 refine WH.br1 4 rfl <| WL.call hB_ rfl rfl ((lib_CloneSeg lc[i].pfPath lc[i].fPath lc[i].cfPath _ (rk_ (aM lc[i] (List.getElem_mem a9)).row aP (fun h0 => cc _ ((aM lc[i] (List.getElem_mem a9)).inn h0))) (nt_ (cb lc[i] (List.getElem_mem a9)) dD))) (fun xx cr a4 => ?_)
 have d8 := nt_ bx a4.1.size
 have eT := OwnM.below aO a4.1
 have d9 := nt_ bz a4.1.size
 have eU := OwnM.below cn a4.1
 have eV := LcR.same (w1 := cr) co (fun k hk hl => a4.1.block k hl)
 have ct := cq.bl a4.1
 have cu := ax.bl a4.1
 have aQ := bm.bl a4.1
 have cw := kB aP a4.1
 have hx := a4.2
 obtain ⟨xp, xc⟩ := xx
 have eW := (ax).lt
 obtain ⟨p5, c5, e5, cy⟩ := Row3.own (Z := fun k => k < cr.heap.size ∧ (G < k ∧ (Value.slice p1 L1.length c1).ownBlock ≠ some k)) hx (fun g hg => ⟨(hx.lt g hg).2, by have := (hx.lt g hg).1; omega, fun e => by have := (hx.lt g hg).1; have := (aO).lt g e; omega⟩)
 cases e5
 have bA : LcR cr _ [(⟨xp, lc[i].fPath, xc, lc[i].fEvenOdd⟩ : ClipV)] := ⟨fun y hy => by rw [List.mem_singleton.1 hy]; exact cy⟩
 refine WL.e <| ⟨⟨(aQ).trans (a).symm, tT⟩, ?_⟩
 refine WH.tp 7 rfl (.buildL (ps := _) blt61 rfl rfl rfl pS) ⟨(aQ).trans (a).symm, tT⟩ rfl ?_
 refine WH.br1 8 rfl <| WL.bslM (L := clipL) (ps := _) ([(⟨xp, lc[i].fPath, xc, lc[i].fEvenOdd⟩ : ClipV)]) u38_ s61_ z61_ rfl rfl rfl rfl rfl (by first | rfl | decide) rfl rfl (fun fB bn ao da J fY => ?_)
 have bB := nt_ d8 J.size
 have eX := on_ eT ao J
 have db := nt_ d9 J.size
 have cz := on_ eU ao J
 have eY := LcR.same (w1 := bn) eV (fun k hk hl => J.other k oO)
 have eZ := LcR.same (w1 := bn) bA (fun k hk hl => J.other k oO)
 have e' := bgl ao ct.lt
 have f0 := ct.un J e'
 have f1 := bgl ao cu.lt
 have f2 := cu.un J f1
 have f3 := bgl ao aQ.lt
 have cA := aQ.un J f3
 have cB := bge ao cw.size
 have cC := kt_ cw (kn_ J cB)
 have fC : fB ≤ bn.heap.size := by omega
 refine WL.e <| ⟨⟨(cA).trans (a).symm, tT⟩, ?_⟩
 refine WH.br1 9 rfl <| WL.appM u38_ inf61 rfl rfl rfl eX rfl (da).rowp (by simp only [List.length_cons, List.length_nil]; omega) (bB) rfl (fun h => ab_ h (lc_ _ _)) (fun eu ge aR bC a6 aT => ?_)
 have f4 := f0.grown a6 (fun e => by have := f _ e; omega)
 have f5 := f2.grown a6 (fun e => by have := f _ e; omega)
 have bo := cA.grown a6 (fun e => by have := f _ e; omega)
 have f6 := LcR.grow (T := fun k => k < w1.heap.size ∧ (G < k ∧ (eu).ownBlock ≠ some k)) eY (fun k hk hl => a6.block k hl (fun e => hk.2.2 e.symm)) (fun k hk hl => ⟨hk.1, hk.2.1, fun e => by rcases aT k e with h | h; exact hk.2.2 h; omega⟩)
 have f7 := LcR.grow (T := fun k => True ∧ (G < k ∧ (eu).ownBlock ≠ some k)) eZ (fun k hk hl => a6.block k hl (fun e => hk.2.2 e.symm)) (fun k hk hl => ⟨trivial, hk.2.1, fun e => by rcases aT k e with h | h; exact hk.2.2 h; omega⟩)
 have f8 := OwnM.same cz (fun g hg => a6.block g ((cz).lt g hg).2 (fun hx => by have d := j g hg; have h2 := f g hx.symm; omega))
 have dc := nt_ db bC.size
 have f9 := kt_ cC (KeepB.of_grown a6 (fun g hg => .inr (by have := f g hg; omega)) cC.size)
 have dd := nt_ bB bC.size
 obtain ⟨pv, cv, evv, -⟩ := (aR).row
 subst evv
 refine WL.e <| ⟨⟨(bo).trans (a).symm, tT⟩, ?_⟩
 refine WH.tp 10 rfl (.fa u44_ rfl s38_ dD rfl) ⟨(bo).trans (a).symm, tT⟩ rfl ?_
 refine WH.br1 11 rfl <| WL.stC (o := 7) ((itemV (itC x pv (L1 ++ [(⟨xp, lc[i].fPath, xc, lc[i].fEvenOdd⟩ : ClipV)]) cv)).toArray) s38_ rfl (rfl) rfl (rfl) f5 bL (rfl) (fun cD aU C fZ => ?_)
 have aU : Blk cD G _ _ := aU
 have C : Upd G _ _ := C
 have f' := nt_ dd C.size
 have fb := ou_ aR C (fun g hg e => by first | (have := (aR).lt g hg; omega) | (have := f g hg; omega))
 have g0 := nt_ dc C.size
 have fc := ou_ f8 C (fun g hg e => by first | (have := j g hg; omega) | (subst e; rcases aT _ hg with d | d <;> first | exact blk_sep a8 a7 dD _ d rfl | omega))
 have fd := LcR.same (w1 := cD) f6 (fun k hk hl => C.other k (by have := hk.2.1; omega))
 have fe := LcR.same (w1 := cD) f7 (fun k hk hl => C.other k (by have := hk.2.1; omega))
 have ff := f4.up C
 have fg := bo.up C
 have de := kU f9 C
 refine WL.e <| ⟨⟨(fg).trans (a).symm, tT⟩, ?_⟩
 refine WH.done kR <| W.reg <| WL.O (.iis (((i + 1 : Nat) : Int)) (.add rfl rfl (i64w (by (try simp only) <;> omega))) oM) <| WL.M rfl <| WL.e <| ?_
 exact ⟨(pv, L1 ++ [(⟨xp, lc[i].fPath, xc, lc[i].fEvenOdd⟩ : ClipV)], cv, i + 1), ⟨rfl, rfl, rfl, rfl, rfl, tT⟩, ⟨de, ff, aU, fc, fb, ((fd).mono (fun k hk _ => hk.2)).app ((fe).mono (fun k hk _ => hk.2)), by ((try simp only) <;> omega), by rw [List.map_append, q8, List.take_succ_eq_append_getElem a9, List.map_append]; rfl⟩, by ((try simp only) <;> omega)⟩
 refine WL.call hB_ rfl rfl ((lib_CloneSeg lc[i].pfPath lc[i].fPath lc[i].cfPath _ (rk_ (aM lc[i] (List.getElem_mem a9)).row aP (fun h0 => cc _ ((aM lc[i] (List.getElem_mem a9)).inn h0))) (nt_ (cb lc[i] (List.getElem_mem a9)) dD))) (fun xx bp K => ?_)
 have b3 := nt_ bx K.1.size
 have bD := OwnM.below aO K.1
 have b4 := nt_ bz K.1.size
 have bE := OwnM.below cn K.1
 have bG := LcR.same (w1 := bp) co (fun k hk hl => K.1.block k hl)
 have ap := cq.bl K.1
 have ah := ax.bl K.1
 have ai := bm.bl K.1
 have aq := kB aP K.1
 have hx := K.2
 obtain ⟨xp, xc⟩ := xx
 have eW := (ax).lt
 obtain ⟨p5, c5, e5, cy⟩ := Row3.own (Z := fun k => k < bp.heap.size ∧ (G < k ∧ (Value.slice p1 L1.length c1).ownBlock ≠ some k)) hx (fun g hg => ⟨(hx.lt g hg).2, by have := (hx.lt g hg).1; omega, fun e => by have := (hx.lt g hg).1; have := (aO).lt g e; omega⟩)
 cases e5
 have bA : LcR bp _ [(⟨xp, lc[i].fPath, xc, lc[i].fEvenOdd⟩ : ClipV)] := ⟨fun y hy => by rw [List.mem_singleton.1 hy]; exact cy⟩
 refine WL.e <| ?_
 have cE := And.intro (ai.trans a.symm) True.intro
 refine ⟨cE, ?_⟩
 refine WH.tp 7 rfl (.buildL (ps := _) blt61 rfl rfl rfl pS) cE rfl ?_
 refine WH.br2 1 rfl 8 rfl ?_ ?_
 refine WL.R (Rd.ld (g38_ _) rfl ah rfl) <| WL.e <| ⟨cE, ?_⟩
 refine WH.br1 8 rfl <| WL.bslM (L := clipL) (ps := _) ([(⟨xp, lc[i].fPath, xc, lc[i].fEvenOdd⟩ : ClipV)]) u38_ s61_ z61_ rfl rfl rfl rfl rfl (by first | rfl | decide) rfl rfl (fun fh aV ad cF q fD => ?_)
 have b5 := nt_ b3 q.size
 have df := on_ bD ad q
 have cG := nt_ b4 q.size
 have bH := on_ bE ad q
 have dg := LcR.same (w1 := aV) bG (fun k hk hl => q.other k oO)
 have dh := LcR.same (w1 := aV) bA (fun k hk hl => q.other k oO)
 have di := bgl ad ap.lt
 have dj := ap.un q di
 have dk := bgl ad ah.lt
 have dl := ah.un q dk
 have dm := bgl ad ai.lt
 have bI := ai.un q dm
 have c4 := bge ad aq.size
 have bJ := kt_ aq (kn_ q c4)
 have fq : fh ≤ aV.heap.size := by omega
 refine WL.e <| ⟨⟨(bI).trans (a).symm, tT⟩, ?_⟩
 refine WH.br1 9 rfl <| WL.appM u38_ inf61 rfl rfl rfl df rfl (cF).rowp (by simp only [List.length_cons, List.length_nil]; omega) (b5) rfl (fun h => ab_ h (lc_ _ _)) (fun cH g5 ay b6 Y az => ?_)
 have dn := dj.grown Y (fun e => by have := f _ e; omega)
 have dp := dl.grown Y (fun e => by have := f _ e; omega)
 have aW := bI.grown Y (fun e => by have := f _ e; omega)
 have dq := LcR.grow (T := fun k => k < w1.heap.size ∧ (G < k ∧ (cH).ownBlock ≠ some k)) dg (fun k hk hl => Y.block k hl (fun e => hk.2.2 e.symm)) (fun k hk hl => ⟨hk.1, hk.2.1, fun e => by rcases az k e with h | h; exact hk.2.2 h; omega⟩)
 have dr := LcR.grow (T := fun k => True ∧ (G < k ∧ (cH).ownBlock ≠ some k)) dh (fun k hk hl => Y.block k hl (fun e => hk.2.2 e.symm)) (fun k hk hl => ⟨trivial, hk.2.1, fun e => by rcases az k e with h | h; exact hk.2.2 h; omega⟩)
 have ds := OwnM.same bH (fun g hg => Y.block g ((bH).lt g hg).2 (fun hx => by have d := j g hg; have h2 := f g hx.symm; omega))
 have cI := nt_ cG b6.size
 have dt := kt_ bJ (KeepB.of_grown Y (fun g hg => .inr (by have := f g hg; omega)) bJ.size)
 have cJ := nt_ b5 b6.size
 obtain ⟨pv, cv, evv, -⟩ := (ay).row
 subst evv
 refine WL.e <| ⟨⟨(aW).trans (a).symm, tT⟩, ?_⟩
 refine WH.tp 10 rfl (.fa u44_ rfl s38_ dD rfl) ⟨(aW).trans (a).symm, tT⟩ rfl ?_
 refine WH.br1 11 rfl <| WL.stC (o := 7) ((itemV (itC x pv (L1 ++ [(⟨xp, lc[i].fPath, xc, lc[i].fEvenOdd⟩ : ClipV)]) cv)).toArray) s38_ rfl (rfl) rfl (rfl) dp bL (rfl) (fun bq aA l fE => ?_)
 have aA : Blk bq G _ _ := aA
 have l : Upd G _ _ := l
 have fF := nt_ cJ l.size
 have du := ou_ ay l (fun g hg e => by first | (have := (ay).lt g hg; omega) | (have := f g hg; omega))
 have fG := nt_ cI l.size
 have dv := ou_ ds l (fun g hg e => by first | (have := j g hg; omega) | (subst e; rcases az _ hg with d | d <;> first | exact blk_sep a8 a7 dD _ d rfl | omega))
 have dw := LcR.same (w1 := bq) dq (fun k hk hl => l.other k (by have := hk.2.1; omega))
 have dx := LcR.same (w1 := bq) dr (fun k hk hl => l.other k (by have := hk.2.1; omega))
 have dy := dn.up l
 have dz := aW.up l
 have dA := kU dt l
 refine WL.e <| ⟨⟨(dz).trans (a).symm, tT⟩, ?_⟩
 refine WH.done kR <| W.reg <| WL.O (.iis (((i + 1 : Nat) : Int)) (.add rfl rfl (i64w (by (try simp only) <;> omega))) oM) <| WL.M rfl <| WL.e <| ?_
 exact ⟨(pv, L1 ++ [(⟨xp, lc[i].fPath, xc, lc[i].fEvenOdd⟩ : ClipV)], cv, i + 1), ⟨rfl, rfl, rfl, rfl, rfl, tT⟩, ⟨dA, dy, aA, dv, du, ((dw).mono (fun k hk _ => hk.2)).app ((dx).mono (fun k hk _ => hk.2)), by ((try simp only) <;> omega), by rw [List.map_append, q8, List.take_succ_eq_append_getElem a9, List.map_append]; rfl⟩, by ((try simp only) <;> omega)⟩
 refine WL.bslM (L := clipL) (ps := _) ([(⟨xp, lc[i].fPath, xc, lc[i].fEvenOdd⟩ : ClipV)]) u38_ s61_ z61_ rfl rfl rfl rfl rfl (by first | rfl | decide) rfl rfl (fun fj aX ae cK A fH => ?_)
 have b7 := nt_ b3 A.size
 have dB := on_ bD ae A
 have cL := nt_ b4 A.size
 have bK := on_ bE ae A
 have dC := LcR.same (w1 := aX) bG (fun k hk hl => A.other k oO)
 have dE := LcR.same (w1 := aX) bA (fun k hk hl => A.other k oO)
 have dG := bgl ae ap.lt
 have dH := ap.un A dG
 have dI := bgl ae ah.lt
 have bM := ah.un A dI
 have dJ := bgl ae ai.lt
 have aY := ai.un A dJ
 have c6 := bge ae aq.size
 have bN := kt_ aq (kn_ A c6)
 have fr : fj ≤ aX.heap.size := by omega
 refine WL.e <| ⟨⟨(aY).trans (a).symm, tT⟩, ?_⟩
 refine WH.br1 1 rfl <| WL.R (Rd.ld (g38_ _) rfl bM rfl) <| WL.e <| ⟨⟨(aY).trans (a).symm, tT⟩, ?_⟩
 refine WH.br1 9 rfl <| WL.appM u38_ inf61 rfl rfl rfl dB rfl (cK).rowp (by simp only [List.length_cons, List.length_nil]; omega) (b7) rfl (fun h => ab_ h (lc_ _ _)) (fun cM g6 aB b8 a0 aC => ?_)
 have dK := dH.grown a0 (fun e => by have := f _ e; omega)
 have dL := bM.grown a0 (fun e => by have := f _ e; omega)
 have aZ := aY.grown a0 (fun e => by have := f _ e; omega)
 have dM := LcR.grow (T := fun k => k < w1.heap.size ∧ (G < k ∧ (cM).ownBlock ≠ some k)) dC (fun k hk hl => a0.block k hl (fun e => hk.2.2 e.symm)) (fun k hk hl => ⟨hk.1, hk.2.1, fun e => by rcases aC k e with h | h; exact hk.2.2 h; omega⟩)
 have dN := LcR.grow (T := fun k => True ∧ (G < k ∧ (cM).ownBlock ≠ some k)) dE (fun k hk hl => a0.block k hl (fun e => hk.2.2 e.symm)) (fun k hk hl => ⟨trivial, hk.2.1, fun e => by rcases aC k e with h | h; exact hk.2.2 h; omega⟩)
 have dO := OwnM.same bK (fun g hg => a0.block g ((bK).lt g hg).2 (fun hx => by have d := j g hg; have h2 := f g hx.symm; omega))
 have cN := nt_ cL b8.size
 have dP := kt_ bN (KeepB.of_grown a0 (fun g hg => .inr (by have := f g hg; omega)) bN.size)
 have cO := nt_ b7 b8.size
 obtain ⟨pv, cv, evv, -⟩ := (aB).row
 subst evv
 refine WL.e <| ⟨⟨(aZ).trans (a).symm, tT⟩, ?_⟩
 refine WH.tp 10 rfl (.fa u44_ rfl s38_ dD rfl) ⟨(aZ).trans (a).symm, tT⟩ rfl ?_
 refine WH.br1 11 rfl <| WL.stC (o := 7) ((itemV (itC x pv (L1 ++ [(⟨xp, lc[i].fPath, xc, lc[i].fEvenOdd⟩ : ClipV)]) cv)).toArray) s38_ rfl (rfl) rfl (rfl) dL bL (rfl) (fun bt aD n fI => ?_)
 have aD : Blk bt G _ _ := aD
 have n : Upd G _ _ := n
 have fJ := nt_ cO n.size
 have dQ := ou_ aB n (fun g hg e => by first | (have := (aB).lt g hg; omega) | (have := f g hg; omega))
 have fK := nt_ cN n.size
 have dR := ou_ dO n (fun g hg e => by first | (have := j g hg; omega) | (subst e; rcases aC _ hg with d | d <;> first | exact blk_sep a8 a7 dD _ d rfl | omega))
 have dS := LcR.same (w1 := bt) dM (fun k hk hl => n.other k (by have := hk.2.1; omega))
 have dU := LcR.same (w1 := bt) dN (fun k hk hl => n.other k (by have := hk.2.1; omega))
 have dV := dK.up n
 have dW := aZ.up n
 have dX := kU dP n
 refine WL.e <| ⟨⟨(dW).trans (a).symm, tT⟩, ?_⟩
 refine WH.done kR <| W.reg <| WL.O (.iis (((i + 1 : Nat) : Int)) (.add rfl rfl (i64w (by (try simp only) <;> omega))) oM) <| WL.M rfl <| WL.e <| ?_
 exact ⟨(pv, L1 ++ [(⟨xp, lc[i].fPath, xc, lc[i].fEvenOdd⟩ : ClipV)], cv, i + 1), ⟨rfl, rfl, rfl, rfl, rfl, tT⟩, ⟨dX, dV, aD, dR, dQ, ((dS).mono (fun k hk _ => hk.2)).app ((dU).mono (fun k hk _ => hk.2)), by ((try simp only) <;> omega), by rw [List.map_append, q8, List.take_succ_eq_append_getElem a9, List.map_append]; rfl⟩, by ((try simp only) <;> omega)⟩
 have eD := dF ck
 have a9 : i = lc.length := by first | omega | (simp only at *; omega)
 have ev : V.items.length < 4096 := by
  unfold roomV at bk
  split at bk; exact dT aS; cases bk
 have ew : L1.map clipE = V.s.clips := by rw [q8, a9, List.take_length]; exact ca
 refine W.exit <| W.regH 11 rfl mixed (fun w' => w'.heap[G]? = w1.heap[G]? ∧ True) (fun fk a3 => ?_)
 have b9 := Drew.le cg a3
 have bO := OwnM.drew q5 a3
 have ba := Drew.le ci a3
 have bP := OwnM.drew q4 a3
 have bQ := LcR.same (w1 := fk) er (fun k hk hl => (by obtain ⟨m, rfl⟩ := a3; rfl))
 have aj := q2.drew a3
 have ak := q3.drew a3
 have au := kt_ q1 (kd_ a3)
 have aL := And.intro (ak.trans q3.symm) True.intro
 refine WH.tp 0 rfl (.mv rfl) aL rfl ?_
 refine WH.tp 1 rfl (.mv rfl) aL rfl ?_
 refine WH.tp 2 rfl (.nck rfl) aL rfl ?_
 refine WH.tp 3 rfl (.fa u74_ rfl s29_ dD rfl) aL rfl ?_
 refine WH.tk 5 rfl (fun w' hw' => Rd.ldA rfl ((hw'.1).trans q3) u44_ rfl isz44) aL rfl ?_
 refine WH.br2 4 rfl 6 rfl ?_ ?_
 refine WL.R (Rd.ld (isAgg29 _) rfl aj rfl) <| WL.e <| ⟨aL, ?_⟩
 refine WH.br1 6 rfl <| WL.bslM (L := itemL) (ps := _) ([itC x p1 L1 c1]) u29_ sizeOf44 zeroValue44 rfl rfl rfl rfl rfl (by first | rfl | decide) rfl rfl (fun fl bR am cP P fL => ?_)
 have cQ := nt_ b9 P.size
 have bS := on_ bO am P
 have bb := nt_ ba P.size
 have dY := on_ bP am P
 have dZ := LcR.same (w1 := bR) bQ (fun k hk hl => P.other k oO)
 have d' := bgl am aj.lt
 have e0 := aj.un P d'
 have e1 := bgl am ak.lt
 have bT := ak.un P e1
 have c7 := bge am au.size
 have a' := kt_ au (kn_ P c7)
 have ft : fl ≤ bR.heap.size := by omega
 refine WL.e <| ⟨⟨(bT).trans (q3).symm, tT⟩, ?_⟩
 refine WH.br1 7 rfl <| WL.appM u29_ inf44 rfl rfl rfl dY rfl (cP).rowp (by simp only [List.length_cons, List.length_nil]; omega) (bb) rfl (fun h => ab_ h (lc_ _ _)) (fun af g7 bc bd aa aE => ?_)
 have e3 := e0.grown aa (fun e => blk_sep a8 a7 dD _ e rfl)
 have bU := bT.grown aa (fun e => by have := j _ e; omega)
 have e4 := LcR.grow (T := fun k => True ∧ (G < k ∧ (Value.slice p1 L1.length c1).ownBlock ≠ some k ∧ (af).ownBlock ≠ some k)) dZ (fun k hk hl => aa.block k hl (fun e => by have := j _ e.symm; have := hk.2.1; omega)) (fun k hk hl => ⟨trivial, hk.2.1, hk.2.2, fun e => by rcases aE k e with h | h; (have := j _ h; have := hk.2.1; omega); omega⟩)
 have bV := OwnM.same bS (fun g hg => aa.block g ((bS).lt g hg).2 (fun hx => by have d := j g hx.symm; have h2 := f g hg; omega))
 have cR := nt_ cQ bd.size
 have e6 := kt_ a' (KeepB.of_grown aa (fun g hg => .inl (by have hg : (Value.slice pit its.length cit).ownBlock = some g := hg; rw [vb_own hg]; simp)) a'.size)
 have cS := nt_ bb bd.size
 refine WL.e <| ?_
 have cT := And.intro (bU.trans q3.symm) True.intro
 refine ⟨cT, ?_⟩
 refine WH.tp 8 rfl (.nck rfl) cT rfl ?_
 refine WH.tp 9 rfl (.fa u74_ rfl s29_ dD rfl) cT rfl ?_
 refine WH.br1 10 rfl <| WL.stC (o := 44) ((vwC ⟨⟨ctm, fi, sk, pe, .slice pvc lc.length cvc, fn, sz⟩, fo, sa, pa, U, X, lo, te, li, ar, af⟩).toArray) s29_ rfl (rfl) rfl ((bc).one) e3 bL (rfl) (fun aF aG D fM => ?_)
 have aG : Blk aF bv _ _ := aG
 have D : Upd bv _ _ := D
 have fN := nt_ cR D.size
 have e7 := ou_ bV D (fun g hg e => by first | (have := (bV).lt g hg; omega) | (have := f g hg; omega))
 have fO := nt_ cS D.size
 have e8 := ou_ bc D (fun g hg e => by first | (have := j g hg; omega) | (subst e; rcases aE _ hg with d | d <;> first | exact blk_sep a8 a7 dD _ d rfl | omega))
 have e9 := LcR.same (w1 := aF) e4 (fun k hk hl => D.other k (by have := hk.2.1; omega))
 have ea := bU.up D
 have bW := kU e6 D
 refine WL.e <| ⟨⟨(ea).trans (q3).symm, tT⟩, ?_⟩
 refine WH.done kR <| W.norm (W.ret0 rfl ?_)
 have be := e8
 have ab := e7
 have cU := a'.size
 have fP := q3.lt
 have fm : w.heap.size ≤ G := by omega
 obtain ⟨-, r2, -, r4, r5⟩ := hO.rest bW _ en
 have hC : Chg (VwF bv ⟨⟨ctm, fi, sk, pe, .slice pvc lc.length cvc, fn, sz⟩, fo, sa, pa, U, X, lo, te, li, ar, .slice pit its.length cit⟩ vp) (VwF bv ⟨⟨ctm, fi, sk, pe, .slice pvc lc.length cvc, fn, sz⟩, fo, sa, pa, U, X, lo, te, li, ar, af⟩ vp) w aF := Chg.of_keep bW (two_F (fun g hg => .inr (.inr (.inr (.inl hg))))) (fun g hg => by
  rcases hg with d | d | d | d | d; exact .inl (.inl d); exact .inl (.inr (.inl d)); exact .inl (.inr (.inr (.inl d))); exact (aE g d).imp (fun h => .inr (.inr (.inr (.inl h)))) (fun h => nt_ cU h); exact .inl (.inr (.inr (.inr (.inr d)))))
 have bf : ∀ g, G < g → (af).ownBlock ≠ some g → ¬ VwF bv ⟨⟨ctm, fi, sk, pe, .slice pvc lc.length cvc, fn, sz⟩, fo, sa, pa, U, X, lo, te, li, ar, af⟩ vp g := fun g d h2 hf => by
  rcases hf with h | h | h | h | h; have := (hO.inn g (.inl h)).2; omega; have := (hO.inn g (.inr (.inl h))).2; omega; have := (hO.inn g (.inr (.inr (.inl h)))).2; omega; exact h2 h; have := (hO.inn g (.inr (.inr (.inr (.inr h))))).2; omega
 refine eo_ _ _ (show addV V _ = .ok { V with items := V.items ++ [_] } by unfold addV; rw [decide_eq_true ev]; rfl) rfl ⟨rfl, _, ⟨_, vp, its ++ [itC x p1 L1 c1], hs, cs, rfl, ⟨aG, r2 dD dD, be, r4 dD, r5 dD, bw, hO.lbp⟩, ?_⟩, hC⟩
 have m := Frz.mv (c := fs.c) hC
 have hq := hR.mv m
 obtain ⟨p2, c2, e2, cV⟩ := Row3.own (Z := Frz fs.c (VwF bv ⟨⟨ctm, fi, sk, pe, .slice pvc lc.length cvc, fn, sz⟩, fo, sa, pa, U, X, lo, te, li, ar, af⟩ vp) aF) ab (fun g hg => ⟨(ab.lt g hg).2, bf g (by have := (ab.lt g hg).1; omega) (own_sepV ab be dD g hg), by have := hR.cx; have := (ab.lt g hg).1; omega⟩)
 cases e2
 have bu := ((e9).mono (T := Frz fs.c (VwF bv ⟨⟨ctm, fi, sk, pe, .slice pvc lc.length cvc, fn, sz⟩, fo, sa, pa, U, X, lo, te, li, ar, af⟩ vp) aF) (fun k hk hl => ⟨hl, bf k hk.2.1 hk.2.2.2, by have := hR.cx; have := hk.2.1; omega⟩)).all
 refine { hq with it := ?_, itr := ?_ }
 rw [List.map_append, hq.it, ← ew]; rfl
 intro y hy
 rcases List.mem_append.1 hy with hy | hy
 exact hq.itr y hy
 rw [List.mem_singleton.1 hy]
 exact ⟨hi.path.mv m, cV, bu, hi.pen.mv m, hi.bytes.mv m⟩
 refine WL.bslM (L := itemL) (ps := _) ([itC x p1 L1 c1]) u29_ sizeOf44 zeroValue44 rfl rfl rfl rfl rfl (by first | rfl | decide) rfl rfl (fun fp bX an cW Q fQ => ?_)
 have cX := nt_ b9 Q.size
 have bY := on_ bO an Q
 have bg := nt_ ba Q.size
 have eb := on_ bP an Q
 have ec := LcR.same (w1 := bX) bQ (fun k hk hl => Q.other k oO)
 have ed := bgl an aj.lt
 have bZ := aj.un Q ed
 have ee := bgl an ak.lt
 have b0 := ak.un Q ee
 have c8 := bge an au.size
 have b2 := kt_ au (kn_ Q c8)
 have fu : fp ≤ bX.heap.size := by omega
 refine WL.e <| ⟨⟨(b0).trans (q3).symm, tT⟩, ?_⟩
 refine WH.br1 4 rfl <| WL.R (Rd.ld (isAgg29 _) rfl bZ rfl) <| WL.e <| ⟨⟨(b0).trans (q3).symm, tT⟩, ?_⟩
 refine WH.br1 7 rfl <| WL.appM u29_ inf44 rfl rfl rfl eb rfl (cW).rowp (by simp only [List.length_cons, List.length_nil]; omega) (bg) rfl (fun h => ab_ h (lc_ _ _)) (fun ag g8 bh bi ac aH => ?_)
 have ef := bZ.grown ac (fun e => blk_sep a8 a7 dD _ e rfl)
 have b' := b0.grown ac (fun e => by have := j _ e; omega)
 have eg := LcR.grow (T := fun k => True ∧ (G < k ∧ (Value.slice p1 L1.length c1).ownBlock ≠ some k ∧ (ag).ownBlock ≠ some k)) ec (fun k hk hl => ac.block k hl (fun e => by have := j _ e.symm; have := hk.2.1; omega)) (fun k hk hl => ⟨trivial, hk.2.1, hk.2.2, fun e => by rcases aH k e with h | h; (have := j _ h; have := hk.2.1; omega); omega⟩)
 have c0 := OwnM.same bY (fun g hg => ac.block g ((bY).lt g hg).2 (fun hx => by have d := j g hx.symm; have h2 := f g hg; omega))
 have cY := nt_ cX bi.size
 have eh := kt_ b2 (KeepB.of_grown ac (fun g hg => .inl (by have hg : (Value.slice pit its.length cit).ownBlock = some g := hg; rw [vb_own hg]; simp)) b2.size)
 have cZ := nt_ bg bi.size
 refine WL.e <| ?_
 have c' := And.intro (b'.trans q3.symm) True.intro
 refine ⟨c', ?_⟩
 refine WH.tp 8 rfl (.nck rfl) c' rfl ?_
 refine WH.tp 9 rfl (.fa u74_ rfl s29_ dD rfl) c' rfl ?_
 refine WH.br1 10 rfl <| WL.stC (o := 44) ((vwC ⟨⟨ctm, fi, sk, pe, .slice pvc lc.length cvc, fn, sz⟩, fo, sa, pa, U, X, lo, te, li, ar, ag⟩).toArray) s29_ rfl (rfl) rfl ((bh).one) ef bL (rfl) (fun aI aJ E fR => ?_)
 have aJ : Blk aI bv _ _ := aJ
 have E : Upd bv _ _ := E
 have fS := nt_ cY E.size
 have ei := ou_ c0 E (fun g hg e => by first | (have := (c0).lt g hg; omega) | (have := f g hg; omega))
 have fT := nt_ cZ E.size
 have ej := ou_ bh E (fun g hg e => by first | (have := j g hg; omega) | (subst e; rcases aH _ hg with d | d <;> first | exact blk_sep a8 a7 dD _ d rfl | omega))
 have ek := LcR.same (w1 := aI) eg (fun k hk hl => E.other k (by have := hk.2.1; omega))
 have el := b'.up E
 have c3 := kU eh E
 refine WL.e <| ⟨⟨(el).trans (q3).symm, tT⟩, ?_⟩
 refine WH.done kR <| W.norm (W.ret0 rfl ?_)
 have be := ej
 have ab := ei
 have cU := b2.size
 have fP := q3.lt
 have fm : w.heap.size ≤ G := by omega
 obtain ⟨-, r2, -, r4, r5⟩ := hO.rest c3 _ en
 have hC : Chg (VwF bv ⟨⟨ctm, fi, sk, pe, .slice pvc lc.length cvc, fn, sz⟩, fo, sa, pa, U, X, lo, te, li, ar, .slice pit its.length cit⟩ vp) (VwF bv ⟨⟨ctm, fi, sk, pe, .slice pvc lc.length cvc, fn, sz⟩, fo, sa, pa, U, X, lo, te, li, ar, ag⟩ vp) w aI := Chg.of_keep c3 (two_F (fun g hg => .inr (.inr (.inr (.inl hg))))) (fun g hg => by
  rcases hg with d | d | d | d | d; exact .inl (.inl d); exact .inl (.inr (.inl d)); exact .inl (.inr (.inr (.inl d))); exact (aH g d).imp (fun h => .inr (.inr (.inr (.inl h)))) (fun h => nt_ cU h); exact .inl (.inr (.inr (.inr (.inr d)))))
 have bf : ∀ g, G < g → (ag).ownBlock ≠ some g → ¬ VwF bv ⟨⟨ctm, fi, sk, pe, .slice pvc lc.length cvc, fn, sz⟩, fo, sa, pa, U, X, lo, te, li, ar, ag⟩ vp g := fun g d h2 hf => by
  rcases hf with h | h | h | h | h; have := (hO.inn g (.inl h)).2; omega; have := (hO.inn g (.inr (.inl h))).2; omega; have := (hO.inn g (.inr (.inr (.inl h)))).2; omega; exact h2 h; have := (hO.inn g (.inr (.inr (.inr (.inr h))))).2; omega
 refine eo_ _ _ (show addV V _ = .ok { V with items := V.items ++ [_] } by unfold addV; rw [decide_eq_true ev]; rfl) rfl ⟨rfl, _, ⟨_, vp, its ++ [itC x p1 L1 c1], hs, cs, rfl, ⟨aJ, r2 dD dD, be, r4 dD, r5 dD, bw, hO.lbp⟩, ?_⟩, hC⟩
 have m := Frz.mv (c := fs.c) hC
 have hq := hR.mv m
 obtain ⟨p2, c2, e2, cV⟩ := Row3.own (Z := Frz fs.c (VwF bv ⟨⟨ctm, fi, sk, pe, .slice pvc lc.length cvc, fn, sz⟩, fo, sa, pa, U, X, lo, te, li, ar, ag⟩ vp) aI) ab (fun g hg => ⟨(ab.lt g hg).2, bf g (by have := (ab.lt g hg).1; omega) (own_sepV ab be dD g hg), by have := hR.cx; have := (ab.lt g hg).1; omega⟩)
 cases e2
 have bu := ((ek).mono (T := Frz fs.c (VwF bv ⟨⟨ctm, fi, sk, pe, .slice pvc lc.length cvc, fn, sz⟩, fo, sa, pa, U, X, lo, te, li, ar, ag⟩ vp) aI) (fun k hk hl => ⟨hl, bf k hk.2.1 hk.2.2.2, by have := hR.cx; have := hk.2.1; omega⟩)).all
 refine { hq with it := ?_, itr := ?_ }
 rw [List.map_append, hq.it, ← ew]; rfl
 intro y hy
 rcases List.mem_append.1 hy with hy | hy
 exact hq.itr y hy
 rw [List.mem_singleton.1 hy]
 exact ⟨hi.path.mv m, cV, bu, hi.pen.mv m, hi.bytes.mv m⟩
end
end
section
section
variable {P : Program} {n : Sh} {f : Fr}
theorem WL.cpv {ops : Array Oper} {Q : Exit → Fr → World → Prop} {w : World} {rest : List Oper} {d : Option Tmp} {ty : Nat} {pos : String} {aft : Array Edge} {F : FuncId} {x : Operand} {first cap args : Array Value} {xs : List Operand} {ats : Array TypeId} {vs : List Value}
  {ch : List PanicEntry} {S : World → Prop} (hb : HasBody P F) (hf : evo f x = some (.func (.func F) first cap)) (hx : evs f xs = some vs) (ha : first ++ vs.toArray ++ cap = args)
  (hc : Calls P F args w fun e w' => e = .panicked ch ∧ S w') (k : ∀ w', S w' → Q (.panic ch) f w') :
  WL P n ops Q (⟨d, .call ⟨.value x, xs.toArray, ats⟩, ty, pos, aft, none⟩ :: rest) f w := by
 unfold WL at *
 intro a ha'
 refine wpList_plain rfl fun K hK => ?_
 unfold Oper.wp
 rw [run_callV hb ha'.agr hf hx ha, Oper.upon_enter]
 refine hc.mono ?_
 rintro e w' ⟨rfl, hS⟩
 exact ⟨f, ha', k w' hS⟩
theorem WL.cev {ops : Array Oper} {Q : Exit → Fr → World → Prop} {w : World} {rest : List Oper} {d ty : Nat} {pos : String} {aft : Array Edge} {F : FuncId} {x : Operand} {first cap args : Array Value} {xs : List Operand} {ats : Array TypeId} {vs : List Value} {α : Type}
  {E : TypeId} {res : Except Int α} {V : α → Value} {S : α → World → Prop} {S' : World → Prop} (hb : HasBody P F) (hf : evo f x = some (.func (.func F) first cap)) (hx : evs f xs = some vs) (ha : first ++ vs.toArray ++ cap = args) (hd : Nat.blt d n.n = true)
  (hc : Calls P F args w (Ends E res V S S')) (herr : ∀ k w', res = .error k → S' w' → Q (.panic [{ v := .iface E (.int .i64 k), recovered := false }]) f w')
  (hok : ∀ a w', res = .ok a → S a w' → WL P n ops Q rest ((d, V a) :: f) w') : WL P n ops Q (⟨some d, .call ⟨.value x, xs.toArray, ats⟩, ty, pos, aft, none⟩ :: rest) f w := by
 cases hres : res with
 | ok a => exact WL.cv1 hb hf hx ha hd (hc.mono fun e w' h => by rw [hres] at h; exact h) fun w' h => hok a w' hres h
 | error k => exact WL.cpv hb hf hx ha (hc.mono fun e w' h => by rw [hres] at h; exact h) fun w' h => herr k w' hres h
end
theorem vw_times (b n : Int) (c : Nat) (w : World) (h : Blk w c #[.int .i64 b] 3) :
  Calls Tryz.prog 148 #[.int .i64 n, .pointer (some ⟨c, 0, none⟩)] w (EndB w (timesV b n) fun x => .int .i64 x) := by
 refine W.e func148 rfl ntmps148 bL ?_
 have i := br_ (w.heap.size) w
 refine W.sr <| WL.Z rfl <| W.sr <| WL.M rfl <| WL.R (Rd.ld (g3_ _) rfl h rfl) <| WL.c1 hB_ rfl rfl ((fix_Mul n b _)) (fun o j => ?_)
 have a := btr i j
 simp only [pairI]
 refine WL.M rfl <| WL.O (.ext rfl rfl) <| WL.O (.ext rfl rfl) <| WL.A rfl <| WL.Z rfl <| W.sr <| WL.M rfl <| WL.ce hB_ rfl rfl ((vw_must _ _)) (fun l m d f => ?_) (fun q m d f => ?_)
 have g := bt_ a (Below.mono f a.size)
 exact pn_is (Ends.err l (by unfold timesV; exact must_err d) g)
 have k := btr a f
 refine WL.e <| W.sr <| WL.M rfl <| WL.Z rfl <| W.ret (W.r1 rfl rfl ?_)
 exact Ends.ok _ (by unfold timesV; rw [if_pos (must_ok aS)]) rfl k
theorem times_fits {b n x : Int} (h : timesV b n = .ok x) : -2147483648 ≤ x ∧ x ≤ 2147483647 := by rw [times_ok h]; exact fitsI (mulR_fits _ _)
def penW (p : PenV) (w ph : Int) (q : Option Addr) (l : List Int) (c : Nat) : PenV := { p with fWidth := w, fPhase := ph, pfDash := q, fDash := l, cfDash := c }
theorem foldF_le : ∀ (l : List Int) (a : Int), (∀ x ∈ l, -2147483648 ≤ x ∧ x ≤ 2147483647) → a - 2147483648 * (l.length : Int) ≤ l.foldl (· + ·) a ∧ l.foldl (· + ·) a ≤ a + 2147483647 * (l.length : Int)
 | [], a, _ => by simp
 | x :: l, a, h => by
  have h1 := h x (by simp)
  have h2 := foldF_le l (a + x) fun y hy => h y (List.mem_cons_of_mem _ hy)
  rw [List.foldl_cons, List.length_cons]
  omega
theorem sumF_le {l : List Int} (h : ∀ x ∈ l, -2147483648 ≤ x ∧ x ≤ 2147483647) : -2147483648 * (l.length : Int) ≤ sumL l ∧ sumL l ≤ 2147483647 * (l.length : Int) := by
 have := foldF_le l 0 h
 unfold sumL
 omega
def scaledW (c : M6) (p : PenV) : Except Int PenV :=
 scaleE c >>= fun b => timesV b p.fWidth >>= fun w => timesV b p.fPhase >>= fun ph => timesL b p.fDash >>= fun d => .ok (if sumL d = 0 ∧ d.length > 0 then penE (penW p w 0 none [] 0) else penE (penW p w ph none d 0))
theorem scaledW_V {s : VwS} {p : PenV} (h : penE p = s.pen) : scaledV s = scaledW s.ctm p := by
 unfold scaledV scaledW
 rw [← h]
 rfl
theorem timesL_step {α : Type} {b : Int} {L : List Int} {i : Nat} (h : i < L.length) (f : List Int → Except Int α) : (timesL b (L.drop i) >>= f) = (timesV b L[i] >>= fun x => timesL b (L.drop (i + 1)) >>= fun d => f (x :: d)) := by
 rw [List.drop_eq_getElem_cons h]
 show ((timesV b L[i] >>= fun x => timesL b (L.drop (i + 1)) >>= fun l => pure (x :: l)) >>= f) = _
 cases timesV b L[i] with
 | error k => rfl
 | ok x =>
  show ((timesL b (L.drop (i + 1)) >>= fun l => pure (x :: l)) >>= f) = (timesL b (L.drop (i + 1)) >>= fun d => f (x :: d))
  cases timesL b (L.drop (i + 1)) <;> rfl
section
variable {w : World} {bv : Nat}
set_option maxHeartbeats 3200000 in
theorem vw_scaled {H : VwH} {p : PenV} {Z : Nat → Prop} (hbk : Blk w bv (vwC H).toArray 74) (hp : H.s.pen = p) (hpr : PenR Z w p) (hl : p.fDash.length ≤ 11) :
    Calls Tryz.prog 115 #[.pointer (some ⟨bv, 0, none⟩)] w (EndsV 30 (scaledW H.s.ctm p) (fun q v w' => ∃ q' : PenV, v = .agg (penV q').toArray ∧ penE q' = q ∧ PenR (fun g => w.heap.size ≤ g ∧ g < w'.heap.size) w' q' ∧ Below w.heap.size w w') (fun w' => Below w.heap.size w w')) := by
  obtain ⟨⟨ctm, fi, sk, pe, clv, fn, sz⟩, fo, sa, pa, h8, h9, lo, te, li, ar, itv⟩ := H; simp only at hp ⊢; subst hp; obtain ⟨pw, pca, pj, pm, pd, L, pcd, pph⟩ := pe; have aF := hpr.row; have c6 := aF.lt; simp only at hl aF c6; obtain ⟨R, hD⟩ : ∃ R, scaledW ctm ⟨pw, pca, pj, pm, pd, L, pcd, pph⟩ = R := ⟨_, rfl⟩; rw [hD]; unfold scaledW at hD; simp only at hD; refine W.e func115 rfl ntmps115 bL ?_; have er := br_ (w.heap.size) w; refine W.sr <| WL.al zeroValue41 rfl (fun b1 ha bD ex bu gL => ?_); have fJ := bgl bD hbk.lt; have es := hbk.un bu fJ; have ey := fun c => bD ▸ aF.lt c
  have et := RowM.upd aF bu (fun c => nn_ (ey c)); have fK := uB er bD bu; have gA := bge bD er.size; refine WL.e <| W.sr <| WL.M rfl <| WL.O (.nck rfl) <| WL.O (.fa u74_ rfl s68_ dD rfl) <| WL.O (.fa u68_ rfl s42_ dD rfl) <| WL.R (Rd.ldF (L := m6Y) u42_ rfl isz42 es (ctm) (rfl) rfl) <| WL.c1 hB_ rfl rfl ((mat_Scale ctm _)) (fun w7 bE => ?_); have eu := es.bl bE; have ev := ex.bl bE; have c7 := rb_ et bE (fun c => et.lt c); have c8 := btr fK bE; simp only [pairI]; refine WL.M rfl <| WL.O (.ext rfl rfl) <| WL.O (.ext rfl rfl) <| WL.al z3_ rfl (fun m gM aG cI ay gB => ?_); have ez := bgl aG eu.lt; have eA := eu.un ay ez; have eB := bgl aG ev.lt; have eC := ev.un ay eB; have bG := fun c => aG ▸ c7.lt c
  have eD := RowM.upd c7 ay (fun c => nn_ (bG c)); have eF := uB c8 aG ay; have fL := bge aG c8.size; refine WL.st s3_ rfl rfl rfl cI oD (fun fM b3 ad gC => ?_); have b3 : Blk fM m _ _ := b3; have ad : Upd m _ _ := ad; have eG := eA.up ad; have eH := eC.up ad; have c9 := RowM.upd eD ad (fun c => nn_ (bG c)); have bw := ub_ eF oO ad; refine WL.Z rfl <| W.sr <| WL.M rfl <| WL.ce hB_ rfl rfl ((vw_must _ _)) (fun ew fN b4 ai => ?_) (fun hb fN b4 ai => ?_); have ca := bt_ bw (Below.mono ai bw.size); exact pn_is (ee_ ew (by rw [← hD]; exact bind_err (show scaleE ctm = .error ew by unfold scaleE; exact must_err b4)) ca); have cb := eG.bl ai; have cc := eH.bl ai; have cd := b3.bl ai; have eI := rb_ c9 ai (fun c => c9.lt c); have cf := btr bw ai; rw [bind_ok (show scaleE ctm = .ok (scaleR ctm).1 by unfold scaleE; rw [if_pos (must_ok b4)])] at hD
  generalize (scaleR ctm).1 = by_ at *; refine WL.e <| W.sr <| WL.O (.mkFv rfl) <| WL.Z rfl <| W.sr <| WL.M rfl <| WL.O (.nck rfl) <| WL.O (.fa u74_ rfl s68_ dD rfl) <| WL.O (.fa u68_ rfl s41_ dD rfl) <| WL.R (Rd.ldF (L := penL) u41_ rfl isz41 cb (⟨pw, pca, pj, pm, pd, L, pcd, pph⟩) (rfl) rfl) <| WL.al zeroValue41 rfl (fun a gN aq cJ b5 gD => ?_); have gO := bgl aq cb.lt; have eJ := bgl aq cc.lt; have eK := cc.un b5 eJ; have eL := bgl aq cd.lt; have eM := cd.un b5 eL; have b6 := fun c => aq ▸ eI.lt c
  have eN := uB cf aq b5; have fO := bge aq cf.size; refine WL.stL rfl rfl cJ isz41 rfl rfl (fun hd cK b7 gE => ?_); have eO := eK.up b7; have eP := eM.up b7; have eQ := ub_ eN oO b7; refine WL.e <| W.cut (α := Int × Int) (fun t => [(0, .pointer (some ⟨bv, 0, none⟩)), (2, .pointer (some ⟨b1, 0, none⟩)), (5, .func (.func 148) #[] #[.pointer (some ⟨m, 0, none⟩)]), (6, .pointer (some ⟨a, 0, none⟩))]) (fun t w' => Below w.heap.size w w' ∧ Blk w' b1 (penV penZ).toArray 41 ∧ Blk w' m #[.int .i64 by_] 3 ∧ Blk w' a (penV ⟨t.1, pca, pj, pm, none, [], 0, t.2⟩).toArray 41 ∧ (timesL by_ L >>= fun d => .ok (if sumL d = 0 ∧ d.length > 0 then penE (penW ⟨pw, pca, pj, pm, pd, L, pcd, pph⟩ t.1 0 none [] 0) else penE (penW ⟨pw, pca, pj, pm, pd, L, pcd, pph⟩ t.1 t.2 none d 0))) = R) ?_ (fun t w1 hR => ?_); refine W.regH 14 rfl mixed (fun w' => True ∧ True) (fun he b8 => ?_); have bx := eO.drew b8; have au := eP.drew b8; have aj := cK.drew b8; have a1 := Drew.below eQ b8; refine WH.tp 0 rfl (.mv rfl) ⟨trivial, tT⟩ rfl ?_; refine WH.tp 1 rfl (.fa u41_ rfl s3_ dD rfl) ⟨trivial, tT⟩ rfl ?_; refine WH.tp 4 rfl (.mv rfl) ⟨trivial, tT⟩ rfl ?_; refine WH.tp 5 rfl (.fa u41_ rfl s3_ dD rfl) ⟨trivial, tT⟩ rfl ?_; refine WH.br2 2 rfl 6 rfl ?_ ?_; refine WL.R (Rd.ld (g3_ _) rfl aj rfl) <| WL.e <| ⟨⟨trivial, tT⟩, ?_⟩; refine WH.br2 3 rfl 6 rfl ?_ ?_; refine WL.cev hB_ rfl rfl rfl rfl ((vw_times by_ pw m _ au)) (fun fP fQ b9 av => ?_) (fun fR fQ b9 av => ?_); have cg := bt_ a1 (Below.mono av a1.size); exact pn_is (ee_ fP (by rw [← hD]; exact bind_err b9) cg); have eR := bx.bl av; have ci := au.bl av; have cj := aj.bl av; have bz := btr a1 av; obtain ⟨j, rfl⟩ : ∃ x, x = fR := ⟨_, rfl⟩; rw [bind_ok b9] at hD; refine WL.e <| ⟨⟨trivial, tT⟩, ?_⟩; refine WH.br1 6 rfl <| WL.R (Rd.ld (g3_ _) rfl cj rfl) <| WL.e <| ⟨⟨trivial, tT⟩, ?_⟩; refine WH.tp 8 rfl (.fa u41_ rfl s3_ dD rfl) ⟨trivial, tT⟩ rfl ?_; refine WH.br1 7 rfl <| WL.cev hB_ rfl rfl rfl rfl ((vw_times by_ pph m _ ci)) (fun fS fT ba aw => ?_) (fun fU fT ba aw => ?_); have ck := bt_ bz (Below.mono aw bz.size); exact pn_is (ee_ fS (by rw [← hD]; exact bind_err ba) ck); have eS := eR.bl aw; have eT := ci.bl aw; have eU := cj.bl aw; have eV := btr bz aw; obtain ⟨f, rfl⟩ : ∃ x, x = fU := ⟨_, rfl⟩
  rw [bind_ok ba] at hD; refine WL.e <| ⟨⟨trivial, tT⟩, ?_⟩; refine WH.br1 9 rfl <| WL.stC (o := 0) ((penV ⟨j, pca, pj, pm, pd, L, pcd, pph⟩).toArray) s3_ rfl (rfl) rfl (rfl) eU bL (rfl) (fun fV bb ak gF => ?_); have bb : Blk fV a _ _ := bb; have ak : Upd a _ _ := ak; have eW := eS.up ak; have eX := eT.up ak; have eY := ub_ eV oO ak; refine WL.e <| ⟨⟨trivial, tT⟩, ?_⟩; refine WH.tp 10 rfl (.fa u41_ rfl s3_ dD rfl) ⟨trivial, tT⟩ rfl ?_; refine WH.br1 11 rfl <| WL.stC (o := 5) ((penV ⟨j, pca, pj, pm, pd, L, pcd, f⟩).toArray) s3_ rfl (rfl) rfl (rfl) bb bL (rfl) (fun fW bc am gG => ?_); have bc : Blk fW a _ _ := bc; have am : Upd a _ _ := am; have eZ := eW.up am; have e' := eX.up am; have f0 := ub_ eY oO am; refine WL.e <| ⟨⟨trivial, tT⟩, ?_⟩; refine WH.tp 12 rfl (.fa u41_ rfl s39_ dD rfl) ⟨trivial, tT⟩ rfl ?_; refine WH.br1 13 rfl <| WL.stC (o := 4) ((penV ⟨j, pca, pj, pm, none, [], 0, f⟩).toArray) s39_ rfl (rfl) rfl (rfl) bc bL (rfl) (fun fX bd an gH => ?_); have bd : Blk fX a _ _ := bd; have an : Upd a _ _ := an; have f1 := eZ.up an; have f2 := e'.up an; have f3 := ub_ f0 oO an; refine WL.e <| ⟨⟨trivial, tT⟩, ?_⟩; refine WH.done kR ?_; exact ⟨(j, f), ⟨rfl, rfl, rfl, rfl, tT⟩, f3, f1, f2, bd, hD⟩; refine WL.R (Rd.ld (g3_ _) rfl aj rfl) <| WL.e <| ⟨⟨trivial, tT⟩, ?_⟩; refine WH.br1 3 rfl <| WL.cev hB_ rfl rfl rfl rfl ((vw_times by_ pw m _ au)) (fun fY fZ be ax => ?_) (fun f' fZ be ax => ?_); have cl := bt_ a1 (Below.mono ax a1.size); exact pn_is (ee_ fY (by rw [← hD]; exact bind_err be) cl); have f4 := bx.bl ax; have cm := au.bl ax; have f5 := aj.bl ax; have bf := btr a1 ax; obtain ⟨j, rfl⟩ : ∃ x, x = f' := ⟨_, rfl⟩; rw [bind_ok be] at hD; refine WL.e <| ⟨⟨trivial, tT⟩, ?_⟩; refine WH.tp 8 rfl (.fa u41_ rfl s3_ dD rfl) ⟨trivial, tT⟩ rfl ?_; refine WH.br1 7 rfl <| WL.cev hB_ rfl rfl rfl rfl ((vw_times by_ pph m _ cm)) (fun f6 f7 aH ae => ?_) (fun f8 f7 aH ae => ?_); have b' := bt_ bf (Below.mono ae bf.size); exact pn_is (ee_ f6 (by rw [← hD]; exact bind_err aH) b'); have cL := f4.bl ae; have cM := cm.bl ae; have cN := f5.bl ae; have cO := btr bf ae; obtain ⟨f, rfl⟩ : ∃ x, x = f8 := ⟨_, rfl⟩
  rw [bind_ok aH] at hD; refine WL.e <| ⟨⟨trivial, tT⟩, ?_⟩; refine WH.br1 9 rfl <| WL.stC (o := 0) ((penV ⟨j, pca, pj, pm, pd, L, pcd, pph⟩).toArray) s3_ rfl (rfl) rfl (rfl) cN bL (rfl) (fun f9 aI a6 g0 => ?_); have aI : Blk f9 a _ _ := aI; have a6 : Upd a _ _ := a6; have cP := cL.up a6; have cQ := cM.up a6; have cR := ub_ cO oO a6; refine WL.e <| ⟨⟨trivial, tT⟩, ?_⟩; refine WH.tp 10 rfl (.fa u41_ rfl s3_ dD rfl) ⟨trivial, tT⟩ rfl ?_; refine WH.br1 11 rfl <| WL.stC (o := 5) ((penV ⟨j, pca, pj, pm, pd, L, pcd, f⟩).toArray) s3_ rfl (rfl) rfl (rfl) aI bL (rfl) (fun fb aJ a7 g1 => ?_); have aJ : Blk fb a _ _ := aJ; have a7 : Upd a _ _ := a7; have cS := cP.up a7; have cT := cQ.up a7; have cU := ub_ cR oO a7; refine WL.e <| ⟨⟨trivial, tT⟩, ?_⟩; refine WH.tp 12 rfl (.fa u41_ rfl s39_ dD rfl) ⟨trivial, tT⟩ rfl ?_; refine WH.br1 13 rfl <| WL.stC (o := 4) ((penV ⟨j, pca, pj, pm, none, [], 0, f⟩).toArray) s39_ rfl (rfl) rfl (rfl) aJ bL (rfl) (fun fc aK a8 g2 => ?_); have aK : Blk fc a _ _ := aK; have a8 : Upd a _ _ := a8; have cV := cS.up a8; have cW := cT.up a8; have cX := ub_ cU oO a8; refine WL.e <| ⟨⟨trivial, tT⟩, ?_⟩; refine WH.done kR ?_; exact ⟨(j, f), ⟨rfl, rfl, rfl, rfl, tT⟩, cX, cV, cW, aK, hD⟩; refine WL.R (Rd.ld (g3_ _) rfl aj rfl) <| WL.e <| ⟨⟨trivial, tT⟩, ?_⟩; refine WH.br1 2 rfl <| WL.R (Rd.ld (g3_ _) rfl aj rfl) <| WL.e <| ⟨⟨trivial, tT⟩, ?_⟩; refine WH.br1 3 rfl <| WL.cev hB_ rfl rfl rfl rfl ((vw_times by_ pw m _ au)) (fun fd fe aL af => ?_) (fun ff fe aL af => ?_); have c0 := bt_ a1 (Below.mono af a1.size); exact pn_is (ee_ fd (by rw [← hD]; exact bind_err aL) c0); have cY := bx.bl af; have bH := au.bl af; have cZ := aj.bl af; have bg := btr a1 af; obtain ⟨j, rfl⟩ : ∃ x, x = ff := ⟨_, rfl⟩; rw [bind_ok aL] at hD; refine WL.e <| ⟨⟨trivial, tT⟩, ?_⟩; refine WH.tp 8 rfl (.fa u41_ rfl s3_ dD rfl) ⟨trivial, tT⟩ rfl ?_; refine WH.br1 7 rfl <| WL.cev hB_ rfl rfl rfl rfl ((vw_times by_ pph m _ bH)) (fun fg fh aM ag => ?_) (fun fj fh aM ag => ?_); have c3 := bt_ bg (Below.mono ag bg.size); exact pn_is (ee_ fg (by rw [← hD]; exact bind_err aM) c3)
  have c' := cY.bl ag; have d0 := bH.bl ag; have d1 := cZ.bl ag; have d2 := btr bg ag; obtain ⟨f, rfl⟩ : ∃ x, x = fj := ⟨_, rfl⟩; rw [bind_ok aM] at hD; refine WL.e <| ⟨⟨trivial, tT⟩, ?_⟩; refine WH.br1 9 rfl <| WL.stC (o := 0) ((penV ⟨j, pca, pj, pm, pd, L, pcd, pph⟩).toArray) s3_ rfl (rfl) rfl (rfl) d1 bL (rfl) (fun fk aN a9 g3 => ?_); have aN : Blk fk a _ _ := aN; have a9 : Upd a _ _ := a9; have d3 := c'.up a9; have d4 := d0.up a9; have d5 := ub_ d2 oO a9; refine WL.e <| ⟨⟨trivial, tT⟩, ?_⟩; refine WH.tp 10 rfl (.fa u41_ rfl s3_ dD rfl) ⟨trivial, tT⟩ rfl ?_; refine WH.br1 11 rfl <| WL.stC (o := 5) ((penV ⟨j, pca, pj, pm, pd, L, pcd, f⟩).toArray) s3_ rfl (rfl) rfl (rfl) aN bL (rfl) (fun fl aO aa g4 => ?_); have aO : Blk fl a _ _ := aO; have aa : Upd a _ _ := aa; have d6 := d3.up aa; have d7 := d4.up aa; have d8 := ub_ d5 oO aa; refine WL.e <| ⟨⟨trivial, tT⟩, ?_⟩; refine WH.tp 12 rfl (.fa u41_ rfl s39_ dD rfl) ⟨trivial, tT⟩ rfl ?_; refine WH.br1 13 rfl <| WL.stC (o := 4) ((penV ⟨j, pca, pj, pm, none, [], 0, f⟩).toArray) s39_ rfl (rfl) rfl (rfl) aO bL (rfl) (fun fm aP ab g5 => ?_); have aP : Blk fm a _ _ := aP; have ab : Upd a _ _ := ab; have d9 := d6.up ab; have da := d7.up ab; have db := ub_ d8 oO ab; refine WL.e <| ⟨⟨trivial, tT⟩, ?_⟩; refine WH.done kR ?_; exact ⟨(j, f), ⟨rfl, rfl, rfl, rfl, tT⟩, db, d9, da, aP, hD⟩; obtain ⟨⟨j, f⟩, bj⟩ : ∃ u, u = t := ⟨t, rfl⟩; subst bj; obtain ⟨j1, j2, j3, j4, hD⟩ := hR; simp only at j4 hD; have g6 := aF.below j1 c6; have fp := hbk.below j1 hbk.lt; refine W.seq ?_; obtain ⟨fin, cn⟩ : ∃ fin : List Int → Except Int PenV, fin = fun d => .ok (if sumL d = 0 ∧ d.length > 0 then penE (penW ⟨pw, pca, pj, pm, pd, L, pcd, pph⟩ j 0 none [] 0) else penE (penW ⟨pw, pca, pj, pm, pd, L, pcd, pph⟩ j f none d 0)) := ⟨_, rfl⟩
  rw [← cn] at hD; have gP := j3.lt; have gQ := j4.lt; have gR := j2.lt; refine W.reg <| WL.Z rfl <| W.seq <| W.sr <| WL.M rfl <| WL.O (.nck rfl) <| WL.O (.fa u74_ rfl s68_ dD rfl) <| WL.O (.fa u68_ rfl s41_ dD rfl) <| WL.O (.fa u41_ rfl s39_ dD rfl) <| WL.R (Rd.ld (g39_ _) rfl fp rfl) <| WL.O (.lenS u39_ rfl) <| WL.M rfl <| WL.e <| W.b <| W.loop (α := Option Addr × List Int × Nat × Nat) (fun t => [(0, .pointer (some ⟨bv, 0, none⟩)), (2, .pointer (some ⟨b1, 0, none⟩)), (5, .func (.func 148) #[] #[.pointer (some ⟨m, 0, none⟩)]), (6, .pointer (some ⟨a, 0, none⟩)), (7, .int .i64 (sumL t.2.1)), (43, .slice pd L.length pcd), (44, .int .i64 (L.length : Int)), (45, .int .i64 (t.2.2.2 : Int))]) (fun t w' => Below w.heap.size w w' ∧ Blk w' b1 (penV penZ).toArray 41 ∧ Blk w' m #[.int .i64 by_] 3 ∧ Blk w' a (penV ⟨j, pca, pj, pm, t.1, t.2.1, t.2.2.1, f⟩).toArray 41 ∧ OwnM ivL 3 (a + 1) w' (.slice t.1 t.2.1.length t.2.2.1) t.2.1 ∧ RowM ivL w' pd L ∧ t.2.2.2 ≤ L.length ∧ t.2.1.length = t.2.2.2 ∧ (∀ x ∈ t.2.1, -2147483648 ≤ x ∧ x ≤ 2147483647) ∧ (timesL by_ (L.drop t.2.2.2) >>= fun d => fin (t.2.1 ++ d)) = R) (fun t => L.length - t.2.2.2) ((none, [], 0, 0)) ⟨rfl, rfl, rfl, rfl, rfl, rfl, rfl, rfl, tT⟩ (⟨j1, j2, j3, j4, OwnM.nil _ _ _ _, g6, nl_ _, rfl, (fun x hx => by cases hx), hD⟩) (fun t w1 hR => ?_); obtain ⟨⟨p1, L1, c1, i⟩, bj⟩ : ∃ u, u = t := ⟨t, rfl⟩; subst bj; obtain ⟨q1, q2, q3, q4, q5, q6, q7, q8, q9, bI⟩ := hR; simp only at q4 q5 q7 q8 q9 bI; have bh := q4.lt; have gS := q5.lt; have hf := sumF_le q9; have bA : 0 < L.length → (pA pd).block < a + 1 := fun c => by have := c6 c; omega
  refine W.sr <| WL.O (.lss rfl rfl) <| WL.e <| W.seq <| W.cond rfl (fun bB => ?_) (fun bB => ?_)
  · have dc := dT bB
    have co : i < L.length := by first | omega | (simp only at *; omega)
    have bJ := (timesL_step (b := by_) co (fun d => fin (L1 ++ d))).symm.trans bI; refine W.k <| W.seq <| W.b <| W.sr <| WL.O (.ixm u39_ s3_ rfl rfl (q6.isp (by first | omega | (simp only [List.length_cons, List.length_nil]; omega))) (i) (rfl) oO) <| WL.R (Rd.ldc (g3_ _) rfl ((q6.field (i) (by first | omega | (simp only [List.length_cons, List.length_nil]; omega)) 0 dD).trans rfl)) <| WL.Z rfl <| W.cut (α := Option Addr × Int × Nat) (fun t => [(2, .pointer (some ⟨b1, 0, none⟩)), (0, .pointer (some ⟨bv, 0, none⟩)), (5, .func (.func 148) #[] #[.pointer (some ⟨m, 0, none⟩)]), (6, .pointer (some ⟨a, 0, none⟩)), (7, .int .i64 (sumL L1)), (9, .int .i64 L[i]), (43, .slice pd L.length pcd), (44, .int .i64 (L.length : Int)), (45, .int .i64 (i : Int))]) (fun t w' => Below w.heap.size w w' ∧ Blk w' b1 (penV penZ).toArray 41 ∧ Blk w' m #[.int .i64 by_] 3 ∧ Blk w' a (penV ⟨j, pca, pj, pm, t.1, L1 ++ [t.2.1], t.2.2, f⟩).toArray 41 ∧ OwnM ivL 3 (a + 1) w' (.slice t.1 (L1 ++ [t.2.1]).length t.2.2) (L1 ++ [t.2.1]) ∧ RowM ivL w' pd L ∧ timesV by_ L[i] = .ok t.2.1) ?_ (fun t w1 hR => ?_); refine W.regH 9 rfl mixed (fun w' => True ∧ True) (fun gT a2 => ?_); have bk := Drew.le bh a2; have bK := OwnM.drew q5 a2; have bM := q2.drew a2; have az := q3.drew a2; have bi := q4.drew a2; have aA := q6.drew a2; have ah := Drew.below q1 a2; refine WH.tp 0 rfl (.fa u41_ rfl s39_ dD rfl) ⟨trivial, tT⟩ rfl ?_; refine WH.tp 2 rfl (.mv rfl) ⟨trivial, tT⟩ rfl ?_; refine WH.tp 3 rfl (.mv rfl) ⟨trivial, tT⟩ rfl ?_; refine WH.br2 1 rfl 4 rfl ?_ ?_; refine WL.R (Rd.ld (g39_ _) rfl bi rfl) <| WL.e <| ⟨⟨trivial, tT⟩, ?_⟩; refine WH.br1 4 rfl <| WL.cev hB_ rfl rfl rfl rfl ((vw_times by_ L[i] m _ az)) (fun fq fr aQ C => ?_) (fun fs fr aQ C => ?_); have c4 := bt_ ah (Below.mono C ah.size); exact pn_is (ee_ fq (by rw [← bJ]; exact bind_err aQ) c4); have cq := nt_ bk C.size; have dd := OwnM.below bK C; have bN := bM.bl C; have bO := az.bl C; have bP := bi.bl C; have bQ := rb_ aA C (fun c => aA.lt c); have bR := btr ah C; obtain ⟨x1, rfl⟩ : ∃ x, x = fs := ⟨_, rfl⟩; have bS := aQ; refine WL.e <| ⟨⟨trivial, tT⟩, ?_⟩; refine WH.br1 5 rfl <| WL.bsl (ps := _) u39_ s3_ z3_ rfl rfl rfl rfl rfl pR rfl (fun gU gI a3 cr E g7 => ?_); have bm := nt_ cq E.size
    have de := on_ dd a3 E; have df := bgl a3 bN.lt; have dg := bN.un E df; have dh := bgl a3 bO.lt; have di := bO.un E dh; have dj := bgl a3 bP.lt; have dk := bP.un E dj; have ct := fun c => a3 ▸ bQ.lt c
    have dl := RowM.upd bQ E (fun c => nn_ (ct c)); have dm := uB bR a3 E; have fG := bge a3 bR.size; have bn := RowM.lit (V := ivL) (l := [x1]) cr rfl; refine WL.e <| ⟨⟨trivial, tT⟩, ?_⟩; refine WH.br1 6 rfl <| WL.appM u39_ inf3 rfl rfl rfl de rfl bn (by simp only [List.length_cons, List.length_nil]; omega) (bm) rfl (fun h => ab_ h (lc_ _ _)) (fun gV gW aR Q g8 g9 => ?_); have dn := dg.below Q oO; have dp := di.below Q oO; have dq := dk.below Q oO; have dr := rb_ dl Q bA; have ds := bt_ dm (Q.mono (oO)); have cu := nt_ bm Q.size; obtain ⟨pv, cv, evv, -⟩ := (aR).row; subst evv; refine WL.e <| ⟨⟨trivial, tT⟩, ?_⟩; refine WH.tp 7 rfl (.fa u41_ rfl s39_ dD rfl) ⟨trivial, tT⟩ rfl ?_; refine WH.br1 8 rfl <| WL.stC (o := 4) ((penV ⟨j, pca, pj, pm, pv, L1 ++ [x1], cv, f⟩).toArray) s39_ rfl (rfl) rfl (rfl) dq bL (rfl) (fun ft aS n ga => ?_); have aS : Blk ft a _ _ := aS; have n : Upd a _ _ := n; have gb := nt_ cu n.size; have dt := ou_ aR n (fun g hg e => by have := (aR).lt g hg; omega); have du := dn.up n; have dv := dp.up n; have dw := RowM.upd dr n (fun c => nn_ (b6 c)); have dx := ub_ ds oO n; refine WL.e <| ⟨⟨trivial, tT⟩, ?_⟩; refine WH.done kR ?_; exact ⟨(pv, x1, cv), ⟨rfl, rfl, rfl, rfl, rfl, rfl, rfl, rfl, rfl, tT⟩, dx, du, dv, aS, dt, dw, bS⟩; refine WL.cev hB_ rfl rfl rfl rfl ((vw_times by_ L[i] m _ az)) (fun fu fv aT D => ?_) (fun fw fv aT D => ?_); have c5 := bt_ ah (Below.mono D ah.size); exact pn_is (ee_ fu (by rw [← bJ]; exact bind_err aT) c5); have bo := nt_ bk D.size; have bT := OwnM.below bK D; have aB := bM.bl D; have aC := az.bl D; have ao := bi.bl D; have aD := rb_ aA D (fun c => aA.lt c); have aE := btr ah D; obtain ⟨x1, rfl⟩ : ∃ x, x = fw := ⟨_, rfl⟩; have bS := aT; refine WL.e <| ⟨⟨trivial, tT⟩, ?_⟩; refine WH.br2 1 rfl 5 rfl ?_ ?_; refine WL.R (Rd.ld (g39_ _) rfl ao rfl) <| WL.e <| ⟨⟨trivial, tT⟩, ?_⟩; refine WH.br1 5 rfl <| WL.bsl (ps := _) u39_ s3_ z3_ rfl rfl rfl rfl rfl pR rfl (fun gX gJ a4 cw F gc => ?_); have bp := nt_ bo F.size
    have dy := on_ bT a4 F; have dz := bgl a4 aB.lt; have dA := aB.un F dz; have dB := bgl a4 aC.lt; have dC := aC.un F dB; have dE := bgl a4 ao.lt; have dG := ao.un F dE; have cy := fun c => a4 ▸ aD.lt c
    have dH := RowM.upd aD F (fun c => nn_ (cy c)); have dI := uB aE a4 F; have fH := bge a4 aE.size; have bn := RowM.lit (V := ivL) (l := [x1]) cw rfl; refine WL.e <| ⟨⟨trivial, tT⟩, ?_⟩; refine WH.br1 6 rfl <| WL.appM u39_ inf3 rfl rfl rfl dy rfl bn (by simp only [List.length_cons, List.length_nil]; omega) (bp) rfl (fun h => ab_ h (lc_ _ _)) (fun gY gZ aU T ge gf => ?_); have dJ := dA.below T oO; have dK := dC.below T oO; have dL := dG.below T oO; have dM := rb_ dH T bA; have dN := bt_ dI (T.mono (oO)); have cz := nt_ bp T.size; obtain ⟨pv, cv, evv, -⟩ := (aU).row; subst evv; refine WL.e <| ⟨⟨trivial, tT⟩, ?_⟩; refine WH.tp 7 rfl (.fa u41_ rfl s39_ dD rfl) ⟨trivial, tT⟩ rfl ?_; refine WH.br1 8 rfl <| WL.stC (o := 4) ((penV ⟨j, pca, pj, pm, pv, L1 ++ [x1], cv, f⟩).toArray) s39_ rfl (rfl) rfl (rfl) dL bL (rfl) (fun fx aV A gg => ?_); have aV : Blk fx a _ _ := aV; have A : Upd a _ _ := A; have gh := nt_ cz A.size; have dO := ou_ aU A (fun g hg e => by have := (aU).lt g hg; omega); have dP := dJ.up A; have dQ := dK.up A; have dR := RowM.upd dM A (fun c => nn_ (b6 c)); have dS := ub_ dN oO A; refine WL.e <| ⟨⟨trivial, tT⟩, ?_⟩; refine WH.done kR ?_; exact ⟨(pv, x1, cv), ⟨rfl, rfl, rfl, rfl, rfl, rfl, rfl, rfl, rfl, tT⟩, dS, dP, dQ, aV, dO, dR, bS⟩; refine WL.bsl (ps := _) u39_ s3_ z3_ rfl rfl rfl rfl rfl pR rfl (fun g' gK a5 cA G gi => ?_); have bq := nt_ bo G.size; have dU := on_ bT a5 G; have dV := bgl a5 aB.lt; have dW := aB.un G dV; have dX := bgl a5 aC.lt; have dY := aC.un G dX; have dZ := bgl a5 ao.lt; have bU := ao.un G dZ; have cB := fun c => a5 ▸ aD.lt c
    have d' := RowM.upd aD G (fun c => nn_ (cB c)); have e0 := uB aE a5 G; have fI := bge a5 aE.size; have bn := RowM.lit (V := ivL) (l := [x1]) cA rfl; refine WL.e <| ⟨⟨trivial, tT⟩, ?_⟩; refine WH.br1 1 rfl <| WL.R (Rd.ld (g39_ _) rfl bU rfl) <| WL.e <| ⟨⟨trivial, tT⟩, ?_⟩; refine WH.br1 6 rfl <| WL.appM u39_ inf3 rfl rfl rfl dU rfl bn (by simp only [List.length_cons, List.length_nil]; omega) (bq) rfl (fun h => ab_ h (lc_ _ _)) (fun h3 h4 aW U gj gk => ?_); have e1 := dW.below U oO; have e3 := dY.below U oO; have e4 := bU.below U oO; have e5 := rb_ d' U bA; have e6 := bt_ e0 (U.mono (oO)); have cC := nt_ bq U.size; obtain ⟨pv, cv, evv, -⟩ := (aW).row; subst evv; refine WL.e <| ⟨⟨trivial, tT⟩, ?_⟩; refine WH.tp 7 rfl (.fa u41_ rfl s39_ dD rfl) ⟨trivial, tT⟩ rfl ?_; refine WH.br1 8 rfl <| WL.stC (o := 4) ((penV ⟨j, pca, pj, pm, pv, L1 ++ [x1], cv, f⟩).toArray) s39_ rfl (rfl) rfl (rfl) e4 bL (rfl) (fun fy aX B gl => ?_); have aX : Blk fy a _ _ := aX; have B : Upd a _ _ := B; have gm := nt_ cC B.size; have e7 := ou_ aW B (fun g hg e => by have := (aW).lt g hg; omega); have e8 := e1.up B; have e9 := e3.up B; have ea := RowM.upd e5 B (fun c => nn_ (b6 c)); have eb := ub_ e6 oO B; refine WL.e <| ⟨⟨trivial, tT⟩, ?_⟩; refine WH.done kR ?_; exact ⟨(pv, x1, cv), ⟨rfl, rfl, rfl, rfl, rfl, rfl, rfl, rfl, rfl, tT⟩, eb, e8, e9, aX, e7, ea, bS⟩; obtain ⟨⟨pv, x1, cv⟩, bj⟩ : ∃ u, u = t := ⟨t, rfl⟩; subst bj; obtain ⟨n1, n2, n3, n4, n5, n6, n7⟩ := hR; simp only at n4 n5 n7; rw [bind_ok n7] at bJ; have fz := n4.lt; have h5 := n5.lt; have go := times_fits n7; refine W.reg <| WL.M rfl <| WL.M rfl <| WL.M rfl <| WL.cev hB_ rfl rfl rfl rfl ((vw_times by_ L[i] m _ n3)) (fun h6 fA ap P => ?_) (fun h7 fA ap P => ?_); rw [n7] at ap; cases ap; have gp := nt_ fz P.size; have ec := OwnM.below n5 P; have ed := n2.bl P; have ee := n3.bl P; have ef := n4.bl P; have eg := rb_ n6 P (fun c => n6.lt c); have eh := btr n1 P; obtain rfl := Except.ok.inj (n7.symm.trans ap); refine WL.O (.iis (sumL (L1 ++ [x1])) (.add rfl rfl (i64w (by (try simp only) <;> omega))) (by rw [sumL_snoc])) <| WL.Z rfl <| W.reg <| WL.O (.iis (((i + 1 : Nat) : Int)) (.add rfl rfl (i64w (by (try simp only) <;> omega))) oM) <| WL.M rfl <| WL.e <| ?_
    exact ⟨(pv, L1 ++ [x1], cv, i + 1), ⟨rfl, rfl, rfl, rfl, rfl, rfl, rfl, rfl, tT⟩, ⟨eh, ed, ee, ef, ec, eg, by ((try simp only) <;> omega), by rw [List.length_append, q8]; rfl, fun y hy => (List.mem_append.1 hy).elim (q9 y) (fun h => by rw [List.mem_singleton.1 h]; exact go), by rw [← bJ]; simp only [List.append_assoc, List.singleton_append]⟩, by ((try simp only) <;> omega)⟩
  have dc := dF bB; have co : i = L.length := by first | omega | (simp only at *; omega)
  rw [co, List.drop_length] at bI; have J : fin L1 = R := by rw [← bI]; show _ = fin (L1 ++ []); rw [List.append_nil]
  have J : (.ok (if sumL L1 = 0 ∧ L1.length > 0 then penE (penW ⟨pw, pca, pj, pm, pd, L, pcd, pph⟩ j 0 none [] 0) else penE (penW ⟨pw, pca, pj, pm, pd, L, pcd, pph⟩ j f none L1 0)) : Except Int PenV) = R := by rw [cn] at J; exact J
  refine W.exit <| W.seq <| W.sr <| WL.M rfl <| WL.O (.eql rfl rfl) <| WL.M rfl <| WL.gd rfl rfl rfl (fun K => ?_) (fun K => ?_)
  · have ei := dT K
    refine WL.O (.fa u41_ rfl s39_ dD rfl) <| WL.Y K <| WL.R (Rd.ld (g39_ _) rfl q4 rfl) <| WL.Y K <| WL.O (.lenS u39_ rfl) <| WL.Y K <| WL.O (.bis (decide (L1.length > 0)) (.gtr rfl rfl) (by exact decide_eq_decide.2 (by first | omega | (simp only; omega)))) <| WL.O (.pkT rfl K rfl) <| WL.e <| W.cond rfl (fun bC => ?_) (fun bC => ?_)
    · have ej := dT bC
      refine W.reg <| WL.O (.fa u41_ rfl s39_ dD rfl) <| WL.stC (o := 4) ((penV ⟨j, pca, pj, pm, none, [], 0, f⟩).toArray) s39_ rfl (rfl) rfl (rfl) q4 bL (rfl) (fun fB aY X gq => ?_); have aY : Blk fB a _ _ := aY; have X : Upd a _ _ := X; have cD := nt_ bh X.size; have bV := ou_ q5 X (fun g hg e => by have := (q5).lt g hg; omega); have ek := q2.upd X oM; have el := ub_ q1 oO X; refine WL.O (.fa u41_ rfl s3_ dD rfl) <| WL.stC (o := 5) ((penV ⟨j, pca, pj, pm, none, [], 0, 0⟩).toArray) s3_ rfl (rfl) rfl (rfl) aY bL (rfl) (fun fC aZ a0 gr => ?_); have aZ : Blk fC a _ _ := aZ; have a0 : Upd a _ _ := a0; have cE := nt_ cD a0.size; have bW := ou_ bV a0 (fun g hg e => by have := (bV).lt g hg; omega); have em := ek.up a0; have en := ub_ el oO a0; refine WL.e <| W.sr <| WL.R (Rd.ldA rfl aZ u41_ rfl isz41) <| WL.stL rfl rfl em isz41 rfl rfl (fun fD cF a' gs => ?_); have gt := nt_ cE a'.size; have eo := ou_ bW a' (fun g hg e => by have := (bW).lt g hg; omega); have bX := ub_ en oO a'; refine WL.e <| W.ret (W.retc1 rfl rfl (ldRow cF u41_ rfl isz41)  ?_); have ac := eo; obtain ⟨p2, c2, e2, bt⟩ := Row3.own (Z := fun g => w.heap.size ≤ g ∧ g < fD.heap.size) ac (fun g hg => ⟨by have := (ac.lt g hg).1; omega, (ac.lt g hg).2⟩); cases e2
      first
        | (rw [if_pos ⟨by assumption, by (have hh : decide (L1.length > 0) = true := by assumption); exact dT hh⟩] at J
           exact eo_ _ _ J.symm rfl ⟨_, rfl, rfl, Row3.nil _ _ _, bX⟩)
        | (rw [if_neg (fun hc => by (have h1 := hc.1; have h2 := hc.2; simp_all; done))] at J
           exact eo_ _ _ J.symm rfl ⟨⟨j, pca, pj, pm, p1, L1, c1, f⟩, rfl, rfl, bt, bX⟩)
    have ej := dF bC; refine W.k <| W.sr <| WL.R (Rd.ldA rfl q4 u41_ rfl isz41) <| WL.stL rfl rfl q2 isz41 rfl rfl (fun fE cG b0 gv => ?_); have gw := nt_ bh b0.size; have ep := ou_ q5 b0 (fun g hg e => by have := (q5).lt g hg; omega); have bY := ub_ q1 oO b0; refine WL.e <| W.ret (W.retc1 rfl rfl (ldRow cG u41_ rfl isz41)  ?_); have ac := ep; obtain ⟨p2, c2, e2, bt⟩ := Row3.own (Z := fun g => w.heap.size ≤ g ∧ g < fE.heap.size) ac (fun g hg => ⟨by have := (ac.lt g hg).1; omega, (ac.lt g hg).2⟩); cases e2
    first
      | (rw [if_pos ⟨by assumption, by (have hh : decide (L1.length > 0) = true := by assumption); exact dT hh⟩] at J
         exact eo_ _ _ J.symm rfl ⟨_, rfl, rfl, Row3.nil _ _ _, bY⟩)
      | (rw [if_neg (fun hc => by (have h1 := hc.1; have h2 := hc.2; simp_all; done))] at J
         exact eo_ _ _ J.symm rfl ⟨⟨j, pca, pj, pm, p1, L1, c1, f⟩, rfl, rfl, bt, bY⟩)
  have ei := dF K; refine WL.N K <| WL.N K <| WL.N K <| WL.O (.pkF rfl K rfl) <| WL.e <| W.condF rfl rfl <| W.k <| W.sr <| WL.R (Rd.ldA rfl q4 u41_ rfl isz41) <| WL.stL rfl rfl q2 isz41 rfl rfl (fun fF cH b2 gx => ?_); have gz := nt_ bh b2.size; have eq := ou_ q5 b2 (fun g hg e => by have := (q5).lt g hg; omega); have bZ := ub_ q1 oO b2; refine WL.e <| W.ret (W.retc1 rfl rfl (ldRow cH u41_ rfl isz41)  ?_); have ac := eq; obtain ⟨p2, c2, e2, bt⟩ := Row3.own (Z := fun g => w.heap.size ≤ g ∧ g < fF.heap.size) ac (fun g hg => ⟨by have := (ac.lt g hg).1; omega, (ac.lt g hg).2⟩); cases e2
  first
    | (rw [if_pos ⟨by assumption, by (have hh : decide (L1.length > 0) = true := by assumption); exact dT hh⟩] at J
       exact eo_ _ _ J.symm rfl ⟨_, rfl, rfl, Row3.nil _ _ _, bZ⟩)
    | (rw [if_neg (fun hc => by (have h1 := hc.1; have h2 := hc.2; simp_all; done))] at J
       exact eo_ _ _ J.symm rfl ⟨⟨j, pca, pj, pm, p1, L1, c1, f⟩, rfl, rfl, bt, bZ⟩)
end
end
section
theorem Frz.ofN {c N : Nat} {F : Nat → Prop} {w0 w : World} (hN : w0.heap.size = N) (h : ∀ k, k < N → w.heap[k]? = w0.heap[k]?) : Mv (Frz c F w0) (Frz c F w) w0 w := by
 subst hN
 have hs : w0.heap.size ≤ w.heap.size := StN.size (Q := fun _ => True) ⟨w0, rfl, trivial, h⟩
 exact ⟨hs, fun g hg => ⟨h g hg.1, Nat.lt_of_lt_of_le hg.1 hs, hg.2⟩⟩
theorem Row3.ofN {α : Type} {L : Lay α} {c N : Nat} {F : Nat → Prop} {w : World} {p : Option Addr} {l : List α} {cp : Nat} (h : StN N (fun w => Row3 L (Frz c F w) w p l cp) w) : Row3 L (Frz c F w) w p l cp := by
 obtain ⟨e, a, b, d⟩ := h
 exact b.mv (Frz.ofN a d)
theorem StR.ofN {c N : Nat} {F : Nat → Prop} {w : World} {h : StH} {s : VwS} (q : StN N (fun w => StR (Frz c F w) w h s) w) : StR (Frz c F w) w h s := by
 obtain ⟨e, a, b, d⟩ := q
 exact b.mv (Frz.ofN a d)
theorem Row3.mono {α : Type} {L : Lay α} {Z Z1 : Nat → Prop} {w : World} {p : Option Addr} {l : List α} {c : Nat} (h : Row3 L Z w p l c) (hz : ∀ g, Z g → Z1 g) : Row3 L Z1 w p l c := ⟨h.row, h.sl, fun h0 => hz _ (h.inn h0)⟩
theorem pen_len {p : PenV} (h : penB p = true) : p.fDash.length ≤ 11 := by
 unfold penB penH at h
 simp only [Bool.and_eq_true, Bool.not_eq_true', Bool.or_eq_false_iff, decide_eq_false_iff_not] at h
 omega
theorem vw_scaledV {w : World} {bv : Nat} {H : VwH} {s : VwS} {Z : Nat → Prop} (hbk : Blk w bv (vwC H).toArray 74) (hs : StR Z w H.s s) (hp : penB s.pen = true) :
  Calls Tryz.prog 115 #[.pointer (some ⟨bv, 0, none⟩)] w (EndsV 30 (scaledV s) (fun q v w' => Below w.heap.size w w' ∧ ∃ q' : PenV, v = .agg (penV q').toArray ∧ penE q' = q ∧ PenR (fun g => w.heap.size ≤ g ∧ g < w'.heap.size) w' q') (fun w' => Below w.heap.size w w')) := by
 have hl : H.s.pen.fDash.length ≤ 11 := by have := pen_len hp; rw [← hs.pen] at this; exact this
 rw [scaledW_V hs.pen, ← hs.ctm]
 refine (vw_scaled hbk rfl hs.penr hl).mono fun e w' h => ?_
 unfold EndsV at h ⊢
 split at h
 ·
  obtain ⟨v, a, q', b, c, d, f⟩ := h
  exact ⟨v, a, f, q', b, c, d⟩
 ·
  exact h
theorem painted_e1 {v : Vw} {fill : Int} {st : Bool} {k : Int} (h : fillV v fill = .error k) : paintedV v fill st = .error k := bind_err h
theorem painted_1 {v v1 : Vw} {fill : Int} {st : Bool} (h : fillV v fill = .ok v1) : paintedV v fill st = (strokeV v v1 st >>= fun v2 => clippedV v >>= fun cl => .ok { v2 with s := { v.s with clips := cl }, clip := 0, path := path0 }) := bind_ok h
theorem clipped_yes {v : Vw} (h : v.clip > 0) : clippedV v = (wantV (decide (v.path.list.length > 0)) >>= fun _ => roomV (decide (v.s.clips.length < 16)) >>= fun _ => .ok (v.s.clips ++ [(⟨none, v.path.list, 0, decide (v.clip = 2)⟩ : ClipV)])) := if_pos h
theorem clipped_no {v : Vw} (h : ¬ v.clip > 0) : clippedV v = .ok v.s.clips := if_neg h
theorem bldI3 (k : Int) (p : Option Addr) (l : List SegV) (c : Nat) (co : ColorV) (q : PenV) : Tryz.prog.built 44 [(0, .int .i64 k), (1, .slice p l.length c), (2, .agg (colorV co).toArray), (4, .agg (penV q).toArray)] = some (itemV ⟨k, p, l, c, co, none, [], 0, q, 0, 0, 0, 0, 0, 0, 0, none, [], 0⟩).toArray := by kernel_rfl
theorem bldI1 (k : Int) (p : Option Addr) (l : List SegV) (c : Nat) (co : ColorV) : Tryz.prog.built 44 [(0, .int .i64 k), (1, .slice p l.length c), (2, .agg (colorV co).toArray)] = some (itemV ⟨k, p, l, c, co, none, [], 0, penZ, 0, 0, 0, 0, 0, 0, 0, none, [], 0⟩).toArray := by kernel_rfl
theorem item3 {yp : Option Addr} {l : List SegV} {yc : Nat} {co : ColorV} {q1 q : PenV} {cl : List ClipV} (h : penE q1 = q) : itemP 3 l co q cl = { itemE ⟨3, yp, l, yc, co, none, [], 0, q1, 0, 0, 0, 0, 0, 0, 0, none, [], 0⟩ with fClips := cl } := by rw [← h]; rfl
theorem nostr {n : Nat} {b : Bool} (h : (decide (n > 0) && b) = false) (hc : n > 0 ∧ b = true) : False := by
 rw [decide_eq_true hc.1, hc.2] at h; cases h
structure PthP (B bp : Nat) (P : PathP) (v : Value) (w : World) : Prop where
 at' : PthAt B w bp 4096 P v
 lb : B ≤ bp
theorem PthP.same {B bp : Nat} {P : PathP} {v : Value} {w w1 : World} (h : PthP B bp P v w) (hb : ∀ k, k = bp ∨ v.ownBlock = some k → k < w.heap.size → w1.heap[k]? = w.heap[k]?) : PthP B bp P v w1 := by
 have hk := (hb bp (.inl rfl) h.at'.blk.lt).trans h.at'.blk
 have hl := (Array.getElem?_eq_some_iff.1 hk).1
 have a := h.lb
 exact ⟨⟨hk, h.at'.own.same fun g hg => hb g (.inr hg) (h.at'.own.lt g hg).2, h.at'.len, by omega⟩, h.lb⟩
theorem fill_yes {v : Vw} {fill : Int} (h1 : v.path.list.length > 0) (h2 : fill > 0) : fillV v fill = addV v (itemP fill v.path.list v.s.fill penZ v.s.clips) := if_pos ⟨h1, h2⟩
theorem fill_no {v : Vw} {fill : Int} (h : ¬ (v.path.list.length > 0 ∧ fill > 0)) : fillV v fill = .ok v := if_neg h
theorem stroke_yes {v v1 : Vw} {b : Bool} (h1 : v.path.list.length > 0) (h2 : b = true) : strokeV v v1 b = (scaledV v.s >>= fun p => addV v1 (itemP 3 v.path.list v.s.stroke p v.s.clips)) := if_pos ⟨h1, h2⟩
theorem stroke_no {v v1 : Vw} {b : Bool} (h : ¬ (v.path.list.length > 0 ∧ b = true)) : strokeV v v1 b = .ok v1 := if_neg h
theorem addV_ok {v v1 : Vw} {x : ItemV} (h : addV v x = .ok v1) : v1.s = v.s ∧ v1.path = v.path ∧ v1.clip = v.clip := by
 unfold addV at h
 obtain ⟨u, -, h⟩ := bindE h
 cases h
 exact ⟨rfl, rfl, rfl⟩
structure Ptd (V V1 : Vw) : Prop where
 s : V1.s = V.s
 path : V1.path = V.path
 clip : V1.clip = V.clip
section
variable {B : Nat} {fs : Fcx} {w w1 : World} {bv : Nat} {F : Nat → Prop} {V : Vw} {args : List PV}
set_option maxHeartbeats 3200000 in
theorem vw_painted (fill : Int) (stroke : Bool) (h : Vwr B fs w bv F V args) (hsn : SndV V) (hf : fill = 0 ∨ fill = 1 ∨ fill = 2) :
    Calls Tryz.prog 85 #[.pointer (some ⟨bv, 0, none⟩), .int .i64 fill, .bool stroke] w (VwE B fs bv F w (paintedV V fill stroke) args) := by
  obtain ⟨h5, eS⟩ := h.base; have h0 := h; have d8 := h.lt; obtain ⟨H, vp, its, hs, cs, h7, hO, eT⟩ := h.mem; have f7 := VwrN.of h0; have eU := hO.blk; have hP := hO.pth; have h8 := hP.len; have eV : H.s.fill = V.s.fill := eT.st.fill; have aX : ∀ {F1 : Nat → Prop} {w1 : World}, Chg F F1 w w1 → Below B w w1 := fun h => h.below eS (fun g hg => (d8 g hg).1)
  obtain ⟨R, hD⟩ : ∃ R, paintedV V fill stroke = R := ⟨_, rfl⟩; rw [hD]; refine W.e func85 rfl ntmps85 bL ?_; have fI := Chg.refl F w; refine W.sr <| WL.M rfl <| WL.O (.nck rfl) <| WL.O (.fa u74_ rfl s69_ dD rfl) <| WL.R (Rd.ld (g69_ _) rfl eU rfl) <| WL.call hB_ rfl rfl ((pth_Segments B H.path 4096 vp V.path _ hP)) (fun x w1 co => ?_); have b1 := vs_ (w1 := w1) f7 (fun k hk hl => co.1.block k hl); have fJ := eU.bl co.1; have cq := Chg.low fI co.1; have hx := co.2; obtain ⟨xp, xc⟩ := x; obtain ⟨p5, c5, e5, fK⟩ := Row3.own (Z := Frz fs.c F w1) hx (fun g hg => ⟨(hx.lt g hg).2, fun hf => by have := d8 g hf; have := (hx.lt g hg).1; omega, by have := eT.cx; have := (hx.lt g hg).1; omega⟩); cases e5; have bn := StN.of (Q := fun w => Row3 segL (Frz fs.c F w) w xp V.path.list xc) fK; refine WL.Z rfl <| W.cut (α := (Nat → Prop) × Vw) (fun t => [(0, .pointer (some ⟨bv, 0, none⟩)), (2, .bool stroke), (6, .slice xp V.path.list.length xc)]) (fun t w' => Vwr B fs w' bv t.1 t.2 args ∧ Chg F t.1 w w' ∧ Row3 segL (Frz fs.c t.1 w') w' xp V.path.list xc ∧ fillV V fill = .ok t.2 ∧ Ptd V t.2) ?_ (fun t w1 hR => ?_); refine W.cutB 18 (decide (V.path.list.length > 0 ∧ fill > 0)) ?_ ?_; refine W.reg <| WL.M rfl <| WL.O (.lenS u34_ rfl) <| WL.O (.gtr rfl rfl) <| WL.M rfl <| WL.gd rfl rfl rfl (fun g5 => ?_) (fun g5 => ?_)
  · have fL := dT g5
    refine WL.M rfl <| WL.Y g5 <| WL.O (.gtr rfl rfl) <| WL.O (.pkT rfl g5 rfl) <| WL.e <| ?_; exact ⟨leE (lk_b rfl (by first | (simp; omega) | (exfalso; simp_all; omega) | (simp_all; done))), rfl⟩
  have fL := dF g5; refine WL.N g5 <| WL.O (.pkF rfl g5 rfl) <| WL.e <| ?_; exact ⟨leE (lk_b rfl (by first | (simp; omega) | (exfalso; simp_all; omega) | (simp_all; done))), rfl⟩; refine W.cond rfl (fun h6 => ?_) (fun h6 => ?_)
  · have fM := dT h6
    have bo : V.path.list.length > 0 ∧ fill > 0 := dT aS; refine W.reg <| WL.M rfl <| WL.M rfl <| WL.M rfl <| WL.M rfl <| WL.O (.nck rfl) <| WL.O (.fa u74_ rfl s68_ dD rfl) <| WL.O (.fa u68_ rfl s37_ dD rfl) <| WL.R (Rd.ldF (L := colorL) u37_ rfl isz37 fJ (H.s.fill) (rfl) rfl) <| ?_; refine WL.O (.build rfl (bldI1 fill xp V.path.list xc H.s.fill)) ?_; refine WL.cx hB_ rfl rfl ((vw_add ⟨fill, xp, V.path.list, xc, H.s.fill, none, [], 0, penZ, 0, 0, 0, 0, 0, 0, 0, none, [], 0⟩ (b1).get hsn.s ⟨Row3.ofN bn, Row3.nil _ _ _, fun y hy => (by cases hy), Row3.nil _ _ _, Byt3.nil _ _⟩ ⟨rfl, rfl, rfl⟩)) (fun k9 w7 a3 d9 => ?_) (fun a8 h9 w7 a3 d9 => ?_); exact pn_is (ee_ k9 (by rw [← hD]; exact painted_e1 ((fill_yes bo.1 bo.2).trans ((by rw [eV]; rfl : _ = addV V _).trans a3))) (bt_ (aX cq) d9)); obtain ⟨rfl, F1, b2, eW⟩ := d9; have b3 := (Row3.ofN bn).mv (Frz.mv eW); have au := ct_ cq eW; have eX : fillV V fill = .ok a8 := (fill_yes bo.1 bo.2).trans ((by rw [eV]; rfl : _ = addV V _).trans a3); refine WL.e <| ?_
    first
    | exact ⟨(F1, _), ⟨rfl, rfl, rfl, tT⟩, b2, au, b3, eX, ⟨(addV_ok a3).1, (addV_ok a3).2.1, (addV_ok a3).2.2⟩⟩
    | exact ⟨(F, V), ⟨rfl, rfl, rfl, tT⟩, (b1).get, cq, Row3.ofN bn, fill_no (dF aS), ⟨rfl, rfl, rfl⟩⟩
  have fM := dF h6; refine W.k ?_
  first
  | exact ⟨(F1, _), ⟨rfl, rfl, rfl, tT⟩, b2, au, b3, eX, ⟨(addV_ok a3).1, (addV_ok a3).2.1, (addV_ok a3).2.2⟩⟩
  | exact ⟨(F, V), ⟨rfl, rfl, rfl, tT⟩, (b1).get, cq, Row3.ofN bn, fill_no (dF aS), ⟨rfl, rfl, rfl⟩⟩
  obtain ⟨⟨F1, V1⟩, bH⟩ : ∃ u, u = t := ⟨t, rfl⟩; subst bH; obtain ⟨j1, j2, j3, j4, d⟩ := hR; simp only at j1 j2 j3 j4 d; rw [painted_1 j4] at hD; have b2 := VwrN.of j1; have b3 := StN.of (Q := fun w => Row3 segL (Frz fs.c F1 w) w xp V.path.list xc) j3; have b4 := j1.lt; obtain ⟨H1, ha, gK, hb, hd, gL, fN, c7⟩ := j1.mem; have f8 := fN.blk; have aO : H1.s.stroke = V.s.stroke := by rw [c7.st.stroke, d.s]
  have f9 := StN.of (Q := fun w => StR (Frz fs.c F1 w) w H1.s V1.s) c7.st; have gM := c7.cx; refine W.cut (α := (Nat → Prop) × Vw) (fun t => [(0, .pointer (some ⟨bv, 0, none⟩)), (6, .slice xp V.path.list.length xc)]) (fun t w' => Vwr B fs w' bv t.1 t.2 args ∧ Chg F t.1 w w' ∧ Row3 segL (Frz fs.c t.1 w') w' xp V.path.list xc ∧ (clippedV V >>= fun cl => (.ok { t.2 with s := { V.s with clips := cl }, clip := 0, path := path0 } : Except Int Vw)) = R ∧ Ptd V t.2) ?_ (fun t w1 hR => ?_); refine W.cutB 34 ((decide (V.path.list.length > 0) && stroke)) ?_ ?_; refine W.reg <| WL.M rfl <| WL.O (.lenS u34_ rfl) <| WL.O (.gtr rfl rfl) <| WL.M rfl <| WL.gd rfl rfl rfl (fun bI => ?_) (fun bI => ?_)
  · have fb := dT bI
    refine WL.M rfl <| WL.O (.pkT rfl bI rfl) <| WL.e <| ?_; exact ⟨leE (lk_b rfl (by first | (simp; omega) | (exfalso; simp_all; omega) | (simp_all; done))), rfl⟩
  have fb := dF bI; refine WL.O (.pkF rfl bI rfl) <| WL.e <| ?_; exact ⟨leE (lk_b rfl (by first | (simp; omega) | (exfalso; simp_all; omega) | (simp_all; done))), rfl⟩; refine W.cond rfl (fun fO => ?_) (fun fO => ?_); have da : V.path.list.length > 0 ∧ stroke = true := by simpa using (show (decide (V.path.list.length > 0) && stroke) = true by assumption)
  have fc : strokeV V V1 stroke = (scaledV V.s >>= fun p => addV V1 (itemP 3 V.path.list V.s.stroke p V.s.clips)) := stroke_yes da.1 da.2; rw [fc] at hD; refine W.regH 12 rfl mixed (fun w' => True ∧ True) (fun db b5 => ?_); have dc := vs_ (w1 := db) b2 (fun k hk hl => (by obtain ⟨m, rfl⟩ := b5; rfl)); have aP := ss_ (w1 := db) b3 (fun k hk hl => (by obtain ⟨m, rfl⟩ := b5; rfl)); have dd := ss_ (w1 := db) f9 (fun k hk hl => (by obtain ⟨m, rfl⟩ := b5; rfl)); have c8 := f8.drew b5; have de := Chg.drew j2 b5; refine WH.tp 0 rfl (.mv rfl) ⟨trivial, tT⟩ rfl ?_; refine WH.tp 1 rfl (.mv rfl) ⟨trivial, tT⟩ rfl ?_; refine WH.tp 3 rfl (.mv rfl) ⟨trivial, tT⟩ rfl ?_; refine WH.tp 4 rfl (.nck rfl) ⟨trivial, tT⟩ rfl ?_; refine WH.tp 5 rfl (.fa u74_ rfl s68_ dD rfl) ⟨trivial, tT⟩ rfl ?_; refine WH.tp 6 rfl (.fa u68_ rfl s37_ dD rfl) ⟨trivial, tT⟩ rfl ?_; refine WH.tp 8 rfl (.mv rfl) ⟨trivial, tT⟩ rfl ?_; refine WH.br2 2 rfl 7 rfl ?_ ?_; refine WL.call hB_ rfl rfl ((lib_CloneSeg xp V.path.list xc _ (Row3.ofN aP).row oO)) (fun y cr aQ => ?_); have df := vs_ (w1 := cr) dc (fun k hk hl => aQ.1.block k hl); have bp := ss_ (w1 := cr) aP (fun k hk hl => aQ.1.block k hl); have dg := ss_ (w1 := cr) dd (fun k hk hl => aQ.1.block k hl); have bq := c8.bl aQ.1; have bt := Chg.low de aQ.1; have hy := aQ.2; obtain ⟨yp, yc⟩ := y; have b6 := (StN.size aP); obtain ⟨p6, c6, e6, dh⟩ := Row3.own (Z := Frz fs.c F1 cr) hy (fun g hg => ⟨(hy.lt g hg).2, fun hf => by have := b4 g hf; have := (hy.lt g hg).1; omega, by have := (hy.lt g hg).1; omega⟩); cases e6; have bu := StN.of (Q := fun w => Row3 segL (Frz fs.c F1 w) w yp V.path.list yc) dh; refine WL.e <| ⟨⟨trivial, tT⟩, ?_⟩; refine WH.br2 7 rfl 9 rfl ?_ ?_; refine WL.R (Rd.ldF (L := colorL) u37_ rfl isz37 bq (H1.s.stroke) (rfl) rfl) <| WL.e <| ⟨⟨trivial, tT⟩, ?_⟩; refine WH.br1 9 rfl <| WL.cx hB_ rfl rfl ((vw_scaledV bq (StR.ofN dg) (by rw [d.s]; exact hsn.s.pen))) (fun fP ct av am => ?_) (fun fQ he ct av am => ?_); have di := Chg.low bt am; exact pn_is (ee_ fP (by rw [d.s] at av; rw [← hD, bind_err av]; rfl) (aX di)); have dj := vs_ (w1 := ct) df (fun k hk hl => am.1.block k hl); have dk := ss_ (w1 := ct) bp (fun k hk hl => am.1.block k hl); have fd := ss_ (w1 := ct) bu (fun k hk hl => am.1.block k hl); have ca := Chg.low bt am.1; obtain ⟨qq, rfl⟩ : ∃ x, x = fQ := ⟨_, rfl⟩
  obtain ⟨q1, bJ, aY, bK⟩ := am.2; subst bJ; have dl := (StN.size bp); have bM := StN.of (Q := fun w => Row3 ivL (Frz fs.c F1 w) w q1.pfDash q1.fDash q1.cfDash) (bK.mono (fun g hg => ⟨hg.2, fun hf => by have := b4 g hf; have := hg.1; omega, by have := hg.1; omega⟩)); rw [d.s] at av; rw [bind_ok av] at hD; refine WL.e <| ⟨⟨trivial, tT⟩, ?_⟩; refine WH.tp 10 rfl (.build rfl (bldI3 3 yp V.path.list yc H1.s.stroke q1)) ⟨trivial, tT⟩ rfl ?_; refine WH.br1 11 rfl <| WL.cx hB_ rfl rfl ((vw_add ⟨3, yp, V.path.list, yc, H1.s.stroke, none, [], 0, q1, 0, 0, 0, 0, 0, 0, 0, none, [], 0⟩ (dj).get (by rw [d.s]; exact hsn.s) ⟨Row3.ofN fd, Row3.nil _ _ _, fun y hy => (by cases hy), Row3.ofN bM, Byt3.nil _ _⟩ ⟨rfl, rfl, rfl⟩)) (fun fR fS ae cb => ?_) (fun hh hi fS ae cb => ?_); exact pn_is (ee_ fR (by rw [← hD]; exact bind_err ((by rw [aO, item3 (yp := yp) (yc := yc) aY, d.s] : addV V1 (itemP 3 V.path.list V.s.stroke qq V.s.clips) = addV V1 _).trans ae)) (bt_ (aX ca) cb)); obtain ⟨rfl, F2, aR, aZ⟩ := cb; have aT := (Row3.ofN dk).mv (Frz.mv aZ); have au := ct_ ca aZ; have bk := bind_ok (f := fun v2 => clippedV V >>= fun cl => (.ok { v2 with s := { V.s with clips := cl }, clip := 0, path := path0 } : Except Int Vw)) ((by rw [aO, item3 (yp := yp) (yc := yc) aY, d.s] : addV V1 (itemP 3 V.path.list V.s.stroke qq V.s.clips) = addV V1 _).trans ae); refine WL.e <| ⟨⟨trivial, tT⟩, ?_⟩; refine WH.done kR ?_
  first
  | exact ⟨(F2, _), ⟨rfl, rfl, tT⟩, aR, au, aT, bk.symm.trans hD, ⟨(addV_ok ae).1.trans d.s, (addV_ok ae).2.1.trans d.path, (addV_ok ae).2.2.trans d.clip⟩⟩
  | exact ⟨(F1, V1), ⟨rfl, rfl, tT⟩, (dj).get, ca, Row3.ofN dk, (bind_ok (stroke_no (fun hc => by exact nostr aS hc))).symm.trans hD, d⟩
  refine WL.cx hB_ rfl rfl ((vw_scaledV bq (StR.ofN dg) (by rw [d.s]; exact hsn.s.pen))) (fun fT cu aw a9 => ?_) (fun fU hj cu aw a9 => ?_); have dm := Chg.low bt a9; exact pn_is (ee_ fT (by rw [d.s] at aw; rw [← hD, bind_err aw]; rfl) (aX dm)); have dn := vs_ (w1 := cu) df (fun k hk hl => a9.1.block k hl); have dp := ss_ (w1 := cu) bp (fun k hk hl => a9.1.block k hl); have fe := ss_ (w1 := cu) bu (fun k hk hl => a9.1.block k hl); have ff := bq.bl a9.1; have cc := Chg.low bt a9.1; obtain ⟨qq, rfl⟩ : ∃ x, x = fU := ⟨_, rfl⟩; obtain ⟨q1, bJ, aY, bK⟩ := a9.2; subst bJ; have dl := (StN.size bp); have bM := StN.of (Q := fun w => Row3 ivL (Frz fs.c F1 w) w q1.pfDash q1.fDash q1.cfDash) (bK.mono (fun g hg => ⟨hg.2, fun hf => by have := b4 g hf; have := hg.1; omega, by have := hg.1; omega⟩)); rw [d.s] at aw; rw [bind_ok aw] at hD; refine WL.e <| ⟨⟨trivial, tT⟩, ?_⟩; refine WH.br1 7 rfl <| WL.R (Rd.ldF (L := colorL) u37_ rfl isz37 ff (H1.s.stroke) (rfl) rfl) <| WL.e <| ⟨⟨trivial, tT⟩, ?_⟩; refine WH.tp 10 rfl (.build rfl (bldI3 3 yp V.path.list yc H1.s.stroke q1)) ⟨trivial, tT⟩ rfl ?_; refine WH.br1 11 rfl <| WL.cx hB_ rfl rfl ((vw_add ⟨3, yp, V.path.list, yc, H1.s.stroke, none, [], 0, q1, 0, 0, 0, 0, 0, 0, 0, none, [], 0⟩ (dn).get (by rw [d.s]; exact hsn.s) ⟨Row3.ofN fe, Row3.nil _ _ _, fun y hy => (by cases hy), Row3.ofN bM, Byt3.nil _ _⟩ ⟨rfl, rfl, rfl⟩)) (fun fV fW af cd => ?_) (fun hm hn fW af cd => ?_); exact pn_is (ee_ fV (by rw [← hD]; exact bind_err ((by rw [aO, item3 (yp := yp) (yc := yc) aY, d.s] : addV V1 (itemP 3 V.path.list V.s.stroke qq V.s.clips) = addV V1 _).trans af)) (bt_ (aX cc) cd)); obtain ⟨rfl, F2, aR, aZ⟩ := cd; have aT := (Row3.ofN dp).mv (Frz.mv aZ); have au := ct_ cc aZ; have bk := bind_ok (f := fun v2 => clippedV V >>= fun cl => (.ok { v2 with s := { V.s with clips := cl }, clip := 0, path := path0 } : Except Int Vw)) ((by rw [aO, item3 (yp := yp) (yc := yc) aY, d.s] : addV V1 (itemP 3 V.path.list V.s.stroke qq V.s.clips) = addV V1 _).trans af); refine WL.e <| ⟨⟨trivial, tT⟩, ?_⟩; refine WH.done kR ?_
  first
  | exact ⟨(F2, _), ⟨rfl, rfl, tT⟩, aR, au, aT, bk.symm.trans hD, ⟨(addV_ok af).1.trans d.s, (addV_ok af).2.1.trans d.path, (addV_ok af).2.2.trans d.clip⟩⟩
  | exact ⟨(F1, V1), ⟨rfl, rfl, tT⟩, (dn).get, cc, Row3.ofN dp, (bind_ok (stroke_no (fun hc => by exact nostr aS hc))).symm.trans hD, d⟩
  refine WL.R (Rd.ldF (L := colorL) u37_ rfl isz37 c8 (H1.s.stroke) (rfl) rfl) <| WL.e <| ⟨⟨trivial, tT⟩, ?_⟩; refine WH.br1 2 rfl <| WL.call hB_ rfl rfl ((lib_CloneSeg xp V.path.list xc _ (Row3.ofN aP).row oO)) (fun y cw aU => ?_); have fg := vs_ (w1 := cw) dc (fun k hk hl => aU.1.block k hl); have dq := ss_ (w1 := cw) aP (fun k hk hl => aU.1.block k hl); have fh := ss_ (w1 := cw) dd (fun k hk hl => aU.1.block k hl); have fj := c8.bl aU.1; have dr := Chg.low de aU.1; have hy := aU.2; obtain ⟨yp, yc⟩ := y; have b6 := (StN.size aP); obtain ⟨p6, c6, e6, dh⟩ := Row3.own (Z := Frz fs.c F1 cw) hy (fun g hg => ⟨(hy.lt g hg).2, fun hf => by have := b4 g hf; have := (hy.lt g hg).1; omega, by have := (hy.lt g hg).1; omega⟩); cases e6; have bu := StN.of (Q := fun w => Row3 segL (Frz fs.c F1 w) w yp V.path.list yc) dh; refine WL.e <| ⟨⟨trivial, tT⟩, ?_⟩; refine WH.br1 9 rfl <| WL.cx hB_ rfl rfl ((vw_scaledV fj (StR.ofN fh) (by rw [d.s]; exact hsn.s.pen))) (fun fX cy ax an => ?_) (fun fY ho cy ax an => ?_); have ds := Chg.low dr an; exact pn_is (ee_ fX (by rw [d.s] at ax; rw [← hD, bind_err ax]; rfl) (aX ds)); have dt := vs_ (w1 := cy) fg (fun k hk hl => an.1.block k hl); have du := ss_ (w1 := cy) dq (fun k hk hl => an.1.block k hl); have fk := ss_ (w1 := cy) bu (fun k hk hl => an.1.block k hl); have cf := Chg.low dr an.1; obtain ⟨qq, rfl⟩ : ∃ x, x = fY := ⟨_, rfl⟩; obtain ⟨q1, bJ, aY, bK⟩ := an.2; subst bJ; have dl := (StN.size dq); have bM := StN.of (Q := fun w => Row3 ivL (Frz fs.c F1 w) w q1.pfDash q1.fDash q1.cfDash) (bK.mono (fun g hg => ⟨hg.2, fun hf => by have := b4 g hf; have := hg.1; omega, by have := hg.1; omega⟩)); rw [d.s] at ax; rw [bind_ok ax] at hD; refine WL.e <| ⟨⟨trivial, tT⟩, ?_⟩; refine WH.tp 10 rfl (.build rfl (bldI3 3 yp V.path.list yc H1.s.stroke q1)) ⟨trivial, tT⟩ rfl ?_; refine WH.br1 11 rfl <| WL.cx hB_ rfl rfl ((vw_add ⟨3, yp, V.path.list, yc, H1.s.stroke, none, [], 0, q1, 0, 0, 0, 0, 0, 0, 0, none, [], 0⟩ (dt).get (by rw [d.s]; exact hsn.s) ⟨Row3.ofN fk, Row3.nil _ _ _, fun y hy => (by cases hy), Row3.ofN bM, Byt3.nil _ _⟩ ⟨rfl, rfl, rfl⟩)) (fun fZ f' D cg => ?_) (fun hp hr f' D cg => ?_); exact pn_is (ee_ fZ (by rw [← hD]; exact bind_err ((by rw [aO, item3 (yp := yp) (yc := yc) aY, d.s] : addV V1 (itemP 3 V.path.list V.s.stroke qq V.s.clips) = addV V1 _).trans D)) (bt_ (aX cf) cg))
  obtain ⟨rfl, F2, aR, aZ⟩ := cg; have aT := (Row3.ofN du).mv (Frz.mv aZ); have au := ct_ cf aZ; have bk := bind_ok (f := fun v2 => clippedV V >>= fun cl => (.ok { v2 with s := { V.s with clips := cl }, clip := 0, path := path0 } : Except Int Vw)) ((by rw [aO, item3 (yp := yp) (yc := yc) aY, d.s] : addV V1 (itemP 3 V.path.list V.s.stroke qq V.s.clips) = addV V1 _).trans D); refine WL.e <| ⟨⟨trivial, tT⟩, ?_⟩; refine WH.done kR ?_
  first
  | exact ⟨(F2, _), ⟨rfl, rfl, tT⟩, aR, au, aT, bk.symm.trans hD, ⟨(addV_ok D).1.trans d.s, (addV_ok D).2.1.trans d.path, (addV_ok D).2.2.trans d.clip⟩⟩
  | exact ⟨(F1, V1), ⟨rfl, rfl, tT⟩, (dt).get, cf, Row3.ofN du, (bind_ok (stroke_no (fun hc => by exact nostr aS hc))).symm.trans hD, d⟩
  refine W.k ?_
  first
  | exact ⟨(F2, _), ⟨rfl, rfl, tT⟩, aR, au, aT, bk.symm.trans hD, ⟨(addV_ok D).1.trans d.s, (addV_ok D).2.1.trans d.path, (addV_ok D).2.2.trans d.clip⟩⟩
  | exact ⟨(F1, V1), ⟨rfl, rfl, tT⟩, (b2).get, j2, Row3.ofN b3, (bind_ok (stroke_no (fun hc => by exact nostr aS hc))).symm.trans hD, d⟩
  obtain ⟨⟨F2, V2⟩, bH⟩ : ∃ u, u = t := ⟨t, rfl⟩; subst bH; obtain ⟨k1, k2, k3, G, k5⟩ := hR; obtain ⟨wJ, g0⟩ : ∃ u, u = w1 := ⟨_, rfl⟩; subst g0; simp only at k1 k2 k3 G k5; have eY := aX k2; have aa := k1.lt; obtain ⟨H2, E, fl, g1, g2, dv, bm, bw⟩ := k1.mem; have ao := bm.blk; have b7 := bm.pth; obtain ⟨pvc, cvc, lcl, evc, J, q, j⟩ := bw.st.clips; have gN := bw.cx; have dw : H2.clip = V.clip := by rw [bw.clip, k5.clip]
  have gO : lcl.length = V.s.clips.length := by rw [← k5.s, ← j, List.length_map]
  have gP := (clipsB_len (l := lcl) (by rw [j, k5.s]; exact hsn.s.clips)).1; obtain ⟨⟨ctm, fi, sk, pe, clv, fn, sz⟩, fo, sa, pa, a', a7, lo, te, li, ar, itv⟩ := H2; simp only at evc dw; subst evc; have gI := ao.lt; have g3 : ∀ g ∈ [bv, pa, vb E pa], ∃ t' ∈ [74, 97, 94], tyAt wJ g t' := fun g hg => by
    rcases List.mem_cons.1 hg with rfl | hg
    · exact ⟨_, by simp, ao.ty⟩
    · obtain ⟨t', h1, h2⟩ := two_ty b7.own b7.blk.ty g hg
      exact ⟨t', List.mem_cons_of_mem _ h1, h2⟩
  have b1 : ∀ g ∈ [bv, pa, vb E pa], F2 g := fun g hg => by
    rw [dv]; rcases List.mem_cons.1 hg with rfl | hg
    · exact .inl rfl
    · exact (two_F (N := g + 1) (F := VwF bv ⟨⟨ctm, fi, sk, pe, .slice pvc lcl.length cvc, fn, sz⟩, fo, sa, pa, a', a7, lo, te, li, ar, itv⟩ E) (fun g hg => .inr (.inr (.inl hg))) (.inr (.inl rfl)) g hg).elim id (fun h => ab_ h oO)
  have a : ∀ {w2 : World}, KeepB wJ.heap.size [bv, pa, vb E pa] wJ w2 → Chg F2 F2 wJ w2 := fun hK => Chg.of_keep hK (fun g hg => .inl (b1 g hg)) (fun g hg => .inl hg)
  have eZ : ∀ {w2 : World}, KeepB wJ.heap.size [bv, pa, vb E pa] wJ w2 → Below B w w2 := fun hK => bt_ eY ((a hK).below (nt_ eS eY.size) (fun g hg => (aa g hg).1))
  obtain ⟨ap, aq⟩ : bv ≠ pa ∧ bv ≠ vb E pa := ty_ne b7 ao; have fm : pa < wJ.heap.size := b7.blk.lt; have gQ : vb E pa < wJ.heap.size := vb_lt b7.own fm; have b0 := KeepB.refl wJ.heap.size [bv, pa, vb E pa] wJ; have ci : PthP B pa V2.path E wJ := ⟨b7, bm.lbp⟩; have aV := b7.own.lt; refine W.cut (α := Option Addr × List ClipV × Nat) (fun t => [(0, .pointer (some ⟨bv, 0, none⟩))]) (fun t w' => KeepB wJ.heap.size [bv, pa, vb E pa] wJ w' ∧ Blk w' bv (vwC ⟨⟨ctm, fi, sk, pe, .slice t.1 t.2.1.length t.2.2, fn, sz⟩, fo, sa, pa, a', a7, lo, te, li, ar, itv⟩).toArray 74 ∧ Row3 clipL (Frz fs.c F2 w') w' t.1 t.2.1 t.2.2 ∧ (∀ y ∈ t.2.1, ClipR (Frz fs.c F2 w') w' y) ∧ .ok { V2 with s := { V.s with clips := t.2.1.map clipE }, clip := 0, path := path0 } = R ∧ PthP B pa V2.path E w') ?_ (fun t w1 hR => ?_); refine W.sr <| WL.M rfl <| WL.O (.nck rfl) <| WL.O (.fa u74_ rfl s3_ dD rfl) <| WL.R (Rd.ld (g3_ _) rfl ao rfl) <| WL.O (.gtr rfl rfl) <| WL.e <| W.cond rfl (fun dx => ?_) (fun dx => ?_)
  · have fp := dT dx
    have dy := clipped_yes (v := V) (by first | omega | (simp only at *; omega)); rw [dy] at G; refine W.sr <| WL.M rfl <| WL.O (.lenS u34_ rfl) <| WL.O (.bis (decide (V.path.list.length > 0)) (.gtr rfl rfl) (by exact decide_eq_decide.2 oO)) <| WL.ce hB_ rfl rfl ((vw_want _ _)) (fun g4 e' bx b8 => ?_) (fun ht e' bx b8 => ?_); have dz := kB b0 b8; exact pn_is (ee_ g4 (by rw [← G]; exact bind_err (bind_err bx)) (eZ dz)); have fq := PthP.same (w1 := e') ci (fun k hk hl => b8.block k hl); have dA := ao.bl b8; have dB := kB b0 b8; rw [bind_ok bx] at G; refine WL.e <| W.sr <| WL.M rfl <| WL.O (.nck rfl) <| WL.O (.fa u74_ rfl s68_ dD rfl) <| WL.O (.fa u68_ rfl s38_ dD rfl) <| WL.R (Rd.ld (g38_ _) rfl dA rfl) <| WL.O (.lenS u38_ rfl) <| WL.O (.bis (decide (V.s.clips.length < 16)) (.lss rfl rfl) (by exact decide_eq_decide.2 oO)) <| WL.ce hB_ rfl rfl ((vw_room _ _)) (fun g6 f0 bz b9 => ?_) (fun hu f0 bz b9 => ?_); have dC := kB dB b9; exact pn_is (ee_ g6 (by rw [← G]; exact bind_err (bind_err bz)) (eZ dC)); have fr := PthP.same (w1 := f0) fq (fun k hk hl => b9.block k hl); have ft := dA.bl b9; have fu := kB dB b9; rw [bind_ok bz] at G; refine WL.e <| W.regH 20 rfl mixed (fun w' => True ∧ True) (fun g7 cj => ?_); have aW := PthP.same (w1 := g7) fr (fun k hk hl => (by obtain ⟨m, rfl⟩ := cj; rfl)); have C := ft.drew cj; have n := kt_ fu (kd_ cj); refine WH.tp 0 rfl (.mv rfl) ⟨trivial, tT⟩ rfl ?_; refine WH.tp 1 rfl (.mv rfl) ⟨trivial, tT⟩ rfl ?_; refine WH.tp 2 rfl (.nck rfl) ⟨trivial, tT⟩ rfl ?_; refine WH.tp 3 rfl (.fa u74_ rfl s68_ dD rfl) ⟨trivial, tT⟩ rfl ?_; refine WH.tp 4 rfl (.fa u68_ rfl s38_ dD rfl) ⟨trivial, tT⟩ rfl ?_; refine WH.tp 7 rfl (.mv rfl) ⟨trivial, tT⟩ rfl ?_; refine WH.tp 8 rfl (.mv rfl) ⟨trivial, tT⟩ rfl ?_; refine WH.tp 9 rfl (.nck rfl) ⟨trivial, tT⟩ rfl ?_; refine WH.tp 10 rfl (.fa u74_ rfl s3_ dD rfl) ⟨trivial, tT⟩ rfl ?_; refine WH.br2 5 rfl 11 rfl ?_ ?_; refine WL.R (Rd.ld (g38_ _) rfl C rfl) <| WL.e <| ⟨⟨trivial, tT⟩, ?_⟩; refine WH.br2 6 rfl 11 rfl ?_ ?_; refine WL.call hB_ rfl rfl ((lib_CloneClip pvc lcl cvc _ (J.mv (Frz.mv (a n))).row oO)) (fun y g8 ba => ?_); have fv := PthP.same (w1 := g8) aW (fun k hk hl => ba.1.block k hl); have ck := C.bl ba.1; have dE := kB n ba.1; have hy := ba.2; obtain ⟨yp, yc⟩ := y
    have b6 := n.size; have A := (ba.1).size; have i := hy.lt; refine WL.e <| ⟨⟨trivial, tT⟩, ?_⟩; refine WH.br1 11 rfl <| WL.R (Rd.ld (g3_ _) rfl ck rfl) <| WL.e <| ⟨⟨trivial, tT⟩, ?_⟩; refine WH.tp 12 rfl (.bis (decide (V.clip = 2)) (.eql rfl rfl) (by exact decide_eq_decide.2 (by first | omega | (simp only at *; omega)))) ⟨trivial, tT⟩ rfl ?_; refine WH.tp 13 rfl (.buildL (ps := _) blt61 rfl rfl rfl pS) ⟨trivial, tT⟩ rfl ?_; refine WH.br1 14 rfl <| WL.bslM (L := clipL) (ps := _) ([(⟨xp, V.path.list, xc, decide (V.clip = 2)⟩ : ClipV)]) u38_ s61_ z61_ rfl rfl rfl rfl rfl (by first | rfl | decide) rfl rfl (fun f1 dG cm dX ay gJ => ?_); have cz := nt_ A ay.size; have fw := on_ hy cm ay; have fx := PthP.same (w1 := dG) fv (fun k hk hl => ay.other k oO); have fy := bgl cm ck.lt; have fz := ck.un ay fy; have dH : wJ.heap.size ≤ f1 := by rw [cm]; exact dE.size
    have cA := kt_ dE (kn_ ay dH); have g9 : f1 ≤ dG.heap.size := by omega
    refine WL.e <| ⟨⟨trivial, tT⟩, ?_⟩; refine WH.br1 15 rfl <| WL.appM u38_ inf61 rfl rfl rfl fw rfl (dX).rowp (by simp only [List.length_cons, List.length_nil]; omega) (cz) rfl (fun h => ab_ h (lc_ _ _)) (fun gR gS az bN bO ga => ?_); have dY := fz.below bN oO; have dZ := PthP.same fx (fun k hk hl => bO.block k hl (fun e => by rcases hk with rfl | hk; (have := i _ e.symm; omega); (have := i _ e.symm; have := aV _ hk; omega))); have d' := kt_ cA (KeepB.of_grown bO (fun g hg => .inr (by have := i g hg; omega)) cA.size); have dI := nt_ cz bN.size; obtain ⟨pv, cv, evv, -⟩ := (az).row; subst evv; refine WL.e <| ⟨⟨trivial, tT⟩, ?_⟩; refine WH.tp 16 rfl (.nck rfl) ⟨trivial, tT⟩ rfl ?_; refine WH.tp 17 rfl (.fa u74_ rfl s68_ dD rfl) ⟨trivial, tT⟩ rfl ?_; refine WH.tp 18 rfl (.fa u68_ rfl s38_ dD rfl) ⟨trivial, tT⟩ rfl ?_; refine WH.br1 19 rfl <| WL.stC (o := 22) ((vwC ⟨⟨ctm, fi, sk, pe, .slice pv (lcl ++ [(⟨xp, V.path.list, xc, decide (V.clip = 2)⟩ : ClipV)]).length cv, fn, sz⟩, fo, sa, pa, a', a7, lo, te, li, ar, itv⟩).toArray) s38_ rfl (rfl) rfl ((az).one) dY bL (rfl) (fun bb aA K gb => ?_); have aA : Blk bb bv _ _ := aA; have K : Upd bv _ _ := K; have gc := nt_ dI K.size; have e0 := ou_ az K (fun g hg e => by have := (az).lt g hg; omega); have cB := PthP.same (w1 := bb) dZ (fun k hk hl => K.other k (fun e => by rcases hk with rfl | hk; exact ap e.symm; exact aq (e ▸ (vb_own hk).symm))); have ag := kU d' K; refine WL.e <| ⟨⟨trivial, tT⟩, ?_⟩; refine WH.done kR ?_
    first
    | (have b := e0
       obtain ⟨p9, c9, e9, P⟩ := Row3.own (Z := Frz fs.c F2 bb) b (fun g hg => ⟨(b.lt g hg).2, fun hf => by have := aa g hf; have := (b.lt g hg).1; omega, by have := (b.lt g hg).1; omega⟩); cases e9; have T : ∀ y ∈ lcl ++ [(⟨xp, V.path.list, xc, decide (V.clip = 2)⟩ : ClipV)], ClipR (Frz fs.c F2 bb) bb y := fun y hy => (List.mem_append.1 hy).elim (fun h => (q y h).mv (Frz.mv (a ag))) (fun h => by rw [List.mem_singleton.1 h]; exact k3.mv (Frz.mv (a ag)))
       exact ⟨(pv, lcl ++ [(⟨xp, V.path.list, xc, decide (V.clip = 2)⟩ : ClipV)], cv), ⟨rfl, tT⟩, ag, aA, P, T, by rw [← G, List.map_append, j, k5.s]; rfl, cB⟩)
    | exact ⟨(pvc, lcl, cvc), ⟨rfl, tT⟩, ag, aA, J.mv (Frz.mv (a ag)), fun y hy => (q y hy).mv (Frz.mv (a ag)), by rw [← G, j, k5.s] <;> rfl, cB⟩
    refine WL.R (Rd.ld (g3_ _) rfl C rfl) <| WL.e <| ⟨⟨trivial, tT⟩, ?_⟩; refine WH.tp 12 rfl (.bis (decide (V.clip = 2)) (.eql rfl rfl) (by exact decide_eq_decide.2 (by first | omega | (simp only at *; omega)))) ⟨trivial, tT⟩ rfl ?_; refine WH.tp 13 rfl (.buildL (ps := _) blt61 rfl rfl rfl pS) ⟨trivial, tT⟩ rfl ?_; refine WH.br2 6 rfl 14 rfl ?_ ?_; refine WL.call hB_ rfl rfl ((lib_CloneClip pvc lcl cvc _ (J.mv (Frz.mv (a n))).row oO)) (fun y fA aB => ?_); have e1 := PthP.same (w1 := fA) aW (fun k hk hl => aB.1.block k hl); have cC := C.bl aB.1; have cD := kB n aB.1; have hy := aB.2; obtain ⟨yp, yc⟩ := y; have b6 := n.size; have A := (aB.1).size; have i := hy.lt; refine WL.e <| ⟨⟨trivial, tT⟩, ?_⟩; refine WH.br1 14 rfl <| WL.bslM (L := clipL) (ps := _) ([(⟨xp, V.path.list, xc, decide (V.clip = 2)⟩ : ClipV)]) u38_ s61_ z61_ rfl rfl rfl rfl rfl (by first | rfl | decide) rfl rfl (fun dJ cE bA dK ab ge => ?_); have bP := nt_ A ab.size; have e2 := on_ hy bA ab; have e3 := PthP.same (w1 := cE) e1 (fun k hk hl => ab.other k oO); have e4 := bgl bA cC.lt; have e7 := cC.un ab e4; have d0 : wJ.heap.size ≤ dJ := by rw [bA]; exact cD.size
    have cF := kt_ cD (kn_ ab d0); have fG : dJ ≤ cE.heap.size := by omega
    refine WL.e <| ⟨⟨trivial, tT⟩, ?_⟩; refine WH.br1 15 rfl <| WL.appM u38_ inf61 rfl rfl rfl e2 rfl (dK).rowp (by simp only [List.length_cons, List.length_nil]; omega) (bP) rfl (fun h => ab_ h (lc_ _ _)) (fun gT gU aC bQ bR gf => ?_); have e8 := e7.below bQ oO; have ea := PthP.same e3 (fun k hk hl => bR.block k hl (fun e => by rcases hk with rfl | hk; (have := i _ e.symm; omega); (have := i _ e.symm; have := aV _ hk; omega))); have eb := kt_ cF (KeepB.of_grown bR (fun g hg => .inr (by have := i g hg; omega)) cF.size); have dL := nt_ bP bQ.size; obtain ⟨pv, cv, evv, -⟩ := (aC).row; subst evv; refine WL.e <| ⟨⟨trivial, tT⟩, ?_⟩; refine WH.tp 16 rfl (.nck rfl) ⟨trivial, tT⟩ rfl ?_; refine WH.tp 17 rfl (.fa u74_ rfl s68_ dD rfl) ⟨trivial, tT⟩ rfl ?_; refine WH.tp 18 rfl (.fa u68_ rfl s38_ dD rfl) ⟨trivial, tT⟩ rfl ?_; refine WH.br1 19 rfl <| WL.stC (o := 22) ((vwC ⟨⟨ctm, fi, sk, pe, .slice pv (lcl ++ [(⟨xp, V.path.list, xc, decide (V.clip = 2)⟩ : ClipV)]).length cv, fn, sz⟩, fo, sa, pa, a', a7, lo, te, li, ar, itv⟩).toArray) s38_ rfl (rfl) rfl ((aC).one) e8 bL (rfl) (fun bc aD U gg => ?_); have aD : Blk bc bv _ _ := aD; have U : Upd bv _ _ := U; have gh := nt_ dL U.size; have ec := ou_ aC U (fun g hg e => by have := (aC).lt g hg; omega); have cG := PthP.same (w1 := bc) ea (fun k hk hl => U.other k (fun e => by rcases hk with rfl | hk; exact ap e.symm; exact aq (e ▸ (vb_own hk).symm))); have ah := kU eb U; refine WL.e <| ⟨⟨trivial, tT⟩, ?_⟩; refine WH.done kR ?_
    first
    | (have b := ec
       obtain ⟨p9, c9, e9, P⟩ := Row3.own (Z := Frz fs.c F2 bc) b (fun g hg => ⟨(b.lt g hg).2, fun hf => by have := aa g hf; have := (b.lt g hg).1; omega, by have := (b.lt g hg).1; omega⟩); cases e9; have T : ∀ y ∈ lcl ++ [(⟨xp, V.path.list, xc, decide (V.clip = 2)⟩ : ClipV)], ClipR (Frz fs.c F2 bc) bc y := fun y hy => (List.mem_append.1 hy).elim (fun h => (q y h).mv (Frz.mv (a ah))) (fun h => by rw [List.mem_singleton.1 h]; exact k3.mv (Frz.mv (a ah)))
       exact ⟨(pv, lcl ++ [(⟨xp, V.path.list, xc, decide (V.clip = 2)⟩ : ClipV)], cv), ⟨rfl, tT⟩, ah, aD, P, T, by rw [← G, List.map_append, j, k5.s]; rfl, cG⟩)
    | exact ⟨(pvc, lcl, cvc), ⟨rfl, tT⟩, ah, aD, J.mv (Frz.mv (a ah)), fun y hy => (q y hy).mv (Frz.mv (a ah)), by rw [← G, j, k5.s] <;> rfl, cG⟩
    refine WL.bslM (L := clipL) (ps := _) ([(⟨xp, V.path.list, xc, decide (V.clip = 2)⟩ : ClipV)]) u38_ s61_ z61_ rfl rfl rfl rfl rfl (by first | rfl | decide) rfl rfl (fun dM cH cI bS bd gi => ?_); have ed := PthP.same (w1 := cH) aW (fun k hk hl => bd.other k oO); have ee := bgl cI C.lt; have ef := C.un bd ee; have d1 : wJ.heap.size ≤ dM := by rw [cI]; exact n.size
    have bB := kt_ n (kn_ bd d1); have d2 : dM ≤ cH.heap.size := by omega
    refine WL.e <| ⟨⟨trivial, tT⟩, ?_⟩; refine WH.br1 6 rfl <| WL.call hB_ rfl rfl ((lib_CloneClip pvc lcl cvc _ (J.mv (Frz.mv (a bB))).row oO)) (fun y fB a4 => ?_); have gj := nt_ d2 a4.1.size; have eg := PthP.same (w1 := fB) ed (fun k hk hl => a4.1.block k hl); have eh := ef.bl a4.1; have ei := rb_ (bS).rowp a4.1 (fun h0 => (bS).rowp.lt h0); have cJ := kB bB a4.1; have hy := a4.2; obtain ⟨yp, yc⟩ := y; have b6 := bB.size; have A := (a4.1).size; have i := hy.lt; refine WL.e <| ⟨⟨trivial, tT⟩, ?_⟩; refine WH.br1 15 rfl <| WL.appM u38_ inf61 rfl rfl rfl hy rfl ei (by simp only [List.length_cons, List.length_nil]; omega) (A) rfl (fun h => ab_ h (lc_ _ _)) (fun gV gW aE bT bU gk => ?_); have ej := eh.below bT oO; have ek := PthP.same eg (fun k hk hl => bU.block k hl (fun e => by rcases hk with rfl | hk; (have := i _ e.symm; omega); (have := i _ e.symm; have := aV _ hk; omega))); have el := kt_ cJ (KeepB.of_grown bU (fun g hg => .inr (by have := i g hg; omega)) cJ.size); have dN := nt_ A bT.size; obtain ⟨pv, cv, evv, -⟩ := (aE).row; subst evv; refine WL.e <| ⟨⟨trivial, tT⟩, ?_⟩; refine WH.tp 16 rfl (.nck rfl) ⟨trivial, tT⟩ rfl ?_; refine WH.tp 17 rfl (.fa u74_ rfl s68_ dD rfl) ⟨trivial, tT⟩ rfl ?_; refine WH.tp 18 rfl (.fa u68_ rfl s38_ dD rfl) ⟨trivial, tT⟩ rfl ?_; refine WH.br1 19 rfl <| WL.stC (o := 22) ((vwC ⟨⟨ctm, fi, sk, pe, .slice pv (lcl ++ [(⟨xp, V.path.list, xc, decide (V.clip = 2)⟩ : ClipV)]).length cv, fn, sz⟩, fo, sa, pa, a', a7, lo, te, li, ar, itv⟩).toArray) s38_ rfl (rfl) rfl ((aE).one) ej bL (rfl) (fun be aF X gl => ?_); have aF : Blk be bv _ _ := aF; have X : Upd bv _ _ := X; have gm := nt_ dN X.size; have em := ou_ aE X (fun g hg e => by have := (aE).lt g hg; omega); have cK := PthP.same (w1 := be) ek (fun k hk hl => X.other k (fun e => by rcases hk with rfl | hk; exact ap e.symm; exact aq (e ▸ (vb_own hk).symm))); have ai := kU el X; refine WL.e <| ⟨⟨trivial, tT⟩, ?_⟩; refine WH.done kR ?_
    first
    | (have b := em
       obtain ⟨p9, c9, e9, P⟩ := Row3.own (Z := Frz fs.c F2 be) b (fun g hg => ⟨(b.lt g hg).2, fun hf => by have := aa g hf; have := (b.lt g hg).1; omega, by have := (b.lt g hg).1; omega⟩); cases e9; have T : ∀ y ∈ lcl ++ [(⟨xp, V.path.list, xc, decide (V.clip = 2)⟩ : ClipV)], ClipR (Frz fs.c F2 be) be y := fun y hy => (List.mem_append.1 hy).elim (fun h => (q y h).mv (Frz.mv (a ai))) (fun h => by rw [List.mem_singleton.1 h]; exact k3.mv (Frz.mv (a ai)))
       exact ⟨(pv, lcl ++ [(⟨xp, V.path.list, xc, decide (V.clip = 2)⟩ : ClipV)], cv), ⟨rfl, tT⟩, ai, aF, P, T, by rw [← G, List.map_append, j, k5.s]; rfl, cK⟩)
    | exact ⟨(pvc, lcl, cvc), ⟨rfl, tT⟩, ai, aF, J.mv (Frz.mv (a ai)), fun y hy => (q y hy).mv (Frz.mv (a ai)), by rw [← G, j, k5.s] <;> rfl, cK⟩
    refine WL.R (Rd.ld (g3_ _) rfl C rfl) <| WL.e <| ⟨⟨trivial, tT⟩, ?_⟩; refine WH.tp 12 rfl (.bis (decide (V.clip = 2)) (.eql rfl rfl) (by exact decide_eq_decide.2 (by first | omega | (simp only at *; omega)))) ⟨trivial, tT⟩ rfl ?_; refine WH.tp 13 rfl (.buildL (ps := _) blt61 rfl rfl rfl pS) ⟨trivial, tT⟩ rfl ?_; refine WH.br2 5 rfl 14 rfl ?_ ?_; refine WL.R (Rd.ld (g38_ _) rfl C rfl) <| WL.e <| ⟨⟨trivial, tT⟩, ?_⟩; refine WH.br2 6 rfl 14 rfl ?_ ?_; refine WL.call hB_ rfl rfl ((lib_CloneClip pvc lcl cvc _ (J.mv (Frz.mv (a n))).row oO)) (fun y fC aG => ?_); have en := PthP.same (w1 := fC) aW (fun k hk hl => aG.1.block k hl); have cL := C.bl aG.1; have cM := kB n aG.1; have hy := aG.2; obtain ⟨yp, yc⟩ := y; have b6 := n.size; have A := (aG.1).size; have i := hy.lt; refine WL.e <| ⟨⟨trivial, tT⟩, ?_⟩; refine WH.br1 14 rfl <| WL.bslM (L := clipL) (ps := _) ([(⟨xp, V.path.list, xc, decide (V.clip = 2)⟩ : ClipV)]) u38_ s61_ z61_ rfl rfl rfl rfl rfl (by first | rfl | decide) rfl rfl (fun dO cN bC dP ac go => ?_); have bV := nt_ A ac.size; have eo := on_ hy bC ac; have ep := PthP.same (w1 := cN) en (fun k hk hl => ac.other k oO); have eq := bgl bC cL.lt; have er := cL.un ac eq; have d3 : wJ.heap.size ≤ dO := by rw [bC]; exact cM.size
    have cO := kt_ cM (kn_ ac d3); have fH : dO ≤ cN.heap.size := by omega
    refine WL.e <| ⟨⟨trivial, tT⟩, ?_⟩; refine WH.br1 15 rfl <| WL.appM u38_ inf61 rfl rfl rfl eo rfl (dP).rowp (by simp only [List.length_cons, List.length_nil]; omega) (bV) rfl (fun h => ab_ h (lc_ _ _)) (fun gX gY aH bW bX gp => ?_); have es := er.below bW oO; have et := PthP.same ep (fun k hk hl => bX.block k hl (fun e => by rcases hk with rfl | hk; (have := i _ e.symm; omega); (have := i _ e.symm; have := aV _ hk; omega))); have eu := kt_ cO (KeepB.of_grown bX (fun g hg => .inr (by have := i g hg; omega)) cO.size); have dQ := nt_ bV bW.size; obtain ⟨pv, cv, evv, -⟩ := (aH).row; subst evv; refine WL.e <| ⟨⟨trivial, tT⟩, ?_⟩; refine WH.tp 16 rfl (.nck rfl) ⟨trivial, tT⟩ rfl ?_; refine WH.tp 17 rfl (.fa u74_ rfl s68_ dD rfl) ⟨trivial, tT⟩ rfl ?_; refine WH.tp 18 rfl (.fa u68_ rfl s38_ dD rfl) ⟨trivial, tT⟩ rfl ?_; refine WH.br1 19 rfl <| WL.stC (o := 22) ((vwC ⟨⟨ctm, fi, sk, pe, .slice pv (lcl ++ [(⟨xp, V.path.list, xc, decide (V.clip = 2)⟩ : ClipV)]).length cv, fn, sz⟩, fo, sa, pa, a', a7, lo, te, li, ar, itv⟩).toArray) s38_ rfl (rfl) rfl ((aH).one) es bL (rfl) (fun bf aI a0 gq => ?_); have aI : Blk bf bv _ _ := aI; have a0 : Upd bv _ _ := a0; have gr := nt_ dQ a0.size; have ev := ou_ aH a0 (fun g hg e => by have := (aH).lt g hg; omega); have cP := PthP.same (w1 := bf) et (fun k hk hl => a0.other k (fun e => by rcases hk with rfl | hk; exact ap e.symm; exact aq (e ▸ (vb_own hk).symm))); have aj := kU eu a0; refine WL.e <| ⟨⟨trivial, tT⟩, ?_⟩; refine WH.done kR ?_
    first
    | (have b := ev
       obtain ⟨p9, c9, e9, P⟩ := Row3.own (Z := Frz fs.c F2 bf) b (fun g hg => ⟨(b.lt g hg).2, fun hf => by have := aa g hf; have := (b.lt g hg).1; omega, by have := (b.lt g hg).1; omega⟩); cases e9; have T : ∀ y ∈ lcl ++ [(⟨xp, V.path.list, xc, decide (V.clip = 2)⟩ : ClipV)], ClipR (Frz fs.c F2 bf) bf y := fun y hy => (List.mem_append.1 hy).elim (fun h => (q y h).mv (Frz.mv (a aj))) (fun h => by rw [List.mem_singleton.1 h]; exact k3.mv (Frz.mv (a aj)))
       exact ⟨(pv, lcl ++ [(⟨xp, V.path.list, xc, decide (V.clip = 2)⟩ : ClipV)], cv), ⟨rfl, tT⟩, aj, aI, P, T, by rw [← G, List.map_append, j, k5.s]; rfl, cP⟩)
    | exact ⟨(pvc, lcl, cvc), ⟨rfl, tT⟩, aj, aI, J.mv (Frz.mv (a aj)), fun y hy => (q y hy).mv (Frz.mv (a aj)), by rw [← G, j, k5.s] <;> rfl, cP⟩
    refine WL.bslM (L := clipL) (ps := _) ([(⟨xp, V.path.list, xc, decide (V.clip = 2)⟩ : ClipV)]) u38_ s61_ z61_ rfl rfl rfl rfl rfl (by first | rfl | decide) rfl rfl (fun dR cQ cR bY bg gs => ?_); have ew := PthP.same (w1 := cQ) aW (fun k hk hl => bg.other k oO); have ex := bgl cR C.lt; have ey := C.un bg ex; have d4 : wJ.heap.size ≤ dR := by rw [cR]; exact n.size
    have bD := kt_ n (kn_ bg d4); have d5 : dR ≤ cQ.heap.size := by omega
    refine WL.e <| ⟨⟨trivial, tT⟩, ?_⟩; refine WH.br1 6 rfl <| WL.call hB_ rfl rfl ((lib_CloneClip pvc lcl cvc _ (J.mv (Frz.mv (a bD))).row oO)) (fun y fD a5 => ?_); have gt := nt_ d5 a5.1.size; have ez := PthP.same (w1 := fD) ew (fun k hk hl => a5.1.block k hl); have eA := ey.bl a5.1; have eB := rb_ (bY).rowp a5.1 (fun h0 => (bY).rowp.lt h0); have cS := kB bD a5.1; have hy := a5.2; obtain ⟨yp, yc⟩ := y; have b6 := bD.size; have A := (a5.1).size; have i := hy.lt; refine WL.e <| ⟨⟨trivial, tT⟩, ?_⟩; refine WH.br1 15 rfl <| WL.appM u38_ inf61 rfl rfl rfl hy rfl eB (by simp only [List.length_cons, List.length_nil]; omega) (A) rfl (fun h => ab_ h (lc_ _ _)) (fun gZ g' aJ bZ b' gv => ?_); have eC := eA.below bZ oO; have eD := PthP.same ez (fun k hk hl => b'.block k hl (fun e => by rcases hk with rfl | hk; (have := i _ e.symm; omega); (have := i _ e.symm; have := aV _ hk; omega))); have eF := kt_ cS (KeepB.of_grown b' (fun g hg => .inr (by have := i g hg; omega)) cS.size); have dS := nt_ A bZ.size; obtain ⟨pv, cv, evv, -⟩ := (aJ).row; subst evv; refine WL.e <| ⟨⟨trivial, tT⟩, ?_⟩; refine WH.tp 16 rfl (.nck rfl) ⟨trivial, tT⟩ rfl ?_; refine WH.tp 17 rfl (.fa u74_ rfl s68_ dD rfl) ⟨trivial, tT⟩ rfl ?_; refine WH.tp 18 rfl (.fa u68_ rfl s38_ dD rfl) ⟨trivial, tT⟩ rfl ?_; refine WH.br1 19 rfl <| WL.stC (o := 22) ((vwC ⟨⟨ctm, fi, sk, pe, .slice pv (lcl ++ [(⟨xp, V.path.list, xc, decide (V.clip = 2)⟩ : ClipV)]).length cv, fn, sz⟩, fo, sa, pa, a', a7, lo, te, li, ar, itv⟩).toArray) s38_ rfl (rfl) rfl ((aJ).one) eC bL (rfl) (fun bh aK a1 gw => ?_); have aK : Blk bh bv _ _ := aK; have a1 : Upd bv _ _ := a1; have gx := nt_ dS a1.size; have eG := ou_ aJ a1 (fun g hg e => by have := (aJ).lt g hg; omega); have cT := PthP.same (w1 := bh) eD (fun k hk hl => a1.other k (fun e => by rcases hk with rfl | hk; exact ap e.symm; exact aq (e ▸ (vb_own hk).symm))); have ak := kU eF a1; refine WL.e <| ⟨⟨trivial, tT⟩, ?_⟩; refine WH.done kR ?_
    first
    | (have b := eG
       obtain ⟨p9, c9, e9, P⟩ := Row3.own (Z := Frz fs.c F2 bh) b (fun g hg => ⟨(b.lt g hg).2, fun hf => by have := aa g hf; have := (b.lt g hg).1; omega, by have := (b.lt g hg).1; omega⟩); cases e9; have T : ∀ y ∈ lcl ++ [(⟨xp, V.path.list, xc, decide (V.clip = 2)⟩ : ClipV)], ClipR (Frz fs.c F2 bh) bh y := fun y hy => (List.mem_append.1 hy).elim (fun h => (q y h).mv (Frz.mv (a ak))) (fun h => by rw [List.mem_singleton.1 h]; exact k3.mv (Frz.mv (a ak)))
       exact ⟨(pv, lcl ++ [(⟨xp, V.path.list, xc, decide (V.clip = 2)⟩ : ClipV)], cv), ⟨rfl, tT⟩, ak, aK, P, T, by rw [← G, List.map_append, j, k5.s]; rfl, cT⟩)
    | exact ⟨(pvc, lcl, cvc), ⟨rfl, tT⟩, ak, aK, J.mv (Frz.mv (a ak)), fun y hy => (q y hy).mv (Frz.mv (a ak)), by rw [← G, j, k5.s] <;> rfl, cT⟩
    refine WL.bslM (L := clipL) (ps := _) ([(⟨xp, V.path.list, xc, decide (V.clip = 2)⟩ : ClipV)]) u38_ s61_ z61_ rfl rfl rfl rfl rfl (by first | rfl | decide) rfl rfl (fun dU cU cV c0 bi gz => ?_); have eH := PthP.same (w1 := cU) aW (fun k hk hl => bi.other k oO); have eI := bgl cV C.lt; have cW := C.un bi eI; have d6 : wJ.heap.size ≤ dU := by rw [cV]; exact n.size
    have bE := kt_ n (kn_ bi d6); have d7 : dU ≤ cU.heap.size := by omega
    refine WL.e <| ⟨⟨trivial, tT⟩, ?_⟩; refine WH.br1 5 rfl <| WL.R (Rd.ld (g38_ _) rfl cW rfl) <| WL.e <| ⟨⟨trivial, tT⟩, ?_⟩; refine WH.br1 6 rfl <| WL.call hB_ rfl rfl ((lib_CloneClip pvc lcl cvc _ (J.mv (Frz.mv (a bE))).row oO)) (fun y fE a6 => ?_); have gA := nt_ d7 a6.1.size; have eJ := PthP.same (w1 := fE) eH (fun k hk hl => a6.1.block k hl); have eK := cW.bl a6.1; have eL := rb_ (c0).rowp a6.1 (fun h0 => (c0).rowp.lt h0); have cX := kB bE a6.1; have hy := a6.2; obtain ⟨yp, yc⟩ := y; have b6 := bE.size; have A := (a6.1).size; have i := hy.lt; refine WL.e <| ⟨⟨trivial, tT⟩, ?_⟩; refine WH.br1 15 rfl <| WL.appM u38_ inf61 rfl rfl rfl hy rfl eL (by simp only [List.length_cons, List.length_nil]; omega) (A) rfl (fun h => ab_ h (lc_ _ _)) (fun h3 h4 aL c2 c4 gB => ?_); have eM := eK.below c2 oO; have eN := PthP.same eJ (fun k hk hl => c4.block k hl (fun e => by rcases hk with rfl | hk; (have := i _ e.symm; omega); (have := i _ e.symm; have := aV _ hk; omega))); have eO := kt_ cX (KeepB.of_grown c4 (fun g hg => .inr (by have := i g hg; omega)) cX.size); have dV := nt_ A c2.size; obtain ⟨pv, cv, evv, -⟩ := (aL).row; subst evv; refine WL.e <| ⟨⟨trivial, tT⟩, ?_⟩; refine WH.tp 16 rfl (.nck rfl) ⟨trivial, tT⟩ rfl ?_; refine WH.tp 17 rfl (.fa u74_ rfl s68_ dD rfl) ⟨trivial, tT⟩ rfl ?_; refine WH.tp 18 rfl (.fa u68_ rfl s38_ dD rfl) ⟨trivial, tT⟩ rfl ?_; refine WH.br1 19 rfl <| WL.stC (o := 22) ((vwC ⟨⟨ctm, fi, sk, pe, .slice pv (lcl ++ [(⟨xp, V.path.list, xc, decide (V.clip = 2)⟩ : ClipV)]).length cv, fn, sz⟩, fo, sa, pa, a', a7, lo, te, li, ar, itv⟩).toArray) s38_ rfl (rfl) rfl ((aL).one) eM bL (rfl) (fun bj aM a2 gC => ?_); have aM : Blk bj bv _ _ := aM; have a2 : Upd bv _ _ := a2; have gD := nt_ dV a2.size; have eP := ou_ aL a2 (fun g hg e => by have := (aL).lt g hg; omega); have cY := PthP.same (w1 := bj) eN (fun k hk hl => a2.other k (fun e => by rcases hk with rfl | hk; exact ap e.symm; exact aq (e ▸ (vb_own hk).symm))); have al := kU eO a2; refine WL.e <| ⟨⟨trivial, tT⟩, ?_⟩; refine WH.done kR ?_
    first
    | (have b := eP
       obtain ⟨p9, c9, e9, P⟩ := Row3.own (Z := Frz fs.c F2 bj) b (fun g hg => ⟨(b.lt g hg).2, fun hf => by have := aa g hf; have := (b.lt g hg).1; omega, by have := (b.lt g hg).1; omega⟩); cases e9; have T : ∀ y ∈ lcl ++ [(⟨xp, V.path.list, xc, decide (V.clip = 2)⟩ : ClipV)], ClipR (Frz fs.c F2 bj) bj y := fun y hy => (List.mem_append.1 hy).elim (fun h => (q y h).mv (Frz.mv (a al))) (fun h => by rw [List.mem_singleton.1 h]; exact k3.mv (Frz.mv (a al)))
       exact ⟨(pv, lcl ++ [(⟨xp, V.path.list, xc, decide (V.clip = 2)⟩ : ClipV)], cv), ⟨rfl, tT⟩, al, aM, P, T, by rw [← G, List.map_append, j, k5.s]; rfl, cY⟩)
    | exact ⟨(pvc, lcl, cvc), ⟨rfl, tT⟩, al, aM, J.mv (Frz.mv (a al)), fun y hy => (q y hy).mv (Frz.mv (a al)), by rw [← G, j, k5.s] <;> rfl, cY⟩
  have fp := dF dx; have dy := clipped_no (v := V) (by first | omega | (simp only at *; omega)); rw [dy, bind_ok (show (Except.ok V.s.clips : Except Int (List ClipV)) = .ok V.s.clips from rfl)] at G; refine W.k ?_
  first
  | (have b := OWN
     obtain ⟨p9, c9, e9, P⟩ := Row3.own (Z := Frz fs.c F2 wJ) b (fun g hg => ⟨(b.lt g hg).2, fun hf => by have := aa g hf; have := (b.lt g hg).1; omega, by have := (b.lt g hg).1; omega⟩); cases e9; have T : ∀ y ∈ lcl ++ [(⟨xp, V.path.list, xc, decide (V.clip = 2)⟩ : ClipV)], ClipR (Frz fs.c F2 wJ) wJ y := fun y hy => (List.mem_append.1 hy).elim (fun h => (q y h).mv (Frz.mv (a b0))) (fun h => by rw [List.mem_singleton.1 h]; exact k3.mv (Frz.mv (a b0)))
     exact ⟨(pv, lcl ++ [(⟨xp, V.path.list, xc, decide (V.clip = 2)⟩ : ClipV)], cv), ⟨rfl, tT⟩, b0, ao, P, T, by rw [← G, List.map_append, j, k5.s]; rfl, ci⟩)
  | exact ⟨(pvc, lcl, cvc), ⟨rfl, tT⟩, b0, ao, J.mv (Frz.mv (a b0)), fun y hy => (q y hy).mv (Frz.mv (a b0)), by rw [← G, j, k5.s] <;> rfl, ci⟩
  obtain ⟨⟨p3, L3, c3⟩, bH⟩ : ∃ u, u = t := ⟨t, rfl⟩; subst bH; obtain ⟨m1, m2, m3, m4, m5, m6⟩ := hR; simp only at m2 m3 m4 m5; have gE := KeepB.refl w1.heap.size [bv, pa, vb E pa] w1; have fF := m1.size; refine W.sr <| WL.M rfl <| WL.O (.nck rfl) <| WL.O (.fa u74_ rfl s3_ dD rfl) <| WL.stC (o := 28) ((vwC ⟨⟨ctm, fi, sk, pe, .slice p3 L3.length c3, fn, sz⟩, fo, sa, pa, 0, a7, lo, te, li, ar, itv⟩).toArray) s3_ rfl (rfl) rfl (rfl) m2 bL (rfl) (fun dW ad aN gF => ?_); have ad : Blk dW bv _ _ := ad; have aN : Upd bv _ _ := aN; have eQ := PthP.same (w1 := dW) m6 (fun k hk hl => aN.other k (fun e => by rcases hk with rfl | hk; exact ap e.symm; exact aq (e ▸ (vb_own hk).symm))); have cZ := kU gE aN; refine WL.e <| W.reg <| WL.M rfl <| WL.O (.nck rfl) <| WL.O (.fa u74_ rfl s69_ dD rfl) <| WL.R (Rd.ld (g69_ _) rfl ad rfl) <| WL.c1 hB_ rfl rfl ((pth_Clear B pa 4096 E V2.path _ (eQ).at')) (fun cn bG => ?_); have eR := Blk.keepB ad bG.1 ad.lt (by simp only [List.mem_cons, List.not_mem_nil, or_false, not_or, not_false_eq_true]; omega); have c' := kt_ cZ (KeepB.wide bG.1 cZ.size (by simp <;> omega)); have gG := bG.2; refine WL.e <| W.norm (W.ret0 rfl ?_); have f2 : KeepB wJ.heap.size [bv, pa, vb E pa] wJ cn := kt_ m1 (KeepB.mono c' fF); obtain ⟨-, -, r3, r4, r5⟩ := bm.rest f2 _ g3; have f3 : ∀ g, VwF bv ⟨⟨ctm, fi, sk, pe, .slice p3 L3.length c3, fn, sz⟩, fo, sa, pa, 0, a7, lo, te, li, ar, itv⟩ (.slice none 0 0) g → F2 g := fun g hg => by
    rw [dv]; rcases hg with h1 | h1 | h1 | h1
    · exact .inl h1
    · exact .inr (.inl h1)
    · cases h1
    · exact .inr (.inr (.inr h1))
  have f4 : Chg F2 (VwF bv ⟨⟨ctm, fi, sk, pe, .slice p3 L3.length c3, fn, sz⟩, fo, sa, pa, 0, a7, lo, te, li, ar, itv⟩ (.slice none 0 0)) wJ cn := Chg.of_keep f2 (fun g hg => .inl (b1 g hg)) (fun g hg => .inl (f3 g hg)); have gH : Chg F2 (VwF bv ⟨⟨ctm, fi, sk, pe, .slice p3 L3.length c3, fn, sz⟩, fo, sa, pa, 0, a7, lo, te, li, ar, itv⟩ (.slice none 0 0)) w1 cn := Chg.of_keep c' (fun g hg => .inl (b1 g hg)) (fun g hg => .inl (f3 g hg)); rw [← m5]; refine eo_ _ _ rfl rfl ⟨rfl, _, ⟨_, .slice none 0 0, fl, g1, g2, rfl, ⟨eR, gG, r3 dD, r4 dD, r5 dD, bm.lbv, bm.lbp⟩, ?_⟩, ct_ k2 f4⟩; have hq := bw.mv (Frz.mv (c := fs.c) f4); have f5 := Frz.mv (c := fs.c) gH; have f6 := hq.st; rw [k5.s] at f6; exact { hq with st := { f6 with clips := ⟨p3, c3, L3, rfl, m3.mv f5, fun y hy => (m4 y hy).mv f5, rfl⟩ }, clip := rfl }
end
end
section
theorem paint_1 {V V1 : Vw} {args : List PV} {op : List UInt8} {l : List Int} (h0 : numsV args 0 = .ok l) (h1 : closeIf V op = .ok V1) : paintV V args op =
  if op = [83] ∨ op = [115] then paintedV V1 0 true else if op = [102] ∨ op = [70] then paintedV V1 1 false else if op = [102, 42] then paintedV V1 2 false
  else if op = [66] ∨ op = [98] then paintedV V1 1 true else if op = [66, 42] ∨ op = [98, 42] then paintedV V1 2 true else paintedV V1 0 false := (bind_ok h0).trans (bind_ok h1)
theorem paint_e1 {V : Vw} {args : List PV} {op : List UInt8} {l : List Int} {k : Int} (h0 : numsV args 0 = .ok l) (h1 : closeIf V op = .error k) : paintV V args op = .error k := (bind_ok h0).trans (bind_err h1)
theorem closeV_eq {V : Vw} : closeV V = (stepV (pClose 4096 V.path) >>= fun p => .ok (setP V p)) := rfl
section
variable {B : Nat} {fs : Fcx} {w w1 : World} {bv : Nat} {F : Nat → Prop} {V : Vw} {args : List PV}
set_option maxHeartbeats 3200000 in
theorem vw_paint (op : List UInt8) (h : Vwr B fs w bv F V args) (ha : args.length ≤ 32) (hsn : SndV V) :
  Calls Tryz.prog 55 #[.pointer (some ⟨bv, 0, none⟩), .string (bs op)] w (VwE B fs bv F w (paintV V args op) args) := by
 obtain ⟨aR, av⟩ := h.base
 have ai := h.lt
 have P := VwrN.of h
 have l : ∀ {F1 : Nat → Prop} {w1 : World}, Chg F F1 w w1 → Below B w w1 := fun h => h.below av (fun g hg => (ai g hg).1)
 refine W.e func55 rfl ntmps55 bL ?_
 have ad := Chg.refl F w
 refine W.sr <| WL.M rfl <| WL.cx hB_ rfl rfl ((vw_numV 0 (P).get ha oO)) (fun k3 w1 A L => ?_) (fun a2 x4 w1 A L => ?_)
 have ac := Chg.low ad L
 exact pn_is (ee_ k3 (bind_err A) (l ac))
 have Q := vs_ (w1 := w1) P (fun k hk hl => L.1.block k hl)
 have T := Chg.low ad L.1
 have ae := A
 refine WL.e <| W.cut (α := (Nat → Prop) × Vw) (fun t => [(0, .pointer (some ⟨bv, 0, none⟩)), (1, .string (bs op))]) (fun t w' => Vwr B fs w' bv t.1 t.2 args ∧ Chg F t.1 w w' ∧ closeIf V op = .ok t.2) ?_ (fun t w1 hR => ?_)
 refine W.sr <| WL.M rfl <| WL.e <| W.b <| W.cut (α := Bool) (fun t => [(0, .pointer (some ⟨bv, 0, none⟩)), (1, .string (bs op)), (7, .bool t)]) (fun t w' => w1 = w' ∧ t = decide (op = [115] ∨ op = [98] ∨ op = [98, 42])) ?_ (fun t w1 hR => ?_)
 refine W.sr <| WL.O (.eqs rfl rfl) <| WL.Z rfl <| W.cond rfl (fun h7 => ?_) (fun h7 => ?_)
 have aw := dT h7
 refine W.k ?_
 exact ⟨_, ⟨rfl, rfl, rfl, tT⟩, rfl, by simp_all⟩
 have aw := dF h7
 refine W.sr <| WL.O (.eqs rfl rfl) <| WL.Z rfl <| W.cond rfl (fun h8 => ?_) (fun h8 => ?_)
 have ax := dT h8
 refine W.k ?_
 exact ⟨_, ⟨rfl, rfl, rfl, tT⟩, rfl, by simp_all⟩
 have ax := dF h8
 refine W.reg <| WL.O (.eqs rfl rfl) <| WL.Z rfl ?_
 exact ⟨_, ⟨rfl, rfl, rfl, tT⟩, rfl, by simp_all⟩
 obtain ⟨rfl, rfl⟩ := hR
 refine W.cond rfl (fun h9 => ?_) (fun h9 => ?_)
 have ay := dT h9
 have U : op = [115] ∨ op = [98] ∨ op = [98, 42] := dT aS
 obtain ⟨H, vp, its, hs, cs, af, hO, az⟩ := (Q).get.mem
 have aA := hO.blk
 refine W.reg <| WL.M rfl <| WL.O (.nck rfl) <| WL.O (.fa u74_ rfl s69_ dD rfl) <| WL.R (Rd.ld (g69_ _) rfl aA rfl) <| WL.c1 hB_ rfl rfl ((pth_Close B H.path 4096 vp V.path _ hO.pth)) (fun aT aj => ?_)
 obtain ⟨hK, v1, aB, aC⟩ := aj
 obtain ⟨F1, d, ag⟩ := Vwr.setPath hO (af ▸ az) hK aB aC
 rw [← af] at ag
 have d := VwrN.of d
 have X := ct_ T ag
 refine WL.ce hB_ rfl rfl ((vw_step _ _)) (fun aD ah m n => ?_) (fun aU ah m n => ?_)
 have Y := Chg.low X n
 exact pn_is (ee_ aD (paint_e1 ae ((if_pos U).trans (bind_err (step_errE m)))) (l Y))
 have a0 := vs_ (w1 := ah) d (fun k hk hl => n.block k hl)
 have a1 := Chg.low X n
 refine WL.e <| ?_
 first
 | exact ⟨(F1, _), ⟨rfl, rfl, tT⟩, (a0).get, a1, (if_pos U).trans (closeV_eq.trans (bind_ok (step_okE m)))⟩
 | exact ⟨(F, V), ⟨rfl, rfl, tT⟩, (a0).get, a1, if_neg (dF aS)⟩
 have ay := dF h9
 refine W.k ?_
 first
 | exact ⟨(F1, _), ⟨rfl, rfl, tT⟩, (Q).get, T, (if_pos U).trans (closeV_eq.trans (bind_ok (step_okE m)))⟩
 | exact ⟨(F, V), ⟨rfl, rfl, tT⟩, (Q).get, T, if_neg (dF aS)⟩
 obtain ⟨⟨F1, V1⟩, aE⟩ : ∃ u, u = t := ⟨t, rfl⟩
 subst aE
 obtain ⟨j1, i, N⟩ := hR
 simp only at j1 i N
 have d := j1
 have hD := paint_1 ae N
 have j : SndV V1 := by
  unfold closeIf at N
  split at N; exact closeV_snd hsn N; cases N; exact hsn
 refine W.sr <| WL.M rfl <| WL.e <| W.b <| W.cut (α := Bool) (fun t => [(0, .pointer (some ⟨bv, 0, none⟩)), (17, .string (bs op)), (20, .bool t)]) (fun t w' => w1 = w' ∧ t = decide (op = [83] ∨ op = [115])) ?_ (fun t w1 hR => ?_)
 refine W.sr <| WL.O (.eqs rfl rfl) <| WL.Z rfl <| W.cond rfl (fun a3 => ?_) (fun a3 => ?_)
 have ak := dT a3
 first | rw [if_pos (dT aS)] at hD | skip
 refine W.k ?_
 exact ⟨_, ⟨rfl, rfl, rfl, tT⟩, rfl, by simp_all⟩
 have ak := dF a3
 first | rw [if_neg (dF aS)] at hD | skip
 refine W.reg <| WL.O (.eqs rfl rfl) <| WL.Z rfl ?_
 exact ⟨_, ⟨rfl, rfl, rfl, tT⟩, rfl, by simp_all⟩
 obtain ⟨rfl, rfl⟩ := hR
 refine W.cond rfl (fun a4 => ?_) (fun a4 => ?_)
 have al := dT a4
 first | rw [if_pos (dT aS)] at hD | skip
 refine W.reg <| WL.M rfl <| WL.cx hB_ rfl rfl ((vw_painted 0 true d j dD)) (fun aF aG o C => ?_) (fun aV aW aG o C => ?_)
 exact pn_is (ee_ aF (hD.trans o) (bt_ (l i) C))
 obtain ⟨rfl, F2, a, f⟩ := C
 have c := hD.trans o
 refine WL.e <| W.norm (W.ret0 rfl ?_)
 exact eo_ _ _ c rfl ⟨rfl, F2, a, ct_ i f⟩
 have al := dF a4
 first | rw [if_neg (dF aS)] at hD | skip
 refine W.cut (α := Bool) (fun t => [(0, .pointer (some ⟨bv, 0, none⟩)), (17, .string (bs op)), (25, .bool t)]) (fun t w' => w1 = w' ∧ t = decide (op = [102] ∨ op = [70])) ?_ (fun t w1 hR => ?_)
 refine W.sr <| WL.O (.eqs rfl rfl) <| WL.Z rfl <| W.cond rfl (fun a5 => ?_) (fun a5 => ?_)
 have am := dT a5
 first | rw [if_pos (dT aS)] at hD | skip
 refine W.k ?_
 exact ⟨_, ⟨rfl, rfl, rfl, tT⟩, rfl, by simp_all⟩
 have am := dF a5
 first | rw [if_neg (dF aS)] at hD | skip
 refine W.reg <| WL.O (.eqs rfl rfl) <| WL.Z rfl ?_
 exact ⟨_, ⟨rfl, rfl, rfl, tT⟩, rfl, by simp_all⟩
 obtain ⟨rfl, rfl⟩ := hR
 refine W.cond rfl (fun a6 => ?_) (fun a6 => ?_)
 have an := dT a6
 first | rw [if_pos (dT aS)] at hD | skip
 refine W.reg <| WL.M rfl <| WL.cx hB_ rfl rfl ((vw_painted 1 false d j dD)) (fun aH aI q D => ?_) (fun aX aY aI q D => ?_)
 exact pn_is (ee_ aH (hD.trans q) (bt_ (l i) D))
 obtain ⟨rfl, F2, a, f⟩ := D
 have c := hD.trans q
 refine WL.e <| W.norm (W.ret0 rfl ?_)
 exact eo_ _ _ c rfl ⟨rfl, F2, a, ct_ i f⟩
 have an := dF a6
 first | rw [if_neg (dF aS)] at hD | skip
 refine W.sr <| WL.O (.eqs rfl rfl) <| WL.Z rfl <| W.cond rfl (fun a7 => ?_) (fun a7 => ?_)
 have ao := dT a7
 rw [if_pos aS] at hD
 refine W.reg <| WL.M rfl <| WL.cx hB_ rfl rfl ((vw_painted 2 false d j dD)) (fun aJ aK s E => ?_) (fun aZ a' aK s E => ?_)
 exact pn_is (ee_ aJ (hD.trans s) (bt_ (l i) E))
 obtain ⟨rfl, F2, a, f⟩ := E
 have c := hD.trans s
 refine WL.e <| W.norm (W.ret0 rfl ?_)
 exact eo_ _ _ c rfl ⟨rfl, F2, a, ct_ i f⟩
 have ao := dF a7
 rw [if_neg aS] at hD
 refine W.cut (α := Bool) (fun t => [(0, .pointer (some ⟨bv, 0, none⟩)), (17, .string (bs op)), (34, .bool t)]) (fun t w' => w1 = w' ∧ t = decide (op = [66] ∨ op = [98])) ?_ (fun t w1 hR => ?_)
 refine W.sr <| WL.O (.eqs rfl rfl) <| WL.Z rfl <| W.cond rfl (fun a8 => ?_) (fun a8 => ?_)
 have ap := dT a8
 first | rw [if_pos (dT aS)] at hD | skip
 refine W.k ?_
 exact ⟨_, ⟨rfl, rfl, rfl, tT⟩, rfl, by simp_all⟩
 have ap := dF a8
 first | rw [if_neg (dF aS)] at hD | skip
 refine W.reg <| WL.O (.eqs rfl rfl) <| WL.Z rfl ?_
 exact ⟨_, ⟨rfl, rfl, rfl, tT⟩, rfl, by simp_all⟩
 obtain ⟨rfl, rfl⟩ := hR
 refine W.cond rfl (fun a9 => ?_) (fun a9 => ?_)
 have aq := dT a9
 first | rw [if_pos (dT aS)] at hD | skip
 refine W.reg <| WL.M rfl <| WL.cx hB_ rfl rfl ((vw_painted 1 true d j dD)) (fun aL aM v G => ?_) (fun b0 b1 aM v G => ?_)
 exact pn_is (ee_ aL (hD.trans v) (bt_ (l i) G))
 obtain ⟨rfl, F2, a, f⟩ := G
 have c := hD.trans v
 refine WL.e <| W.norm (W.ret0 rfl ?_)
 exact eo_ _ _ c rfl ⟨rfl, F2, a, ct_ i f⟩
 have aq := dF a9
 first | rw [if_neg (dF aS)] at hD | skip
 refine W.cut (α := Bool) (fun t => [(0, .pointer (some ⟨bv, 0, none⟩)), (17, .string (bs op)), (39, .bool t)]) (fun t w' => w1 = w' ∧ t = decide (op = [66, 42] ∨ op = [98, 42])) ?_ (fun t w1 hR => ?_)
 refine W.sr <| WL.O (.eqs rfl rfl) <| WL.Z rfl <| W.cond rfl (fun aa => ?_) (fun aa => ?_)
 have ar := dT aa
 first | rw [if_pos (dT aS)] at hD | skip
 refine W.k ?_
 exact ⟨_, ⟨rfl, rfl, rfl, tT⟩, rfl, by simp_all⟩
 have ar := dF aa
 first | rw [if_neg (dF aS)] at hD | skip
 refine W.reg <| WL.O (.eqs rfl rfl) <| WL.Z rfl ?_
 exact ⟨_, ⟨rfl, rfl, rfl, tT⟩, rfl, by simp_all⟩
 obtain ⟨rfl, rfl⟩ := hR
 refine W.cond rfl (fun ab => ?_) (fun ab => ?_)
 have au := dT ab
 first | rw [if_pos (dT aS)] at hD | skip
 refine W.reg <| WL.M rfl <| WL.cx hB_ rfl rfl ((vw_painted 2 true d j dD)) (fun aN aO x J => ?_) (fun b2 b3 aO x J => ?_)
 exact pn_is (ee_ aN (hD.trans x) (bt_ (l i) J))
 obtain ⟨rfl, F2, a, f⟩ := J
 have c := hD.trans x
 refine WL.e <| W.norm (W.ret0 rfl ?_)
 exact eo_ _ _ c rfl ⟨rfl, F2, a, ct_ i f⟩
 have au := dF ab
 first | rw [if_neg (dF aS)] at hD | skip
 refine W.reg <| WL.M rfl <| WL.cx hB_ rfl rfl ((vw_painted 0 false d j dD)) (fun aP aQ y K => ?_) (fun b4 b5 aQ y K => ?_)
 exact pn_is (ee_ aP (hD.trans y) (bt_ (l i) K))
 obtain ⟨rfl, F2, a, f⟩ := K
 have c := hD.trans y
 refine WL.e <| W.norm (W.ret0 rfl ?_)
 exact eo_ _ _ c rfl ⟨rfl, F2, a, ct_ i f⟩
end
end
section
theorem find_at {α : Type} {q : α → Bool} : ∀ {l : List α} {i : Nat} (hi : i < l.length), (∀ j (h : j < l.length), j < i → q l[j] = false) → q l[i] = true → l.find? q = some l[i]
 | x :: l, 0, _, _, h => by
  rw [List.getElem_cons_zero] at h ⊢
  rw [List.find?_cons, h]
 | x :: l, i + 1, hi, hn, h => by
  have h0 := hn 0 (by simp) oO
  rw [List.getElem_cons_zero] at h0
  rw [List.getElem_cons_succ] at h ⊢
  rw [List.find?_cons, h0]
  exact find_at (by simpa using hi) (fun j hj hji => by have := hn (j + 1) (by simpa using hj) oO; simpa using this) h
theorem find_no {α : Type} {q : α → Bool} {l : List α} (hn : ∀ j (h : j < l.length), q l[j] = false) : l.find? q = none := by
 rw [List.find?_eq_none]
 intro x hx
 obtain ⟨j, hj, rfl⟩ := List.mem_iff_getElem.1 hx
 rw [hn j hj]; decide
theorem lib_IndexFont {F : FuncId} (hF : HasBody Tryz.prog F) (cap : Array Value) (p : Option Addr) (l : List FtV) (c : Nat) (q : FtV → Bool) (w : World) (hr : RowM ftL w p l) (hl : l.length ≤ 9223372036854775807)
  (hq : ∀ j (h : j < l.length) w1, Below w.heap.size w w1 → Calls Tryz.prog F (#[] ++ [Value.agg (ftV l[j]).toArray].toArray ++ cap) w1 fun e w' => e = .returned (.bool (q l[j])) ∧ Below w1.heap.size w1 w') :
  Calls Tryz.prog 97 #[.slice p l.length c, .func (.func F) #[] cap] w fun e w' => ∃ r : Int, e = .returned (.int .i64 r) ∧ ((r = -1 ∧ l.find? q = none) ∨ ∃ j, ∃ h : j < l.length, r = j ∧ l.find? q = some l[j]) ∧ Below w.heap.size w w' := by
 have u : 0 < l.length → (pA p).block < w.heap.size := fun g => hr.lt g
 refine W.e func97 rfl ntmps97 bL ?_
 have n := br_ (w.heap.size) w
 refine W.sr <| WL.Z rfl <| W.seq <| W.sr <| WL.M rfl <| WL.O (.lenS u25_ rfl) <| WL.M rfl <| WL.e <| W.b <| W.loop (α := Nat) (fun t => [(0, .slice p l.length c), (1, .func (.func F) #[] cap), (7, .int .i64 (l.length : Int)), (8, .int .i64 (t : Int))]) (fun t w' => Below w.heap.size w w' ∧ RowM ftL w' p l ∧ t ≤ l.length ∧ ∀ j (h : j < l.length), j < t → q l[j] = false) (fun t => l.length - t) (0) ⟨rfl, rfl, rfl, rfl, tT⟩ (⟨n, hr, nl_ _, fun j _ h => ab_ h oO⟩) (fun t w1 hR => ?_)
 obtain ⟨i, rfl⟩ : ∃ i, i = t := ⟨t, rfl⟩
 obtain ⟨hT, hb1, hi, a⟩ := hR
 refine W.sr <| WL.O (.lss rfl rfl) <| WL.e <| W.seq <| W.cond rfl (fun m => ?_) (fun m => ?_)
 have o := dT m
 refine W.k <| W.seq <| W.b <| W.sr <| WL.M rfl <| WL.Z rfl <| W.sr <| WL.M rfl <| WL.M rfl <| WL.M rfl <| WL.O (.ixm u25_ sizeOf53 rfl rfl (hb1.isp (by first | omega | (simp only [List.length_cons, List.length_nil]; omega))) (i) (rfl) oO) <| WL.R (Rd.ldS underlying53 rfl isz53 hb1 (i) (by first | omega | (simp only [List.length_cons, List.length_nil]; omega)) rfl) <| WL.cv1 hF rfl rfl rfl rfl (hq i oO _ hT) (fun y d => ?_)
 have s := rb_ hb1 d (fun g => hb1.lt g)
 have f := btr hT d
 refine WL.e <| W.cond rfl (fun v => ?_) (fun v => ?_)
 refine W.sr <| WL.M rfl <| WL.Z rfl <| W.ret (W.r1 rfl rfl ?_)
 exact ⟨_, rfl, .inr ⟨i, by omega, rfl, find_at oO a aS⟩, f⟩
 refine W.k <| W.reg <| WL.O (.iis (((i + 1 : Nat) : Int)) (.add rfl rfl (i64w oO)) oO) <| WL.M rfl <| WL.e <| ?_
 exact ⟨i + 1, ⟨rfl, rfl, rfl, rfl, tT⟩, ⟨f, s, by ((try simp only) <;> omega), fun j h hj => by
  rcases Nat.lt_succ_iff_lt_or_eq.1 hj with x | rfl; exact a j h x
  assumption⟩, by ((try simp only) <;> omega)⟩
 have o := dF m
 refine W.exit <| W.sr <| WL.Z rfl <| W.ret (W.r1 rfl rfl ?_)
 exact ⟨_, rfl, .inl ⟨rfl, find_no (fun j h => a j h oO)⟩, hT⟩
theorem choose_no {fs : List FtV} {V : Vw} {args : List PV} (h : ∀ a b, args = [a, b] → pvK a = 4 → False) : chooseV fs V args = .error 22 := by
 unfold chooseV
 split
 ·
  next a b =>
  have : pvK a ≠ 4 := fun e => h a b rfl e
  rw [decide_eq_false this]; rfl
 ·
  rfl
def chF (V : Vw) (n : Int) (o : Option FtV) : Except Int Vw := match o with
 | none => .error 26
 | some f => .ok { V with s := { V.s with font := f.font, size := n } }
theorem choose_1 {fs : List FtV} {V : Vw} {args : List PV} (h : args.length = 2) (h4 : pvK args[0] = 4) :
  chooseV fs V args = (wantV (numP args[1]).2 >>= fun _ => chF V (numP args[1]).1 (fs.find? fun f => decide (f.name = pvT args[0]))) := by
 match args, h with
 | [a, b], _ =>
  have h4 : pvK a = 4 := h4
  show (wantV (decide (pvK a = 4)) >>= fun _ => wantV (numP b).2 >>= fun _ => _) = _
  rw [decide_eq_true h4]
  rfl
section
variable {B : Nat} {fs : Fcx} {w : World} {bv : Nat} {F : Nat → Prop} {V : Vw} {args : List PV}
theorem vw_choose1 {H : VwH} {p : Option Addr} {cs : List PC} {c bc : Nat} (f : FtV) (hbk : Blk w bv (vwC H).toArray 74) (ha : H.args = .slice p cs.length c) (hr : RowM pcL w p cs) (h0 : 0 < cs.length) (h1 : Blk w bc #[.pointer (some ⟨bv, 0, none⟩)] 65) :
  Calls Tryz.prog 98 #[.agg (ftV f).toArray, .pointer (some ⟨bc, 0, none⟩)] w fun e w' => e = .returned (.bool (decide (f.name = (cs[0]).text))) ∧ Below w.heap.size w w' := by
 obtain ⟨s, fo, sa, pa, cl, it, lo, te, li, ar, itv⟩ := H
 simp only at ha
 subst ha
 refine W.e func98 rfl ntmps98 bL ?_
 have q := br_ (w.heap.size) w
 refine W.sr <| WL.box rfl rfl (fun v o m a l D => ?_)
 have x := bgl m h1.lt
 have j := h1.un l x
 have y := bgl m hbk.lt
 have k := hbk.un l y
 have t := fun h0 => m ▸ hr.lt h0
 have A := RowM.upd hr l (fun h0 => nn_ (t h0))
 have B := uB q m l
 have C := bge m q.size
 refine WL.Z rfl <| W.seq <| W.regH 11 rfl mixed (fun w' => w'.heap[bc]? = o.heap[bc]? ∧ w'.heap[bv]? = o.heap[bv]? ∧ w'.heap[v]? = o.heap[v]? ∧ RowM pcL w' p cs ∧ True) (fun E n => ?_)
 have d := j.drew n
 have g := k.drew n
 have i := a.drew n
 have b := A.drew n
 have u := Drew.below B n
 refine WH.tp 0 rfl (.fa underlying53 rfl s9_ dD rfl) ⟨(d).trans (j).symm, (g).trans (k).symm, (i).trans (a).symm, b, tT⟩ rfl ?_
 refine WH.tk 1 rfl (fun w' hw' => Rd.ld (g9_ _) rfl ((hw'.2.2.1).trans a) rfl) ⟨(d).trans (j).symm, (g).trans (k).symm, (i).trans (a).symm, b, tT⟩ rfl ?_
 refine WH.tk 2 rfl (fun w' hw' => Rd.ld (g65_ _) rfl ((hw'.1).trans j) rfl) ⟨(d).trans (j).symm, (g).trans (k).symm, (i).trans (a).symm, b, tT⟩ rfl ?_
 refine WH.tp 3 rfl (.nck rfl) ⟨(d).trans (j).symm, (g).trans (k).symm, (i).trans (a).symm, b, tT⟩ rfl ?_
 refine WH.tp 4 rfl (.fa u74_ rfl s72_ dD rfl) ⟨(d).trans (j).symm, (g).trans (k).symm, (i).trans (a).symm, b, tT⟩ rfl ?_
 refine WH.tk 5 rfl (fun w' hw' => Rd.ld (g72_ _) rfl ((hw'.2.1).trans k) rfl) ⟨(d).trans (j).symm, (g).trans (k).symm, (i).trans (a).symm, b, tT⟩ rfl ?_
 refine WH.tp 6 rfl (.ixm u72_ s99_ rfl rfl (b.isp (by first | omega | (simp only [List.length_cons, List.length_nil]; omega))) (0) (rfl) oO) ⟨(d).trans (j).symm, (g).trans (k).symm, (i).trans (a).symm, b, tT⟩ rfl ?_
 refine WH.tp 7 rfl (.fa u99_ rfl s9_ dD rfl) ⟨(d).trans (j).symm, (g).trans (k).symm, (i).trans (a).symm, b, tT⟩ rfl ?_
 refine WH.tk 8 rfl (fun w' hw' => Rd.ldc (g9_ _) rfl (((hw'.2.2.2.1).field (0) (by first | omega | (simp only [List.length_cons, List.length_nil]; omega)) 2 dD).trans rfl)) ⟨(d).trans (j).symm, (g).trans (k).symm, (i).trans (a).symm, b, tT⟩ rfl ?_
 refine WH.tp 9 rfl (.eqs rfl rfl) ⟨(d).trans (j).symm, (g).trans (k).symm, (i).trans (a).symm, b, tT⟩ rfl ?_
 refine WH.tp 10 rfl (.as rfl) ⟨(d).trans (j).symm, (g).trans (k).symm, (i).trans (a).symm, b, tT⟩ rfl ?_
 refine WH.done kR <| W.ret (W.r1 rfl rfl ?_)
 exact ⟨rfl, u⟩
theorem vw_choose (h : Vwr B fs w bv F V args) (ha : args.length ≤ 32) :
  Calls Tryz.prog 70 #[.pointer (some ⟨bv, 0, none⟩)] w (VwE B fs bv F w (chooseV fs.fs V args) args) := by
 obtain ⟨b2, b3⟩ := h.base
 obtain ⟨H, vp, its, hs, cs, rfl, hO, hR⟩ := h.mem
 have ag := hO.blk
 have ay := hR.ar
 have b4 := hO.oa
 obtain ⟨pf, cf, ef, a8⟩ := hR.fonts
 have aE := @Vwr.set1 B fs w
 obtain ⟨s, fo, sa, pa, cl, it, lo, te, li, ar, itv⟩ := H
 obtain ⟨p, c, e, hr, -⟩ := b4.row
 simp only at e ef
 subst e
 subst ef
 have ah := ay.1
 have P := ay.kn
 have bm := hr.lt
 have bj := ag.lt
 have b5 : fs.fs.length ≤ 9223372036854775807 := by have h1 := a8.sl.le; have h2 := a8.sl.cap; unfold maxLen at h2; omega
 have az : 0 < fs.fs.length → (pA pf).block ≠ bv := fun l e => (a8.inn l).2.1 (.inl e)
 have ai := a8.row
 have a9 : ∀ w1, KeepB w.heap.size [bv] w w1 → Below B w w1 := fun w1 hK => hK.below b3 (by simpa using b2)
 refine W.e func70 rfl ntmps70 bL ?_
 have aA := KeepB.refl w.heap.size ([bv]) w
 refine W.sr <| WL.box rfl rfl (fun b1 bn aa T U bk => ?_)
 have b6 := bgl aa ag.lt
 have ab := ag.un U b6
 have aF := fun l => aa ▸ hr.lt l
 have Q := RowM.upd hr U (fun l => nn_ (aF l))
 have aG := fun l => aa ▸ ai.lt l
 have ac := RowM.upd ai U (fun l => nn_ (aG l))
 have ax := bge aa aA.size
 have ad := kt_ aA (kn_ U ax)
 refine WL.e <| W.cut (α := Unit) (fun t => [(0, .pointer (some ⟨bv, 0, none⟩)), (1, .pointer (some ⟨b1, 0, none⟩))]) (fun t w' => KeepB w.heap.size [bv] w w' ∧ Blk w' bv (vwC ⟨s, .slice pf fs.fs.length cf, sa, pa, cl, it, lo, te, li, .slice p cs.length c, itv⟩).toArray 74 ∧ Blk w' b1 #[.pointer (some ⟨bv, 0, none⟩)] 65 ∧ RowM pcL w' p cs ∧ RowM ftL w' pf fs.fs ∧ ∃ D : cs.length = 2, cs[0].kind = 4) ?_ (fun t w1 hR => ?_)
 refine W.reg <| WL.R (Rd.ld (g65_ _) rfl T rfl) <| WL.O (.nck rfl) <| WL.O (.fa u74_ rfl s72_ dD rfl) <| WL.R (Rd.ld (g72_ _) rfl ab rfl) <| WL.O (.lenS u72_ rfl) <| WL.O (.eql rfl rfl) <| WL.M rfl <| WL.gd rfl rfl rfl (fun q => ?_) (fun q => ?_)
 have b7 := dT q
 refine WL.R (Rd.ld (g65_ _) rfl T rfl) <| WL.Y q <| WL.O (.nck rfl) <| WL.Y q <| WL.O (.fa u74_ rfl s72_ dD rfl) <| WL.Y q <| WL.R (Rd.ld (g72_ _) rfl ab rfl) <| WL.Y q <| WL.O (.ixm u72_ s99_ rfl rfl (Q.isp (by first | omega | (simp only [List.length_cons, List.length_nil]; omega))) 0 rfl oO) <| WL.Y q <| WL.O (.fa u99_ rfl s3_ dD rfl) <| WL.Y q <| WL.R (Rd.ldc (g3_ _) rfl ((Q.field (0) (by first | omega | (simp only [List.length_cons, List.length_nil]; omega)) 0 dD).trans rfl)) <| WL.Y q <| WL.O (.eql rfl rfl) <| WL.O (.pkT rfl q rfl) <| WL.ce hB_ rfl rfl ((vw_want _ _)) (fun bo b8 X u => ?_) (fun bp b8 X u => ?_)
 have aj := kB ad u
 obtain ⟨ak, rfl⟩ := want_err X
 exact pn_is (ee_ 22 (choose_no fun a b ho h6 => by
  subst ho; have D : cs.length = 2 := ah; obtain ⟨q1, q2, -⟩ := P 0 oO (by simp); simp only [List.getElem_cons_zero] at q1 q2
  first
   | omega
   | (rw [decide_eq_false_iff_not] at ak; omega)) (a9 _ aj))
 have aH := ab.bl u
 have aI := T.bl u
 have aJ := rb_ Q u (fun l => Q.lt l)
 have aK := rb_ ac u (fun l => ac.lt l)
 have aL := kB ad u
 have E := want_ok X
 have D : cs.length = 2 := by first | exact ab_ E dD | omega
 have ae : cs[0].kind = 4 := by first | exact ab_ E dD | exact dT E
 refine WL.e <| ?_
 exact ⟨(), ⟨rfl, rfl, tT⟩, aL, aH, aI, aJ, aK, D, ae⟩
 have b7 := dF q
 refine WL.N q <| WL.N q <| WL.N q <| WL.N q <| WL.N q <| WL.N q <| WL.N q <| WL.O (.pkF rfl q rfl) <| WL.ce hB_ rfl rfl ((vw_want _ _)) (fun bq b9 a0 v => ?_) (fun bt b9 a0 v => ?_)
 have al := kB ad v
 obtain ⟨ak, rfl⟩ := want_err a0
 exact pn_is (ee_ 22 (choose_no fun a b ho h6 => by
  subst ho; have D : cs.length = 2 := ah; obtain ⟨q1, q2, -⟩ := P 0 oO (by simp); simp only [List.getElem_cons_zero] at q1 q2
  first
   | omega
   | (rw [decide_eq_false_iff_not] at ak; omega)) (a9 _ al))
 have aM := ab.bl v
 have aN := T.bl v
 have aO := rb_ Q v (fun l => Q.lt l)
 have aP := rb_ ac v (fun l => ac.lt l)
 have aQ := kB ad v
 have E := want_ok a0
 have D : cs.length = 2 := by first | exact ab_ E dD | omega
 have ae : cs[0].kind = 4 := by first | exact ab_ E dD | exact dT E
 refine WL.e <| ?_
 exact ⟨(), ⟨rfl, rfl, tT⟩, aQ, aM, aN, aO, aP, D, ae⟩
 obtain ⟨j1, j2, aB, j3, aC, D, ae⟩ := hR
 have ba : args.length = 2 := by omega
 have hD := choose_1 (fs := fs.fs) (V := V) ba (by have := (P 0 oO oO).1; omega)
 have bb : numX cs[1].kind cs[1].n = numP args[1] := by rw [← numX_P, (P 1 oO oO).1, (P 1 oO oO).2.1]
 have hT : pvT args[0] = cs[0].text := (P 0 oO oO).2.2
 rw [hT] at hD
 generalize numP args[1] = ph at *
 obtain ⟨ph, phB⟩ := ph
 simp only at hD
 refine W.sr <| WL.R (Rd.ld (g65_ _) rfl aB rfl) <| WL.O (.nck rfl) <| WL.O (.fa u74_ rfl s72_ dD rfl) <| WL.R (Rd.ld (g72_ _) rfl j2 rfl) <| WL.O (.ixm u72_ s99_ rfl rfl (j3.isp (by first | omega | (simp only [List.length_cons, List.length_nil]; omega))) (1) (rfl) oO) <| WL.R (Rd.ldS u99_ rfl isz99 j3 (1) (by first | omega | (simp only [List.length_cons, List.length_nil]; omega)) rfl) <| WL.c1 hB_ rfl rfl ((plex_Number cs[1] _)) (fun bu G => ?_)
 have aR := j2.bl G
 have aS := aB.bl G
 have am := rb_ j3 G (fun l => j3.lt l)
 have an := rb_ aC G (fun l => aC.lt l)
 have ao := kB j1 G
 rw [bb]
 refine WL.M rfl <| WL.O (.ext rfl rfl) <| WL.O (.ext rfl rfl) <| WL.A rfl <| WL.Z rfl <| W.sr <| WL.M rfl <| WL.ce hB_ rfl rfl ((vw_want _ _)) (fun bc bd a1 x => ?_) (fun bw bd a1 x => ?_)
 have ap := kB ao x
 exact pn_is (ee_ bc (by rw [hD]; exact bind_err a1) (a9 _ ap))
 have a2 := aR.bl x
 have a3 := aS.bl x
 have aq := rb_ am x (fun l => am.lt l)
 have a7 := rb_ an x (fun l => an.lt l)
 have aT := kB ao x
 rw [bind_ok a1] at hD
 refine WL.e <| W.sr <| WL.R (Rd.ld (g65_ _) rfl a3 rfl) <| WL.O (.nck rfl) <| WL.O (.fa u74_ rfl sizeOf25 dD rfl) <| WL.R (Rd.ld (isAgg25 _) rfl a2 rfl) <| WL.O (.mkFv rfl) <| WL.call hB_ rfl rfl ((lib_IndexFont hB_ _ pf fs.fs cf (fun f => decide (f.name = cs[0].text)) _ a7 b5 (fun j hj wx hb => vw_choose1 fs.fs[j] ((a2).below hb (a2).lt) rfl ((aq).below hb (aq).lt) oO ((a3).below hb (a3).lt)))) (fun r be J => ?_)
 have aU := a2.bl J.2
 have d := a3.bl J.2
 have aV := rb_ a7 J.2 (fun l => a7.lt l)
 have au := kB aT J.2
 have aD := J.1
 refine WL.Z rfl <| W.seq <| W.sr <| WL.M rfl <| WL.O (.lss rfl rfl) <| WL.e <| W.cond rfl (fun av => ?_) (fun av => ?_)
 have aW := dT av
 refine W.reg <| WL.O (.mkI u30_ rfl) <| WL.panic rfl (pn_is ?_)
 obtain ⟨-, af⟩ | ⟨j, hj, rfl, af⟩ := aD
 exact ee_ 26 (by rw [hD, af]; rfl) (a9 _ au)
 exfalso; omega
 have aW := dF av
 obtain ⟨bx, -⟩ | ⟨j, hj, rfl, af⟩ := aD
 exfalso; omega
 rw [af] at hD
 refine W.k <| W.regH 19 rfl mixed (fun w' => w'.heap[b1]? = be.heap[b1]? ∧ RowM ftL w' pf fs.fs ∧ True) (fun bz a4 => ?_)
 have aw := aU.drew a4
 have i := d.drew a4
 have g := aV.drew a4
 have aX := kt_ au (kd_ a4)
 refine WH.tk 0 rfl (fun w' hw' => Rd.ld (g65_ _) rfl ((hw'.1).trans d) rfl) ⟨(i).trans (d).symm, g, tT⟩ rfl ?_
 refine WH.tk 1 rfl (fun w' hw' => Rd.ld (g65_ _) rfl ((hw'.1).trans d) rfl) ⟨(i).trans (d).symm, g, tT⟩ rfl ?_
 refine WH.tk 2 rfl (fun w' hw' => Rd.ld (g65_ _) rfl ((hw'.1).trans d) rfl) ⟨(i).trans (d).symm, g, tT⟩ rfl ?_
 refine WH.tp 3 rfl (.nck rfl) ⟨(i).trans (d).symm, g, tT⟩ rfl ?_
 refine WH.tp 4 rfl (.fa u74_ rfl sizeOf25 dD rfl) ⟨(i).trans (d).symm, g, tT⟩ rfl ?_
 refine WH.tp 6 rfl (.mv rfl) ⟨(i).trans (d).symm, g, tT⟩ rfl ?_
 refine WH.tp 10 rfl (.mv rfl) ⟨(i).trans (d).symm, g, tT⟩ rfl ?_
 refine WH.br1 5 rfl <| WL.R (Rd.ld (isAgg25 _) rfl aw rfl) <| WL.e <| ⟨⟨(i).trans (d).symm, g, tT⟩, ?_⟩
 refine WH.tp 7 rfl (.ixm u25_ sizeOf53 rfl rfl (g.isp (by first | omega | (simp only [List.length_cons, List.length_nil]; omega))) (j) (rfl) oO) ⟨(i).trans (d).symm, g, tT⟩ rfl ?_
 refine WH.tp 8 rfl (.fa underlying53 rfl s3_ dD rfl) ⟨(i).trans (d).symm, g, tT⟩ rfl ?_
 refine WH.br1 9 rfl <| WL.R (Rd.ldc (g3_ _) rfl ((g.field (j) (by first | omega | (simp only [List.length_cons, List.length_nil]; omega)) 1 dD).trans rfl)) <| WL.e <| ⟨⟨(i).trans (d).symm, g, tT⟩, ?_⟩
 refine WH.tp 11 rfl (.nck rfl) ⟨(i).trans (d).symm, g, tT⟩ rfl ?_
 refine WH.tp 12 rfl (.fa u74_ rfl s68_ dD rfl) ⟨(i).trans (d).symm, g, tT⟩ rfl ?_
 refine WH.tp 13 rfl (.fa u68_ rfl s3_ dD rfl) ⟨(i).trans (d).symm, g, tT⟩ rfl ?_
 refine WH.br1 14 rfl <| WL.stC (o := 23) ((vwC ⟨{ s with font := fs.fs[j].font }, .slice pf fs.fs.length cf, sa, pa, cl, it, lo, te, li, .slice p cs.length c, itv⟩).toArray) s3_ rfl (rfl) rfl (rfl) aw bL (rfl) (fun bf a5 y bh => ?_)
 have a5 : Blk bf bv _ _ := a5
 have y : Upd bv _ _ := y
 have K := i.up y
 have L := RowM.upd g y (az)
 have aY := kU aX y
 refine WL.e <| ⟨⟨(K).trans (d).symm, L, tT⟩, ?_⟩
 refine WH.tp 15 rfl (.nck rfl) ⟨(K).trans (d).symm, L, tT⟩ rfl ?_
 refine WH.tp 16 rfl (.fa u74_ rfl s68_ dD rfl) ⟨(K).trans (d).symm, L, tT⟩ rfl ?_
 refine WH.tp 17 rfl (.fa u68_ rfl s3_ dD rfl) ⟨(K).trans (d).symm, L, tT⟩ rfl ?_
 refine WH.br1 18 rfl <| WL.stC (o := 24) ((vwC ⟨{ s with font := fs.fs[j].font, size := ph }, .slice pf fs.fs.length cf, sa, pa, cl, it, lo, te, li, .slice p cs.length c, itv⟩).toArray) s3_ rfl (rfl) rfl (rfl) a5 bL (rfl) (fun bg a6 C bi => ?_)
 have a6 : Blk bg bv _ _ := a6
 have C : Upd bv _ _ := C
 have aZ := K.up C
 have a' := RowM.upd L C (az)
 have b0 := kU aY C
 refine WL.e <| ⟨⟨(aZ).trans (d).symm, a', tT⟩, ?_⟩
 refine WH.done kR <| W.norm (W.ret0 rfl ?_)
 refine eo_ _ _ hD rfl ⟨rfl, aE hO b0 a6 (fun m => ?_)⟩
 have hq := hR.mv m
 exact { hq with st := { hq.st with font := rfl, size := rfl } }
end
end
section
def fHelv : List UInt8 := [48, 50, 55, 56, 48, 50, 55, 56, 48, 51, 53, 53, 48, 53, 53, 54, 48, 53, 53, 54, 48, 56, 56, 57, 48, 54, 54, 55, 48, 50, 50, 50, 48, 51, 51, 51, 48, 51, 51, 51, 48, 51, 56, 57, 48, 53, 56, 52, 48, 50, 55, 56, 48, 51, 51, 51, 48, 50, 55, 56, 48, 50, 55, 56, 48, 53, 53, 54, 48, 53, 53, 54, 48, 53, 53, 54, 48, 53, 53, 54, 48, 53, 53, 54, 48, 53, 53, 54, 48, 53, 53, 54, 48, 53, 53, 54, 48, 53, 53, 54, 48, 53, 53, 54, 48, 50, 55, 56, 48, 50, 55, 56, 48, 53, 56, 52, 48, 53, 56, 52, 48, 53, 56, 52, 48, 53, 53, 54, 49, 48, 49, 53, 48, 54, 54, 55, 48, 54, 54, 55, 48, 55, 50, 50, 48, 55, 50, 50, 48, 54, 54, 55, 48, 54, 49, 49, 48, 55, 55, 56, 48, 55, 50, 50, 48, 50, 55, 56, 48, 53, 48, 48, 48, 54, 54, 55, 48, 53, 53, 54, 48, 56, 51, 51, 48, 55, 50, 50, 48, 55, 55, 56, 48, 54, 54, 55, 48, 55, 55, 56, 48, 55, 50, 50, 48, 54, 54, 55, 48, 54, 49, 49, 48, 55, 50, 50, 48, 54, 54, 55, 48, 57, 52, 52, 48, 54, 54, 55, 48, 54, 54, 55, 48, 54, 49, 49, 48, 50, 55, 56, 48, 50, 55, 56, 48, 50, 55, 56, 48, 52, 54, 57, 48, 53, 53, 54, 48, 50, 50, 50, 48, 53, 53, 54, 48, 53, 53, 54, 48, 53, 48, 48, 48, 53, 53, 54, 48, 53, 53, 54, 48, 50, 55, 56, 48, 53, 53, 54, 48, 53, 53, 54, 48, 50, 50, 50, 48, 50, 50, 50, 48, 53, 48, 48, 48, 50, 50, 50, 48, 56, 51, 51, 48, 53, 53, 54, 48, 53, 53, 54, 48, 53, 53, 54, 48, 53, 53, 54, 48, 51, 51, 51, 48, 53, 48, 48, 48, 50, 55, 56, 48, 53, 53, 54, 48, 53, 48, 48, 48, 55, 50, 50, 48, 53, 48, 48, 48, 53, 48, 48, 48, 53, 48, 48, 48, 51, 51, 52, 48, 50, 54, 48, 48, 51, 51, 52, 48, 53, 56, 52]
def fHelvB : List UInt8 := [48, 50, 55, 56, 48, 51, 51, 51, 48, 52, 55, 52, 48, 53, 53, 54, 48, 53, 53, 54, 48, 56, 56, 57, 48, 55, 50, 50, 48, 50, 55, 56, 48, 51, 51, 51, 48, 51, 51, 51, 48, 51, 56, 57, 48, 53, 56, 52, 48, 50, 55, 56, 48, 51, 51, 51, 48, 50, 55, 56, 48, 50, 55, 56, 48, 53, 53, 54, 48, 53, 53, 54, 48, 53, 53, 54, 48, 53, 53, 54, 48, 53, 53, 54, 48, 53, 53, 54, 48, 53, 53, 54, 48, 53, 53, 54, 48, 53, 53, 54, 48, 53, 53, 54, 48, 51, 51, 51, 48, 51, 51, 51, 48, 53, 56, 52, 48, 53, 56, 52, 48, 53, 56, 52, 48, 54, 49, 49, 48, 57, 55, 53, 48, 55, 50, 50, 48, 55, 50, 50, 48, 55, 50, 50, 48, 55, 50, 50, 48, 54, 54, 55, 48, 54, 49, 49, 48, 55, 55, 56, 48, 55, 50, 50, 48, 50, 55, 56, 48, 53, 53, 54, 48, 55, 50, 50, 48, 54, 49, 49, 48, 56, 51, 51, 48, 55, 50, 50, 48, 55, 55, 56, 48, 54, 54, 55, 48, 55, 55, 56, 48, 55, 50, 50, 48, 54, 54, 55, 48, 54, 49, 49, 48, 55, 50, 50, 48, 54, 54, 55, 48, 57, 52, 52, 48, 54, 54, 55, 48, 54, 54, 55, 48, 54, 49, 49, 48, 51, 51, 51, 48, 50, 55, 56, 48, 51, 51, 51, 48, 53, 56, 52, 48, 53, 53, 54, 48, 50, 55, 56, 48, 53, 53, 54, 48, 54, 49, 49, 48, 53, 53, 54, 48, 54, 49, 49, 48, 53, 53, 54, 48, 51, 51, 51, 48, 54, 49, 49, 48, 54, 49, 49, 48, 50, 55, 56, 48, 50, 55, 56, 48, 53, 53, 54, 48, 50, 55, 56, 48, 56, 56, 57, 48, 54, 49, 49, 48, 54, 49, 49, 48, 54, 49, 49, 48, 54, 49, 49, 48, 51, 56, 57, 48, 53, 53, 54, 48, 51, 51, 51, 48, 54, 49, 49, 48, 53, 53, 54, 48, 55, 55, 56, 48, 53, 53, 54, 48, 53, 53, 54, 48, 53, 48, 48, 48, 51, 56, 57, 48, 50, 56, 48, 48, 51, 56, 57, 48, 53, 56, 52]
def fTim : List UInt8 := [48, 50, 53, 48, 48, 51, 51, 51, 48, 52, 48, 56, 48, 53, 48, 48, 48, 53, 48, 48, 48, 56, 51, 51, 48, 55, 55, 56, 48, 51, 51, 51, 48, 51, 51, 51, 48, 51, 51, 51, 48, 53, 48, 48, 48, 53, 54, 52, 48, 50, 53, 48, 48, 51, 51, 51, 48, 50, 53, 48, 48, 50, 55, 56, 48, 53, 48, 48, 48, 53, 48, 48, 48, 53, 48, 48, 48, 53, 48, 48, 48, 53, 48, 48, 48, 53, 48, 48, 48, 53, 48, 48, 48, 53, 48, 48, 48, 53, 48, 48, 48, 53, 48, 48, 48, 50, 55, 56, 48, 50, 55, 56, 48, 53, 54, 52, 48, 53, 54, 52, 48, 53, 54, 52, 48, 52, 52, 52, 48, 57, 50, 49, 48, 55, 50, 50, 48, 54, 54, 55, 48, 54, 54, 55, 48, 55, 50, 50, 48, 54, 49, 49, 48, 53, 53, 54, 48, 55, 50, 50, 48, 55, 50, 50, 48, 51, 51, 51, 48, 51, 56, 57, 48, 55, 50, 50, 48, 54, 49, 49, 48, 56, 56, 57, 48, 55, 50, 50, 48, 55, 50, 50, 48, 53, 53, 54, 48, 55, 50, 50, 48, 54, 54, 55, 48, 53, 53, 54, 48, 54, 49, 49, 48, 55, 50, 50, 48, 55, 50, 50, 48, 57, 52, 52, 48, 55, 50, 50, 48, 55, 50, 50, 48, 54, 49, 49, 48, 51, 51, 51, 48, 50, 55, 56, 48, 51, 51, 51, 48, 52, 54, 57, 48, 53, 48, 48, 48, 51, 51, 51, 48, 52, 52, 52, 48, 53, 48, 48, 48, 52, 52, 52, 48, 53, 48, 48, 48, 52, 52, 52, 48, 51, 51, 51, 48, 53, 48, 48, 48, 53, 48, 48, 48, 50, 55, 56, 48, 50, 55, 56, 48, 53, 48, 48, 48, 50, 55, 56, 48, 55, 55, 56, 48, 53, 48, 48, 48, 53, 48, 48, 48, 53, 48, 48, 48, 53, 48, 48, 48, 51, 51, 51, 48, 51, 56, 57, 48, 50, 55, 56, 48, 53, 48, 48, 48, 53, 48, 48, 48, 55, 50, 50, 48, 53, 48, 48, 48, 53, 48, 48, 48, 52, 52, 52, 48, 52, 56, 48, 48, 50, 48, 48, 48, 52, 56, 48, 48, 53, 52, 49]
def fTimB : List UInt8 := [48, 50, 53, 48, 48, 51, 51, 51, 48, 53, 53, 53, 48, 53, 48, 48, 48, 53, 48, 48, 49, 48, 48, 48, 48, 56, 51, 51, 48, 51, 51, 51, 48, 51, 51, 51, 48, 51, 51, 51, 48, 53, 48, 48, 48, 53, 55, 48, 48, 50, 53, 48, 48, 51, 51, 51, 48, 50, 53, 48, 48, 50, 55, 56, 48, 53, 48, 48, 48, 53, 48, 48, 48, 53, 48, 48, 48, 53, 48, 48, 48, 53, 48, 48, 48, 53, 48, 48, 48, 53, 48, 48, 48, 53, 48, 48, 48, 53, 48, 48, 48, 53, 48, 48, 48, 51, 51, 51, 48, 51, 51, 51, 48, 53, 55, 48, 48, 53, 55, 48, 48, 53, 55, 48, 48, 53, 48, 48, 48, 57, 51, 48, 48, 55, 50, 50, 48, 54, 54, 55, 48, 55, 50, 50, 48, 55, 50, 50, 48, 54, 54, 55, 48, 54, 49, 49, 48, 55, 55, 56, 48, 55, 55, 56, 48, 51, 56, 57, 48, 53, 48, 48, 48, 55, 55, 56, 48, 54, 54, 55, 48, 57, 52, 52, 48, 55, 50, 50, 48, 55, 55, 56, 48, 54, 49, 49, 48, 55, 55, 56, 48, 55, 50, 50, 48, 53, 53, 54, 48, 54, 54, 55, 48, 55, 50, 50, 48, 55, 50, 50, 49, 48, 48, 48, 48, 55, 50, 50, 48, 55, 50, 50, 48, 54, 54, 55, 48, 51, 51, 51, 48, 50, 55, 56, 48, 51, 51, 51, 48, 53, 56, 49, 48, 53, 48, 48, 48, 51, 51, 51, 48, 53, 48, 48, 48, 53, 53, 54, 48, 52, 52, 52, 48, 53, 53, 54, 48, 52, 52, 52, 48, 51, 51, 51, 48, 53, 48, 48, 48, 53, 53, 54, 48, 50, 55, 56, 48, 51, 51, 51, 48, 53, 53, 54, 48, 50, 55, 56, 48, 56, 51, 51, 48, 53, 53, 54, 48, 53, 48, 48, 48, 53, 53, 54, 48, 53, 53, 54, 48, 52, 52, 52, 48, 51, 56, 57, 48, 51, 51, 51, 48, 53, 53, 54, 48, 53, 48, 48, 48, 55, 50, 50, 48, 53, 48, 48, 48, 53, 48, 48, 48, 52, 52, 52, 48, 51, 57, 52, 48, 50, 50, 48, 48, 51, 57, 52, 48, 53, 50, 48]
def fTimI : List UInt8 := [48, 50, 53, 48, 48, 51, 51, 51, 48, 52, 50, 48, 48, 53, 48, 48, 48, 53, 48, 48, 48, 56, 51, 51, 48, 55, 55, 56, 48, 51, 51, 51, 48, 51, 51, 51, 48, 51, 51, 51, 48, 53, 48, 48, 48, 54, 55, 53, 48, 50, 53, 48, 48, 51, 51, 51, 48, 50, 53, 48, 48, 50, 55, 56, 48, 53, 48, 48, 48, 53, 48, 48, 48, 53, 48, 48, 48, 53, 48, 48, 48, 53, 48, 48, 48, 53, 48, 48, 48, 53, 48, 48, 48, 53, 48, 48, 48, 53, 48, 48, 48, 53, 48, 48, 48, 51, 51, 51, 48, 51, 51, 51, 48, 54, 55, 53, 48, 54, 55, 53, 48, 54, 55, 53, 48, 53, 48, 48, 48, 57, 50, 48, 48, 54, 49, 49, 48, 54, 49, 49, 48, 54, 54, 55, 48, 55, 50, 50, 48, 54, 49, 49, 48, 54, 49, 49, 48, 55, 50, 50, 48, 55, 50, 50, 48, 51, 51, 51, 48, 52, 52, 52, 48, 54, 54, 55, 48, 53, 53, 54, 48, 56, 51, 51, 48, 54, 54, 55, 48, 55, 50, 50, 48, 54, 49, 49, 48, 55, 50, 50, 48, 54, 49, 49, 48, 53, 48, 48, 48, 53, 53, 54, 48, 55, 50, 50, 48, 54, 49, 49, 48, 56, 51, 51, 48, 54, 49, 49, 48, 53, 53, 54, 48, 53, 53, 54, 48, 51, 56, 57, 48, 50, 55, 56, 48, 51, 56, 57, 48, 52, 50, 50, 48, 53, 48, 48, 48, 51, 51, 51, 48, 53, 48, 48, 48, 53, 48, 48, 48, 52, 52, 52, 48, 53, 48, 48, 48, 52, 52, 52, 48, 50, 55, 56, 48, 53, 48, 48, 48, 53, 48, 48, 48, 50, 55, 56, 48, 50, 55, 56, 48, 52, 52, 52, 48, 50, 55, 56, 48, 55, 50, 50, 48, 53, 48, 48, 48, 53, 48, 48, 48, 53, 48, 48, 48, 53, 48, 48, 48, 51, 56, 57, 48, 51, 56, 57, 48, 50, 55, 56, 48, 53, 48, 48, 48, 52, 52, 52, 48, 54, 54, 55, 48, 52, 52, 52, 48, 52, 52, 52, 48, 51, 56, 57, 48, 52, 48, 48, 48, 50, 55, 53, 48, 52, 48, 48, 48, 53, 52, 49]
def fTimBI : List UInt8 := [48, 50, 53, 48, 48, 51, 56, 57, 48, 53, 53, 53, 48, 53, 48, 48, 48, 53, 48, 48, 48, 56, 51, 51, 48, 55, 55, 56, 48, 51, 51, 51, 48, 51, 51, 51, 48, 51, 51, 51, 48, 53, 48, 48, 48, 53, 55, 48, 48, 50, 53, 48, 48, 51, 51, 51, 48, 50, 53, 48, 48, 50, 55, 56, 48, 53, 48, 48, 48, 53, 48, 48, 48, 53, 48, 48, 48, 53, 48, 48, 48, 53, 48, 48, 48, 53, 48, 48, 48, 53, 48, 48, 48, 53, 48, 48, 48, 53, 48, 48, 48, 53, 48, 48, 48, 51, 51, 51, 48, 51, 51, 51, 48, 53, 55, 48, 48, 53, 55, 48, 48, 53, 55, 48, 48, 53, 48, 48, 48, 56, 51, 50, 48, 54, 54, 55, 48, 54, 54, 55, 48, 54, 54, 55, 48, 55, 50, 50, 48, 54, 54, 55, 48, 54, 54, 55, 48, 55, 50, 50, 48, 55, 55, 56, 48, 51, 56, 57, 48, 53, 48, 48, 48, 54, 54, 55, 48, 54, 49, 49, 48, 56, 56, 57, 48, 55, 50, 50, 48, 55, 50, 50, 48, 54, 49, 49, 48, 55, 50, 50, 48, 54, 54, 55, 48, 53, 53, 54, 48, 54, 49, 49, 48, 55, 50, 50, 48, 54, 54, 55, 48, 56, 56, 57, 48, 54, 54, 55, 48, 54, 49, 49, 48, 54, 49, 49, 48, 51, 51, 51, 48, 50, 55, 56, 48, 51, 51, 51, 48, 53, 55, 48, 48, 53, 48, 48, 48, 51, 51, 51, 48, 53, 48, 48, 48, 53, 48, 48, 48, 52, 52, 52, 48, 53, 48, 48, 48, 52, 52, 52, 48, 51, 51, 51, 48, 53, 48, 48, 48, 53, 53, 54, 48, 50, 55, 56, 48, 50, 55, 56, 48, 53, 48, 48, 48, 50, 55, 56, 48, 55, 55, 56, 48, 53, 53, 54, 48, 53, 48, 48, 48, 53, 48, 48, 48, 53, 48, 48, 48, 51, 56, 57, 48, 51, 56, 57, 48, 50, 55, 56, 48, 53, 53, 54, 48, 52, 52, 52, 48, 54, 54, 55, 48, 53, 48, 48, 48, 52, 52, 52, 48, 51, 56, 57, 48, 51, 52, 56, 48, 50, 50, 48, 48, 51, 52, 56, 48, 53, 55, 48]
def tblF (i : Int) : List UInt8 := if i = 4 ∨ i = 6 then fHelv else if i = 5 ∨ i = 7 then fHelvB else if i = 8 then fTim else if i = 9 then fTimB else if i = 10 then fTimI else if i = 11 then fTimBI else []
theorem tblF_len (i : Int) : (tblF i).length = 380 ∨ tblF i = [] := by
 unfold tblF
 repeat' split
 all_goals first | (right; rfl) | (left; kernel_rfl)
theorem tblF_dig (i : Int) : (tblF i).all (fun d => decide (48 ≤ d.toNat) && decide (d.toNat ≤ 57)) = true := by
 unfold tblF
 repeat' split
 all_goals kernel_rfl
def digF : Int → List UInt8 → Int
 | n, [] => n
 | n, d :: r => digF (10 * n + ((d.toNat : Int) - 48)) r
def widthF (i : Int) (c : UInt8) : Int :=
 if i < 0 ∨ 14 ≤ i ∨ c.toNat < 32 ∨ 126 < c.toNat then 0 else if tblF i = [] then (if i = 13 then 788 else 600) else digF 0 (((tblF i).drop (4 * (c.toNat - 32))).take 4)
def sumF (i : Int) : Int → List UInt8 → Int
 | n, [] => n
 | n, c :: r => sumF i (n + widthF i c) r
theorem digF_step {l : List UInt8} {i : Nat} (h : i < l.length) (n : Int) : digF n (l.drop i) = digF (10 * n + ((l[i].toNat : Int) - 48)) (l.drop (i + 1)) := by rw [List.drop_eq_getElem_cons h]; rfl
theorem sumF_step {f : Int} {l : List UInt8} {i : Nat} (h : i < l.length) (n : Int) : sumF f n (l.drop i) = sumF f (n + widthF f l[i]) (l.drop (i + 1)) := by rw [List.drop_eq_getElem_cons h]; rfl
theorem digF_le : ∀ (l : List UInt8) (n : Int), l.all (fun d => decide (48 ≤ d.toNat) && decide (d.toNat ≤ 57)) = true → 0 ≤ n → 0 ≤ digF n l ∧ digF n l + 1 ≤ (n + 1) * 10 ^ l.length
 | [], n, _, h0 => by simp [digF]; omega
 | d :: r, n, h, h0 => by
  rw [List.all_cons, Bool.and_eq_true, Bool.and_eq_true, decide_eq_true_eq, decide_eq_true_eq] at h
  have ih := digF_le r (10 * n + ((d.toNat : Int) - 48)) h.2 oO
  rw [digF]
  refine ⟨ih.1, Int.le_trans ih.2 ?_⟩
  rw [List.length_cons, Int.pow_succ, Int.mul_comm (10 ^ r.length) 10, ← Int.mul_assoc]
  exact Int.mul_le_mul_of_nonneg_right oO (Int.le_of_lt (Int.pow_pos dD))
theorem all_part {α : Type} {q : α → Bool} {l : List α} (a b : Nat) (h : l.all q = true) : ((l.drop a).take b).all q = true := by
 rw [List.all_eq_true] at h ⊢
 exact fun x hx => h x (List.mem_of_mem_drop (List.mem_of_mem_take hx))
theorem widthF_le (i : Int) (c : UInt8) : 0 ≤ widthF i c ∧ widthF i c ≤ 9999 := by
  unfold widthF
  split
  · omega
  · split
    · split <;> omega
    · have h := digF_le (((tblF i).drop (4 * (c.toNat - 32))).take 4) 0 (all_part _ _ (tblF_dig i)) oO
      have a : (((tblF i).drop (4 * (c.toNat - 32))).take 4).length ≤ 4 := by rw [List.length_take]; omega
      have b : (10 : Int) ^ (((tblF i).drop (4 * (c.toNat - 32))).take 4).length ≤ 10000 := by
        generalize (((tblF i).drop (4 * (c.toNat - 32))).take 4).length = n at a
        match n, a with
        | 0, _ => decide
        | 1, _ => decide
        | 2, _ => decide
        | 3, _ => decide
        | 4, _ => decide
      omega
theorem sumF_le' (i : Int) : ∀ (l : List UInt8) (n : Int), 0 ≤ n → n ≤ sumF i n l ∧ sumF i n l ≤ n + 9999 * (l.length : Int)
 | [], n, h => by simp [sumF]
 | c :: r, n, h => by
  have h1 := widthF_le i c
  have ih := sumF_le' i r (n + widthF i c) oO
  rw [sumF, List.length_cons]
  omega
theorem pow10_le {n : Nat} (h : n ≤ 4) : (10 : Int) ^ n ≤ 10000 := by
 match n, h with
 | 0, _ => decide
 | 1, _ => decide
 | 2, _ => decide
 | 3, _ => decide
 | 4, _ => decide
theorem font_table (i : Int) (w : World) : Calls Tryz.prog 170 #[.int .i64 i] w fun e w' => e = .returned (.string (bs (tblF i))) ∧ w = w' := by
 refine W.e func170 rfl ntmps170 bL ?_
 refine W.sr <| WL.Z rfl <| W.seq <| W.sr <| WL.M rfl <| WL.e <| W.b <| W.cut (α := Bool) (fun t => [(3, .int .i64 i), (4, .bool t)]) (fun t w' => w = w' ∧ t = decide (i = 4 ∨ i = 6)) ?_ (fun t A hR => ?_)
 refine W.sr <| WL.O (.eql rfl rfl) <| WL.Z rfl <| W.cond rfl (fun a => ?_) (fun a => ?_)
 have n := dT a
 refine W.k ?_
 exact ⟨_, ⟨rfl, rfl, tT⟩, rfl, by simp_all⟩
 have n := dF a
 refine W.reg <| WL.O (.eql rfl rfl) <| WL.Z rfl ?_
 exact ⟨_, ⟨rfl, rfl, tT⟩, rfl, by simp_all⟩
 obtain ⟨rfl, rfl⟩ := hR
 refine W.cond rfl (fun c => ?_) (fun c => ?_)
 have o := dT c
 refine W.sr <| WL.Z rfl <| W.ret (W.r1 rfl rfl ?_)
 exact ⟨fx_val (by rw [show tblF i = fHelv by unfold tblF; rw [if_pos aS]]; kernel_rfl), rfl⟩
 have o := dF c
 refine W.cut (α := Bool) (fun t => [(3, .int .i64 i), (7, .bool t)]) (fun t w' => w = w' ∧ t = decide (i = 5 ∨ i = 7)) ?_ (fun t A hR => ?_)
 refine W.sr <| WL.O (.eql rfl rfl) <| WL.Z rfl <| W.cond rfl (fun d => ?_) (fun d => ?_)
 have q := dT d
 refine W.k ?_
 exact ⟨_, ⟨rfl, rfl, tT⟩, rfl, by simp_all⟩
 have q := dF d
 refine W.reg <| WL.O (.eql rfl rfl) <| WL.Z rfl ?_
 exact ⟨_, ⟨rfl, rfl, tT⟩, rfl, by simp_all⟩
 obtain ⟨rfl, rfl⟩ := hR
 refine W.cond rfl (fun f => ?_) (fun f => ?_)
 have s := dT f
 refine W.sr <| WL.Z rfl <| W.ret (W.r1 rfl rfl ?_)
 exact ⟨fx_val (by rw [show tblF i = fHelvB by unfold tblF; rw [if_neg aS, if_pos aS]]; kernel_rfl), rfl⟩
 have s := dF f
 refine W.sr <| WL.O (.eql rfl rfl) <| WL.Z rfl <| W.cond rfl (fun g => ?_) (fun g => ?_)
 have u := dT g
 refine W.sr <| WL.Z rfl <| W.ret (W.r1 rfl rfl ?_)
 exact ⟨fx_val (by rw [show tblF i = fTim by unfold tblF; rw [if_neg aS, if_neg aS, if_pos aS]]; kernel_rfl), rfl⟩
 have u := dF g
 refine W.sr <| WL.O (.eql rfl rfl) <| WL.Z rfl <| W.cond rfl (fun j => ?_) (fun j => ?_)
 have v := dT j
 refine W.sr <| WL.Z rfl <| W.ret (W.r1 rfl rfl ?_)
 exact ⟨fx_val (by rw [show tblF i = fTimB by unfold tblF; rw [if_neg aS, if_neg aS, if_neg aS, if_pos aS]]; kernel_rfl), rfl⟩
 have v := dF j
 refine W.sr <| WL.O (.eql rfl rfl) <| WL.Z rfl <| W.cond rfl (fun l => ?_) (fun l => ?_)
 have x := dT l
 refine W.sr <| WL.Z rfl <| W.ret (W.r1 rfl rfl ?_)
 exact ⟨fx_val (by rw [show tblF i = fTimI by unfold tblF; rw [if_neg aS, if_neg aS, if_neg aS, if_neg aS, if_pos aS]]; kernel_rfl), rfl⟩
 have x := dF l
 refine W.sr <| WL.O (.eql rfl rfl) <| WL.Z rfl <| W.cond rfl (fun m => ?_) (fun m => ?_)
 have y := dT m
 refine W.sr <| WL.Z rfl <| W.ret (W.r1 rfl rfl ?_)
 exact ⟨fx_val (by rw [show tblF i = fTimBI by unfold tblF; rw [if_neg aS, if_neg aS, if_neg aS, if_neg aS, if_neg aS, if_pos aS]]; kernel_rfl), rfl⟩
 have y := dF m
 refine W.k <| W.sr <| WL.Z rfl <| W.ret (W.r1 rfl rfl ?_)
 exact ⟨fx_val (by rw [show tblF i = [] by unfold tblF; rw [if_neg aS, if_neg aS, if_neg aS, if_neg aS, if_neg aS, if_neg aS]]; rfl), rfl⟩
theorem font_Width (i : Int) (c : UInt8) (w : World) : Calls Tryz.prog 139 #[.int .i64 i, .int .u8 (c.toNat : Int)] w fun e w' => e = .returned (.int .i64 (widthF i c)) ∧ Below w.heap.size w w' := by
 have hc := c.toNat_lt
 refine W.e func139 rfl ntmps139 bL ?_
 have a := br_ (w.heap.size) w
 refine W.sr <| WL.Z rfl <| W.seq <| W.cutB 23 (decide (i < 0 ∨ 14 ≤ i ∨ c.toNat < 32 ∨ 126 < c.toNat)) ?_ ?_
 refine W.reg <| WL.M rfl <| WL.O (.lss rfl rfl) <| WL.M rfl <| WL.gd rfl rfl rfl (fun d => ?_) (fun d => ?_)
 have G := dF d
 refine WL.M rfl <| WL.Y d <| WL.O (.geq rfl rfl) <| WL.O (.pkF rfl d rfl) <| WL.M rfl <| WL.gd rfl rfl rfl (fun f => ?_) (fun f => ?_)
 have H := dF f
 refine WL.M rfl <| WL.Y f <| WL.O (.lss rfl rfl) <| WL.O (.pkF rfl f rfl) <| WL.M rfl <| WL.gd rfl rfl rfl (fun g => ?_) (fun g => ?_)
 have J := dF g
 refine WL.M rfl <| WL.Y g <| WL.O (.gtr rfl rfl) <| WL.O (.pkF rfl g rfl) <| WL.e <| ?_
 exact ⟨leE (lk_b rfl (by first | (rw [Bool.eq_iff_iff]; simp; omega) | (simp; omega) | (exfalso; simp_all; omega) | (simp_all; done))), rfl⟩
 have J := dT g
 refine WL.N g <| WL.O (.pkT rfl g rfl) <| WL.e <| ?_
 exact ⟨leE (lk_b rfl (by first | (rw [Bool.eq_iff_iff]; simp; omega) | (simp; omega) | (exfalso; simp_all; omega) | (simp_all; done))), rfl⟩
 have H := dT f
 refine WL.N f <| WL.O (.pkT rfl f rfl) <| WL.M rfl <| WL.N rfl <| WL.N rfl <| WL.O (.pkT rfl rfl rfl) <| WL.e <| ?_
 exact ⟨leE (lk_b rfl (by first | (rw [Bool.eq_iff_iff]; simp; omega) | (simp; omega) | (exfalso; simp_all; omega) | (simp_all; done))), rfl⟩
 have G := dT d
 refine WL.N d <| WL.O (.pkT rfl d rfl) <| WL.M rfl <| WL.N rfl <| WL.N rfl <| WL.O (.pkT rfl rfl rfl) <| WL.M rfl <| WL.N rfl <| WL.N rfl <| WL.O (.pkT rfl rfl rfl) <| WL.e <| ?_
 exact ⟨leE (lk_b rfl (by first | (rw [Bool.eq_iff_iff]; simp; omega) | (simp; omega) | (exfalso; simp_all; omega) | (simp_all; done))), rfl⟩
 refine W.cond rfl (fun x => ?_) (fun x => ?_)
 have K := dT x
 have l := dT (show decide (i < 0 ∨ 14 ≤ i ∨ c.toNat < 32 ∨ 126 < c.toNat) = true by assumption)
 refine W.sr <| WL.Z rfl <| W.ret (W.r1 rfl rfl ?_)
 exact ⟨fx_val (congrArg _ (if_pos l).symm), a⟩
 have K := dF x
 have l := dF (show decide (i < 0 ∨ 14 ≤ i ∨ c.toNat < 32 ∨ 126 < c.toNat) = false by assumption)
 have hD : widthF i c = if tblF i = [] then (if i = 13 then 788 else 600) else digF 0 (((tblF i).drop (4 * (c.toNat - 32))).take 4) := if_neg l
 refine W.k <| W.sr <| WL.M rfl <| WL.c1 hB_ rfl rfl ((font_table i _)) (fun w5 P => ?_)
 obtain rfl := P
 refine WL.Z rfl <| W.seq <| W.sr <| WL.M rfl <| WL.O (.bis (decide (tblF i = [])) (.eqs rfl rfl) (by rfl)) <| WL.e <| W.cond rfl (fun y => ?_) (fun y => ?_)
 have Q := dT y
 rw [if_pos (dT aS)] at hD
 refine W.seq <| W.sr <| WL.M rfl <| WL.O (.eql rfl rfl) <| WL.e <| W.cond rfl (fun A => ?_) (fun A => ?_)
 have T := dT A
 rw [if_pos aS] at hD
 refine W.sr <| WL.Z rfl <| W.ret (W.r1 rfl rfl ?_)
 exact ⟨fx_val (by rw [hD]), a⟩
 have T := dF A
 rw [if_neg aS] at hD
 refine W.k <| W.sr <| WL.Z rfl <| W.ret (W.r1 rfl rfl ?_)
 exact ⟨fx_val (by rw [hD]), a⟩
 have Q := dF y
 rw [if_neg (dF aS)] at hD
 have a3 : (tblF i).length = 380 := (tblF_len i).resolve_right (dF aS)
 have s := all_part (4 * (c.toNat - 32)) 4 (tblF_dig i)
 obtain ⟨L, hL⟩ : ∃ L, L = ((tblF i).drop (4 * (c.toNat - 32))).take 4 := ⟨_, rfl⟩
 have a8 : L.length = 4 := by rw [hL, List.length_take, List.length_drop]; omega
 rw [← hL] at hD s
 have U : ((tblF i).drop (4 * (c.toNat - 32))).take (4 * (c.toNat - 32) + 4 - 4 * (c.toNat - 32)) = L := by rw [hL, Nat.add_sub_cancel_left]
 refine W.k <| W.sr <| WL.Z rfl <| W.sr <| WL.M rfl <| WL.O (.sub rfl rfl (u8w oO)) <| WL.O (.cvt u5_ u3_ rfl (i64w oO)) <| WL.O (.iis (((4 * (c.toNat - 32) : Nat) : Int)) (.mul rfl rfl (i64w oO)) oO) <| WL.Z rfl <| W.seq <| W.sr <| WL.M rfl <| WL.M rfl <| WL.M rfl <| WL.O (.iis (((4 * (c.toNat - 32) + 4 : Nat) : Int)) (.add rfl rfl (i64w oO)) oO) <| WL.O (.sis (L) (.slS u9_ rfl rfl rfl (4 * (c.toNat - 32)) (4 * (c.toNat - 32) + 4) (rfl) (rfl) oO oO) (by exact U)) <| WL.s2b u9_ u22_ u5_ rfl rfl (fun V a9 B v C a4 D a6 => ?_)
 have X := uB a v D
 have a5 := bge v a.size
 refine WL.O (.lenS u22_ rfl) <| WL.M rfl <| WL.e <| W.b <| W.loop (α := Nat × Int) (fun t => [(6, .int .i64 t.2), (39, .slice (some ⟨V, 0, none⟩) L.length B), (40, .int .i64 (L.length : Int)), (41, .int .i64 (t.1 : Int))]) (fun t w' => Below w.heap.size w w' ∧ BytesAt w' (some ⟨V, 0, none⟩) L ∧ t.1 ≤ 4 ∧ 0 ≤ t.2 ∧ t.2 + 1 ≤ 10 ^ t.1 ∧ digF t.2 (L.drop t.1) = digF 0 L) (fun t => L.length - t.1) ((0, 0)) ⟨rfl, rfl, rfl, rfl, tT⟩ (⟨X, C, by omega, by decide, by decide, rfl⟩) (fun t w1 hR => ?_)
 obtain ⟨⟨j, n⟩, a0⟩ : ∃ u, u = t := ⟨t, rfl⟩
 subst a0
 obtain ⟨q1, E, q3, q4, q5, q⟩ := hR
 simp only at q3 q4 q5 q
 have a7 := pow10_le q3
 refine W.sr <| WL.O (.lss rfl rfl) <| WL.e <| W.seq <| W.cond rfl (fun m => ?_) (fun m => ?_)
 have F := dT m
 have o : j < L.length := by first | omega | (simp only at *; omega)
 have a1 := List.all_eq_true.1 s L[j] (List.getElem_mem o)
 rw [Bool.and_eq_true, decide_eq_true_eq, decide_eq_true_eq] at a1
 have a2 := (digF_step o n).symm.trans q
 refine W.k <| W.seq <| W.b <| W.sr <| WL.O (.ixb u22_ s5_ rfl rfl (E.isp (by first | omega | exact nz_ _)) (j) (rfl) oO) <| WL.R (Rd.ldc (g5_ _) rfl (E.cells (j) oO)) <| WL.Z rfl <| W.reg <| WL.M rfl <| WL.O (.mul rfl rfl (i64w oO)) <| WL.M rfl <| WL.O (.sub rfl rfl (u8w oO)) <| WL.O (.cvt u5_ u3_ rfl (i64w oO)) <| WL.O (.iis (10 * n + ((L[j].toNat : Int) - 48)) (.add rfl rfl (i64w oO)) oO) <| WL.Z rfl <| W.reg <| WL.O (.iis (((j + 1 : Nat) : Int)) (.add rfl rfl (i64w (by (try simp only) <;> omega))) oM) <| WL.M rfl <| WL.e <| ?_
 exact ⟨(j + 1, 10 * n + ((L[j].toNat : Int) - 48)), ⟨rfl, rfl, rfl, rfl, tT⟩, ⟨q1, E, by ((try simp only) <;> omega), by ((try simp only) <;> omega), by show _ ≤ (10 : Int) ^ (j + 1); rw [Int.pow_succ]; ((try simp only) <;> omega), a2⟩, by ((try simp only) <;> omega)⟩
 have F := dF m
 have o : j = 4 := by first | omega | (simp only at *; omega)
 rw [List.drop_of_length_le oO] at q
 refine W.exit <| W.sr <| WL.M rfl <| WL.Z rfl <| W.ret (W.r1 rfl rfl ?_)
 exact ⟨fx_val (by rw [hD, ← q]; rfl), q1⟩
theorem font_Sum (i : Int) (p : Option Addr) (l : List UInt8) (c : Nat) (w : World) (hr : BytesAt w p l) (hl : l.length ≤ 100000000) :
  Calls Tryz.prog 102 #[.int .i64 i, .slice p l.length c] w fun e w' => e = .returned (.int .i64 (sumF i 0 l)) ∧ Below w.heap.size w w' := by
 have G := hr.lt
 refine W.e func102 rfl ntmps102 bL ?_
 have q := br_ (w.heap.size) w
 refine W.sr <| WL.Z rfl <| W.sr <| WL.Z rfl <| W.seq <| W.sr <| WL.M rfl <| WL.O (.lenS u22_ rfl) <| WL.M rfl <| WL.e <| W.b <| W.loop (α := Nat × Int) (fun t => [(0, .int .i64 i), (5, .int .i64 t.2), (8, .slice p l.length c), (9, .int .i64 (l.length : Int)), (10, .int .i64 (t.1 : Int))]) (fun t w' => Below w.heap.size w w' ∧ BytesAt w' p l ∧ t.1 ≤ l.length ∧ 0 ≤ t.2 ∧ t.2 ≤ 9999 * (t.1 : Int) ∧ sumF i t.2 (l.drop t.1) = sumF i 0 l) (fun t => l.length - t.1) ((0, 0)) ⟨rfl, rfl, rfl, rfl, rfl, tT⟩ (⟨q, hr, nl_ _, by decide, by decide, rfl⟩) (fun t H hR => ?_)
 obtain ⟨⟨j, n⟩, s⟩ : ∃ u, u = t := ⟨t, rfl⟩
 subst s
 obtain ⟨v, d, C, D, E, g⟩ := hR
 simp only at C D E g
 refine W.sr <| WL.O (.lss rfl rfl) <| WL.e <| W.seq <| W.cond rfl (fun o => ?_) (fun o => ?_)
 have x := dT o
 have a : j < l.length := by first | omega | (simp only at *; omega)
 have hw := widthF_le i l[j]
 have y := (sumF_step (f := i) a n).symm.trans g
 refine W.k <| W.seq <| W.b <| W.sr <| WL.O (.ixb u22_ s5_ rfl rfl (d.isp (by first | omega | exact nz_ _)) (j) (rfl) oO) <| WL.R (Rd.ldc (g5_ _) rfl (d.cells (j) oO)) <| WL.Z rfl <| W.reg <| WL.M rfl <| WL.M rfl <| WL.M rfl <| WL.c1 hB_ rfl rfl ((font_Width i l[j] _)) (fun J m => ?_)
 have A := bb_ d m (fun F => d.lt F)
 have B := btr v m
 refine WL.O (.add rfl rfl (i64w (by (try simp only) <;> omega))) <| WL.Z rfl <| W.reg <| WL.O (.iis (((j + 1 : Nat) : Int)) (.add rfl rfl (i64w (by (try simp only) <;> omega))) oM) <| WL.M rfl <| WL.e <| ?_
 exact ⟨(j + 1, n + widthF i l[j]), ⟨rfl, rfl, rfl, rfl, rfl, tT⟩, ⟨B, A, by ((try simp only) <;> omega), by ((try simp only) <;> omega), by ((try simp only) <;> omega), y⟩, by ((try simp only) <;> omega)⟩
 have x := dF o
 have a : j = l.length := by first | omega | (simp only at *; omega)
 rw [a, List.drop_length] at g
 refine W.exit <| W.sr <| WL.M rfl <| WL.Z rfl <| W.ret (W.r1 rfl rfl ?_)
 exact ⟨fx_val (by rw [← g]; rfl), v⟩
end
section
open Go.RowKit Go.WideShapes Go.ChangeShapes
theorem VwrN.lt {N B : Nat} {fs : Fcx} {w : World} {bv : Nat} {F : Nat → Prop} {V : Vw} {args : List PV} (h : VwrN N B fs w bv F V args) {g : Nat} (hg : F g) : B ≤ g ∧ g < w.heap.size := h.get.lt g hg
theorem VwrN.ltN {N B : Nat} {fs : Fcx} {w : World} {bv : Nat} {F : Nat → Prop} {V : Vw} {args : List PV} (h : VwrN N B fs w bv F V args) {g : Nat} (hg : F g) : g < N := by
 obtain ⟨b, rfl, a, -⟩ := h
 exact (a.lt g hg).2
theorem VwrN.excl {N B : Nat} {fs : Fcx} {w : World} {bv b : Nat} {F : Nat → Prop} {V : Vw} {args : List PV} (h : VwrN N B fs w bv F V args) (hb : N ≤ b) (hlt : b < w.heap.size) : Vwr B ⟨fs.fs, b⟩ w bv F V args := by
 obtain ⟨a, rfl, f, d⟩ := h
 obtain ⟨H, vp, its, hs, cs, e, hO, hR⟩ := f.mem
 subst e
 have hs' := StN.size (Q := fun _ => True) ⟨a, rfl, trivial, d⟩
 refine ⟨H, vp, its, hs, cs, rfl, hO.same hs' fun g hg => d g (hO.inn g hg).2, ?_⟩
 have m : Mv (Frz fs.c (VwF bv H vp) a) (Frz b (VwF bv H vp) w) a w := ⟨hs', fun g hg => ⟨d g hg.1, Nat.lt_of_lt_of_le hg.1 hs', hg.2.1, by have := hg.1; omega⟩⟩
 obtain ⟨p, c, i, j⟩ := hR.fonts
 exact ⟨hR.st.mv m, hR.sv.mv m, hR.it, fun x hx => (hR.itr x hx).mv m, hR.ar.mv m, hR.clip, hR.inText, hR.lost, hR.text, hR.line, ⟨p, c, i, j.mv m⟩, hlt⟩
theorem VwR.own {c : Nat} {fs : Fcx} {w w1 : World} {bv : Nat} {F F1 : Nat → Prop} {H : VwH} {V : Vw} {args : List PV} {its : List ItemV} {hs : List StC} {cs : List PC} (hR : VwR (Frz c F w) w H ⟨fs.fs, c⟩ V args its hs cs) (hfc : fs.c = bv) (hF : F1 bv) (hbv : bv < w1.heap.size)
  (m : Mv (Frz c F w) (Frz c F1 w1) w w1) : VwR (Frz fs.c F1 w1) w1 H fs V args its hs cs := by
 have a : Mv (Frz c F w) (Frz fs.c F1 w1) w w1 := ⟨m.1, fun g hg => ⟨(m.2 g hg).1, (m.2 g hg).2.1, (m.2 g hg).2.2.1, fun e => (m.2 g hg).2.2.1 (by rw [e, hfc]; exact hF)⟩⟩
 obtain ⟨p, c, b, d⟩ := hR.fonts
 exact ⟨hR.st.mv a, hR.sv.mv a, hR.it, fun x hx => (hR.itr x hx).mv a, hR.ar.mv a, hR.clip, hR.inText, hR.lost, hR.text, hR.line, ⟨p, c, b, d.mv a⟩, by rw [hfc]; exact hbv⟩
theorem Chg.keep {F F1 : Nat → Prop} {S : List Nat} {w wJ w2 : World} (h : Chg F F1 w wJ) (hK : KeepB wJ.heap.size S wJ w2) (hS : ∀ g ∈ S, F1 g ∨ w.heap.size ≤ g) : Chg F F1 w w2 :=
 ⟨hK.os.trans h.os, hK.tape.trans h.tape, hK.output.trans h.output, nt_ h.size hK.size, fun k hk hf => (hK.block k (Nat.lt_of_lt_of_le hk h.size) fun hm => by
  rcases hS k hm with h1 | h1
  ·
   rcases h.new k h1 with h2 | h2
   ·
    exact hf h2
   ·
    omega
  ·
   omega).trans (h.block k hk hf), h.new⟩
theorem addV_eq {v v1 : Vw} {x : ItemV} (h : addV v x = .ok v1) : v1 = { v with items := v1.items } := by
 unfold addV at h
 obtain ⟨u, -, h⟩ := bindE h
 cases h
 rfl
theorem letters_no {sum : Int → List UInt8 → Int} {V : Vw} {args : List PV} (h : ∀ a, args = [a] → (decide (pvK a = 5) && decide (V.s.font ≥ 0) && !V.lost) = true → False) : lettersV sum V args = .error 22 := by
 unfold lettersV
 split
 ·
  next a =>
  have : (decide (pvK a = 5) && decide (V.s.font ≥ 0) && !V.lost) = false := by
   cases hx : (decide (pvK a = 5) && decide (V.s.font ≥ 0) && !V.lost) with
   | false => rfl
   | true => exact (h a rfl hx).elim
  rw [this]; rfl
 ·
  rfl
theorem letters_1 {sum : Int → List UInt8 → Int} {V : Vw} {args : List PV} (h : args.length = 1) (h4 : (decide (pvK args[0] = 5) && decide (V.s.font ≥ 0) && !V.lost) = true) :
  lettersV sum V args = if pvT args[0] = [] then .ok V else showV sum V (pvT args[0]) := by
 match args, h with
 | [a], _ =>
  have h4 : (decide (pvK a = 5) && decide (V.s.font ≥ 0) && !V.lost) = true := h4
  show (wantV (decide (pvK a = 5) && decide (V.s.font ≥ 0) && !V.lost) >>= fun _ => if pvT a = [] then .ok V else showV sum V (pvT a)) = _
  rw [h4]; rfl
theorem bldI4 (co : ColorV) (f : Int) (m : M6) (p : Option Addr) (l : List UInt8) (c : Nat) : Tryz.prog.built 44 [(0, .int .i64 4), (2, .agg (colorV co).toArray), (5, .int .i64 f), (6, .agg (m6V m).toArray), (7, .slice p l.length c)] = some (itemV ⟨4, none, [], 0, co, none, [], 0, penZ, f, m.a, m.b, m.c, m.d, m.e, m.f, p, l, c⟩).toArray := by kernel_rfl
theorem WL.s2bM {P : Program} {n : Sh} {f : Fr} {ops : Array Oper} {Q : Exit → Fr → World → Prop} {w : World} {rest : List Oper} {d ty : Nat} {pos : String} {aft : Array Edge} {x : Operand} {src dst e : TypeId} {l : List UInt8} (hlm : l.length ≤ maxLen)
  (hs : P.underlying src = some .string) (hd' : P.underlying dst = some (.slice e)) (he : P.underlying e = some (.int .u8)) (hx : evo f x = some (.string (bs l))) (hd : Nat.blt d n.n = true)
  (k : ∀ b w1 c, b = w.heap.size → BytesAt w1 (some ⟨b, 0, none⟩) l → l.length ≤ c ∧ c ≤ maxLen → Upd b w w1 → w1.heap.size = b + 1 → WL P n ops Q rest ((d, .slice (some ⟨b, 0, none⟩) l.length c) :: f) w1) :
  WL P n ops Q (⟨some d, .convert src dst x, ty, pos, aft, none⟩ :: rest) f w := by
 have g := Lib.run_convert_string_bytes (P := P) w src dst e (bs l) hs hd' he
 have a : (bs l).size = l.length := by simp [bs, ByteArray.size]
 have hu : Upd w.heap.size w (Lib.bytesWorld w e (bs l)) := ⟨rfl, rfl, rfl, by rw [Lib.bytesWorld_size]; omega, fun j hj => by
  rcases Nat.lt_or_ge j w.heap.size with h | h
  ·
   exact Lib.bytesWorld_at_old w e (bs l) j h
  ·
   rw [Array.getElem?_eq_none (by rw [Lib.bytesWorld_size]; omega), Array.getElem?_eq_none h]⟩
 refine WL.run hd (w' := Lib.bytesWorld w e (bs l)) (v := .slice (some ⟨w.heap.size, 0, none⟩) l.length (grownCap w l.length 0 e)) (fun ρ hρ => ?_)
  (k _ _ _ rfl ⟨fun _ => rfl, fun j hj => ?_⟩ ⟨grownCap_ge w l.length 0 e, grownCap_le_maxLen w l.length 0 e hlm⟩ hu (Lib.bytesWorld_size w e (bs l)))
 ·
  unfold execOp; simp only [hρ _ _ hx, Sem.run_bind, g, Result.andThen_ok, Sem.run_pure, a]
 ·
  have i : (pA (some ⟨w.heap.size, 0, none⟩)).add j = ⟨w.heap.size, j, none⟩ := by
   show (⟨w.heap.size, 0, none⟩ : Addr).add j = _
   unfold Addr.add; split
   ·
    next h => rw [h]
   ·
    simp
  rw [i, Lib.bytesWorld_cell w e (bs l) j (by rw [a]; exact hj)]; simp [bs, List.getD, hj]
section
variable {B : Nat} {fs : Fcx} {w w1 : World} {bv : Nat} {F : Nat → Prop} {V : Vw} {args : List PV}
set_option maxHeartbeats 3200000 in
theorem vw_letters (h : Vwr B fs w bv F V args) (ha : args.length ≤ 32) (hb : ∀ a ∈ args, (pvT a).length ≤ 65535) (hsn : SndV V) (hfc : fs.c = bv) :
  Calls Tryz.prog 74 #[.pointer (some ⟨bv, 0, none⟩)] w (VwE B fs bv F w (lettersV (fun f b => sumF f 0 b) V args) args) := by
 obtain ⟨R, aY⟩ : ∃ R, lettersV (fun f b => sumF f 0 b) V args = R := ⟨_, rfl⟩
 rw [aY]
 obtain ⟨gG, fD⟩ := h.base
 have i := h
 have eM := h.lt
 obtain ⟨H, vp, its, hs, cs, fE, hO, aI⟩ := h.mem
 have bc := VwrN.of i
 have a4 := hO.blk
 have fF : F bv := by rw [fE]; exact .inl rfl
 have ex := aI.ar
 have aJ : H.s.font = V.s.font := aI.st.font
 have aZ : H.lost = V.lost := aI.lost
 have ey : H.s.fill = V.s.fill := aI.st.fill
 have ez : H.s.size = V.s.size := aI.st.size
 have eA : H.s.ctm = V.s.ctm := aI.st.ctm
 have eB : H.text = V.text := aI.text
 obtain ⟨p, c, e, hr, -⟩ := hO.oa.row
 have bd := ex.1
 have bO := ex.kn
 have gs := hr.lt
 have E : ∀ {F1 : Nat → Prop} {w1 : World}, Chg F F1 w w1 → Below B w w1 := fun h => h.below fD (fun g hg => (eM g hg).1)
 have a4 : Blk w bv (vwC { H with args := .slice p cs.length c }).toArray 74 := by rw [← e]; exact a4
 obtain ⟨⟨ctm, fi, sk, pe, clv, fn, sz⟩, fo, sa, pa, eC, eD, lo, te, li, ar, itv⟩ := H
 simp only at e aJ aZ ey ez eA eB a4
 subst e
 refine W.e func74 rfl ntmps74 bL ?_
 have aA := Chg.refl F w
 refine W.cut (α := Unit) (fun t => [(0, .pointer (some ⟨bv, 0, none⟩))]) (fun t w' => VwrN w.heap.size B fs w' bv F V args ∧ Chg F F w w' ∧ Blk w' bv (vwC ⟨⟨ctm, fi, sk, pe, clv, fn, sz⟩, fo, sa, pa, eC, eD, lo, te, li, .slice p cs.length c, itv⟩).toArray 74 ∧ RowM pcL w' p cs ∧ (∃ K : cs.length = 1, cs[0].kind = 5) ∧ 0 ≤ fn ∧ lo = false) ?_ (fun t w1 hR => ?_)
 refine W.reg <| WL.M rfl <| WL.O (.nck rfl) <| WL.O (.fa u74_ rfl s72_ dD rfl) <| WL.R (Rd.ld (g72_ _) rfl a4 rfl) <| WL.O (.lenS u72_ rfl) <| WL.O (.eql rfl rfl) <| WL.M rfl <| WL.gd rfl rfl rfl (fun Q => ?_) (fun Q => ?_)
 have fG := dT Q
 refine WL.M rfl <| WL.Y Q <| WL.O (.nck rfl) <| WL.Y Q <| WL.O (.fa u74_ rfl s72_ dD rfl) <| WL.Y Q <| WL.R (Rd.ld (g72_ _) rfl a4 rfl) <| WL.Y Q <| WL.O (.ixm u72_ s99_ rfl rfl (hr.isp (by first | omega | (simp only [List.length_cons, List.length_nil]; omega))) 0 rfl oO) <| WL.Y Q <| WL.O (.fa u99_ rfl s3_ dD rfl) <| WL.Y Q <| WL.R (Rd.ldc (g3_ _) rfl ((hr.field (0) (by first | omega | (simp only [List.length_cons, List.length_nil]; omega)) 0 dD).trans rfl)) <| WL.Y Q <| WL.O (.eql rfl rfl) <| WL.O (.pkT rfl Q rfl) <| WL.M rfl <| WL.gd rfl rfl rfl (fun g2 => ?_) (fun g2 => ?_)
 have fH := dT g2
 refine WL.M rfl <| WL.Y g2 <| WL.O (.nck rfl) <| WL.Y g2 <| WL.O (.fa u74_ rfl s68_ dD rfl) <| WL.Y g2 <| WL.O (.fa u68_ rfl s3_ dD rfl) <| WL.Y g2 <| WL.R (Rd.ld (g3_ _) rfl a4 rfl) <| WL.Y g2 <| WL.O (.geq rfl rfl) <| WL.O (.pkT rfl g2 rfl) <| WL.M rfl <| WL.gd rfl rfl rfl (fun g3 => ?_) (fun g3 => ?_)
 have fI := dT g3
 refine WL.M rfl <| WL.Y g3 <| WL.O (.nck rfl) <| WL.Y g3 <| WL.O (.fa u74_ rfl s4_ dD rfl) <| WL.Y g3 <| WL.R (Rd.ld (isAgg4 _) rfl a4 rfl) <| WL.Y g3 <| WL.O (.not rfl) <| WL.O (.pkT rfl g3 rfl) <| WL.ce hB_ rfl rfl ((vw_want _ _)) (fun k6 w4 bU a' => ?_) (fun a5 w4 bU a' => ?_)
 have dy := Chg.low aA a'
 obtain ⟨a6, rfl⟩ := want_err bU
 exact pn_is (ee_ 22 (aY ▸ letters_no fun a ho hc => by
  subst ho; have K : cs.length = 1 := bd; obtain ⟨q1, q2, -⟩ := bO 0 oO (by simp); simp only [List.getElem_cons_zero] at q1 q2; simp only [Bool.and_eq_true, decide_eq_true_eq, Bool.not_eq_true'] at hc
  first
   | omega
   | (have := hc.1.2; rw [← aJ] at this; exact ab_ this aS)
   | (simp [aZ, hc.2] at a6; done)
   | exact ab_ a6 dD) (E dy))
 have fJ := vs_ (w1 := w4) bc (fun k hk hl => a'.block k hl)
 have fK := a4.bl a'
 have fL := rb_ hr a' (fun i => hr.lt i)
 have eN := Chg.low aA a'
 have l := want_ok bU
 have K : cs.length = 1 := by first | exact ab_ l dD | omega
 have G : cs[0].kind = 5 := by first | exact ab_ l dD | omega
 have ad : 0 ≤ fn := by first | exact ab_ l dD | omega
 have ae : lo = false := by first | exact ab_ l dD | simpa using l
 refine WL.e <| ?_
 exact ⟨(), ⟨rfl, tT⟩, fJ, eN, fK, fL, ⟨K, G⟩, ad, ae⟩
 have fI := dF g3
 refine WL.N g3 <| WL.N g3 <| WL.N g3 <| WL.N g3 <| WL.O (.pkF rfl g3 rfl) <| WL.ce hB_ rfl rfl ((vw_want _ _)) (fun gH eF be ap => ?_) (fun gI eF be ap => ?_)
 have cP := Chg.low aA ap
 obtain ⟨a6, rfl⟩ := want_err be
 exact pn_is (ee_ 22 (aY ▸ letters_no fun a ho hc => by
  subst ho; have K : cs.length = 1 := bd; obtain ⟨q1, q2, -⟩ := bO 0 oO (by simp); simp only [List.getElem_cons_zero] at q1 q2; simp only [Bool.and_eq_true, decide_eq_true_eq, Bool.not_eq_true'] at hc
  first
   | omega
   | (have := hc.1.2; rw [← aJ] at this; exact ab_ this aS)
   | (simp [aZ, hc.2] at a6; done)
   | exact ab_ a6 dD) (E cP))
 have eO := vs_ (w1 := eF) bc (fun k hk hl => ap.block k hl)
 have eP := a4.bl ap
 have eQ := rb_ hr ap (fun i => hr.lt i)
 have eR := Chg.low aA ap
 have l := want_ok be
 have K : cs.length = 1 := by first | exact ab_ l dD | omega
 have G : cs[0].kind = 5 := by first | exact ab_ l dD | omega
 have ad : 0 ≤ fn := by first | exact ab_ l dD | omega
 have ae : lo = false := by first | exact ab_ l dD | simpa using l
 refine WL.e <| ?_
 exact ⟨(), ⟨rfl, tT⟩, eO, eR, eP, eQ, ⟨K, G⟩, ad, ae⟩
 have fH := dF g2
 refine WL.N g2 <| WL.N g2 <| WL.N g2 <| WL.N g2 <| WL.N g2 <| WL.O (.pkF rfl g2 rfl) <| WL.M rfl <| WL.N rfl <| WL.N rfl <| WL.N rfl <| WL.N rfl <| WL.N rfl <| WL.O (.pkF rfl rfl rfl) <| WL.ce hB_ rfl rfl ((vw_want _ _)) (fun gJ eG bf aq => ?_) (fun gK eG bf aq => ?_)
 have cQ := Chg.low aA aq
 obtain ⟨a6, rfl⟩ := want_err bf
 exact pn_is (ee_ 22 (aY ▸ letters_no fun a ho hc => by
  subst ho; have K : cs.length = 1 := bd; obtain ⟨q1, q2, -⟩ := bO 0 oO (by simp); simp only [List.getElem_cons_zero] at q1 q2; simp only [Bool.and_eq_true, decide_eq_true_eq, Bool.not_eq_true'] at hc
  first
   | omega
   | (have := hc.1.2; rw [← aJ] at this; exact ab_ this aS)
   | (simp [aZ, hc.2] at a6; done)
   | exact ab_ a6 dD) (E cQ))
 have eS := vs_ (w1 := eG) bc (fun k hk hl => aq.block k hl)
 have eT := a4.bl aq
 have eU := rb_ hr aq (fun i => hr.lt i)
 have eV := Chg.low aA aq
 have l := want_ok bf
 have K : cs.length = 1 := by first | exact ab_ l dD | omega
 have G : cs[0].kind = 5 := by first | exact ab_ l dD | omega
 have ad : 0 ≤ fn := by first | exact ab_ l dD | omega
 have ae : lo = false := by first | exact ab_ l dD | simpa using l
 refine WL.e <| ?_
 exact ⟨(), ⟨rfl, tT⟩, eS, eV, eT, eU, ⟨K, G⟩, ad, ae⟩
 have fG := dF Q
 refine WL.N Q <| WL.N Q <| WL.N Q <| WL.N Q <| WL.N Q <| WL.N Q <| WL.N Q <| WL.O (.pkF rfl Q rfl) <| WL.M rfl <| WL.N rfl <| WL.N rfl <| WL.N rfl <| WL.N rfl <| WL.N rfl <| WL.N rfl <| WL.O (.pkF rfl rfl rfl) <| WL.M rfl <| WL.N rfl <| WL.N rfl <| WL.N rfl <| WL.N rfl <| WL.N rfl <| WL.O (.pkF rfl rfl rfl) <| WL.ce hB_ rfl rfl ((vw_want _ _)) (fun gL eH bg au => ?_) (fun gM eH bg au => ?_)
 have cR := Chg.low aA au
 obtain ⟨a6, rfl⟩ := want_err bg
 exact pn_is (ee_ 22 (aY ▸ letters_no fun a ho hc => by
  subst ho; have K : cs.length = 1 := bd; obtain ⟨q1, q2, -⟩ := bO 0 oO (by simp); simp only [List.getElem_cons_zero] at q1 q2; simp only [Bool.and_eq_true, decide_eq_true_eq, Bool.not_eq_true'] at hc
  first
   | omega
   | (have := hc.1.2; rw [← aJ] at this; exact ab_ this aS)
   | (simp [aZ, hc.2] at a6; done)
   | exact ab_ a6 dD) (E cR))
 have eW := vs_ (w1 := eH) bc (fun k hk hl => au.block k hl)
 have eX := a4.bl au
 have eY := rb_ hr au (fun i => hr.lt i)
 have eZ := Chg.low aA au
 have l := want_ok bg
 have K : cs.length = 1 := by first | exact ab_ l dD | omega
 have G : cs[0].kind = 5 := by first | exact ab_ l dD | omega
 have ad : 0 ≤ fn := by first | exact ab_ l dD | omega
 have ae : lo = false := by first | exact ab_ l dD | simpa using l
 refine WL.e <| ?_
 exact ⟨(), ⟨rfl, tT⟩, eW, eZ, eX, eY, ⟨K, G⟩, ad, ae⟩
 obtain ⟨j1, j2, j3, j4, ⟨K, G⟩, ad, ae⟩ := hR
 have fM : args.length = 1 := by omega
 obtain ⟨qk, qn, qt⟩ := bO 0 oO oO
 have hD := aY.symm.trans <| letters_1 (sum := fun f b => sumF f 0 b) (V := V) fM (by rw [qk, G, ← aJ, ← aZ, ae, decide_eq_true (show fn ≥ 0 from ad)]; rfl)
 have fN := hb _ (List.getElem_mem (by omega : 0 < args.length))
 rw [qt] at hD fN
 refine W.sr <| WL.M rfl <| WL.O (.nck rfl) <| WL.O (.fa u74_ rfl s72_ dD rfl) <| WL.R (Rd.ld (g72_ _) rfl j3 rfl) <| WL.O (.ixm u72_ s99_ rfl rfl (j4.isp (by first | omega | (simp only [List.length_cons, List.length_nil]; omega))) (0) (rfl) oO) <| WL.O (.fa u99_ rfl s9_ dD rfl) <| WL.R (Rd.ldc (g9_ _) rfl ((j4.field (0) (by first | omega | (simp only [List.length_cons, List.length_nil]; omega)) 2 dD).trans rfl)) <| WL.s2bM (by unfold maxLen; omega) u9_ u22_ u5_ rfl rfl (fun C cS a9 cT e' aB bh gl => ?_)
 have cU := vs_ (w1 := cS) j1 (fun k hk hl => bh.other k oO)
 have f0 := bgl cT j3.lt
 have j := j3.un bh f0
 have cV := bge cT j2.size
 have cW := Chg.upd j2 bh cV
 have dz : ¬ F C := fun hq => by have G := (j1).lt hq; omega
 have a8 : 0 < cs[0].text.length → ¬ F (pA (some ⟨C, 0, none⟩)).block := fun _ => dz
 refine WL.Z rfl <| W.seq <| W.sr <| WL.M rfl <| WL.O (.lenS u22_ rfl) <| WL.O (.eql rfl rfl) <| WL.e <| W.cond rfl (fun cX => ?_) (fun cX => ?_)
 have f1 := dT cX
 have aK : cs[0].text = [] := List.eq_nil_of_length_eq_zero oO
 rw [if_pos aK] at hD
 refine W.ret (W.ret0 rfl  ?_)
 rw [hD]; exact eo_ _ _ rfl rfl ⟨rfl, F, (cU).get, cW⟩
 have f1 := dF cX
 have aK : cs[0].text ≠ [] := fun e => ab_ (congrArg List.length e) (by simp only [List.length_nil]; omega)
 have bi : 0 < cs[0].text.length := by omega
 rw [if_neg aK] at hD
 have hD : R = (catV (m6S sz sz) te >>= fun m1 => catV m1 ctm >>= fun m => addV V (itemT fi V.s.clips fn m cs[0].text) >>= fun v1 => .ok { v1 with lost := (lostV (fun f b => sumF f 0 b) V cs[0].text).2, text := (lostV (fun f b => sumF f 0 b) V cs[0].text).1 }) := by
  rw [ez, eB, eA, ey, aJ]; exact hD
 refine W.k <| W.cut (α := Nat × M6) (fun t => [(0, .pointer (some ⟨bv, 0, none⟩)), (2, .slice (some ⟨C, 0, none⟩) cs[0].text.length a9), (3, .pointer (some ⟨t.1, 0, none⟩))]) (fun t w' => VwrN w.heap.size B fs w' bv F V args ∧ Chg F F w w' ∧ Blk w' bv (vwC ⟨⟨ctm, fi, sk, pe, clv, fn, sz⟩, fo, sa, pa, eC, eD, lo, te, li, .slice p cs.length c, itv⟩).toArray 74 ∧ BytesAt w' (some ⟨C, 0, none⟩) cs[0].text ∧ Blk w' t.1 (m6V t.2).toArray 42 ∧ w.heap.size ≤ t.1 ∧ C < t.1 ∧ R = (addV V (itemT fi V.s.clips fn t.2 cs[0].text) >>= fun v1 => .ok { v1 with lost := (lostV (fun f b => sumF f 0 b) V cs[0].text).2, text := (lostV (fun f b => sumF f 0 b) V cs[0].text).1 })) ?_ (fun t w1 hR => ?_)
 refine W.regH 24 rfl mixed (fun w' => w'.heap[bv]? = cS.heap[bv]? ∧ True) (fun fO bj => ?_)
 have bV := vs_ (w1 := fO) cU (fun k hk hl => (by obtain ⟨m, rfl⟩ := bj; rfl))
 have bk := j.drew bj
 have bm := e'.drew bj
 have bW := Chg.drew cW bj
 have n := And.intro (bk.trans j.symm) True.intro
 refine WH.tp 0 rfl (.mv rfl) n rfl ?_
 refine WH.tp 1 rfl (.nck rfl) n rfl ?_
 refine WH.tp 2 rfl (.fa u74_ rfl s68_ dD rfl) n rfl ?_
 refine WH.tp 3 rfl (.fa u68_ rfl s3_ dD rfl) n rfl ?_
 refine WH.tk 4 rfl (fun w' hw' => Rd.ld (g3_ _) rfl ((hw'.1).trans j) rfl) n rfl ?_
 refine WH.tp 5 rfl (.mv rfl) n rfl ?_
 refine WH.tp 6 rfl (.nck rfl) n rfl ?_
 refine WH.tp 7 rfl (.fa u74_ rfl s68_ dD rfl) n rfl ?_
 refine WH.tp 8 rfl (.fa u68_ rfl s3_ dD rfl) n rfl ?_
 refine WH.tk 9 rfl (fun w' hw' => Rd.ld (g3_ _) rfl ((hw'.1).trans j) rfl) n rfl ?_
 refine WH.tp 11 rfl (.mv rfl) n rfl ?_
 refine WH.tp 12 rfl (.nck rfl) n rfl ?_
 refine WH.tp 13 rfl (.fa u74_ rfl s42_ dD rfl) n rfl ?_
 refine WH.tk 14 rfl (fun w' hw' => Rd.ldF (L := m6Y) u42_ rfl isz42 ((hw'.1).trans j) (te) (rfl) rfl) n rfl ?_
 refine WH.tp 16 rfl (.mv rfl) n rfl ?_
 refine WH.tp 17 rfl (.nck rfl) n rfl ?_
 refine WH.tp 18 rfl (.fa u74_ rfl s68_ dD rfl) n rfl ?_
 refine WH.tp 19 rfl (.fa u68_ rfl s42_ dD rfl) n rfl ?_
 refine WH.tk 20 rfl (fun w' hw' => Rd.ldF (L := m6Y) u42_ rfl isz42 ((hw'.1).trans j) (ctm) (rfl) rfl) n rfl ?_
 refine WH.br2 10 rfl 22 rfl ?_ ?_
 refine WL.c1 hB_ rfl rfl ((mat_Stretch sz sz _)) (fun fP bn => ?_)
 have bX := vs_ (w1 := fP) bV (fun k hk hl => bn.block k hl)
 have bo := bk.bl bn
 have bp := bb_ bm bn (fun i => bm.lt i)
 have bq := Chg.low bW bn
 refine WL.e <| ⟨⟨(bo).trans (j).symm, tT⟩, ?_⟩
 refine WH.br2 15 rfl 22 rfl ?_ ?_
 refine WL.ce hB_ rfl rfl ((vw_concat (m6S sz sz) te _)) (fun fQ eI bt av => ?_) (fun gN eI bt av => ?_)
 have cY := Chg.low bq av
 exact pn_is (ee_ fQ (by rw [hD]; exact bind_err bt) (E cY))
 have bY := vs_ (w1 := eI) bX (fun k hk hl => av.block k hl)
 have bu := bo.bl av
 have bw := bb_ bp av (fun i => bp.lt i)
 have bx := Chg.low bq av
 rw [bind_ok bt] at hD
 refine WL.e <| ⟨⟨(bu).trans (j).symm, tT⟩, ?_⟩
 refine WH.br2 21 rfl 22 rfl ?_ ?_
 refine WL.ce hB_ rfl rfl ((vw_concat _ ctm _)) (fun fR eJ bz aw => ?_) (fun fS eJ bz aw => ?_)
 have cZ := Chg.low bx aw
 exact pn_is (ee_ fR (by rw [hD]; exact bind_err bz) (E cZ))
 have c' := vs_ (w1 := eJ) bY (fun k hk hl => aw.block k hl)
 have bZ := bu.bl aw
 have d0 := bb_ bw aw (fun i => bw.lt i)
 have d1 := Chg.low bx aw
 rw [bind_ok bz] at hD
 obtain ⟨mm, rfl⟩ : ∃ x, x = fS := ⟨_, rfl⟩
 refine WL.e <| ⟨⟨(bZ).trans (j).symm, tT⟩, ?_⟩
 refine WH.br1 22 rfl <| WL.al z42_ rfl (fun d2 f2 b' dA aC gm => ?_)
 have f3 := vs_ (w1 := f2) c' (fun k hk hl => aC.other k oO)
 have f4 := bgl b' bZ.lt
 have d3 := bZ.un aC f4
 have c6 := fun i => b' ▸ d0.lt i
 have f5 := bup d0 aC c6
 have d4 := bge b' d1.size
 have f6 := Chg.upd d1 aC d4
 have go : ¬ F d2 := fun hq => by have G := (c').lt hq; omega
 refine WL.e <| ⟨⟨(d3).trans (j).symm, tT⟩, ?_⟩
 refine WH.br1 23 rfl <| WL.stL rfl rfl dA isz42 rfl rfl (fun fT dB aD gp => ?_)
 have f7 := vs_ (w1 := fT) f3 (fun k hk hl => aD.other k (by first | ((try simp only) <;> omega) | (have := hk.1; ((try simp only) <;> omega))))
 have d5 := d3.up aD
 have f8 := bup f5 aD c6
 have f9 := Chg.upd f6 aD oO
 refine WL.e <| ⟨⟨(d5).trans (j).symm, tT⟩, ?_⟩
 refine WH.done kR ?_
 exact ⟨(d2, mm), ⟨rfl, rfl, rfl, tT⟩, f7, f9, d5, f8, dB, by omega, (by assumption : 0 < cs[0].text.length → (pA (some ⟨C, 0, none⟩)).block < d2) bi, hD⟩
 refine WL.al z42_ rfl (fun d6 fb c0 dC aE gq => ?_)
 have fc := vs_ (w1 := fb) bY (fun k hk hl => aE.other k oO)
 have fd := bgl c0 bu.lt
 have d7 := bu.un aE fd
 have c7 := fun i => c0 ▸ bw.lt i
 have d8 := bup bw aE c7
 have d9 := bge c0 bx.size
 have da := Chg.upd bx aE d9
 have gr : ¬ F d6 := fun hq => by have G := (bY).lt hq; omega
 refine WL.e <| ⟨⟨(d7).trans (j).symm, tT⟩, ?_⟩
 refine WH.br1 21 rfl <| WL.ce hB_ rfl rfl ((vw_concat _ ctm _)) (fun fU eK bA aa => ?_) (fun fV eK bA aa => ?_)
 have db := Chg.low da aa
 exact pn_is (ee_ fU (by rw [hD]; exact bind_err bA) (E db))
 have fe := vs_ (w1 := eK) fc (fun k hk hl => aa.block k hl)
 have dc := d7.bl aa
 have dE := dC.bl aa
 have dG := bb_ d8 aa (fun i => d8.lt i)
 have dH := Chg.low da aa
 rw [bind_ok bA] at hD
 obtain ⟨mm, rfl⟩ : ∃ x, x = fV := ⟨_, rfl⟩
 refine WL.e <| ⟨⟨(dc).trans (j).symm, tT⟩, ?_⟩
 refine WH.br1 23 rfl <| WL.stL rfl rfl dE isz42 rfl rfl (fun ff dd af fW => ?_)
 have dI := vs_ (w1 := ff) fe (fun k hk hl => af.other k (by first | ((try simp only) <;> omega) | (have := hk.1; ((try simp only) <;> omega))))
 have c8 := dc.up af
 have dJ := bup dG af c7
 have dK := Chg.upd dH af oO
 refine WL.e <| ⟨⟨(c8).trans (j).symm, tT⟩, ?_⟩
 refine WH.done kR ?_
 exact ⟨(d6, mm), ⟨rfl, rfl, rfl, tT⟩, dI, dK, c8, dJ, dd, by omega, (by assumption : 0 < cs[0].text.length → (pA (some ⟨C, 0, none⟩)).block < d6) bi, hD⟩
 refine WL.al z42_ rfl (fun c2 dL bB de ag fX => ?_)
 have dM := vs_ (w1 := dL) bX (fun k hk hl => ag.other k oO)
 have dN := bgl bB bo.lt
 have c9 := bo.un ag dN
 have bP := fun i => bB ▸ bp.lt i
 have ca := bup bp ag bP
 have cJ := bge bB bq.size
 have cb := Chg.upd bq ag cJ
 have fY : ¬ F c2 := fun hq => by have G := (bX).lt hq; omega
 refine WL.e <| ⟨⟨(c9).trans (j).symm, tT⟩, ?_⟩
 refine WH.br1 15 rfl <| WL.ce hB_ rfl rfl ((vw_concat (m6S sz sz) te _)) (fun fg df aL T => ?_) (fun gt df aL T => ?_)
 have cK := Chg.low cb T
 exact pn_is (ee_ fg (by rw [hD]; exact bind_err aL) (E cK))
 have dO := vs_ (w1 := df) dM (fun k hk hl => T.block k hl)
 have cc := c9.bl T
 have dP := de.bl T
 have cd := bb_ ca T (fun i => ca.lt i)
 have cf := Chg.low cb T
 rw [bind_ok aL] at hD
 refine WL.e <| ⟨⟨(cc).trans (j).symm, tT⟩, ?_⟩
 refine WH.br1 21 rfl <| WL.ce hB_ rfl rfl ((vw_concat _ ctm _)) (fun fh dg aM U => ?_) (fun fj dg aM U => ?_)
 have cL := Chg.low cf U
 exact pn_is (ee_ fh (by rw [hD]; exact bind_err aM) (E cL))
 have dQ := vs_ (w1 := dg) dO (fun k hk hl => U.block k hl)
 have cg := cc.bl U
 have dR := dP.bl U
 have dS := bb_ cd U (fun i => cd.lt i)
 have dU := Chg.low cf U
 rw [bind_ok aM] at hD
 obtain ⟨mm, rfl⟩ : ∃ x, x = fj := ⟨_, rfl⟩
 refine WL.e <| ⟨⟨(cg).trans (j).symm, tT⟩, ?_⟩
 refine WH.br1 23 rfl <| WL.stL rfl rfl dR isz42 rfl rfl (fun fk dh ah fZ => ?_)
 have dV := vs_ (w1 := fk) dQ (fun k hk hl => ah.other k (by first | ((try simp only) <;> omega) | (have := hk.1; ((try simp only) <;> omega))))
 have ci := cg.up ah
 have dW := bup dS ah bP
 have dX := Chg.upd dU ah oO
 refine WL.e <| ⟨⟨(ci).trans (j).symm, tT⟩, ?_⟩
 refine WH.done kR ?_
 exact ⟨(c2, mm), ⟨rfl, rfl, rfl, tT⟩, dV, dX, ci, dW, dh, by omega, (by assumption : 0 < cs[0].text.length → (pA (some ⟨C, 0, none⟩)).block < c2) bi, hD⟩
 refine WL.al z42_ rfl (fun c3 dY bC di ai f' => ?_)
 have dZ := vs_ (w1 := dY) bV (fun k hk hl => ai.other k oO)
 have d' := bgl bC bk.lt
 have cj := bk.un ai d'
 have bQ := fun i => bC ▸ bm.lt i
 have ck := bup bm ai bQ
 have cM := bge bC bW.size
 have e0 := Chg.upd bW ai cM
 have g0 : ¬ F c3 := fun hq => by have G := (bV).lt hq; omega
 refine WL.e <| ⟨⟨(cj).trans (j).symm, tT⟩, ?_⟩
 refine WH.br1 10 rfl <| WL.c1 hB_ rfl rfl ((mat_Stretch sz sz _)) (fun fl aj => ?_)
 have e1 := vs_ (w1 := fl) dZ (fun k hk hl => aj.block k hl)
 have cl := cj.bl aj
 have e2 := di.bl aj
 have cm := bb_ ck aj (fun i => ck.lt i)
 have cn := Chg.low e0 aj
 refine WL.e <| ⟨⟨(cl).trans (j).symm, tT⟩, ?_⟩
 refine WH.br1 15 rfl <| WL.ce hB_ rfl rfl ((vw_concat (m6S sz sz) te _)) (fun fm dj aN X => ?_) (fun gv dj aN X => ?_)
 have cN := Chg.low cn X
 exact pn_is (ee_ fm (by rw [hD]; exact bind_err aN) (E cN))
 have e3 := vs_ (w1 := dj) e1 (fun k hk hl => X.block k hl)
 have co := cl.bl X
 have e4 := e2.bl X
 have cq := bb_ cm X (fun i => cm.lt i)
 have cr := Chg.low cn X
 rw [bind_ok aN] at hD
 refine WL.e <| ⟨⟨(co).trans (j).symm, tT⟩, ?_⟩
 refine WH.br1 21 rfl <| WL.ce hB_ rfl rfl ((vw_concat _ ctm _)) (fun fp dk aO a0 => ?_) (fun fq dk aO a0 => ?_)
 have cO := Chg.low cr a0
 exact pn_is (ee_ fp (by rw [hD]; exact bind_err aO) (E cO))
 have e5 := vs_ (w1 := dk) e3 (fun k hk hl => a0.block k hl)
 have ct := co.bl a0
 have e6 := e4.bl a0
 have e7 := bb_ cq a0 (fun i => cq.lt i)
 have e8 := Chg.low cr a0
 rw [bind_ok aO] at hD
 obtain ⟨mm, rfl⟩ : ∃ x, x = fq := ⟨_, rfl⟩
 refine WL.e <| ⟨⟨(ct).trans (j).symm, tT⟩, ?_⟩
 refine WH.br1 23 rfl <| WL.stL rfl rfl e6 isz42 rfl rfl (fun fr dl ak g4 => ?_)
 have e9 := vs_ (w1 := fr) e5 (fun k hk hl => ak.other k (by first | ((try simp only) <;> omega) | (have := hk.1; ((try simp only) <;> omega))))
 have cu := ct.up ak
 have ea := bup e7 ak bQ
 have eb := Chg.upd e8 ak oO
 refine WL.e <| ⟨⟨(cu).trans (j).symm, tT⟩, ?_⟩
 refine WH.done kR ?_
 exact ⟨(c3, mm), ⟨rfl, rfl, rfl, tT⟩, e9, eb, cu, ea, dl, by omega, (by assumption : 0 < cs[0].text.length → (pA (some ⟨C, 0, none⟩)).block < c3) bi, hD⟩
 obtain ⟨⟨D, mm⟩, dm⟩ : ∃ u, u = t := ⟨t, rfl⟩
 subst dm
 obtain ⟨i1, i2, i3, i4, i5, i6, i7, hD⟩ := hR
 simp only at i5 i6 i7 hD
 have bD : ¬ F D := fun hq => by have := i1.ltN hq; omega
 have gw : bv < D := by have := i1.ltN fF; omega
 refine W.cut (α := (Nat → Prop) × Vw) (fun t => [(0, .pointer (some ⟨bv, 0, none⟩)), (2, .slice (some ⟨C, 0, none⟩) cs[0].text.length a9), (3, .pointer (some ⟨D, 0, none⟩))]) (fun t w' => Vwr B ⟨fs.fs, D⟩ w' bv t.1 t.2 args ∧ Chg F t.1 w w' ∧ Blk w' D (m6V mm).toArray 42 ∧ BytesAt w' (some ⟨C, 0, none⟩) cs[0].text ∧ addV V (itemT fi V.s.clips fn mm cs[0].text) = .ok t.2 ∧ ¬ t.1 D) ?_ (fun t w1 hR => ?_)
 refine W.regH 15 rfl mixed (fun w' => w'.heap[D]? = w1.heap[D]? ∧ True) (fun ft am => ?_)
 have cv := vs_ (w1 := ft) i1 (fun k hk hl => (by obtain ⟨m, rfl⟩ := am; rfl))
 have aF := i3.drew am
 have a1 := i5.drew am
 have J := i4.drew am
 have aG := Chg.drew i2 am
 have q := And.intro (a1.trans i5.symm) True.intro
 refine WH.tp 0 rfl (.mv rfl) q rfl ?_
 refine WH.tp 1 rfl (.mv rfl) q rfl ?_
 refine WH.tp 2 rfl (.nck rfl) q rfl ?_
 refine WH.tp 3 rfl (.fa u74_ rfl s68_ dD rfl) q rfl ?_
 refine WH.tp 4 rfl (.fa u68_ rfl s37_ dD rfl) q rfl ?_
 refine WH.tp 6 rfl (.mv rfl) q rfl ?_
 refine WH.tp 7 rfl (.nck rfl) q rfl ?_
 refine WH.tp 8 rfl (.fa u74_ rfl s68_ dD rfl) q rfl ?_
 refine WH.tp 9 rfl (.fa u68_ rfl s3_ dD rfl) q rfl ?_
 refine WH.tk 11 rfl (fun w' hw' => Rd.ldF (L := m6Y) u42_ rfl isz42 ((hw'.1).trans i5) (mm) (rfl) rfl) q rfl ?_
 refine WH.tp 12 rfl (.mv rfl) q rfl ?_
 refine WH.br2 5 rfl 10 rfl ?_ ?_
 refine WL.R (Rd.ldF (L := colorL) u37_ rfl isz37 aF (fi) (rfl) rfl) <| WL.e <| ⟨q, ?_⟩
 refine WH.br1 10 rfl <| WL.R (Rd.ld (g3_ _) rfl aF rfl) <| WL.e <| ⟨q, ?_⟩
 refine WH.tp 13 rfl (.build rfl (bldI4 fi fn mm (some ⟨C, 0, none⟩) cs[0].text a9)) q rfl ?_
 refine WH.br1 14 rfl <| WL.cx hB_ rfl rfl ((vw_add (fs := ⟨fs.fs, D⟩) ⟨4, none, [], 0, fi, none, [], 0, penZ, fn, mm.a, mm.b, mm.c, mm.d, mm.e, mm.f, some ⟨C, 0, none⟩, cs[0].text, a9⟩ ((cv).excl oO a1.lt) hsn.s ⟨Row3.nil _ _ _, Row3.nil _ _ _, fun y hy => (by cases hy), Row3.nil _ _ _, ⟨J, ⟨aB.1, aB.2, fun h => ab_ h aK, fun h => nomatch h⟩, fun i => ⟨(J).lt i, a8 i, nn_ i7⟩⟩⟩ ⟨rfl, rfl, rfl⟩)) (fun dn fu aP bE => ?_) (fun fv gx fu aP bE => ?_)
 have ab : addV V (itemT fi V.s.clips fn mm cs[0].text) = .error dn := aP
 exact pn_is (ee_ dn (by rw [hD]; exact bind_err ab) (bt_ (E aG) bE))
 obtain ⟨rfl, F1, aQ, a7⟩ := bE
 have ec := VwrN.of aQ
 have ab : addV V (itemT fi V.s.clips fn mm cs[0].text) = .ok fv := aP
 have dp := Chg.nf a7 bD a1.lt
 have cw := Blk.chg a1 a7 bD
 have g5 := fun i => Chg.nf a7 (a8 i) (J.lt i)
 have ed := BytesAt.chg J a7 a8
 have ee := ct_ aG a7
 refine WL.e <| ⟨⟨(cw).trans (i5).symm, tT⟩, ?_⟩
 refine WH.done kR ?_
 exact ⟨(F1, _), ⟨rfl, rfl, rfl, tT⟩, aQ, ee, cw, ed, ab, dp⟩
 refine WL.R (Rd.ld (g3_ _) rfl aF rfl) <| WL.e <| ⟨q, ?_⟩
 refine WH.br1 5 rfl <| WL.R (Rd.ldF (L := colorL) u37_ rfl isz37 aF (fi) (rfl) rfl) <| WL.e <| ⟨q, ?_⟩
 refine WH.tp 13 rfl (.build rfl (bldI4 fi fn mm (some ⟨C, 0, none⟩) cs[0].text a9)) q rfl ?_
 refine WH.br1 14 rfl <| WL.cx hB_ rfl rfl ((vw_add (fs := ⟨fs.fs, D⟩) ⟨4, none, [], 0, fi, none, [], 0, penZ, fn, mm.a, mm.b, mm.c, mm.d, mm.e, mm.f, some ⟨C, 0, none⟩, cs[0].text, a9⟩ ((cv).excl oO a1.lt) hsn.s ⟨Row3.nil _ _ _, Row3.nil _ _ _, fun y hy => (by cases hy), Row3.nil _ _ _, ⟨J, ⟨aB.1, aB.2, fun h => ab_ h aK, fun h => nomatch h⟩, fun i => ⟨(J).lt i, a8 i, nn_ i7⟩⟩⟩ ⟨rfl, rfl, rfl⟩)) (fun dq fw aR bG => ?_) (fun fx gz fw aR bG => ?_)
 have ab : addV V (itemT fi V.s.clips fn mm cs[0].text) = .error dq := aR
 exact pn_is (ee_ dq (by rw [hD]; exact bind_err ab) (bt_ (E aG) bG))
 obtain ⟨rfl, F1, aQ, a7⟩ := bG
 have ec := VwrN.of aQ
 have ab : addV V (itemT fi V.s.clips fn mm cs[0].text) = .ok fx := aR
 have dr := Chg.nf a7 bD a1.lt
 have cy := Blk.chg a1 a7 bD
 have g6 := fun i => Chg.nf a7 (a8 i) (J.lt i)
 have ef := BytesAt.chg J a7 a8
 have eg := ct_ aG a7
 refine WL.e <| ⟨⟨(cy).trans (i5).symm, tT⟩, ?_⟩
 refine WH.done kR ?_
 exact ⟨(F1, _), ⟨rfl, rfl, rfl, tT⟩, aQ, eg, cy, ef, ab, dr⟩
 obtain ⟨⟨F1, V1⟩, dm⟩ : ∃ u, u = t := ⟨t, rfl⟩
 subst dm
 obtain ⟨k1, k2, k3, k4, k5, k6⟩ := hR
 obtain ⟨wJ, g7⟩ : ∃ u, u = w1 := ⟨_, rfl⟩
 subst g7
 simp only at k1 k2 k3 k4 k5 k6
 rw [bind_ok k5] at hD
 have ds := addV_eq k5
 have gA := k1.lt
 obtain ⟨H2, g8, fy, g9, ga, dt, cz, bH⟩ := k1.mem
 have aT := cz.blk
 have du : H2.s.font = V.s.font := bH.st.font.trans (by rw [ds])
 have dv : H2.s.size = V.s.size := bH.st.size.trans (by rw [ds])
 have dw : H2.text = V.text := bH.text.trans (by rw [ds])
 obtain ⟨⟨ax, b0, b1, b2, ay, a3, v⟩, b4, b5, b6, b7, b8, gb, P, b9, ba, az⟩ := H2
 simp only at du dv dw aT
 have gc : ∀ g ∈ [bv, D], ∃ t' ∈ [74, 42], tyAt wJ g t' := fun g hg => by
  rcases List.mem_cons.1 hg with rfl | hg; exact ⟨_, by simp, aT.ty⟩; rw [List.mem_singleton.1 hg]; exact ⟨_, by simp, k3.ty⟩
 have cA : F1 bv := by rw [dt]; exact .inl rfl
 have eL : ∀ g ∈ [bv, D], F1 g ∨ w.heap.size ≤ g := fun g hg => by
  rcases List.mem_cons.1 hg with rfl | hg; exact .inl cA; rw [List.mem_singleton.1 hg]; exact .inr oO
 have gO : ∀ {w2 : World}, KeepB wJ.heap.size [bv, D] wJ w2 → Below B w w2 := fun hK => E (k2.keep hK eL)
 have gP : bv ≠ D := fun e => k6 (e ▸ cA)
 have eh : bv < wJ.heap.size := aT.lt
 have hb3l2 : D < wJ.heap.size := k3.lt
 have ge := KeepB.refl wJ.heap.size [bv, D] wJ
 have gQ := (sumF_le' a3 cs[0].text 0 dD).1
 have gR := (sumF_le' a3 cs[0].text 0 dD).2
 refine W.sr <| WL.M rfl <| WL.O (.nck rfl) <| WL.O (.fa u74_ rfl s68_ dD rfl) <| WL.O (.fa u68_ rfl s3_ dD rfl) <| WL.R (Rd.ld (g3_ _) rfl aT rfl) <| WL.M rfl <| WL.c1 hB_ rfl rfl ((font_Sum a3 (some ⟨C, 0, none⟩) cs[0].text a9 _ k4 oO)) (fun gB bI => ?_)
 have cB := aT.bl bI
 have cC := k3.bl bI
 have cD := kB ge bI
 refine WL.O (.mul rfl rfl (i64w oO)) <| WL.Z rfl <| W.sr <| WL.M rfl <| WL.O (.quo rfl rfl oO (i64q oO oO oO)) <| WL.Z rfl <| W.cut (α := Int) (fun t => [(0, .pointer (some ⟨bv, 0, none⟩)), (3, .pointer (some ⟨D, 0, none⟩)), (5, .int .i64 t)]) (fun t w' => KeepB wJ.heap.size [bv, D] wJ w' ∧ Blk w' bv (vwC ⟨⟨ax, b0, b1, b2, ay, a3, v⟩, b4, b5, b6, b7, b8, gb, P, b9, ba, az⟩).toArray 74 ∧ Blk w' D (m6V mm).toArray 42 ∧ t = (if 2 * ((sumF a3 0 cs[0].text * 65536) % 1000) ≥ 1000 then (sumF a3 0 cs[0].text * 65536) / 1000 + 1 else (sumF a3 0 cs[0].text * 65536) / 1000)) ?_ (fun t w1 hR => ?_)
 refine W.sr <| WL.M rfl <| WL.O (.rem rfl rfl oO (Int.tmod_eq_emod_of_nonneg oO)) <| WL.O (.mul rfl rfl (i64w oO)) <| WL.O (.geq rfl rfl) <| WL.e <| W.cond rfl (fun c4 => ?_) (fun c4 => ?_)
 have ei := dT c4
 refine W.reg <| WL.M rfl <| WL.O (.add rfl rfl (i64w oO)) <| WL.Z rfl ?_
 exact ⟨_, ⟨rfl, rfl, rfl, tT⟩, cD, cB, cC, (if_pos oO).symm⟩
 have ei := dF c4
 refine W.k ?_
 exact ⟨_, ⟨rfl, rfl, rfl, tT⟩, cD, cB, cC, (if_neg oO).symm⟩
 obtain ⟨q1, q2, q3, q4⟩ := hR
 obtain ⟨wd, gf⟩ : ∃ u, u = t := ⟨t, rfl⟩
 subst gf
 refine W.sr <| WL.M rfl <| WL.M rfl <| WL.O (.nck rfl) <| WL.O (.fa u74_ rfl s68_ dD rfl) <| WL.O (.fa u68_ rfl s3_ dD rfl) <| WL.R (Rd.ld (g3_ _) rfl q2 rfl) <| WL.c1 hB_ rfl rfl ((fix_Mul wd v _)) (fun fz bJ => ?_)
 have a2 := q2.bl bJ
 have ej := q3.bl bJ
 have ek := kB q1 bJ
 simp only [pairI]
 refine WL.M rfl <| WL.O (.ext rfl rfl) <| WL.O (.ext rfl rfl) <| WL.A rfl <| WL.Z rfl <| W.seq <| W.regH 12 rfl mixed (fun w' => w'.heap[bv]? = fz.heap[bv]? ∧ True) (fun gC bK => ?_)
 have cE := a2.drew bK
 have el := ej.drew bK
 have em := kt_ ek (kd_ bK)
 have bR := And.intro (cE.trans a2.symm) True.intro
 refine WH.tp 0 rfl (.mv rfl) bR rfl ?_
 refine WH.tp 2 rfl (.mv rfl) bR rfl ?_
 refine WH.tp 3 rfl (.nck rfl) bR rfl ?_
 refine WH.tp 4 rfl (.fa u74_ rfl s42_ dD rfl) bR rfl ?_
 refine WH.tk 5 rfl (fun w' hw' => Rd.ldF (L := m6Y) u42_ rfl isz42 ((hw'.1).trans a2) (P) (rfl) rfl) bR rfl ?_
 refine WH.br1 1 rfl <| WL.c1 hB_ rfl rfl ((mat_Translate _ _ _)) (fun gD bM => ?_)
 have cF := cE.bl bM
 have en := el.bl bM
 have eo := kB em bM
 refine WL.e <| ⟨⟨(cF).trans (a2).symm, tT⟩, ?_⟩
 refine WH.br1 6 rfl <| WL.c1 hB_ rfl rfl ((mat_Concat _ P _)) (fun gE bN => ?_)
 have cG := cF.bl bN
 have ep := en.bl bN
 have eq := kB eo bN
 simp only [m6R]
 refine WL.e <| ?_
 have cH := And.intro (cG.trans a2.symm) True.intro
 refine ⟨cH, ?_⟩
 refine WH.tp 7 rfl (.mv rfl) cH rfl ?_
 refine WH.tp 8 rfl (.ext rfl rfl) cH rfl ?_
 refine WH.tp 9 rfl (.ext rfl rfl) cH rfl ?_
 refine WH.br1 10 rfl <| WL.stL rfl rfl ep isz42 rfl rfl (fun gF bS bT gg => ?_)
 have aH := cG.up bT
 have cI := kU eq bT
 refine WL.e <| ⟨⟨(aH).trans (a2).symm, tT⟩, ?_⟩
 refine WH.tp 11 rfl (.as rfl) ⟨(aH).trans (a2).symm, tT⟩ rfl ?_
 refine WH.done kR <| W.cut (α := Bool) (fun t => [(0, .pointer (some ⟨bv, 0, none⟩)), (3, .pointer (some ⟨D, 0, none⟩))]) (fun t w' => KeepB wJ.heap.size [bv, D] wJ w' ∧ Blk w' bv (vwC ⟨⟨ax, b0, b1, b2, ay, a3, v⟩, b4, b5, b6, b7, b8, t, P, b9, ba, az⟩).toArray 74 ∧ Blk w' D (m6V (concatR (m6T (mulR wd v).1 0) P).1).toArray 42 ∧ t = !(decide ((mulR wd v).2 = 0) && decide ((concatR (m6T (mulR wd v).1 0) P).2 = 0))) ?_ (fun t w1 hR => ?_)
 refine W.reg <| WL.M rfl <| WL.M rfl <| WL.O (.neq rfl rfl) <| WL.M rfl <| WL.gd rfl rfl rfl (fun ac => ?_) (fun ac => ?_)
 have er := ndF ac
 refine WL.M rfl <| WL.Y ac <| WL.O (.neq rfl rfl) <| WL.O (.pkF rfl ac rfl) <| WL.O (.nck rfl) <| WL.O (.fa u74_ rfl s4_ dD rfl) <| WL.stC (o := 30) ((vwC ⟨⟨ax, b0, b1, b2, ay, a3, v⟩, b4, b5, b6, b7, b8, (!decide ((concatR (m6T (mulR wd v).1 0) P).2 = 0)), P, b9, ba, az⟩).toArray) s4_ rfl (rfl) rfl (rfl) aH bL (rfl) (fun fA aU an gh => ?_)
 have aU : Blk fA bv _ _ := aU
 have an : Upd bv _ _ := an
 have es := bS.up an
 have et := kU cI an
 refine WL.e <| ?_
 have hz : (mulR wd v).2 = 0 := by assumption
 exact ⟨_, ⟨rfl, rfl, tT⟩, et, aU, es, by rw [decide_eq_true hz, Bool.true_and]⟩
 have er := ndT ac
 refine WL.N ac <| WL.O (.pkT rfl ac rfl) <| WL.O (.nck rfl) <| WL.O (.fa u74_ rfl s4_ dD rfl) <| WL.stC (o := 30) ((vwC ⟨⟨ax, b0, b1, b2, ay, a3, v⟩, b4, b5, b6, b7, b8, true, P, b9, ba, az⟩).toArray) s4_ rfl (rfl) rfl (rfl) aH bL (rfl) (fun fB aV ao gi => ?_)
 have aV : Blk fB bv _ _ := aV
 have ao : Upd bv _ _ := ao
 have eu := bS.up ao
 have ev := kU cI ao
 refine WL.e <| ?_
 have hz : ¬ (mulR wd v).2 = 0 := by assumption
 exact ⟨_, ⟨rfl, rfl, tT⟩, ev, aV, eu, by rw [decide_eq_false hz]; rfl⟩
 obtain ⟨u1, u2, u3, u4⟩ := hR
 obtain ⟨dx, fC⟩ : ∃ u, u = t := ⟨t, rfl⟩
 subst fC
 refine W.reg <| WL.M rfl <| WL.R (Rd.ldF (L := m6Y) u42_ rfl isz42 u3 ((concatR (m6T (mulR wd v).1 0) P).1) (rfl) rfl) <| WL.O (.nck rfl) <| WL.O (.fa u74_ rfl s42_ dD rfl) <| WL.stB (o := 31) ((vwC ⟨⟨ax, b0, b1, b2, ay, a3, v⟩, b4, b5, b6, b7, b8, dx, (concatR (m6T (mulR wd v).1 0) P).1, b9, ba, az⟩).toArray) rfl (rfl) rfl u2 isz42 rfl bL (rfl) (fun c5 aW aX gj => ?_)
 have aW : Blk c5 bv _ _ := aW
 have aX : Upd bv _ _ := aX
 have ew := kU u1 aX
 refine WL.e <| W.norm (W.ret0 rfl ?_)
 have bb := ew
 obtain ⟨-, r2, r3, r4, r5⟩ := cz.rest bb _ gc
 have hM : Mv (Frz D F1 wJ) (Frz D F1 c5) wJ c5 := ⟨bb.size, fun g hg => ⟨bb.block g hg.1 (fun hm => by
  rcases List.mem_cons.1 hm with rfl | hm; exact hg.2.1 cA; exact hg.2.2 (List.mem_singleton.1 hm)), Nat.lt_of_lt_of_le hg.1 bb.size, hg.2.1, hg.2.2⟩⟩
 have hq := VwR.own bH hfc cA (Nat.lt_of_lt_of_le eh bb.size) hM
 have gk : lostV (fun f b => sumF f 0 b) V cs[0].text = ((concatR (m6T (mulR wd v).1 0) P).1, dx) := by
  rw [u4, q4, du, dv, dw]
  rfl
 rw [gk] at hD
 refine eo_ _ _ hD rfl ⟨rfl, F1, ⟨⟨⟨ax, b0, b1, b2, ay, a3, v⟩, b4, b5, b6, b7, b8, dx, (concatR (m6T (mulR wd v).1 0) P).1, b9, ba, az⟩, g8, fy, g9, ga, dt, ⟨aW, r2 dD dD, r3 dD, r4 dD, r5 dD, cz.lbv, cz.lbp⟩, ?_⟩, k2.keep bb eL⟩
 exact { hq with lost := rfl, text := rfl }
end
end
section
def textsW (sum : Int → List UInt8 → Int) (fs : List FtV) (v : Vw) (args : List PV) (op : List UInt8) : Except Int Vw :=
 if op = [66, 84] then (numsV args 0 >>= fun _ => .ok { v with inText := true, lost := false, text := m6I, line := m6I })
 else if op = [69, 84] then (numsV args 0 >>= fun _ => .ok { v with inText := false })
 else if op = [84, 102] then chooseV fs v args
 else if op = [84, 109] then (matV args >>= fun m => .ok { v with line := m, text := m, lost := false })
 else if op = [84, 100] then (numsV args 2 >>= fun n => catV (m6T (n.getD 0 0) (n.getD 1 0)) v.line >>= fun m => .ok { v with line := m, text := m, lost := false })
 else lettersV sum v args
theorem texts_e (sum : Int → List UInt8 → Int) (fs : List FtV) (v : Vw) (args : List PV) (op : List UInt8) : textsV sum fs v args op = (wantV (decide (v.inText = true ↔ op ≠ [66, 84])) >>= fun _ => textsW sum fs v args op) := rfl
theorem n2a (l : List Int) (h : l.length = 2) : l.getD 0 0 = l[0] ∧ l.getD 1 0 = l[1] := by
 match l, h with
 | [_, _], _ => exact ⟨rfl, rfl⟩
section
variable {B : Nat} {fs : Fcx} {w w1 : World} {bv : Nat} {F : Nat → Prop} {V : Vw} {args : List PV}
set_option maxHeartbeats 3200000 in
theorem vw_texts (op : List UInt8) (h : Vwr B fs w bv F V args) (ha : args.length ≤ 32) (hb : ∀ a ∈ args, (pvT a).length ≤ 65535) (hsn : SndV V) (hfc : fs.c = bv) :
    Calls Tryz.prog 50 #[.pointer (some ⟨bv, 0, none⟩), .string (bs op)] w (VwE B fs bv F w (textsV (fun f b => sumF f 0 b) fs.fs V args op) args) := by
  obtain ⟨bY, bZ⟩ := h.base; have D := h; have bf := VwrN.of D; obtain ⟨H, vp, its, hs, cs, rfl, hO, hR⟩ := h.mem; have aK := hO.blk; have bb : H.inText = V.inText := hR.inText; have aw : H.line = V.line := hR.line; obtain ⟨s, fo, sa, pa, cl, it, lo, te, li, ar, itv⟩ := H; simp only at bb aw; have cP := aK.lt; have j : ∀ w1, KeepB w.heap.size [bv] w w1 → Below B w w1 := fun w1 hK => hK.below bZ (by simpa using bY)
  refine W.e func50 rfl ntmps50 bL ?_; have bc := KeepB.refl w.heap.size ([bv]) w; refine W.sr <| WL.M rfl <| WL.O (.nck rfl) <| WL.O (.fa u74_ rfl s4_ dD rfl) <| WL.R (Rd.ld (isAgg4 _) rfl aK rfl) <| WL.M rfl <| WL.O (.nes rfl rfl) <| WL.O (.bis (decide (V.inText = true ↔ op ≠ [66, 84])) (.eqb underlying4 rfl rfl) (by rw [bb]; by_cases hop : op = [66, 84] <;> cases V.inText <;> simp [hop])) <| WL.ce hB_ rfl rfl ((vw_want _ _)) (fun k3 w1 ay ax => ?_) (fun a2 w1 ay ax => ?_); have b3 := kB bc ax; exact pn_is (ee_ k3 ((texts_e _ _ _ _ _).trans (bind_err ay)) (j _ b3)); have U := vs_ (w1 := w1) bf (fun k hk hl => ax.block k hl); have aI := aK.bl ax; have i := kB bc ax; have hE : textsV (fun f b => sumF f 0 b) fs.fs V args op = textsW (fun f b => sumF f 0 b) fs.fs V args op := (texts_e _ _ _ _ _).trans (bind_ok ay); refine WL.e <| W.sr <| WL.M rfl <| WL.e <| W.b <| W.sr <| WL.O (.eqs rfl rfl) <| WL.Z rfl <| W.cond rfl (fun h7 => ?_) (fun h7 => ?_)
  · have b' := dT h7
    have hD := hE.trans (if_pos aS); refine W.sr <| WL.M rfl <| WL.cx hB_ rfl rfl ((vw_numV 0 (U).get ha oO)) (fun c0 w8 az aJ => ?_) (fun a9 cS w8 az aJ => ?_); have b4 := kB i aJ; exact pn_is (ee_ c0 (by rw [hD, bind_err az]) (j _ b4)); have bg := aI.bl aJ.1; have bh := kB i aJ.1; rw [bind_ok az] at hD; refine WL.e <| W.reg <| WL.M rfl <| WL.M rfl <| WL.M rfl <| WL.M rfl <| WL.c1 hB_ rfl rfl ((mat_Identity _)) (fun cT aL => ?_); have bi := bg.bl aL; have bj := kB bh aL; refine WL.c1 hB_ rfl rfl ((mat_Identity _)) (fun cU aM => ?_); have bk := bi.bl aM; have bm := kB bj aM; refine WL.O (.nck rfl) <| WL.O (.fa u74_ rfl s4_ dD rfl) <| WL.stC (o := 29) ((vwC ⟨s, fo, sa, pa, cl, true, lo, te, li, ar, itv⟩).toArray) s4_ rfl (rfl) rfl (rfl) bk bL (rfl) (fun c2 X Y cE => ?_); have X : Blk c2 bv _ _ := X; have Y : Upd bv _ _ := Y; have bn := kU bm Y; refine WL.O (.nck rfl) <| WL.O (.fa u74_ rfl s4_ dD rfl) <| WL.stC (o := 30) ((vwC ⟨s, fo, sa, pa, cl, true, false, te, li, ar, itv⟩).toArray) s4_ rfl (rfl) rfl (rfl) X bL (rfl) (fun c3 a0 a1 cF => ?_); have a0 : Blk c3 bv _ _ := a0; have a1 : Upd bv _ _ := a1; have bo := kU bn a1; refine WL.O (.nck rfl) <| WL.O (.fa u74_ rfl s42_ dD rfl) <| WL.stB (o := 31) ((vwC ⟨s, fo, sa, pa, cl, true, false, m6I, li, ar, itv⟩).toArray) rfl (rfl) rfl a0 isz42 rfl bL (rfl) (fun c4 a3 a4 cG => ?_); have a3 : Blk c4 bv _ _ := a3; have a4 : Upd bv _ _ := a4; have bp := kU bo a4; refine WL.O (.nck rfl) <| WL.O (.fa u74_ rfl s42_ dD rfl) <| WL.stB (o := 37) ((vwC ⟨s, fo, sa, pa, cl, true, false, m6I, m6I, ar, itv⟩).toArray) rfl (rfl) rfl a3 isz42 rfl bL (rfl) (fun c5 a5 a6 cH => ?_); have a5 : Blk c5 bv _ _ := a5; have a6 : Upd bv _ _ := a6; have bq := kU bp a6; refine WL.e <| W.norm (W.ret0 rfl ?_)
    (refine eo_ _ _ hD rfl ⟨rfl, Vwr.set1 hO bq a5 (fun m => ?_)⟩
     have hq := hR.mv m
     first
       | exact { hq with inText := rfl, lost := rfl, text := rfl, line := rfl }
       | exact { hq with inText := rfl }
       | exact { hq with lost := rfl, text := rfl, line := rfl })
  have b' := dF h7; refine W.sr <| WL.O (.eqs rfl rfl) <| WL.Z rfl <| W.cond rfl (fun aN => ?_) (fun aN => ?_)
  · have bt := dT aN
    have hD := hE.trans ((if_neg aS).trans (if_pos aS)); refine W.sr <| WL.M rfl <| WL.cx hB_ rfl rfl ((vw_numV 0 (U).get ha oO)) (fun c6 c7 a7 a8 => ?_) (fun cV cW c7 a7 a8 => ?_); have aO := kB i a8; exact pn_is (ee_ c6 (by rw [hD, bind_err a7]) (j _ aO)); have bu := aI.bl a8.1; have bw := kB i a8.1; rw [bind_ok a7] at hD; refine WL.e <| W.reg <| WL.M rfl <| WL.O (.nck rfl) <| WL.O (.fa u74_ rfl s4_ dD rfl) <| WL.stC (o := 29) ((vwC ⟨s, fo, sa, pa, cl, false, lo, te, li, ar, itv⟩).toArray) s4_ rfl (rfl) rfl (rfl) bu bL (rfl) (fun c8 aa ab cI => ?_); have aa : Blk c8 bv _ _ := aa; have ab : Upd bv _ _ := ab; have bx := kU bw ab; refine WL.e <| W.norm (W.ret0 rfl ?_)
    (refine eo_ _ _ hD rfl ⟨rfl, Vwr.set1 hO bx aa (fun m => ?_)⟩
     have hq := hR.mv m
     first
       | exact { hq with inText := rfl, lost := rfl, text := rfl, line := rfl }
       | exact { hq with inText := rfl }
       | exact { hq with lost := rfl, text := rfl, line := rfl })
  have bt := dF aN; refine W.sr <| WL.O (.eqs rfl rfl) <| WL.Z rfl <| W.cond rfl (fun aP => ?_) (fun aP => ?_)
  · have bz := dT aP
    have hD := hE.trans ((if_neg aS).trans ((if_neg aS).trans (if_pos aS))); refine W.reg <| WL.M rfl <| WL.cx hB_ rfl rfl ((vw_choose (U).get ha)) (fun c9 ca ac aA => ?_) (fun cX cY ca ac aA => ?_); exact pn_is (ee_ c9 (by rw [hD]; exact ac) (bt_ (j _ i) aA)); have aQ := ac; obtain ⟨rfl, F9, aR, aB⟩ := aA; have aC := ct_ (Chg.of_keep i (fun g hg => .inl (.inl (List.mem_singleton.1 hg))) (fun g hg => .inl hg)) aB; refine WL.e <| W.norm (W.ret0 rfl ?_); exact eo_ _ _ (hD.trans aQ) rfl ⟨rfl, F9, aR, aC⟩
  have bz := dF aP; refine W.sr <| WL.O (.eqs rfl rfl) <| WL.Z rfl <| W.cond rfl (fun aT => ?_) (fun aT => ?_)
  · have bA := dT aT
    have hD := hE.trans ((if_neg aS).trans ((if_neg aS).trans ((if_neg aS).trans (if_pos aS)))); refine W.sr <| WL.M rfl <| WL.M rfl <| WL.ce hB_ rfl rfl ((vw_matrix (U).get ha)) (fun cb cc ad ae => ?_) (fun cd cc ad ae => ?_); have aU := kB i ae; exact pn_is (ee_ cb (by rw [hD, bind_err ad]) (j _ aU)); have bB := aI.bl ae; have bC := kB i ae; rw [bind_ok ad] at hD; obtain ⟨mm, rfl⟩ : ∃ x, x = cd := ⟨_, rfl⟩; refine WL.O (.nck rfl) <| WL.O (.fa u74_ rfl s42_ dD rfl) <| WL.stB (o := 37) ((vwC ⟨s, fo, sa, pa, cl, it, lo, te, mm, ar, itv⟩).toArray) rfl (rfl) rfl bB isz42 rfl bL (rfl) (fun cf u af cJ => ?_); have u : Blk cf bv _ _ := u; have af : Upd bv _ _ := af; have bD := kU bC af; refine WL.e <| W.reg <| WL.M rfl <| WL.M rfl <| WL.M rfl <| WL.O (.nck rfl) <| WL.O (.fa u74_ rfl s42_ dD rfl) <| WL.R (Rd.ldF (L := m6Y) u42_ rfl isz42 u (mm) (rfl) rfl) <| WL.O (.nck rfl) <| WL.O (.fa u74_ rfl s42_ dD rfl) <| WL.stB (o := 31) ((vwC ⟨s, fo, sa, pa, cl, it, lo, mm, mm, ar, itv⟩).toArray) rfl (rfl) rfl u isz42 rfl bL (rfl) (fun cg ag ah cK => ?_); have ag : Blk cg bv _ _ := ag; have ah : Upd bv _ _ := ah; have bE := kU bD ah; refine WL.O (.nck rfl) <| WL.O (.fa u74_ rfl s4_ dD rfl) <| WL.stC (o := 30) ((vwC ⟨s, fo, sa, pa, cl, it, false, mm, mm, ar, itv⟩).toArray) s4_ rfl (rfl) rfl (rfl) ag bL (rfl) (fun ci ai aj cL => ?_); have ai : Blk ci bv _ _ := ai; have aj : Upd bv _ _ := aj; have bG := kU bE aj; refine WL.e <| W.norm (W.ret0 rfl ?_)
    (refine eo_ _ _ hD rfl ⟨rfl, Vwr.set1 hO bG ai (fun m => ?_)⟩
     have hq := hR.mv m
     first
       | exact { hq with inText := rfl, lost := rfl, text := rfl, line := rfl }
       | exact { hq with inText := rfl }
       | exact { hq with lost := rfl, text := rfl, line := rfl })
  have bA := dF aT; refine W.sr <| WL.O (.eqs rfl rfl) <| WL.Z rfl <| W.cond rfl (fun aV => ?_) (fun aV => ?_)
  · have bH := dT aV
    have hD := hE.trans ((if_neg aS).trans ((if_neg aS).trans ((if_neg aS).trans ((if_neg aS).trans (if_pos aS))))); refine W.sr <| WL.M rfl <| WL.cx hB_ rfl rfl ((vw_numV 2 (U).get ha oO)) (fun cj ck v E => ?_) (fun cm cZ ck v E => ?_); have aW := kB i E; exact pn_is (ee_ cj (by rw [hD, bind_err v]) (j _ aW)); have bI := aI.bl E.1; have bJ := kB i E.1; obtain ⟨nl, rfl⟩ : ∃ l, l = cm := ⟨_, rfl⟩; obtain ⟨pn, cn, evn, bd, co, c', -⟩ := E.2.row; subst evn; have t := (numsV_ok v).1; have cq := bd.ofI; have be : 0 < nl.length → (pA pn).block ≠ bv := fun D e => by have := co _ (bd.isp D); have := i.size; omega
    rw [bind_ok v] at hD; refine WL.Z rfl <| W.seq <| W.regH 16 rfl mixed (fun w' => RowAt intV w' pn nl ∧ True) (fun d0 aD => ?_); have aE := bI.drew aD; have d := cq.drew aD; have aX := kt_ bJ (kd_ aD); refine WH.tp 0 rfl (.mv rfl) ⟨d, tT⟩ rfl ?_; refine WH.tp 1 rfl (.mv rfl) ⟨d, tT⟩ rfl ?_; refine WH.tp 2 rfl (.ixb u39_ s3_ rfl rfl (d.isp (by first | omega | exact nz_ _)) (0) (rfl) oO) ⟨d, tT⟩ rfl ?_; refine WH.tk 3 rfl (fun w' hw' => Rd.ldc (g3_ _) rfl ((hw'.1).cells (0) oO)) ⟨d, tT⟩ rfl ?_; refine WH.tp 4 rfl (.mv rfl) ⟨d, tT⟩ rfl ?_; refine WH.tp 5 rfl (.ixb u39_ s3_ rfl rfl (d.isp (by first | omega | exact nz_ _)) (1) (rfl) oO) ⟨d, tT⟩ rfl ?_; refine WH.tk 6 rfl (fun w' hw' => Rd.ldc (g3_ _) rfl ((hw'.1).cells (1) oO)) ⟨d, tT⟩ rfl ?_; refine WH.tp 8 rfl (.mv rfl) ⟨d, tT⟩ rfl ?_; refine WH.tp 9 rfl (.nck rfl) ⟨d, tT⟩ rfl ?_; refine WH.tp 10 rfl (.fa u74_ rfl s42_ dD rfl) ⟨d, tT⟩ rfl ?_; refine WH.br2 7 rfl 11 rfl ?_ ?_; refine WL.c1 hB_ rfl rfl ((mat_Translate _ _ _)) (fun d1 aF => ?_); have aY := aE.bl aF; have ak := RowAt.below d aF (fun D => d.lt D); have aZ := kB aX aF; refine WL.e <| ⟨⟨ak, tT⟩, ?_⟩; refine WH.br1 11 rfl <| WL.R (Rd.ldF (L := m6Y) u42_ rfl isz42 aY (li) (rfl) rfl) <| WL.e <| ⟨⟨ak, tT⟩, ?_⟩; refine WH.br1 12 rfl <| WL.ce hB_ rfl rfl ((vw_concat _ li _)) (fun cr ct al G => ?_) (fun cu ct al G => ?_); have a' := kB aZ G; exact pn_is (ee_ cr (by rw [(n2a nl t).1, (n2a nl t).2] at hD; rw [hD, ← aw]; exact bind_err al) (j _ a')); have bK := aY.bl G; have am := RowAt.below ak G (fun D => ak.lt D); have bM := kB aZ G; have b0 := al; rw [(n2a nl t).1, (n2a nl t).2] at hD; rw [← aw, bind_ok b0] at hD; obtain ⟨mm, rfl⟩ : ∃ x, x = cu := ⟨_, rfl⟩; refine WL.e <| ⟨⟨am, tT⟩, ?_⟩; refine WH.tp 13 rfl (.nck rfl) ⟨am, tT⟩ rfl ?_; refine WH.tp 14 rfl (.fa u74_ rfl s42_ dD rfl) ⟨am, tT⟩ rfl ?_; refine WH.br1 15 rfl <| WL.stB (o := 37) ((vwC ⟨s, fo, sa, pa, cl, it, lo, te, mm, ar, itv⟩).toArray) rfl (rfl) rfl bK isz42 rfl bL (rfl) (fun cv y A cM => ?_); have y : Blk cv bv _ _ := y; have A : Upd bv _ _ := A; have bN := RowAt.upd am A (be); have bO := kU bM A; refine WL.e <| ⟨⟨bN, tT⟩, ?_⟩; refine WH.done kR <| W.reg <| WL.M rfl <| WL.M rfl <| WL.M rfl <| WL.O (.nck rfl) <| WL.O (.fa u74_ rfl s42_ dD rfl) <| WL.R (Rd.ldF (L := m6Y) u42_ rfl isz42 y (mm) (rfl) rfl) <| WL.O (.nck rfl) <| WL.O (.fa u74_ rfl s42_ dD rfl) <| WL.stB (o := 31) ((vwC ⟨s, fo, sa, pa, cl, it, lo, mm, mm, ar, itv⟩).toArray) rfl (rfl) rfl y isz42 rfl bL (rfl) (fun cw an ao cN => ?_)
    have an : Blk cw bv _ _ := an; have ao : Upd bv _ _ := ao; have bP := kU bO ao; refine WL.O (.nck rfl) <| WL.O (.fa u74_ rfl s4_ dD rfl) <| WL.stC (o := 30) ((vwC ⟨s, fo, sa, pa, cl, it, false, mm, mm, ar, itv⟩).toArray) s4_ rfl (rfl) rfl (rfl) an bL (rfl) (fun cy ap aq cO => ?_); have ap : Blk cy bv _ _ := ap; have aq : Upd bv _ _ := aq; have bQ := kU bP aq; refine WL.e <| W.norm (W.ret0 rfl ?_)
    (refine eo_ _ _ hD rfl ⟨rfl, Vwr.set1 hO bQ ap (fun m => ?_)⟩
     have hq := hR.mv m
     first
       | exact { hq with inText := rfl, lost := rfl, text := rfl, line := rfl }
       | exact { hq with inText := rfl }
       | exact { hq with lost := rfl, text := rfl, line := rfl })
    refine WL.R (Rd.ldF (L := m6Y) u42_ rfl isz42 aE (li) (rfl) rfl) <| WL.e <| ⟨⟨d, tT⟩, ?_⟩; refine WH.br1 7 rfl <| WL.c1 hB_ rfl rfl ((mat_Translate _ _ _)) (fun d2 aG => ?_); have bR := aE.bl aG; have aH := RowAt.below d aG (fun D => d.lt D); have b1 := kB aX aG; refine WL.e <| ⟨⟨aH, tT⟩, ?_⟩; refine WH.br1 12 rfl <| WL.ce hB_ rfl rfl ((vw_concat _ li _)) (fun bS cz au J => ?_) (fun cA cz au J => ?_); have b2 := kB b1 J; exact pn_is (ee_ bS (by rw [(n2a nl t).1, (n2a nl t).2] at hD; rw [hD, ← aw]; exact bind_err au) (j _ b2)); have b5 := bR.bl J; have C := RowAt.below aH J (fun D => aH.lt D); have b6 := kB b1 J; have b0 := au; rw [(n2a nl t).1, (n2a nl t).2] at hD; rw [← aw, bind_ok b0] at hD; obtain ⟨mm, rfl⟩ : ∃ x, x = cA := ⟨_, rfl⟩; refine WL.e <| ⟨⟨C, tT⟩, ?_⟩; refine WH.tp 13 rfl (.nck rfl) ⟨C, tT⟩ rfl ?_; refine WH.tp 14 rfl (.fa u74_ rfl s42_ dD rfl) ⟨C, tT⟩ rfl ?_; refine WH.br1 15 rfl <| WL.stB (o := 37) ((vwC ⟨s, fo, sa, pa, cl, it, lo, te, mm, ar, itv⟩).toArray) rfl (rfl) rfl b5 isz42 rfl bL (rfl) (fun bT n q cB => ?_); have n : Blk bT bv _ _ := n; have q : Upd bv _ _ := q; have b7 := RowAt.upd C q (be); have b8 := kU b6 q; refine WL.e <| ⟨⟨b7, tT⟩, ?_⟩; refine WH.done kR <| W.reg <| WL.M rfl <| WL.M rfl <| WL.M rfl <| WL.O (.nck rfl) <| WL.O (.fa u74_ rfl s42_ dD rfl) <| WL.R (Rd.ldF (L := m6Y) u42_ rfl isz42 n (mm) (rfl) rfl) <| WL.O (.nck rfl) <| WL.O (.fa u74_ rfl s42_ dD rfl) <| WL.stB (o := 31) ((vwC ⟨s, fo, sa, pa, cl, it, lo, mm, mm, ar, itv⟩).toArray) rfl (rfl) rfl n isz42 rfl bL (rfl) (fun bU K N cC => ?_); have K : Blk bU bv _ _ := K; have N : Upd bv _ _ := N; have b9 := kU b8 N; refine WL.O (.nck rfl) <| WL.O (.fa u74_ rfl s4_ dD rfl) <| WL.stC (o := 30) ((vwC ⟨s, fo, sa, pa, cl, it, false, mm, mm, ar, itv⟩).toArray) s4_ rfl (rfl) rfl (rfl) K bL (rfl) (fun bV P Q cD => ?_); have P : Blk bV bv _ _ := P; have Q : Upd bv _ _ := Q; have ba := kU b9 Q; refine WL.e <| W.norm (W.ret0 rfl ?_)
    (refine eo_ _ _ hD rfl ⟨rfl, Vwr.set1 hO ba P (fun m => ?_)⟩
     have hq := hR.mv m
     first
       | exact { hq with inText := rfl, lost := rfl, text := rfl, line := rfl }
       | exact { hq with inText := rfl }
       | exact { hq with lost := rfl, text := rfl, line := rfl })
  have bH := dF aV; have hD := hE.trans ((if_neg aS).trans ((if_neg aS).trans ((if_neg aS).trans ((if_neg aS).trans (if_neg aS))))); refine W.reg <| WL.M rfl <| WL.cx hB_ rfl rfl ((vw_letters (U).get ha hb hsn hfc)) (fun bW bX T av => ?_) (fun cQ cR bX T av => ?_); exact pn_is (ee_ bW (by rw [hD]; exact T) (bt_ (j _ i) av)); have aQ := T; obtain ⟨rfl, F9, aR, aB⟩ := av; have aC := ct_ (Chg.of_keep i (fun g hg => .inl (.inl (List.mem_singleton.1 hg))) (fun g hg => .inl hg)) aB; refine WL.e <| W.norm (W.ret0 rfl ?_); exact eo_ _ _ (hD.trans aQ) rfl ⟨rfl, F9, aR, aC⟩
end
end
section
theorem idxOf_first {x : List UInt8} : ∀ {s : List (List UInt8)} {i : Nat} (h : i < s.length), s[i] = x → x ∉ s.take i → s.idxOf x = i
 | a :: r, 0, _, h1, _ => by
  have h1 : a = x := h1
  rw [h1, List.idxOf_cons_self]
 | a :: r, i + 1, h, h1, h2 => by
  rw [List.take_succ_cons, List.mem_cons, not_or] at h2
  rw [List.idxOf_cons, show (a == x) = false from by simpa using fun e : a = x => h2.1 e.symm, cond_false, idxOf_first (Nat.lt_of_succ_lt_succ h) (by simpa using h1) h2.2]
def idxO (s : List (List UInt8)) (x : List UInt8) : Int := if x ∈ s then (s.idxOf x : Int) else -1
theorem lib_idxO (q : Option Addr) (s : List (List UInt8)) (c : Nat) (x : List UInt8) (w : World) (hb : RowAt strV w q s) (hl : s.length ≤ 1000000000) :
  Calls Tryz.prog 51 #[.slice q s.length c, .string (bs x)] w fun e w' => e = .returned (.int .i64 (idxO s x)) ∧ w = w' := by
 refine W.e func51 rfl ntmps51 bL ?_
 refine W.sr <| WL.Z rfl <| W.seq <| W.sr <| WL.M rfl <| WL.O (.lenS u23_ rfl) <| WL.M rfl <| WL.e <| W.b <| W.loop (α := Nat) (fun t => [(0, .slice q s.length c), (1, .string (bs x)), (7, .int .i64 (s.length : Int)), (8, .int .i64 (t : Int))]) (fun t w' => w = w' ∧ t ≤ s.length ∧ x ∉ s.take t) (fun t => s.length - t) (0) ⟨rfl, rfl, rfl, rfl, tT⟩ (⟨rfl, nl_ _, by simp⟩) (fun t l hR => ?_)
 obtain ⟨i, rfl⟩ : ∃ i, i = t := ⟨t, rfl⟩
 obtain ⟨rfl, hi, a⟩ := hR
 refine W.sr <| WL.O (.lss rfl rfl) <| WL.e <| W.seq <| W.cond rfl (fun d => ?_) (fun d => ?_)
 have g := dT d
 refine W.k <| W.seq <| W.b <| W.sr <| WL.M rfl <| WL.Z rfl <| W.sr <| WL.M rfl <| WL.M rfl <| WL.M rfl <| WL.O (.ixb u23_ s9_ rfl rfl (hb.isp (by first | omega | exact nz_ _)) (i) (rfl) oO) <| WL.R (Rd.ldc (g9_ _) rfl (hb.cells (i) oO)) <| WL.O (.eqs rfl rfl) <| WL.e <| W.cond rfl (fun f => ?_) (fun f => ?_)
 have j := dT f
 refine W.sr <| WL.M rfl <| WL.Z rfl <| W.ret (W.r1 rfl rfl ?_)
 exact ⟨fx_val (by
  have hx : x = s[i]'oO := by assumption
  unfold idxO; rw [if_pos (hx ▸ List.getElem_mem _), idxOf_first oO hx.symm a]), rfl⟩
 have j := dF f
 refine W.k <| W.reg <| WL.O (.iis (((i + 1 : Nat) : Int)) (.add rfl rfl (i64w oO)) oO) <| WL.M rfl <| WL.e <| ?_
 exact ⟨i + 1, ⟨rfl, rfl, rfl, rfl, tT⟩, ⟨rfl, by ((try simp only) <;> omega), by
  rw [List.take_add_one, List.getElem?_eq_getElem oO, Option.toList_some, List.mem_append, List.mem_singleton]; exact fun h => h.elim a aS⟩, by ((try simp only) <;> omega)⟩
 have g := dF d
 refine W.exit <| W.sr <| WL.Z rfl <| W.ret (W.r1 rfl rfl ?_)
 exact ⟨fx_val (by
  rw [show s.take i = s from List.take_of_length_le oO] at a; unfold idxO; rw [if_neg a]), rfl⟩
theorem op_pen {sum : Int → List UInt8 → Int} {fs : List FtV} {v : Vw} {args : List PV} {op : List UInt8} (h : op ∈ penOps) : opV sum fs v args op = pensV v args op := if_pos h
theorem op_col {sum : Int → List UInt8 → Int} {fs : List FtV} {v : Vw} {args : List PV} {op : List UInt8} (h0 : op ∉ penOps) (h : op ∈ colOps) : opV sum fs v args op = colorsV v args op := (if_neg h0).trans (if_pos h)
theorem op_txt {sum : Int → List UInt8 → Int} {fs : List FtV} {v : Vw} {args : List PV} {op : List UInt8} (h0 : op ∉ penOps) (h1 : op ∉ colOps) (h : op ∈ txtOps) : opV sum fs v args op = textsV sum fs v args op := (if_neg h0).trans ((if_neg h1).trans (if_pos h))
theorem op_no {sum : Int → List UInt8 → Int} {fs : List FtV} {v : Vw} {args : List PV} {op : List UInt8} (h0 : op ∉ penOps) (h1 : op ∉ colOps) (h2 : op ∉ txtOps) (h : op ∉ knownOps) : opV sum fs v args op = .error 23 := (if_neg h0).trans ((if_neg h1).trans ((if_neg h2).trans (if_pos h)))
def opW (v : Vw) (args : List PV) (op : List UInt8) : Except Int Vw :=
 if knownOps.idxOf op < 3 then statesV v args op
 else if knownOps.idxOf op < 10 then drawV v args op
 else if op = [87] ∨ op = [87, 42] then (numsV args 0 >>= fun _ => .ok { v with clip := op.length })
 else paintV v args op
theorem op_own {sum : Int → List UInt8 → Int} {fs : List FtV} {v : Vw} {args : List PV} {op : List UInt8} (h0 : op ∉ penOps) (h1 : op ∉ colOps) (h2 : op ∉ txtOps) (h : op ∈ knownOps) : opV sum fs v args op = (wantV (!v.inText) >>= fun _ => opW v args op) := (if_neg h0).trans ((if_neg h1).trans ((if_neg h2).trans (if_neg (fun hn => hn h))))
section
variable {B : Nat} {fs : Fcx} {w w1 : World} {bv : Nat} {F : Nat → Prop} {V : Vw} {args : List PV}
set_option maxHeartbeats 3200000 in
theorem vw_operator (op : List UInt8) (h : Vwr B fs w bv F V args) (ha : args.length ≤ 32) (hb : ∀ a ∈ args, (pvT a).length ≤ 65535) (hbl : ∀ a ∈ args, (pvLs a).length ≤ 65535) (hsn : SndV V) (hfc : fs.c = bv) :
  Calls Tryz.prog 36 #[.pointer (some ⟨bv, 0, none⟩), .string (bs op)] w (VwE B fs bv F w (opV (fun f b => sumF f 0 b) fs.fs V args op) args) := by
 obtain ⟨b5, b6⟩ := h.base
 have h0 := h
 have G := VwrN.of h0
 obtain ⟨H, vp, its, hs, cs, rfl, hO, hR⟩ := h.mem
 have ad := hO.blk
 have ae : H.inText = V.inText := hR.inText
 obtain ⟨s, fo, sa, pa, cl, it, lo, te, li, ar, itv⟩ := H
 simp only at ae
 have bx := ad.lt
 have v : ∀ w1, KeepB w.heap.size [bv] w w1 → Below B w w1 := fun w1 hK => hK.below b6 (by simpa using b5)
 obtain ⟨R, u⟩ : ∃ R, opV (fun f b => sumF f 0 b) fs.fs V args op = R := ⟨_, rfl⟩
 rw [u]
 refine W.e func36 rfl ntmps36 bL ?_
 have y := KeepB.refl w.heap.size ([bv]) w
 refine W.seq <| W.sr <| WL.M rfl <| WL.e <| W.b <| W.cut (α := Bool) (fun t => [(0, .pointer (some ⟨bv, 0, none⟩)), (1, .string (bs op)), (6, .string (bs op)), (7, .bool t)]) (fun t w' => w = w' ∧ t = decide (op ∈ penOps)) ?_ (fun t w1 hR => ?_)
 refine W.sr <| WL.O (.eqs rfl rfl) <| WL.Z rfl <| W.cond rfl (fun x => ?_) (fun x => ?_)
 have b7 := dT x
 refine W.k ?_
 exact ⟨_, ⟨rfl, rfl, rfl, rfl, tT⟩, rfl, by simp_all [penOps]⟩
 have b7 := dF x
 refine W.sr <| WL.O (.eqs rfl rfl) <| WL.Z rfl <| W.cond rfl (fun A => ?_) (fun A => ?_)
 have b8 := dT A
 refine W.k ?_
 exact ⟨_, ⟨rfl, rfl, rfl, rfl, tT⟩, rfl, by simp_all [penOps]⟩
 have b8 := dF A
 refine W.sr <| WL.O (.eqs rfl rfl) <| WL.Z rfl <| W.cond rfl (fun E => ?_) (fun E => ?_)
 have b9 := dT E
 refine W.k ?_
 exact ⟨_, ⟨rfl, rfl, rfl, rfl, tT⟩, rfl, by simp_all [penOps]⟩
 have b9 := dF E
 refine W.sr <| WL.O (.eqs rfl rfl) <| WL.Z rfl <| W.cond rfl (fun J => ?_) (fun J => ?_)
 have ba := dT J
 refine W.k ?_
 exact ⟨_, ⟨rfl, rfl, rfl, rfl, tT⟩, rfl, by simp_all [penOps]⟩
 have ba := dF J
 refine W.reg <| WL.O (.eqs rfl rfl) <| WL.Z rfl ?_
 exact ⟨_, ⟨rfl, rfl, rfl, rfl, tT⟩, rfl, by simp_all [penOps]⟩
 obtain ⟨rfl, rfl⟩ := hR
 refine W.cond rfl (fun h5 => ?_) (fun h5 => ?_)
 have bb := dT h5
 refine W.seq ?_
 have x : op ∈ penOps := by assumption
 refine W.reg <| WL.M rfl <| WL.M rfl <| WL.cx hB_ rfl rfl ((vw_pens op (G).get ha hbl)) (fun k8 w6 a5 af => ?_) (fun a7 x9 w6 a5 af => ?_)
 exact pn_is (ee_ k8 (u.symm.trans ((op_pen x).trans a5)) (bt_ (v _ y) af))
 have j : R = _ := u.symm.trans ((op_pen x).trans a5)
 obtain ⟨rfl, F9, n, d⟩ := af
 have i := ct_ (Chg.of_keep y (fun g hg => .inl (.inl (List.mem_singleton.1 hg))) (fun g hg => .inl hg)) d
 refine WL.e <| W.ret (W.ret0 rfl  ?_)
 exact eo_ _ _ j rfl ⟨rfl, F9, n, i⟩
 have bb := dF h5
 have x : op ∉ penOps := by assumption
 refine W.cut (α := Bool) (fun t => [(0, .pointer (some ⟨bv, 0, none⟩)), (1, .string (bs op)), (6, .string (bs op)), (16, .bool t)]) (fun t w' => w = w' ∧ t = decide (op ∈ colOps)) ?_ (fun t w1 hR => ?_)
 refine W.sr <| WL.O (.eqs rfl rfl) <| WL.Z rfl <| W.cond rfl (fun ag => ?_) (fun ag => ?_)
 have aG := dT ag
 refine W.k ?_
 exact ⟨_, ⟨rfl, rfl, rfl, rfl, tT⟩, rfl, by simp_all [colOps]⟩
 have aG := dF ag
 refine W.sr <| WL.O (.eqs rfl rfl) <| WL.Z rfl <| W.cond rfl (fun ah => ?_) (fun ah => ?_)
 have aH := dT ah
 refine W.k ?_
 exact ⟨_, ⟨rfl, rfl, rfl, rfl, tT⟩, rfl, by simp_all [colOps]⟩
 have aH := dF ah
 refine W.sr <| WL.O (.eqs rfl rfl) <| WL.Z rfl <| W.cond rfl (fun ai => ?_) (fun ai => ?_)
 have aI := dT ai
 refine W.k ?_
 exact ⟨_, ⟨rfl, rfl, rfl, rfl, tT⟩, rfl, by simp_all [colOps]⟩
 have aI := dF ai
 refine W.sr <| WL.O (.eqs rfl rfl) <| WL.Z rfl <| W.cond rfl (fun aj => ?_) (fun aj => ?_)
 have aJ := dT aj
 refine W.k ?_
 exact ⟨_, ⟨rfl, rfl, rfl, rfl, tT⟩, rfl, by simp_all [colOps]⟩
 have aJ := dF aj
 refine W.sr <| WL.O (.eqs rfl rfl) <| WL.Z rfl <| W.cond rfl (fun ak => ?_) (fun ak => ?_)
 have aK := dT ak
 refine W.k ?_
 exact ⟨_, ⟨rfl, rfl, rfl, rfl, tT⟩, rfl, by simp_all [colOps]⟩
 have aK := dF ak
 refine W.reg <| WL.O (.eqs rfl rfl) <| WL.Z rfl ?_
 exact ⟨_, ⟨rfl, rfl, rfl, rfl, tT⟩, rfl, by simp_all [colOps]⟩
 obtain ⟨rfl, rfl⟩ := hR
 refine W.cond rfl (fun al => ?_) (fun al => ?_)
 have aL := dT al
 refine W.seq ?_
 have A : op ∈ colOps := by assumption
 refine W.reg <| WL.M rfl <| WL.M rfl <| WL.cx hB_ rfl rfl ((vw_colors op (G).get ha)) (fun bc bd K a6 => ?_) (fun bz bA bd K a6 => ?_)
 exact pn_is (ee_ bc (u.symm.trans ((op_col x A).trans K)) (bt_ (v _ y) a6))
 have j : R = _ := u.symm.trans ((op_col x A).trans K)
 obtain ⟨rfl, F9, n, d⟩ := a6
 have i := ct_ (Chg.of_keep y (fun g hg => .inl (.inl (List.mem_singleton.1 hg))) (fun g hg => .inl hg)) d
 refine WL.e <| W.ret (W.ret0 rfl  ?_)
 exact eo_ _ _ j rfl ⟨rfl, F9, n, i⟩
 have aL := dF al
 have A : op ∉ colOps := by assumption
 refine W.cut (α := Bool) (fun t => [(0, .pointer (some ⟨bv, 0, none⟩)), (1, .string (bs op)), (26, .bool t)]) (fun t w' => w = w' ∧ t = decide (op ∈ txtOps)) ?_ (fun t w1 hR => ?_)
 refine W.sr <| WL.O (.eqs rfl rfl) <| WL.Z rfl <| W.cond rfl (fun am => ?_) (fun am => ?_)
 have aM := dT am
 refine W.k ?_
 exact ⟨_, ⟨rfl, rfl, rfl, tT⟩, rfl, by simp_all [txtOps]⟩
 have aM := dF am
 refine W.sr <| WL.O (.eqs rfl rfl) <| WL.Z rfl <| W.cond rfl (fun an => ?_) (fun an => ?_)
 have aN := dT an
 refine W.k ?_
 exact ⟨_, ⟨rfl, rfl, rfl, tT⟩, rfl, by simp_all [txtOps]⟩
 have aN := dF an
 refine W.sr <| WL.O (.eqs rfl rfl) <| WL.Z rfl <| W.cond rfl (fun ao => ?_) (fun ao => ?_)
 have aO := dT ao
 refine W.k ?_
 exact ⟨_, ⟨rfl, rfl, rfl, tT⟩, rfl, by simp_all [txtOps]⟩
 have aO := dF ao
 refine W.sr <| WL.O (.eqs rfl rfl) <| WL.Z rfl <| W.cond rfl (fun ap => ?_) (fun ap => ?_)
 have aP := dT ap
 refine W.k ?_
 exact ⟨_, ⟨rfl, rfl, rfl, tT⟩, rfl, by simp_all [txtOps]⟩
 have aP := dF ap
 refine W.sr <| WL.O (.eqs rfl rfl) <| WL.Z rfl <| W.cond rfl (fun aq => ?_) (fun aq => ?_)
 have aQ := dT aq
 refine W.k ?_
 exact ⟨_, ⟨rfl, rfl, rfl, tT⟩, rfl, by simp_all [txtOps]⟩
 have aQ := dF aq
 refine W.reg <| WL.O (.eqs rfl rfl) <| WL.Z rfl ?_
 exact ⟨_, ⟨rfl, rfl, rfl, tT⟩, rfl, by simp_all [txtOps]⟩
 obtain ⟨rfl, rfl⟩ := hR
 refine W.cond rfl (fun au => ?_) (fun au => ?_)
 have aR := dT au
 refine W.seq ?_
 have E : op ∈ txtOps := by assumption
 refine W.reg <| WL.M rfl <| WL.M rfl <| WL.cx hB_ rfl rfl ((vw_texts op (G).get ha hb hsn hfc)) (fun be bf L a8 => ?_) (fun bB bC bf L a8 => ?_)
 exact pn_is (ee_ be (u.symm.trans ((op_txt x A E).trans L)) (bt_ (v _ y) a8))
 have j : R = _ := u.symm.trans ((op_txt x A E).trans L)
 obtain ⟨rfl, F9, n, d⟩ := a8
 have i := ct_ (Chg.of_keep y (fun g hg => .inl (.inl (List.mem_singleton.1 hg))) (fun g hg => .inl hg)) d
 refine WL.e <| W.ret (W.ret0 rfl  ?_)
 exact eo_ _ _ j rfl ⟨rfl, F9, n, i⟩
 have aR := dF au
 refine W.k <| W.seq ?_
 have E : op ∉ txtOps := by assumption
 refine W.reg <| WL.bsl (ps := _) u23_ s9_ zeroValue9 rfl rfl rfl rfl rfl pR rfl (fun bD aT av aE P bu => ?_)
 have aU := vs_ (w1 := aT) G (fun k hk hl => P.other k oO)
 have aV := bgl av ad.lt
 have aw := ad.un P aV
 have ax := bge av y.size
 have a9 := kt_ y (kn_ P ax)
 have bg := RowAt.lit (V := strV) (l := [[113], [81], [99, 109], [109], [108], [99], [118], [121], [104], [114, 101], [83], [115], [102], [70], [102, 42], [66], [66, 42], [98], [98, 42], [110], [87], [87, 42]]) aE (rfl)
 refine WL.Z rfl <| W.sr <| WL.M rfl <| WL.M rfl <| WL.c1 hB_ rfl rfl ((lib_idxO _ knownOps _ op _ bg dD)) (fun bE aW => ?_)
 obtain rfl := aW
 refine WL.Z rfl <| W.seq <| W.sr <| WL.M rfl <| WL.O (.lss rfl rfl) <| WL.e <| W.cond rfl (fun ay => ?_) (fun ay => ?_)
 have aX := dT ay
 have J : op ∉ knownOps := fun hm => by
  have h9 : idxO knownOps op = (knownOps.idxOf op : Int) := if_pos hm
  omega
 refine W.reg <| WL.O (.mkI u30_ rfl) <| WL.panic rfl (pn_is ?_)
 exact ee_ 23 (u.symm.trans (op_no x A E J)) (v _ a9)
 have aX := dF ay
 have J : op ∈ knownOps := by
  apply Classical.byContradiction
  intro hm; have h9 : idxO knownOps op = -1 := if_neg hm
  omega
 have h9 : idxO knownOps op = (knownOps.idxOf op : Int) := if_pos J
 refine W.k <| W.sr <| WL.M rfl <| WL.O (.nck rfl) <| WL.O (.fa u74_ rfl s4_ dD rfl) <| WL.R (Rd.ld (isAgg4 _) rfl aw rfl) <| WL.O (.not rfl) <| WL.ce hB_ rfl rfl ((vw_want _ _)) (fun bh aF Q C => ?_) (fun bG aF Q C => ?_)
 have az := kB a9 C
 exact pn_is (ee_ bh (by rw [← u, op_own x A E J, ← ae]; exact bind_err Q) (v _ az))
 have T := vs_ (w1 := aF) aU (fun k hk hl => C.block k hl)
 have aY := aw.bl C
 have q := kB a9 C
 have hE : R = opW V args op := u.symm.trans ((op_own x A E J).trans (by rw [← ae]; exact bind_ok Q))
 refine WL.e <| W.b <| W.sr <| WL.M rfl <| WL.O (.lss rfl rfl) <| WL.Z rfl <| W.cond rfl (fun aA => ?_) (fun aA => ?_)
 have aZ := dT aA
 have hD := hE.trans (if_pos oO)
 refine W.reg <| WL.M rfl <| WL.M rfl <| WL.cx hB_ rfl rfl ((vw_states op (T).get ha)) (fun bi bj U aa => ?_) (fun bH bI bj U aa => ?_)
 exact pn_is (ee_ bi (hD.trans U) (bt_ (v _ q) aa))
 have j : R = _ := hD.trans U
 obtain ⟨rfl, F9, n, d⟩ := aa
 have i := ct_ (Chg.of_keep q (fun g hg => .inl (.inl (List.mem_singleton.1 hg))) (fun g hg => .inl hg)) d
 refine WL.e <| W.norm (W.ret0 rfl ?_)
 exact eo_ _ _ j rfl ⟨rfl, F9, n, i⟩
 have aZ := dF aA
 refine W.sr <| WL.M rfl <| WL.O (.lss rfl rfl) <| WL.Z rfl <| W.cond rfl (fun aB => ?_) (fun aB => ?_)
 have a' := dT aB
 have hD := hE.trans ((if_neg oO).trans (if_pos oO))
 refine W.reg <| WL.M rfl <| WL.M rfl <| WL.cx hB_ rfl rfl ((vw_draw op (T).get ha)) (fun bk bm X ab => ?_) (fun bJ bK bm X ab => ?_)
 exact pn_is (ee_ bk (hD.trans X) (bt_ (v _ q) ab))
 have j : R = _ := hD.trans X
 obtain ⟨rfl, F9, n, d⟩ := ab
 have i := ct_ (Chg.of_keep q (fun g hg => .inl (.inl (List.mem_singleton.1 hg))) (fun g hg => .inl hg)) d
 refine WL.e <| W.norm (W.ret0 rfl ?_)
 exact eo_ _ _ j rfl ⟨rfl, F9, n, i⟩
 have a' := dF aB
 refine W.cutB 64 (decide (op = [87] ∨ op = [87, 42])) ?_ ?_
 refine W.reg <| WL.M rfl <| WL.O (.eqs rfl rfl) <| WL.M rfl <| WL.gd rfl rfl rfl (fun D => ?_) (fun D => ?_)
 have b0 := dF D
 refine WL.M rfl <| WL.Y D <| WL.O (.eqs rfl rfl) <| WL.O (.pkF rfl D rfl) <| WL.Z rfl ?_
 exact ⟨leE (lk_b rfl (by first | (simp_all; done))), rfl⟩
 have b0 := dT D
 refine WL.N D <| WL.O (.pkT rfl D rfl) <| WL.Z rfl ?_
 exact ⟨leE (lk_b rfl (by first | (simp_all; done))), rfl⟩
 refine W.cond rfl (fun aC => ?_) (fun aC => ?_)
 have b1 := dT aC
 have hD := hE.trans ((if_neg oO).trans ((if_neg oO).trans (if_pos (dT aS))))
 refine W.sr <| WL.M rfl <| WL.cx hB_ rfl rfl ((vw_numV 0 (T).get ha oO)) (fun bn bo a0 a1 => ?_) (fun bM bN bo a0 a1 => ?_)
 have aD := kB q a1
 exact pn_is (ee_ bn (by rw [hD, bind_err a0]) (v _ aD))
 have b2 := aY.bl a1.1
 have b3 := kB q a1.1
 rw [bind_ok a0] at hD
 refine WL.e <| W.reg <| WL.M rfl <| WL.M rfl <| WL.O (.len u9_ rfl) <| WL.O (.nck rfl) <| WL.O (.fa u74_ rfl s3_ dD rfl) <| WL.stC (o := 28) ((vwC ⟨s, fo, sa, pa, (op.length : Int), it, lo, te, li, ar, itv⟩).toArray) s3_ rfl (rfl) rfl (rfl) b2 bL (rfl) (fun bp a2 a3 bw => ?_)
 have a2 : Blk bp bv _ _ := a2
 have a3 : Upd bv _ _ := a3
 have b4 := kU b3 a3
 refine WL.e <| W.norm (W.ret0 rfl ?_)
 exact eo_ _ _ hD rfl ⟨rfl, Vwr.set1 hO b4 a2 (fun m => { hR.mv m with clip := rfl })⟩
 have b1 := dF aC
 have hD := hE.trans ((if_neg oO).trans ((if_neg oO).trans (if_neg (dF aS))))
 refine W.reg <| WL.M rfl <| WL.M rfl <| WL.cx hB_ rfl rfl ((vw_paint op (T).get ha hsn)) (fun bq bt a4 ac => ?_) (fun bO bP bt a4 ac => ?_)
 exact pn_is (ee_ bq (hD.trans a4) (bt_ (v _ q) ac))
 have j : R = _ := hD.trans a4
 obtain ⟨rfl, F9, n, d⟩ := ac
 have i := ct_ (Chg.of_keep q (fun g hg => .inl (.inl (List.mem_singleton.1 hg))) (fun g hg => .inl hg)) d
 refine WL.e <| W.norm (W.ret0 rfl ?_)
 exact eo_ _ _ j rfl ⟨rfl, F9, n, i⟩
end
end
section
theorem plexW_np {refs : Bool} {l : List UInt8} {t : Nat} (ht : t ≤ l.length) : (plexW refs l t).np ≤ l.length := by
 have a := wordAt_le l t ht
 have b := refT_adv (refs := refs) (s := wordL l t) a.2
 unfold plexW
 repeat' split
 all_goals first | exact a.2 | exact b.2
end
section
theorem tokP_adv {l : List UInt8} {a : Nat} (ha : a ≤ l.length) (h : (tokP l a).2.2.2 = 0) : (a : Int) < (tokP l a).2.2.1 ∧ (tokP l a).2.2.1 ≤ (l.length : Int) := by
 unfold tokP at h ⊢
 rw [if_neg oO] at h ⊢
 have d := skipAt_ge l a ha
 rw [show (a : Int).toNat = a from rfl] at h ⊢
 split at h
 ·
  next hlt =>
  rw [dif_pos hlt]
  split at h
  ·
   next hreg =>
   rw [if_pos hreg]
   have b : wordL l (skipAt false l a) ≠ [] := by
    rw [wordL_eq, List.drop_eq_getElem_cons hlt, List.takeWhile_cons, if_pos hreg]
    exact lc_ _ _
   have c := word_pos oO b
   have e := refT_adv (refs := false) (s := wordL l (skipAt false l a)) c.2
   have f : skipAt false l a < (plexW false l (skipAt false l a)).np := by
    unfold plexW
    repeat' split
    all_goals first | exact c.1 | (show skipAt false l a < refT _ _; omega)
   have g := plexW_np (refs := false) (l := l) (t := skipAt false l a) oO
   show (a : Int) < ((plexW false l (skipAt false l a)).np : Int) ∧ ((plexW false l (skipAt false l a)).np : Int) ≤ l.length
   omega
  ·
   next hreg =>
   rw [if_neg hreg]
   cases ho : objP false l 32 (skipAt false l a) with
   | ok q =>
    obtain ⟨o, t'⟩ := q
    have := objP_adv false l 32 _ _ _ hlt ho
    show (a : Int) < (t' : Int) ∧ (t' : Int) ≤ l.length
    omega
   | error k =>
    rw [ho] at h
    exact ab_ h (objP_err false l _ _ _ ho).ne
 ·
  cases h
end
section
theorem tokS_text {l : List UInt8} {t : TokV} {s : List UInt8} (h : tokS l = .ok (t, s)) : t.text.length ≤ 65535 := by
 have hn : ∀ {k : Int} {l : List UInt8} {t : TokV} {r : List UInt8}, nameS k l = .ok (t, r) → t.text.length ≤ 65535 := fun h => by
  obtain ⟨-, rfl, a⟩ := nameS_ok2 h
  exact nt_ a dD
 have ht : ∀ {o : Option (List UInt8 × List UInt8)} {t : TokV} {r : List UInt8}, textS o = .ok (t, r) → t.text.length ≤ 65535 := fun h => by
  obtain ⟨_, -, rfl, a⟩ := textS_ok2 h
  exact a
 unfold tokS at h
 split at h
 ·
  cases h; exact nl_ _
 ·
  split at h
  ·
   exact ht h
  ·
   split at h
   ·
    cases h
   ·
    split at h
    ·
     unfold angleS at h
     split at h
     ·
      split at h
      ·
       cases h; exact (show (2 : Nat) ≤ 65535 by decide)
      ·
       split at h
       ·
        exact ht h
       ·
        cases h
     ·
      split at h
      ·
       exact ht h
      ·
       cases h
    ·
     split at h
     ·
      cases h; exact nl_ _
     ·
      split at h
      ·
       cases h; exact nl_ _
      ·
       split at h
       ·
        cases h; exact (show (1 : Nat) ≤ 65535 by decide)
       ·
        split at h
        ·
         unfold slashS at h
         split at h
         ·
          split at h
          ·
           exact hn h
          ·
           exact hn h
         ·
          exact hn h
        ·
         unfold wordS at h
         simp only at h
         split at h
         ·
          cases h
         ·
          split at h
          ·
           cases h; exact nl_ _
          ·
           exact hn h
theorem textR_len {l : List UInt8} {t : Nat} {s : List UInt8} {t1 : Nat} (h : textR l t = .ok (s, t1)) : s.length ≤ 65535 := by
 have hx : (nextR l t).s.length ≤ 65535 := by
  unfold nextR
  split
  ·
   exact nl_ _
  ·
   cases hk : tokS (l.drop (t : Int).toNat) with
   | error e => exact nl_ _
   | ok r => exact tokS_text (s := r.2) hk
 unfold textR at h
 repeat' split at h
 all_goals first | (cases h; done) | (cases h; exact hx)
theorem nameP_len {l : List UInt8} {t : Nat} {s : List UInt8} {t1 : Nat} (h : nameP l t = .ok (s, t1)) : s.length ≤ 65535 := by
 unfold nameP at h
 split at h
 ·
  cases h
 ·
  split at h
  ·
   cases h
  ·
   split at h
   ·
    cases h
   ·
    cases h; omega
theorem listP_len {obj : Nat → ObjE} {l : List UInt8} : ∀ (f : Nat) (acc : List PV) (t : Nat) {os : List PV} {t1 : Nat}, acc.length ≤ 65535 → listP obj l f acc t = .ok (os, t1) → os.length ≤ 65535
 | 0, _, _, _, _, _, h => by cases h
 | f + 1, acc, t, os, t1, ha, h => by
  unfold listP at h
  split at h
  ·
   cases h
  ·
   split at h
   ·
    cases h; exact ha
   ·
    split at h
    ·
     cases h
    ·
     split at h
     ·
      cases h
     ·
      exact listP_len f _ _ (by simp only [List.length_append, List.length_cons, List.length_nil]; omega) h
theorem pairsP_len {obj : Nat → ObjE} {l : List UInt8} : ∀ (f : Nat) (ks : List (List UInt8)) (acc : List PV) (t : Nat) {ks1 : List (List UInt8)} {os : List PV} {t1 : Nat}, acc.length ≤ 65535 → pairsP obj l f ks acc t = .ok (ks1, os, t1) → os.length ≤ 65535
 | 0, _, _, _, _, _, _, _, h => by cases h
 | f + 1, ks, acc, t, ks1, os, t1, ha, h => by
  unfold pairsP at h
  split at h
  ·
   cases h
  ·
   split at h
   ·
    cases h
   ·
    split at h
    ·
     cases h; exact ha
    ·
     split at h
     ·
      cases h
     ·
      split at h
      ·
       cases h
      ·
       split at h
       ·
        cases h
       ·
        split at h
        ·
         cases h
        ·
         split at h
         ·
          cases h
         ·
          split at h
          ·
           cases h
          ·
           exact pairsP_len f _ _ _ (by simp only [List.length_append, List.length_cons, List.length_nil]; omega) h
def PvB (o : PV) : Prop := (pvT o).length ≤ 65535 ∧ (pvLs o).length ≤ 65535
theorem PvB.zero (k n : Int) : PvB (pv0 k n []) := ⟨nl_ _, nl_ _⟩
theorem textP_bnd {l : List UInt8} {t : Nat} {o : PV} {t1 : Nat} (h : textP l t = .ok (o, t1)) : PvB o := by
 unfold textP at h
 split at h
 ·
  cases h
 ·
  next s t' hk => cases h; exact ⟨textR_len hk, nl_ _⟩
theorem nameO_bnd {l : List UInt8} {t : Nat} {o : PV} {t1 : Nat} (h : nameO l t = .ok (o, t1)) : PvB o := by
 unfold nameO at h
 split at h
 ·
  cases h
 ·
  next s t' hk => cases h; exact ⟨nameP_len hk, nl_ _⟩
theorem plainO_bnd {X : WR} {o : PV} {t1 : Nat} (h : plainO X = .ok (o, t1)) : PvB o := by
 unfold plainO at h
 split at h
 ·
  cases h; exact PvB.zero _ _
 ·
  cases h
theorem objP_bnd {refs : Bool} {l : List UInt8} {d t : Nat} {o : PV} {t1 : Nat} (h : objP refs l d t = .ok (o, t1)) : PvB o := by
 cases d with
 | zero =>
  unfold objP at h
  split at h
  ·
   cases h
  ·
   repeat' split at h
   all_goals first | (cases h; done) | exact nameO_bnd h | exact textP_bnd h | exact plainO_bnd h
 | succ d =>
  unfold objP at h
  split at h
  ·
   cases h
  ·
   split at h
   ·
    exact nameO_bnd h
   ·
    split at h
    ·
     unfold listO at h
     split at h
     ·
      cases h
     ·
      next os t' hk => cases h; exact ⟨nl_ _, listP_len _ _ _ (nl_ _) hk⟩
    ·
     split at h
     ·
      exact textP_bnd h
     ·
      split at h
      ·
       split at h
       ·
        cases h
       ·
        split at h
        ·
         exact textP_bnd h
        ·
         unfold pairsO at h
         split at h
         ·
          cases h
         ·
          next ks os t' hk => cases h; exact ⟨nl_ _, pairsP_len _ _ _ _ (nl_ _) hk⟩
      ·
       exact plainO_bnd h
theorem tokP_bnd (l : List UInt8) (a : Int) : PvB (tokP l a).1 := by
 unfold tokP
 split
 ·
  exact PvB.zero _ _
 ·
  split
  ·
   split
   ·
    exact PvB.zero _ _
   ·
    split
    ·
     next o t' hk => exact objP_bnd hk
    ·
     exact PvB.zero _ _
  ·
   exact PvB.zero _ _
def runV (sum : Int → List UInt8 → Int) (fs : List FtV) (l : List UInt8) : Nat → Int → Vw → List PV → Except Int Vw
 | 0, _, _, _ => .error 0
 | f + 1, a, v, args =>
  if (tokP l a).2.2.2 = 26 then (wantV (decide ((args.length : Int) = 0) && decide ((v.saved.length : Int) = 0) && !v.inText) >>= fun _ => .ok v)
  else if (tokP l a).2.2.2 ≠ 0 then .error (tokP l a).2.2.2
  else if (tokP l a).2.1 = [] then (roomV (decide ((args.length : Int) < 32)) >>= fun _ => runV sum fs l f (tokP l a).2.2.1 v (args ++ [(tokP l a).1]))
  else (opV sum fs v args (tokP l a).2.1 >>= fun v1 => runV sum fs l f (tokP l a).2.2.1 v1 [])
theorem runV_snd {sum : Int → List UInt8 → Int} {fs : List FtV} {l : List UInt8} (hf : ∀ f ∈ fs, 0 ≤ f.font ∧ f.font ≤ 13) : ∀ (n : Nat) (a : Int) (v : Vw) (args : List PV) {v1 : Vw}, (∀ x ∈ args, PvB x) → SndV v → runV sum fs l n a v args = .ok v1 → SndV v1
 | 0, _, _, _, _, _, _, h => by cases h
 | n + 1, a, v, args, v1, hb, hs, h => by
  unfold runV at h
  split at h
  ·
   obtain ⟨-, -, h⟩ := bindE h
   cases h; exact hs
  ·
   split at h
   ·
    cases h
   ·
    split at h
    ·
     obtain ⟨-, -, h⟩ := bindE h
     refine runV_snd hf n _ v _ (fun x hx => ?_) hs h
     rcases List.mem_append.1 hx with hx | hx
     ·
      exact hb x hx
     ·
      rw [List.mem_singleton.1 hx]; exact tokP_bnd l a
    ·
     obtain ⟨v2, h2, h⟩ := bindE h
     exact runV_snd hf n _ v2 [] (fun x hx => by cases hx) (opV_snd hf (fun x hx => (hb x hx).1) hs h2) h
end
end Go.Proofs.YthmhfjeojkbpfaaGreatDoor
