/-
  What the claim leans on, part 3: pruned and joined by my own tool out of the texts that stand in wip/ as templates.
-/
import Derived.Test.YthmhfjeojkbpfaaGreatDoorVs2
namespace Go.Proofs.YthmhfjeojkbpfaaGreatDoor
open Go.RowKit
open Go.Proofs.Tryz
section
theorem detR_e (m : M6) : (detR m).1 ≤ 2147483647 ∧ -2147483648 ≤ (detR m).1 := by
 have := fitsI (subR_fits (mulR m.a m.d).1 (mulR m.b m.c).1)
 exact ⟨this.2, this.1⟩
theorem mat_Scale (m : M6) (w : World) : Calls Tryz.prog 147 #[.agg (m6V m).toArray] w fun r w' => r = .returned (pairI (scaleR m)) ∧ Below w.heap.size w w' := by
 have hd := detR_e m
 obtain ⟨d, a⟩ : ∃ d, d = detR m := ⟨_, rfl⟩
 have N : scaleR m = (if tookE (if d.1 < 0 then ((subR 0 d.1).1, tookE d.2 (subR 0 d.1).2) else d).2 (sqrtR (max (if d.1 < 0 then ((subR 0 d.1).1, tookE d.2 (subR 0 d.1).2) else d).1 0)).2 ≠ 0 then (0, tookE (if d.1 < 0 then ((subR 0 d.1).1, tookE d.2 (subR 0 d.1).2) else d).2 (sqrtR (max (if d.1 < 0 then ((subR 0 d.1).1, tookE d.2 (subR 0 d.1).2) else d).1 0)).2) else ((sqrtR (max (if d.1 < 0 then ((subR 0 d.1).1, tookE d.2 (subR 0 d.1).2) else d).1 0)).1, 0)) := by rw [a]; rfl
 rw [N]
 rw [← a] at hd
 refine W.e func147 rfl ntmps147 bL ?_
 have u := br_ (w.heap.size) w
 refine W.sr <| WL.box rfl rfl (fun b1 a2 v b D a0 => ?_)
 have x := uB u v D
 have X := bge v u.size
 refine WL.A rfl <| WL.Z rfl <| W.sr <| WL.al zeroValue216 rfl (fun c a3 f E g a1 => ?_)
 have P := bgl f b.lt
 have Q := b.un g P
 have y := uB x f g
 have Y := bge f x.size
 refine WL.e <| W.sr <| WL.R (Rd.ldA rfl Q u42_ rfl isz42) <| WL.c1 hB_ rfl rfl ((mat_det c m _ E)) (fun w7 B => ?_)
 have i := bt_ y (KeepB.below B.1 y.size (by simp <;> omega))
 have j := B.2
 rw [← a] at j
 rw [← a]
 refine WL.Z rfl <| W.cut (α := Int × Int) (fun t => [(4, .pointer (some ⟨c, 0, none⟩)), (5, .int .i64 t.1)]) (fun t w' => Below w.heap.size w w' ∧ Blk w' c (stC t.2) 216 ∧ t = (if d.1 < 0 then ((subR 0 d.1).1, tookE d.2 (subR 0 d.1).2) else d)) ?_ (fun t w1 hR => ?_)
 refine W.sr <| WL.M rfl <| WL.O (.lss rfl rfl) <| WL.e <| W.cond rfl (fun l => ?_) (fun l => ?_)
 have F := dT l
 refine W.reg <| WL.M rfl <| WL.c1 hB_ rfl rfl ((mat_sub c _ _ _ _ j)) (fun a4 n => ?_)
 have G := bt_ i (KeepB.below n.1 i.size (by simp <;> omega))
 have T := n.2
 refine WL.Z rfl ?_
 exact ⟨((subR 0 d.1).1, tookE d.2 (subR 0 d.1).2), ⟨rfl, rfl, tT⟩, G, T, (if_pos aS).symm⟩
 have F := dF l
 refine W.k ?_
 exact ⟨d, ⟨rfl, rfl, tT⟩, i, j, (if_neg aS).symm⟩
 obtain ⟨U, j2, j3⟩ := hR
 rw [← j3]
 have V : max t.1 0 = (if 0 > t.1 then 0 else t.1) := by split <;> omega
 obtain ⟨S, hS⟩ : ∃ S, S = sqrtR (if 0 > t.1 then 0 else t.1) := ⟨_, rfl⟩
 rw [V, ← hS]
 refine W.sr <| WL.M rfl <| WL.O (.max2 rfl rfl) <| WL.c1 hB_ rfl rfl ((fix_Sqrt _ _)) (fun a5 H => ?_)
 obtain rfl := H
 rw [← hS]
 simp only [pairI]
 refine WL.O (.ext rfl rfl) <| WL.O (.ext rfl rfl) <| WL.c1 hB_ rfl rfl ((mat_took c _ _ _ _ j2)) (fun a6 o => ?_)
 have q := bt_ U (KeepB.below o.1 U.size (by simp <;> omega))
 have C := o.2
 refine WL.Z rfl <| W.seq <| W.sr <| WL.O (.fa u216_ rfl s30_ dD rfl) <| WL.R (Rd.ld (g30_ _) rfl C rfl) <| WL.O (.neq rfl rfl) <| WL.e <| W.cond rfl (fun s => ?_) (fun s => ?_)
 have J := ndT s
 refine W.seq <| W.regQ mixed kR <| WQ.p (.fa u216_ rfl s30_ dD rfl) rfl <| WQ.r (fun m => Rd.ld (g30_ _) rfl C rfl) rfl <| WQ.p (.as rfl) rfl <| WQ.p (.as rfl) rfl <| WQ.nil (fun a7 K => ?_)
 have L := Drew.below q K
 refine W.ret (W.ret2 rfl rfl rfl ?_)
 exact ⟨fx_val (by rw [if_pos aS]; (first | done | rfl)), L⟩
 have J := ndF s
 refine W.k <| W.sr <| WL.M rfl <| WL.A rfl <| WL.Z rfl <| W.ret (W.ret2 rfl rfl rfl ?_)
 exact ⟨fx_val (by rw [if_neg (fun h => h aS)]; (first | done | rfl)), q⟩
end
section
open Go.RowKit Go.WideShapes Go.ChangeShapes
section
variable {P : Program} {f : Fr}
theorem Pure.s2a {x : Operand} {arr e : TypeId} {m len c : Nat} {p : Option Addr} (hu : P.underlying arr = some (.array m e)) (hx : evo f x = some (.slice p len c)) (hl : m ≤ len) : Pure P (.sliceToArrayPointer arr x) f (.pointer p) := fun ρ hρ d ty' pos aft g w => by
 simp [execOp, hρ _ _ hx, Instr.arrayAt, run_underlying hu, Nat.not_lt.2 hl]
end
theorem Rd.ldR {α β : Type} {P : Program} {f : Fr} {L : Lay α} {L' : Lay β} {t : TypeId} {x : Operand} {p : Option Addr} {l : List α} {w : World} {dd : TypeDesc} (hu : P.underlying t = some dd) (hdd : dd.isRow = true) (hi : (P.info? t).map (·.size) = some L'.m) (hr : RowM L w p l) (y : β)
  (e : L.flat l = L'.V y) (hl : 0 < l.length) (hx : evo f x = some (.pointer p)) : Rd P (.load t x) f w (.agg (L'.V y).toArray) := by
 have hp := hr.isp hl
 have hr' : RowM L' w p [y] := by
  refine RowM.of_flat (fun _ => hp) fun k v hk => ?_
  have hk' : (L'.V y)[k]? = some v := by simpa [Lay.flat] using hk
  exact hr.flat k v (by rw [e]; exact hk')
 exact Rd.ldS (P := P) (f := f) (x := x) hu hdd hi hr' 0 (by simp) (by rw [hx, hp]; show _ = some (Value.pointer (some ((pA (some (pA p))).add (0 * L'.m)))); rw [Nat.zero_mul, add_zero_addr]; rfl)
end
section
def pthC (m : Int) (v : Value) (s n : PointV) : Array Value := #[.int .i64 m, v, .int .i64 s.fX, .int .i64 s.fY, .int .i64 n.fX, .int .i64 n.fY]
theorem lastG_at {l : List SegV} (h : 0 < l.length) : lastG l = (l[l.length - 1]'oO).fKind := by
 unfold lastG
 rw [List.getLast?_eq_getElem?, List.getElem?_eq_getElem oO]
theorem pth_last (bp : Nat) (m : Int) (p : Option Addr) (c : Nat) (P : PathP) (w : World) (h : Blk w bp (pthC m (.slice p P.list.length c) P.start P.now) 97) (hr : RowM segL w p P.list) (hl : P.list.length ≤ 1000000) :
  Calls Tryz.prog 105 #[.pointer (some ⟨bp, 0, none⟩)] w fun r w' => r = .returned (.int .i64 (lastG P.list)) ∧ Below w.heap.size w w' := by
 refine W.e func105 rfl ntmps105 bL ?_
 have f := br_ (w.heap.size) w
 refine W.sr <| WL.Z rfl <| W.seq <| W.sr <| WL.M rfl <| WL.O (.nck rfl) <| WL.O (.fa u97_ rfl s34_ dD rfl) <| WL.R (Rd.ld (g34_ _) rfl h rfl) <| WL.O (.lenS u34_ rfl) <| WL.O (.eql rfl rfl) <| WL.e <| W.cond rfl (fun g => ?_) (fun g => ?_)
 have i := dT g
 refine W.sr <| WL.Z rfl <| W.ret (W.r1 rfl rfl ?_)
 exact ⟨fx_val (by rw [List.eq_nil_of_length_eq_zero (l := P.list) oO]; rfl), f⟩
 have i := dF g
 have n : 0 < P.list.length := by omega
 have hk := lastG_at n
 refine W.k <| W.seq <| W.regH 14 rfl mixed (fun w' => w'.heap[bp]? = w.heap[bp]? ∧ RowM segL w' p P.list ∧ True) (fun o d => ?_)
 have b := h.drew d
 have a := hr.drew d
 have j := Drew.below f d
 refine WH.tp 0 rfl (.mv rfl) ⟨(b).trans (h).symm, a, tT⟩ rfl ?_
 refine WH.tp 1 rfl (.nck rfl) ⟨(b).trans (h).symm, a, tT⟩ rfl ?_
 refine WH.tp 2 rfl (.fa u97_ rfl s34_ dD rfl) ⟨(b).trans (h).symm, a, tT⟩ rfl ?_
 refine WH.tk 3 rfl (fun w' hw' => Rd.ld (g34_ _) rfl ((hw'.1).trans h) rfl) ⟨(b).trans (h).symm, a, tT⟩ rfl ?_
 refine WH.tp 4 rfl (.mv rfl) ⟨(b).trans (h).symm, a, tT⟩ rfl ?_
 refine WH.tp 5 rfl (.nck rfl) ⟨(b).trans (h).symm, a, tT⟩ rfl ?_
 refine WH.tp 6 rfl (.fa u97_ rfl s34_ dD rfl) ⟨(b).trans (h).symm, a, tT⟩ rfl ?_
 refine WH.tk 7 rfl (fun w' hw' => Rd.ld (g34_ _) rfl ((hw'.1).trans h) rfl) ⟨(b).trans (h).symm, a, tT⟩ rfl ?_
 refine WH.tp 8 rfl (.lenS u34_ rfl) ⟨(b).trans (h).symm, a, tT⟩ rfl ?_
 refine WH.tp 9 rfl (.sub rfl rfl (i64w oO)) ⟨(b).trans (h).symm, a, tT⟩ rfl ?_
 refine WH.tp 10 rfl (.ixm u34_ s94_ rfl rfl (a.isp (by first | omega | (simp only [List.length_cons, List.length_nil]; omega))) ((P.list.length - 1)) oO oO) ⟨(b).trans (h).symm, a, tT⟩ rfl ?_
 refine WH.tp 11 rfl (.fa u94_ rfl s3_ dD rfl) ⟨(b).trans (h).symm, a, tT⟩ rfl ?_
 refine WH.tk 12 rfl (fun w' hw' => Rd.ldc (g3_ _) rfl (((hw'.2.1).field ((P.list.length - 1)) (by first | omega | (simp only [List.length_cons, List.length_nil]; omega)) 0 dD).trans rfl)) ⟨(b).trans (h).symm, a, tT⟩ rfl ?_
 refine WH.tp 13 rfl (.as rfl) ⟨(b).trans (h).symm, a, tT⟩ rfl ?_
 refine WH.done kR <| W.ret (W.r1 rfl rfl ?_)
 exact ⟨fx_val (by rw [hk]), j⟩
theorem blk_sep {α : Type} {L : Lay α} {e t : TypeId} {B b : Nat} {w : World} {v : Value} {l : List α} {cs : Array Value} (h : OwnM L e B w v l) (hb : Blk w b cs t) (he : e ≠ t) : ∀ g, v.ownBlock = some g → g ≠ b := fun g hg hgb => by
 rcases h with ⟨rfl, -⟩ | ⟨g1, cap, cur, rfl, -, h1, -⟩
 ·
  cases hg
 ·
  cases hg
  have hgb : g1 = b := hgb
  rw [hgb, show w.heap[b]? = _ from hb] at h1
  simp only [Option.some.injEq, Obj.cells.injEq] at h1
  exact he h1.2.1.symm
def vb (v : Value) (b : Nat) : Nat := v.ownBlock.getD b
structure PthAt (B : Nat) (w : World) (bp : Nat) (m : Int) (P : PathP) (v : Value) : Prop where
 blk : Blk w bp (pthC m v P.start P.now) 97
 own : OwnM segL 94 B w v P.list
 len : (P.list.length : Int) ≤ m ∧ m ≤ 1000000
 base : B ≤ w.heap.size
theorem PthAt.sep {B bp : Nat} {w : World} {m : Int} {P : PathP} {v : Value} (h : PthAt B w bp m P v) : ∀ g, v.ownBlock = some g → g ≠ bp := blk_sep h.own h.blk dD
def Grew (w : World) (v v' : Value) : Prop := ∀ g, v'.ownBlock = some g → v.ownBlock = some g ∨ w.heap.size ≤ g
theorem Grew.refl (w : World) (v : Value) : Grew w v v := fun _ h => .inl h
theorem Grew.mono {w w1 : World} {v v' : Value} (h : ∀ g, v'.ownBlock = some g → v.ownBlock = some g ∨ w1.heap.size ≤ g) (hs : w.heap.size ≤ w1.heap.size) : Grew w v v' := fun g hg => (h g hg).imp id fun h => nt_ hs h
theorem Grew.sep {w : World} {v v' : Value} {b : Nat} (h : Grew w v v') (hs : ∀ g, v.ownBlock = some g → g ≠ b) (hb : b < w.heap.size) : ∀ g, v'.ownBlock = some g → g ≠ b := fun g hg => by
 rcases h g hg with h | h
 ·
  exact hs g h
 ·
  omega
def PthR (B : Nat) (w : World) (bp : Nat) (m : Int) (v : Value) (r : PathP × Int) (e : Ending) (w' : World) : Prop :=
 e = .returned (.int .i64 r.2) ∧ KeepB w.heap.size [bp, vb v bp] w w' ∧ ∃ v', PthAt B w' bp m r.1 v' ∧ Grew w v v'
theorem inf94 : (Tryz.prog.info? 94).map (fun i => (i.zero, i.size, i.bytes)) = some (some (.agg (segV ⟨0, pt0, pt0, pt0⟩).toArray), 7, 56) := by kernel_rfl
theorem pth_add (B bp : Nat) (m : Int) (v : Value) (P : PathP) (t : PointV) (q : Option Addr) (l : List SegV) (c : Nat) (w : World) (h : PthAt B w bp m P v) (hr : RowM segL w q l) (hl : l.length ≤ 10) (hc : l = [] → c = 0 ∨ q ≠ none) :
  Calls Tryz.prog 106 #[.pointer (some ⟨bp, 0, none⟩), .agg (pointV t).toArray, .slice q l.length c] w (PthR B w bp m v (pAdd m P t l)) := by
 have D := h.sep
 obtain ⟨t0, ah⟩ : ∃ x, x = t := ⟨t, rfl⟩
 subst ah
 obtain ⟨F, E, a1, a2⟩ := h
 have K := E.lt
 obtain ⟨p, cc, rfl, -, -, -, -⟩ := E.row
 refine W.e func106 rfl ntmps106 bL ?_
 have Y := KeepB.refl w.heap.size ([bp, vb (.slice p P.list.length cc) bp]) w
 refine W.sr <| WL.box rfl rfl (fun b1 ai G a3 i ar => ?_)
 have a4 := nt_ a2 i.size
 have aj := on_ E G i
 have ak := bgl G F.lt
 have H := F.un i ak
 have a5 := fun h0 => G ▸ hr.lt h0
 have al := RowM.upd hr i (fun h0 => nn_ (a5 h0))
 have Q := bge G Y.size
 have am := kt_ Y (kn_ i Q)
 refine WL.Z rfl <| W.seq <| W.seq <| W.regH 13 rfl mixed (fun w' => w'.heap[bp]? = ai.heap[bp]? ∧ True) (fun w9 j => ?_)
 have n := Drew.le a4 j
 have L := OwnM.drew aj j
 have s := H.drew j
 have a6 := a3.drew j
 have a7 := al.drew j
 have f := kt_ am (kd_ j)
 have a := And.intro (s.trans H.symm) True.intro
 refine WH.tp 0 rfl (.mv rfl) a rfl ?_
 refine WH.tp 1 rfl (.nck rfl) a rfl ?_
 refine WH.tp 2 rfl (.fa u97_ rfl s34_ dD rfl) a rfl ?_
 refine WH.tk 3 rfl (fun w' hw' => Rd.ld (g34_ _) rfl ((hw'.1).trans H) rfl) a rfl ?_
 refine WH.tp 4 rfl (.lenS u34_ rfl) a rfl ?_
 refine WH.tp 5 rfl (.mv rfl) a rfl ?_
 refine WH.tp 6 rfl (.lenS u34_ rfl) a rfl ?_
 refine WH.tp 7 rfl (.add rfl rfl (i64w oO)) a rfl ?_
 refine WH.tp 8 rfl (.mv rfl) a rfl ?_
 refine WH.tp 9 rfl (.nck rfl) a rfl ?_
 refine WH.tp 10 rfl (.fa u97_ rfl s3_ dD rfl) a rfl ?_
 refine WH.tk 11 rfl (fun w' hw' => Rd.ld (g3_ _) rfl ((hw'.1).trans H) rfl) a rfl ?_
 refine WH.tp 12 rfl (.gtr rfl rfl) a rfl ?_
 refine WH.done kR <| W.cond rfl (fun N => ?_) (fun N => ?_)
 have a8 := dT N
 refine W.sr <| WL.Z rfl <| W.ret (W.r1 rfl rfl ?_)
 exact ⟨fx_val (by unfold pAdd; rw [if_pos oO]), f, _, ⟨by unfold pAdd; rw [if_pos oO]; exact s, by unfold pAdd; rw [if_pos oO]; exact L, by unfold pAdd; rw [if_pos oO]; exact a1, n⟩, Grew.refl _ _⟩
 have a8 := dF N
 refine W.k <| W.sr <| WL.M rfl <| WL.M rfl <| WL.O (.nck rfl) <| WL.O (.fa u97_ rfl s34_ dD rfl) <| WL.R (Rd.ld (g34_ _) rfl s rfl) <| WL.M rfl <| WL.appM u34_ inf94 rfl rfl rfl L rfl a7 oO (n) rfl (hc) (fun a0 au J T u y => ?_)
 have a9 := s.grown u (fun e => D _ e rfl)
 have aa := a6.grown u (fun e => by have := K _ e; omega)
 have ab := kt_ f (KeepB.of_grown u (fun g hg => .inl (by have hg : (Value.slice p P.list.length cc).ownBlock = some g := hg; unfold vb; rw [hg]; simp)) f.size)
 have U := nt_ n T.size
 refine WL.O (.nck rfl) <| WL.O (.fa u97_ rfl s34_ dD rfl) <| WL.stC (o := 1) ((pthC m a0 P.start P.now)) s34_ rfl (rfl) rfl ((J).one) a9 bL (rfl) (fun an A b ap => ?_)
 have A : Blk an bp _ _ := A
 have b : Upd bp _ _ := b
 have V := nt_ U b.size
 have ac := ou_ J b (fun g hg => Grew.sep (Grew.mono y f.size) D F.lt g hg)
 have ad := aa.up b
 have ae := kU ab b
 refine WL.e <| W.sr <| WL.M rfl <| WL.R (Rd.ldA rfl ad u57_ rfl isz57) <| WL.O (.nck rfl) <| WL.O (.fa u97_ rfl s57_ dD rfl) <| WL.stB (o := 4) ((pthC m a0 P.start t0)) rfl (rfl) rfl A isz57 rfl bL (rfl) (fun ao C d aq => ?_)
 have C : Blk ao bp _ _ := C
 have d : Upd bp _ _ := d
 have X := nt_ V d.size
 have af := ou_ ac d (fun g hg => Grew.sep (Grew.mono y f.size) D F.lt g hg)
 have ag := kU ae d
 refine WL.e <| W.sr <| WL.Z rfl <| W.ret (W.r1 rfl rfl ?_)
 exact ⟨fx_val (by unfold pAdd; rw [if_neg oO]), ag, _, ⟨by unfold pAdd; rw [if_neg oO]; exact C, by unfold pAdd; rw [if_neg oO]; exact af, by unfold pAdd; rw [if_neg oO]; simp only [List.length_append]; omega, X⟩, Grew.mono y f.size⟩
end
section
theorem set_last {α : Type} (l : List α) (x : α) (h : 0 < l.length) : l.set (l.length - 1) x = l.dropLast ++ [x] := by
 rcases List.eq_nil_or_concat l with rfl | ⟨m, y, rfl⟩
 ·
  simp at h
 ·
  simp [List.concat_eq_append]
theorem blt92 : Tryz.prog.built 92 = fun parts => Instr.fill (fun i => some (i * 2, 2)) #[.int .i64 0, .int .i64 0, .int .i64 0, .int .i64 0, .int .i64 0, .int .i64 0] parts := by kernel_rfl
theorem blS : Tryz.prog.built 94 = fun parts => Instr.fill (([(0, 1), (1, 6)] : List (Nat × Nat)).toArray[·]?) #[.int .i64 0, .int .i64 0, .int .i64 0, .int .i64 0, .int .i64 0, .int .i64 0, .int .i64 0] parts := by kernel_rfl
def pts3 (a b c : PointV) : Array Value := #[.int .i64 a.fX, .int .i64 a.fY, .int .i64 b.fX, .int .i64 b.fY, .int .i64 c.fX, .int .i64 c.fY]
theorem lastG_pos {l : List SegV} (h : lastG l ≠ 0) : 0 < l.length := by
 rcases Nat.eq_zero_or_pos l.length with a | a
 ·
  rw [List.eq_nil_of_length_eq_zero a] at h; exact ab_ rfl h
 ·
  exact a
theorem vb_lt {B b : Nat} {w : World} {v : Value} {l : List SegV} {e : TypeId} (h : OwnM segL e B w v l) (hb : b < w.heap.size) : vb v b < w.heap.size := by
 unfold vb
 cases hv : v.ownBlock with
 | none => exact hb
 | some g => exact (h.lt g hv).2
theorem pth_Move (B bp : Nat) (m : Int) (v : Value) (P : PathP) (a : PointV) (w : World) (h : PthAt B w bp m P v) :
  Calls Tryz.prog 76 #[.pointer (some ⟨bp, 0, none⟩), .agg (pointV a).toArray] w (PthR B w bp m v (pMove m P a)) := by
 have V := h.sep
 have hP := h
 obtain ⟨aq, X, ar, bu⟩ := h
 have E := X.lt
 have aK := aq.lt
 have ct := vb_lt X aK
 obtain ⟨p, cc, rfl, -, -, -, -⟩ := X.row
 refine W.e func76 rfl ntmps76 bL ?_
 have bh := KeepB.refl w.heap.size ([bp, vb (.slice p P.list.length cc) bp]) w
 refine W.sr <| WL.box rfl rfl (fun b1 cA au a8 Y cu => ?_)
 have bv := nt_ bu Y.size
 have c2 := on_ X au Y
 have c3 := bgl au aq.lt
 have bi := aq.un Y c3
 have aL := bge au bh.size
 have bj := kt_ bh (kn_ Y aL)
 refine WL.Z rfl <| W.seq <| W.b <| W.sr <| WL.M rfl <| WL.O (.bis (false) (.eqP u69_ rfl) (by rfl)) <| WL.Z rfl <| W.condF rfl rfl <| W.sr <| WL.R (Rd.ldA rfl a8 u57_ rfl isz57) <| WL.bslM (L := pointL) (ps := _) ([a]) u133_ s57_ z57_ rfl rfl rfl rfl rfl (by first | rfl | decide) rfl rfl (fun b7 c4 af bw Q cv => ?_)
 have bx := nt_ bv Q.size
 have c5 := on_ c2 af Q
 have bz := bgl af bi.lt
 have bA := bi.un Q bz
 have bB := bgl af a8.lt
 have bC := a8.un Q bB
 have aM := bge af bj.size
 have bD := kt_ bj (kn_ Q aM)
 have aN : b7 ≤ c4.heap.size := by omega
 refine WL.c1 hB_ rfl rfl ((path_fits _ [a] 1 _ (bw).rowp (by simp))) (fun cB J => ?_)
 have ag := nt_ bx J.size
 have av := OwnM.below c5 J
 have aO := nt_ aN J.size
 have a9 := bA.bl J
 have aa := bC.bl J
 have ab := kB bD J
 refine WL.O (.not rfl) <| WL.Z rfl <| W.cond rfl (fun aw => ?_) (fun aw => ?_)
 have bE := (nT aw)
 have x : fitsP a = false := by simpa using (show ([a].all fitsP) = false by assumption)
 refine W.sr <| WL.Z rfl <| W.ret (W.r1 rfl rfl ?_)
 exact ⟨fx_val (by unfold pMove; rw [if_pos x]), ab, _, ⟨by unfold pMove; rw [if_pos x]; exact a9, by unfold pMove; rw [if_pos x]; exact av, by unfold pMove; rw [if_pos x]; exact ar, ag⟩, Grew.refl _ _⟩
 have bE := (nF aw)
 have x : fitsP a = true := by simpa using (show ([a].all fitsP) = true by assumption)
 refine W.k <| W.sr <| WL.R (Rd.ldA rfl aa u57_ rfl isz57) <| ?_
 refine WL.O (.build (cs := pts3 a pt0 pt0) rfl (by rw [blt92]; rfl)) ?_
 refine WL.O (.build (cs := (segV (sg1 1 a)).toArray) rfl (by rw [blS]; rfl)) ?_
 refine WL.al z94_ rfl (fun bk cw a0 aP y cl => ?_)
 have aQ := nt_ ag y.size
 have bG := on_ av a0 y
 have aR := nt_ aO y.size
 have bH := bgl a0 a9.lt
 have bI := a9.un y bH
 have bJ := bgl a0 aa.lt
 have bK := aa.un y bJ
 have ax := bge a0 ab.size
 have bM := kt_ ab (kn_ y ax)
 refine WL.stL rfl rfl aP isz94 rfl rfl (fun cC aT s cm => ?_)
 have aU := nt_ aQ s.size
 have ay := ou_ bG s (fun g hg e => by first | (exact V g hg e) | (have := E g hg; omega))
 have aV := nt_ aR s.size
 have az := bI.up s
 have bN := bK.up s
 have bO := kt_ bM (by first | exact kn_ s oO | exact km_ s F | exact km_ s (by simp))
 refine WL.e <| W.seq <| W.sr <| WL.M rfl <| WL.c1 hB_ rfl rfl ((pth_last bp m p cc P _ az (ay).rowp oO)) (fun bm C => ?_)
 have ah := nt_ aU C.size
 have ac := OwnM.below ay C
 have ai := nt_ aV C.size
 have c := az.bl C
 have a1 := bN.bl C
 have d := aT.bl C
 have ad := kB bO C
 refine WL.O (.eql rfl rfl) <| WL.e <| W.cond rfl (fun aA => ?_) (fun aA => ?_)
 have bP := dT aA
 have h0 := lastG_pos (l := P.list) oO
 have c6 := (ac).rowp.isp h0
 refine W.seq <| W.regH 13 rfl mixed (fun w' => w'.heap[bp]? = bm.heap[bp]? ∧ w'.heap[bk]? = bm.heap[bk]? ∧ True) (fun cD D => ?_)
 have aW := Drew.le ah D
 have aB := OwnM.drew ac D
 have aX := Drew.le ai D
 have f := c.drew D
 have bQ := a1.drew D
 have i := d.drew D
 have bR := kt_ ad (kd_ D)
 refine WH.tp 0 rfl (.mv rfl) ⟨(f).trans (c).symm, (i).trans (d).symm, tT⟩ rfl ?_
 refine WH.tp 1 rfl (.nck rfl) ⟨(f).trans (c).symm, (i).trans (d).symm, tT⟩ rfl ?_
 refine WH.tp 2 rfl (.fa u97_ rfl s34_ dD rfl) ⟨(f).trans (c).symm, (i).trans (d).symm, tT⟩ rfl ?_
 refine WH.tk 3 rfl (fun w' hw' => Rd.ld (g34_ _) rfl ((hw'.1).trans c) rfl) ⟨(f).trans (c).symm, (i).trans (d).symm, tT⟩ rfl ?_
 refine WH.tp 4 rfl (.mv rfl) ⟨(f).trans (c).symm, (i).trans (d).symm, tT⟩ rfl ?_
 refine WH.tp 5 rfl (.nck rfl) ⟨(f).trans (c).symm, (i).trans (d).symm, tT⟩ rfl ?_
 refine WH.tp 6 rfl (.fa u97_ rfl s34_ dD rfl) ⟨(f).trans (c).symm, (i).trans (d).symm, tT⟩ rfl ?_
 refine WH.tk 7 rfl (fun w' hw' => Rd.ld (g34_ _) rfl ((hw'.1).trans c) rfl) ⟨(f).trans (c).symm, (i).trans (d).symm, tT⟩ rfl ?_
 refine WH.tp 8 rfl (.lenS u34_ rfl) ⟨(f).trans (c).symm, (i).trans (d).symm, tT⟩ rfl ?_
 refine WH.tp 9 rfl (.sub rfl rfl (i64w oO)) ⟨(f).trans (c).symm, (i).trans (d).symm, tT⟩ rfl ?_
 refine WH.tk 10 rfl (fun w' hw' => Rd.ldA rfl ((hw'.2.1).trans d) u94_ rfl isz94) ⟨(f).trans (c).symm, (i).trans (d).symm, tT⟩ rfl ?_
 refine WH.tp 11 rfl (.ixm u34_ s94_ rfl rfl c6 (P.list.length - 1) oO oO) ⟨(f).trans (c).symm, (i).trans (d).symm, tT⟩ rfl ?_
 refine WH.br1 12 rfl <| WL.stM (L := segL) (sg1 1 a) (P.list.length - 1) aB oO isz94 rfl rfl rfl (fun c7 aj G t aY => ?_)
 have c8 := (aB).lt aj (by rw [G]; rfl)
 have cE := V aj (by rw [G]; rfl)
 have cy := (E aj (by rw [G]; rfl)).2
 have F : aj ∈ [bp, vb (.slice p P.list.length cc) bp] := by rw [G]; exact List.mem_cons_of_mem _ (List.mem_singleton.2 rfl)
 have aZ := nt_ aX t.size
 have aC := f.up t
 have K := bQ.up t
 have bS := i.up t
 have bT := kt_ bR (by first | exact kn_ t oO | exact km_ t F | exact km_ t (by simp))
 have a' := nt_ aW t.size
 refine WL.e <| ⟨⟨(aC).trans (c).symm, (bS).trans (d).symm, tT⟩, ?_⟩
 refine WH.done kR <| W.seq <| W.regH 10 rfl mixed (fun w' => w'.heap[b1]? = c7.heap[b1]? ∧ True) (fun cF N => ?_)
 have b0 := Drew.le aZ N
 have b2 := Drew.le a' N
 have bU := OwnM.drew aY N
 have bV := aC.drew N
 have aD := K.drew N
 have bW := kt_ bT (kd_ N)
 have U := And.intro (aD.trans K.symm) True.intro
 refine WH.tp 0 rfl (.mv rfl) U rfl ?_
 refine WH.tp 1 rfl (.mv rfl) U rfl ?_
 refine WH.tk 2 rfl (fun w' hw' => Rd.ldA rfl ((hw'.1).trans K) u57_ rfl isz57) U rfl ?_
 refine WH.tk 3 rfl (fun w' hw' => Rd.ldA rfl ((hw'.1).trans K) u57_ rfl isz57) U rfl ?_
 refine WH.tp 4 rfl (.nck rfl) U rfl ?_
 refine WH.tp 5 rfl (.fa u97_ rfl s57_ dD rfl) U rfl ?_
 refine WH.br1 6 rfl <| WL.stB (o := 2) ((pthC m (.slice p P.list.length cc) a P.now)) rfl (rfl) rfl bV isz57 rfl bL (rfl) (fun c9 a2 j cn => ?_)
 have a2 : Blk c9 bp _ _ := a2
 have j : Upd bp _ _ := j
 have b3 := nt_ b0 j.size
 have b4 := nt_ b2 j.size
 have bX := ou_ bU j (fun g hg e => by first | (exact V g hg e) | (have := E g hg; omega))
 have aE := aD.up j
 have bY := kt_ bW (by first | exact kn_ j oO | exact km_ j F | exact km_ j (by simp))
 refine WL.e <| ?_
 have aF := And.intro (aE.trans K.symm) True.intro
 refine ⟨aF, ?_⟩
 refine WH.tp 7 rfl (.nck rfl) aF rfl ?_
 refine WH.tp 8 rfl (.fa u97_ rfl s57_ dD rfl) aF rfl ?_
 refine WH.br1 9 rfl <| WL.stB (o := 4) ((pthC m (.slice p P.list.length cc) a a)) rfl (rfl) rfl a2 isz57 rfl bL (rfl) (fun ca a3 n co => ?_)
 have a3 : Blk ca bp _ _ := a3
 have n : Upd bp _ _ := n
 have cq := nt_ b3 n.size
 have aG := nt_ b4 n.size
 have bZ := ou_ bX n (fun g hg e => by first | (exact V g hg e) | (have := E g hg; omega))
 have b5 := aE.up n
 have b6 := kt_ bY (by first | exact kn_ n oO | exact km_ n F | exact km_ n (by simp))
 refine WL.e <| ⟨⟨(b5).trans (K).symm, tT⟩, ?_⟩
 refine WH.done kR <| W.sr <| WL.Z rfl <| W.ret (W.r1 rfl rfl ?_)
 have a5 : pMove m P a = (⟨P.list.dropLast ++ [sg1 1 a], a, a⟩, 0) := by unfold pMove; rw [if_neg (by rw [x]; decide), if_pos aS]
 rw [a5]
 exact ⟨rfl, b6, _, ⟨a3, by rw [← set_last _ _ h0]; exact bZ, by simp only [List.length_append, List.length_dropLast, List.length_singleton]; omega, aG⟩, Grew.refl _ _⟩
 have bP := dF aA
 refine W.k <| W.sr <| WL.M rfl <| WL.R (Rd.ldA rfl a1 u57_ rfl isz57) <| WL.R (Rd.ldA rfl d u94_ rfl isz94) <| WL.bslM (L := segL) (ps := _) ([sg1 1 a]) u34_ s94_ z94_ rfl rfl rfl rfl rfl (by first | rfl | decide) rfl rfl (fun b' b8 H aH u cb => ?_)
 have a6 := nt_ ah u.size
 have b9 := on_ ac H u
 have aI := nt_ ai u.size
 have ba := bgl H c.lt
 have bb := c.un u ba
 have bc := bgl H a1.lt
 have ak := a1.un u bc
 have cr := bgl H d.lt
 have ao := bge H ad.size
 have a4 := kt_ ad (kn_ u ao)
 have ap : b' ≤ b8.heap.size := by omega
 refine WL.c1 hB_ rfl rfl ((pth_add B bp m _ P a _ [sg1 1 a] 1 _ ⟨bb, b9, ar, a6⟩ (aH).rowp (by simp) (fun h => by simp at h))) (fun cz A => ?_)
 have cd := nt_ a6 A.1.size
 have cf := nt_ aI A.1.size
 have cg := nt_ ap A.1.size
 have bd := Blk.keepB ak A.1 ak.lt (by simp only [List.mem_cons, List.not_mem_nil, or_false, not_or, not_false_eq_true]; omega)
 have am := kt_ a4 (KeepB.wide A.1 a4.size (by simp <;> omega))
 obtain ⟨v1, a7, ci⟩ := A.2
 have bn := a7.blk
 have bo := a7.own
 have an := a7.base
 have bq := Grew.mono ci a4.size
 have cj := a7.sep
 have bt := a7.len
 refine WL.Z rfl <| W.seq <| W.sr <| WL.M rfl <| WL.O (.eql rfl rfl) <| WL.e <| W.cond rfl (fun ae => ?_) (fun ae => ?_)
 have be := dT ae
 refine W.reg <| WL.M rfl <| WL.R (Rd.ldA rfl bd u57_ rfl isz57) <| WL.O (.nck rfl) <| WL.O (.fa u97_ rfl s57_ dD rfl) <| WL.stB (o := 2) ((pthC m v1 a (pAdd m P a [sg1 1 a]).1.now)) rfl (rfl) rfl bn isz57 rfl bL (rfl) (fun c0 T q ck => ?_)
 have T : Blk c0 bp _ _ := T
 have q : Upd bp _ _ := q
 have aJ := nt_ an q.size
 have bf := ou_ bo q (cj)
 have bg := kt_ am (by first | exact kn_ q oO | exact km_ q F | exact km_ q (by simp))
 refine WL.e <| W.sr <| WL.M rfl <| WL.Z rfl <| W.ret (W.r1 rfl rfl ?_)
 have a5 : pMove m P a = ({ (pAdd m P a [sg1 1 a]).1 with start := a }, (pAdd m P a [sg1 1 a]).2) := by unfold pMove; rw [if_neg (by rw [x]; decide), if_neg aS, if_pos aS]
 rw [a5]
 exact ⟨rfl, bg, _, ⟨T, bf, bt, aJ⟩, bq⟩
 have be := dF ae
 refine W.k <| W.sr <| WL.M rfl <| WL.Z rfl <| W.ret (W.r1 rfl rfl ?_)
 have a5 : pMove m P a = ((pAdd m P a [sg1 1 a]).1, (pAdd m P a [sg1 1 a]).2) := by unfold pMove; rw [if_neg (by rw [x]; decide), if_neg aS, if_neg aS]
 rw [a5]
 exact ⟨rfl, am, _, ⟨bn, bo, bt, an⟩, bq⟩
end
section
set_option maxHeartbeats 6400000 in
theorem pth_draw (B bp : Nat) (m : Int) (v : Value) (P : PathP) (s : SegV) (q : PointV) (w : World) (h : PthAt B w bp m P v) :
    Calls Tryz.prog 109 #[.pointer (some ⟨bp, 0, none⟩), .agg (segV s).toArray, .agg (pointV q).toArray] w (PthR B w bp m v (pDraw m P s q)) := by
  have de := h.sep; obtain ⟨aO, a7, o, bV⟩ := h; have cz := a7.lt; have b9 := aO.lt; have df := vb_lt a7 b9; obtain ⟨p, cc, rfl, -, -, -, -⟩ := a7.row; refine W.e func109 rfl ntmps109 bL ?_; have bR := KeepB.refl w.heap.size ([bp, vb (.slice p P.list.length cc) bp]) w; refine W.sr <| WL.box rfl rfl (fun b1 dw aP aQ a8 dg => ?_); have bW := nt_ bV a8.size; have cA := on_ a7 aP a8; have cB := bgl aP aO.lt; have bS := aO.un a8 cB; have ba := bge aP bR.size; have bT := kt_ bR (kn_ a8 ba); refine WL.box rfl rfl (fun b7 dx az bX a2 dh => ?_); have bY := nt_ bW a2.size; have bU := on_ cA az a2; have bZ := bgl az bS.lt; have aR := bS.un a2 bZ; have b' := bgl az aQ.lt; have c0 := aQ.un a2 b'; have bb := bge az bT.size; have c2 := kt_ bT (kn_ a2 bb); refine WL.Z rfl <| W.seq <| W.sr <| WL.M rfl <| WL.c1 hB_ rfl rfl ((pth_last bp m p cc P _ aR (bU).rowp oO)) (fun dy J => ?_); have a9 := nt_ bY J.size; have aq := OwnM.below bU J; have aa := aR.bl J; have ar := c0.bl J; have au := bX.bl J; have ab := kB c2 J; refine WL.e <| W.b <| W.sr <| WL.O (.eql rfl rfl) <| WL.Z rfl <| W.cond rfl (fun aT => ?_) (fun aT => ?_)
  · have c3 := dT aT
    refine W.sr <| WL.Z rfl <| W.ret (W.r1 rfl rfl ?_)
    (have f : pDraw m P s q = (P, 10) := if_pos aS
     rw [f]; exact ⟨rfl, ab, _, ⟨aa, aq, o, a9⟩, Grew.refl _ _⟩)
  have c3 := dF aT; refine W.sr <| WL.O (.eql rfl rfl) <| WL.Z rfl <| W.cond rfl (fun aU => ?_) (fun aU => ?_)
  · have c4 := dT aU
    refine W.seq <| W.regY 12 rfl mixed (fun dz K => ?_); have n := Drew.le a9 K; have t := OwnM.drew aq K; have a := aa.drew K; have g := ar.drew K; have d := au.drew K; have c := kt_ ab (kd_ K); refine WY.tk 0 rfl (.mv rfl) rfl <| WY.tk 2 rfl (.mv rfl) rfl <| WY.tk 3 rfl (.nck rfl) rfl <| WY.tk 4 rfl (.fa u97_ rfl s57_ dD rfl) rfl <| WY.br [1, 5, 8] kR rfl ⟨⟨_, rfl, ?_⟩, ⟨_, rfl, ?_⟩, ⟨_, rfl, ?_⟩, tT⟩; refine WL.R (Rd.ldA rfl d u57_ rfl isz57) <| WL.e <| WY.br2 5 rfl 8 rfl ?_ ?_; refine WL.R (Rd.ldF (L := pointL) u57_ rfl isz57 a (P.now) (rfl) rfl) <| WL.e <| ?_; refine WY.tk 6 rfl (.build (cs := pts3 P.now pt0 pt0) rfl (by rw [blt92]; rfl)) rfl ?_; refine WY.tk 7 rfl (.build (cs := (segV (sg1 1 P.now)).toArray) rfl (by rw [blS]; rfl)) rfl ?_; refine WY.br1 8 rfl <| WL.R (Rd.ldA rfl g u94_ rfl isz94) <| WL.e <| WY.br1 9 rfl <| WL.bslM (L := segL) (ps := _) ([sg1 1 P.now, s]) u34_ s94_ z94_ rfl rfl rfl rfl rfl (by first | rfl | decide) rfl rfl (fun cC c5 a3 bc N cX => ?_); have aA := nt_ n N.size; have c6 := on_ t a3 N; have c7 := bgl a3 a.lt; have c8 := a.un N c7; have di := bgl a3 g.lt; have dj := bgl a3 d.lt; have aV := bge a3 c.size; have av := kt_ c (kn_ N aV); have aW : cC ≤ c5.heap.size := by omega
    refine WL.e <| WY.br1 10 rfl <| WL.c1 hB_ rfl rfl ((pth_add B bp m _ P q _ [sg1 1 P.now, s] 2 _ ⟨c8, c6, o, aA⟩ (bc).rowp (by simp) (fun h => by simp at h))) (fun dA ac => ?_); have cY := nt_ aA ac.1.size; have cZ := nt_ aW ac.1.size; have c9 := kt_ av (KeepB.wide ac.1 av.size (by simp <;> omega)); obtain ⟨v1, i, j⟩ := ac.2; have l := Grew.mono j av.size; refine WL.e <| WY.tk 11 rfl (.as rfl) rfl <| WY.done kR <| W.ret (W.r1 rfl rfl ?_)
    (have f : pDraw m P s q = pAdd m P q [sg1 1 P.now, s] := by unfold pDraw; rw [if_neg aS, if_pos aS]
     rw [f]; exact ⟨rfl, c9, _, i, l⟩)
    refine WL.R (Rd.ldA rfl g u94_ rfl isz94) <| WL.e <| WY.br1 5 rfl <| WL.R (Rd.ldF (L := pointL) u57_ rfl isz57 a (P.now) (rfl) rfl) <| WL.e <| ?_; refine WY.tk 6 rfl (.build (cs := pts3 P.now pt0 pt0) rfl (by rw [blt92]; rfl)) rfl ?_; refine WY.tk 7 rfl (.build (cs := (segV (sg1 1 P.now)).toArray) rfl (by rw [blS]; rfl)) rfl ?_; refine WY.br1 9 rfl <| WL.bslM (L := segL) (ps := _) ([sg1 1 P.now, s]) u34_ s94_ z94_ rfl rfl rfl rfl rfl (by first | rfl | decide) rfl rfl (fun cD ca a4 bd Q c' => ?_); have aB := nt_ n Q.size; have cb := on_ t a4 Q; have cd := bgl a4 a.lt; have cf := a.un Q cd; have dk := bgl a4 g.lt; have dl := bgl a4 d.lt; have aX := bge a4 c.size; have aw := kt_ c (kn_ Q aX); have aY : cD ≤ ca.heap.size := by omega
    refine WL.e <| WY.br1 10 rfl <| WL.c1 hB_ rfl rfl ((pth_add B bp m _ P q _ [sg1 1 P.now, s] 2 _ ⟨cf, cb, o, aB⟩ (bd).rowp (by simp) (fun h => by simp at h))) (fun dB ad => ?_); have d0 := nt_ aB ad.1.size; have d1 := nt_ aY ad.1.size; have cg := kt_ aw (KeepB.wide ad.1 aw.size (by simp <;> omega)); obtain ⟨v1, i, j⟩ := ad.2; have l := Grew.mono j aw.size; refine WL.e <| WY.tk 11 rfl (.as rfl) rfl <| WY.done kR <| W.ret (W.r1 rfl rfl ?_)
    (have f : pDraw m P s q = pAdd m P q [sg1 1 P.now, s] := by unfold pDraw; rw [if_neg aS, if_pos aS]
     rw [f]; exact ⟨rfl, cg, _, i, l⟩)
    refine WL.R (Rd.ldF (L := pointL) u57_ rfl isz57 a (P.now) (rfl) rfl) <| WL.e <| ?_; refine WY.tk 6 rfl (.build (cs := pts3 P.now pt0 pt0) rfl (by rw [blt92]; rfl)) rfl ?_; refine WY.tk 7 rfl (.build (cs := (segV (sg1 1 P.now)).toArray) rfl (by rw [blS]; rfl)) rfl ?_; refine WY.br2 1 rfl 8 rfl ?_ ?_; refine WL.R (Rd.ldA rfl d u57_ rfl isz57) <| WL.e <| WY.br1 8 rfl <| WL.R (Rd.ldA rfl g u94_ rfl isz94) <| WL.e <| WY.br1 9 rfl <| WL.bslM (L := segL) (ps := _) ([sg1 1 P.now, s]) u34_ s94_ z94_ rfl rfl rfl rfl rfl (by first | rfl | decide) rfl rfl (fun cE ci a5 be T d2 => ?_); have aC := nt_ n T.size; have cj := on_ t a5 T; have ck := bgl a5 a.lt; have cl := a.un T ck; have dm := bgl a5 g.lt; have dn := bgl a5 d.lt; have aZ := bge a5 c.size; have ax := kt_ c (kn_ T aZ); have a' : cE ≤ ci.heap.size := by omega
    refine WL.e <| WY.br1 10 rfl <| WL.c1 hB_ rfl rfl ((pth_add B bp m _ P q _ [sg1 1 P.now, s] 2 _ ⟨cl, cj, o, aC⟩ (be).rowp (by simp) (fun h => by simp at h))) (fun dC ae => ?_); have d3 := nt_ aC ae.1.size; have d4 := nt_ a' ae.1.size; have cm := kt_ ax (KeepB.wide ae.1 ax.size (by simp <;> omega)); obtain ⟨v1, i, j⟩ := ae.2; have l := Grew.mono j ax.size; refine WL.e <| WY.tk 11 rfl (.as rfl) rfl <| WY.done kR <| W.ret (W.r1 rfl rfl ?_)
    (have f : pDraw m P s q = pAdd m P q [sg1 1 P.now, s] := by unfold pDraw; rw [if_neg aS, if_pos aS]
     rw [f]; exact ⟨rfl, cm, _, i, l⟩)
    refine WL.R (Rd.ldA rfl g u94_ rfl isz94) <| WL.e <| WY.br2 1 rfl 9 rfl ?_ ?_; refine WL.R (Rd.ldA rfl d u57_ rfl isz57) <| WL.e <| WY.br1 9 rfl <| WL.bslM (L := segL) (ps := _) ([sg1 1 P.now, s]) u34_ s94_ z94_ rfl rfl rfl rfl rfl (by first | rfl | decide) rfl rfl (fun cF cn a6 bf U d5 => ?_); have aD := nt_ n U.size; have co := on_ t a6 U; have cq := bgl a6 a.lt; have cr := a.un U cq; have dp := bgl a6 g.lt; have dq := bgl a6 d.lt; have b0 := bge a6 c.size; have ay := kt_ c (kn_ U b0); have b2 : cF ≤ cn.heap.size := by omega
    refine WL.e <| WY.br1 10 rfl <| WL.c1 hB_ rfl rfl ((pth_add B bp m _ P q _ [sg1 1 P.now, s] 2 _ ⟨cr, co, o, aD⟩ (bf).rowp (by simp) (fun h => by simp at h))) (fun dE af => ?_); have cG := nt_ aD af.1.size; have cH := nt_ b2 af.1.size; have bg := kt_ ay (KeepB.wide af.1 ay.size (by simp <;> omega)); obtain ⟨v1, i, j⟩ := af.2; have l := Grew.mono j ay.size; refine WL.e <| WY.tk 11 rfl (.as rfl) rfl <| WY.done kR <| W.ret (W.r1 rfl rfl ?_)
    (have f : pDraw m P s q = pAdd m P q [sg1 1 P.now, s] := by unfold pDraw; rw [if_neg aS, if_pos aS]
     rw [f]; exact ⟨rfl, bg, _, i, l⟩)
    refine WL.bslM (L := segL) (ps := _) ([sg1 1 P.now, s]) u34_ s94_ z94_ rfl rfl rfl rfl rfl (by first | rfl | decide) rfl rfl (fun ct bh y b3 u cI => ?_); have al := nt_ n u.size; have bi := on_ t y u; have bj := bgl y a.lt; have bk := a.un u bj; have d6 := bgl y g.lt; have bm := bgl y d.lt; have bn := d.un u bm; have aE := bge y c.size; have ag := kt_ c (kn_ u aE); have aF : ct ≤ bh.heap.size := by omega
    refine WL.e <| WY.br1 1 rfl <| WL.R (Rd.ldA rfl bn u57_ rfl isz57) <| WL.e <| WY.br1 10 rfl <| WL.c1 hB_ rfl rfl ((pth_add B bp m _ P q _ [sg1 1 P.now, s] 2 _ ⟨bk, bi, o, al⟩ (b3).rowp (by simp) (fun h => by simp at h))) (fun dr V => ?_); have cJ := nt_ al V.1.size; have cK := nt_ aF V.1.size; have bo := kt_ ag (KeepB.wide V.1 ag.size (by simp <;> omega)); obtain ⟨v1, i, j⟩ := V.2; have l := Grew.mono j ag.size; refine WL.e <| WY.tk 11 rfl (.as rfl) rfl <| WY.done kR <| W.ret (W.r1 rfl rfl ?_)
    (have f : pDraw m P s q = pAdd m P q [sg1 1 P.now, s] := by unfold pDraw; rw [if_neg aS, if_pos aS]
     rw [f]; exact ⟨rfl, bo, _, i, l⟩)
    refine WL.R (Rd.ldA rfl g u94_ rfl isz94) <| WL.e <| WY.br2 1 rfl 5 rfl ?_ ?_; refine WL.R (Rd.ldA rfl d u57_ rfl isz57) <| WL.e <| WY.br1 5 rfl <| WL.R (Rd.ldF (L := pointL) u57_ rfl isz57 a (P.now) (rfl) rfl) <| WL.e <| ?_; refine WY.tk 6 rfl (.build (cs := pts3 P.now pt0 pt0) rfl (by rw [blt92]; rfl)) rfl ?_; refine WY.tk 7 rfl (.build (cs := (segV (sg1 1 P.now)).toArray) rfl (by rw [blS]; rfl)) rfl ?_; refine WY.br1 9 rfl <| WL.bslM (L := segL) (ps := _) ([sg1 1 P.now, s]) u34_ s94_ z94_ rfl rfl rfl rfl rfl (by first | rfl | decide) rfl rfl (fun cu bq A b4 C cL => ?_); have am := nt_ n C.size; have bt := on_ t A C; have bu := bgl A a.lt; have bv := a.un C bu; have d7 := bgl A g.lt; have d8 := bgl A d.lt; have aG := bge A c.size; have ah := kt_ c (kn_ C aG); have aH : cu ≤ bq.heap.size := by omega
    refine WL.e <| WY.br1 10 rfl <| WL.c1 hB_ rfl rfl ((pth_add B bp m _ P q _ [sg1 1 P.now, s] 2 _ ⟨bv, bt, o, am⟩ (b4).rowp (by simp) (fun h => by simp at h))) (fun ds X => ?_); have cM := nt_ am X.1.size; have cN := nt_ aH X.1.size; have bw := kt_ ah (KeepB.wide X.1 ah.size (by simp <;> omega)); obtain ⟨v1, i, j⟩ := X.2; have l := Grew.mono j ah.size; refine WL.e <| WY.tk 11 rfl (.as rfl) rfl <| WY.done kR <| W.ret (W.r1 rfl rfl ?_)
    (have f : pDraw m P s q = pAdd m P q [sg1 1 P.now, s] := by unfold pDraw; rw [if_neg aS, if_pos aS]
     rw [f]; exact ⟨rfl, bw, _, i, l⟩)
    refine WL.R (Rd.ldF (L := pointL) u57_ rfl isz57 a (P.now) (rfl) rfl) <| WL.e <| ?_; refine WY.tk 6 rfl (.build (cs := pts3 P.now pt0 pt0) rfl (by rw [blt92]; rfl)) rfl ?_; refine WY.tk 7 rfl (.build (cs := (segV (sg1 1 P.now)).toArray) rfl (by rw [blS]; rfl)) rfl ?_; refine WY.br2 1 rfl 9 rfl ?_ ?_; refine WL.R (Rd.ldA rfl d u57_ rfl isz57) <| WL.e <| WY.br1 9 rfl <| WL.bslM (L := segL) (ps := _) ([sg1 1 P.now, s]) u34_ s94_ z94_ rfl rfl rfl rfl rfl (by first | rfl | decide) rfl rfl (fun cv bx D b5 E cO => ?_); have an := nt_ n E.size; have bz := on_ t D E; have bA := bgl D a.lt; have bB := a.un E bA; have d9 := bgl D g.lt; have da := bgl D d.lt; have aI := bge D c.size; have ai := kt_ c (kn_ E aI); have aJ : cv ≤ bx.heap.size := by omega
    refine WL.e <| WY.br1 10 rfl <| WL.c1 hB_ rfl rfl ((pth_add B bp m _ P q _ [sg1 1 P.now, s] 2 _ ⟨bB, bz, o, an⟩ (b5).rowp (by simp) (fun h => by simp at h))) (fun dt Y => ?_); have cP := nt_ an Y.1.size; have cQ := nt_ aJ Y.1.size; have bC := kt_ ai (KeepB.wide Y.1 ai.size (by simp <;> omega)); obtain ⟨v1, i, j⟩ := Y.2; have l := Grew.mono j ai.size; refine WL.e <| WY.tk 11 rfl (.as rfl) rfl <| WY.done kR <| W.ret (W.r1 rfl rfl ?_)
    (have f : pDraw m P s q = pAdd m P q [sg1 1 P.now, s] := by unfold pDraw; rw [if_neg aS, if_pos aS]
     rw [f]; exact ⟨rfl, bC, _, i, l⟩)
    refine WL.bslM (L := segL) (ps := _) ([sg1 1 P.now, s]) u34_ s94_ z94_ rfl rfl rfl rfl rfl (by first | rfl | decide) rfl rfl (fun cw bD F b6 x cR => ?_); have ao := nt_ n x.size; have bE := on_ t F x; have bG := bgl F a.lt; have bH := a.un x bG; have db := bgl F g.lt; have bI := bgl F d.lt; have bJ := d.un x bI; have aK := bge F c.size; have aj := kt_ c (kn_ x aK); have aL : cw ≤ bD.heap.size := by omega
    refine WL.e <| WY.br1 1 rfl <| WL.R (Rd.ldA rfl bJ u57_ rfl isz57) <| WL.e <| WY.br1 10 rfl <| WL.c1 hB_ rfl rfl ((pth_add B bp m _ P q _ [sg1 1 P.now, s] 2 _ ⟨bH, bE, o, ao⟩ (b6).rowp (by simp) (fun h => by simp at h))) (fun du a0 => ?_); have cS := nt_ ao a0.1.size; have cT := nt_ aL a0.1.size; have bK := kt_ aj (KeepB.wide a0.1 aj.size (by simp <;> omega)); obtain ⟨v1, i, j⟩ := a0.2; have l := Grew.mono j aj.size; refine WL.e <| WY.tk 11 rfl (.as rfl) rfl <| WY.done kR <| W.ret (W.r1 rfl rfl ?_)
    (have f : pDraw m P s q = pAdd m P q [sg1 1 P.now, s] := by unfold pDraw; rw [if_neg aS, if_pos aS]
     rw [f]; exact ⟨rfl, bK, _, i, l⟩)
  have c4 := dF aU; refine W.k <| W.sr <| WL.M rfl <| WL.R (Rd.ldA rfl au u57_ rfl isz57) <| WL.R (Rd.ldA rfl ar u94_ rfl isz94) <| WL.bslM (L := segL) (ps := _) ([s]) u34_ s94_ z94_ rfl rfl rfl rfl rfl (by first | rfl | decide) rfl rfl (fun cy bM G b8 H cU => ?_); have ap := nt_ a9 H.size; have bN := on_ aq G H; have bO := bgl G aa.lt; have bP := aa.un H bO; have dc := bgl G ar.lt; have dd := bgl G au.lt; have aM := bge G ab.size; have ak := kt_ ab (kn_ H aM); have aN : cy ≤ bM.heap.size := by omega
  refine WL.c1 hB_ rfl rfl ((pth_add B bp m _ P q _ [s] 1 _ ⟨bP, bN, o, ap⟩ (b8).rowp (by simp) (fun h => by simp at h))) (fun dv a1 => ?_); have cV := nt_ ap a1.1.size; have cW := nt_ aN a1.1.size; have bQ := kt_ ak (KeepB.wide a1.1 ak.size (by simp <;> omega)); obtain ⟨v1, i, j⟩ := a1.2; have l := Grew.mono j ak.size; refine WL.Z rfl <| W.ret (W.r1 rfl rfl ?_)
  (have f : pDraw m P s q = pAdd m P q [s] := by unfold pDraw; rw [if_neg aS, if_neg aS]
   rw [f]; exact ⟨rfl, bQ, _, i, l⟩)
theorem pth_Line (B bp : Nat) (m : Int) (v : Value) (P : PathP) (a : PointV) (w : World) (h : PthAt B w bp m P v) :
  Calls Tryz.prog 78 #[.pointer (some ⟨bp, 0, none⟩), .agg (pointV a).toArray] w (PthR B w bp m v (pLine m P a)) := by
 have ag := h.sep
 obtain ⟨s, f, t, T⟩ := h
 have a6 := f.lt
 have E := s.lt
 have ah := vb_lt f E
 obtain ⟨p, cc, rfl, -, -, -, -⟩ := f.row
 refine W.e func78 rfl ntmps78 bL ?_
 have K := KeepB.refl w.heap.size ([bp, vb (.slice p P.list.length cc) bp]) w
 refine W.sr <| WL.box rfl rfl (fun b1 ak u n g ai => ?_)
 have U := nt_ T g.size
 have a7 := on_ f u g
 have a8 := bgl u s.lt
 have N := s.un g a8
 have F := bge u K.size
 have Q := kt_ K (kn_ g F)
 refine WL.Z rfl <| W.seq <| W.b <| W.sr <| WL.M rfl <| WL.O (.bis (false) (.eqP u69_ rfl) (by rfl)) <| WL.Z rfl <| W.condF rfl rfl <| W.sr <| WL.R (Rd.ldA rfl n u57_ rfl isz57) <| WL.bslM (L := pointL) (ps := _) ([a]) u133_ s57_ z57_ rfl rfl rfl rfl rfl (by first | rfl | decide) rfl rfl (fun b7 a9 q V d aj => ?_)
 have X := nt_ U d.size
 have aa := on_ a7 q d
 have Y := bgl q N.lt
 have a0 := N.un d Y
 have a1 := bgl q n.lt
 have a2 := n.un d a1
 have G := bge q Q.size
 have a3 := kt_ Q (kn_ d G)
 have H : b7 ≤ a9.heap.size := by omega
 refine WL.c1 hB_ rfl rfl ((path_fits _ [a] 1 _ (V).rowp (by simp))) (fun al c => ?_)
 have i := nt_ X c.size
 have x := OwnM.below aa c
 have J := nt_ H c.size
 have y := a0.bl c
 have A := a2.bl c
 have j := kB a3 c
 refine WL.O (.not rfl) <| WL.Z rfl <| W.cond rfl (fun C => ?_) (fun C => ?_)
 have a4 := (nT C)
 have o : fitsP a = false := by simpa using (show ([a].all fitsP) = false by assumption)
 refine W.sr <| WL.Z rfl <| W.ret (W.r1 rfl rfl ?_)
 have D : pLine m P a = (P, 11) := if_pos o
 rw [D]
 exact ⟨rfl, j, _, ⟨y, x, t, i⟩, Grew.refl _ _⟩
 have a4 := (nF C)
 have o : fitsP a = true := by simpa using (show ([a].all fitsP) = true by assumption)
 refine W.k <| W.sr <| WL.M rfl <| WL.R (Rd.ldA rfl A u57_ rfl isz57) <| ?_
 refine WL.O (.build (cs := pts3 a pt0 pt0) rfl (by rw [blt92]; rfl)) ?_
 refine WL.O (.build (cs := (segV (sg1 2 a)).toArray) rfl (by rw [blS]; rfl)) ?_
 refine WL.R (Rd.ldA rfl A u57_ rfl isz57) <| WL.c1 hB_ rfl rfl ((pth_draw B bp m _ P (sg1 2 a) a _ ⟨y, x, t, i⟩)) (fun am l => ?_)
 have ae := nt_ i l.1.size
 have af := nt_ J l.1.size
 have a5 := kt_ j (KeepB.wide l.1 j.size (by simp <;> omega))
 obtain ⟨v1, ab, ac⟩ := l.2
 have ad := Grew.mono ac j.size
 refine WL.Z rfl <| W.ret (W.r1 rfl rfl ?_)
 have D : pLine m P a = pDraw m P (sg1 2 a) a := if_neg (by rw [o]; decide)
 rw [D]
 exact ⟨rfl, a5, _, ab, ad⟩
set_option maxHeartbeats 1600000 in
theorem pth_Curve (B bp : Nat) (m : Int) (v : Value) (P : PathP) (a b c : PointV) (w : World) (h : PthAt B w bp m P v) :
  Calls Tryz.prog 79 #[.pointer (some ⟨bp, 0, none⟩), .agg (pointV a).toArray, .agg (pointV b).toArray, .agg (pointV c).toArray] w (PthR B w bp m v (pCurve m P a b c)) := by
 have aQ := h.sep
 obtain ⟨D, n, E, ae⟩ := h
 have aE := n.lt
 have a4 := D.lt
 have aR := vb_lt n a4
 obtain ⟨p, cc, rfl, -, -, -, -⟩ := n.row
 refine W.e func79 rfl ntmps79 bL ?_
 have ab := KeepB.refl w.heap.size ([bp, vb (.slice p P.list.length cc) bp]) w
 refine W.sr <| WL.box rfl rfl (fun b1 aV F G o aS => ?_)
 have af := nt_ ae o.size
 have aF := on_ n F o
 have aG := bgl F D.lt
 have ac := D.un o aG
 have a5 := bge F ab.size
 have ad := kt_ ab (kn_ o a5)
 refine WL.box rfl rfl (fun b7 aW C H j aT => ?_)
 have ag := nt_ af j.size
 have aH := on_ aF C j
 have ah := bgl C ac.lt
 have J := ac.un j ah
 have ai := bgl C G.lt
 have K := G.un j ai
 have a6 := bge C ad.size
 have N := kt_ ad (kn_ j a6)
 refine WL.box rfl rfl (fun aX aU l q g aM => ?_)
 have a7 := nt_ ag g.size
 have aj := on_ aH l g
 have ak := bgl l J.lt
 have Q := J.un g ak
 have al := bgl l K.lt
 have x := K.un g al
 have am := bgl l H.lt
 have y := H.un g am
 have T := bge l N.size
 have U := kt_ N (kn_ g T)
 refine WL.Z rfl <| W.seq <| W.b <| W.sr <| WL.M rfl <| WL.O (.bis (false) (.eqP u69_ rfl) (by rfl)) <| WL.Z rfl <| W.condF rfl rfl <| W.sr <| WL.R (Rd.ldA rfl x u57_ rfl isz57) <| WL.R (Rd.ldA rfl y u57_ rfl isz57) <| WL.R (Rd.ldA rfl q u57_ rfl isz57) <| WL.bslM (L := pointL) (ps := _) ([a, b, c]) u133_ s57_ z57_ rfl rfl rfl rfl rfl (by first | rfl | decide) rfl rfl (fun aI an i a8 d aN => ?_)
 have a9 := nt_ a7 d.size
 have ao := on_ aj i d
 have ap := bgl i Q.lt
 have aq := Q.un d ap
 have ar := bgl i x.lt
 have au := x.un d ar
 have av := bgl i y.lt
 have aw := y.un d av
 have ax := bgl i q.lt
 have ay := q.un d ax
 have V := bge i U.size
 have az := kt_ U (kn_ d V)
 have X : aI ≤ an.heap.size := by omega
 refine WL.c1 hB_ rfl rfl ((path_fits _ [a, b, c] 3 _ (a8).rowp (by simp))) (fun aY f => ?_)
 have s := nt_ a9 f.size
 have Y := OwnM.below ao f
 have aa := nt_ X f.size
 have a0 := aq.bl f
 have aA := au.bl f
 have aB := aw.bl f
 have a1 := ay.bl f
 have t := kB az f
 refine WL.O (.not rfl) <| WL.Z rfl <| W.cond rfl (fun a2 => ?_) (fun a2 => ?_)
 have aC := (nT a2)
 have A : (fitsP a && fitsP b && fitsP c) = false := by simpa [Bool.and_assoc] using (show ([a, b, c].all fitsP) = false by assumption)
 refine W.sr <| WL.Z rfl <| W.ret (W.r1 rfl rfl ?_)
 have a3 : pCurve m P a b c = (P, 11) := if_pos A
 rw [a3]
 exact ⟨rfl, t, _, ⟨a0, Y, E, s⟩, Grew.refl _ _⟩
 have aC := (nF a2)
 have A : (fitsP a && fitsP b && fitsP c) = true := by simpa [Bool.and_assoc, and_assoc] using (show ([a, b, c].all fitsP) = true by assumption)
 refine W.k <| W.sr <| WL.M rfl <| WL.R (Rd.ldA rfl aA u57_ rfl isz57) <| WL.R (Rd.ldA rfl aB u57_ rfl isz57) <| WL.R (Rd.ldA rfl a1 u57_ rfl isz57) <| ?_
 refine WL.O (.build (cs := pts3 a b c) rfl (by rw [blt92]; rfl)) ?_
 refine WL.O (.build (cs := (segV ⟨3, a, b, c⟩).toArray) rfl (by rw [blS]; rfl)) ?_
 refine WL.R (Rd.ldA rfl a1 u57_ rfl isz57) <| WL.c1 hB_ rfl rfl ((pth_draw B bp m _ P ⟨3, a, b, c⟩ c _ ⟨a0, Y, E, s⟩)) (fun aZ u => ?_)
 have aO := nt_ s u.1.size
 have aP := nt_ aa u.1.size
 have aD := kt_ t (KeepB.wide u.1 t.size (by simp <;> omega))
 obtain ⟨v1, aJ, aK⟩ := u.2
 have aL := Grew.mono aK t.size
 refine WL.Z rfl <| W.ret (W.r1 rfl rfl ?_)
 have a3 : pCurve m P a b c = pDraw m P ⟨3, a, b, c⟩ c := if_neg (by rw [A]; decide)
 rw [a3]
 exact ⟨rfl, aD, _, aJ, aL⟩
theorem pth_Close (B bp : Nat) (m : Int) (v : Value) (P : PathP) (w : World) (h : PthAt B w bp m P v) :
    Calls Tryz.prog 82 #[.pointer (some ⟨bp, 0, none⟩)] w (PthR B w bp m v (pClose m P)) := by
  have ac := h.sep; obtain ⟨u, c, j, Q⟩ := h; have a2 := c.lt; have G := u.lt; have ad := vb_lt c G; obtain ⟨p, cc, rfl, -, -, -, -⟩ := c.row; refine W.e func82 rfl ntmps82 bL ?_; have a3 := KeepB.refl w.heap.size ([bp, vb (.slice p P.list.length cc) bp]) w; refine W.sr <| WL.Z rfl <| W.seq <| W.b <| W.sr <| WL.M rfl <| WL.O (.bis (false) (.eqP u69_ rfl) (by rfl)) <| WL.Z rfl <| W.condF rfl rfl <| W.sr <| WL.M rfl <| WL.c1 hB_ rfl rfl ((pth_last bp m p cc P _ u (c).rowp oO)) (fun w1 q => ?_); have x := nt_ Q q.size; have y := OwnM.below c q; have A := u.bl q; have J := kB a3 q; refine WL.O (.eql rfl rfl) <| WL.M rfl <| WL.gd rfl rfl rfl (fun d => ?_) (fun d => ?_)
  · have a4 := dF d
    refine WL.M rfl <| WL.Y d <| WL.c1 hB_ rfl rfl ((pth_last bp m p cc P _ A (y).rowp oO)) (fun w7 s => ?_); have C := nt_ x s.size; have K := OwnM.below y s; have f := A.bl s; have l := kB J s; refine WL.Y d <| WL.O (.eql rfl rfl) <| WL.O (.pkF rfl d rfl) <| WL.Z rfl <| W.cond rfl (fun D => ?_) (fun D => ?_)
    · have T := dT D
      refine W.sr <| WL.Z rfl <| W.ret (W.r1 rfl rfl ?_)
      (have i : pClose m P = (P, 0) := if_pos oO
       rw [i]; exact ⟨rfl, l, _, ⟨f, K, j, C⟩, Grew.refl _ _⟩)
    have T := dF D; refine W.k <| W.sr <| WL.M rfl <| WL.M rfl <| WL.O (.nck rfl) <| WL.O (.fa u97_ rfl s57_ dD rfl) <| WL.R (Rd.ldF (L := pointL) u57_ rfl isz57 f (P.start) (rfl) rfl) <| ?_; refine WL.O (.build (cs := (segV (sg1 4 pt0)).toArray) rfl (by rw [blS]; rfl)) ?_; refine WL.bslM (L := segL) (ps := _) ([sg1 4 pt0]) u34_ s94_ z94_ rfl rfl rfl rfl rfl (by first | rfl | decide) rfl rfl (fun a5 U n H a a9 => ?_); have t := nt_ C a.size; have V := on_ K n a; have X := bgl n f.lt; have a0 := f.un a X; have E := bge n l.size; have o := kt_ l (kn_ a E); have F : a5 ≤ U.heap.size := by omega
    refine WL.c1 hB_ rfl rfl ((pth_add B bp m _ P P.start _ [sg1 4 pt0] 1 _ ⟨a0, V, j, t⟩ (H).rowp (by simp) (fun h => by simp at h))) (fun ae g => ?_); have aa := nt_ t g.1.size; have ab := nt_ F g.1.size; have a1 := kt_ o (KeepB.wide g.1 o.size (by simp <;> omega)); obtain ⟨v1, a6, a7⟩ := g.2; have a8 := Grew.mono a7 o.size; refine WL.Z rfl <| W.ret (W.r1 rfl rfl ?_)
    (have i : pClose m P = pAdd m P P.start [sg1 4 pt0] := if_neg oO
     rw [i]; exact ⟨rfl, a1, _, a6, a8⟩)
  have a4 := dT d; refine WL.N d <| WL.N d <| WL.O (.pkT rfl d rfl) <| WL.Z rfl <| W.condT rfl rfl <| W.sr <| WL.Z rfl <| W.ret (W.r1 rfl rfl ?_)
  (have i : pClose m P = (P, 0) := if_pos oO
   rw [i]; exact ⟨rfl, J, _, ⟨A, y, j, x⟩, Grew.refl _ _⟩)
end
section
theorem inf61 : (Tryz.prog.info? 61).map (fun i => (i.zero, i.size, i.bytes)) = some (some (.agg #[.slice none 0 0, .bool false]), 2, 32) := by kernel_rfl
theorem lib_CloneSeg (p : Option Addr) (l : List SegV) (c : Nat) (w : World) (h : RowM segL w p l) (hl : l.length ≤ 1000000) :
    Calls Tryz.prog 114 #[.slice p l.length c] w fun e w' => ∃ x : Option Addr × Nat, e = .returned (.slice x.1 l.length x.2) ∧ Below w.heap.size w w' ∧ OwnM segL 94 w.heap.size w' (.slice x.1 l.length x.2) l := by
  refine W.e func114 rfl ntmps114 bL ?_; have j := br_ (w.heap.size) w; refine W.sr <| WL.Z rfl <| W.seq <| W.sr <| WL.M rfl <| WL.O (.eqSN u34_ rfl) <| WL.e <| W.cond rfl (fun J => ?_) (fun J => ?_); have hp : p = none := by cases p with | none => rfl | some a => exact ab_ (show (some a).isNone = true by assumption) (by simp)
  have u : l = [] := by
    cases l with
    | nil => rfl
    | cons x r => have := h.isp (by simp); rw [hp] at this; cases this
  refine W.sr <| WL.Z rfl <| W.ret (W.r1 rfl rfl ?_); exact ⟨(none, 0), by rw [u]; rfl, j, by rw [u]; exact OwnM.nil _ _ _ _⟩; have A : p ≠ none := fun e => by (have q : p.isNone = false := by assumption); rw [e] at q; cases q
  refine W.k <| W.sr <| WL.bsl0 u34_ s94_ rfl (fun B D f b m K => ?_); have v := fun y => f ▸ h.lt y
  have E := RowM.upd h m (fun y => nn_ (v y)); have F := uB j f m; have t := bge f j.size; have b := OwnM.of (L := segL) (l := []) (b B (nr_ _)); have i : B ≤ D.heap.size := by omega
  refine WL.M rfl <| WL.appM u34_ inf94 rfl rfl rfl b rfl E (by simp only [List.length_nil]; omega) (i) rfl (fun _ => .inr A) (fun Q R n o N P => ?_); have G := bt_ F (o.mono (t)); have H := nt_ i o.size; refine WL.Z rfl <| W.ret (W.r1 rfl rfl ?_)
  (have s := (n).base (C := w.heap.size) (fun g hg => nt_ (Nat.le_of_eq f.symm) ((n).lt g hg).1)
   simp only [List.nil_append] at s; obtain ⟨q, d, rfl, -⟩ := s.row; exact ⟨(q, d), rfl, G, s⟩)
theorem lib_CloneClip (p : Option Addr) (l : List ClipV) (c : Nat) (w : World) (h : RowM clipL w p l) (hl : l.length ≤ 1000000) :
    Calls Tryz.prog 116 #[.slice p l.length c] w fun e w' => ∃ x : Option Addr × Nat, e = .returned (.slice x.1 l.length x.2) ∧ Below w.heap.size w w' ∧ OwnM clipL 61 w.heap.size w' (.slice x.1 l.length x.2) l := by
  refine W.e func116 rfl ntmps116 bL ?_; have j := br_ (w.heap.size) w; refine W.sr <| WL.Z rfl <| W.seq <| W.sr <| WL.M rfl <| WL.O (.eqSN u38_ rfl) <| WL.e <| W.cond rfl (fun J => ?_) (fun J => ?_); have hp : p = none := by cases p with | none => rfl | some a => exact ab_ (show (some a).isNone = true by assumption) (by simp)
  have u : l = [] := by
    cases l with
    | nil => rfl
    | cons x r => have := h.isp (by simp); rw [hp] at this; cases this
  refine W.sr <| WL.Z rfl <| W.ret (W.r1 rfl rfl ?_); exact ⟨(none, 0), by rw [u]; rfl, j, by rw [u]; exact OwnM.nil _ _ _ _⟩; have A : p ≠ none := fun e => by (have q : p.isNone = false := by assumption); rw [e] at q; cases q
  refine W.k <| W.sr <| WL.bsl0 u38_ s61_ rfl (fun B D f b m K => ?_); have v := fun y => f ▸ h.lt y
  have E := RowM.upd h m (fun y => nn_ (v y)); have F := uB j f m; have t := bge f j.size; have b := OwnM.of (L := clipL) (l := []) (b B (nr_ _)); have i : B ≤ D.heap.size := by omega
  refine WL.M rfl <| WL.appM u38_ inf61 rfl rfl rfl b rfl E (by simp only [List.length_nil]; omega) (i) rfl (fun _ => .inr A) (fun Q R n o N P => ?_); have G := bt_ F (o.mono (t)); have H := nt_ i o.size; refine WL.Z rfl <| W.ret (W.r1 rfl rfl ?_)
  (have s := (n).base (C := w.heap.size) (fun g hg => nt_ (Nat.le_of_eq f.symm) ((n).lt g hg).1)
   simp only [List.nil_append] at s; obtain ⟨q, d, rfl, -⟩ := s.row; exact ⟨(q, d), rfl, G, s⟩)
theorem pth_Current (B bp : Nat) (m : Int) (v : Value) (P : PathP) (w : World) (h : PthAt B w bp m P v) :
  Calls Tryz.prog 80 #[.pointer (some ⟨bp, 0, none⟩)] w fun e w' => e = .returned (if P.list.length = 0 then .tuple #[.agg (pointV pt0).toArray, .int .i64 10] else .tuple #[.agg (pointV P.now).toArray, .int .i64 0]) ∧ Below w.heap.size w w' := by
 obtain ⟨f, l, D, E⟩ := h
 obtain ⟨p, cc, rfl, -, -, -, -⟩ := l.row
 refine W.e func80 rfl ntmps80 bL ?_
 have g := br_ (w.heap.size) w
 refine W.sr <| WL.al z57_ rfl (fun K J a c d F => ?_)
 have x := bgl a f.lt
 have i := f.un d x
 have j := uB g a d
 have C := bge a g.size
 refine WL.Z rfl <| W.seq <| W.b <| W.sr <| WL.M rfl <| WL.O (.bis (false) (.eqP u69_ rfl) (by rfl)) <| WL.Z rfl <| W.condF rfl rfl <| W.sr <| WL.M rfl <| WL.O (.nck rfl) <| WL.O (.fa u97_ rfl s34_ dD rfl) <| WL.R (Rd.ld (g34_ _) rfl i rfl) <| WL.O (.lenS u34_ rfl) <| WL.O (.eql rfl rfl) <| WL.Z rfl <| W.cond rfl (fun n => ?_) (fun n => ?_)
 have y := dT n
 refine W.sr <| WL.O (.buildL (ps := _) blt57 rfl rfl rfl pZ) ?_
 refine WL.stL rfl rfl c isz57 rfl rfl (fun N o q G => ?_)
 have A := ub_ j oO q
 refine WL.Z rfl <| W.ret (W.retc2 rfl rfl (ldRow o u57_ rfl isz57) rfl ?_)
 exact ⟨fx_val (by rw [if_pos oO]; rfl), A⟩
 have y := dF n
 refine W.k <| W.sr <| WL.M rfl <| WL.O (.nck rfl) <| WL.O (.fa u97_ rfl s57_ dD rfl) <| WL.R (Rd.ldF (L := pointL) u57_ rfl isz57 i (P.now) (rfl) rfl) <| WL.stL rfl rfl c isz57 rfl rfl (fun Q s t H => ?_)
 have u := ub_ j oO t
 refine WL.Z rfl <| W.ret (W.retc2 rfl rfl (ldRow s u57_ rfl isz57) rfl ?_)
 exact ⟨fx_val (by rw [if_neg oO]; rfl), u⟩
theorem pth_Segments (B bp : Nat) (m : Int) (v : Value) (P : PathP) (w : World) (h : PthAt B w bp m P v) :
  Calls Tryz.prog 113 #[.pointer (some ⟨bp, 0, none⟩)] w fun e w' => ∃ x : Option Addr × Nat, e = .returned (.slice x.1 P.list.length x.2) ∧ Below w.heap.size w w' ∧ OwnM segL 94 w.heap.size w' (.slice x.1 P.list.length x.2) P.list := by
 obtain ⟨c, b, i, j⟩ := h
 obtain ⟨p, cc, rfl, d, -, -, -⟩ := b.row
 refine W.e func113 rfl ntmps113 bL ?_
 have f := br_ (w.heap.size) w
 refine W.sr <| WL.Z rfl <| W.seq <| W.sr <| WL.M rfl <| WL.O (.bis (false) (.eqP u69_ rfl) (by rfl)) <| WL.e <| W.condF rfl rfl <| W.k <| W.sr <| WL.M rfl <| WL.O (.nck rfl) <| WL.O (.fa u97_ rfl s34_ dD rfl) <| WL.R (Rd.ld (g34_ _) rfl c rfl) <| WL.call hB_ rfl rfl ((lib_CloneSeg p P.list cc _ d oO)) (fun x l a => ?_)
 have g := btr f a.1
 have hx := a.2
 refine WL.Z rfl <| W.ret (W.r1 rfl rfl ?_)
 exact ⟨x, rfl, g, hx⟩
theorem pth_Clear (B bp : Nat) (m : Int) (v : Value) (P : PathP) (w : World) (h : PthAt B w bp m P v) :
  Calls Tryz.prog 117 #[.pointer (some ⟨bp, 0, none⟩)] w fun e w' => e = .returned (.tuple #[]) ∧ KeepB w.heap.size [bp] w w' ∧ PthAt B w' bp m path0 (.slice none 0 0) := by
 obtain ⟨l, t, j, k⟩ := h
 refine W.e func117 rfl ntmps117 bL ?_
 have n := KeepB.refl w.heap.size ([bp]) w
 refine W.sr <| WL.M rfl <| WL.O (.bis (true) (.neP u69_ rfl) (by rfl)) <| WL.e <| W.condT rfl rfl <| W.reg <| WL.M rfl <| WL.M rfl <| WL.M rfl <| ?_
 refine WL.O (.buildL (ps := _) blt57 rfl rfl rfl pZ) ?_
 refine WL.O (.buildL (ps := _) blt57 rfl rfl rfl pZ) ?_
 refine WL.O (.nck rfl) <| WL.O (.fa u97_ rfl s34_ dD rfl) <| WL.stC (o := 1) ((pthC m (.slice none 0 0) P.start P.now)) s34_ rfl (rfl) rfl (rfl) l bL (rfl) (fun u a b x => ?_)
 have a : Blk u bp _ _ := a
 have b : Upd bp _ _ := b
 have q := kU n b
 refine WL.O (.nck rfl) <| WL.O (.fa u97_ rfl s57_ dD rfl) <| WL.stB (o := 2) ((pthC m (.slice none 0 0) pt0 P.now)) rfl (rfl) rfl a isz57 rfl bL (rfl) (fun y c d A => ?_)
 have c : Blk y bp _ _ := c
 have d : Upd bp _ _ := d
 have s := kU q d
 refine WL.O (.nck rfl) <| WL.O (.fa u97_ rfl s57_ dD rfl) <| WL.stB (o := 4) ((pthC m (.slice none 0 0) pt0 pt0)) rfl (rfl) rfl c isz57 rfl bL (rfl) (fun C f g D => ?_)
 have f : Blk C bp _ _ := f
 have g : Upd bp _ _ := g
 have i := kU s g
 refine WL.e <| W.norm (W.ret0 rfl ?_)
 exact ⟨rfl, i, ⟨f, OwnM.nil _ _ _ _, ⟨by show (0 : Int) ≤ m; omega, j.2⟩, nt_ k i.size⟩⟩
theorem blP : Tryz.prog.built 97 = fun parts => Instr.fill (([(0, 1), (1, 1), (2, 2), (4, 2)] : List (Nat × Nat)).toArray[·]?) #[.int .i64 0, .slice none 0 0, .int .i64 0, .int .i64 0, .int .i64 0, .int .i64 0] parts := by kernel_rfl
theorem pth_New (m : Int) (w : World) (hm : 0 ≤ m ∧ m ≤ 1000000) :
  Calls Tryz.prog 18 #[.int .i64 m] w fun e w' => ∃ bp : Nat, e = .returned (.pointer (some ⟨bp, 0, none⟩)) ∧ Below w.heap.size w w' ∧ w.heap.size ≤ bp ∧ PthAt w.heap.size w' bp m path0 (.slice none 0 0) := by
 refine W.e func18 rfl ntmps18 bL ?_
 have a := br_ (w.heap.size) w
 refine W.sr <| WL.Z rfl <| W.sr <| WL.M rfl <| ?_
 refine WL.O (.build (cs := pthC m (.slice none 0 0) pt0 pt0) rfl (by rw [blP]; rfl)) ?_
 refine WL.box rfl rfl (fun i k b d f j => ?_)
 have c := uB a b f
 have g := bge b a.size
 refine WL.Z rfl <| W.ret (W.r1 rfl rfl ?_)
 exact ⟨i, rfl, c, by omega, ⟨d, OwnM.nil _ _ _ _, ⟨hm.1, hm.2⟩, c.size⟩⟩
end
section
theorem roundS_len : ∀ (n : Nat) (d : Nat) (o l : List UInt8) (s r : List UInt8), l.length ≤ n → roundS d o l = some (s, r) → r.length ≤ l.length
 | n, d, o, [], s, r, _, h => by rw [roundS.eq_def] at h; cases h
 | 0, d, o, c :: t, s, r, hn, h => by simp at hn
 | n + 1, d, o, c :: t, s, r, hn, h => by
  simp only [List.length_cons] at hn ⊢
  rw [roundS.eq_def] at h
  simp only at h
  split at h
  ·
   have := roundS_len n _ _ t s r oO h; omega
  ·
   split at h
   ·
    split at h
    ·
     simp only [Option.some.injEq, Prod.mk.injEq] at h; rw [h.2]; omega
    ·
     have := roundS_len n _ _ t s r oO h; omega
   ·
    split at h
    ·
     split at h
     ·
      cases h
     ·
      next e r' =>
      have h2 := escS_len e r'
      simp only [List.length_cons] at hn
      have := roundS_len n _ _ _ s r oO h
      simp only [List.length_cons]; omega
    ·
     split at h
     ·
      have h2 := dropLF_len t
      have := roundS_len n _ _ _ s r oO h; omega
     ·
      have := roundS_len n _ _ t s r oO h; omega
theorem hexS_len : ∀ (l : List UInt8) (h : Option Nat) (o : List UInt8) (s r : List UInt8), hexS h o l = some (s, r) → r.length ≤ l.length
 | [], h, o, s, r, e => by simp [hexS] at e
 | c :: t, h, o, s, r, e => by
  simp only [List.length_cons]
  unfold hexS at e
  split at e
  ·
   have := hexS_len t _ _ s r e; omega
  ·
   split at e
   ·
    simp only [Option.some.injEq, Prod.mk.injEq] at e; rw [← e.2]; omega
   ·
    split at e
    ·
     cases e
    ·
     split at e
     ·
      have := hexS_len t _ _ s r e; omega
     ·
      have := hexS_len t _ _ s r e; omega
theorem textS_ok2 {o : Option (List UInt8 × List UInt8)} {t : TokV} {r : List UInt8} (h : textS o = .ok (t, r)) : ∃ s, o = some (s, r) ∧ t = ⟨6, 0, s⟩ ∧ s.length ≤ 65535 := by
 unfold textS at h
 split at h
 ·
  cases h
 ·
  next s r' =>
  split at h
  ·
   cases h
  ·
   simp only [Except.ok.injEq, Prod.mk.injEq] at h
   obtain ⟨rfl, rfl⟩ := h
   exact ⟨s, rfl, rfl, by omega⟩
theorem nameS_ok2 {k : Int} {l : List UInt8} {t : TokV} {r : List UInt8} (h : nameS k l = .ok (t, r)) : r = l.dropWhile regB ∧ t = ⟨k, 0, l.takeWhile regB⟩ ∧ (l.takeWhile regB).length ≤ 127 := by
 unfold nameS at h
 split at h
 ·
  cases h
 ·
  simp only [Except.ok.injEq, Prod.mk.injEq] at h
  exact ⟨h.2.symm, h.1.symm, by omega⟩
theorem dropWhile_len (l : List UInt8) : (l.dropWhile regB).length ≤ l.length := (List.dropWhile_sublist regB).length_le
theorem radixRes_kind (o : Option (Nat × Bool)) : (radixRes o).ok = true → (radixRes o).e = 0 → (radixRes o).kind = 1 ∨ (radixRes o).kind = 2 := by
 unfold radixRes
 split
 ·
  simp [tokNone]
 ·
  split <;> simp [tokGreat, tokInt]
theorem radixL_kind (l : List UInt8) : (radixL l).ok = true → (radixL l).e = 0 → (radixL l).kind = 1 ∨ (radixL l).kind = 2 := by
 unfold radixL
 split
 ·
  unfold radixV
  repeat' split
  all_goals first | exact radixRes_kind _ | simp [tokNone]
 ·
  simp [tokNone]
theorem tokenL_kind (l : List UInt8) (h : (tokenL l).ok = true) (he : (tokenL l).e = 0) : (tokenL l).kind = 1 ∨ (tokenL l).kind = 2 := by
 have hf : ∀ a b c, (finL a b c).ok = true → (finL a b c).e = 0 → (finL a b c).kind = 1 ∨ (finL a b c).kind = 2 := by
  intro a b c; unfold finL; repeat' split
  all_goals simp [tokNone, tokGreat, tokInt, tokReal]
 revert h he
 unfold tokenL
 split
 ·
  simp [tokNone]
 ·
  split
  ·
   exact radixL_kind l
  ·
   split
   ·
    simp [tokInt]
   ·
    unfold realL2
    split
    ·
     split
     ·
      exact hf _ _ _
     ·
      simp [tokNone]
    ·
     exact hf _ _ _
theorem reg_of_tokC {c : UInt8} (h1 : blankB c = false) (h2 : c ≠ 37) (h40 : c ≠ 40) (h41 : c ≠ 41) (h60 : ¬ (c = 60 ∨ c = 62)) (h123 : c ≠ 123) (h125 : c ≠ 125) (h91 : ¬ (c = 91 ∨ c = 93)) (h47 : c ≠ 47) : regB c = true := by
 unfold regB delimB
 rw [h1]
 simp only [not_or] at h60 h91
 simp [h2, h40, h41, h60.1, h60.2, h123, h125, h91.1, h91.2, h47]
theorem tokC_len {c : UInt8} {r : List UInt8} (h1 : blankB c = false) (h2 : c ≠ 37) {t : TokV} {s : List UInt8} (h : tokC c r = .ok (t, s)) : s.length ≤ r.length ∧ t.kind ≠ 0 := by
  unfold tokC at h
  split at h
  · obtain ⟨s', ho, rfl, -⟩ := textS_ok2 h
    exact ⟨roundS_len _ _ _ _ _ _ (nr_ _) ho, by simp⟩
  · split at h
    · cases h
    · split at h
      · unfold angleS at h
        split at h
        · split at h
          · simp only [Except.ok.injEq, Prod.mk.injEq] at h
            obtain ⟨rfl, rfl⟩ := h
            exact ⟨by simp, by simp⟩
          · split at h
            · obtain ⟨s', ho, rfl, -⟩ := textS_ok2 h
              exact ⟨hexS_len _ _ _ _ _ ho, by simp⟩
            · cases h
        · split at h
          · obtain ⟨s', ho, rfl, -⟩ := textS_ok2 h
            exact ⟨hexS_len _ _ _ _ _ ho, by simp⟩
          · cases h
      · split at h
        · simp only [Except.ok.injEq, Prod.mk.injEq] at h
          obtain ⟨rfl, rfl⟩ := h
          exact ⟨nr_ _, by simp⟩
        · split at h
          · simp only [Except.ok.injEq, Prod.mk.injEq] at h
            obtain ⟨rfl, rfl⟩ := h
            exact ⟨nr_ _, by simp⟩
          · split at h
            · simp only [Except.ok.injEq, Prod.mk.injEq] at h
              obtain ⟨rfl, rfl⟩ := h
              exact ⟨nr_ _, by simp⟩
            · split at h
              · unfold slashS at h
                split at h
                · split at h
                  · next d r' _ =>
                    obtain ⟨rfl, rfl, -⟩ := nameS_ok2 h
                    have := dropWhile_len r'
                    exact ⟨by simp only [List.length_cons]; omega, by simp⟩
                  · obtain ⟨rfl, rfl, -⟩ := nameS_ok2 h
                    exact ⟨dropWhile_len _, by simp⟩
                · obtain ⟨rfl, rfl, -⟩ := nameS_ok2 h
                  exact ⟨dropWhile_len _, by simp⟩
              · have e := reg_of_tokC h1 h2 aS aS aS aS aS aS aS
                have a : (c :: r).dropWhile regB = r.dropWhile regB := by simp [List.dropWhile_cons, e]
                have b := dropWhile_len r
                unfold wordS at h
                simp only at h
                split at h
                · cases h
                · next he =>
                  split at h
                  · next hk =>
                    simp only [Except.ok.injEq, Prod.mk.injEq] at h
                    obtain ⟨rfl, rfl⟩ := h
                    rw [a]
                    refine ⟨b, ?_⟩
                    have := tokenL_kind _ hk (by simpa using he)
                    intro f
                    simp only at f
                    omega
                  · obtain ⟨rfl, rfl, -⟩ := nameS_ok2 h
                    rw [a]
                    exact ⟨b, by simp⟩
theorem skipS_head : ∀ (l : List UInt8) (m : Bool) {c : UInt8} {r : List UInt8}, skipS m l = c :: r → blankB c = false ∧ c ≠ 37
 | [], m, c, r, h => by cases m <;> simp [skipS] at h
 | x :: t, false, c, r, h => by
  unfold skipS at h
  split at h
  ·
   exact skipS_head t true h
  ·
   split at h
   ·
    exact skipS_head t false h
   ·
    simp only [List.cons.injEq] at h
    obtain ⟨rfl, rfl⟩ := h
    exact ⟨by simp_all, by assumption⟩
 | x :: t, true, c, r, h => by
  unfold skipS at h
  split at h
  ·
   exact skipS_head t false h
  ·
   exact skipS_head t true h
theorem tokS_step {l : List UInt8} {t : TokV} {s : List UInt8} (h : tokS l = .ok (t, s)) : (t.kind = 0 ∧ s = []) ∨ (t.kind ≠ 0 ∧ s.length < l.length) := by
 unfold tokS at h
 split at h
 ·
  simp only [Except.ok.injEq, Prod.mk.injEq] at h
  obtain ⟨rfl, rfl⟩ := h
  exact Or.inl ⟨rfl, rfl⟩
 ·
  next c r hs =>
  have hh := skipS_head l false hs
  obtain ⟨d, b⟩ := tokC_len (t := t) (s := s) hh.1 hh.2 h
  have a := skipS_len l false
  rw [hs] at a
  simp only [List.length_cons] at a
  exact Or.inr ⟨b, by omega⟩
theorem textS_err0 {o : Option (List UInt8 × List UInt8)} {k : Int} (h : textS o = .error k) : k = 14 ∨ k = 9 := by
 unfold textS at h
 split at h
 ·
  cases h; exact Or.inl rfl
 ·
  split at h
  ·
   cases h; exact Or.inr rfl
  ·
   cases h
theorem nameS_err0 {i : Int} {l : List UInt8} {k : Int} (h : nameS i l = .error k) : k = 9 := by
 unfold nameS at h
 split at h
 ·
  cases h; rfl
 ·
  cases h
theorem tokC_err0 {c : UInt8} {r : List UInt8} {k : Int} (h : tokC c r = .error k) : k ≠ 0 := by
 have ht : ∀ {o : Option (List UInt8 × List UInt8)}, textS o = .error k → k ≠ 0 := fun h => by rcases textS_err0 h with rfl | rfl <;> decide
 have hn : ∀ {i : Int} {l : List UInt8}, nameS i l = .error k → k ≠ 0 := fun h => by rw [nameS_err0 h]; decide
 unfold tokC at h
 split at h
 ·
  exact ht h
 ·
  split at h
  ·
   cases h; decide
  ·
   split at h
   ·
    unfold angleS at h
    split at h
    ·
     split at h
     ·
      cases h
     ·
      split at h
      ·
       exact ht h
      ·
       cases h; decide
    ·
     split at h
     ·
      exact ht h
     ·
      cases h; decide
   ·
    split at h
    ·
     cases h
    ·
     split at h
     ·
      cases h
     ·
      split at h
      ·
       cases h
      ·
       split at h
       ·
        unfold slashS at h
        split at h
        ·
         split at h
         ·
          exact hn h
         ·
          exact hn h
        ·
         exact hn h
       ·
        unfold wordS at h
        simp only at h
        split at h
        ·
         next he => cases h; exact he
        ·
         split at h
         ·
          cases h
         ·
          exact hn h
theorem tokS_err0 {l : List UInt8} (h : tokS l = .error 0) : False := by
 unfold tokS at h
 split at h
 ·
  cases h
 ·
  exact tokC_err0 (k := 0) h rfl
theorem nextR_step (l : List UInt8) (a : Nat) (ha : a ≤ l.length) : (nextR l a).e ≠ 0 ∨ ((nextR l a).k = 0 ∧ (nextR l a).at' = l.length) ∨ ((nextR l a).k ≠ 0 ∧ (a : Int) < (nextR l a).at' ∧ (nextR l a).at' ≤ l.length) := by
 have e : nextR l a = nrOf l (tokS (l.drop a)) := by unfold nextR; rw [if_neg oO]; rfl
 rw [e]
 cases h : tokS (l.drop a) with
 | error k =>
  by_cases hk : k = 0
  ·
   exfalso; subst hk; exact tokS_err0 h
  ·
   exact Or.inl hk
 | ok p =>
  obtain ⟨t, s⟩ := p
  right
  simp only [nrOf]
  rcases tokS_step h with ⟨b, rfl⟩ | ⟨b, c⟩
  ·
   exact Or.inl ⟨b, by simp⟩
  ·
   rw [List.length_drop] at c
   exact Or.inr ⟨b, by omega, by omega⟩
end
section
def decN : List UInt8 → Option (List UInt8)
 | [] => some []
 | [c] => if c = 35 then none else some [c]
 | [c, a] => if c = 35 then none else (decN [a]).map (c :: ·)
 | c :: a :: b :: r =>
  if c = 35 then (if hexN a < 16 ∧ hexN b < 16 then (decN r).map (ch ((16 * hexN a + hexN b : Nat) : Int) :: ·) else none)
  else (decN (a :: b :: r)).map (c :: ·)
def nameP (l : List UInt8) (t : Nat) : Except Int (List UInt8 × Nat) :=
 match decN (wordL l t) with
 | none => .error 23
 | some out => if out = [] ∨ 0 ∈ out then .error 23 else if 127 < out.length then .error 25 else .ok (out, wordAt l t)
def pOpen (c : UInt8) : Bool := c != 62 && (blankB c || decide (hexN c < 16))
def openB (l : List UInt8) (t : Nat) : Bool := if l[t]? = some 60 then (l.drop (t + 1)).all pOpen else true
def textR (l : List UInt8) (t : Nat) : Except Int (List UInt8 × Nat) :=
 if (nextR l t).e = 14 ∧ openB l t = true then .error 24
 else if (nextR l t).e = 9 then .error 25
 else if (nextR l t).e ≠ 0 ∨ (nextR l t).k ≠ 6 then .error 23
 else .ok ((nextR l t).s, (nextR l t).at'.toNat)
abbrev ObjE := Except Int (PV × Nat)
def listP (obj : Nat → ObjE) (l : List UInt8) : Nat → List PV → Nat → Except Int (List PV × Nat)
 | 0, _, _ => .error 24
 | f + 1, acc, t =>
  match l[skipAt false l t]? with
  | none => .error 24
  | some c =>
   if c = 93 then .ok (acc, skipAt false l t + 1)
   else if 65535 ≤ acc.length then .error 25
   else match obj (skipAt false l t) with
    | .error k => .error k
    | .ok (o, t') => listP obj l f (acc ++ [o]) t'
def pairsP (obj : Nat → ObjE) (l : List UInt8) : Nat → List (List UInt8) → List PV → Nat → Except Int (List (List UInt8) × List PV × Nat)
 | 0, _, _, _ => .error 24
 | f + 1, ks, os, t =>
  match l[skipAt false l t]? with
  | none => .error 24
  | some c =>
   if c = 62 ∧ l.length ≤ skipAt false l t + 1 then .error 24
   else if c = 62 ∧ l[skipAt false l t + 1]? = some 62 then .ok (ks, os, skipAt false l t + 2)
   else if c ≠ 47 then .error 23
   else match nameP l (skipAt false l t + 1) with
    | .error k => .error k
    | .ok (k, t1) =>
     if k ∈ ks then .error 23
     else if 65535 ≤ os.length then .error 25
     else match l[skipAt false l t1]? with
      | none => .error 24
      | some _ => match obj (skipAt false l t1) with
       | .error k => .error k
       | .ok (o, t') => pairsP obj l f (ks ++ [k]) (os ++ [o]) t'
def textP (l : List UInt8) (t : Nat) : ObjE := match textR l t with | .error k => .error k | .ok (s, t') => .ok (pv0 5 0 s, t')
def nameO (l : List UInt8) (t : Nat) : ObjE := match nameP l t with | .error k => .error k | .ok (s, t') => .ok (pv0 4 0 s, t')
def listO (r : Except Int (List PV × Nat)) : ObjE := match r with | .error k => .error k | .ok (os, t') => .ok (.mk 6 0 [] [] os, t')
def pairsO (r : Except Int (List (List UInt8) × List PV × Nat)) : ObjE := match r with | .error k => .error k | .ok (ks, os, t') => .ok (.mk 7 0 [] ks os, t')
def plainO (X : WR) : ObjE := if X.ok then .ok (pv0 X.kind X.n [], X.np) else .error 23
def objP (refs : Bool) (l : List UInt8) : Nat → Nat → ObjE
 | 0, t =>
  match l[t]? with
  | none => .error 24
  | some c =>
   if c = 47 then nameO l (t + 1)
   else if c = 91 then .error 25
   else if c = 40 then textP l t
   else if c = 60 then (if l.length ≤ t + 1 then .error 24 else if l[t + 1]? ≠ some 60 then textP l t else .error 25)
   else plainO (plexW refs l t)
 | d + 1, t =>
  match l[t]? with
  | none => .error 24
  | some c =>
   if c = 47 then nameO l (t + 1)
   else if c = 91 then listO (listP (objP refs l d) l (l.length + 1) [] (t + 1))
   else if c = 40 then textP l t
   else if c = 60 then (if l.length ≤ t + 1 then .error 24 else if l[t + 1]? ≠ some 60 then textP l t else pairsO (pairsP (objP refs l d) l (l.length + 1) [] [] (t + 2)))
   else plainO (plexW refs l t)
end
section
def digI (c : UInt8) : Int := match hexD c with | some d => (d : Int) | none => -1
theorem digI_cases (c : UInt8) : digI c = -1 ∧ 15 < hexN c ∨ digI c = hexN c ∧ hexN c < 16 := by
 unfold digI hexD
 by_cases h : hexN c < 16
 ·
  rw [if_pos h]; exact Or.inr ⟨rfl, h⟩
 ·
  rw [if_neg h]; exact Or.inl ⟨rfl, by omega⟩
theorem scan_digit (c : UInt8) (w : World) :
  Calls Tryz.prog 198 #[.int .u8 (c.toNat : Int)] w fun e w' => e = .returned (.int .i64 (digI c)) ∧ w = w' := by
 obtain ⟨R, hR⟩ : ∃ R : Int, R = digI c := ⟨_, rfl⟩
 rw [← hR]
 have hR' : R = if 48 ≤ c.toNat ∧ c.toNat ≤ 57 then (c.toNat : Int) - 48 else if 97 ≤ c.toNat ∧ c.toNat ≤ 102 then (c.toNat : Int) - 87 else if 65 ≤ c.toNat ∧ c.toNat ≤ 70 then (c.toNat : Int) - 55 else -1 := by
  rw [hR]; unfold digI hexD
  by_cases h1 : 48 ≤ c.toNat ∧ c.toNat ≤ 57; rw [show hexN c = c.toNat - 48 by unfold hexN; rw [if_pos h1], if_pos oO, if_pos h1]; show ((c.toNat - 48 : Nat) : Int) = _; omega
  rw [if_neg h1]
  by_cases m : 97 ≤ c.toNat ∧ c.toNat ≤ 102; rw [show hexN c = c.toNat - 87 by unfold hexN; rw [if_neg h1, if_pos oO], if_pos oO, if_pos m]; show ((c.toNat - 87 : Nat) : Int) = _; omega
  rw [if_neg m]
  by_cases h3 : 65 ≤ c.toNat ∧ c.toNat ≤ 70; rw [show hexN c = c.toNat - 55 by unfold hexN; rw [if_neg h1, if_neg oO, if_pos oO], if_pos oO, if_pos h3]; show ((c.toNat - 55 : Nat) : Int) = _; omega
  rw [if_neg h3, if_neg]; unfold hexN; rw [if_neg h1]
  split
  omega
  split <;> omega
 have hc : c.toNat < 256 := UInt8.toNat_lt c
 refine W.e func198 rfl ntmps198 bL ?_
 refine W.sr <| WL.Z rfl <| W.seq <| W.b <| W.sr <| WL.M rfl <| WL.O (.geq rfl rfl) <| WL.M rfl <| WL.gd rfl rfl rfl (fun f => ?_) (fun f => ?_)
 have C := dT f
 refine WL.M rfl <| WL.Y f <| WL.O (.leq rfl rfl) <| WL.O (.pkT rfl f rfl) <| WL.Z rfl <| W.cond rfl (fun m => ?_) (fun m => ?_)
 have D := dT m
 refine W.sr <| WL.M rfl <| WL.O (.sub rfl rfl (u8w oO)) <| WL.O (.cvt u5_ u3_ rfl (i64w oO)) <| WL.Z rfl <| W.ret (W.r1 rfl rfl ?_)
 exact ⟨ret_int (by rw [hR']; (repeat' split) <;> omega), rfl⟩
 have D := dF m
 refine W.sr <| WL.M rfl <| WL.O (.geq rfl rfl) <| WL.M rfl <| WL.gd rfl rfl rfl (fun g => ?_) (fun g => ?_)
 have E := dT g
 refine WL.M rfl <| WL.Y g <| WL.O (.leq rfl rfl) <| WL.O (.pkT rfl g rfl) <| WL.Z rfl <| W.cond rfl (fun s => ?_) (fun s => ?_)
 have F := dT s
 refine W.sr <| WL.M rfl <| WL.O (.sub rfl rfl (u8w oO)) <| WL.O (.cvt u5_ u3_ rfl (i64w oO)) <| WL.O (.add rfl rfl (i64w oO)) <| WL.Z rfl <| W.ret (W.r1 rfl rfl ?_)
 exact ⟨ret_int (by rw [hR']; (repeat' split) <;> omega), rfl⟩
 have F := dF s
 refine W.sr <| WL.M rfl <| WL.O (.geq rfl rfl) <| WL.M rfl <| WL.gd rfl rfl rfl (fun i => ?_) (fun i => ?_)
 have G := dT i
 refine WL.M rfl <| WL.Y i <| WL.O (.leq rfl rfl) <| WL.O (.pkT rfl i rfl) <| WL.Z rfl <| W.cond rfl (fun t => ?_) (fun t => ?_)
 have H := dT t
 refine W.sr <| WL.M rfl <| WL.O (.sub rfl rfl (u8w oO)) <| WL.O (.cvt u5_ u3_ rfl (i64w oO)) <| WL.O (.add rfl rfl (i64w oO)) <| WL.Z rfl <| W.ret (W.r1 rfl rfl ?_)
 exact ⟨ret_int (by rw [hR']; (repeat' split) <;> omega), rfl⟩
 have H := dF t
 refine W.k <| W.sr <| WL.Z rfl <| W.ret (W.r1 rfl rfl ?_)
 exact ⟨ret_int (by rw [hR']; (repeat' split) <;> omega), rfl⟩
 have G := dF i
 refine WL.N i <| WL.O (.pkF rfl i rfl) <| WL.Z rfl <| W.condF rfl rfl <| W.k <| W.sr <| WL.Z rfl <| W.ret (W.r1 rfl rfl ?_)
 exact ⟨ret_int (by rw [hR']; (repeat' split) <;> omega), rfl⟩
 have E := dF g
 refine WL.N g <| WL.O (.pkF rfl g rfl) <| WL.Z rfl <| W.condF rfl rfl <| W.sr <| WL.M rfl <| WL.O (.geq rfl rfl) <| WL.M rfl <| WL.gd rfl rfl rfl (fun j => ?_) (fun j => ?_)
 have J := dT j
 refine WL.M rfl <| WL.Y j <| WL.O (.leq rfl rfl) <| WL.O (.pkT rfl j rfl) <| WL.Z rfl <| W.cond rfl (fun u => ?_) (fun u => ?_)
 have K := dT u
 refine W.sr <| WL.M rfl <| WL.O (.sub rfl rfl (u8w oO)) <| WL.O (.cvt u5_ u3_ rfl (i64w oO)) <| WL.O (.add rfl rfl (i64w oO)) <| WL.Z rfl <| W.ret (W.r1 rfl rfl ?_)
 exact ⟨ret_int (by rw [hR']; (repeat' split) <;> omega), rfl⟩
 have K := dF u
 refine W.k <| W.sr <| WL.Z rfl <| W.ret (W.r1 rfl rfl ?_)
 exact ⟨ret_int (by rw [hR']; (repeat' split) <;> omega), rfl⟩
 have J := dF j
 refine WL.N j <| WL.O (.pkF rfl j rfl) <| WL.Z rfl <| W.condF rfl rfl <| W.k <| W.sr <| WL.Z rfl <| W.ret (W.r1 rfl rfl ?_)
 exact ⟨ret_int (by rw [hR']; (repeat' split) <;> omega), rfl⟩
 have C := dF f
 refine WL.N f <| WL.O (.pkF rfl f rfl) <| WL.Z rfl <| W.condF rfl rfl <| W.sr <| WL.M rfl <| WL.O (.geq rfl rfl) <| WL.M rfl <| WL.gd rfl rfl rfl (fun l => ?_) (fun l => ?_)
 have L := dT l
 refine WL.M rfl <| WL.Y l <| WL.O (.leq rfl rfl) <| WL.O (.pkT rfl l rfl) <| WL.Z rfl <| W.cond rfl (fun n => ?_) (fun n => ?_)
 have v := dT n
 refine W.sr <| WL.M rfl <| WL.O (.sub rfl rfl (u8w oO)) <| WL.O (.cvt u5_ u3_ rfl (i64w oO)) <| WL.O (.add rfl rfl (i64w oO)) <| WL.Z rfl <| W.ret (W.r1 rfl rfl ?_)
 exact ⟨ret_int (by rw [hR']; (repeat' split) <;> omega), rfl⟩
 have v := dF n
 refine W.sr <| WL.M rfl <| WL.O (.geq rfl rfl) <| WL.M rfl <| WL.gd rfl rfl rfl (fun a => ?_) (fun a => ?_)
 have x := dT a
 refine WL.M rfl <| WL.Y a <| WL.O (.leq rfl rfl) <| WL.O (.pkT rfl a rfl) <| WL.Z rfl <| W.cond rfl (fun o => ?_) (fun o => ?_)
 have y := dT o
 refine W.sr <| WL.M rfl <| WL.O (.sub rfl rfl (u8w oO)) <| WL.O (.cvt u5_ u3_ rfl (i64w oO)) <| WL.O (.add rfl rfl (i64w oO)) <| WL.Z rfl <| W.ret (W.r1 rfl rfl ?_)
 exact ⟨ret_int (by rw [hR']; (repeat' split) <;> omega), rfl⟩
 have y := dF o
 refine W.k <| W.sr <| WL.Z rfl <| W.ret (W.r1 rfl rfl ?_)
 exact ⟨ret_int (by rw [hR']; (repeat' split) <;> omega), rfl⟩
 have x := dF a
 refine WL.N a <| WL.O (.pkF rfl a rfl) <| WL.Z rfl <| W.condF rfl rfl <| W.k <| W.sr <| WL.Z rfl <| W.ret (W.r1 rfl rfl ?_)
 exact ⟨ret_int (by rw [hR']; (repeat' split) <;> omega), rfl⟩
 have L := dF l
 refine WL.N l <| WL.O (.pkF rfl l rfl) <| WL.Z rfl <| W.condF rfl rfl <| W.sr <| WL.M rfl <| WL.O (.geq rfl rfl) <| WL.M rfl <| WL.gd rfl rfl rfl (fun d => ?_) (fun d => ?_)
 have A := dT d
 refine WL.M rfl <| WL.Y d <| WL.O (.leq rfl rfl) <| WL.O (.pkT rfl d rfl) <| WL.Z rfl <| W.cond rfl (fun q => ?_) (fun q => ?_)
 have B := dT q
 refine W.sr <| WL.M rfl <| WL.O (.sub rfl rfl (u8w oO)) <| WL.O (.cvt u5_ u3_ rfl (i64w oO)) <| WL.O (.add rfl rfl (i64w oO)) <| WL.Z rfl <| W.ret (W.r1 rfl rfl ?_)
 exact ⟨ret_int (by rw [hR']; (repeat' split) <;> omega), rfl⟩
 have B := dF q
 refine W.k <| W.sr <| WL.Z rfl <| W.ret (W.r1 rfl rfl ?_)
 exact ⟨ret_int (by rw [hR']; (repeat' split) <;> omega), rfl⟩
 have A := dF d
 refine WL.N d <| WL.O (.pkF rfl d rfl) <| WL.Z rfl <| W.condF rfl rfl <| W.k <| W.sr <| WL.Z rfl <| W.ret (W.r1 rfl rfl ?_)
 exact ⟨ret_int (by rw [hR']; (repeat' split) <;> omega), rfl⟩
theorem scan_name (k : Int) (s : List UInt8) (w : World) (hs : s.length ≤ 100000000) :
  Calls Tryz.prog 155 #[.int .i64 k, .string (bs s)] w (Ends 30 (if 127 < s.length then .error 9 else .ok (⟨k, 0, s⟩ : TokV)) TokV.val (fun _ w' => Below w.heap.size w w') (fun w' => Below w.heap.size w w')) := by
 refine W.e func155 rfl ntmps155 bL ?_
 have a := br_ (w.heap.size) w
 refine W.sr <| WL.al z147_ rfl (fun u t b d f o => ?_)
 have c := uB a b f
 have n := bge b a.size
 refine WL.e <| W.seq <| W.sr <| WL.M rfl <| WL.O (.len u9_ rfl) <| WL.O (.gtr rfl rfl) <| WL.e <| W.cond rfl (fun g => ?_) (fun g => ?_)
 have l := dT g
 refine W.reg <| WL.O (.mkI u30_ rfl) <| WL.panic rfl (pn_is ?_)
 exact Ends.err 9 (by rw [if_pos oO]) c
 have l := dF g
 refine W.k <| W.sr <| WL.M rfl <| WL.M rfl <| ?_
 refine WL.O (.buildL (ps := _) blt147 rfl rfl rfl pS) ?_
 refine WL.stL rfl rfl d isz147 rfl rfl (fun v i j q => ?_)
 have m := ub_ c oO j
 refine WL.e <| W.ret (W.retc1 rfl rfl (ldRow i u147_ rfl isz147)  ?_)
 exact Ends.ok ⟨k, 0, s⟩ (by rw [if_neg oO]) rfl m
theorem scan_text (p : Option Addr) (s : List UInt8) (c : Nat) (w : World) (hb : BytesAt w p s) (hs : s.length ≤ 100000000) :
  Calls Tryz.prog 180 #[.slice p s.length c] w (Ends 30 (if 65535 < s.length then .error 9 else .ok (⟨6, 0, s⟩ : TokV)) TokV.val (fun _ w' => Below w.heap.size w w') (fun w' => Below w.heap.size w w')) := by
 refine W.e func180 rfl ntmps180 bL ?_
 have d := br_ (w.heap.size) w
 refine W.sr <| WL.al z147_ rfl (fun B A a g b v => ?_)
 have i := fun x => a ▸ hb.lt x
 have o := bup hb b i
 have f := uB d a b
 have u := bge a d.size
 refine WL.e <| W.seq <| W.sr <| WL.M rfl <| WL.O (.lenS u22_ rfl) <| WL.O (.gtr rfl rfl) <| WL.e <| W.cond rfl (fun j => ?_) (fun j => ?_)
 have q := dT j
 refine W.reg <| WL.O (.mkI u30_ rfl) <| WL.panic rfl (pn_is ?_)
 exact Ends.err 9 (by rw [if_pos oO]) f
 have q := dF j
 refine W.k <| W.sr <| WL.M rfl <| WL.R (Rd.b2s (l := s) u22_ u5_ u9_ rfl (o)) <| ?_
 refine WL.O (.buildL (ps := _) blt147 rfl rfl rfl pS) ?_
 refine WL.stL rfl rfl g isz147 rfl rfl (fun C m n y => ?_)
 have t := ub_ f oO n
 refine WL.e <| W.ret (W.retc1 rfl rfl (ldRow m u147_ rfl isz147)  ?_)
 exact Ends.ok ⟨6, 0, s⟩ (by rw [if_neg oO]) rfl t
def regT (l : List UInt8) (t : Nat) : Bool := decide (t < l.length) && regB l[t]!
theorem regT_t {l : List UInt8} {t : Nat} (h : regT l t = true) : t < l.length ∧ wordAt l t = wordAt l (t + 1) := by
 unfold regT at h
 simp only [Bool.and_eq_true, decide_eq_true_eq] at h
 obtain ⟨a, b⟩ := h
 rw [getElem!_pos l t a] at b
 refine ⟨a, ?_⟩
 unfold wordAt
 rw [takeWhile_drop regB l t a, if_pos b, List.length_cons]; omega
theorem regT_f {l : List UInt8} {t : Nat} (h : regT l t = false) : wordAt l t = t := by
 unfold wordAt
 by_cases h1 : t < l.length
 ·
  unfold regT at h
  rw [decide_eq_true h1, Bool.true_and, getElem!_pos l t h1] at h
  rw [takeWhile_drop regB l t h1, if_neg (bF h)]; rfl
 ·
  rw [List.drop_eq_nil_of_le oO]; rfl
theorem regular_q (x : UInt8) (w : World) (m : Nat) : Calls Tryz.prog 182 #[.int .u8 (x.toNat : Int)] (w.drewN m) fun e w' => e = .returned (.bool (regB x)) ∧ ∃ k, w' = w.drewN k :=
 (scan_regular x (w.drewN m)).mono fun e w' h => ⟨h.1, m, h.2.symm⟩
theorem scan_word (r : Nat) (p : Option Addr) (l : List UInt8) (c a : Nat) (w : World) (h : RdOk w r p l c a) (hne : 0 < l.length → (pA p).block ≠ r) (hc : l.length ≤ c) (hl : l.length ≤ 100000000) (ha : a ≤ l.length) :
  Calls Tryz.prog 154 #[.pointer (some ⟨r, 0, none⟩)] w fun e w' => e = .returned (.string (bs ((l.drop a).takeWhile regB))) ∧ RdOk w' r p l c (wordAt l a) ∧ Touch w.heap.size r w w' := by
 have hr := h.1
 have hb := h.2
 refine W.e func154 rfl ntmps154 bL ?_
 refine W.sr <| WL.Z rfl <| W.sr <| WL.M rfl <| WL.O (.nck rfl) <| WL.O (.fa u180_ rfl s3_ dD rfl) <| WL.R (Rd.ld (g3_ _) rfl hr rfl) <| WL.Z rfl <| W.seq <| W.b <| W.loop (α := Nat) (fun t => [(0, .pointer (some ⟨r, 0, none⟩)), (3, .int .i64 (a : Int))]) (fun t w' => RdOk w' r p l c t ∧ Touch w.heap.size r w w' ∧ a ≤ t ∧ t ≤ l.length ∧ wordAt l t = wordAt l a) (fun t => l.length - t) (a) ⟨rfl, rfl, tT⟩ (⟨h, Touch.refl _ _ _, nr_ _, ha, rfl⟩) (fun t K hR => ?_)
 obtain ⟨f, hT, v, ht, hw⟩ := hR
 refine W.seq <| W.cutBQ 22 (regT l t) ?_ (fun K q => ?_)
 refine W.regQ mixed kR <| WQ.p (.mv rfl) rfl <| WQ.c1 hB_ rfl rfl (fun m => (more_q r p l c t _ ⟨f.1, f.2⟩ m)) <| WQ.p (.mv rfl) rfl <| WQ.gd rfl rfl rfl (fun d => ?_) (fun d => ?_)
 have D := dT d
 refine WQ.p (.mv rfl) rfl <| WQ.gy rfl rfl rfl d <| WQ.p (.nck rfl) rfl <| WQ.gy rfl rfl rfl d <| WQ.p (.fa u180_ rfl s22_ dD rfl) rfl <| WQ.gy rfl rfl rfl d <| WQ.r (fun m => Rd.ld (g22_ _) rfl f.1 rfl) rfl <| WQ.gy rfl rfl rfl d <| WQ.p (.mv rfl) rfl <| WQ.gy rfl rfl rfl d <| WQ.p (.nck rfl) rfl <| WQ.gy rfl rfl rfl d <| WQ.p (.fa u180_ rfl s3_ dD rfl) rfl <| WQ.gy rfl rfl rfl d <| WQ.r (fun m => Rd.ld (g3_ _) rfl f.1 rfl) rfl <| WQ.gy rfl rfl rfl d <| WQ.p (.ixb u22_ s5_ rfl rfl (f.2.isp (by first | omega | exact nz_ _)) (t) oO oO) rfl <| WQ.gy rfl rfl rfl d <| WQ.r (fun m => Rd.ldc (g5_ _) rfl ((f.2.drewN m).cells (t) oO)) rfl <| WQ.gy rfl rfl rfl d <| WQ.c1 hB_ rfl rfl (fun m => (regular_q _ _ m)) <| WQ.p (.pkT rfl d rfl) rfl <| WQ.nil (fun P E => ?_)
 exact ⟨leE (lk_b rfl (by (by_cases hq : t < l.length) <;> (unfold regT; first | (exfalso; omega) | (rw [getElem!_pos l t hq, decide_eq_true hq]; rfl) | (rw [decide_eq_false hq]; simp_all; done)))), E⟩
 have D := dF d
 refine WQ.gn rfl rfl rfl d <| WQ.gn rfl rfl rfl d <| WQ.gn rfl rfl rfl d <| WQ.gn rfl rfl rfl d <| WQ.gn rfl rfl rfl d <| WQ.gn rfl rfl rfl d <| WQ.gn rfl rfl rfl d <| WQ.gn rfl rfl rfl d <| WQ.gn rfl rfl rfl d <| WQ.gn rfl rfl rfl d <| WQ.p (.pkF rfl d rfl) rfl <| WQ.nil (fun Q F => ?_)
 exact ⟨leE (lk_b rfl (by (by_cases hq : t < l.length) <;> (unfold regT; first | (exfalso; omega) | (rw [getElem!_pos l t hq, decide_eq_true hq]; rfl) | (rw [decide_eq_false hq]; simp_all; done)))), F⟩
 have i := f.1.drew q
 have n := f.2.drew q
 have s := tt_ hT (td_ q)
 refine W.cond rfl (fun G => ?_) (fun G => ?_)
 obtain ⟨u, L⟩ := regT_t aS
 refine W.k <| W.b <| W.reg <| WL.M rfl <| WL.O (.nck rfl) <| WL.O (.fa u180_ rfl s3_ dD rfl) <| WL.R (Rd.ld (g3_ _) rfl i rfl) <| WL.O (.iis (((t + 1 : Nat) : Int)) (.add rfl rfl (i64w oO)) oO) <| WL.O (.nck rfl) <| WL.O (.fa u180_ rfl s3_ dD rfl) <| WL.st s3_ rfl rfl rfl i oD (fun H j g J => ?_)
 have j : Blk H r _ _ := j
 have g : Upd r _ _ := g
 have x := BytesAt.upd n g hne
 have y := tt_ s (Touch.of_upd g)
 refine WL.e <| ?_
 exact ⟨t + 1, ⟨rfl, rfl, tT⟩, ⟨⟨j, x⟩, y, by omega, by omega, by omega⟩, by omega⟩
 have u := regT_f aS
 refine W.exit <| W.seq <| W.regQ mixed kR <| WQ.p (.mv rfl) rfl <| WQ.p (.nck rfl) rfl <| WQ.p (.fa u180_ rfl s22_ dD rfl) rfl <| WQ.r (fun m => Rd.ld (g22_ _) rfl i rfl) rfl <| WQ.p (.mv rfl) rfl <| WQ.p (.mv rfl) rfl <| WQ.p (.nck rfl) rfl <| WQ.p (.fa u180_ rfl s3_ dD rfl) rfl <| WQ.r (fun m => Rd.ld (g3_ _) rfl i rfl) rfl <| WQ.p (.slb u22_ s5_ rfl rfl rfl  (a) (t) (rfl) (rfl) (v) oO) rfl <| WQ.r (fun m => Rd.b2sPart u22_ u5_ u9_ rfl rfl (n.drewN m) v ht hc) rfl <| WQ.p (.as rfl) rfl <| WQ.nil (fun N o => ?_)
 have A := i.drew o
 have B := n.drew o
 have C := tt_ s (td_ o)
 refine W.ret (W.r1 rfl rfl ?_)
 exact ⟨ret_val (by rw [← word_take, ← hw, u]), ⟨by rw [← hw, u]; exact A, B⟩, C⟩
theorem nameS_err {k e : Int} {l : List UInt8} (h : (if 127 < (l.takeWhile regB).length then (.error 9 : Except Int TokV) else .ok ⟨k, 0, l.takeWhile regB⟩) = .error e) : nameS k l = .error e := by
 unfold nameS
 split at h
 ·
  next h1 => rw [if_pos h1]; cases h; rfl
 ·
  cases h
theorem nameS_ok {k : Int} {l : List UInt8} {a : TokV} (h : (if 127 < (l.takeWhile regB).length then (.error 9 : Except Int TokV) else .ok ⟨k, 0, l.takeWhile regB⟩) = .ok a) : nameS k l = .ok (a, l.dropWhile regB) := by
 unfold nameS
 split at h
 ·
  cases h
 ·
  next h1 => rw [if_neg h1]; cases h; rfl
theorem word_len (l : List UInt8) (t : Nat) : ((l.drop t).takeWhile regB).length ≤ l.length := by
 have := (List.takeWhile_sublist regB (l := l.drop t)).length_le
 rw [List.length_drop] at this; omega
def Read (w0 : World) (r : Nat) (p : Option Addr) (l : List UInt8) (c : Nat) (a : TokV × List UInt8) (w' : World) : Prop := ∃ k, a.2 = l.drop k ∧ k ≤ l.length ∧ RdOk w' r p l c k ∧ Touch w0.heap.size r w0 w'
theorem scan_slash (r : Nat) (p : Option Addr) (l : List UInt8) (c t : Nat) (w : World) (h : RdOk w r p l c t) (hne : 0 < l.length → (pA p).block ≠ r) (hc : l.length ≤ c) (hl : l.length ≤ 100000000) (ht : t ≤ l.length) :
  Calls Tryz.prog 153 #[.pointer (some ⟨r, 0, none⟩)] w (Ends 30 (slashS (l.drop t)) (fun a => a.1.val) (Read w r p l c) (fun w' => Touch w.heap.size r w w')) := by
 have hr := h.1
 have hb := h.2
 have hy := slash_eq (l := l) (s := t) (d := (l[t]?).getD 0) rfl
 refine W.e func153 rfl ntmps153 bL ?_
 have U := Touch.refl (w.heap.size) r w
 refine W.sr <| WL.al z147_ rfl (fun b1 az E F y ay => ?_)
 have ag := bgl E hr.lt
 have ah := hr.un y ag
 have A := fun G => E ▸ hb.lt G
 have ai := bup hb y A
 have Q := bge E U.size
 have V := tt_ U (tn_ y Q)
 refine WL.e <| W.seq <| W.sr <| WL.M rfl <| WL.c1 hB_ rfl rfl ((scan_next r p l c t 47 _ ⟨ah, ai⟩ hne hl ht)) (fun w7 B => ?_)
 have C := B.1.1
 have D := bo_ F B.2 F.lt oO
 have H := B.1.2
 have g := tt_ V (tm_ B.2 V.size)
 refine WL.e <| W.cond rfl (fun aj => ?_) (fun aj => ?_)
 obtain ⟨ak, am⟩ := nextB_t (x := 47) aS
 rw [if_pos aS] at C
 rw [if_pos (by rw [List.getElem?_eq_getElem ak, am]; rfl)] at hy
 refine W.sr <| WL.M rfl <| WL.c1 hB_ rfl rfl ((scan_word r p l c (t + 1) _ ⟨C, H⟩ hne hc hl oO)) (fun aA i => ?_)
 have X := i.1.1
 have Y := bo_ D i.2 D.lt oO
 have J := i.1.2
 have j := tt_ g (tm_ i.2 g.size)
 refine WL.ce hB_ rfl rfl ((scan_name 5 _ _ (by have := word_len l (t + 1); omega))) (fun an ao m b => ?_) (fun ap ao m b => ?_)
 have K := tt_ j (tm_ (tb_ b) j.size)
 exact pn_is (Ends.err an (by rw [hy]; exact nameS_err m) K)
 have Z := X.bl b
 have a1 := Y.bl b
 have a2 := bb_ J b (fun G => J.lt G)
 have a3 := tt_ j (tm_ (tb_ b) j.size)
 obtain ⟨L, aq⟩ : ∃ L, L = ap := ⟨_, rfl⟩
 have N := m
 refine WL.stL rfl rfl a1 isz147 rfl rfl (fun aB R n aw => ?_)
 have a4 := Z.up n
 have a5 := bup a2 n A
 have a6 := tt_ a3 (tn_ n oO)
 refine WL.e <| W.ret (W.retc1 rfl rfl (ldRow R u147_ rfl isz147)  ?_)
 exact Ends.ok (_, l.drop (wordAt l (t + 1))) (by rw [hy, nameS_ok N, word_drop]) rfl ⟨_, rfl, (wordAt_le l (t + 1) oO).2, ⟨a4, a5⟩, a6⟩
 rw [if_neg (bF aS)] at C
 rw [if_neg (by
  by_cases hq : t < l.length; rw [List.getElem?_eq_getElem hq]; exact nextB_f (x := 47) aS hq; rw [List.getElem?_eq_none oO]; decide)] at hy
 refine W.k <| W.sr <| WL.M rfl <| WL.c1 hB_ rfl rfl ((scan_word r p l c t _ ⟨C, H⟩ hne hc hl oO)) (fun aC o => ?_)
 have a7 := o.1.1
 have a8 := bo_ D o.2 D.lt oO
 have O := o.1.2
 have q := tt_ g (tm_ o.2 g.size)
 refine WL.ce hB_ rfl rfl ((scan_name 4 _ _ (by have := word_len l t; omega))) (fun ar au u f => ?_) (fun av au u f => ?_)
 have P := tt_ q (tm_ (tb_ f) q.size)
 exact pn_is (Ends.err ar (by rw [hy]; exact nameS_err u) P)
 have a9 := a7.bl f
 have aa := a8.bl f
 have ab := bb_ O f (fun G => O.lt G)
 have ac := tt_ q (tm_ (tb_ f) q.size)
 obtain ⟨L, aq⟩ : ∃ L, L = av := ⟨_, rfl⟩
 have N := u
 refine WL.stL rfl rfl aa isz147 rfl rfl (fun aD T v ax => ?_)
 have ad := a9.up v
 have ae := bup ab v A
 have af := tt_ ac (tn_ v oO)
 refine WL.e <| W.ret (W.retc1 rfl rfl (ldRow T u147_ rfl isz147)  ?_)
 exact Ends.ok (_, l.drop (wordAt l t)) (by rw [hy, nameS_ok N, word_drop]) rfl ⟨_, rfl, (wordAt_le l t oO).2, ⟨ad, ae⟩, af⟩
end
section
theorem or_16 (h d : Nat) (hh : h < 16) (hd : d < 16) : bits .or .i64 ((h : Int) * 16) (d : Int) = (h : Int) * 16 + d := by
 have key : ∀ h d : Fin 16, bits .or .i64 ((h.1 : Int) * 16) (d.1 : Int) = (h.1 : Int) * 16 + d.1 := by decide +kernel
 exact key ⟨h, hh⟩ ⟨d, hd⟩
theorem Pure.shl4 {P : Program} {f : Fr} {x : Operand} {tx ty : TypeId} {a : Int} (hx : evo f x = some (.int .i64 a)) (r : Int) (hr : IntKind.i64.wrap (a * 16) = r) : Pure P (.binOp .shl tx x (.const (.int .u64 4)) ty) f (.int .i64 r) := fun ρ hρ d ty' pos aft g w => by
 have h4 : ρ (.const (.int .u64 4)) = .int .u64 4 := hρ _ _ rfl
 simp [execOp, hρ _ _ hx, h4, eqGuard, binOp, shift_shl_i64, hr]
theorem Pure.or {P : Program} {f : Fr} {x y : Operand} {k : IntKind} {tx ty : TypeId} {a b r : Int} (hx : evo f x = some (.int k a)) (hy : evo f y = some (.int k b)) (hr : bits .or k a b = r) : Pure P (.binOp .or tx x y ty) f (.int k r) := fun ρ hρ d ty' pos aft g w => by
 simp [execOp, hρ _ _ hx, hρ _ _ hy, eqGuard, binOp, intBits_or, hr]
theorem takeS_err {l : List UInt8} {t : Nat} {k : Int} (h : takeS l t = .error k) : l.length ≤ t ∧ k = 14 := by
 unfold takeS at h
 split at h
 ·
  cases h
 ·
  next h1 => cases h; exact ⟨List.getElem?_eq_none_iff.1 h1, rfl⟩
theorem takeS_ok {l : List UInt8} {t : Nat} {x : UInt8} (h : takeS l t = .ok x) : ∃ ht : t < l.length, x = l[t]'ht := by
 unfold takeS at h
 split at h
 ·
  next h1 => cases h; obtain ⟨a, b⟩ := List.getElem?_eq_some_iff.1 h1; exact ⟨a, b.symm⟩
 ·
  cases h
theorem textS_err {e : Int} {s r : List UInt8} (h : (if 65535 < s.length then (.error 9 : Except Int TokV) else .ok ⟨6, 0, s⟩) = .error e) : textS (some (s, r)) = .error e := by
 simp only [textS]
 split at h
 ·
  next h1 => rw [if_pos h1]; cases h; rfl
 ·
  cases h
theorem textS_ok {s r : List UInt8} {a : TokV} (h : (if 65535 < s.length then (.error 9 : Except Int TokV) else .ok ⟨6, 0, s⟩) = .ok a) : textS (some (s, r)) = .ok (a, r) := by
 simp only [textS]
 split at h
 ·
  cases h
 ·
  next h1 => rw [if_neg h1]; cases h; rfl
theorem scan_hex (r : Nat) (p : Option Addr) (l : List UInt8) (c t : Nat) (w : World) (h : RdOk w r p l c t) (hne : 0 < l.length → (pA p).block ≠ r) (hc : l.length ≤ c) (hl : l.length ≤ 100000000) (ht : t ≤ l.length) :
  Calls Tryz.prog 181 #[.pointer (some ⟨r, 0, none⟩)] w (Ends 30 (textS (hexS none [] (l.drop t))) (fun a => a.1.val) (Read w r p l c) (fun w' => Touch w.heap.size r w w')) := by
 have hr := h.1
 have hb := h.2
 obtain ⟨R, hR⟩ : ∃ R, R = hexS none [] (l.drop t) := ⟨_, rfl⟩
 rw [← hR]
 obtain ⟨a, rfl⟩ : ∃ a, a = t := ⟨t, rfl⟩
 refine W.e func181 rfl ntmps181 bL ?_
 have aw := Touch.refl (w.heap.size) r w
 refine W.sr <| WL.al z147_ rfl (fun Y bK a1 ay V bH => ?_)
 have be := bgl a1 hr.lt
 have bf := hr.un V be
 have X := fun E => a1 ▸ hb.lt E
 have bg := bup hb V X
 have aj := bge a1 aw.size
 have bh := tt_ aw (tn_ V aj)
 refine WL.e <| W.seq ?_
 have ax : 0 < l.length → (pA p).block < Y + 1 := fun E => by have := hb.lt E; omega
 have bM : r < Y := by have := hr.lt; omega
 refine W.reg <| WL.Z rfl <| W.sr <| WL.Z rfl <| W.seq <| W.b <| W.loop (α := Value × List UInt8 × Option Nat × Nat) (fun t => [(0, .pointer (some ⟨r, 0, none⟩)), (2, .pointer (some ⟨Y, 0, none⟩)), (3, t.1), (4, .int .i64 (hexI t.2.2.1))]) (fun t w' => RdOk w' r p l c t.2.2.2 ∧ Touch w.heap.size r w w' ∧ Blk w' Y #[.int .i64 0, .int .i64 0, .string ⟨#[]⟩] 147 ∧ Own 5 (Y + 1) w' t.1 (byteVals t.2.1) ∧ hexS t.2.2.1 t.2.1 (l.drop t.2.2.2) = R ∧ (∀ x, t.2.2.1 = some x → x < 16) ∧ t.2.1.length ≤ t.2.2.2 ∧ t.2.2.2 ≤ l.length) (fun t => l.length - t.2.2.2) ((.slice none 0 0, [], none, a)) ⟨rfl, rfl, rfl, rfl, tT⟩ (⟨⟨bf, bg⟩, bh, ay, Own.nil _ _ _, hR.symm, fun x hx => (by cases hx), nl_ _, ht⟩) (fun t w1 hR => ?_)
 obtain ⟨v, o, h, s⟩ := t
 obtain ⟨a2, hT, a3, a4, hw, K, bi, hs⟩ := hR
 simp only at a2 hT a3 a4 hw K bi hs ⊢
 refine W.b <| W.sr <| WL.M rfl <| WL.ce hB_ rfl rfl ((scan_take r p l c s _ ⟨a2.1, a2.2⟩ hne hl)) (fun k9 w7 L F => ?_) (fun a8 w7 L F => ?_)
 have ak := tt_ hT (tm_ F hT.size)
 exact pn_is (Ends.err k9 (by rw [(takeS_err L).2, ← hw, List.drop_eq_nil_of_le (takeS_err L).1]; (first | done | rfl)) ak)
 have G := Own.touch' a4 F.2 oO
 have i := F.1.1
 have j := bo_ a3 F.2 a3.lt oO
 have g := F.1.2
 have f := tt_ hT (tm_ F.2 hT.size)
 obtain ⟨bj, hx⟩ := takeS_ok L
 obtain ⟨x, bk⟩ : ∃ x, x = a8 := ⟨_, rfl⟩
 rw [← bk] at hx ⊢
 have m := hexS_cons h o l s bj
 rw [← hx] at m
 refine WL.Z rfl <| W.seq <| W.sr <| WL.M rfl <| WL.c1 hB_ rfl rfl ((scan_blank x _)) (fun bN az => ?_)
 obtain rfl := az
 refine WL.e <| W.cond rfl (fun bm => ?_) (fun bm => ?_)
 refine W.exit ?_
 exact ⟨(_, o, h, s + 1), ⟨rfl, rfl, rfl, rfl, tT⟩, ⟨⟨i, g⟩, f, j, G, (by rw [← hw, m, if_pos aS]), K, by ((try simp only) <;> omega), by ((try simp only) <;> omega)⟩, by ((try simp only) <;> omega)⟩
 refine W.k <| W.seq <| W.sr <| WL.M rfl <| WL.O (.eql rfl rfl) <| WL.e <| W.cond rfl (fun a5 => ?_) (fun a5 => ?_)
 have aA := dT a5
 refine W.exit <| W.seq <| W.sr <| WL.M rfl <| WL.O (.geq rfl rfl) <| WL.e <| W.cond rfl (fun a6 => ?_) (fun a6 => ?_)
 have aB := dT a6
 obtain ⟨y, rfl⟩ : ∃ y, h = some y := by cases h with | none => exfalso; have : hexI none = -1 := rfl; omega | some y => exact ⟨y, rfl⟩
 have hy := K y rfl
 have bn : hexI (some y) = (y : Int) := rfl
 refine W.reg <| WL.M rfl <| WL.M rfl <| WL.O (.iis ((y : Int) * 16) (.shl4 rfl _ (i64w oO)) oO) <| WL.O (.cvt u3_ u5_ rfl (u8w oO)) <| WL.bsl (ps := _) u22_ s5_ z5_ rfl rfl rfl rfl rfl pR rfl (fun bO bI H am n bA => ?_)
 have aC := Own.new G H n
 have aD := bgl H i.lt
 have aE := i.un n aD
 have aF := bgl H j.lt
 have a7 := j.un n aF
 have an := fun E => H ▸ g.lt E
 have aG := bup g n an
 have a9 := bge H f.size
 have aH := tt_ f (tn_ n a9)
 refine WL.appm u22_ inf5 rfl rfl rfl aC rfl am rfl (by rw [byteVals_len]; omega) (a7.lt) rfl (fun bP bQ ao C bB => ?_)
 have aI := aE.below C oO
 have aJ := a7.below C oO
 have aa := bb_ aG C ax
 have N := tt_ aH (tb_ (C.mono oO))
 have aK := Own.snoc ao (ch ((y * 16 : Nat) : Int)) (by rw [ch_val _ oO oO]; omega)
 refine WL.Z rfl <| W.seq ?_
 obtain ⟨q, cq, rfl, ab, bo⟩ := Own.bytes aK
 refine W.reg <| WL.M rfl <| WL.ce hB_ rfl rfl ((scan_text q _ cq _ ab (by first | omega | (simp only [List.length_append, List.length_cons, List.length_nil]; omega)))) (fun bp bq P A => ?_) (fun bt bq P A => ?_)
 have ac := tt_ N (tm_ (tb_ A) N.size)
 exact pn_is (Ends.err bp (by rw [← hw, m, if_neg (bF aS), if_pos (u8_eq (d := 62) aS)]; exact textS_err P) ac)
 have aL := aI.bl A
 have aM := aJ.bl A
 have aN := bb_ aa A (fun E => aa.lt E)
 have aO := tt_ N (tm_ (tb_ A) N.size)
 obtain ⟨a0, bu⟩ : ∃ a0, a0 = bt := ⟨_, rfl⟩
 have ad := P
 refine WL.stL rfl rfl aM isz147 rfl rfl (fun bR ap Q bC => ?_)
 have aP := aL.up Q
 have aQ := bup aN Q X
 have aR := tt_ aO (tn_ Q oO)
 refine WL.e <| W.ret (W.retc1 rfl rfl (ldRow ap u147_ rfl isz147)  ?_)
 exact Ends.ok (_, l.drop (s + 1)) (by rw [← hw, m, if_neg (bF aS), if_pos (u8_eq (d := 62) aS)]; exact textS_ok ad) rfl ⟨_, rfl, by omega, ⟨aP, aQ⟩, aR⟩
 have aB := dF a6
 obtain rfl : h = none := by cases h with | none => rfl | some y => exfalso; have : hexI (some y) = (y : Int) := rfl; omega
 refine W.k <| W.seq ?_
 obtain ⟨q, cq, rfl, ab, bo⟩ := Own.bytes G
 refine W.reg <| WL.M rfl <| WL.ce hB_ rfl rfl ((scan_text q _ cq _ ab (by first | omega | (simp only [List.length_append, List.length_cons, List.length_nil]; omega)))) (fun bv bw T B => ?_) (fun bx bw T B => ?_)
 have ae := tt_ f (tm_ (tb_ B) f.size)
 exact pn_is (Ends.err bv (by rw [← hw, m, if_neg (bF aS), if_pos (u8_eq (d := 62) aS)]; exact textS_err T) ae)
 have aT := i.bl B
 have aU := j.bl B
 have aV := bb_ g B (fun E => g.lt E)
 have aW := tt_ f (tm_ (tb_ B) f.size)
 obtain ⟨a0, bu⟩ : ∃ a0, a0 = bx := ⟨_, rfl⟩
 have ad := T
 refine WL.stL rfl rfl aU isz147 rfl rfl (fun bS aq U bD => ?_)
 have aX := aT.up U
 have aY := bup aV U X
 have aZ := tt_ aW (tn_ U oO)
 refine WL.e <| W.ret (W.retc1 rfl rfl (ldRow aq u147_ rfl isz147)  ?_)
 exact Ends.ok (_, l.drop (s + 1)) (by rw [← hw, m, if_neg (bF aS), if_pos (u8_eq (d := 62) aS)]; exact textS_ok ad) rfl ⟨_, rfl, by omega, ⟨aX, aY⟩, aZ⟩
 have aA := dF a5
 refine W.k <| W.sr <| WL.M rfl <| WL.c1 hB_ rfl rfl ((scan_digit x _)) (fun bT a' => ?_)
 obtain rfl := a'
 have bz := digI_cases x
 refine WL.Z rfl <| W.b <| W.sr <| WL.M rfl <| WL.O (.lss rfl rfl) <| WL.Z rfl <| W.cond rfl (fun af => ?_) (fun af => ?_)
 have b0 := dT af
 refine W.reg <| WL.O (.mkI u30_ rfl) <| WL.panic rfl (pn_is ?_)
 exact Ends.err 14 (by rw [← hw, m, if_neg (bF aS), if_neg (u8_ne (d := 62) aS), if_pos oO]; (first | done | rfl)) f
 have b0 := dF af
 refine W.sr <| WL.M rfl <| WL.O (.lss rfl rfl) <| WL.Z rfl <| W.cond rfl (fun ag => ?_) (fun ag => ?_)
 have b2 := dT ag
 obtain rfl : h = none := by cases h with | none => rfl | some y => exfalso; have : hexI (some y) = (y : Int) := rfl; omega
 refine W.reg <| WL.M rfl <| WL.Z rfl ?_
 exact ⟨(_, o, some (hexN x), s + 1), ⟨rfl, rfl, rfl, lk_i rfl (by show digI x = (hexN x : Int); omega), tT⟩, ⟨⟨i, g⟩, f, j, G, (by rw [← hw, m, if_neg (bF aS), if_neg (u8_ne (d := 62) aS), if_neg oO]), fun z hz => (by obtain rfl := Option.some.inj hz; omega), by ((try simp only) <;> omega), by ((try simp only) <;> omega)⟩, by ((try simp only) <;> omega)⟩
 have b2 := dF ag
 obtain ⟨y, rfl⟩ : ∃ y, h = some y := by cases h with | none => exfalso; have : hexI none = -1 := rfl; omega | some y => exact ⟨y, rfl⟩
 have hy := K y rfl
 have bn : hexI (some y) = (y : Int) := rfl
 refine W.sr <| WL.M rfl <| WL.M rfl <| WL.O (.iis ((y : Int) * 16) (.shl4 rfl _ (i64w oO)) oO) <| WL.M rfl <| WL.O (.or rfl rfl (show bits .or .i64 ((y : Int) * 16) (digI x) = (y : Int) * 16 + (hexN x : Int) by rw [(bz.resolve_left (fun h => by have := h.1; omega)).1]; exact or_16 _ _ hy oO)) <| WL.O (.cvt u3_ u5_ rfl (u8w oO)) <| WL.bsl (ps := _) u22_ s5_ z5_ rfl rfl rfl rfl rfl pR rfl (fun bU bJ J ar u bE => ?_)
 have b3 := Own.new G J u
 have b4 := bgl J i.lt
 have b5 := i.un u b4
 have b6 := bgl J j.lt
 have ah := j.un u b6
 have au := fun E => J ▸ g.lt E
 have b7 := bup g u au
 have ai := bge J f.size
 have b8 := tt_ f (tn_ u ai)
 refine WL.appm u22_ inf5 rfl rfl rfl b3 rfl ar rfl (by rw [byteVals_len]; omega) (ah.lt) rfl (fun bV bW av D bG => ?_)
 have b9 := b5.below D oO
 have ba := ah.below D oO
 have bb := bb_ b7 D ax
 have bc := tt_ b8 (tb_ (D.mono oO))
 have bd := Own.snoc av (ch ((y * 16 + hexN x : Nat) : Int)) (by rw [ch_val _ oO oO]; omega)
 refine WL.Z rfl <| W.reg <| WL.Z rfl ?_
 exact ⟨(_, o ++ [_], none, s + 1), ⟨rfl, rfl, rfl, rfl, tT⟩, ⟨⟨b9, bb⟩, bc, ba, bd, (by rw [← hw, m, if_neg (bF aS), if_neg (u8_ne (d := 62) aS), if_neg oO]), fun z hz => (by cases hz), (by simp only [List.length_append, List.length_cons, List.length_nil]; omega), by ((try simp only) <;> omega)⟩, by ((try simp only) <;> omega)⟩
theorem BytesAt.two {w : World} {b : Nat} {c d : UInt8} {t : TypeId} (h : Blk w b #[.int .u8 (c.toNat : Int), .int .u8 (d.toNat : Int)] t) : BytesAt w (some ⟨b, 0, none⟩) [c, d] :=
 ⟨fun _ => rfl, fun j hj => by
  have e1 : (pA (some ⟨b, 0, none⟩)).add j = ⟨b, j, none⟩ := by
   show (⟨b, 0, none⟩ : Addr).add j = _
   unfold Addr.add; split
   ·
    next h => subst h; rfl
   ·
    simp
  rw [e1, h.cell j]
  match j, hj with
  | 0, _ => rfl
  | 1, _ => rfl⟩
theorem scan_angle (r : Nat) (p : Option Addr) (l : List UInt8) (c t : Nat) (x : UInt8) (w : World) (h : RdOk w r p l c t) (hne : 0 < l.length → (pA p).block ≠ r) (hc : l.length ≤ c) (hl : l.length ≤ 100000000) (ht : t ≤ l.length) (hx : x ≠ 0) :
  Calls Tryz.prog 152 #[.pointer (some ⟨r, 0, none⟩), .int .u8 (x.toNat : Int)] w (Ends 30 (angleS x (l.drop t)) (fun a => a.1.val) (Read w r p l c) (fun w' => Touch w.heap.size r w w')) := by
 have hr := h.1
 have hb := h.2
 have hy := angle_eq (l := l) (s := t) (c := x) (d := (l[t]?).getD 0) hx rfl
 refine W.e func152 rfl ntmps152 bL ?_
 have P := Touch.refl (w.heap.size) r w
 refine W.sr <| WL.al z147_ rfl (fun b1 ay C D u aw => ?_)
 have ae := bgl C hr.lt
 have af := hr.un u ae
 have v := fun T => C ▸ hb.lt T
 have ag := bup hb u v
 have H := bge C P.size
 have Q := tt_ P (tn_ u H)
 refine WL.e <| W.seq <| W.b <| W.sr <| WL.M rfl <| WL.M rfl <| WL.c1 hB_ rfl rfl ((scan_next r p l c t x _ ⟨af, ag⟩ hne hl ht)) (fun w7 A => ?_)
 have q := A.1.1
 have B := bo_ D A.2 D.lt oO
 have y := A.1.2
 have g := tt_ Q (tm_ A.2 Q.size)
 refine WL.Z rfl <| W.cond rfl (fun ah => ?_) (fun ah => ?_)
 obtain ⟨ai, aj⟩ := nextB_t (x := x) aS
 rw [if_pos aS] at q
 rw [if_pos (by rw [List.getElem?_eq_getElem ai, aj]; rfl)] at hy
 refine W.sr <| WL.M rfl <| WL.M rfl <| WL.bsl (ps := _) u22_ s5_ z5_ rfl rfl rfl rfl rfl pR rfl (fun az ax j J i ar => ?_)
 have U := bgl j q.lt
 have V := q.un i U
 have X := bgl j B.lt
 have Y := B.un i X
 have K := fun T => j ▸ y.lt T
 have a1 := bup y i K
 have E := bge j g.size
 have a2 := tt_ g (tn_ i E)
 refine WL.R (Rd.b2s (l := [x, x]) u22_ u5_ u9_ rfl (BytesAt.two J)) <| ?_
 refine WL.O (.buildL (ps := _) blt147 rfl rfl rfl pS) ?_
 refine WL.stL rfl rfl Y isz147 rfl rfl (fun aA L m au => ?_)
 have a3 := V.up m
 have a4 := bup a1 m v
 have a5 := tt_ a2 (tn_ m oO)
 refine WL.e <| W.ret (W.retc1 rfl rfl (ldRow L u147_ rfl isz147)  ?_)
 exact Ends.ok (⟨3, 0, [x, x]⟩, l.drop (t + 1)) hy rfl ⟨_, rfl, by omega, ⟨a3, a4⟩, a5⟩
 rw [if_neg (bF aS)] at q
 rw [if_neg (by
  by_cases hq : t < l.length; rw [List.getElem?_eq_getElem hq]; exact nextB_f (x := x) aS hq; rw [List.getElem?_eq_none oO]; exact fun e => hx e.symm)] at hy
 refine W.sr <| WL.M rfl <| WL.O (.eql rfl rfl) <| WL.Z rfl <| W.cond rfl (fun F => ?_) (fun F => ?_)
 have a6 := dT F
 refine W.sr <| WL.M rfl <| WL.ce hB_ rfl rfl ((scan_hex r p l c t _ ⟨q, y⟩ hne hc hl ht)) (fun ak am n f => ?_) (fun an am n f => ?_)
 have G := tt_ g (tm_ f g.size)
 exact pn_is (Ends.err ak (by rw [hy, if_pos (u8_eq aS)]; exact n) G)
 obtain ⟨kr, ao, ap, f⟩ := f
 have a7 := f.1.1
 have a8 := bo_ B f.2 B.lt oO
 have a9 := f.1.2
 have aa := tt_ g (tm_ f.2 g.size)
 have aq := n
 obtain ⟨a0, aB⟩ : ∃ a0, a0 = an := ⟨_, rfl⟩
 refine WL.stL rfl rfl a8 isz147 rfl rfl (fun aC N o av => ?_)
 have ab := a7.up o
 have ac := bup a9 o v
 have ad := tt_ aa (tn_ o oO)
 refine WL.e <| W.ret (W.retc1 rfl rfl (ldRow N u147_ rfl isz147)  ?_)
 exact Ends.ok _ (by rw [hy, if_pos (u8_eq aS)]; exact aq) rfl ⟨_, ao, ap, ⟨ab, ac⟩, ad⟩
 have a6 := dF F
 refine W.k <| W.reg <| WL.O (.mkI u30_ rfl) <| WL.panic rfl (pn_is ?_)
 exact Ends.err 14 (by rw [hy, if_neg (u8_ne (d := 60) aS)]) g
end
section
theorem next_lf (l : List UInt8) (t : Nat) (ht : t ≤ l.length) : t ≤ (if nextB l t 10 then t + 1 else t) ∧ (if nextB l t 10 then t + 1 else t) ≤ l.length ∧ l.drop (if nextB l t 10 then t + 1 else t) = dropLF (l.drop t) := by
 have e : nextB l t 10 = lfB l t := rfl
 rw [e]
 cases hb : lfB l t with
 | true => have := lfB_t hb; rw [if_pos rfl]; exact ⟨by omega, by omega, this.2.symm⟩
 | false => rw [if_neg (by simp)]; exact ⟨nr_ _, ht, (lfB_f hb).symm⟩
theorem scan_escape (B r : Nat) (p : Option Addr) (l : List UInt8) (c t : Nat) (x : UInt8) (v : Value) (o : List UInt8) (w : World) (h : RdOk w r p l c t) (hne : 0 < l.length → (pA p).block ≠ r) (hl : l.length ≤ 100000000) (ht : t ≤ l.length)
  (hrB : r < B) (hBw : B ≤ w.heap.size) (hpB : 0 < l.length → (pA p).block < B) (hown : Own 5 B w v (byteVals o)) (hol : o.length ≤ 500000000) :
  Calls Tryz.prog 178 #[.pointer (some ⟨r, 0, none⟩), v, .int .u8 (x.toNat : Int)] w fun e w' => ∃ v', e = .returned v' ∧ ∃ k, RdOk w' r p l c k ∧ Touch B r w w' ∧ Own 5 B w' v' (byteVals (o ++ (escS x (l.drop t)).1)) ∧ t ≤ k ∧ k ≤ l.length ∧ l.drop k = (escS x (l.drop t)).2 := by
 have hr := h.1
 have hb := h.2
 refine W.e func178 rfl ntmps178 bL ?_
 have f := Touch.refl (B) r w
 refine W.sr <| WL.Z rfl <| W.seq <| W.sr <| WL.M rfl <| WL.e <| W.b <| W.sr <| WL.O (.eql rfl rfl) <| WL.Z rfl <| W.cond rfl (fun h1 => ?_) (fun h1 => ?_)
 have cG := dT h1
 refine W.sr <| WL.M rfl <| WL.bsl (ps := _) u22_ s5_ z5_ rfl rfl rfl rfl rfl pR rfl (fun b2 dm ab bw R d2 => ?_)
 have cH := Own.new hown ab R
 have cI := bgl ab hr.lt
 have cJ := hr.un R cI
 have bx := fun i => ab ▸ hb.lt i
 have cK := bup hb R bx
 have aK := bge ab f.size
 have bp := tt_ f (tn_ R (nt_ hBw aK))
 refine WL.appm u22_ inf5 rfl rfl rfl cH rfl bw rfl (by rw [byteVals_len]; omega) ((nt_ hBw bp.size)) rfl (fun v9 dn aL T cQ => ?_)
 have bz := cJ.below T oO
 have bA := bb_ cK T hpB
 have bB := tt_ bp (tb_ (T.mono (nr_ _)))
 have bC := Own.snoc aL (10) (rfl)
 refine WL.Z rfl <| W.ret (W.r1 rfl rfl ?_)
 exact ⟨_, rfl, t, ⟨bz, bA⟩, bB, (by rw [show x = 110 from u8_eq aS, esc110]; exact bC), nr_ _, ht, (by rw [show x = 110 from u8_eq aS, esc110])⟩
 have cG := dF h1
 refine W.sr <| WL.O (.eql rfl rfl) <| WL.Z rfl <| W.cond rfl (fun ai => ?_) (fun ai => ?_)
 have bD := dT ai
 refine W.sr <| WL.M rfl <| WL.bsl (ps := _) u22_ s5_ z5_ rfl rfl rfl rfl rfl pR rfl (fun dp d3 U aM s cR => ?_)
 have bE := Own.new hown U s
 have bG := bgl U hr.lt
 have bH := hr.un s bG
 have aN := fun i => U ▸ hb.lt i
 have bI := bup hb s aN
 have aj := bge U f.size
 have ak := tt_ f (tn_ s (nt_ hBw aj))
 refine WL.appm u22_ inf5 rfl rfl rfl bE rfl aM rfl (by rw [byteVals_len]; omega) ((nt_ hBw ak.size)) rfl (fun dq dr aO V cS => ?_)
 have bJ := bH.below V oO
 have bK := bb_ bI V hpB
 have bM := tt_ ak (tb_ (V.mono (nr_ _)))
 have bN := Own.snoc aO (13) (rfl)
 refine WL.Z rfl <| W.ret (W.r1 rfl rfl ?_)
 exact ⟨_, rfl, t, ⟨bJ, bK⟩, bM, (by rw [show x = 114 from u8_eq aS, esc114]; exact bN), nr_ _, ht, (by rw [show x = 114 from u8_eq aS, esc114])⟩
 have bD := dF ai
 refine W.sr <| WL.O (.eql rfl rfl) <| WL.Z rfl <| W.cond rfl (fun al => ?_) (fun al => ?_)
 have bO := dT al
 refine W.sr <| WL.M rfl <| WL.bsl (ps := _) u22_ s5_ z5_ rfl rfl rfl rfl rfl pR rfl (fun ds d4 X aP y cT => ?_)
 have bP := Own.new hown X y
 have bQ := bgl X hr.lt
 have bR := hr.un y bQ
 have aQ := fun i => X ▸ hb.lt i
 have bS := bup hb y aQ
 have am := bge X f.size
 have an := tt_ f (tn_ y (nt_ hBw am))
 refine WL.appm u22_ inf5 rfl rfl rfl bP rfl aP rfl (by rw [byteVals_len]; omega) ((nt_ hBw an.size)) rfl (fun dt du aR a0 cU => ?_)
 have bT := bR.below a0 oO
 have bU := bb_ bS a0 hpB
 have bV := tt_ an (tb_ (a0.mono (nr_ _)))
 have bW := Own.snoc aR (9) (rfl)
 refine WL.Z rfl <| W.ret (W.r1 rfl rfl ?_)
 exact ⟨_, rfl, t, ⟨bT, bU⟩, bV, (by rw [show x = 116 from u8_eq aS, esc116]; exact bW), nr_ _, ht, (by rw [show x = 116 from u8_eq aS, esc116])⟩
 have bO := dF al
 refine W.sr <| WL.O (.eql rfl rfl) <| WL.Z rfl <| W.cond rfl (fun ao => ?_) (fun ao => ?_)
 have bX := dT ao
 refine W.sr <| WL.M rfl <| WL.bsl (ps := _) u22_ s5_ z5_ rfl rfl rfl rfl rfl pR rfl (fun dv d5 a1 aT A cV => ?_)
 have bY := Own.new hown a1 A
 have bZ := bgl a1 hr.lt
 have b' := hr.un A bZ
 have aU := fun i => a1 ▸ hb.lt i
 have c0 := bup hb A aU
 have ap := bge a1 f.size
 have aq := tt_ f (tn_ A (nt_ hBw ap))
 refine WL.appm u22_ inf5 rfl rfl rfl bY rfl aT rfl (by rw [byteVals_len]; omega) ((nt_ hBw aq.size)) rfl (fun dw dx aV a2 cW => ?_)
 have c2 := b'.below a2 oO
 have c3 := bb_ c0 a2 hpB
 have c4 := tt_ aq (tb_ (a2.mono (nr_ _)))
 have c5 := Own.snoc aV (8) (rfl)
 refine WL.Z rfl <| W.ret (W.r1 rfl rfl ?_)
 exact ⟨_, rfl, t, ⟨c2, c3⟩, c4, (by rw [show x = 98 from u8_eq aS, esc98]; exact c5), nr_ _, ht, (by rw [show x = 98 from u8_eq aS, esc98])⟩
 have bX := dF ao
 refine W.sr <| WL.O (.eql rfl rfl) <| WL.Z rfl <| W.cond rfl (fun ar => ?_) (fun ar => ?_)
 have c6 := dT ar
 refine W.sr <| WL.M rfl <| WL.bsl (ps := _) u22_ s5_ z5_ rfl rfl rfl rfl rfl pR rfl (fun dy d6 a3 aW C cX => ?_)
 have c7 := Own.new hown a3 C
 have c8 := bgl a3 hr.lt
 have c9 := hr.un C c8
 have aX := fun i => a3 ▸ hb.lt i
 have ca := bup hb C aX
 have au := bge a3 f.size
 have av := tt_ f (tn_ C (nt_ hBw au))
 refine WL.appm u22_ inf5 rfl rfl rfl c7 rfl aW rfl (by rw [byteVals_len]; omega) ((nt_ hBw av.size)) rfl (fun dz dA aY a4 cY => ?_)
 have cb := c9.below a4 oO
 have cc := bb_ ca a4 hpB
 have cd := tt_ av (tb_ (a4.mono (nr_ _)))
 have cf := Own.snoc aY (12) (rfl)
 refine WL.Z rfl <| W.ret (W.r1 rfl rfl ?_)
 exact ⟨_, rfl, t, ⟨cb, cc⟩, cd, (by rw [show x = 102 from u8_eq aS, esc102]; exact cf), nr_ _, ht, (by rw [show x = 102 from u8_eq aS, esc102])⟩
 have c6 := dF ar
 refine W.sr <| WL.O (.eql rfl rfl) <| WL.Z rfl <| W.cond rfl (fun aw => ?_) (fun aw => ?_)
 have cg := dT aw
 refine W.sr <| WL.M rfl <| WL.Z rfl <| W.ret (W.r1 rfl rfl ?_)
 exact ⟨_, rfl, t, ⟨hr, hb⟩, f, (by rw [show x = 10 from u8_eq aS, esc10, List.append_nil]; exact hown), nr_ _, ht, (by rw [show x = 10 from u8_eq aS, esc10])⟩
 have cg := dF aw
 refine W.sr <| WL.O (.eql rfl rfl) <| WL.Z rfl <| W.cond rfl (fun ax => ?_) (fun ax => ?_)
 have ci := dT ax
 have ay : x = 13 := u8_eq aS
 refine W.sr <| WL.M rfl <| WL.c1 hB_ rfl rfl ((scan_next r p l c t 10 _ ⟨hr, hb⟩ hne hl ht)) (fun dB a5 => ?_)
 have cj := Own.touch' hown a5.2 oO
 have ck := a5.1.1
 have cl := a5.1.2
 have cm := tt_ f (tm_ a5.2 (nt_ hBw f.size))
 refine WL.e <| W.sr <| WL.M rfl <| WL.Z rfl <| W.ret (W.r1 rfl rfl ?_)
 exact ⟨_, rfl, _, ⟨ck, cl⟩, cm, (by rw [ay, esc13, List.append_nil]; exact cj), (next_lf l t ht).1, (next_lf l t ht).2.1, (by rw [ay, esc13]; exact (next_lf l t ht).2.2)⟩
 have ci := dF ax
 refine W.k <| W.seq <| W.sr <| WL.M rfl <| WL.O (.lss rfl rfl) <| WL.M rfl <| WL.gd rfl rfl rfl (fun H => ?_) (fun H => ?_)
 have cn := dF H
 refine WL.M rfl <| WL.Y H <| WL.O (.gtr rfl rfl) <| WL.O (.pkF rfl H rfl) <| WL.e <| W.cond rfl (fun az => ?_) (fun az => ?_)
 have co := dT az
 refine W.sr <| WL.M rfl <| WL.M rfl <| WL.bsl (ps := _) u22_ s5_ z5_ rfl rfl rfl rfl rfl pR rfl (fun dC d7 a6 aZ D cZ => ?_)
 have cq := Own.new hown a6 D
 have cr := bgl a6 hr.lt
 have ct := hr.un D cr
 have a' := fun i => a6 ▸ hb.lt i
 have cu := bup hb D a'
 have aA := bge a6 f.size
 have aB := tt_ f (tn_ D (nt_ hBw aA))
 refine WL.appm u22_ inf5 rfl rfl rfl cq rfl aZ rfl (by rw [byteVals_len]; omega) ((nt_ hBw aB.size)) rfl (fun dE dG b0 a7 c' => ?_)
 have cv := ct.below a7 oO
 have cw := bb_ cu a7 hpB
 have cy := tt_ aB (tb_ (a7.mono (nr_ _)))
 have cz := Own.snoc b0 (x) (rfl)
 refine WL.Z rfl <| W.ret (W.r1 rfl rfl ?_)
 exact ⟨_, rfl, t, ⟨cv, cw⟩, cy, (by rw [esc_else _ oO oO oO oO oO oO oO oO]; exact cz), nr_ _, ht, (by rw [esc_else _ oO oO oO oO oO oO oO oO])⟩
 have co := dF az
 refine W.k <| W.sr <| WL.M rfl <| WL.O (.sub rfl rfl (u8w oO)) <| WL.O (.cvt u5_ u3_ rfl (i64w oO)) <| WL.Z rfl <| W.seq <| W.sr <| WL.Z rfl <| W.b ?_
 obtain ⟨tt, aC⟩ : ∃ tt, tt = t := ⟨t, rfl⟩
 have bq : 48 ≤ (x.toNat : Int) := by omega
 have bt : (x.toNat : Int) ≤ 55 := by omega
 refine W.loop (α := Nat × Nat × Nat) (fun t => [(0, .pointer (some ⟨r, 0, none⟩)), (1, v), (7, .int .i64 (t.1 : Int)), (8, .int .i64 (t.2.1 : Int))]) (fun t w' => RdOk w' r p l c t.2.2 ∧ Touch B r w w' ∧ Own 5 B w' v (byteVals o) ∧ tt ≤ t.2.2 ∧ t.2.2 ≤ l.length ∧ (t.2.1 = 0 ∧ t.1 ≤ 7 ∨ t.2.1 = 1 ∧ t.1 ≤ 63 ∨ t.2.1 = 2 ∧ t.1 ≤ 511) ∧ octS (2 - t.2.1) t.1 (l.drop t.2.2) = octS 2 (x.toNat - 48) (l.drop tt)) (fun t => 2 - t.2.1) ((x.toNat - 48, 0, tt)) ⟨rfl, rfl, lk_i rfl oM, rfl, tT⟩ (⟨⟨by rw [aC]; exact hr, hb⟩, f, hown, nr_ _, by rw [aC]; exact ht, Or.inl ⟨rfl, by ((try simp only) <;> omega)⟩, rfl⟩) (fun t w1 hR => ?_)
 subst aC
 obtain ⟨m, k, u⟩ := t
 obtain ⟨g, hT, ac, bu, bv, hm, aD⟩ := hR
 simp only at g hT ac bu bv hm aD ⊢
 refine W.seq <| W.cutBQ 87 (octT l k u) ?_ (fun dH a8 => ?_)
 refine W.regQ mixed kR <| WQ.p (.mv rfl) rfl <| WQ.p (.lss rfl rfl) rfl <| WQ.p (.mv rfl) rfl <| WQ.gd rfl rfl rfl (fun J => ?_) (fun J => ?_)
 have cA := dT J
 refine WQ.p (.mv rfl) rfl <| WQ.gy rfl rfl rfl J <| WQ.c1 hB_ rfl rfl (fun m => (more_q r p l c u _ ⟨g.1, g.2⟩ m)) <| WQ.p (.pkT rfl J rfl) rfl <| WQ.p (.mv rfl) rfl <| WQ.gd rfl rfl rfl (fun a => ?_) (fun a => ?_)
 have cB := dT a
 refine WQ.p (.mv rfl) rfl <| WQ.gy rfl rfl rfl a <| WQ.p (.nck rfl) rfl <| WQ.gy rfl rfl rfl a <| WQ.p (.fa u180_ rfl s22_ dD rfl) rfl <| WQ.gy rfl rfl rfl a <| WQ.r (fun m => Rd.ld (g22_ _) rfl g.1 rfl) rfl <| WQ.gy rfl rfl rfl a <| WQ.p (.mv rfl) rfl <| WQ.gy rfl rfl rfl a <| WQ.p (.nck rfl) rfl <| WQ.gy rfl rfl rfl a <| WQ.p (.fa u180_ rfl s3_ dD rfl) rfl <| WQ.gy rfl rfl rfl a <| WQ.r (fun m => Rd.ld (g3_ _) rfl g.1 rfl) rfl <| WQ.gy rfl rfl rfl a <| WQ.p (.ixb u22_ s5_ rfl rfl (g.2.isp (by first | omega | exact nz_ _)) (u) oO oO) rfl <| WQ.gy rfl rfl rfl a <| WQ.r (fun m => Rd.ldc (g5_ _) rfl ((g.2.drewN m).cells (u) oO)) rfl <| WQ.gy rfl rfl rfl a <| WQ.p (.geq rfl rfl) rfl <| WQ.p (.pkT rfl a rfl) rfl <| WQ.p (.mv rfl) rfl <| WQ.gd rfl rfl rfl (fun d => ?_) (fun d => ?_)
 have cC := dT d
 refine WQ.p (.mv rfl) rfl <| WQ.gy rfl rfl rfl d <| WQ.p (.nck rfl) rfl <| WQ.gy rfl rfl rfl d <| WQ.p (.fa u180_ rfl s22_ dD rfl) rfl <| WQ.gy rfl rfl rfl d <| WQ.r (fun m => Rd.ld (g22_ _) rfl g.1 rfl) rfl <| WQ.gy rfl rfl rfl d <| WQ.p (.mv rfl) rfl <| WQ.gy rfl rfl rfl d <| WQ.p (.nck rfl) rfl <| WQ.gy rfl rfl rfl d <| WQ.p (.fa u180_ rfl s3_ dD rfl) rfl <| WQ.gy rfl rfl rfl d <| WQ.r (fun m => Rd.ld (g3_ _) rfl g.1 rfl) rfl <| WQ.gy rfl rfl rfl d <| WQ.p (.ixb u22_ s5_ rfl rfl (g.2.isp (by first | omega | exact nz_ _)) (u) oO oO) rfl <| WQ.gy rfl rfl rfl d <| WQ.r (fun m => Rd.ldc (g5_ _) rfl ((g.2.drewN m).cells (u) oO)) rfl <| WQ.gy rfl rfl rfl d <| WQ.p (.leq rfl rfl) rfl <| WQ.p (.pkT rfl d rfl) rfl <| WQ.nil (fun dI cD => ?_)
 exact ⟨leE (lk_b rfl (by (by_cases hq : u < l.length) <;> (unfold octT; first | (exfalso; omega) | (rw [getElem!_pos l u hq]; (apply Bool.eq_iff_iff.2; (try simp only [Bool.and_eq_true, Bool.or_eq_true, Bool.not_eq_true', decide_eq_true_eq, decide_eq_false_iff_not, Bool.false_eq_true, Bool.not_eq_false', false_iff, iff_false, true_iff, iff_true]); omega)) | (apply Bool.eq_iff_iff.2; (try simp only [Bool.and_eq_true, Bool.or_eq_true, Bool.not_eq_true', decide_eq_true_eq, decide_eq_false_iff_not, Bool.false_eq_true, Bool.not_eq_false', false_iff, iff_false, true_iff, iff_true]); omega)))), cD⟩
 have cC := dF d
 refine WQ.gn rfl rfl rfl d <| WQ.gn rfl rfl rfl d <| WQ.gn rfl rfl rfl d <| WQ.gn rfl rfl rfl d <| WQ.gn rfl rfl rfl d <| WQ.gn rfl rfl rfl d <| WQ.gn rfl rfl rfl d <| WQ.gn rfl rfl rfl d <| WQ.gn rfl rfl rfl d <| WQ.gn rfl rfl rfl d <| WQ.p (.pkF rfl d rfl) rfl <| WQ.nil (fun d8 b1 => ?_)
 exact ⟨leE (lk_b rfl (by (by_cases hq : u < l.length) <;> (unfold octT; first | (exfalso; omega) | (rw [getElem!_pos l u hq]; (apply Bool.eq_iff_iff.2; (try simp only [Bool.and_eq_true, Bool.or_eq_true, Bool.not_eq_true', decide_eq_true_eq, decide_eq_false_iff_not, Bool.false_eq_true, Bool.not_eq_false', false_iff, iff_false, true_iff, iff_true]); omega)) | (apply Bool.eq_iff_iff.2; (try simp only [Bool.and_eq_true, Bool.or_eq_true, Bool.not_eq_true', decide_eq_true_eq, decide_eq_false_iff_not, Bool.false_eq_true, Bool.not_eq_false', false_iff, iff_false, true_iff, iff_true]); omega)))), b1⟩
 have cB := dF a
 refine WQ.gn rfl rfl rfl a <| WQ.gn rfl rfl rfl a <| WQ.gn rfl rfl rfl a <| WQ.gn rfl rfl rfl a <| WQ.gn rfl rfl rfl a <| WQ.gn rfl rfl rfl a <| WQ.gn rfl rfl rfl a <| WQ.gn rfl rfl rfl a <| WQ.gn rfl rfl rfl a <| WQ.gn rfl rfl rfl a <| WQ.p (.pkF rfl a rfl) rfl <| WQ.p (.mv rfl) rfl <| WQ.gn rfl rfl rfl rfl <| WQ.gn rfl rfl rfl rfl <| WQ.gn rfl rfl rfl rfl <| WQ.gn rfl rfl rfl rfl <| WQ.gn rfl rfl rfl rfl <| WQ.gn rfl rfl rfl rfl <| WQ.gn rfl rfl rfl rfl <| WQ.gn rfl rfl rfl rfl <| WQ.gn rfl rfl rfl rfl <| WQ.gn rfl rfl rfl rfl <| WQ.gn rfl rfl rfl rfl <| WQ.p (.pkF rfl rfl rfl) rfl <| WQ.nil (fun d9 b3 => ?_)
 exact ⟨leE (lk_b rfl (by (by_cases hq : u < l.length) <;> (unfold octT; first | (exfalso; omega) | (rw [getElem!_pos l u hq]; (apply Bool.eq_iff_iff.2; (try simp only [Bool.and_eq_true, Bool.or_eq_true, Bool.not_eq_true', decide_eq_true_eq, decide_eq_false_iff_not, Bool.false_eq_true, Bool.not_eq_false', false_iff, iff_false, true_iff, iff_true]); omega)) | (apply Bool.eq_iff_iff.2; (try simp only [Bool.and_eq_true, Bool.or_eq_true, Bool.not_eq_true', decide_eq_true_eq, decide_eq_false_iff_not, Bool.false_eq_true, Bool.not_eq_false', false_iff, iff_false, true_iff, iff_true]); omega)))), b3⟩
 have cA := dF J
 refine WQ.gn rfl rfl rfl J <| WQ.p (.pkF rfl J rfl) rfl <| WQ.p (.mv rfl) rfl <| WQ.gn rfl rfl rfl rfl <| WQ.gn rfl rfl rfl rfl <| WQ.gn rfl rfl rfl rfl <| WQ.gn rfl rfl rfl rfl <| WQ.gn rfl rfl rfl rfl <| WQ.gn rfl rfl rfl rfl <| WQ.gn rfl rfl rfl rfl <| WQ.gn rfl rfl rfl rfl <| WQ.gn rfl rfl rfl rfl <| WQ.gn rfl rfl rfl rfl <| WQ.gn rfl rfl rfl rfl <| WQ.p (.pkF rfl rfl rfl) rfl <| WQ.p (.mv rfl) rfl <| WQ.gn rfl rfl rfl rfl <| WQ.gn rfl rfl rfl rfl <| WQ.gn rfl rfl rfl rfl <| WQ.gn rfl rfl rfl rfl <| WQ.gn rfl rfl rfl rfl <| WQ.gn rfl rfl rfl rfl <| WQ.gn rfl rfl rfl rfl <| WQ.gn rfl rfl rfl rfl <| WQ.gn rfl rfl rfl rfl <| WQ.gn rfl rfl rfl rfl <| WQ.gn rfl rfl rfl rfl <| WQ.p (.pkF rfl rfl rfl) rfl <| WQ.nil (fun da b4 => ?_)
 exact ⟨leE (lk_b rfl (by (by_cases hq : u < l.length) <;> (unfold octT; first | (exfalso; omega) | (rw [getElem!_pos l u hq]; (apply Bool.eq_iff_iff.2; (try simp only [Bool.and_eq_true, Bool.or_eq_true, Bool.not_eq_true', decide_eq_true_eq, decide_eq_false_iff_not, Bool.false_eq_true, Bool.not_eq_false', false_iff, iff_false, true_iff, iff_true]); omega)) | (apply Bool.eq_iff_iff.2; (try simp only [Bool.and_eq_true, Bool.or_eq_true, Bool.not_eq_true', decide_eq_true_eq, decide_eq_false_iff_not, Bool.false_eq_true, Bool.not_eq_false', false_iff, iff_false, true_iff, iff_true]); omega)))), b4⟩
 have ad := Own.drew ac a8
 have a9 := g.1.drew a8
 have aa := g.2.drew a8
 have E := tt_ hT (td_ a8)
 refine W.cond rfl (fun cE => ?_) (fun cE => ?_)
 obtain ⟨db, cL, dc, dd, K⟩ := octT_t aS
 refine W.k <| W.seq <| W.b <| W.reg <| WL.M rfl <| WL.O (.mul rfl rfl (i64w oO)) <| WL.M rfl <| WL.ce hB_ rfl rfl ((scan_take r p l c u _ ⟨a9, aa⟩ hne hl)) (fun de cF L j => ?_) (fun df cF L j => ?_)
 exact ab_ (takeS_err L).1 oO
 have b5 := Own.touch' ad j.2 oO
 have b6 := j.1.1
 have b7 := j.1.2
 have b8 := tt_ E (tm_ j.2 (nt_ hBw E.size))
 obtain ⟨dJ, hx⟩ := takeS_ok L
 rw [hx]
 refine WL.O (.sub rfl rfl (u8w oO)) <| WL.O (.cvt u5_ u3_ rfl (i64w oO)) <| WL.O (.add rfl rfl (i64w oO)) <| WL.Z rfl <| W.reg <| WL.M rfl <| WL.O (.add rfl rfl (i64w oO)) <| WL.Z rfl ?_
 exact ⟨(8 * m + ((l[u]'cL).toNat - 48), k + 1, u + 1), ⟨rfl, rfl, lk_i rfl oM, lk_i rfl oM, tT⟩, ⟨⟨b6, b7⟩, b8, b5, by ((try simp only) <;> omega), by ((try simp only) <;> omega), by ((try simp only) <;> omega), by rw [← aD, K m]⟩, by ((try simp only) <;> omega)⟩
 have K := octT_f aS m
 rw [aD] at K
 refine W.exit <| W.sr <| WL.M rfl <| WL.M rfl <| WL.O (.cvt u3_ u5_ rfl (show IntKind.u8.wrap (m : Int) = ((m % 256 : Nat) : Int) by rw [IntKind.wrap_u8']; (first | done | rfl))) <| WL.bsl (ps := _) u22_ s5_ z5_ rfl rfl rfl rfl rfl pR rfl (fun dg d0 F aE n cM => ?_)
 have b9 := Own.new ad F n
 have ba := bgl F a9.lt
 have bb := a9.un n ba
 have aF := fun i => F ▸ aa.lt i
 have bc := bup aa n aF
 have ag := bge F E.size
 have ae := tt_ E (tn_ n (nt_ hBw ag))
 refine WL.appm u22_ inf5 rfl rfl rfl b9 rfl aE rfl (by rw [byteVals_len]; omega) ((nt_ hBw ae.size)) rfl (fun dh di aG P cN => ?_)
 have bd := bb.below P oO
 have be := bb_ bc P hpB
 have bf := tt_ ae (tb_ (P.mono (nr_ _)))
 have bg := Own.snoc aG (ch ((m % 256 : Nat) : Int)) (by rw [ch_val _ oO oO])
 refine WL.Z rfl <| W.ret (W.r1 rfl rfl ?_)
 exact ⟨_, rfl, u, ⟨bd, be⟩, bf, (by rw [esc_oct _ bq bt, K]; exact bg), bu, bv, (by rw [esc_oct _ bq bt, K])⟩
 have cn := dT H
 refine WL.N H <| WL.O (.pkT rfl H rfl) <| WL.e <| W.condT rfl rfl <| W.sr <| WL.M rfl <| WL.M rfl <| WL.bsl (ps := _) u22_ s5_ z5_ rfl rfl rfl rfl rfl pR rfl (fun dj d1 G aH q cO => ?_)
 have bh := Own.new hown G q
 have bi := bgl G hr.lt
 have bj := hr.un q bi
 have aI := fun i => G ▸ hb.lt i
 have bk := bup hb q aI
 have ah := bge G f.size
 have af := tt_ f (tn_ q (nt_ hBw ah))
 refine WL.appm u22_ inf5 rfl rfl rfl bh rfl aH rfl (by rw [byteVals_len]; omega) ((nt_ hBw af.size)) rfl (fun dk dl aJ Q cP => ?_)
 have bl := bj.below Q oO
 have bm := bb_ bk Q hpB
 have bn := tt_ af (tb_ (Q.mono (nr_ _)))
 have bo := Own.snoc aJ (x) (rfl)
 refine WL.Z rfl <| W.ret (W.r1 rfl rfl ?_)
 exact ⟨_, rfl, t, ⟨bl, bm⟩, bn, (by rw [esc_else _ oO oO oO oO oO oO oO oO]; exact bo), nr_ _, ht, (by rw [esc_else _ oO oO oO oO oO oO oO oO])⟩
theorem escS_one (x : UInt8) (r : List UInt8) : (escS x r).1.length ≤ 1 := by
 unfold escS
 repeat' split
 all_goals simp
theorem scan_round (r : Nat) (p : Option Addr) (l : List UInt8) (c t : Nat) (w : World) (h : RdOk w r p l c t) (hne : 0 < l.length → (pA p).block ≠ r) (hc : l.length ≤ c) (hl : l.length ≤ 100000000) (ht : t ≤ l.length) :
  Calls Tryz.prog 151 #[.pointer (some ⟨r, 0, none⟩)] w (Ends 30 (textS (roundS 1 [] (l.drop t))) (fun a => a.1.val) (Read w r p l c) (fun w' => Touch w.heap.size r w w')) := by
 have hr := h.1
 have hb := h.2
 obtain ⟨R, hR⟩ : ∃ R, R = roundS 1 [] (l.drop t) := ⟨_, rfl⟩
 rw [← hR]
 obtain ⟨a, rfl⟩ : ∃ a, a = t := ⟨t, rfl⟩
 refine W.e func151 rfl ntmps151 bL ?_
 have bz := Touch.refl (w.heap.size) r w
 refine W.sr <| WL.al z147_ rfl (fun b1 dp ai bD a6 d9 => ?_)
 have cw := bgl ai hr.lt
 have cy := hr.un a6 cw
 have aj := fun J => ai ▸ hb.lt J
 have cz := bup hb a6 aj
 have aW := bge ai bz.size
 have cA := tt_ bz (tn_ a6 aW)
 refine WL.e <| W.seq ?_
 have a4 : 0 < l.length → (pA p).block < b1 + 1 := fun J => by have := hb.lt J; omega
 have dq : r < b1 := by have := hr.lt; omega
 refine W.reg <| WL.Z rfl <| W.sr <| WL.Z rfl <| W.b <| W.loop (α := Value × List UInt8 × Nat × Nat) (fun t => [(0, .pointer (some ⟨r, 0, none⟩)), (2, .pointer (some ⟨b1, 0, none⟩)), (3, t.1), (4, .int .i64 (t.2.2.1 : Int))]) (fun t w' => RdOk w' r p l c t.2.2.2 ∧ Touch w.heap.size r w w' ∧ Blk w' b1 #[.int .i64 0, .int .i64 0, .string ⟨#[]⟩] 147 ∧ Own 5 (b1 + 1) w' t.1 (byteVals t.2.1) ∧ roundS t.2.2.1 t.2.1 (l.drop t.2.2.2) = R ∧ 1 ≤ t.2.2.1 ∧ t.2.2.1 ≤ t.2.2.2 + 1 ∧ t.2.1.length ≤ t.2.2.2 ∧ t.2.2.2 ≤ l.length) (fun t => l.length - t.2.2.2) ((.slice none 0 0, [], 1, a)) ⟨rfl, rfl, rfl, rfl, tT⟩ (⟨⟨cy, cz⟩, cA, bD, Own.nil _ _ _, hR.symm, nr_ _, by ((try simp only) <;> omega), nl_ _, ht⟩) (fun t w1 hR => ?_)
 obtain ⟨v, o, d, s⟩ := t
 obtain ⟨ak, hT, am, an, hw, bA, cB, cC, hs⟩ := hR
 simp only at ak hT am an hw bA cB cC hs ⊢
 refine W.b <| W.sr <| WL.M rfl <| WL.ce hB_ rfl rfl ((scan_take r p l c s _ ⟨ak.1, ak.2⟩ hne hl)) (fun k9 w7 a1 Q => ?_) (fun a8 w7 a1 Q => ?_)
 have aX := tt_ hT (tm_ Q hT.size)
 exact pn_is (Ends.err k9 (by rw [(takeS_err a1).2, ← hw, List.drop_eq_nil_of_le (takeS_err a1).1, roundS.eq_def]; (first | done | rfl)) aX)
 have m := Own.touch' an Q.2 oO
 have j := Q.1.1
 have g := bo_ am Q.2 am.lt oO
 have i := Q.1.2
 have f := tt_ hT (tm_ Q.2 hT.size)
 obtain ⟨cD, hx⟩ := takeS_ok a1
 obtain ⟨x, cE⟩ : ∃ x, x = a8 := ⟨_, rfl⟩
 rw [← cE] at hx ⊢
 have B := roundS_at d o l s cD
 rw [← hx] at B
 refine WL.Z rfl <| W.seq <| W.sr <| WL.M rfl <| WL.e <| W.b <| W.sr <| WL.O (.eql rfl rfl) <| WL.Z rfl <| W.cond rfl (fun ao => ?_) (fun ao => ?_)
 have bE := dT ao
 refine W.reg <| WL.M rfl <| WL.O (.iis (((d + 1 : Nat) : Int)) (.add rfl rfl (i64w oO)) oO) <| WL.Z rfl <| W.seq <| W.sr <| WL.M rfl <| WL.O (.eql rfl rfl) <| WL.e <| W.cond rfl (fun ap => ?_) (fun ap => ?_)
 have bG := dT ap
 refine W.seq ?_
 obtain ⟨q, cq, rfl, T, aq⟩ := Own.bytes m
 refine W.reg <| WL.M rfl <| WL.ce hB_ rfl rfl ((scan_text q _ cq _ T oO)) (fun dr cF aa ar => ?_) (fun cG cF aa ar => ?_)
 (exfalso; omega)
 have bH := g.bl ar
 obtain ⟨U, au⟩ : ∃ U, U = cG := ⟨_, rfl⟩
 have ab := aa
 refine WL.stL rfl rfl bH isz147 rfl rfl (fun ds aY d0 d1 => ?_)
 refine WL.e <| W.ret (W.retc1 rfl rfl (ldRow aY u147_ rfl isz147)  ?_)
 (exfalso; omega)
 have bG := dF ap
 refine W.k <| W.reg <| WL.M rfl <| WL.M rfl <| WL.bsl (ps := _) u22_ s5_ z5_ rfl rfl rfl rfl rfl pR rfl (fun dt da V aZ C d2 => ?_)
 have bI := Own.new m V C
 have bJ := bgl V j.lt
 have bK := j.un C bJ
 have bM := bgl V g.lt
 have av := g.un C bM
 have a' := fun J => V ▸ i.lt J
 have bN := bup i C a'
 have aw := bge V f.size
 have bO := tt_ f (tn_ C aw)
 refine WL.appm u22_ inf5 rfl rfl rfl bI rfl aZ rfl (by rw [byteVals_len]; omega) (av.lt) rfl (fun du dv b0 L d3 => ?_)
 have bP := bK.below L oO
 have bQ := av.below L oO
 have bR := bb_ bN L a4
 have bS := tt_ bO (tb_ (L.mono oO))
 have bT := Own.snoc b0 (x) (rfl)
 refine WL.Z rfl ?_
 exact ⟨(_, o ++ [_], d + 1, s + 1), ⟨rfl, rfl, rfl, rfl, tT⟩, ⟨⟨bP, bR⟩, bS, bQ, bT, (by rw [← hw, B, show x = 40 from u8_eq aS, if_pos rfl]), by ((try simp only) <;> omega), by ((try simp only) <;> omega), (by simp only [List.length_append, List.length_cons, List.length_nil]; omega), by ((try simp only) <;> omega)⟩, by ((try simp only) <;> omega)⟩
 have bE := dF ao
 refine W.sr <| WL.O (.eql rfl rfl) <| WL.Z rfl <| W.cond rfl (fun ax => ?_) (fun ax => ?_)
 have bU := dT ax
 refine W.reg <| WL.M rfl <| WL.O (.iis (((d - 1 : Nat) : Int)) (.sub rfl rfl (i64w oO)) oO) <| WL.Z rfl <| W.seq <| W.sr <| WL.M rfl <| WL.O (.eql rfl rfl) <| WL.e <| W.cond rfl (fun ay => ?_) (fun ay => ?_)
 have bV := dT ay
 refine W.seq ?_
 obtain ⟨q, cq, rfl, T, aq⟩ := Own.bytes m
 refine W.reg <| WL.M rfl <| WL.ce hB_ rfl rfl ((scan_text q _ cq _ T oO)) (fun cH cI a2 K => ?_) (fun cJ cI a2 K => ?_)
 have az := tt_ f (tm_ (tb_ K) f.size)
 exact pn_is (Ends.err cH (by rw [← hw, B, show x = 41 from u8_eq aS, if_neg dD, if_pos rfl, if_pos oO]; exact textS_err a2) az)
 have bW := j.bl K
 have bX := g.bl K
 have bY := bb_ i K (fun J => i.lt J)
 have bZ := tt_ f (tm_ (tb_ K) f.size)
 obtain ⟨U, au⟩ : ∃ U, U = cJ := ⟨_, rfl⟩
 have ab := a2
 refine WL.stL rfl rfl bX isz147 rfl rfl (fun dw b2 a3 d4 => ?_)
 have b' := bW.up a3
 have c0 := bup bY a3 aj
 have c2 := tt_ bZ (tn_ a3 oO)
 refine WL.e <| W.ret (W.retc1 rfl rfl (ldRow b2 u147_ rfl isz147)  ?_)
 exact Ends.ok (_, l.drop (s + 1)) (by rw [← hw, B, show x = 41 from u8_eq aS, if_neg dD, if_pos rfl, if_pos oO]; exact textS_ok ab) rfl ⟨_, rfl, by omega, ⟨b', c0⟩, c2⟩
 have bV := dF ay
 refine W.k <| W.reg <| WL.M rfl <| WL.M rfl <| WL.bsl (ps := _) u22_ s5_ z5_ rfl rfl rfl rfl rfl pR rfl (fun dx db X b3 D d5 => ?_)
 have c3 := Own.new m X D
 have c4 := bgl X j.lt
 have c5 := j.un D c4
 have c6 := bgl X g.lt
 have aA := g.un D c6
 have b4 := fun J => X ▸ i.lt J
 have c7 := bup i D b4
 have aB := bge X f.size
 have c8 := tt_ f (tn_ D aB)
 refine WL.appm u22_ inf5 rfl rfl rfl c3 rfl b3 rfl (by rw [byteVals_len]; omega) (aA.lt) rfl (fun dy dz b5 N d6 => ?_)
 have c9 := c5.below N oO
 have ca := aA.below N oO
 have cb := bb_ c7 N a4
 have cc := tt_ c8 (tb_ (N.mono oO))
 have cd := Own.snoc b5 (x) (rfl)
 refine WL.Z rfl ?_
 exact ⟨(_, o ++ [_], d - 1, s + 1), ⟨rfl, rfl, rfl, rfl, tT⟩, ⟨⟨c9, cb⟩, cc, ca, cd, (by rw [← hw, B, show x = 41 from u8_eq aS, if_neg dD, if_pos rfl, if_neg oO]), by ((try simp only) <;> omega), by ((try simp only) <;> omega), (by simp only [List.length_append, List.length_cons, List.length_nil]; omega), by ((try simp only) <;> omega)⟩, by ((try simp only) <;> omega)⟩
 have bU := dF ax
 refine W.sr <| WL.O (.eql rfl rfl) <| WL.Z rfl <| W.cond rfl (fun aC => ?_) (fun aC => ?_)
 have cf := dT aC
 refine W.sr <| WL.M rfl <| WL.M rfl <| WL.M rfl <| WL.ce hB_ rfl rfl ((scan_take r p l c (s + 1) _ ⟨j, i⟩ hne hl)) (fun cK cL P A => ?_) (fun cM cL P A => ?_)
 have aD := tt_ f (tm_ A f.size)
 exact pn_is (Ends.err cK (by rw [(takeS_err P).2, ← hw, B, show x = 92 from u8_eq aS, if_neg dD, if_neg dD, if_pos rfl, List.drop_eq_nil_of_le (takeS_err P).1]; (first | done | rfl)) aD)
 have cg := Own.touch' m A.2 oO
 have ci := A.1.1
 have aE := bo_ g A.2 g.lt oO
 have cj := A.1.2
 have ck := tt_ f (tm_ A.2 f.size)
 obtain ⟨cl, bB⟩ := takeS_ok P
 obtain ⟨y, cN⟩ : ∃ y, y = cM := ⟨_, rfl⟩
 rw [← cN] at bB ⊢
 refine WL.call hB_ rfl rfl ((scan_escape (b1 + 1) r p l c (s + 1 + 1) y v o _ ⟨ci, cj⟩ hne hl oO oO (aE).lt a4 cg oO)) (fun v2 dA cm => ?_)
 obtain ⟨k2, aF, bC, cO, dc, dd, cn⟩ := cm
 have co := bo_ aE bC oO oO
 have cP := tt_ ck (bC.mono oO)
 have de := escS_one y (l.drop (s + 1 + 1))
 refine WL.Z rfl <| W.exit ?_
 exact ⟨(v2, o ++ (escS y (l.drop (s + 1 + 1))).1, d, k2), ⟨rfl, rfl, rfl, rfl, tT⟩, ⟨⟨aF.1, aF.2⟩, cP, co, cO, (by rw [cn, ← hw, B, show x = 92 from u8_eq aS, if_neg dD, if_neg dD, if_pos rfl, List.drop_eq_getElem_cons cl, ← bB]), bA, by ((try simp only) <;> omega), (by simp only [List.length_append, List.length_cons, List.length_nil]; omega), by ((try simp only) <;> omega)⟩, by ((try simp only) <;> omega)⟩
 have cf := dF aC
 refine W.sr <| WL.O (.eql rfl rfl) <| WL.Z rfl <| W.cond rfl (fun aG => ?_) (fun aG => ?_)
 have cr := dT aG
 refine W.sr <| WL.M rfl <| WL.c1 hB_ rfl rfl ((scan_next r p l c (s + 1) 10 _ ⟨j, i⟩ hne hl oO)) (fun dB Y => ?_)
 have aH := Own.touch' m Y.2 oO
 have aI := Y.1.1
 have a7 := bo_ g Y.2 g.lt oO
 have aJ := Y.1.2
 have aK := tt_ f (tm_ Y.2 f.size)
 have cQ := next_lf l (s + 1) oO
 refine WL.e <| W.reg <| WL.Z rfl <| W.seq <| W.sr <| WL.M rfl <| WL.O (.eql rfl rfl) <| WL.e <| W.cond rfl (fun aL => ?_) (fun aL => ?_)
 have ct := dT aL
 refine W.seq ?_
 obtain ⟨q, cq, rfl, T, aq⟩ := Own.bytes aH
 refine W.reg <| WL.M rfl <| WL.ce hB_ rfl rfl ((scan_text q _ cq _ T oO)) (fun dC cR ac aM => ?_) (fun cS cR ac aM => ?_)
 (exfalso; omega)
 have b6 := a7.bl aM
 obtain ⟨U, au⟩ : ∃ U, U = cS := ⟨_, rfl⟩
 have ab := ac
 refine WL.stL rfl rfl b6 isz147 rfl rfl (fun df aN cT cU => ?_)
 refine WL.e <| W.ret (W.retc1 rfl rfl (ldRow aN u147_ rfl isz147)  ?_)
 (exfalso; omega)
 have ct := dF aL
 refine W.k <| W.reg <| WL.M rfl <| WL.M rfl <| WL.bsl (ps := _) u22_ s5_ z5_ rfl rfl rfl rfl rfl pR rfl (fun dg d7 E aO n cV => ?_)
 have b7 := Own.new aH E n
 have b8 := bgl E aI.lt
 have b9 := aI.un n b8
 have ba := bgl E a7.lt
 have ad := a7.un n ba
 have aP := fun J => E ▸ aJ.lt J
 have bb := bup aJ n aP
 have ag := bge E aK.size
 have bc := tt_ aK (tn_ n ag)
 refine WL.appm u22_ inf5 rfl rfl rfl b7 rfl aO rfl (by rw [byteVals_len]; omega) (ad.lt) rfl (fun dh di aQ F cW => ?_)
 have bd := b9.below F oO
 have be := ad.below F oO
 have bf := bb_ bb F a4
 have bg := tt_ bc (tb_ (F.mono oO))
 have bh := Own.snoc aQ (10) (rfl)
 refine WL.Z rfl ?_
 exact ⟨(_, o ++ [_], d, (if nextB l (s + 1) 10 then s + 1 + 1 else s + 1)), ⟨rfl, rfl, rfl, rfl, tT⟩, ⟨⟨bd, bf⟩, bg, be, bh, (by show roundS d (o ++ [10]) (l.drop (if nextB l (s + 1) 10 then s + 1 + 1 else s + 1)) = R; rw [cQ.2.2, ← hw, B, show x = 13 from u8_eq aS, if_neg dD, if_neg dD, if_neg dD, if_pos rfl]), by ((try simp only) <;> omega), by ((try simp only) <;> omega), (by simp only [List.length_append, List.length_cons, List.length_nil]; omega), by ((try simp only) <;> omega)⟩, by ((try simp only) <;> omega)⟩
 have cr := dF aG
 refine W.k <| W.seq <| W.sr <| WL.M rfl <| WL.O (.eql rfl rfl) <| WL.e <| W.cond rfl (fun a9 => ?_) (fun a9 => ?_)
 have bi := dT a9
 refine W.seq ?_
 obtain ⟨q, cq, rfl, T, aq⟩ := Own.bytes m
 refine W.reg <| WL.M rfl <| WL.ce hB_ rfl rfl ((scan_text q _ cq _ T oO)) (fun dj cu a5 ae => ?_) (fun cv cu a5 ae => ?_)
 (exfalso; omega)
 have bj := g.bl ae
 obtain ⟨U, au⟩ : ∃ U, U = cv := ⟨_, rfl⟩
 have ab := a5
 refine WL.stL rfl rfl bj isz147 rfl rfl (fun dk aR cX cY => ?_)
 refine WL.e <| W.ret (W.retc1 rfl rfl (ldRow aR u147_ rfl isz147)  ?_)
 (exfalso; omega)
 have bi := dF a9
 refine W.k <| W.reg <| WL.M rfl <| WL.M rfl <| WL.bsl (ps := _) u22_ s5_ z5_ rfl rfl rfl rfl rfl pR rfl (fun dl d8 G aT u cZ => ?_)
 have bk := Own.new m G u
 have bm := bgl G j.lt
 have bn := j.un u bm
 have bo := bgl G g.lt
 have af := g.un u bo
 have aU := fun J => G ▸ i.lt J
 have bp := bup i u aU
 have ah := bge G f.size
 have bq := tt_ f (tn_ u ah)
 refine WL.appm u22_ inf5 rfl rfl rfl bk rfl aT rfl (by rw [byteVals_len]; omega) (af.lt) rfl (fun dm dn aV H c' => ?_)
 have bt := bn.below H oO
 have bu := af.below H oO
 have bv := bb_ bp H a4
 have bw := tt_ bq (tb_ (H.mono oO))
 have bx := Own.snoc aV (x) (rfl)
 refine WL.Z rfl ?_
 exact ⟨(_, o ++ [_], d, s + 1), ⟨rfl, rfl, rfl, rfl, tT⟩, ⟨⟨bt, bv⟩, bw, bu, bx, (by rw [← hw, B, if_neg (u8_ne (d := 40) aS), if_neg (u8_ne (d := 41) aS), if_neg (u8_ne (d := 92) aS), if_neg (u8_ne (d := 13) aS)]), by ((try simp only) <;> omega), by ((try simp only) <;> omega), (by simp only [List.length_append, List.length_cons, List.length_nil]; omega), by ((try simp only) <;> omega)⟩, by ((try simp only) <;> omega)⟩
end
section
theorem scan_token (r : Nat) (p : Option Addr) (l : List UInt8) (c n : Nat) (w : World) (h : RdOk w r p l c n) (hne : 0 < l.length → (pA p).block ≠ r) (hc : l.length ≤ c) (hl : l.length ≤ 100000000) (ht : n ≤ l.length) :
  Calls Tryz.prog 121 #[.pointer (some ⟨r, 0, none⟩)] w (Ends 30 (tokS (l.drop n)) (fun a => a.1.val) (Read w r p l c) (fun w' => Touch w.heap.size r w w')) := by
 have hr := h.1
 have hb := h.2
 refine W.e func121 rfl ntmps121 bL ?_
 have cP := Touch.refl (w.heap.size) r w
 refine W.sr <| WL.al z147_ rfl (fun b1 eQ ba bb aH eC => ?_)
 have dP := bgl ba hr.lt
 have dQ := hr.un aH dP
 have f := fun h0 => ba ▸ hb.lt h0
 have dR := bup hb aH f
 have bN := bge ba cP.size
 have cQ := tt_ cP (tn_ aH bN)
 refine WL.e <| W.seq ?_
 have eR : r < b1 := by have := hr.lt; omega
 refine W.reg <| WL.M rfl <| WL.c1 hB_ rfl rfl ((scan_skip r p l c n _ ⟨dQ, dR⟩ hne hl ht)) (fun w7 aL => ?_)
 have cR := aL.1.1
 have dS := bo_ bb aL.2 bb.lt oO
 have bc := aL.1.2
 have cV := tt_ cQ (tm_ aL.2 cQ.size)
 have cS := skipAt_drop false l n
 have eS := skipAt_le false l n
 generalize skipAt false l n = s at *
 refine WL.e <| W.seq <| W.sr <| WL.M rfl <| WL.c1 hB_ rfl rfl ((scan_more r p l c s _ ⟨cR, bc⟩)) (fun eT ah => ?_)
 have ai := cR.drew ah
 have bd := dS.drew ah
 have aj := bc.drew ah
 have be := tt_ cV (td_ ah)
 refine WL.O (.not rfl) <| WL.e <| W.cond rfl (fun bf => ?_) (fun bf => ?_)
 have cW := (nT bf)
 refine W.sr <| WL.O (.buildL (ps := _) blt147 rfl rfl rfl pZ) ?_
 refine WL.stL rfl rfl bd isz147 rfl rfl (fun eU bO ak el => ?_)
 have cX := ai.up ak
 have cY := bup aj ak f
 have cZ := tt_ be (tn_ ak oO)
 refine WL.e <| W.ret (W.retc1 rfl rfl (ldRow bO u147_ rfl isz147)  ?_)
 exact Ends.ok (⟨0, 0, []⟩, []) (tokS_end cS (by simp_all)) rfl ⟨s, by rw [List.drop_eq_nil_of_le (by simp_all)], by omega, ⟨cX, cY⟩, cZ⟩
 have cW := (nF bf)
 have bg : s < l.length := by simp_all
 have hT := tokS_at cS bg
 obtain ⟨x, hx⟩ : ∃ x, x = l[s]'bg := ⟨_, rfl⟩
 rw [← hx] at hT
 have cT := wordAt_le l s oO
 refine W.k <| W.seq <| W.seq <| W.regQ mixed kR <| WQ.p (.mv rfl) rfl <| WQ.p (.nck rfl) rfl <| WQ.p (.fa u180_ rfl s22_ dD rfl) rfl <| WQ.r (fun m => Rd.ld (g22_ _) rfl ai rfl) rfl <| WQ.p (.mv rfl) rfl <| WQ.p (.nck rfl) rfl <| WQ.p (.fa u180_ rfl s3_ dD rfl) rfl <| WQ.r (fun m => Rd.ld (g3_ _) rfl ai rfl) rfl <| WQ.p (.ixb u22_ s5_ rfl rfl (aj.isp (by first | omega | exact nz_ _)) (s) oO oO) rfl <| WQ.r (fun m => Rd.iis ((x.toNat : Int)) (Rd.ldc (g5_ _) rfl ((aj.drewN m).cells (s) oO)) (by rw [hx])) rfl <| WQ.p (.as rfl) rfl <| WQ.nil (fun eV am => ?_)
 have d := ai.drew am
 have j := bd.drew am
 have o := aj.drew am
 have g := tt_ be (td_ am)
 refine W.sr <| WL.M rfl <| WL.e <| W.b <| W.sr <| WL.O (.eql rfl rfl) <| WL.Z rfl <| W.cond rfl (fun bh => ?_) (fun bh => ?_)
 have c' := dT bh
 refine W.sr <| WL.M rfl <| WL.O (.nck rfl) <| WL.O (.fa u180_ rfl s3_ dD rfl) <| WL.R (Rd.ld (g3_ _) rfl d rfl) <| WL.O (.iis (((s + 1 : Nat) : Int)) (.add rfl rfl (i64w oO)) oO) <| WL.O (.nck rfl) <| WL.O (.fa u180_ rfl s3_ dD rfl) <| WL.st s3_ rfl rfl rfl d oD (fun dU an E em => ?_)
 have an : Blk dU r _ _ := an
 have E : Upd r _ _ := E
 have bi := j.up E
 have d0 := BytesAt.upd o E hne
 have ao := tt_ g (Touch.of_upd E)
 refine WL.e <| W.sr <| WL.M rfl <| WL.ce hB_ rfl rfl ((scan_round r p l c (s + 1) _ ⟨an, d0⟩ hne hc hl oO)) (fun dV dW ap q => ?_) (fun dX dW ap q => ?_)
 have bj := tt_ ao (tm_ q ao.size)
 exact pn_is (Ends.err dV (by rw [hT, show x = 40 from u8_eq aS, tokC40]; exact ap) bj)
 obtain ⟨kr, a6, a7, q⟩ := q
 have d1 := q.1.1
 have d2 := bo_ bi q.2 bi.lt oO
 have d3 := q.1.2
 have d4 := tt_ ao (tm_ q.2 ao.size)
 have F := ap
 obtain ⟨G, aM⟩ : ∃ G, G = dX := ⟨_, rfl⟩
 refine WL.stL rfl rfl d2 isz147 rfl rfl (fun eW bP aq en => ?_)
 have d5 := d1.up aq
 have d6 := bup d3 aq f
 have d7 := tt_ d4 (tn_ aq oO)
 refine WL.e <| W.ret (W.retc1 rfl rfl (ldRow bP u147_ rfl isz147)  ?_)
 exact Ends.ok _ (by rw [hT, show x = 40 from u8_eq aS, tokC40]; exact F) rfl ⟨_, a6, a7, ⟨d5, d6⟩, d7⟩
 have c' := dF bh
 refine W.sr <| WL.O (.eql rfl rfl) <| WL.Z rfl <| W.cond rfl (fun bk => ?_) (fun bk => ?_)
 have d8 := dT bk
 refine W.reg <| WL.O (.mkI u30_ rfl) <| WL.panic rfl (pn_is ?_)
 exact Ends.err 14 (by rw [hT, show x = 41 from u8_eq aS, tokC41]) g
 have d8 := dF bk
 refine W.seq <| W.sr <| WL.O (.eql rfl rfl) <| WL.Z rfl <| W.cond rfl (fun aN => ?_) (fun aN => ?_)
 have d9 := dT aN
 refine W.k <| W.condT rfl aN <| W.sr <| WL.M rfl <| WL.O (.nck rfl) <| WL.O (.fa u180_ rfl s3_ dD rfl) <| WL.R (Rd.ld (g3_ _) rfl d rfl) <| WL.O (.iis (((s + 1 : Nat) : Int)) (.add rfl rfl (i64w oO)) oO) <| WL.O (.nck rfl) <| WL.O (.fa u180_ rfl s3_ dD rfl) <| WL.st s3_ rfl rfl rfl d oD (fun dY ar H eo => ?_)
 have ar : Blk dY r _ _ := ar
 have H : Upd r _ _ := H
 have bm := j.up H
 have da := BytesAt.upd o H hne
 have au := tt_ g (Touch.of_upd H)
 refine WL.e <| W.sr <| WL.M rfl <| WL.M rfl <| WL.ce hB_ rfl rfl ((scan_angle r p l c (s + 1) x _ ⟨ar, da⟩ hne hc hl oO (by rintro rfl; first | exact ab_ (show (0 : Int) = 60 by assumption) dD | exact ab_ (show (0 : Int) = 62 by assumption) dD))) (fun dZ d' av t => ?_) (fun e0 d' av t => ?_)
 have bn := tt_ au (tm_ t au.size)
 exact pn_is (Ends.err dZ (by rw [hT, show x = 60 from u8_eq aS, tokC60, ← show x = 60 from u8_eq aS]; exact av) bn)
 obtain ⟨kr, a6, a7, t⟩ := t
 have db := t.1.1
 have dc := bo_ bm t.2 bm.lt oO
 have dd := t.1.2
 have de := tt_ au (tm_ t.2 au.size)
 have F := av
 obtain ⟨G, aM⟩ : ∃ G, G = e0 := ⟨_, rfl⟩
 refine WL.stL rfl rfl dc isz147 rfl rfl (fun eX bQ aw ep => ?_)
 have df := db.up aw
 have dg := bup dd aw f
 have dh := tt_ de (tn_ aw oO)
 refine WL.e <| W.ret (W.retc1 rfl rfl (ldRow bQ u147_ rfl isz147)  ?_)
 exact Ends.ok _ (by rw [hT, show x = 60 from u8_eq aS, tokC60, ← show x = 60 from u8_eq aS]; exact F) rfl ⟨_, a6, a7, ⟨df, dg⟩, dh⟩
 have d9 := dF aN
 refine W.reg <| WL.O (.eql rfl rfl) <| WL.Z rfl <| W.cond rfl (fun bo => ?_) (fun bo => ?_)
 have di := dT bo
 refine W.sr <| WL.M rfl <| WL.O (.nck rfl) <| WL.O (.fa u180_ rfl s3_ dD rfl) <| WL.R (Rd.ld (g3_ _) rfl d rfl) <| WL.O (.iis (((s + 1 : Nat) : Int)) (.add rfl rfl (i64w oO)) oO) <| WL.O (.nck rfl) <| WL.O (.fa u180_ rfl s3_ dD rfl) <| WL.st s3_ rfl rfl rfl d oD (fun e1 ax J eq => ?_)
 have ax : Blk e1 r _ _ := ax
 have J : Upd r _ _ := J
 have bp := j.up J
 have dj := BytesAt.upd o J hne
 have ay := tt_ g (Touch.of_upd J)
 refine WL.e <| W.sr <| WL.M rfl <| WL.M rfl <| WL.ce hB_ rfl rfl ((scan_angle r p l c (s + 1) x _ ⟨ax, dj⟩ hne hc hl oO (by rintro rfl; first | exact ab_ (show (0 : Int) = 60 by assumption) dD | exact ab_ (show (0 : Int) = 62 by assumption) dD))) (fun e2 e3 az u => ?_) (fun e4 e3 az u => ?_)
 have bq := tt_ ay (tm_ u ay.size)
 exact pn_is (Ends.err e2 (by rw [hT, show x = 62 from u8_eq aS, tokC62, ← show x = 62 from u8_eq aS]; exact az) bq)
 obtain ⟨kr, a6, a7, u⟩ := u
 have dk := u.1.1
 have dl := bo_ bp u.2 bp.lt oO
 have dm := u.1.2
 have dn := tt_ ay (tm_ u.2 ay.size)
 have F := az
 obtain ⟨G, aM⟩ : ∃ G, G = e4 := ⟨_, rfl⟩
 refine WL.stL rfl rfl dl isz147 rfl rfl (fun eY bR aA er => ?_)
 have dp := dk.up aA
 have dq := bup dm aA f
 have dr := tt_ dn (tn_ aA oO)
 refine WL.e <| W.ret (W.retc1 rfl rfl (ldRow bR u147_ rfl isz147)  ?_)
 exact Ends.ok _ (by rw [hT, show x = 62 from u8_eq aS, tokC62, ← show x = 62 from u8_eq aS]; exact F) rfl ⟨_, a6, a7, ⟨dp, dq⟩, dr⟩
 have di := dF bo
 refine W.seq <| W.sr <| WL.O (.eql rfl rfl) <| WL.Z rfl <| W.cond rfl (fun aO => ?_) (fun aO => ?_)
 have ds := dT aO
 refine W.k <| W.condT rfl aO <| W.sr <| WL.M rfl <| WL.O (.nck rfl) <| WL.O (.fa u180_ rfl s3_ dD rfl) <| WL.R (Rd.ld (g3_ _) rfl d rfl) <| WL.O (.iis (((s + 1 : Nat) : Int)) (.add rfl rfl (i64w oO)) oO) <| WL.O (.nck rfl) <| WL.O (.fa u180_ rfl s3_ dD rfl) <| WL.st s3_ rfl rfl rfl d oD (fun e5 aB K es => ?_)
 have aB : Blk e5 r _ _ := aB
 have K : Upd r _ _ := K
 have bt := j.up K
 have dt := BytesAt.upd o K hne
 have du := tt_ g (Touch.of_upd K)
 refine WL.e <| W.seq <| W.sr <| WL.M rfl <| WL.O (.eql rfl rfl) <| WL.e <| W.cond rfl (fun bu => ?_) (fun bu => ?_)
 have dv := dT bu
 refine W.sr <| WL.O (.buildL (ps := _) blt147 rfl rfl rfl pS) ?_
 refine WL.stL rfl rfl bt isz147 rfl rfl (fun eZ bS aC et => ?_)
 have dw := aB.up aC
 have dx := bup dt aC f
 have dy := tt_ du (tn_ aC oO)
 refine WL.e <| W.ret (W.retc1 rfl rfl (ldRow bS u147_ rfl isz147)  ?_)
 exact Ends.ok (⟨7, 0, []⟩, l.drop (s + 1)) (by rw [hT, show x = 123 from u8_eq aS, tokC123]) rfl ⟨_, rfl, by omega, ⟨dw, dx⟩, dy⟩
 have dv := dF bu
 refine W.k <| W.sr <| WL.O (.buildL (ps := _) blt147 rfl rfl rfl pS) ?_
 refine WL.stL rfl rfl bt isz147 rfl rfl (fun e' bT eu ev => ?_)
 refine WL.e <| W.ret (W.retc1 rfl rfl (ldRow bT u147_ rfl isz147)  ?_)
 (exfalso; omega)
 have ds := dF aO
 refine W.reg <| WL.O (.eql rfl rfl) <| WL.Z rfl <| W.cond rfl (fun bv => ?_) (fun bv => ?_)
 have dz := dT bv
 refine W.sr <| WL.M rfl <| WL.O (.nck rfl) <| WL.O (.fa u180_ rfl s3_ dD rfl) <| WL.R (Rd.ld (g3_ _) rfl d rfl) <| WL.O (.iis (((s + 1 : Nat) : Int)) (.add rfl rfl (i64w oO)) oO) <| WL.O (.nck rfl) <| WL.O (.fa u180_ rfl s3_ dD rfl) <| WL.st s3_ rfl rfl rfl d oD (fun e6 aD L ew => ?_)
 have aD : Blk e6 r _ _ := aD
 have L : Upd r _ _ := L
 have bw := j.up L
 have dA := BytesAt.upd o L hne
 have dB := tt_ g (Touch.of_upd L)
 refine WL.e <| W.seq <| W.sr <| WL.M rfl <| WL.O (.eql rfl rfl) <| WL.e <| W.cond rfl (fun bx => ?_) (fun bx => ?_)
 have dC := dT bx
 refine W.sr <| WL.O (.buildL (ps := _) blt147 rfl rfl rfl pS) ?_
 refine WL.stL rfl rfl bw isz147 rfl rfl (fun f0 bU ex ey => ?_)
 refine WL.e <| W.ret (W.retc1 rfl rfl (ldRow bU u147_ rfl isz147)  ?_)
 (exfalso; omega)
 have dC := dF bx
 refine W.k <| W.sr <| WL.O (.buildL (ps := _) blt147 rfl rfl rfl pS) ?_
 refine WL.stL rfl rfl bw isz147 rfl rfl (fun eD bz a8 e7 => ?_)
 have bV := aD.up a8
 have bW := bup dA a8 f
 have bX := tt_ dB (tn_ a8 oO)
 refine WL.e <| W.ret (W.retc1 rfl rfl (ldRow bz u147_ rfl isz147)  ?_)
 exact Ends.ok (⟨8, 0, []⟩, l.drop (s + 1)) (by rw [hT, show x = 125 from u8_eq aS, tokC125]) rfl ⟨_, rfl, by omega, ⟨bV, bW⟩, bX⟩
 have dz := dF bv
 refine W.seq <| W.sr <| WL.O (.eql rfl rfl) <| WL.Z rfl <| W.cond rfl (fun aE => ?_) (fun aE => ?_)
 have bY := dT aE
 refine W.k <| W.condT rfl aE <| W.sr <| WL.M rfl <| WL.O (.nck rfl) <| WL.O (.fa u180_ rfl s3_ dD rfl) <| WL.R (Rd.ld (g3_ _) rfl d rfl) <| WL.O (.iis (((s + 1 : Nat) : Int)) (.add rfl rfl (i64w oO)) oO) <| WL.O (.nck rfl) <| WL.O (.fa u180_ rfl s3_ dD rfl) <| WL.st s3_ rfl rfl rfl d oD (fun dE N v e8 => ?_)
 have N : Blk dE r _ _ := N
 have v : Upd r _ _ := v
 have aP := j.up v
 have aQ := BytesAt.upd o v hne
 have aR := tt_ g (Touch.of_upd v)
 refine WL.e <| W.sr <| WL.M rfl <| WL.bsl (ps := _) u22_ s5_ z5_ rfl rfl rfl rfl rfl pR rfl (fun eF ez Y bA P e9 => ?_)
 have bZ := bgl Y N.lt
 have b' := N.un P bZ
 have c0 := bgl Y aP.lt
 have c2 := aP.un P c0
 have bB := fun h0 => Y ▸ aQ.lt h0
 have c3 := bup aQ P bB
 have b5 := bge Y aR.size
 have c4 := tt_ aR (tn_ P b5)
 refine WL.R (Rd.b2s (l := [x]) u22_ u5_ u9_ rfl (BytesAt.one bA rfl)) <| ?_
 refine WL.O (.buildL (ps := _) blt147 rfl rfl rfl pS) ?_
 refine WL.stL rfl rfl c2 isz147 rfl rfl (fun eG bC a9 ea => ?_)
 have c5 := b'.up a9
 have c6 := bup c3 a9 f
 have c7 := tt_ c4 (tn_ a9 oO)
 refine WL.e <| W.ret (W.retc1 rfl rfl (ldRow bC u147_ rfl isz147)  ?_)
 exact Ends.ok (⟨3, 0, [x]⟩, l.drop (s + 1)) (by rw [hT, show x = 91 from u8_eq aS, tokC91]) rfl ⟨_, rfl, by omega, ⟨c5, c6⟩, c7⟩
 have bY := dF aE
 refine W.reg <| WL.O (.eql rfl rfl) <| WL.Z rfl <| W.cond rfl (fun aI => ?_) (fun aI => ?_)
 have c8 := dT aI
 refine W.sr <| WL.M rfl <| WL.O (.nck rfl) <| WL.O (.fa u180_ rfl s3_ dD rfl) <| WL.R (Rd.ld (g3_ _) rfl d rfl) <| WL.O (.iis (((s + 1 : Nat) : Int)) (.add rfl rfl (i64w oO)) oO) <| WL.O (.nck rfl) <| WL.O (.fa u180_ rfl s3_ dD rfl) <| WL.st s3_ rfl rfl rfl d oD (fun dG Q y eb => ?_)
 have Q : Blk dG r _ _ := Q
 have y : Upd r _ _ := y
 have aT := j.up y
 have aU := BytesAt.upd o y hne
 have aV := tt_ g (Touch.of_upd y)
 refine WL.e <| W.sr <| WL.M rfl <| WL.bsl (ps := _) u22_ s5_ z5_ rfl rfl rfl rfl rfl pR rfl (fun eH eA a1 bD U ec => ?_)
 have c9 := bgl a1 Q.lt
 have ca := Q.un U c9
 have cb := bgl a1 aT.lt
 have cc := aT.un U cb
 have bE := fun h0 => a1 ▸ aU.lt h0
 have cd := bup aU U bE
 have b6 := bge a1 aV.size
 have cf := tt_ aV (tn_ U b6)
 refine WL.R (Rd.b2s (l := [x]) u22_ u5_ u9_ rfl (BytesAt.one bD rfl)) <| ?_
 refine WL.O (.buildL (ps := _) blt147 rfl rfl rfl pS) ?_
 refine WL.stL rfl rfl cc isz147 rfl rfl (fun eI bG aa ed => ?_)
 have cg := ca.up aa
 have ci := bup cd aa f
 have cj := tt_ cf (tn_ aa oO)
 refine WL.e <| W.ret (W.retc1 rfl rfl (ldRow bG u147_ rfl isz147)  ?_)
 exact Ends.ok (⟨3, 0, [x]⟩, l.drop (s + 1)) (by rw [hT, show x = 93 from u8_eq aS, tokC93]) rfl ⟨_, rfl, by omega, ⟨cg, ci⟩, cj⟩
 have c8 := dF aI
 refine W.sr <| WL.O (.eql rfl rfl) <| WL.Z rfl <| W.cond rfl (fun aJ => ?_) (fun aJ => ?_)
 have ck := dT aJ
 refine W.sr <| WL.M rfl <| WL.O (.nck rfl) <| WL.O (.fa u180_ rfl s3_ dD rfl) <| WL.R (Rd.ld (g3_ _) rfl d rfl) <| WL.O (.iis (((s + 1 : Nat) : Int)) (.add rfl rfl (i64w oO)) oO) <| WL.O (.nck rfl) <| WL.O (.fa u180_ rfl s3_ dD rfl) <| WL.st s3_ rfl rfl rfl d oD (fun dH ab B ee => ?_)
 have ab : Blk dH r _ _ := ab
 have B : Upd r _ _ := B
 have aW := j.up B
 have cl := BytesAt.upd o B hne
 have a2 := tt_ g (Touch.of_upd B)
 refine WL.e <| W.sr <| WL.M rfl <| WL.ce hB_ rfl rfl ((scan_slash r p l c (s + 1) _ ⟨ab, cl⟩ hne hc hl oO)) (fun dI dJ ac i => ?_) (fun dK dJ ac i => ?_)
 have b7 := tt_ a2 (tm_ i a2.size)
 exact pn_is (Ends.err dI (by rw [hT, show x = 47 from u8_eq aS, tokC47]; exact ac) b7)
 obtain ⟨kr, a6, a7, i⟩ := i
 have cm := i.1.1
 have cn := bo_ aW i.2 aW.lt oO
 have co := i.1.2
 have cq := tt_ a2 (tm_ i.2 a2.size)
 have F := ac
 obtain ⟨G, aM⟩ : ∃ G, G = dK := ⟨_, rfl⟩
 refine WL.stL rfl rfl cn isz147 rfl rfl (fun eJ bH ad ef => ?_)
 have cr := cm.up ad
 have ct := bup co ad f
 have cu := tt_ cq (tn_ ad oO)
 refine WL.e <| W.ret (W.retc1 rfl rfl (ldRow bH u147_ rfl isz147)  ?_)
 exact Ends.ok _ (by rw [hT, show x = 47 from u8_eq aS, tokC47]; exact F) rfl ⟨_, a6, a7, ⟨cr, ct⟩, cu⟩
 have ck := dF aJ
 refine W.k <| W.sr <| WL.M rfl <| WL.c1 hB_ rfl rfl ((scan_word r p l c s _ ⟨d, o⟩ hne hc hl oO)) (fun eK a3 => ?_)
 have cv := a3.1.1
 have cw := bo_ j a3.2 j.lt oO
 have aX := a3.1.2
 have aY := tt_ g (tm_ a3.2 g.size)
 refine WL.Z rfl <| W.seq ?_
 obtain ⟨T, cU⟩ : ∃ T, T = tokenL ((l.drop s).takeWhile regB) := ⟨_, rfl⟩
 have hX : tokS (l.drop n) = if T.e ≠ 0 then .error T.e else if T.ok then .ok (⟨T.kind, T.n, []⟩, l.drop (wordAt l s)) else nameS 3 (l.drop s) := by rw [hT, tokC_word _ oO oO oO oO oO oO oO oO oO, hx, ← List.drop_eq_getElem_cons bg, ← word_drop, cU]; rfl
 have eg : ∀ w, Calls Tryz.prog 95 #[.string (bs ((l.drop s).takeWhile regB))] w fun e w' => e = .returned T.val ∧ Below w.heap.size w w' := fun w => by rw [cU]; exact dec_Token _ w
 refine W.reg <| WL.M rfl <| WL.c1 hB_ rfl rfl ((eg _)) (fun eL a4 => ?_)
 have aZ := cv.bl a4
 have a' := cw.bl a4
 have b0 := bb_ aX a4 (fun h0 => aX.lt h0)
 have b2 := tt_ aY (tm_ (tb_ a4) aY.size)
 refine WL.M rfl <| WL.O (.ext rfl rfl) <| WL.O (.ext rfl rfl) <| WL.O (.ext rfl rfl) <| WL.al z147_ rfl (fun eM eB a5 bI V eh => ?_)
 have cy := bgl a5 aZ.lt
 have cz := aZ.un V cy
 have cA := bgl a5 a'.lt
 have cB := a'.un V cA
 have aG := fun h0 => a5 ▸ b0.lt h0
 have cC := bup b0 V aG
 have b8 := bge a5 b2.size
 have cD := tt_ b2 (tn_ V b8)
 refine WL.stL rfl rfl bI isz147 rfl rfl (fun eN bJ X ei => ?_)
 have b3 := cz.up X
 have b4 := cB.up X
 have aF := bup cC X aG
 have C := tt_ cD (tn_ X oO)
 refine WL.A rfl <| WL.Z rfl <| W.seq <| W.b <| W.sr <| WL.M rfl <| WL.O (.neq rfl rfl) <| WL.Z rfl <| W.cond rfl (fun aK => ?_) (fun aK => ?_)
 have cE := ndT aK
 refine W.reg <| WL.M rfl <| WL.O (.mkI u30_ rfl) <| WL.panic rfl (pn_is ?_)
 exact Ends.err T.e (by rw [hX, if_pos aS]) C
 have cE := ndF aK
 refine W.sr <| WL.M rfl <| WL.Z rfl <| W.cond rfl (fun dL => ?_) (fun dL => ?_)
 refine W.sr <| WL.R (Rd.ldA rfl bJ u147_ rfl isz147) <| WL.stL rfl rfl b4 isz147 rfl rfl (fun eO bK ae ej => ?_)
 have cF := b3.up ae
 have cG := bup aF ae f
 have cH := tt_ C (tn_ ae oO)
 refine WL.e <| W.ret (W.retc1 rfl rfl (ldRow bK u147_ rfl isz147)  ?_)
 exact Ends.ok (⟨T.kind, T.n, []⟩, l.drop (wordAt l s)) (by rw [hX, if_neg (fun h => h aS), if_pos aS]) rfl ⟨_, rfl, cT.2, ⟨cF, cG⟩, cH⟩
 refine W.k <| W.sr <| WL.M rfl <| WL.ce hB_ rfl rfl ((scan_name 3 _ _ (by have := word_len l s; omega))) (fun dM dN af D => ?_) (fun dO dN af D => ?_)
 have b9 := tt_ C (tm_ (tb_ D) C.size)
 exact pn_is (Ends.err dM (by rw [hX, if_neg (fun h => h aS), if_neg (bF aS)]; exact nameS_err af) b9)
 have cI := b3.bl D
 have cJ := b4.bl D
 have cK := bb_ aF D (fun h0 => aF.lt h0)
 have cL := tt_ C (tm_ (tb_ D) C.size)
 obtain ⟨G, aM⟩ : ∃ G, G = dO := ⟨_, rfl⟩
 have F := af
 refine WL.stL rfl rfl cJ isz147 rfl rfl (fun eP bM ag ek => ?_)
 have cM := cI.up ag
 have cN := bup cK ag f
 have cO := tt_ cL (tn_ ag oO)
 refine WL.e <| W.ret (W.retc1 rfl rfl (ldRow bM u147_ rfl isz147)  ?_)
 exact Ends.ok (_, l.drop (wordAt l s)) (by rw [hX, if_neg (fun h => h aS), if_neg (bF aS), nameS_ok F, word_drop]) rfl ⟨_, rfl, cT.2, ⟨cM, cN⟩, cO⟩
end
section
set_option maxRecDepth 4000
theorem scan_quiet (b1 b2 b5 : Nat) (w : World) :
  CallsD Tryz.prog 120 #[.pointer (some ⟨b1, 0, none⟩), .pointer (some ⟨b2, 0, none⟩), .pointer (some ⟨b5, 0, none⟩)] .returning w fun e u' w' => u' = .returning ∧ (∃ v, e = .returned v) ∧ w' = w := by
 refine CallsD.rec func120 rfl ntmps120 bL rfl <| WL.Z rfl <| W.sr <| WL.M rfl <| WL.O (.neNil0 kR rfl) <| WL.e <| W.condF rfl rfl <| W.k <| W.norm (W.ret0 rfl ?_)
 exact ⟨⟨_, rfl⟩, rfl⟩
theorem scan_caught (b1 b2 b5 B : Nat) (x y : Int) (z : ByteArray) (i j k : Int) (w : World) (h1 : Blk w b1 #[.int .i64 x, .int .i64 y, .string z] 147) (h2 : Blk w b2 #[.int .i64 i] 3) (h5 : Blk w b5 #[.int .i64 j] 30) (hB1 : B ≤ b1) (h12 : b1 < b2) (h25 : b2 < b5) :
  CallsD Tryz.prog 120 #[.pointer (some ⟨b1, 0, none⟩), .pointer (some ⟨b2, 0, none⟩), .pointer (some ⟨b5, 0, none⟩)] (.panicking [{ v := .iface 30 (.int .i64 k), recovered := false }]) w
   fun e u' w' => u' = .panicking [{ v := .iface 30 (.int .i64 k), recovered := true }] ∧ (∃ v, e = .returned v) ∧
    Blk w' b1 #[.int .i64 0, .int .i64 0, .string ⟨#[]⟩] 147 ∧ Blk w' b2 #[.int .i64 0] 3 ∧ Blk w' b5 #[.int .i64 k] 30 ∧ Below B w w' := by
 refine CallsD.rec func120 rfl ntmps120 bL rfl ?_
 have o := br_ (B) w
 refine WL.Z rfl <| W.sr <| WL.M rfl <| WL.O (.neNil kR rfl) <| WL.e <| W.condT rfl rfl <| W.sr <| WL.M rfl <| WL.O (.tas u30_ rfl) <| WL.M rfl <| WL.O (.ext rfl rfl) <| WL.O (.ext rfl rfl) <| WL.A rfl <| WL.Z rfl <| W.seq <| W.sr <| WL.M rfl <| WL.O (.not rfl) <| WL.e <| W.condF rfl rfl ?_
 refine W.k <| W.reg <| WL.O (.buildL (ps := _) blt147 rfl rfl rfl pZ) ?_
 refine WL.M rfl <| WL.stL rfl rfl h1 isz147 rfl rfl (fun K g c E => ?_)
 have q := h2.upd c oM
 have s := h5.upd c oM
 have t := ub_ o oO c
 refine WL.st s3_ rfl rfl rfl q oD (fun F d a G => ?_)
 have d : Blk F b2 _ _ := d
 have a : Upd b2 _ _ := a
 have u := g.up a
 have C := s.up a
 have D := ub_ t oO a
 refine WL.st s30_ rfl rfl rfl C oD (fun H f b J => ?_)
 have f : Blk H b5 _ _ := f
 have b : Upd b5 _ _ := b
 have l := u.up b
 have m := d.up b
 have n := ub_ D oO b
 refine WL.e <| W.norm (W.ret0 rfl ?_)
 exact ⟨⟨_, rfl⟩, l, m, f, n⟩
theorem scan_Next (a : Int) (p : Option Addr) (l : List UInt8) (c : Nat) (w : World) (hb : BytesAt w p l) (hc : l.length ≤ c) (hl : l.length ≤ 100000000) :
    Calls Tryz.prog 90 #[.slice p l.length c, .int .i64 a] w fun e w' => e = .returned (nextR l a).val ∧ Below w.heap.size w w' := by
  refine W.enterD func90 rfl ntmps90 bL ?_; have ay := br_ (w.heap.size) w; refine WD.seq <| W.reg <| WL.al z147_ rfl (fun b1 bp af ag ah bk => ?_); have aD := fun J => af ▸ hb.lt J
  have az := bup hb ah aD; have aA := uB ay af ah; have b6 := bge af ay.size; refine WL.al z3_ rfl (fun x bq ae ai a6 bl => ?_); have aO := bgl ae ag.lt; have aB := ag.un a6 aO; have aE := fun J => ae ▸ az.lt J
  have aC := bup az a6 aE; have aj := uB aA ae a6; have b7 := bge ae aA.size; refine WL.al zeroValue30 rfl (fun d bm C K y b8 => ?_); have aF := bgl C aB.lt; have a7 := aB.un y aF; have aG := bgl C ai.lt; have a8 := ai.un y aG; have ap := fun J => C ▸ aC.lt J
  have ak := bup aC y ap; have a9 := uB aj C y; have aP := bge C aj.size; refine WL.e <| WD.seq <| W.cutB 15 (decide (a < 0 ∨ (l.length : Int) < a)) ?_ ?_; refine W.reg <| WL.M rfl <| WL.O (.lss rfl rfl) <| WL.M rfl <| WL.gd rfl rfl rfl (fun f => ?_) (fun f => ?_)
  · have aH := dF f
    refine WL.M rfl <| WL.Y f <| WL.M rfl <| WL.Y f <| WL.O (.lenS u22_ rfl) <| WL.Y f <| WL.O (.gtr rfl rfl) <| WL.O (.pkF rfl f rfl) <| WL.e <| ?_; exact ⟨leE (lk_b rfl (by (apply Bool.eq_iff_iff.2; (try simp only [Bool.and_eq_true, Bool.or_eq_true, Bool.not_eq_true', decide_eq_true_eq, decide_eq_false_iff_not, Bool.false_eq_true, Bool.not_eq_false', false_iff, iff_false, true_iff, iff_true]); omega))), rfl⟩
  have aH := dT f; refine WL.N f <| WL.N f <| WL.N f <| WL.O (.pkT rfl f rfl) <| WL.e <| ?_; exact ⟨leE (lk_b rfl (by (apply Bool.eq_iff_iff.2; (try simp only [Bool.and_eq_true, Bool.or_eq_true, Bool.not_eq_true', decide_eq_true_eq, decide_eq_false_iff_not, Bool.false_eq_true, Bool.not_eq_false', false_iff, iff_false, true_iff, iff_true]); omega))), rfl⟩; refine W.cnd rfl (fun aI => ?_) (fun aI => ?_)
  · skip
    refine W.sr <| WL.O (.buildL (ps := _) blt147 rfl rfl rfl pZ) ?_; refine WL.stL rfl rfl a7 isz147 rfl rfl (fun bt aq L b9 => ?_); refine WL.st s3_ rfl rfl rfl (a8.up L) oD (fun aQ P j ba => ?_); have P : Blk aQ x _ _ := P; have j : Upd x _ _ := j; refine WL.st s30_ rfl rfl rfl ((K.up L).up j) oD (fun aR Q m bb => ?_); have Q : Blk aR d _ _ := Q; have m : Upd d _ _ := m; refine WL.e <| W.ret ?_; exact PostD.ret0 (ResOk.cells3 rfl rfl rfl rfl (ldRow ((aq.up j).up m) u147_ rfl isz147) (ldCell (P.up m) (g3_ _) rfl) (ldCell Q (g30_ _) rfl)) ⟨ret_val (by unfold nextR; rw [if_pos oO]; (first | done | rfl)), (ub_ (ub_ (ub_ a9 oO L) oO j) oO m)⟩
  obtain ⟨n, rfl⟩ := Int.eq_ofNat_of_zero_le (a := a) oO; have hN : nextR l (n : Int) = nrOf l (tokS (l.drop n)) := by unfold nextR; rw [if_neg oO]; rfl
  refine W.k <| WD.defer rfl rfl <| WD.of <| W.sr <| WL.M rfl <| WL.M rfl <| ?_; refine WL.O (.buildL (ps := _) blt180 rfl rfl rfl pS) ?_; refine WL.box rfl rfl (fun aS bn v ar o bc => ?_); have aJ := bgl v a7.lt; have T := a7.un o aJ; have aK := bgl v a8.lt; have U := a8.un o aK; have aL := bgl v K.lt; have V := K.un o aL; have au := fun J => v ▸ ak.lt J
  have X := uB a9 v o; have aT := bge v a9.size; refine WL.Z rfl <| W.sr <| WL.M rfl <| WL.ce hB_ rfl rfl ((scan_token aS p l c n _ ⟨ar, (bup ak o au)⟩ (fun J => by have := hb.lt J; omega) hc hl oO)) (fun aU aV a0 b => ?_) (fun aW aV a0 b => ?_); exact PostD.caught hb120 (fun w' => _) (scan_caught b1 x d w.heap.size _ _ _ _ _ aU _ (bo_ T b T.lt oO) (bo_ U b U.lt oO) (bo_ V b V.lt oO) oO oO oO)
    (fun w' hS => ⟨_, ResOk.cells3 rfl rfl rfl rfl (ldRow hS.1 u147_ rfl isz147) (ldCell hS.2.1 (g3_ _) rfl) (ldCell hS.2.2.1 (g30_ _) rfl), ret_val (by rw [hN, a0]; (first | done | rfl)), (bt_ X (Touch.below b X.size oO)).trans hS.2.2.2⟩)
  obtain ⟨kr, aX, am, b⟩ := b; have an := a0; obtain ⟨t0, rest⟩ := aW; obtain rfl : rest = l.drop kr := aX; refine WL.stL rfl rfl (bo_ T b.2 T.lt oO) isz147 rfl rfl (fun bu av A bd => ?_); refine WL.e <| W.seq <| W.noPn <| W.regY 8 rfl mixed (fun bv D => ?_); have E := av.drew D; have aa := ((bo_ U b.2 U.lt oO).up A).drew D; have ab := ((bo_ V b.2 V.lt oO).up A).drew D; have ac := (b.1.1.up A).drew D; have ad := Drew.below (ub_ (bt_ X (Touch.below b.2 X.size oO)) oO A) D; refine WY.tk 1 rfl (.mv rfl) rfl <| WY.tk 2 rfl (.nck rfl) rfl <| WY.tk 3 rfl (.fa u180_ rfl s3_ dD rfl) rfl <| WY.br2 0 rfl 4 rfl ?_ ?_; refine WL.R (Rd.ldA rfl E u147_ rfl isz147) <| WL.e <| WY.br2 4 rfl 5 rfl ?_ ?_; refine WL.R (Rd.ld (g3_ _) rfl ac rfl) <| WL.e <| WY.br1 5 rfl <| WL.stL rfl rfl E isz147 rfl rfl (fun bw aw a1 be => ?_); refine WL.e <| WY.br1 6 rfl <| WL.st s3_ rfl rfl rfl (aa.up a1) oD (fun aY a2 q bf => ?_); have a2 : Blk aY x _ _ := a2; have q : Upd x _ _ := q; refine WL.e <| WY.br1 7 rfl <| WL.st s30_ rfl rfl rfl ((ab.up a1).up q) oD (fun aZ a3 s bg => ?_); have a3 : Blk aZ d _ _ := a3; have s : Upd d _ _ := s; refine WL.e <| WY.done kR <| W.ret ?_; exact PostD.ret hb120 (fun w' => _) (scan_quiet b1 x d _)
    (fun w' hS => by subst hS; exact ⟨_, ResOk.cells3 rfl rfl rfl rfl (ldRow ((aw.up q).up s) u147_ rfl isz147) (ldCell (a2.up s) (g3_ _) rfl) (ldCell a3 (g30_ _) rfl), ret_val (by rw [hN, an, nrOf_drop _ _ _ am]; (first | done | rfl)), (ub_ (ub_ (ub_ ad oO a1) oO q) oO s)⟩)
  refine WL.stL rfl rfl E isz147 rfl rfl (fun bx ax B bh => ?_); refine WL.e <| WY.br1 4 rfl <| WL.R (Rd.ld (g3_ _) rfl (ac.up B) rfl) <| WL.e <| WY.br1 6 rfl <| WL.st s3_ rfl rfl rfl (aa.up B) oD (fun a' a4 t bi => ?_); have a4 : Blk a' x _ _ := a4; have t : Upd x _ _ := t; refine WL.e <| WY.br1 7 rfl <| WL.st s30_ rfl rfl rfl ((ab.up B).up t) oD (fun b0 a5 u bj => ?_); have a5 : Blk b0 d _ _ := a5; have u : Upd d _ _ := u; refine WL.e <| WY.done kR <| W.ret ?_; exact PostD.ret hb120 (fun w' => _) (scan_quiet b1 x d _)
    (fun w' hS => by subst hS; exact ⟨_, ResOk.cells3 rfl rfl rfl rfl (ldRow ((ax.up t).up u) u147_ rfl isz147) (ldCell (a4.up u) (g3_ _) rfl) (ldCell a5 (g30_ _) rfl), ret_val (by rw [hN, an, nrOf_drop _ _ _ am]; (first | done | rfl)), (ub_ (ub_ (ub_ ad oO B) oO t) oO u)⟩)
  refine WL.R (Rd.ld (g3_ _) rfl ac rfl) <| WL.e <| WY.br1 0 rfl <| WL.R (Rd.ldA rfl E u147_ rfl isz147) <| WL.e <| WY.br1 5 rfl <| WL.stL rfl rfl E isz147 rfl rfl (fun bo ao F b2 => ?_); refine WL.e <| WY.br1 6 rfl <| WL.st s3_ rfl rfl rfl (aa.up F) oD (fun aM G g b3 => ?_); have G : Blk aM x _ _ := G; have g : Upd x _ _ := g; refine WL.e <| WY.br1 7 rfl <| WL.st s30_ rfl rfl rfl ((ab.up F).up g) oD (fun aN H i b4 => ?_); have H : Blk aN d _ _ := H; have i : Upd d _ _ := i; refine WL.e <| WY.done kR <| W.ret ?_; exact PostD.ret hb120 (fun w' => _) (scan_quiet b1 x d _)
    (fun w' hS => by subst hS; exact ⟨_, ResOk.cells3 rfl rfl rfl rfl (ldRow ((ao.up g).up i) u147_ rfl isz147) (ldCell (G.up i) (g3_ _) rfl) (ldCell H (g30_ _) rfl), ret_val (by rw [hN, an, nrOf_drop _ _ _ am]; (first | done | rfl)), (ub_ (ub_ (ub_ ad oO F) oO g) oO i)⟩)
end
section
section
variable {P : Program} {f : Fr} {x y : Operand} {tx ty : TypeId} {a b r : Int} {k : IntKind}
theorem Pure.shr6 (hx : evo f x = some (.int .u8 a)) (hr : a.fdiv 64 = r) : Pure P (.binOp .shr tx x (.const (.int .u64 6)) ty) f (.int .u8 r) := fun ρ hρ d ty' pos aft g w => by
 have h4 : ρ (.const (.int .u64 6)) = .int .u64 6 := hρ _ _ rfl
 have e : (Op.shift .shr .u8 a .u64 6).run P w = .ok (.int .u8 r) w := by
  subst hr; rfl
 simp [execOp, hρ _ _ hx, h4, eqGuard, binOp, e]
theorem Pure.and (hx : evo f x = some (.int k a)) (hy : evo f y = some (.int k b)) (hr : bits .and k a b = r) : Pure P (.binOp .and tx x y ty) f (.int k r) := fun ρ hρ d ty' pos aft g w => by
 simp [execOp, hρ _ _ hx, hρ _ _ hy, eqGuard, binOp, intBits_and, hr]
end
def lowC (c : UInt8) : UInt8 := c ||| ((32 : UInt8) * ((c >>> (6 : UInt8)) &&& (1 : UInt8)))
theorem low_shr (c : UInt8) : (c.toNat : Int).fdiv 64 = ((c >>> (6 : UInt8)).toNat : Int) := by
 have key : ∀ n : Fin 256, ((UInt8.ofNat n.1).toNat : Int).fdiv 64 = (((UInt8.ofNat n.1) >>> (6 : UInt8)).toNat : Int) := by decide +kernel
 have h := key ⟨c.toNat, UInt8.toNat_lt c⟩
 have e : UInt8.ofNat (⟨c.toNat, UInt8.toNat_lt c⟩ : Fin 256).1 = c := UInt8.ofNat_toNat
 rw [e] at h
 exact h
theorem low_and (c : UInt8) : bits .and .u8 ((c >>> (6 : UInt8)).toNat : Int) 1 = (((c >>> (6 : UInt8)) &&& (1 : UInt8)).toNat : Int) := by
 have key : ∀ n : Fin 256, bits .and .u8 (((UInt8.ofNat n.1) >>> (6 : UInt8)).toNat : Int) 1 = ((((UInt8.ofNat n.1) >>> (6 : UInt8)) &&& (1 : UInt8)).toNat : Int) := by decide +kernel
 have h := key ⟨c.toNat, UInt8.toNat_lt c⟩
 have e : UInt8.ofNat (⟨c.toNat, UInt8.toNat_lt c⟩ : Fin 256).1 = c := UInt8.ofNat_toNat
 rw [e] at h
 exact h
theorem low_mul (c : UInt8) : IntKind.u8.wrap (32 * (((c >>> (6 : UInt8)) &&& (1 : UInt8)).toNat : Int)) = (((32 : UInt8) * ((c >>> (6 : UInt8)) &&& (1 : UInt8))).toNat : Int) := by
 have key : ∀ n : Fin 256, IntKind.u8.wrap (32 * ((((UInt8.ofNat n.1) >>> (6 : UInt8)) &&& (1 : UInt8)).toNat : Int)) = (((32 : UInt8) * (((UInt8.ofNat n.1) >>> (6 : UInt8)) &&& (1 : UInt8))).toNat : Int) := by decide +kernel
 have h := key ⟨c.toNat, UInt8.toNat_lt c⟩
 have e : UInt8.ofNat (⟨c.toNat, UInt8.toNat_lt c⟩ : Fin 256).1 = c := UInt8.ofNat_toNat
 rw [e] at h
 exact h
theorem low_or (c : UInt8) : bits .or .u8 (c.toNat : Int) (((32 : UInt8) * ((c >>> (6 : UInt8)) &&& (1 : UInt8))).toNat : Int) = ((lowC c).toNat : Int) := by
 have key : ∀ n : Fin 256, bits .or .u8 ((UInt8.ofNat n.1).toNat : Int) (((32 : UInt8) * (((UInt8.ofNat n.1) >>> (6 : UInt8)) &&& (1 : UInt8))).toNat : Int) = ((lowC (UInt8.ofNat n.1)).toNat : Int) := by decide +kernel
 have h := key ⟨c.toNat, UInt8.toNat_lt c⟩
 have e : UInt8.ofNat (⟨c.toNat, UInt8.toNat_lt c⟩ : Fin 256).1 = c := UInt8.ofNat_toNat
 rw [e] at h
 exact h
theorem low_idx (c : UInt8) : Lib.indexByte [48, 49, 50, 51, 52, 53, 54, 55, 56, 57, 97, 98, 99, 100, 101, 102] (lowC c) = digI c := by
 have key : ∀ n : Fin 256, Lib.indexByte [48, 49, 50, 51, 52, 53, 54, 55, 56, 57, 97, 98, 99, 100, 101, 102] (lowC (UInt8.ofNat n.1)) = digI (UInt8.ofNat n.1) := by decide +kernel
 have h := key ⟨c.toNat, UInt8.toNat_lt c⟩
 have e : UInt8.ofNat (⟨c.toNat, UInt8.toNat_lt c⟩ : Fin 256).1 = c := UInt8.ofNat_toNat
 rw [e] at h
 exact h
theorem plex_digit (c : UInt8) (w : World) : Calls Tryz.prog 87 #[.int .u8 (c.toNat : Int)] w fun e w' => e = .returned (.int .i64 (digI c)) ∧ w = w' := by
 refine W.e func87 rfl ntmps87 bL ?_
 refine W.sr <| WL.Z rfl <| W.sr <| WL.M rfl <| WL.M rfl <| WL.O (.shr6 rfl (low_shr c)) <| WL.O (.and rfl rfl (low_and c)) <| WL.O (.mul rfl rfl (low_mul c)) <| WL.O (.or rfl rfl (low_or c)) <| WL.c1 hB_ rfl rfl ((lib_ib [48, 49, 50, 51, 52, 53, 54, 55, 56, 57, 97, 98, 99, 100, 101, 102] (lowC c) _)) (fun b a => ?_)
 obtain rfl := a
 refine WL.Z rfl <| W.ret (W.r1 rfl rfl ?_)
 exact ⟨ret_int (low_idx c), rfl⟩
theorem digit_q (c : UInt8) (w : World) (m : Nat) : Calls Tryz.prog 87 #[.int .u8 (c.toNat : Int)] (w.drewN m) fun e w' => e = .returned (.int .i64 (digI c)) ∧ ∃ k, w' = w.drewN k :=
 (plex_digit c (w.drewN m)).mono fun e w' h => ⟨h.1, m, h.2.symm⟩
theorem decN_cons (c : UInt8) (r : List UInt8) : decN (c :: r) = if c = 35 then (match r with | a :: b :: r' => if hexN a < 16 ∧ hexN b < 16 then (decN r').map (ch ((16 * hexN a + hexN b : Nat) : Int) :: ·) else none | _ => none) else (decN r).map (c :: ·) := by
 match r with
 | [] => by_cases h : c = 35 <;> simp [decN, h]
 | [a] => by_cases h : c = 35 <;> simp [decN, h]
 | a :: b :: r' => by_cases h : c = 35 <;> simp [decN, h]
def decR (acc s : List UInt8) : Option (List UInt8) := (decN s).map (acc ++ ·)
theorem decR_nil (acc : List UInt8) : decR acc [] = some acc := by simp [decR, decN]
theorem decR_plain (acc s : List UInt8) (i : Nat) (h : i < s.length) (hc : s[i] ≠ 35) : decR acc (s.drop i) = decR (acc ++ [s[i]]) (s.drop (i + 1)) := by
 unfold decR
 rw [List.drop_eq_getElem_cons h, decN_cons, if_neg hc, Option.map_map]
 congr 1
 funext x
 simp
theorem decR_short (acc s : List UInt8) (i : Nat) (h : i < s.length) (hc : s[i] = 35) (h2 : s.length ≤ i + 2) : decR acc (s.drop i) = none := by
 unfold decR
 rw [List.drop_eq_getElem_cons h, decN_cons, if_pos hc]
 have hl : (s.drop (i + 1)).length ≤ 1 := by rw [List.length_drop]; omega
 match s.drop (i + 1), hl with
 | [], _ => rfl
 | [a], _ => rfl
theorem decR_hash (acc s : List UInt8) (i : Nat) (h : i + 2 < s.length) (hc : s[i] = 35) : decR acc (s.drop i) = if hexN s[i + 1] < 16 ∧ hexN s[i + 2] < 16 then decR (acc ++ [ch ((16 * hexN s[i + 1] + hexN s[i + 2] : Nat) : Int)]) (s.drop (i + 3)) else none := by
 unfold decR
 rw [List.drop_eq_getElem_cons (show i < s.length by omega), decN_cons, if_pos hc, List.drop_eq_getElem_cons (show i + 1 < s.length by omega), List.drop_eq_getElem_cons (show i + 1 + 1 < s.length by omega)]
 simp only
 split
 ·
  rw [Option.map_map]
  congr 1
  funext x
  simp
 ·
  rfl
theorem lib_idx (q : Option Addr) (s : List UInt8) (c : Nat) (x : UInt8) (w : World) (hb : BytesAt w q s) (hl : s.length ≤ 1000000000) :
  Calls Tryz.prog 119 #[.slice q s.length c, .int .u8 (x.toNat : Int)] w fun e w' => (∃ a : Int, e = .returned (.int .i64 a) ∧ (0 ≤ a ↔ x ∈ s)) ∧ w = w' := by
 refine W.e func119 rfl ntmps119 bL ?_
 refine W.sr <| WL.Z rfl <| W.seq <| W.sr <| WL.M rfl <| WL.O (.lenS u22_ rfl) <| WL.M rfl <| WL.e <| W.b <| W.loop (α := Nat) (fun t => [(0, .slice q s.length c), (1, .int .u8 (x.toNat : Int)), (7, .int .i64 (s.length : Int)), (8, .int .i64 (t : Int))]) (fun t w' => w = w' ∧ t ≤ s.length ∧ x ∉ s.take t) (fun t => s.length - t) (0) ⟨rfl, rfl, rfl, rfl, tT⟩ (⟨rfl, nl_ _, by simp⟩) (fun t m hR => ?_)
 obtain ⟨i, rfl⟩ : ∃ i, i = t := ⟨t, rfl⟩
 obtain ⟨rfl, hi, d⟩ := hR
 refine W.sr <| WL.O (.lss rfl rfl) <| WL.e <| W.seq <| W.cond rfl (fun f => ?_) (fun f => ?_)
 have j := dT f
 refine W.k <| W.seq <| W.b <| W.sr <| WL.M rfl <| WL.Z rfl <| W.sr <| WL.M rfl <| WL.M rfl <| WL.M rfl <| WL.O (.ixb u22_ s5_ rfl rfl (hb.isp (by first | omega | exact nz_ _)) (i) (rfl) oO) <| WL.R (Rd.ldc (g5_ _) rfl (hb.cells (i) oO)) <| WL.O (.eql rfl rfl) <| WL.e <| W.cond rfl (fun g => ?_) (fun g => ?_)
 have l := dT g
 refine W.sr <| WL.M rfl <| WL.Z rfl <| W.ret (W.r1 rfl rfl ?_)
 exact ⟨⟨_, rfl, fun _ => by rw [show x = s[i]'oO from u8_eq aS]; exact List.getElem_mem _, fun _ => by omega⟩, rfl⟩
 have l := dF g
 refine W.k <| W.reg <| WL.O (.iis (((i + 1 : Nat) : Int)) (.add rfl rfl (i64w oO)) oO) <| WL.M rfl <| WL.e <| ?_
 exact ⟨i + 1, ⟨rfl, rfl, rfl, rfl, tT⟩, ⟨rfl, by ((try simp only) <;> omega), by
  rw [List.take_add_one, List.getElem?_eq_getElem oO, Option.toList_some, List.mem_append, List.mem_singleton]; exact fun h => h.elim d (u8_ne aS)⟩, by ((try simp only) <;> omega)⟩
 have j := dF f
 refine W.exit <| W.sr <| WL.Z rfl <| W.ret (W.r1 rfl rfl ?_)
 exact ⟨⟨_, rfl, fun h => ab_ h dD, fun h => by rw [show s.take i = s from List.take_of_length_le oO] at d; exact ab_ h d⟩, rfl⟩
theorem lib_has (q : Option Addr) (s : List UInt8) (c : Nat) (x : UInt8) (w : World) (hb : BytesAt w q s) (hl : s.length ≤ 1000000000) :
  Calls Tryz.prog 88 #[.slice q s.length c, .int .u8 (x.toNat : Int)] w fun e w' => e = .returned (.bool (decide (x ∈ s))) ∧ w = w' := by
 have hI : ∀ b, BytesAt b q s → Calls Tryz.prog 119 #[.slice q s.length c, .int .u8 (x.toNat : Int)] b fun e w' => ∃ a : { a : Int // 0 ≤ a ↔ x ∈ s }, e = .returned (.int .i64 a.1) ∧ b = w' := fun b f =>
  (lib_idx q s c x b f hl).mono fun e w' ⟨⟨a, g, i⟩, j⟩ => ⟨⟨a, i⟩, g, j⟩
 refine W.e func88 rfl ntmps88 bL ?_
 refine W.sr <| WL.Z rfl <| W.sr <| WL.M rfl <| WL.M rfl <| WL.call hB_ rfl rfl ((hI _ hb)) (fun a b d => ?_)
 obtain rfl := d
 refine WL.O (.geq rfl rfl) <| WL.Z rfl <| W.ret (W.r1 rfl rfl ?_)
 exact ⟨ret_bool (decide_eq_decide.2 a.2), rfl⟩
theorem plex_name (r : Nat) (p : Option Addr) (l : List UInt8) (c t : Nat) (refs : Bool) (w : World) (h : PRd w r p l c t refs) (hne : 0 < l.length → (pA p).block ≠ r) (hc : l.length ≤ c) (hl : l.length ≤ 100000000) (ht : t ≤ l.length) :
  Calls Tryz.prog 59 #[.pointer (some ⟨r, 0, none⟩)] w (Ends 30 (nameP l t) (fun a => .string (bs a.1)) (fun a w' => PRd w' r p l c a.2 refs ∧ Touch w.heap.size r w w') (fun w' => Touch w.heap.size r w w')) := by
 have hr := h.1
 have hb := h.2
 obtain ⟨X, hX⟩ : ∃ X, X = nameP l t := ⟨_, rfl⟩
 rw [← hX]
 unfold nameP at hX
 have aN := wordAt_le l t ht
 have aO := wordL_len l t
 have Q : ∀ J, BytesAt J p l → ∀ m, Calls Tryz.prog 64 #[.slice p l.length c, .int .i64 (t : Int)] (J.drewN m) fun e w' => e = .returned (.tuple #[.string (bs (wordL l t)), .int .i64 (wordAt l t : Int)]) ∧ ∃ k, w' = J.drewN k := fun J h1 m => word_q p l c t J h1 hc ht hl m
 generalize wordL l t = s at hX aO Q
 generalize wordAt l t = t1 at hX aN Q
 obtain ⟨D, hD⟩ : ∃ D, D = decN s := ⟨_, rfl⟩
 rw [← hD] at hX
 refine W.e func59 rfl ntmps59 bL ?_
 have aP := Touch.refl (w.heap.size) r w
 refine W.sr <| WL.Z rfl <| W.seq ?_
 have b8 : r < w.heap.size := hr.lt
 have ad : 0 < l.length → (pA p).block < w.heap.size := fun K => hb.lt K
 refine W.regQ mixed kR <| WQ.p (.mv rfl) rfl <| WQ.p (.nck rfl) rfl <| WQ.p (.fa u112_ rfl s22_ dD rfl) rfl <| WQ.r (fun m => Rd.ld (g22_ _) rfl hr rfl) rfl <| WQ.p (.mv rfl) rfl <| WQ.p (.nck rfl) rfl <| WQ.p (.fa u112_ rfl s3_ dD rfl) rfl <| WQ.r (fun m => Rd.ld (g3_ _) rfl hr rfl) rfl <| WQ.c1 hB_ rfl rfl (fun m => (Q _ hb m)) <| WQ.p (.mv rfl) rfl <| WQ.p (.ext rfl rfl) rfl <| WQ.p (.ext rfl rfl) rfl <| WQ.p (.as rfl) rfl <| WQ.p (.as rfl) rfl <| WQ.nil (fun J T => ?_)
 have aQ := hr.drew T
 have aR := hb.drew T
 have aT := tt_ aP (td_ T)
 refine W.sr <| WL.M rfl <| WL.M rfl <| WL.O (.nck rfl) <| WL.O (.fa u112_ rfl s3_ dD rfl) <| WL.st s3_ rfl rfl rfl aQ oD (fun w5 L A b5 => ?_)
 have L : Blk w5 r _ _ := L
 have A : Upd r _ _ := A
 have aU := BytesAt.upd aR A hne
 have aV := tt_ aT (Touch.of_upd A)
 refine WL.e <| W.sr <| WL.Z rfl <| W.seq <| W.sr <| WL.Z rfl <| W.b <| W.loop (α := Value × List UInt8 × Nat) (fun t => [(0, .pointer (some ⟨r, 0, none⟩)), (3, .string (bs s)), (5, t.1), (6, .int .i64 (t.2.2 : Int))]) (fun t w' => PRd w' r p l c t1 refs ∧ Touch w.heap.size r w w' ∧ Own 5 w.heap.size w' t.1 (byteVals t.2.1) ∧ decR t.2.1 (s.drop t.2.2) = D ∧ t.2.1.length ≤ t.2.2 ∧ t.2.2 ≤ s.length) (fun t => s.length - t.2.2) ((.slice none 0 0, [], 0)) ⟨rfl, rfl, rfl, rfl, tT⟩ (⟨⟨L, aU⟩, aV, Own.nil _ _ _, by rw [hD, List.drop_zero]; simp [decR], nl_ _, nl_ _⟩) (fun t J hR => ?_)
 obtain ⟨v, o, i⟩ := t
 obtain ⟨j, hT, B, hw, aW, hi⟩ := hR
 simp only at j hT B hw aW hi ⊢
 refine W.seq <| W.sr <| WL.M rfl <| WL.M rfl <| WL.O (.len u9_ rfl) <| WL.O (.lss rfl rfl) <| WL.e <| W.cond rfl (fun h8 => ?_) (fun h8 => ?_)
 have aX := dT h8
 refine W.k <| W.seq <| W.b <| W.sr <| WL.M rfl <| WL.M rfl <| WL.O (.ix u9_ rfl rfl (i) (rfl) oO) <| WL.Z rfl <| W.seq <| W.sr <| WL.M rfl <| WL.O (.eql rfl rfl) <| WL.e <| W.cond rfl (fun h9 => ?_) (fun h9 => ?_)
 have aY := dT h9
 have y : s[i]'oO = 35 := u8_eq aS
 refine W.seq <| W.sr <| WL.M rfl <| WL.O (.add rfl rfl (i64w oO)) <| WL.M rfl <| WL.O (.len u9_ rfl) <| WL.O (.geq rfl rfl) <| WL.M rfl <| WL.gd rfl rfl rfl (fun f => ?_) (fun f => ?_)
 have ag := dF f
 refine WL.M rfl <| WL.Y f <| WL.M rfl <| WL.Y f <| WL.O (.iis (((i + 1 : Nat) : Int)) (.add rfl rfl (i64w oO)) oO) <| WL.Y f <| WL.O (.ix u9_ rfl rfl (i + 1) (rfl) oO) <| WL.Y f <| WL.c1 hB_ rfl rfl ((plex_digit _ _)) (fun b9 ah => ?_)
 obtain rfl := ah
 have ba := digI_cases (s[i + 1]'oO)
 refine WL.Y f <| WL.O (.lss rfl rfl) <| WL.O (.pkF rfl f rfl) <| WL.M rfl <| WL.gd rfl rfl rfl (fun g => ?_) (fun g => ?_)
 have ai := dF g
 refine WL.M rfl <| WL.Y g <| WL.M rfl <| WL.Y g <| WL.O (.iis (((i + 2 : Nat) : Int)) (.add rfl rfl (i64w oO)) oO) <| WL.Y g <| WL.O (.ix u9_ rfl rfl (i + 2) (rfl) oO) <| WL.Y g <| WL.c1 hB_ rfl rfl ((plex_digit _ _)) (fun bb aj => ?_)
 obtain rfl := aj
 have aZ := digI_cases (s[i + 2]'oO)
 refine WL.Y g <| WL.O (.lss rfl rfl) <| WL.O (.pkF rfl g rfl) <| WL.e <| W.cond rfl (fun U => ?_) (fun U => ?_)
 have ak := dT U
 refine W.reg <| WL.cp hB_ rfl ((plex_fail 23 _)) (fun bc al => ?_)
 obtain rfl := al
 exact pn_is (Ends.err 23 (by rw [hX, ← hw, decR_hash _ _ _ oO y, if_neg oO]) hT)
 have ak := dF U
 refine W.k <| W.seq <| W.regQ mixed kR <| WQ.p (.mv rfl) rfl <| WQ.p (.mv rfl) rfl <| WQ.p (.iis (((i + 1 : Nat) : Int)) (.add rfl rfl (i64w oO)) oO) rfl <| WQ.p (.ix u9_ rfl rfl (i + 1) (rfl) oO) rfl <| WQ.c1 hB_ rfl rfl (fun m => (digit_q (s[i + 1]'oO) _ m)) <| WQ.p (.iis (((hexN (s[i + 1]'oO) : Nat) : Int) * 16) (.shl4 rfl _ (i64w oO)) oO) rfl <| WQ.p (.mv rfl) rfl <| WQ.p (.mv rfl) rfl <| WQ.p (.iis (((i + 2 : Nat) : Int)) (.add rfl rfl (i64w oO)) oO) rfl <| WQ.p (.ix u9_ rfl rfl (i + 2) (rfl) oO) rfl <| WQ.c1 hB_ rfl rfl (fun m => (digit_q (s[i + 2]'oO) _ m)) <| WQ.p (.or rfl rfl (show bits .or .i64 (((hexN (s[i + 1]'oO) : Nat) : Int) * 16) (digI (s[i + 2]'oO)) = ((hexN (s[i + 1]'oO) : Nat) : Int) * 16 + ((hexN (s[i + 2]'oO) : Nat) : Int) by rw [(aZ.resolve_left (fun h => by have := h.1; omega)).1]; exact or_16 _ _ oO oO)) rfl <| WQ.p (.cvt u3_ u5_ rfl (u8w oO)) rfl <| WQ.p (.as rfl) rfl <| WQ.nil (fun bd C => ?_)
 have am := Own.drew B C
 have V := j.1.drew C
 have a0 := j.2.drew C
 have a1 := tt_ hT (td_ C)
 refine W.reg <| WL.M rfl <| WL.O (.add rfl rfl (i64w oO)) <| WL.Z rfl <| W.reg <| WL.M rfl <| WL.M rfl <| WL.bsl (ps := _) u22_ s5_ z5_ rfl rfl rfl rfl rfl pR rfl (fun be b6 E a7 n b1 => ?_)
 have an := Own.new am E n
 have ao := bgl E V.lt
 have ap := V.un n ao
 have a8 := fun K => E ▸ a0.lt K
 have aq := bup a0 n a8
 have a2 := bge E a1.size
 have a3 := tt_ a1 (tn_ n a2)
 refine WL.appm u22_ inf5 rfl rfl rfl an rfl a7 rfl (by rw [byteVals_len]; omega) (a3.size) rfl (fun bf bg a9 F b2 => ?_)
 have ar := ap.below F oO
 have au := bb_ aq F ad
 have av := tt_ a3 (tb_ (F.mono (nr_ _)))
 have aw := Own.snoc a9 (ch ((16 * hexN (s[i + 1]'oO) + hexN (s[i + 2]'oO) : Nat) : Int)) (by rw [ch_val _ oO oO]; omega)
 refine WL.Z rfl <| W.reg <| WL.M rfl <| WL.O (.add rfl rfl (i64w oO)) <| WL.Z rfl ?_
 exact ⟨(_, o ++ [_], i + 3), ⟨rfl, rfl, rfl, lk_i rfl oM, tT⟩, ⟨⟨ar, au⟩, av, aw, by rw [← hw, decR_hash _ _ _ oO y, if_pos oO], by simp only [List.length_append, List.length_cons, List.length_nil]; omega, by ((try simp only) <;> omega)⟩, by ((try simp only) <;> omega)⟩
 have ai := dT g
 refine WL.N g <| WL.N g <| WL.N g <| WL.N g <| WL.N g <| WL.O (.pkT rfl g rfl) <| WL.e <| W.condT rfl rfl <| W.reg <| WL.cp hB_ rfl ((plex_fail 23 _)) (fun bh ax => ?_)
 obtain rfl := ax
 exact pn_is (Ends.err 23 (by rw [hX, ← hw, decR_hash _ _ _ oO y, if_neg oO]) hT)
 have ag := dT f
 refine WL.N f <| WL.N f <| WL.N f <| WL.N f <| WL.N f <| WL.O (.pkT rfl f rfl) <| WL.M rfl <| WL.N rfl <| WL.N rfl <| WL.N rfl <| WL.N rfl <| WL.N rfl <| WL.N rfl <| WL.O (.pkT rfl rfl rfl) <| WL.e <| W.condT rfl rfl <| W.reg <| WL.cp hB_ rfl ((plex_fail 23 _)) (fun bi ay => ?_)
 obtain rfl := ay
 exact pn_is (Ends.err 23 (by rw [hX, ← hw, decR_short _ _ _ oO y oO]) hT)
 have aY := dF h9
 have y : s[i]'oO ≠ 35 := u8_ne (d := 35) aS
 refine W.k <| W.reg <| WL.M rfl <| WL.M rfl <| WL.bsl (ps := _) u22_ s5_ z5_ rfl rfl rfl rfl rfl pR rfl (fun a' b7 G aa u b3 => ?_)
 have az := Own.new B G u
 have aA : r < a' := by rw [G]; exact j.1.lt
 have aB := j.1.un u aA
 have ab := fun K => G ▸ j.2.lt K
 have aC := BytesAt.upd j.2 u (fun K => nn_ (ab K))
 have a4 := bge G hT.size
 have a5 := tt_ hT (tn_ u a4)
 refine WL.appm u22_ inf5 rfl rfl rfl az rfl aa rfl (by rw [byteVals_len]; omega) (a5.size) rfl (fun bj bk ac H b4 => ?_)
 have aD := aB.below H oO
 have aE := bb_ aC H ad
 have aF := tt_ a5 (tb_ (H.mono (nr_ _)))
 have aG := Own.snoc ac (s[i]'oO) (rfl)
 refine WL.Z rfl <| W.reg <| WL.M rfl <| WL.O (.add rfl rfl (i64w oO)) <| WL.Z rfl ?_
 exact ⟨(_, o ++ [_], i + 1), ⟨rfl, rfl, rfl, lk_i rfl oM, tT⟩, ⟨⟨aD, aE⟩, aF, aG, by rw [← hw, decR_plain _ _ _ oO y], by simp only [List.length_append, List.length_cons, List.length_nil]; omega, by ((try simp only) <;> omega)⟩, by ((try simp only) <;> omega)⟩
 have aX := dF h8
 refine W.exit <| W.seq <| W.b <| W.seq ?_
 obtain ⟨q, cq, rfl, ae, bl⟩ := Own.bytes B
 have P : D = some o := by rw [← hw, show i = s.length by omega, List.drop_length, decR_nil]
 refine W.reg <| WL.M rfl <| WL.O (.lenS u22_ rfl) <| WL.O (.eql rfl rfl) <| WL.M rfl <| WL.gd rfl rfl rfl (fun x => ?_) (fun x => ?_)
 have aH := dF x
 refine WL.M rfl <| WL.Y x <| WL.c1 hB_ rfl rfl ((lib_has q o cq 0 _ ae oO)) (fun bm aI => ?_)
 obtain rfl := aI
 refine WL.O (.pkF rfl x rfl) <| WL.Z rfl <| W.cond rfl (fun b0 => ?_) (fun b0 => ?_)
 refine W.reg <| WL.cp hB_ rfl ((plex_fail 23 _)) (fun bn aJ => ?_)
 obtain rfl := aJ
 exact pn_is (Ends.err 23 (by rw [hX, P]; simp only []; rw [if_pos (.inr (dT aS))]) hT)
 refine W.seq ?_
 have af : ¬ (o = [] ∨ 0 ∈ o) := fun h => h.elim (fun h => by rw [h] at *; simp_all) (fun h => by simp_all)
 refine W.reg <| WL.M rfl <| WL.O (.lenS u22_ rfl) <| WL.O (.gtr rfl rfl) <| WL.Z rfl <| W.cond rfl (fun a6 => ?_) (fun a6 => ?_)
 have aK := dT a6
 refine W.reg <| WL.cp hB_ rfl ((plex_fail 25 _)) (fun bo aL => ?_)
 obtain rfl := aL
 exact pn_is (Ends.err 25 (by rw [hX, P]; simp only []; rw [if_neg af, if_pos oO]) hT)
 have aK := dF a6
 refine W.k <| W.sr <| WL.M rfl <| WL.R (Rd.b2s (l := o) u22_ u5_ u9_ rfl (ae)) <| WL.Z rfl <| W.ret (W.r1 rfl rfl ?_)
 exact Ends.ok (o, t1) (by rw [hX, P]; simp only []; rw [if_neg af, if_neg oO]) rfl ⟨⟨j.1, j.2⟩, hT⟩
 have aH := dT x
 refine WL.N x <| WL.O (.pkT rfl x rfl) <| WL.Z rfl <| W.condT rfl rfl <| W.reg <| WL.cp hB_ rfl ((plex_fail 23 _)) (fun bp aM => ?_)
 obtain rfl := aM
 exact pn_is (Ends.err 23 (by rw [hX, P]; simp only []; rw [if_pos (.inl (List.length_eq_zero_iff.1 oO))]) hT)
end
section
theorem all_step (l : List UInt8) (i : Nat) (h : i < l.length) : (l.drop i).all pOpen = (pOpen l[i] && (l.drop (i + 1)).all pOpen) := by
 rw [List.drop_eq_getElem_cons h, List.all_cons]
theorem pOpen_no {c : UInt8} (h : c = 62 ∨ (blankB c = false ∧ digI c < 0)) : pOpen c = false := by
 rcases h with rfl | ⟨a, d⟩
 ·
  rfl
 ·
  unfold pOpen
  rcases digI_cases c with b | b
  ·
   rw [a, decide_eq_false oO]; simp
  ·
   omega
theorem pOpen_yes {c : UInt8} (h : c ≠ 62) (h2 : blankB c = true ∨ ¬ digI c < 0) : pOpen c = true := by
 unfold pOpen
 rw [bne_iff_ne.2 h, Bool.true_and]
 rcases h2 with h2 | h2
 ·
  rw [h2]; rfl
 ·
  rcases digI_cases c with a | a
  ·
   omega
  ·
   rw [decide_eq_true a.2]; simp
theorem plex_open (r : Nat) (p : Option Addr) (l : List UInt8) (c t : Nat) (refs : Bool) (w : World) (h : PRd w r p l c t refs) (hl : l.length ≤ 100000000) (ht : t < l.length) :
  Calls Tryz.prog 91 #[.pointer (some ⟨r, 0, none⟩)] w fun e w' => e = .returned (.bool (openB l t)) ∧ Below w.heap.size w w' := by
 have hr := h.1
 have hb := h.2
 have hg : l[t]? = some l[t] := List.getElem?_eq_getElem ht
 refine W.e func91 rfl ntmps91 bL ?_
 have a2 := br_ (w.heap.size) w
 refine W.sr <| WL.Z rfl <| W.sr <| WL.Z rfl <| W.seq <| W.seq <| W.regQ mixed kR <| WQ.p (.mv rfl) rfl <| WQ.p (.nck rfl) rfl <| WQ.p (.fa u112_ rfl s22_ dD rfl) rfl <| WQ.r (fun m => Rd.ld (g22_ _) rfl hr rfl) rfl <| WQ.p (.mv rfl) rfl <| WQ.p (.nck rfl) rfl <| WQ.p (.fa u112_ rfl s3_ dD rfl) rfl <| WQ.r (fun m => Rd.ld (g3_ _) rfl hr rfl) rfl <| WQ.p (.ixb u22_ s5_ rfl rfl (hb.isp (by first | omega | exact nz_ _)) (t) (rfl) (ht)) rfl <| WQ.r (fun m => Rd.ldc (g5_ _) rfl ((hb.drewN m).cells (t) (ht))) rfl <| WQ.p (.eql rfl rfl) rfl <| WQ.nil (fun w1 x => ?_)
 have v := hr.drew x
 have E := hb.drew x
 have F := Drew.below a2 x
 refine W.cond rfl (fun G => ?_) (fun G => ?_)
 have a3 := dT G
 refine W.reg <| WL.Z rfl <| W.seq <| W.sr <| WL.M rfl <| WL.O (.nck rfl) <| WL.O (.fa u112_ rfl s3_ dD rfl) <| WL.R (Rd.ld (g3_ _) rfl v rfl) <| WL.O (.iis (((t + 1 : Nat) : Int)) (.add rfl rfl (i64w oO)) oO) <| WL.Z rfl <| W.b ?_
 obtain ⟨T0, y⟩ : ∃ T0, T0 = t := ⟨t, rfl⟩
 subst y
 refine W.loop (α := Nat × Int) (fun t => [(0, .pointer (some ⟨r, 0, none⟩)), (3, .int .u8 t.2), (4, .int .i64 (t.1 : Int))]) (fun t w' => Below w.heap.size w w' ∧ PRd w' r p l c T0 refs ∧ T0 + 1 ≤ t.1 ∧ t.1 ≤ l.length ∧ ((t.2 = 62 ∧ l[T0]? = some 60 ∧ (l.drop (T0 + 1)).all pOpen = (l.drop t.1).all pOpen) ∨ (t.2 = 41 ∧ l[T0]? ≠ some 60))) (fun t => l.length - t.1) ((T0 + 1, _)) ⟨rfl, rfl, rfl, tT⟩ (⟨F, ⟨v, E⟩, nr_ _, ht, by first | exact .inl ⟨rfl, by rw [hg, show l[T0] = 60 from u8_eq aS], rfl⟩ | exact .inr ⟨rfl, by rw [hg]; exact fun h => ab_ (Option.some.inj h) (u8_ne (d := 60) aS)⟩⟩) (fun t w1 hR => ?_)
 obtain ⟨i, z⟩ := t
 obtain ⟨hT, a, A, hi, hz⟩ := hR
 simp only at A hi hz ⊢
 refine W.seq <| W.cutB 32 (decide (i < l.length ∧ z = 62)) ?_ ?_
 refine W.reg <| WL.M rfl <| WL.M rfl <| WL.O (.nck rfl) <| WL.O (.fa u112_ rfl s22_ dD rfl) <| WL.R (Rd.ld (g22_ _) rfl a.1 rfl) <| WL.O (.lenS u22_ rfl) <| WL.O (.lss rfl rfl) <| WL.M rfl <| WL.gd rfl rfl rfl (fun u => ?_) (fun u => ?_)
 have a4 := dT u
 refine WL.M rfl <| WL.Y u <| WL.O (.eql rfl rfl) <| WL.O (.pkT rfl u rfl) <| WL.e <| ?_
 exact ⟨leE (lk_b rfl (by (apply Bool.eq_iff_iff.2; (try simp) <;> omega))), rfl⟩
 have a4 := dF u
 refine WL.N u <| WL.O (.pkF rfl u rfl) <| WL.e <| ?_
 exact ⟨leE (lk_b rfl (by (apply Bool.eq_iff_iff.2; (try simp) <;> omega))), rfl⟩
 refine W.cond rfl (fun H => ?_) (fun H => ?_)
 have a5 := dT H
 have f : l[T0]? = some 60 ∧ (l.drop (T0 + 1)).all pOpen = (l.drop i).all pOpen := by rcases hz with h | h; exact h.2; omega
 have n := all_step l i oO
 refine W.k <| W.seq <| W.b <| W.sr <| WL.M rfl <| WL.O (.nck rfl) <| WL.O (.fa u112_ rfl s22_ dD rfl) <| WL.R (Rd.ld (g22_ _) rfl a.1 rfl) <| WL.M rfl <| WL.O (.ixb u22_ s5_ rfl rfl (a.2.isp (by first | omega | exact nz_ _)) (i) (rfl) oO) <| WL.R (Rd.ldc (g5_ _) rfl (a.2.cells (i) oO)) <| WL.Z rfl <| W.sr <| WL.M rfl <| WL.O (.eql rfl rfl) <| WL.M rfl <| WL.gd rfl rfl rfl (fun j => ?_) (fun j => ?_)
 have a6 := dF j
 refine WL.M rfl <| WL.Y j <| WL.c1 hB_ rfl rfl ((plex_blank _ _)) (fun w9 a7 => ?_)
 obtain rfl := a7
 refine WL.Y j <| WL.O (.not rfl) <| WL.Y j <| WL.M rfl <| WL.gd rfl rfl rfl (fun o => ?_) (fun o => ?_)
 have J := (nT o)
 refine WL.M rfl <| WL.gy rfl rfl rfl (by rw [(nT o)] <;> rfl) <| WL.c1 hB_ rfl rfl ((plex_digit _ _)) (fun a8 K => ?_)
 obtain rfl := K
 refine WL.gy rfl rfl rfl (by rw [(nT o)] <;> rfl) <| WL.O (.lss rfl rfl) <| WL.Y j <| WL.O (.pkT rfl (by rw [(nT o)] <;> rfl) rfl) <| WL.O (.pkF rfl j rfl) <| WL.e <| W.cond rfl (fun B => ?_) (fun B => ?_)
 have L := dT B
 refine W.sr <| WL.Z rfl <| W.ret (W.r1 rfl rfl ?_)
 exact ⟨ret_bool (by unfold openB; rw [if_pos f.1, f.2, n, pOpen_no (.inr ⟨by assumption, by assumption⟩)]; rfl), hT⟩
 have L := dF B
 refine W.k <| W.reg <| WL.M rfl <| WL.O (.iis (((i + 1 : Nat) : Int)) (.add rfl rfl (i64w oO)) oO) <| WL.Z rfl ?_
 exact ⟨(i + 1, z), ⟨rfl, rfl, rfl, tT⟩, ⟨hT, ⟨a.1, a.2⟩, by ((try simp only) <;> omega), by ((try simp only) <;> omega), .inl ⟨by omega, f.1, by rw [f.2, n, pOpen_yes (u8_ne (d := 62) aS) (.inr aS), Bool.true_and]⟩⟩, by ((try simp only) <;> omega)⟩
 have J := (nF o)
 refine WL.gn rfl rfl rfl (by rw [(nF o)] <;> rfl) <| WL.gn rfl rfl rfl (by rw [(nF o)] <;> rfl) <| WL.Y j <| WL.O (.pkF rfl (by rw [(nF o)] <;> rfl) rfl) <| WL.O (.pkF rfl j rfl) <| WL.e <| W.condF rfl rfl <| W.k <| W.reg <| WL.M rfl <| WL.O (.iis (((i + 1 : Nat) : Int)) (.add rfl rfl (i64w oO)) oO) <| WL.Z rfl ?_
 exact ⟨(i + 1, z), ⟨rfl, rfl, rfl, tT⟩, ⟨hT, ⟨a.1, a.2⟩, by ((try simp only) <;> omega), by ((try simp only) <;> omega), .inl ⟨by omega, f.1, by rw [f.2, n, pOpen_yes (u8_ne (d := 62) aS) (.inl aS), Bool.true_and]⟩⟩, by ((try simp only) <;> omega)⟩
 have a6 := dT j
 refine WL.N j <| WL.N j <| WL.N j <| WL.U <| WL.U <| WL.U <| WL.N j <| WL.O (.pkT rfl j rfl) <| WL.e <| W.condT rfl rfl <| W.sr <| WL.Z rfl <| W.ret (W.r1 rfl rfl ?_)
 exact ⟨ret_bool (by unfold openB; rw [if_pos f.1, f.2, n, pOpen_no (.inl (u8_eq (d := 62) aS))]; rfl), hT⟩
 have a5 := dF H
 refine W.exit <| W.sr <| WL.Z rfl <| W.ret (W.r1 rfl rfl ?_)
 exact ⟨ret_bool (by
  unfold openB; rcases hz with h | h; rw [if_pos h.2.1, h.2.2, List.drop_eq_nil_of_le oO]; rfl; rw [if_neg h.2]), hT⟩
 have a3 := dF G
 refine W.k <| W.seq <| W.sr <| WL.M rfl <| WL.O (.nck rfl) <| WL.O (.fa u112_ rfl s3_ dD rfl) <| WL.R (Rd.ld (g3_ _) rfl v rfl) <| WL.O (.iis (((t + 1 : Nat) : Int)) (.add rfl rfl (i64w oO)) oO) <| WL.Z rfl <| W.b ?_
 obtain ⟨T0, y⟩ : ∃ T0, T0 = t := ⟨t, rfl⟩
 subst y
 refine W.loop (α := Nat × Int) (fun t => [(0, .pointer (some ⟨r, 0, none⟩)), (3, .int .u8 t.2), (4, .int .i64 (t.1 : Int))]) (fun t w' => Below w.heap.size w w' ∧ PRd w' r p l c T0 refs ∧ T0 + 1 ≤ t.1 ∧ t.1 ≤ l.length ∧ ((t.2 = 62 ∧ l[T0]? = some 60 ∧ (l.drop (T0 + 1)).all pOpen = (l.drop t.1).all pOpen) ∨ (t.2 = 41 ∧ l[T0]? ≠ some 60))) (fun t => l.length - t.1) ((T0 + 1, _)) ⟨rfl, rfl, rfl, tT⟩ (⟨F, ⟨v, E⟩, nr_ _, ht, by first | exact .inl ⟨rfl, by rw [hg, show l[T0] = 60 from u8_eq aS], rfl⟩ | exact .inr ⟨rfl, by rw [hg]; exact fun h => ab_ (Option.some.inj h) (u8_ne (d := 60) aS)⟩⟩) (fun t w1 hR => ?_)
 obtain ⟨i, z⟩ := t
 obtain ⟨hT, a, A, hi, hz⟩ := hR
 simp only at A hi hz ⊢
 refine W.seq <| W.cutB 32 (decide (i < l.length ∧ z = 62)) ?_ ?_
 refine W.reg <| WL.M rfl <| WL.M rfl <| WL.O (.nck rfl) <| WL.O (.fa u112_ rfl s22_ dD rfl) <| WL.R (Rd.ld (g22_ _) rfl a.1 rfl) <| WL.O (.lenS u22_ rfl) <| WL.O (.lss rfl rfl) <| WL.M rfl <| WL.gd rfl rfl rfl (fun s => ?_) (fun s => ?_)
 have P := dT s
 refine WL.M rfl <| WL.Y s <| WL.O (.eql rfl rfl) <| WL.O (.pkT rfl s rfl) <| WL.e <| ?_
 exact ⟨leE (lk_b rfl (by (apply Bool.eq_iff_iff.2; (try simp) <;> omega))), rfl⟩
 have P := dF s
 refine WL.N s <| WL.O (.pkF rfl s rfl) <| WL.e <| ?_
 exact ⟨leE (lk_b rfl (by (apply Bool.eq_iff_iff.2; (try simp) <;> omega))), rfl⟩
 refine W.cond rfl (fun C => ?_) (fun C => ?_)
 have Q := dT C
 have f : l[T0]? = some 60 ∧ (l.drop (T0 + 1)).all pOpen = (l.drop i).all pOpen := by rcases hz with h | h; exact h.2; omega
 have n := all_step l i oO
 refine W.k <| W.seq <| W.b <| W.sr <| WL.M rfl <| WL.O (.nck rfl) <| WL.O (.fa u112_ rfl s22_ dD rfl) <| WL.R (Rd.ld (g22_ _) rfl a.1 rfl) <| WL.M rfl <| WL.O (.ixb u22_ s5_ rfl rfl (a.2.isp (by first | omega | exact nz_ _)) (i) (rfl) oO) <| WL.R (Rd.ldc (g5_ _) rfl (a.2.cells (i) oO)) <| WL.Z rfl <| W.sr <| WL.M rfl <| WL.O (.eql rfl rfl) <| WL.M rfl <| WL.gd rfl rfl rfl (fun g => ?_) (fun g => ?_)
 have T := dF g
 refine WL.M rfl <| WL.Y g <| WL.c1 hB_ rfl rfl ((plex_blank _ _)) (fun a9 V => ?_)
 obtain rfl := V
 refine WL.Y g <| WL.O (.not rfl) <| WL.Y g <| WL.M rfl <| WL.gd rfl rfl rfl (fun q => ?_) (fun q => ?_)
 have X := (nT q)
 refine WL.M rfl <| WL.gy rfl rfl rfl (by rw [(nT q)] <;> rfl) <| WL.c1 hB_ rfl rfl ((plex_digit _ _)) (fun aa a0 => ?_)
 obtain rfl := a0
 refine WL.gy rfl rfl rfl (by rw [(nT q)] <;> rfl) <| WL.O (.lss rfl rfl) <| WL.Y g <| WL.O (.pkT rfl (by rw [(nT q)] <;> rfl) rfl) <| WL.O (.pkF rfl g rfl) <| WL.e <| W.cond rfl (fun D => ?_) (fun D => ?_)
 have a1 := dT D
 refine W.sr <| WL.Z rfl <| W.ret (W.r1 rfl rfl ?_)
 exact ⟨ret_bool (by unfold openB; rw [if_pos f.1, f.2, n, pOpen_no (.inr ⟨by assumption, by assumption⟩)]; rfl), hT⟩
 have a1 := dF D
 refine W.k <| W.reg <| WL.M rfl <| WL.O (.iis (((i + 1 : Nat) : Int)) (.add rfl rfl (i64w oO)) oO) <| WL.Z rfl ?_
 exact ⟨(i + 1, z), ⟨rfl, rfl, rfl, tT⟩, ⟨hT, ⟨a.1, a.2⟩, by ((try simp only) <;> omega), by ((try simp only) <;> omega), .inl ⟨by omega, f.1, by rw [f.2, n, pOpen_yes (u8_ne (d := 62) aS) (.inr aS), Bool.true_and]⟩⟩, by ((try simp only) <;> omega)⟩
 have X := (nF q)
 refine WL.gn rfl rfl rfl (by rw [(nF q)] <;> rfl) <| WL.gn rfl rfl rfl (by rw [(nF q)] <;> rfl) <| WL.Y g <| WL.O (.pkF rfl (by rw [(nF q)] <;> rfl) rfl) <| WL.O (.pkF rfl g rfl) <| WL.e <| W.condF rfl rfl <| W.k <| W.reg <| WL.M rfl <| WL.O (.iis (((i + 1 : Nat) : Int)) (.add rfl rfl (i64w oO)) oO) <| WL.Z rfl ?_
 exact ⟨(i + 1, z), ⟨rfl, rfl, rfl, tT⟩, ⟨hT, ⟨a.1, a.2⟩, by ((try simp only) <;> omega), by ((try simp only) <;> omega), .inl ⟨by omega, f.1, by rw [f.2, n, pOpen_yes (u8_ne (d := 62) aS) (.inl aS), Bool.true_and]⟩⟩, by ((try simp only) <;> omega)⟩
 have T := dT g
 refine WL.N g <| WL.N g <| WL.N g <| WL.U <| WL.U <| WL.U <| WL.N g <| WL.O (.pkT rfl g rfl) <| WL.e <| W.condT rfl rfl <| W.sr <| WL.Z rfl <| W.ret (W.r1 rfl rfl ?_)
 exact ⟨ret_bool (by unfold openB; rw [if_pos f.1, f.2, n, pOpen_no (.inl (u8_eq (d := 62) aS))]; rfl), hT⟩
 have Q := dF C
 refine W.exit <| W.sr <| WL.Z rfl <| W.ret (W.r1 rfl rfl ?_)
 exact ⟨ret_bool (by
  unfold openB; rcases hz with h | h; rw [if_pos h.2.1, h.2.2, List.drop_eq_nil_of_le oO]; rfl; rw [if_neg h.2]), hT⟩
theorem plex_text (r : Nat) (p : Option Addr) (l : List UInt8) (c t : Nat) (refs : Bool) (w : World) (h : PRd w r p l c t refs) (hne : 0 < l.length → (pA p).block ≠ r) (hc : l.length ≤ c) (hl : l.length ≤ 100000000) (ht : t < l.length) :
  Calls Tryz.prog 62 #[.pointer (some ⟨r, 0, none⟩)] w (Ends 30 (textR l t) (fun a => .agg (pobj 5 0 a.1).toArray) (fun a w' => PRd w' r p l c a.2 refs ∧ Touch w.heap.size r w w') (fun w' => Touch w.heap.size r w w')) := by
 have hr := h.1
 have hb := h.2
 obtain ⟨X, hX⟩ : ∃ X, X = textR l t := ⟨_, rfl⟩
 rw [← hX]
 unfold textR at hX
 have hN : ∀ w1, BytesAt w1 p l → Calls Tryz.prog 90 #[.slice p l.length c, .int .i64 (t : Int)] w1 fun e w' => e = .returned (nextR l t).val ∧ Below w1.heap.size w1 w' := fun w1 h1 => scan_Next t p l c w1 h1 hc hl
 have bh := nextR_step l t oO
 generalize nextR l t = N at hX hN bh
 refine W.e func62 rfl ntmps62 bL ?_
 have cI := Touch.refl (w.heap.size) r w
 refine W.sr <| WL.al z99_ rfl (fun b1 ew aO cK ar e7 => ?_)
 have dI := bgl aO hr.lt
 have dJ := hr.un ar dI
 have au := fun d => aO ▸ hb.lt d
 have dK := bup hb ar au
 have bi := bge aO cI.size
 have dL := tt_ cI (tn_ ar bi)
 refine WL.e <| ?_
 obtain ⟨t0, A⟩ : ∃ t0, t0 = t := ⟨t, rfl⟩
 refine W.cut (α := Nat) (fun t => [(0, .pointer (some ⟨r, 0, none⟩)), (2, .pointer (some ⟨b1, 0, none⟩)), (3, .pointer (some ⟨t, 0, none⟩)), (4, .int .i64 N.at'), (5, .int .i64 N.e)]) (fun t w' => Touch w.heap.size r w w' ∧ Blk w' r #[.slice p l.length c, .int .i64 (t0 : Int), .bool refs] 112 ∧ BytesAt w' p l ∧ Blk w' b1 (pobj 0 0 []).toArray 99 ∧ Blk w' t #[.int .i64 N.k, .int .i64 N.n, .string (bs N.s)] 147 ∧ b1 < t) ?_ (fun t w1 hR => ?_)
 have ex : r < b1 := by have := hr.lt; omega
 refine W.regY 17 rfl mixed (fun w7 aC => ?_)
 have i := dJ.drew aC
 have u := cK.drew aC
 have f := dK.drew aC
 have g := tt_ dL (td_ aC)
 refine WY.tk 0 rfl (.mv rfl) rfl <| WY.tk 1 rfl (.nck rfl) rfl <| WY.tk 2 rfl (.fa u112_ rfl s22_ dD rfl) rfl <| WY.tk 4 rfl (.mv rfl) rfl <| WY.tk 5 rfl (.nck rfl) rfl <| WY.tk 6 rfl (.fa u112_ rfl s3_ dD rfl) rfl <| WY.br [3, 7, 13] kR rfl ⟨⟨_, rfl, ?_⟩, ⟨_, rfl, ?_⟩, ⟨_, rfl, ?_⟩, tT⟩
 refine WL.R (Rd.ld (g22_ _) rfl i rfl) <| WL.e <| WY.br2 7 rfl 13 rfl ?_ ?_
 refine WL.R (Rd.ld (g3_ _) rfl i rfl) <| WL.e <| WY.br2 8 rfl 13 rfl ?_ ?_
 refine WL.c1 hB_ rfl rfl ((hN _ f)) (fun ey ag => ?_)
 have aP := i.bl ag
 have aQ := u.bl ag
 have aR := bb_ f ag (fun d => f.lt d)
 have aT := tt_ g (tm_ (tb_ ag) g.size)
 refine WL.e <| WY.tk 9 rfl (.mv rfl) rfl <| WY.tk 10 rfl (.ext rfl rfl) rfl <| WY.tk 11 rfl (.ext rfl rfl) rfl <| WY.tk 12 rfl (.ext rfl rfl) rfl <| WY.br1 13 rfl <| WL.al z147_ rfl (fun ez e8 ah bj Q dX => ?_)
 have cL := bgl ah aP.lt
 have cM := aP.un Q cL
 have cN := bgl ah aQ.lt
 have cO := aQ.un Q cN
 have aD := fun d => ah ▸ aR.lt d
 have cP := bup aR Q aD
 have aU := bge ah aT.size
 have cQ := tt_ aT (tn_ Q aU)
 refine WL.e <| WY.br1 14 rfl <| WL.stL rfl rfl bj isz147 rfl rfl (fun eA bk T dY => ?_)
 have cR := cM.up T
 have cS := cO.up T
 have cT := bup cP T aD
 have cU := tt_ cQ (tn_ T oO)
 refine WL.e <| WY.tk 15 rfl (.as rfl) rfl <| WY.tk 16 rfl (.as rfl) rfl <| WY.done kR ?_
 exact ⟨_, ⟨rfl, rfl, rfl, rfl, rfl, tT⟩, cU, by rw [A]; exact cR, cT, cS, bk, by omega⟩
 refine WL.al z147_ rfl (fun eB e9 ai bm U dZ => ?_)
 have cV := bgl ai i.lt
 have cW := i.un U cV
 have cX := bgl ai u.lt
 have cY := u.un U cX
 have aE := fun d => ai ▸ f.lt d
 have av := bup f U aE
 have aV := bge ai g.size
 have aW := tt_ g (tn_ U aV)
 refine WL.e <| WY.br1 8 rfl <| WL.c1 hB_ rfl rfl ((hN _ av)) (fun eC a8 => ?_)
 have cZ := cW.bl a8
 have c' := cY.bl a8
 have d0 := bm.bl a8
 have d1 := bb_ av a8 (fun d => av.lt d)
 have d2 := tt_ aW (tm_ (tb_ a8) aW.size)
 refine WL.e <| WY.tk 9 rfl (.mv rfl) rfl <| WY.tk 10 rfl (.ext rfl rfl) rfl <| WY.tk 11 rfl (.ext rfl rfl) rfl <| WY.tk 12 rfl (.ext rfl rfl) rfl <| WY.br1 14 rfl <| WL.stL rfl rfl d0 isz147 rfl rfl (fun eD bn V d' => ?_)
 have d3 := cZ.up V
 have d4 := c'.up V
 have d5 := bup d1 V aE
 have d6 := tt_ d2 (tn_ V oO)
 refine WL.e <| WY.tk 15 rfl (.as rfl) rfl <| WY.tk 16 rfl (.as rfl) rfl <| WY.done kR ?_
 exact ⟨_, ⟨rfl, rfl, rfl, rfl, rfl, tT⟩, d6, by rw [A]; exact d3, d5, d4, bn, by omega⟩
 refine WL.al z147_ rfl (fun eF ea aj bo a0 e0 => ?_)
 have d7 := bgl aj i.lt
 have aX := i.un a0 d7
 have d8 := bgl aj u.lt
 have d9 := u.un a0 d8
 have aF := fun d => aj ▸ f.lt d
 have aw := bup f a0 aF
 have aY := bge aj g.size
 have aZ := tt_ g (tn_ a0 aY)
 refine WL.e <| WY.br1 7 rfl <| WL.R (Rd.ld (g3_ _) rfl aX rfl) <| WL.e <| WY.br1 8 rfl <| WL.c1 hB_ rfl rfl ((hN _ aw)) (fun eG a9 => ?_)
 have da := aX.bl a9
 have db := d9.bl a9
 have dc := bo.bl a9
 have dd := bb_ aw a9 (fun d => aw.lt d)
 have de := tt_ aZ (tm_ (tb_ a9) aZ.size)
 refine WL.e <| WY.tk 9 rfl (.mv rfl) rfl <| WY.tk 10 rfl (.ext rfl rfl) rfl <| WY.tk 11 rfl (.ext rfl rfl) rfl <| WY.tk 12 rfl (.ext rfl rfl) rfl <| WY.br1 14 rfl <| WL.stL rfl rfl dc isz147 rfl rfl (fun eH bp a1 e1 => ?_)
 have df := da.up a1
 have dg := db.up a1
 have dh := bup dd a1 aF
 have di := tt_ de (tn_ a1 oO)
 refine WL.e <| WY.tk 15 rfl (.as rfl) rfl <| WY.tk 16 rfl (.as rfl) rfl <| WY.done kR ?_
 exact ⟨_, ⟨rfl, rfl, rfl, rfl, rfl, tT⟩, di, by rw [A]; exact df, dh, dg, bp, by omega⟩
 refine WL.R (Rd.ld (g3_ _) rfl i rfl) <| WL.e <| WY.br2 3 rfl 13 rfl ?_ ?_
 refine WL.R (Rd.ld (g22_ _) rfl i rfl) <| WL.e <| WY.br2 8 rfl 13 rfl ?_ ?_
 refine WL.c1 hB_ rfl rfl ((hN _ f)) (fun eI ak => ?_)
 have a' := i.bl ak
 have b0 := u.bl ak
 have b2 := bb_ f ak (fun d => f.lt d)
 have b4 := tt_ g (tm_ (tb_ ak) g.size)
 refine WL.e <| WY.tk 9 rfl (.mv rfl) rfl <| WY.tk 10 rfl (.ext rfl rfl) rfl <| WY.tk 11 rfl (.ext rfl rfl) rfl <| WY.tk 12 rfl (.ext rfl rfl) rfl <| WY.br1 13 rfl <| WL.al z147_ rfl (fun eJ eb am bq a2 e2 => ?_)
 have dj := bgl am a'.lt
 have dk := a'.un a2 dj
 have dl := bgl am b0.lt
 have dm := b0.un a2 dl
 have aG := fun d => am ▸ b2.lt d
 have dn := bup b2 a2 aG
 have b5 := bge am b4.size
 have dp := tt_ b4 (tn_ a2 b5)
 refine WL.e <| WY.br1 14 rfl <| WL.stL rfl rfl bq isz147 rfl rfl (fun eK bt a3 e3 => ?_)
 have dq := dk.up a3
 have dr := dm.up a3
 have ds := bup dn a3 aG
 have dt := tt_ dp (tn_ a3 oO)
 refine WL.e <| WY.tk 15 rfl (.as rfl) rfl <| WY.tk 16 rfl (.as rfl) rfl <| WY.done kR ?_
 exact ⟨_, ⟨rfl, rfl, rfl, rfl, rfl, tT⟩, dt, by rw [A]; exact dq, ds, dr, bt, by omega⟩
 refine WL.al z147_ rfl (fun eL ec an bu a4 e4 => ?_)
 have du := bgl an i.lt
 have dv := i.un a4 du
 have dw := bgl an u.lt
 have dx := u.un a4 dw
 have aH := fun d => an ▸ f.lt d
 have ax := bup f a4 aH
 have b6 := bge an g.size
 have b7 := tt_ g (tn_ a4 b6)
 refine WL.e <| WY.br1 8 rfl <| WL.c1 hB_ rfl rfl ((hN _ ax)) (fun eM aa => ?_)
 have dy := dv.bl aa
 have dz := dx.bl aa
 have dA := bu.bl aa
 have dB := bb_ ax aa (fun d => ax.lt d)
 have dC := tt_ b7 (tm_ (tb_ aa) b7.size)
 refine WL.e <| WY.tk 9 rfl (.mv rfl) rfl <| WY.tk 10 rfl (.ext rfl rfl) rfl <| WY.tk 11 rfl (.ext rfl rfl) rfl <| WY.tk 12 rfl (.ext rfl rfl) rfl <| WY.br1 14 rfl <| WL.stL rfl rfl dA isz147 rfl rfl (fun ed b8 B dM => ?_)
 have bv := dy.up B
 have bw := dz.up B
 have bx := bup dB B aH
 have bz := tt_ dC (tn_ B oO)
 refine WL.e <| WY.tk 15 rfl (.as rfl) rfl <| WY.tk 16 rfl (.as rfl) rfl <| WY.done kR ?_
 exact ⟨_, ⟨rfl, rfl, rfl, rfl, rfl, tT⟩, bz, by rw [A]; exact bv, bx, bw, b8, by omega⟩
 refine WL.al z147_ rfl (fun ee e5 a5 b9 C dN => ?_)
 have bA := bgl a5 i.lt
 have aI := i.un C bA
 have bB := bgl a5 u.lt
 have bC := u.un C bB
 have ap := fun d => a5 ▸ f.lt d
 have ao := bup f C ap
 have aM := bge a5 g.size
 have aJ := tt_ g (tn_ C aM)
 refine WL.e <| WY.br1 3 rfl <| WL.R (Rd.ld (g22_ _) rfl aI rfl) <| WL.e <| WY.br1 8 rfl <| WL.c1 hB_ rfl rfl ((hN _ ao)) (fun ef D => ?_)
 have bD := aI.bl D
 have bE := bC.bl D
 have bG := b9.bl D
 have bH := bb_ ao D (fun d => ao.lt d)
 have bI := tt_ aJ (tm_ (tb_ D) aJ.size)
 refine WL.e <| WY.tk 9 rfl (.mv rfl) rfl <| WY.tk 10 rfl (.ext rfl rfl) rfl <| WY.tk 11 rfl (.ext rfl rfl) rfl <| WY.tk 12 rfl (.ext rfl rfl) rfl <| WY.br1 14 rfl <| WL.stL rfl rfl bG isz147 rfl rfl (fun eg ba E dO => ?_)
 have bJ := bD.up E
 have bK := bE.up E
 have bM := bup bH E ap
 have bN := tt_ bI (tn_ E oO)
 refine WL.e <| WY.tk 15 rfl (.as rfl) rfl <| WY.tk 16 rfl (.as rfl) rfl <| WY.done kR ?_
 exact ⟨_, ⟨rfl, rfl, rfl, rfl, rfl, tT⟩, bN, by rw [A]; exact bJ, bM, bK, ba, by omega⟩
 refine WL.al z147_ rfl (fun eh e6 a6 aq F dP => ?_)
 have bO := bgl a6 i.lt
 have v := i.un F bO
 have bP := bgl a6 u.lt
 have aK := u.un F bP
 have ab := fun d => a6 ▸ f.lt d
 have x := bup f F ab
 have aN := bge a6 g.size
 have a7 := tt_ g (tn_ F aN)
 refine WL.e <| WY.br2 3 rfl 7 rfl ?_ ?_
 refine WL.R (Rd.ld (g22_ _) rfl v rfl) <| WL.e <| WY.br1 7 rfl <| WL.R (Rd.ld (g3_ _) rfl v rfl) <| WL.e <| WY.br1 8 rfl <| WL.c1 hB_ rfl rfl ((hN _ x)) (fun ei G => ?_)
 have bQ := v.bl G
 have bR := aK.bl G
 have bS := aq.bl G
 have bT := bb_ x G (fun d => x.lt d)
 have bU := tt_ a7 (tm_ (tb_ G) a7.size)
 refine WL.e <| WY.tk 9 rfl (.mv rfl) rfl <| WY.tk 10 rfl (.ext rfl rfl) rfl <| WY.tk 11 rfl (.ext rfl rfl) rfl <| WY.tk 12 rfl (.ext rfl rfl) rfl <| WY.br1 14 rfl <| WL.stL rfl rfl bS isz147 rfl rfl (fun ej bb H dQ => ?_)
 have bV := bQ.up H
 have bW := bR.up H
 have bX := bup bT H ab
 have bY := tt_ bU (tn_ H oO)
 refine WL.e <| WY.tk 15 rfl (.as rfl) rfl <| WY.tk 16 rfl (.as rfl) rfl <| WY.done kR ?_
 exact ⟨_, ⟨rfl, rfl, rfl, rfl, rfl, tT⟩, bY, by rw [A]; exact bV, bX, bW, bb, by omega⟩
 refine WL.R (Rd.ld (g3_ _) rfl v rfl) <| WL.e <| WY.br1 3 rfl <| WL.R (Rd.ld (g22_ _) rfl v rfl) <| WL.e <| WY.br1 8 rfl <| WL.c1 hB_ rfl rfl ((hN _ x)) (fun ek J => ?_)
 have bZ := v.bl J
 have b' := aK.bl J
 have c0 := aq.bl J
 have c2 := bb_ x J (fun d => x.lt d)
 have c3 := tt_ a7 (tm_ (tb_ J) a7.size)
 refine WL.e <| WY.tk 9 rfl (.mv rfl) rfl <| WY.tk 10 rfl (.ext rfl rfl) rfl <| WY.tk 11 rfl (.ext rfl rfl) rfl <| WY.tk 12 rfl (.ext rfl rfl) rfl <| WY.br1 14 rfl <| WL.stL rfl rfl c0 isz147 rfl rfl (fun el bc K dR => ?_)
 have c4 := bZ.up K
 have c5 := b'.up K
 have c6 := bup c2 K ab
 have c7 := tt_ c3 (tn_ K oO)
 refine WL.e <| WY.tk 15 rfl (.as rfl) rfl <| WY.tk 16 rfl (.as rfl) rfl <| WY.done kR ?_
 exact ⟨_, ⟨rfl, rfl, rfl, rfl, rfl, tT⟩, c7, by rw [A]; exact c4, c6, c5, bc, by omega⟩
 obtain ⟨b3, rfl⟩ : ∃ b3, b3 = t := ⟨t, rfl⟩
 subst A
 obtain ⟨hT, bd, hb2, cJ, be, eN⟩ := hR
 refine W.seq <| W.b <| W.sr <| WL.M rfl <| WL.O (.eql rfl rfl) <| WL.M rfl <| WL.gd rfl rfl rfl (fun y => ?_) (fun y => ?_)
 have c8 := dT y
 refine WL.M rfl <| WL.Y y <| WL.c1 hB_ rfl rfl ((plex_open r p l c t0 refs _ ⟨bd, hb2⟩ hl ht)) (fun em L => ?_)
 have c9 := bd.bl L
 have ca := cJ.bl L
 have aL := be.bl L
 have cb := bb_ hb2 L (fun d => hb2.lt d)
 have P := tt_ hT (tm_ (tb_ L) hT.size)
 refine WL.O (.pkT rfl y rfl) <| WL.Z rfl <| W.cond rfl (fun dE => ?_) (fun dE => ?_)
 refine W.reg <| WL.cp hB_ rfl ((plex_fail 24 _)) (fun en cc => ?_)
 obtain rfl := cc
 exact pn_is (Ends.err 24 (by rw [hX, if_pos ⟨by assumption, by assumption⟩]) P)
 refine W.sr <| WL.M rfl <| WL.O (.eql rfl rfl) <| WL.Z rfl <| W.cond rfl (fun ay => ?_) (fun ay => ?_)
 have cd := dT ay
 refine W.reg <| WL.cp hB_ rfl ((plex_fail 25 _)) (fun eo cf => ?_)
 obtain rfl := cf
 exact pn_is (Ends.err 25 (by rw [hX, if_neg (by rintro ⟨h1, h2⟩; simp_all), if_pos aS]) P)
 have cd := dF ay
 refine W.sr <| WL.M rfl <| WL.O (.neq rfl rfl) <| WL.M rfl <| WL.gd rfl rfl rfl (fun o => ?_) (fun o => ?_)
 have cg := ndF o
 refine WL.O (.fa u147_ rfl s3_ dD rfl) <| WL.Y o <| WL.R (Rd.ld (g3_ _) rfl aL rfl) <| WL.Y o <| WL.O (.neq rfl rfl) <| WL.O (.pkF rfl o rfl) <| WL.Z rfl <| W.cond rfl (fun az => ?_) (fun az => ?_)
 have ci := ndT az
 refine W.reg <| WL.cp hB_ rfl ((plex_fail 23 _)) (fun ep cj => ?_)
 obtain rfl := cj
 exact pn_is (Ends.err 23 (by rw [hX, if_neg (by rintro ⟨h1, h2⟩; simp_all), if_neg aS, if_pos (.inr aS)]) P)
 have ci := ndF az
 refine W.k <| W.sr <| WL.M rfl <| WL.O (.iis (((N.at'.toNat : Nat) : Int)) (.mv rfl) oO) <| WL.O (.nck rfl) <| WL.O (.fa u112_ rfl s3_ dD rfl) <| WL.st s3_ rfl rfl rfl c9 oD (fun dG ac j dS => ?_)
 have ac : Blk dG r _ _ := ac
 have j : Upd r _ _ := j
 have ck := ca.up j
 have cl := aL.up j
 have cm := BytesAt.upd cb j hne
 have cn := tt_ P (Touch.of_upd j)
 refine WL.e <| W.sr <| WL.O (.fa u147_ rfl s9_ dD rfl) <| WL.R (Rd.ld (g9_ _) rfl cl rfl) <| ?_
 refine WL.O (.buildL (ps := _) blt99 rfl rfl rfl pS) ?_
 refine WL.stL rfl rfl ck isz99 rfl rfl (fun eq bf ad dU => ?_)
 have co := ac.up ad
 have cq := bup cm ad au
 have cr := tt_ cn (tn_ ad oO)
 refine WL.e <| W.ret (W.retc1 rfl rfl (ldRow bf u99_ rfl isz99)  ?_)
 exact Ends.ok (N.s, N.at'.toNat) (by rw [hX, if_neg (by rintro ⟨h1, h2⟩; simp_all), if_neg aS, if_neg oO]) rfl ⟨⟨co, cq⟩, cr⟩
 have cg := ndT o
 refine WL.N o <| WL.N o <| WL.O (.pkT rfl o rfl) <| WL.Z rfl <| W.condT rfl rfl <| W.reg <| WL.cp hB_ rfl ((plex_fail 23 _)) (fun er ct => ?_)
 obtain rfl := ct
 exact pn_is (Ends.err 23 (by rw [hX, if_neg (by rintro ⟨h1, h2⟩; simp_all), if_neg aS, if_pos (.inl aS)]) P)
 have c8 := dF y
 refine WL.N y <| WL.O (.pkF rfl y rfl) <| WL.Z rfl <| W.condF rfl rfl <| W.sr <| WL.M rfl <| WL.O (.eql rfl rfl) <| WL.Z rfl <| W.cond rfl (fun aA => ?_) (fun aA => ?_)
 have cu := dT aA
 refine W.reg <| WL.cp hB_ rfl ((plex_fail 25 _)) (fun es cv => ?_)
 obtain rfl := cv
 exact pn_is (Ends.err 25 (by rw [hX, if_neg (by rintro ⟨h1, h2⟩; simp_all), if_pos aS]) hT)
 have cu := dF aA
 refine W.sr <| WL.M rfl <| WL.O (.neq rfl rfl) <| WL.M rfl <| WL.gd rfl rfl rfl (fun q => ?_) (fun q => ?_)
 have cw := ndF q
 refine WL.O (.fa u147_ rfl s3_ dD rfl) <| WL.Y q <| WL.R (Rd.ld (g3_ _) rfl be rfl) <| WL.Y q <| WL.O (.neq rfl rfl) <| WL.O (.pkF rfl q rfl) <| WL.Z rfl <| W.cond rfl (fun aB => ?_) (fun aB => ?_)
 have cy := ndT aB
 refine W.reg <| WL.cp hB_ rfl ((plex_fail 23 _)) (fun et cz => ?_)
 obtain rfl := cz
 exact pn_is (Ends.err 23 (by rw [hX, if_neg (by rintro ⟨h1, h2⟩; simp_all), if_neg aS, if_pos (.inr aS)]) hT)
 have cy := ndF aB
 refine W.k <| W.sr <| WL.M rfl <| WL.O (.iis (((N.at'.toNat : Nat) : Int)) (.mv rfl) oO) <| WL.O (.nck rfl) <| WL.O (.fa u112_ rfl s3_ dD rfl) <| WL.st s3_ rfl rfl rfl bd oD (fun dH ae m dV => ?_)
 have ae : Blk dH r _ _ := ae
 have m : Upd r _ _ := m
 have cA := cJ.up m
 have cB := be.up m
 have cC := BytesAt.upd hb2 m hne
 have cD := tt_ hT (Touch.of_upd m)
 refine WL.e <| W.sr <| WL.O (.fa u147_ rfl s9_ dD rfl) <| WL.R (Rd.ld (g9_ _) rfl cB rfl) <| ?_
 refine WL.O (.buildL (ps := _) blt99 rfl rfl rfl pS) ?_
 refine WL.stL rfl rfl cA isz99 rfl rfl (fun eu bg af dW => ?_)
 have cE := ae.up af
 have cF := bup cC af au
 have cG := tt_ cD (tn_ af oO)
 refine WL.e <| W.ret (W.retc1 rfl rfl (ldRow bg u99_ rfl isz99)  ?_)
 exact Ends.ok (N.s, N.at'.toNat) (by rw [hX, if_neg (by rintro ⟨h1, h2⟩; simp_all), if_neg aS, if_neg oO]) rfl ⟨⟨cE, cF⟩, cG⟩
 have cw := ndT q
 refine WL.N q <| WL.N q <| WL.O (.pkT rfl q rfl) <| WL.Z rfl <| W.condT rfl rfl <| W.reg <| WL.cp hB_ rfl ((plex_fail 23 _)) (fun ev cH => ?_)
 obtain rfl := cH
 exact pn_is (Ends.err 23 (by rw [hX, if_neg (by rintro ⟨h1, h2⟩; simp_all), if_neg aS, if_pos (.inl aS)]) hT)
def skipE (l : List UInt8) (t : Nat) : Except Int UInt8 := match l[skipAt false l t]? with | none => .error 24 | some x => .ok x
theorem plex_skip (r : Nat) (p : Option Addr) (l : List UInt8) (c t : Nat) (refs : Bool) (w : World) (h : PRd w r p l c t refs) (hne : 0 < l.length → (pA p).block ≠ r) (hl : l.length ≤ 100000000) (ht : t ≤ l.length) :
  Calls Tryz.prog 89 #[.pointer (some ⟨r, 0, none⟩)] w (Ends 30 (skipE l t) (fun x => .int .u8 (x.toNat : Int)) (fun _ w' => PRd w' r p l c (skipAt false l t) refs ∧ Touch w.heap.size r w w') (fun w' => Touch w.heap.size r w w')) := by
 have hr := h.1
 have hb := h.2
 unfold skipE
 obtain ⟨s, hs⟩ : ∃ s, s = skipAt false l t := ⟨_, rfl⟩
 have a7 : s ≤ l.length := by rw [hs]; exact skipAt_le _ _ _
 rw [← hs]
 have hS : ∀ A, BytesAt A p l → Calls Tryz.prog 42 #[.slice p l.length c, .int .i64 (t : Int)] A fun e w' => e = .returned (.int .i64 (s : Int)) ∧ A = w' := fun A h1 => (plex_Skip p l c t A h1 hl).mono fun e w' h => ⟨by rw [h.1, insA_nat l t ht, hs], h.2⟩
 refine W.e func89 rfl ntmps89 bL ?_
 have a0 := Touch.refl (w.heap.size) r w
 refine W.sr <| WL.Z rfl <| W.seq <| W.regY 13 rfl mixed (fun A B => ?_)
 have f := hr.drew B
 have y := hb.drew B
 have H := tt_ a0 (td_ B)
 refine WY.tk 0 rfl (.mv rfl) rfl <| WY.tk 1 rfl (.mv rfl) rfl <| WY.tk 2 rfl (.nck rfl) rfl <| WY.tk 3 rfl (.fa u112_ rfl s22_ dD rfl) rfl <| WY.tk 5 rfl (.mv rfl) rfl <| WY.tk 6 rfl (.nck rfl) rfl <| WY.tk 7 rfl (.fa u112_ rfl s3_ dD rfl) rfl <| WY.br2 4 rfl 8 rfl ?_ ?_
 refine WL.R (Rd.ld (g22_ _) rfl f rfl) <| WL.e <| WY.br1 8 rfl <| WL.R (Rd.ld (g3_ _) rfl f rfl) <| WL.e <| WY.br1 9 rfl <| WL.c1 hB_ rfl rfl ((hS _ y)) (fun w5 a1 => ?_)
 obtain rfl := a1
 refine WL.e <| WY.tk 10 rfl (.nck rfl) rfl <| WY.tk 11 rfl (.fa u112_ rfl s3_ dD rfl) rfl <| WY.br1 12 rfl <| WL.st s3_ rfl rfl rfl f oD (fun w6 d g a6 => ?_)
 have d : Blk w6 r _ _ := d
 have g : Upd r _ _ := g
 have a2 := BytesAt.upd y g hne
 have a3 := tt_ H (Touch.of_upd g)
 refine WL.e <| WY.done kR <| W.seq <| W.seq <| W.regQ mixed kR <| WQ.p (.mv rfl) rfl <| WQ.p (.nck rfl) rfl <| WQ.p (.fa u112_ rfl s3_ dD rfl) rfl <| WQ.r (fun m => Rd.ld (g3_ _) rfl d rfl) rfl <| WQ.p (.mv rfl) rfl <| WQ.p (.nck rfl) rfl <| WQ.p (.fa u112_ rfl s22_ dD rfl) rfl <| WQ.r (fun m => Rd.ld (g22_ _) rfl d rfl) rfl <| WQ.p (.lenS u22_ rfl) rfl <| WQ.p (.geq rfl rfl) rfl <| WQ.nil (fun w9 C => ?_)
 have i := d.drew C
 have j := a2.drew C
 have D := tt_ a3 (td_ C)
 refine W.cond rfl (fun E => ?_) (fun E => ?_)
 have J := dT E
 refine W.reg <| WL.cp hB_ rfl ((plex_fail 24 _)) (fun a8 K => ?_)
 obtain rfl := K
 exact pn_is (Ends.err 24 (by rw [List.getElem?_eq_none oO]) D)
 have J := dF E
 refine W.k <| W.seq <| W.regQ mixed kR <| WQ.p (.mv rfl) rfl <| WQ.p (.nck rfl) rfl <| WQ.p (.fa u112_ rfl s22_ dD rfl) rfl <| WQ.r (fun m => Rd.ld (g22_ _) rfl i rfl) rfl <| WQ.p (.mv rfl) rfl <| WQ.p (.nck rfl) rfl <| WQ.p (.fa u112_ rfl s3_ dD rfl) rfl <| WQ.r (fun m => Rd.ld (g3_ _) rfl i rfl) rfl <| WQ.p (.ixb u22_ s5_ rfl rfl (j.isp (by first | omega | exact nz_ _)) (s) (rfl) oO) rfl <| WQ.r (fun m => Rd.ldc (g5_ _) rfl ((j.drewN m).cells (s) oO)) rfl <| WQ.p (.as rfl) rfl <| WQ.nil (fun a9 n => ?_)
 have L := i.drew n
 have M := j.drew n
 have N := tt_ D (td_ n)
 refine W.ret (W.r1 rfl rfl ?_)
 exact Ends.ok (l[s]'oO) (by rw [List.getElem?_eq_getElem oO]) rfl ⟨⟨L, M⟩, N⟩
 refine WL.R (Rd.ld (g3_ _) rfl f rfl) <| WL.e <| WY.br1 4 rfl <| WL.R (Rd.ld (g22_ _) rfl f rfl) <| WL.e <| WY.br1 9 rfl <| WL.c1 hB_ rfl rfl ((hS _ y)) (fun aa O => ?_)
 obtain rfl := O
 refine WL.e <| WY.tk 10 rfl (.nck rfl) rfl <| WY.tk 11 rfl (.fa u112_ rfl s3_ dD rfl) rfl <| WY.br1 12 rfl <| WL.st s3_ rfl rfl rfl f oD (fun a4 a b a5 => ?_)
 have a : Blk a4 r _ _ := a
 have b : Upd r _ _ := b
 have P := BytesAt.upd y b hne
 have Q := tt_ H (Touch.of_upd b)
 refine WL.e <| WY.done kR <| W.seq <| W.seq <| W.regQ mixed kR <| WQ.p (.mv rfl) rfl <| WQ.p (.nck rfl) rfl <| WQ.p (.fa u112_ rfl s3_ dD rfl) rfl <| WQ.r (fun m => Rd.ld (g3_ _) rfl a rfl) rfl <| WQ.p (.mv rfl) rfl <| WQ.p (.nck rfl) rfl <| WQ.p (.fa u112_ rfl s22_ dD rfl) rfl <| WQ.r (fun m => Rd.ld (g22_ _) rfl a rfl) rfl <| WQ.p (.lenS u22_ rfl) rfl <| WQ.p (.geq rfl rfl) rfl <| WQ.nil (fun ab o => ?_)
 have q := a.drew o
 have u := P.drew o
 have F := tt_ Q (td_ o)
 refine W.cond rfl (fun G => ?_) (fun G => ?_)
 have T := dT G
 refine W.reg <| WL.cp hB_ rfl ((plex_fail 24 _)) (fun ac U => ?_)
 obtain rfl := U
 exact pn_is (Ends.err 24 (by rw [List.getElem?_eq_none oO]) F)
 have T := dF G
 refine W.k <| W.seq <| W.regQ mixed kR <| WQ.p (.mv rfl) rfl <| WQ.p (.nck rfl) rfl <| WQ.p (.fa u112_ rfl s22_ dD rfl) rfl <| WQ.r (fun m => Rd.ld (g22_ _) rfl q rfl) rfl <| WQ.p (.mv rfl) rfl <| WQ.p (.nck rfl) rfl <| WQ.p (.fa u112_ rfl s3_ dD rfl) rfl <| WQ.r (fun m => Rd.ld (g3_ _) rfl q rfl) rfl <| WQ.p (.ixb u22_ s5_ rfl rfl (u.isp (by first | omega | exact nz_ _)) (s) (rfl) oO) rfl <| WQ.r (fun m => Rd.ldc (g5_ _) rfl ((u.drewN m).cells (s) oO)) rfl <| WQ.p (.as rfl) rfl <| WQ.nil (fun ad v => ?_)
 have V := q.drew v
 have X := u.drew v
 have Y := tt_ F (td_ v)
 refine W.ret (W.r1 rfl rfl ?_)
 exact Ends.ok (l[s]'oO) (by rw [List.getElem?_eq_getElem oO]) rfl ⟨⟨V, X⟩, Y⟩
end
section
structure LInv (w : World) (S : Nat → Prop) (cs : List PC) (acc : List PV) : Prop where
 len : cs.length = acc.length
 sub : ∀ i (h : i < cs.length) (h2 : i < acc.length), PRep w S cs[i] acc[i]
theorem LInv.nil (w : World) (S : Nat → Prop) : LInv w S [] [] := ⟨rfl, fun i h => by simp at h⟩
theorem LInv.same {w w1 : World} {S : Nat → Prop} {cs : List PC} {acc : List PV} (h : LInv w S cs acc) (hb : ∀ k, S k → k < w.heap.size → w1.heap[k]? = w.heap[k]?) : LInv w1 S cs acc := ⟨h.len, fun i h1 h2 => (h.sub i h1 h2).same hb⟩
abbrev ls_ := @LInv.same
theorem LInv.mono {w : World} {S T : Nat → Prop} {cs : List PC} {acc : List PV} (h : LInv w S cs acc) (hST : ∀ k, S k → k < w.heap.size → T k) : LInv w T cs acc := ⟨h.len, fun i h1 h2 => (h.sub i h1 h2).mono hST⟩
theorem LInv.grow {w w1 : World} {S T : Nat → Prop} {cs : List PC} {acc : List PV} (h : LInv w S cs acc) (hb : ∀ k, S k → k < w.heap.size → w1.heap[k]? = w.heap[k]?) (hT : ∀ k, S k → k < w.heap.size → T k) : LInv w1 T cs acc :=
 ((h.mono (T := fun k => S k ∧ k < w.heap.size) (fun k hk hl => ⟨hk, hl⟩)).same (fun k hk _ => hb k hk.1 hk.2)).mono (fun k hk _ => hT k hk.1 hk.2)
theorem LInv.push {w : World} {S : Nat → Prop} {cs : List PC} {acc : List PV} {x : PC} {o : PV} (h : LInv w S cs acc) (hx : PRep w S x o) : LInv w S (cs ++ [x]) (acc ++ [o]) :=
  ⟨by simp [h.len], fun i h1 h2 => by
    have hl := h.len
    rcases Nat.lt_or_ge i cs.length with h3 | h3
    · rw [List.getElem_append_left h3, List.getElem_append_left oO]
      exact h.sub i h3 oO
    · obtain rfl : i = cs.length := by simp at h1; omega
      rw [List.getElem_append_right (nr_ _), List.getElem_append_right oO]
      simpa [hl] using hx⟩
theorem PRep.ofRow {w : World} {S : Nat → Prop} {k n : Int} {s : List UInt8} {kp lp : Option Addr} {kl kc lc : Nat} {keys : List (List UInt8)} {cs : List PC} {acc : List PV} (hk : StrsAt S w (.slice kp kl kc) keys) (hr : RowIn S w (.slice lp cs.length lc) cs) (h : LInv w S cs acc) :
  PRep w S ⟨k, n, s, kp, kl, kc, lp, cs.length, lc⟩ (.mk k n s keys acc) := PRep.mk ⟨k, n, s, kp, kl, kc, lp, cs.length, lc⟩ keys acc cs hk hr h.len h.sub
theorem inf99 : (Tryz.prog.info? 99).map (fun i => (i.zero, i.size, i.bytes)) = some (some (.agg (pobj 0 0 []).toArray), 6, 104) := by kernel_rfl
def ObjS (w : World) (r : Nat) (p : Option Addr) (l : List UInt8) (c : Nat) (refs : Bool) (a : PV × Nat) (v : Value) (w' : World) : Prop :=
 ∃ x : PC, v = .agg (pcV x).toArray ∧ PRep w' (fun k => w.heap.size ≤ k) x a.1 ∧ PRd w' r p l c a.2 refs ∧ Touch w.heap.size r w w'
def ObjC (p : Option Addr) (l : List UInt8) (c : Nat) (refs : Bool) (D : Int) : Prop :=
 ∀ (r t : Nat) (w : World), PRd w r p l c t refs → (0 < l.length → (pA p).block ≠ r) → t < l.length →
  Calls Tryz.prog 46 #[.pointer (some ⟨r, 0, none⟩), .int .i64 D] w (EndsV 30 (objP refs l D.toNat t) (ObjS w r p l c refs) (fun w' => Touch w.heap.size r w w'))
theorem skipE_ok {l : List UInt8} {t : Nat} {x : UInt8} (h : skipE l t = .ok x) : l[skipAt false l t]? = some x := by
 unfold skipE at h
 split at h
 ·
  cases h
 ·
  next h1 => rw [h1]; cases h; rfl
theorem skipE_err {l : List UInt8} {t : Nat} {k : Int} (h : skipE l t = .error k) : l[skipAt false l t]? = none ∧ k = 24 := by
 unfold skipE at h
 split at h
 ·
  next h1 => cases h; exact ⟨h1, rfl⟩
 ·
  cases h
theorem skipAt_ge (l : List UInt8) (t : Nat) (ht : t ≤ l.length) : t ≤ skipAt false l t := by
 unfold skipAt
 have a := skipS_len (l.drop t) false
 rw [List.length_drop] at a
 omega
theorem listP_step {obj : Nat → ObjE} {l : List UInt8} {f : Nat} {acc : List PV} {t : Nat} (hf : 0 < f) : listP obj l f acc t = (match l[skipAt false l t]? with
  | none => .error 24
  | some c => if c = 93 then .ok (acc, skipAt false l t + 1) else if 65535 ≤ acc.length then .error 25 else match obj (skipAt false l t) with | .error k => .error k | .ok (o, t') => listP obj l (f - 1) (acc ++ [o]) t') := by
 cases f with
 | zero => omega
 | succ f => rfl
theorem plex_list (p : Option Addr) (l : List UInt8) (c : Nat) (refs : Bool) (D : Int) (hO : ObjC p l c refs D) (hadv : ∀ t o t', t < l.length → objP refs l D.toNat t = .ok (o, t') → t < t' ∧ t' ≤ l.length) (r t : Nat) (w : World) (h : PRd w r p l c t refs) (hne : 0 < l.length → (pA p).block ≠ r) (hl : l.length ≤ 100000000) (ht : t ≤ l.length) :
  Calls Tryz.prog 61 #[.pointer (some ⟨r, 0, none⟩), .int .i64 D] w (EndsV 30 (listO (listP (objP refs l D.toNat) l (l.length + 1) [] t)) (ObjS w r p l c refs) (fun w' => Touch w.heap.size r w w')) := by
 have hr := h.1
 have hb := h.2
 have d8 : 0 < l.length → (pA p).block < w.heap.size := fun X => hb.lt X
 obtain ⟨R, hR⟩ : ∃ R, R = listP (objP refs l D.toNat) l (l.length + 1) [] t := ⟨_, rfl⟩
 rw [← hR]
 obtain ⟨t0, d9⟩ : ∃ t0, t0 = t := ⟨t, rfl⟩
 subst d9
 refine W.e func61 rfl ntmps61 bL ?_
 have c3 := Touch.refl (w.heap.size) r w
 refine W.seq ?_
 have dM : r < w.heap.size := hr.lt
 refine W.reg <| WL.al z99_ rfl (fun b1 dN aG aH am dI => ?_)
 have da := bgl aG hr.lt
 have a9 := hr.un am da
 have aI := fun X => aG ▸ hb.lt X
 have c4 := bup hb am aI
 have bf := bge aG c3.size
 have c5 := tt_ c3 (tn_ am bf)
 refine WL.e <| ?_
 refine W.sr <| WL.O (.buildL (ps := _) blt99 rfl rfl rfl pS) ?_
 refine WL.al z99_ rfl (fun A dO ax ca ab dJ => ?_)
 have db := bgl ax a9.lt
 have dc := a9.un ab db
 have cb := bgl ax aH.lt
 have cc := aH.un ab cb
 have Q := fun X => ax ▸ c4.lt X
 have cd := bup c4 ab Q
 have bg := bge ax c5.size
 have cf := tt_ c5 (tn_ ab bg)
 refine WL.stL rfl rfl ca isz99 rfl rfl (fun dP bh a0 dB => ?_)
 have cg := dc.up a0
 have ci := cc.up a0
 have cj := bup cd a0 Q
 have ck := tt_ cf (tn_ a0 oO)
 refine WL.e <| W.seq <| W.b ?_
 have aJ : 0 < l.length → (pA p).block < A + 1 := fun X => by have := d8 X; omega
 have dQ : r < A := by omega
 refine W.loop (α := Value × List PC × List PV × Nat × Nat) (fun t => [(0, .pointer (some ⟨r, 0, none⟩)), (1, .int .i64 D), (4, .pointer (some ⟨b1, 0, none⟩)), (5, .pointer (some ⟨A, 0, none⟩))]) (fun t w' => PRd w' r p l c t.2.2.2.1 refs ∧ Touch w.heap.size r w w' ∧ Blk w' b1 (pobj 0 0 []).toArray 99 ∧ Blk w' A #[.int .i64 6, .int .i64 0, .string ⟨#[]⟩, .slice none 0 0, t.1, .slice none 0 0] 99 ∧ OwnM pcL 99 (A + 1) w' t.1 t.2.1 ∧ LInv w' (fun k => A < k ∧ t.1.ownBlock ≠ some k) t.2.1 t.2.2.1 ∧ listP (objP refs l D.toNat) l t.2.2.2.2 t.2.2.1 t.2.2.2.1 = R ∧ l.length < t.2.2.2.2 + t.2.2.2.1 ∧ t.2.2.2.1 ≤ l.length ∧ t.2.2.1.length ≤ 65535) (fun t => t.2.2.2.2) ((.slice none 0 0, [], [], t0, l.length + 1)) ⟨rfl, rfl, rfl, rfl, tT⟩ (⟨⟨cg, cj⟩, ck, ci, bh, OwnM.nil _ _ _ _, LInv.nil _ _, hR.symm, by ((try simp only) <;> omega), ht, by simp⟩) (fun t w1 hR => ?_)
 obtain ⟨v, cs, acc, t, f⟩ := t
 obtain ⟨aK, hT, c6, a9, an, ao, hw, dd, aL, de⟩ := hR
 simp only at aK a9 an ao hw dd aL de ⊢
 have J := listP_step (obj := objP refs l D.toNat) (l := l) (acc := acc) (t := t) (f := f) oO
 have dK := skipAt_ge l t aL
 have dR := ao.len
 obtain ⟨pl, cl, rfl, -⟩ := an.row
 refine W.seq <| W.sr <| WL.M rfl <| WL.ce hB_ rfl rfl ((plex_skip r p l c t refs _ ⟨aK.1, aK.2⟩ hne hl aL)) (fun df c7 a1 u => ?_) (fun dg c7 a1 u => ?_)
 have aM := tt_ hT (tm_ u hT.size)
 exact pn_is (ee_ df (by rw [← hw, J, (skipE_err a1).1, (skipE_err a1).2]; rfl) aM)
 have aN := OwnM.touch' an u.2 oO
 have aO := ls_ (w1 := c7) ao (fun k hk hl => u.2.block k hl (by first | omega | (have := hk.1; omega)))
 have ap := u.1.1
 have aP := bo_ c6 u.2 c6.lt oO
 have aq := bo_ a9 u.2 a9.lt oO
 have aQ := u.1.2
 have ar := tt_ hT (tm_ u.2 hT.size)
 have aR := skipE_ok a1
 rw [aR] at J
 obtain ⟨ay, dh⟩ := List.getElem?_eq_some_iff.1 aR
 obtain ⟨x0, di⟩ : ∃ x0, x0 = dg := ⟨_, rfl⟩
 rw [← di] at J dh aR ⊢
 generalize skipAt false l t = s at *
 refine WL.O (.neq rfl rfl) <| WL.e <| W.cond rfl (fun aT => ?_) (fun aT => ?_)
 have cm := ndT aT
 refine W.k <| W.b <| W.seq <| W.sr <| WL.O (.fa u99_ rfl s72_ dD rfl) <| WL.R (Rd.ld (g72_ _) rfl aq rfl) <| WL.O (.lenS u72_ rfl) <| WL.O (.geq rfl rfl) <| WL.e <| W.cond rfl (fun aU => ?_) (fun aU => ?_)
 have cn := dT aU
 refine W.reg <| WL.cp hB_ rfl ((plex_fail 25 _)) (fun dS co => ?_)
 obtain rfl := co
 exact pn_is (ee_ 25 (by rw [← hw, J]; simp only []; rw [if_neg (u8_ne (d := 93) aS), if_pos oO]; rfl) ar)
 have cn := dF aU
 refine W.k <| W.regY 9 rfl mixed (fun dj K => ?_)
 have ac := OwnM.drew aN K
 have aV := ls_ (w1 := dj) aO (fun k hk hl => (by obtain ⟨m, rfl⟩ := K; rfl))
 have aW := ap.drew K
 have ad := aP.drew K
 have N := aq.drew K
 have aX := aQ.drew K
 have B := tt_ ar (td_ K)
 refine WY.tk 0 rfl (.fa u99_ rfl s72_ dD rfl) rfl <| WY.tk 2 rfl (.mv rfl) rfl <| WY.tk 3 rfl (.mv rfl) rfl <| WY.br2 1 rfl 4 rfl ?_ ?_
 refine WL.R (Rd.ld (g72_ _) rfl N rfl) <| WL.e <| WY.br1 4 rfl <| WL.cx hB_ rfl rfl ((hO r s _ ⟨aW, aX⟩ hne ay)) (fun dk dl ae au => ?_) (fun dm dU dl ae au => ?_)
 have aY := tt_ B (tm_ au B.size)
 exact pn_is (ee_ dk (by rw [← hw, J]; simp only []; rw [if_neg (u8_ne (d := 93) aS), if_neg oO, ae]; rfl) aY)
 have aa := ae
 obtain ⟨oX, tX⟩ := dm
 obtain ⟨x1, rfl, aZ, a3, C⟩ := au
 have az := hadv s oX tX ay aa
 have aA := OwnM.touch' ac C oO
 have af := ls_ aV (fun k hk hl => C.block k hl (by have := hk.1; omega))
 have P := bo_ ad C (ad).lt oO
 have E := bo_ N C (N).lt oO
 have a4 := tt_ B (tm_ C B.size)
 have av := aZ.mono (T := fun k => A < k ∧ (Value.slice pl cs.length cl).ownBlock ≠ some k) (fun k hk _ => ⟨by have := (N).lt; omega, fun e => by have := ((ac).lt k e).2; omega⟩)
 have a2 := af.push av
 have a5 := a3.1
 have a6 := a3.2
 refine WL.e <| WY.br1 5 rfl <| WL.bslM (L := pcL) (ps := _) ([x1]) u72_ s99_ z99_ rfl rfl rfl rfl rfl (by first | rfl | decide) rfl rfl (fun dn a' Y bi x dC => ?_)
 have cq := on_ aA Y x
 have cr := ls_ (w1 := a') a2 (fun k hk hl => x.other k oO)
 have ct := bgl Y a5.lt
 have cu := a5.un x ct
 have cv := bgl Y P.lt
 have cw := P.un x cv
 have cy := bgl Y E.lt
 have b0 := E.un x cy
 have bj := fun X => Y ▸ a6.lt X
 have cz := bup a6 x bj
 have b2 := bge Y a4.size
 have cA := tt_ a4 (tn_ x b2)
 have dp : dn ≤ a'.heap.size := by omega
 refine WL.e <| WY.br1 6 rfl <| WL.appM u72_ inf99 rfl rfl rfl cq rfl (bi).rowp (by simp only [List.length_cons, List.length_nil]; omega) ((b0).lt) rfl (fun h => nomatch h) (fun dq dV aB U bk bl => ?_)
 have cB := cu.below U oO
 have cC := cw.below U oO
 have cD := b0.below U oO
 have cE := LInv.grow (T := fun k => A < k ∧ (dq).ownBlock ≠ some k) cr (fun k hk hl => bk.block k hl (fun e => hk.2 e.symm)) (fun k hk hl => ⟨hk.1, fun e => by rcases bl k e with h | h; exact hk.2 h; omega⟩)
 have cF := bb_ cz U aJ
 have cG := tt_ cA (tb_ (U.mono oO))
 refine WL.e <| WY.tk 7 rfl (.fa u99_ rfl s72_ dD rfl) rfl <| WY.br1 8 rfl <| WL.st s72_ rfl rfl (aB).one cD oD (fun c8 ag n dE => ?_)
 have ag : Blk c8 A _ _ := ag
 have n : Upd A _ _ := n
 have cH := OwnM.touch aB n oM
 have cI := ls_ (w1 := c8) cE (fun k hk hl => n.other k (by first | ((try simp only) <;> omega) | (have := hk.1; ((try simp only) <;> omega))))
 have cJ := cB.up n
 have cK := cC.up n
 have cL := bup cF n Q
 have cM := tt_ cG (tn_ n oO)
 refine WL.e <| WY.done kR ?_
 exact ⟨(_, cs ++ [x1], acc ++ [oX], tX, f - 1), ⟨rfl, rfl, rfl, rfl, tT⟩, ⟨⟨cJ, cL⟩, cM, cK, ag, cH, cI, by rw [← hw, J]; simp only []; rw [if_neg (u8_ne (d := 93) aS), if_neg oO, aa], by ((try simp only) <;> omega), az.2, by simp only [List.length_append, List.length_cons, List.length_nil]; omega⟩, by ((try simp only) <;> omega)⟩
 refine WL.cx hB_ rfl rfl ((hO r s _ ⟨aW, aX⟩ hne ay)) (fun dr ds ah aw => ?_) (fun dt dW ds ah aw => ?_)
 have b3 := tt_ B (tm_ aw B.size)
 exact pn_is (ee_ dr (by rw [← hw, J]; simp only []; rw [if_neg (u8_ne (d := 93) aS), if_neg oO, ah]; rfl) b3)
 have aa := ah
 obtain ⟨oX, tX⟩ := dt
 obtain ⟨x1, rfl, aZ, a3, C⟩ := aw
 have az := hadv s oX tX ay aa
 have aA := OwnM.touch' ac C oO
 have af := ls_ aV (fun k hk hl => C.block k hl (by have := hk.1; omega))
 have P := bo_ ad C (ad).lt oO
 have E := bo_ N C (N).lt oO
 have a4 := tt_ B (tm_ C B.size)
 have av := aZ.mono (T := fun k => A < k ∧ (Value.slice pl cs.length cl).ownBlock ≠ some k) (fun k hk _ => ⟨by have := (N).lt; omega, fun e => by have := ((ac).lt k e).2; omega⟩)
 have a2 := af.push av
 have a5 := a3.1
 have a6 := a3.2
 refine WL.e <| WY.br2 1 rfl 5 rfl ?_ ?_
 refine WL.R (Rd.ld (g72_ _) rfl E rfl) <| WL.e <| WY.br1 5 rfl <| WL.bslM (L := pcL) (ps := _) ([x1]) u72_ s99_ z99_ rfl rfl rfl rfl rfl (by first | rfl | decide) rfl rfl (fun du b4 Z bm y dG => ?_)
 have cN := on_ aA Z y
 have cO := ls_ (w1 := b4) a2 (fun k hk hl => y.other k oO)
 have cP := bgl Z a5.lt
 have cQ := a5.un y cP
 have cR := bgl Z P.lt
 have cS := P.un y cR
 have cT := bgl Z E.lt
 have b5 := E.un y cT
 have bn := fun X => Z ▸ a6.lt X
 have cU := bup a6 y bn
 have b6 := bge Z a4.size
 have cV := tt_ a4 (tn_ y b6)
 have dv : du ≤ b4.heap.size := by omega
 refine WL.e <| WY.br1 6 rfl <| WL.appM u72_ inf99 rfl rfl rfl cN rfl (bm).rowp (by simp only [List.length_cons, List.length_nil]; omega) ((b5).lt) rfl (fun h => nomatch h) (fun dw dX aC V bo bp => ?_)
 have cW := cQ.below V oO
 have cX := cS.below V oO
 have cY := b5.below V oO
 have cZ := LInv.grow (T := fun k => A < k ∧ (dw).ownBlock ≠ some k) cO (fun k hk hl => bo.block k hl (fun e => hk.2 e.symm)) (fun k hk hl => ⟨hk.1, fun e => by rcases bp k e with h | h; exact hk.2 h; omega⟩)
 have c' := bb_ cU V aJ
 have d0 := tt_ cV (tb_ (V.mono oO))
 refine WL.e <| WY.tk 7 rfl (.fa u99_ rfl s72_ dD rfl) rfl <| WY.br1 8 rfl <| WL.st s72_ rfl rfl (aC).one cY oD (fun c9 ai q dH => ?_)
 have ai : Blk c9 A _ _ := ai
 have q : Upd A _ _ := q
 have d1 := OwnM.touch aC q oM
 have d2 := ls_ (w1 := c9) cZ (fun k hk hl => q.other k (by first | ((try simp only) <;> omega) | (have := hk.1; ((try simp only) <;> omega))))
 have d3 := cW.up q
 have bq := cX.up q
 have bt := bup c' q Q
 have bu := tt_ d0 (tn_ q oO)
 refine WL.e <| WY.done kR ?_
 exact ⟨(_, cs ++ [x1], acc ++ [oX], tX, f - 1), ⟨rfl, rfl, rfl, rfl, tT⟩, ⟨⟨d3, bt⟩, bu, bq, ai, d1, d2, by rw [← hw, J]; simp only []; rw [if_neg (u8_ne (d := 93) aS), if_neg oO, aa], by ((try simp only) <;> omega), az.2, by simp only [List.length_append, List.length_cons, List.length_nil]; omega⟩, by ((try simp only) <;> omega)⟩
 refine WL.bslM (L := pcL) (ps := _) ([x1]) u72_ s99_ z99_ rfl rfl rfl rfl rfl (by first | rfl | decide) rfl rfl (fun d4 aD H b8 j dx => ?_)
 have bv := on_ aA H j
 have bw := ls_ (w1 := aD) a2 (fun k hk hl => j.other k oO)
 have bx := bgl H a5.lt
 have bz := a5.un j bx
 have bA := bgl H P.lt
 have bB := P.un j bA
 have bC := bgl H E.lt
 have aj := E.un j bC
 have b9 := fun X => H ▸ a6.lt X
 have bD := bup a6 j b9
 have aF := bge H a4.size
 have bE := tt_ a4 (tn_ j aF)
 have d7 : d4 ≤ aD.heap.size := by omega
 refine WL.e <| WY.br1 1 rfl <| WL.R (Rd.ld (g72_ _) rfl aj rfl) <| WL.e <| WY.br1 6 rfl <| WL.appM u72_ inf99 rfl rfl rfl bv rfl (b8).rowp (by simp only [List.length_cons, List.length_nil]; omega) ((aj).lt) rfl (fun h => nomatch h) (fun d5 dL ak F ba bb => ?_)
 have bG := bz.below F oO
 have bH := bB.below F oO
 have bI := aj.below F oO
 have bJ := LInv.grow (T := fun k => A < k ∧ (d5).ownBlock ≠ some k) bw (fun k hk hl => ba.block k hl (fun e => hk.2 e.symm)) (fun k hk hl => ⟨hk.1, fun e => by rcases bb k e with h | h; exact hk.2 h; omega⟩)
 have bK := bb_ bD F aJ
 have bM := tt_ bE (tb_ (F.mono oO))
 refine WL.e <| WY.tk 7 rfl (.fa u99_ rfl s72_ dD rfl) rfl <| WY.br1 8 rfl <| WL.st s72_ rfl rfl (ak).one bI oD (fun bc a7 a dy => ?_)
 have a7 : Blk bc A _ _ := a7
 have a : Upd A _ _ := a
 have bN := OwnM.touch ak a oM
 have bO := ls_ (w1 := bc) bJ (fun k hk hl => a.other k (by first | ((try simp only) <;> omega) | (have := hk.1; ((try simp only) <;> omega))))
 have bP := bG.up a
 have bQ := bH.up a
 have bR := bup bK a Q
 have bS := tt_ bM (tn_ a oO)
 refine WL.e <| WY.done kR ?_
 exact ⟨(_, cs ++ [x1], acc ++ [oX], tX, f - 1), ⟨rfl, rfl, rfl, rfl, tT⟩, ⟨⟨bP, bR⟩, bS, bQ, a7, bN, bO, by rw [← hw, J]; simp only []; rw [if_neg (u8_ne (d := 93) aS), if_neg oO, aa], by ((try simp only) <;> omega), az.2, by simp only [List.length_append, List.length_cons, List.length_nil]; omega⟩, by ((try simp only) <;> omega)⟩
 have cm := ndF aT
 refine W.exit <| W.sr <| WL.M rfl <| WL.O (.nck rfl) <| WL.O (.fa u112_ rfl s3_ dD rfl) <| WL.R (Rd.ld (g3_ _) rfl ap rfl) <| WL.O (.iis (((s + 1 : Nat) : Int)) (.add rfl rfl (i64w oO)) oO) <| WL.O (.nck rfl) <| WL.O (.fa u112_ rfl s3_ dD rfl) <| WL.st s3_ rfl rfl rfl ap oD (fun bd a8 i dz => ?_)
 have a8 : Blk bd r _ _ := a8
 have i : Upd r _ _ := i
 have bT := OwnM.touch aN i oM
 have bU := ls_ (w1 := bd) aO (fun k hk hl => i.other k (by first | ((try simp only) <;> omega) | (have := hk.1; ((try simp only) <;> omega))))
 have bV := aP.up i
 have bW := aq.up i
 have bX := BytesAt.upd aQ i hne
 have bY := tt_ ar (Touch.of_upd i)
 refine WL.e <| W.sr <| WL.R (Rd.ldA rfl bW u99_ rfl isz99) <| WL.stL rfl rfl bV isz99 rfl rfl (fun d6 be G dA => ?_)
 have aE := OwnM.touch bT G oM
 have bZ := ls_ (w1 := d6) bU (fun k hk hl => G.other k (by first | ((try simp only) <;> omega) | (have := hk.1; ((try simp only) <;> omega))))
 have b' := a8.up G
 have c0 := bup bX G aI
 have c2 := tt_ bY (tn_ G oO)
 refine WL.e <| W.ret (W.retc1 rfl rfl (ldRow be u99_ rfl isz99)  ?_)
 exact eo_ (.mk 6 0 [] [] acc, s + 1) _ (by rw [← hw, J]; simp only []; rw [if_pos (u8_eq (d := 93) aS)]; rfl) rfl ⟨⟨6, 0, [], none, 0, 0, pl, cs.length, cl⟩, rfl, PRep.ofRow ⟨OwnM.nil _ _ _ _, fun g h => by cases h⟩ ⟨(aE).base (fun g hg => nl_ _), fun g hg => by have := (aE).lt g hg; omega⟩ ((bZ).mono (fun k hk _ => by have := hk.1; omega)), ⟨b', c0⟩, c2⟩
end
section
theorem inf9 : (Tryz.prog.info? 9).map (fun i => (i.zero, i.size, i.bytes)) = some (some (.string ⟨#[]⟩), 1, 16) := by kernel_rfl
theorem lib_idxS (q : Option Addr) (s : List (List UInt8)) (c : Nat) (x : List UInt8) (w : World) (hb : RowAt strV w q s) (hl : s.length ≤ 1000000000) :
  Calls Tryz.prog 51 #[.slice q s.length c, .string (bs x)] w fun e w' => ∃ a : { a : Int // 0 ≤ a ↔ x ∈ s }, e = .returned (.int .i64 a.1) ∧ w = w' := by
 refine W.e func51 rfl ntmps51 bL ?_
 refine W.sr <| WL.Z rfl <| W.seq <| W.sr <| WL.M rfl <| WL.O (.lenS u23_ rfl) <| WL.M rfl <| WL.e <| W.b <| W.loop (α := Nat) (fun t => [(0, .slice q s.length c), (1, .string (bs x)), (7, .int .i64 (s.length : Int)), (8, .int .i64 (t : Int))]) (fun t w' => w = w' ∧ t ≤ s.length ∧ x ∉ s.take t) (fun t => s.length - t) (0) ⟨rfl, rfl, rfl, rfl, tT⟩ (⟨rfl, nl_ _, by simp⟩) (fun t m hR => ?_)
 obtain ⟨i, rfl⟩ : ∃ i, i = t := ⟨t, rfl⟩
 obtain ⟨rfl, hi, d⟩ := hR
 refine W.sr <| WL.O (.lss rfl rfl) <| WL.e <| W.seq <| W.cond rfl (fun f => ?_) (fun f => ?_)
 have j := dT f
 refine W.k <| W.seq <| W.b <| W.sr <| WL.M rfl <| WL.Z rfl <| W.sr <| WL.M rfl <| WL.M rfl <| WL.M rfl <| WL.O (.ixb u23_ s9_ rfl rfl (hb.isp (by first | omega | exact nz_ _)) (i) (rfl) oO) <| WL.R (Rd.ldc (g9_ _) rfl (hb.cells (i) oO)) <| WL.O (.eqs rfl rfl) <| WL.e <| W.cond rfl (fun g => ?_) (fun g => ?_)
 have l := dT g
 refine W.sr <| WL.M rfl <| WL.Z rfl <| W.ret (W.r1 rfl rfl ?_)
 exact ⟨⟨(i : Int), fun _ => by rw [show x = s[i]'oO by assumption]; exact List.getElem_mem _, fun _ => by omega⟩, rfl, rfl⟩
 have l := dF g
 refine W.k <| W.reg <| WL.O (.iis (((i + 1 : Nat) : Int)) (.add rfl rfl (i64w oO)) oO) <| WL.M rfl <| WL.e <| ?_
 exact ⟨i + 1, ⟨rfl, rfl, rfl, rfl, tT⟩, ⟨rfl, by ((try simp only) <;> omega), by
  rw [List.take_add_one, List.getElem?_eq_getElem oO, Option.toList_some, List.mem_append, List.mem_singleton]; exact fun h => h.elim d aS⟩, by ((try simp only) <;> omega)⟩
 have j := dF f
 refine W.exit <| W.sr <| WL.Z rfl <| W.ret (W.r1 rfl rfl ?_)
 exact ⟨⟨-1, fun h => ab_ h dD, fun h => by rw [show s.take i = s from List.take_of_length_le oO] at d; exact ab_ h d⟩, rfl, rfl⟩
theorem lib_hasS (q : Option Addr) (s : List (List UInt8)) (c : Nat) (x : List UInt8) (w : World) (hb : RowAt strV w q s) (hl : s.length ≤ 1000000000) :
  Calls Tryz.prog 92 #[.slice q s.length c, .string (bs x)] w fun e w' => e = .returned (.bool (decide (x ∈ s))) ∧ w = w' := by
 refine W.e func92 rfl ntmps92 bL ?_
 refine W.sr <| WL.Z rfl <| W.sr <| WL.M rfl <| WL.M rfl <| WL.call hB_ rfl rfl ((lib_idxS q s c x _ hb hl)) (fun a d b => ?_)
 obtain rfl := b
 refine WL.O (.geq rfl rfl) <| WL.Z rfl <| W.ret (W.r1 rfl rfl ?_)
 exact ⟨ret_bool (decide_eq_decide.2 a.2), rfl⟩
theorem nameP_le {l : List UInt8} {t : Nat} {k : List UInt8} {t1 : Nat} (ht : t ≤ l.length) (h : nameP l t = .ok (k, t1)) : t ≤ t1 ∧ t1 ≤ l.length := by
 have hw := wordAt_le l t ht
 unfold nameP at h
 split at h
 ·
  cases h
 ·
  split at h
  ·
   cases h
  ·
   split at h
   ·
    cases h
   ·
    cases h; exact hw
theorem pairsP_step {obj : Nat → ObjE} {l : List UInt8} {f : Nat} {ks : List (List UInt8)} {os : List PV} {t : Nat} (hf : 0 < f) : pairsP obj l f ks os t = (match l[skipAt false l t]? with
  | none => .error 24
  | some c =>
   if c = 62 ∧ l.length ≤ skipAt false l t + 1 then .error 24
   else if c = 62 ∧ l[skipAt false l t + 1]? = some 62 then .ok (ks, os, skipAt false l t + 2)
   else if c ≠ 47 then .error 23
   else match nameP l (skipAt false l t + 1) with
    | .error k => .error k
    | .ok (k, t1) =>
     if k ∈ ks then .error 23
     else if 65535 ≤ os.length then .error 25
     else match l[skipAt false l t1]? with
      | none => .error 24
      | some _ => match obj (skipAt false l t1) with
       | .error k => .error k
       | .ok (o, t') => pairsP obj l (f - 1) (ks ++ [k]) (os ++ [o]) t') := by
 cases f with
 | zero => omega
 | succ f => rfl
theorem nextB_62 {l : List UInt8} {t : Nat} (h : nextB l t 62 = true) : l[t]? = some 62 := by
 obtain ⟨a, b⟩ := nextB_t h
 rw [List.getElem?_eq_getElem a, b]
theorem nextB_not62 {l : List UInt8} {t : Nat} (h : nextB l t 62 = false) : l[t]? ≠ some 62 := fun e => by
 obtain ⟨h1, h2⟩ := List.getElem?_eq_some_iff.1 e
 exact nextB_f h h1 h2
theorem plex_pairs (p : Option Addr) (l : List UInt8) (c : Nat) (refs : Bool) (D : Int) (hO : ObjC p l c refs D) (hadv : ∀ t o t', t < l.length → objP refs l D.toNat t = .ok (o, t') → t < t' ∧ t' ≤ l.length) (r t : Nat) (w : World) (h : PRd w r p l c t refs) (hne : 0 < l.length → (pA p).block ≠ r) (hc : l.length ≤ c) (hl : l.length ≤ 100000000) (ht : t ≤ l.length) :
  Calls Tryz.prog 63 #[.pointer (some ⟨r, 0, none⟩), .int .i64 D] w (EndsV 30 (pairsO (pairsP (objP refs l D.toNat) l (l.length + 1) [] [] t)) (ObjS w r p l c refs) (fun w' => Touch w.heap.size r w w')) := by
 have hr := h.1
 have hb := h.2
 have fC : 0 < l.length → (pA p).block < w.heap.size := fun h0 => hb.lt h0
 obtain ⟨R, hR⟩ : ∃ R, R = pairsP (objP refs l D.toNat) l (l.length + 1) [] [] t := ⟨_, rfl⟩
 rw [← hR]
 obtain ⟨t0, fD⟩ : ∃ t0, t0 = t := ⟨t, rfl⟩
 subst fD
 refine W.e func63 rfl ntmps63 bL ?_
 have eG := Touch.refl (w.heap.size) r w
 refine W.seq ?_
 have gm : r < w.heap.size := hr.lt
 refine W.reg <| WL.al z99_ rfl (fun b1 go b' c0 bf g6 => ?_)
 have fE := bgl b' hr.lt
 have aK := hr.un bf fE
 have c2 := fun h0 => b' ▸ hb.lt h0
 have eH := bup hb bf c2
 have cI := bge b' eG.size
 have eI := tt_ eG (tn_ bf cI)
 refine WL.e <| ?_
 refine W.sr <| WL.O (.buildL (ps := _) blt99 rfl rfl rfl pS) ?_
 refine WL.al z99_ rfl (fun N gp bt eN aM g7 => ?_)
 have fF := bgl bt aK.lt
 have fG := aK.un aM fF
 have eO := bgl bt c0.lt
 have eP := c0.un aM eO
 have aa := fun h0 => bt ▸ eH.lt h0
 have eQ := bup eH aM aa
 have cJ := bge bt eI.size
 have eR := tt_ eI (tn_ aM cJ)
 refine WL.stL rfl rfl eN isz99 rfl rfl (fun gq cK ao g2 => ?_)
 have eS := fG.up ao
 have eT := eP.up ao
 have eU := bup eQ ao aa
 have eV := tt_ eR (tn_ ao oO)
 refine WL.e <| W.b ?_
 have bu : 0 < l.length → (pA p).block < N + 1 := fun h0 => by have := fC h0; omega
 have gr : r < N := by omega
 refine W.loop (α := Value × Value × List (List UInt8) × List PC × List PV × Nat × Nat) (fun t => [(0, .pointer (some ⟨r, 0, none⟩)), (1, .int .i64 D), (4, .pointer (some ⟨b1, 0, none⟩)), (5, .pointer (some ⟨N, 0, none⟩))]) (fun t w' => PRd w' r p l c t.2.2.2.2.2.1 refs ∧ Touch w.heap.size r w w' ∧ Blk w' b1 (pobj 0 0 []).toArray 99 ∧ Blk w' N #[.int .i64 7, .int .i64 0, .string ⟨#[]⟩, t.1, t.2.1, .slice none 0 0] 99 ∧ OwnM strL 9 (N + 1) w' t.1 t.2.2.1 ∧ OwnM pcL 99 (N + 1) w' t.2.1 t.2.2.2.1 ∧ (∀ g, t.1.ownBlock = some g → t.2.1.ownBlock ≠ some g) ∧ LInv w' (fun k => N < k ∧ t.1.ownBlock ≠ some k ∧ t.2.1.ownBlock ≠ some k) t.2.2.2.1 t.2.2.2.2.1 ∧ pairsP (objP refs l D.toNat) l t.2.2.2.2.2.2 t.2.2.1 t.2.2.2.2.1 t.2.2.2.2.2.1 = R ∧ l.length < t.2.2.2.2.2.2 + t.2.2.2.2.2.1 ∧ t.2.2.2.2.2.1 ≤ l.length ∧ t.2.2.2.2.1.length ≤ 65535 ∧ t.2.2.1.length = t.2.2.2.2.1.length) (fun t => t.2.2.2.2.2.2) ((.slice none 0 0, .slice none 0 0, [], [], [], t0, l.length + 1)) ⟨rfl, rfl, rfl, rfl, tT⟩ (⟨⟨eS, eU⟩, eV, eT, cK, OwnM.nil _ _ _ _, OwnM.nil _ _ _ _, fun g h => (by cases h), LInv.nil _ _, hR.symm, by ((try simp only) <;> omega), ht, nl_ _, rfl⟩) (fun t w1 hR => ?_)
 obtain ⟨kv, v, ks, cs, acc, t, f⟩ := t
 obtain ⟨c3, hT, eJ, aK, aN, bg, bh, bi, hw, fH, c4, fI, fJ⟩ := hR
 simp only at c3 aK aN bg bh bi hw fH c4 fI fJ ⊢
 have H := pairsP_step (obj := objP refs l D.toNat) (l := l) (ks := ks) (os := acc) (t := t) (f := f) oO
 have g8 := skipAt_ge l t c4
 have gs := bi.len
 obtain ⟨pl, cl, rfl, -⟩ := bg.row
 obtain ⟨pk, ck, rfl, -⟩ := aN.row
 refine W.b <| W.seq <| W.sr <| WL.M rfl <| WL.ce hB_ rfl rfl ((plex_skip r p l c t refs _ ⟨c3.1, c3.2⟩ hne hl c4)) (fun fK eK ap P => ?_) (fun fL eK ap P => ?_)
 have c5 := tt_ hT (tm_ P hT.size)
 exact pn_is (ee_ fK (by rw [← hw, H, (skipE_err ap).1, (skipE_err ap).2]; rfl) c5)
 have eW := OwnM.touch' aN P.2 oO
 have eX := OwnM.touch' bg P.2 oO
 have eY := ls_ (w1 := eK) bi (fun k hk hl => P.2.block k hl (by first | omega | (have := hk.1; omega)))
 have bj := P.1.1
 have eZ := bo_ eJ P.2 eJ.lt oO
 have e' := bo_ aK P.2 aK.lt oO
 have f0 := P.1.2
 have f1 := tt_ hT (tm_ P.2 hT.size)
 have c6 := skipE_ok ap
 rw [c6] at H
 obtain ⟨gt, fM⟩ := List.getElem?_eq_some_iff.1 c6
 obtain ⟨x0, fN⟩ : ∃ x0, x0 = fL := ⟨_, rfl⟩
 rw [← fN] at H fM c6 ⊢
 generalize skipAt false l t = s at *
 refine WL.Z rfl <| W.b <| W.cutBQ 11 (decide ((x0.toNat : Int) = 62 ∧ (l.length : Int) ≤ (s : Int) + 1)) ?_ (fun fO a2 => ?_)
 refine W.regQ mixed kR <| WQ.p (.mv rfl) rfl <| WQ.p (.eql rfl rfl) rfl <| WQ.p (.mv rfl) rfl <| WQ.gd rfl rfl rfl (fun i => ?_) (fun i => ?_)
 have f2 := dT i
 refine WQ.p (.mv rfl) rfl <| WQ.gy rfl rfl rfl i <| WQ.p (.nck rfl) rfl <| WQ.gy rfl rfl rfl i <| WQ.p (.fa u112_ rfl s3_ dD rfl) rfl <| WQ.gy rfl rfl rfl i <| WQ.r (fun m => Rd.ld (g3_ _) rfl bj rfl) rfl <| WQ.gy rfl rfl rfl i <| WQ.p (.iis ((s : Int) + 1) (.add rfl rfl (i64w oO)) oO) rfl <| WQ.gy rfl rfl rfl i <| WQ.p (.mv rfl) rfl <| WQ.gy rfl rfl rfl i <| WQ.p (.nck rfl) rfl <| WQ.gy rfl rfl rfl i <| WQ.p (.fa u112_ rfl s22_ dD rfl) rfl <| WQ.gy rfl rfl rfl i <| WQ.r (fun m => Rd.ld (g22_ _) rfl bj rfl) rfl <| WQ.gy rfl rfl rfl i <| WQ.p (.lenS u22_ rfl) rfl <| WQ.gy rfl rfl rfl i <| WQ.p (.geq rfl rfl) rfl <| WQ.p (.pkT rfl i rfl) rfl <| WQ.p (.as rfl) rfl <| WQ.nil (fun gv f3 => ?_)
 exact ⟨leE (lk_b rfl (by (apply Bool.eq_iff_iff.2; (try simp) <;> omega))), f3⟩
 have f2 := dF i
 refine WQ.gn rfl rfl rfl i <| WQ.gn rfl rfl rfl i <| WQ.gn rfl rfl rfl i <| WQ.gn rfl rfl rfl i <| WQ.gn rfl rfl rfl i <| WQ.gn rfl rfl rfl i <| WQ.gn rfl rfl rfl i <| WQ.gn rfl rfl rfl i <| WQ.gn rfl rfl rfl i <| WQ.gn rfl rfl rfl i <| WQ.p (.pkF rfl i rfl) rfl <| WQ.p (.as rfl) rfl <| WQ.nil (fun gw f4 => ?_)
 exact ⟨leE (lk_b rfl (by (apply Bool.eq_iff_iff.2; (try simp) <;> omega))), f4⟩
 have f5 := OwnM.drew eW a2
 have f6 := OwnM.drew eX a2
 have f7 := ls_ (w1 := fO) eY (fun k hk hl => (by obtain ⟨m, rfl⟩ := a2; rfl))
 have bk := bj.drew a2
 have f8 := eZ.drew a2
 have f9 := e'.drew a2
 have bl := f0.drew a2
 have c7 := tt_ f1 (td_ a2)
 refine W.cond rfl (fun c8 => ?_) (fun c8 => ?_)
 have fb := dT c8
 refine W.reg <| WL.cp hB_ rfl ((plex_fail 24 _)) (fun gx fc => ?_)
 obtain rfl := fc
 exact pn_is (ee_ 24 (by rw [← hw, H]; (try simp only []); rw [if_pos ⟨u8_eq (d := 62) (show (x0.toNat : Int) = 62 by omega), by omega⟩]; rfl) c7)
 have fb := dF c8
 have a3 : ¬ (x0 = 62 ∧ l.length ≤ s + 1) := fun h => by (have h2 : (x0.toNat : Int) = 62 := by rw [h.1]; rfl); omega
 refine W.cutBQ 28 (decide ((x0.toNat : Int) = 62) && nextB l (s + 1) 62) ?_ (fun fP a4 => ?_)
 refine W.regQ mixed kR <| WQ.p (.mv rfl) rfl <| WQ.p (.eql rfl rfl) rfl <| WQ.p (.mv rfl) rfl <| WQ.gd rfl rfl rfl (fun a => ?_) (fun a => ?_)
 have fd := dT a
 refine WQ.p (.mv rfl) rfl <| WQ.gy rfl rfl rfl a <| WQ.p (.nck rfl) rfl <| WQ.gy rfl rfl rfl a <| WQ.p (.fa u112_ rfl s22_ dD rfl) rfl <| WQ.gy rfl rfl rfl a <| WQ.r (fun m => Rd.ld (g22_ _) rfl bk rfl) rfl <| WQ.gy rfl rfl rfl a <| WQ.p (.mv rfl) rfl <| WQ.gy rfl rfl rfl a <| WQ.p (.nck rfl) rfl <| WQ.gy rfl rfl rfl a <| WQ.p (.fa u112_ rfl s3_ dD rfl) rfl <| WQ.gy rfl rfl rfl a <| WQ.r (fun m => Rd.ld (g3_ _) rfl bk rfl) rfl <| WQ.gy rfl rfl rfl a <| WQ.p (.iis (((s + 1 : Nat) : Int)) (.add rfl rfl (i64w oO)) oO) rfl <| WQ.gy rfl rfl rfl a <| WQ.p (.ixb u22_ s5_ rfl rfl (bl.isp (by first | omega | exact nz_ _)) (s + 1) oO oO) rfl <| WQ.gy rfl rfl rfl a <| WQ.r (fun m => Rd.ldc (g5_ _) rfl ((bl.drewN m).cells (s + 1) oO)) rfl <| WQ.gy rfl rfl rfl a <| WQ.p (.eql rfl rfl) rfl <| WQ.p (.pkT rfl a rfl) rfl <| WQ.p (.as rfl) rfl <| WQ.nil (fun gz fe => ?_)
 exact ⟨leE (lk_b rfl (by first | (rw [show decide ((x0.toNat : Int) = 62) = false from decide_eq_false aS]; rfl) | (rw [show decide ((x0.toNat : Int) = 62) = true from decide_eq_true aS, Bool.true_and]; unfold nextB; rw [show decide (s + 1 < l.length) = true from decide_eq_true oO, Bool.true_and, getElem!_pos l (s + 1) oO]; rfl))), fe⟩
 have fd := dF a
 refine WQ.gn rfl rfl rfl a <| WQ.gn rfl rfl rfl a <| WQ.gn rfl rfl rfl a <| WQ.gn rfl rfl rfl a <| WQ.gn rfl rfl rfl a <| WQ.gn rfl rfl rfl a <| WQ.gn rfl rfl rfl a <| WQ.gn rfl rfl rfl a <| WQ.gn rfl rfl rfl a <| WQ.gn rfl rfl rfl a <| WQ.gn rfl rfl rfl a <| WQ.p (.pkF rfl a rfl) rfl <| WQ.p (.as rfl) rfl <| WQ.nil (fun gA ff => ?_)
 exact ⟨leE (lk_b rfl (by first | (rw [show decide ((x0.toNat : Int) = 62) = false from decide_eq_false aS]; rfl) | (rw [show decide ((x0.toNat : Int) = 62) = true from decide_eq_true aS, Bool.true_and]; unfold nextB; rw [show decide (s + 1 < l.length) = true from decide_eq_true oO, Bool.true_and, getElem!_pos l (s + 1) oO]; rfl))), ff⟩
 have c9 := OwnM.drew f5 a4
 have ca := OwnM.drew f6 a4
 have cb := ls_ (w1 := fP) f7 (fun k hk hl => (by obtain ⟨m, rfl⟩ := a4; rfl))
 have aO := bk.drew a4
 have cc := f8.drew a4
 have cd := f9.drew a4
 have cf := bl.drew a4
 have bm := tt_ c7 (td_ a4)
 refine W.cond rfl (fun fQ => ?_) (fun fQ => ?_)
 have bn : (x0.toNat : Int) = 62 ∧ nextB l (s + 1) 62 = true := by simp_all
 have gB := (nextB_t bn.2).1
 refine W.sr <| WL.M rfl <| WL.O (.nck rfl) <| WL.O (.fa u112_ rfl s3_ dD rfl) <| WL.R (Rd.ld (g3_ _) rfl aO rfl) <| WL.O (.iis (((s + 2 : Nat) : Int)) (.add rfl rfl (i64w oO)) oO) <| WL.O (.nck rfl) <| WL.O (.fa u112_ rfl s3_ dD rfl) <| WL.st s3_ rfl rfl rfl aO oD (fun eL aP G g3 => ?_)
 have aP : Blk eL r _ _ := aP
 have G : Upd r _ _ := G
 have fg := OwnM.touch c9 G oM
 have fh := OwnM.touch ca G oM
 have fi := ls_ (w1 := eL) cb (fun k hk hl => G.other k (by first | ((try simp only) <;> omega) | (have := hk.1; ((try simp only) <;> omega))))
 have fj := cc.up G
 have fk := cd.up G
 have fl := BytesAt.upd cf G hne
 have fm := tt_ bm (Touch.of_upd G)
 refine WL.e <| W.sr <| WL.R (Rd.ldA rfl fk u99_ rfl isz99) <| WL.stL rfl rfl fj isz99 rfl rfl (fun fR cL ab g4 => ?_)
 have cg := OwnM.touch fg ab oM
 have bv := OwnM.touch fh ab oM
 have cM := ls_ (w1 := fR) fi (fun k hk hl => ab.other k (by first | ((try simp only) <;> omega) | (have := hk.1; ((try simp only) <;> omega))))
 have cN := aP.up ab
 have cO := bup fl ab c2
 have cP := tt_ fm (tn_ ab oO)
 refine WL.e <| W.ret (W.retc1 rfl rfl (ldRow cL u99_ rfl isz99)  ?_)
 exact eo_ (.mk 7 0 [] ks acc, s + 2) _ (by rw [← hw, H]; (try simp only []); rw [if_neg a3, if_pos ⟨u8_eq (d := 62) bn.1, nextB_62 bn.2⟩]; rfl) rfl ⟨⟨7, 0, [], pk, ks.length, ck, pl, cs.length, cl⟩, rfl, PRep.ofRow ⟨(cg).base (fun g hg => nl_ _), fun g hg => by have := (cg).lt g hg; omega⟩ ⟨(bv).base (fun g hg => nl_ _), fun g hg => by have := (bv).lt g hg; omega⟩ ((cM).mono (fun k hk _ => by have := hk.1; omega)), ⟨cN, cO⟩, cP⟩
 have ad : ¬ (x0 = 62 ∧ l[s + 1]? = some 62) := fun h => by (have h2 : (x0.toNat : Int) = 62 := by rw [h.1]; rfl); (have h3 := nextB_not62 (l := l) (t := s + 1) (by simp_all)); exact h3 h.2
 refine W.sr <| WL.M rfl <| WL.O (.neq rfl rfl) <| WL.Z rfl <| W.cond rfl (fun bo => ?_) (fun bo => ?_)
 have cQ := ndT bo
 refine W.reg <| WL.cp hB_ rfl ((plex_fail 23 _)) (fun g9 cR => ?_)
 obtain rfl := cR
 exact pn_is (ee_ 23 (by rw [← hw, H]; (try simp only []); rw [if_neg a3, if_neg ad, if_pos (u8_ne (d := 47) aS)]; rfl) bm)
 have cQ := ndF bo
 have ag : x0 = 47 := u8_eq (d := 47) aS
 refine W.k <| W.sr <| WL.M rfl <| WL.O (.nck rfl) <| WL.O (.fa u112_ rfl s3_ dD rfl) <| WL.R (Rd.ld (g3_ _) rfl aO rfl) <| WL.O (.iis (((s + 1 : Nat) : Int)) (.add rfl rfl (i64w oO)) oO) <| WL.O (.nck rfl) <| WL.O (.fa u112_ rfl s3_ dD rfl) <| WL.st s3_ rfl rfl rfl aO oD (fun ci az j fS => ?_)
 have az : Blk ci r _ _ := az
 have j : Upd r _ _ := j
 have cS := OwnM.touch c9 j oM
 have cT := OwnM.touch ca j oM
 have cU := ls_ (w1 := ci) cb (fun k hk hl => j.other k (by first | ((try simp only) <;> omega) | (have := hk.1; ((try simp only) <;> omega))))
 have bw := cc.up j
 have bx := cd.up j
 have cV := BytesAt.upd cf j hne
 have aq := tt_ bm (Touch.of_upd j)
 refine WL.e <| W.sr <| WL.M rfl <| WL.ce hB_ rfl rfl ((plex_name r p l c (s + 1) refs _ ⟨az, cV⟩ hne hc hl oO)) (fun fn cj aA y => ?_) (fun fo cj aA y => ?_)
 have bS := tt_ aq (tm_ y aq.size)
 exact pn_is (ee_ fn (by rw [← hw, H]; (try simp only []); rw [if_neg a3, if_neg ad, if_neg (by rw [ag]; simp), aA]; rfl) bS)
 have bz := OwnM.touch' cS y.2 oO
 have cW := OwnM.touch' cT y.2 oO
 have cX := ls_ (w1 := cj) cU (fun k hk hl => y.2.block k hl (by first | omega | (have := hk.1; omega)))
 have bA := y.1.1
 have bB := bo_ bw y.2 bw.lt oO
 have ah := bo_ bx y.2 bx.lt oO
 have bC := y.1.2
 have ar := tt_ aq (tm_ y.2 aq.size)
 have ai := aA
 obtain ⟨kX, t1⟩ := fo
 have eM := nameP_le oO ai
 simp only [] at *
 refine WL.Z rfl <| W.seq <| W.sr <| WL.O (.fa u99_ rfl sizeOf23 dD rfl) <| WL.R (Rd.ld (isAgg23 _) rfl ah rfl) <| WL.M rfl <| WL.c1 hB_ rfl rfl ((lib_hasS pk ks ck kX _ ((bz).rowp.strs) oO)) (fun ga cY => ?_)
 obtain rfl := cY
 refine WL.e <| W.cond rfl (fun fp => ?_) (fun fp => ?_)
 refine W.reg <| WL.cp hB_ rfl ((plex_fail 23 _)) (fun gb cZ => ?_)
 obtain rfl := cZ
 exact pn_is (ee_ 23 (by rw [← hw, H]; (try simp only []); rw [if_neg a3, if_neg ad, if_neg (by rw [ag]; simp), ai]; (try simp only []); rw [if_pos (dT aS)]; rfl) ar)
 refine W.k <| W.seq <| W.sr <| WL.O (.fa u99_ rfl s72_ dD rfl) <| WL.R (Rd.ld (g72_ _) rfl ah rfl) <| WL.O (.lenS u72_ rfl) <| WL.O (.geq rfl rfl) <| WL.e <| W.cond rfl (fun bp => ?_) (fun bp => ?_)
 have c' := dT bp
 refine W.reg <| WL.cp hB_ rfl ((plex_fail 25 _)) (fun gc d0 => ?_)
 obtain rfl := d0
 exact pn_is (ee_ 25 (by rw [← hw, H]; (try simp only []); rw [if_neg a3, if_neg ad, if_neg (by rw [ag]; simp), ai]; (try simp only []); rw [if_neg (dF aS), if_pos oO]; rfl) ar)
 have c' := dF bp
 refine W.k <| W.sr <| WL.O (.fa u99_ rfl sizeOf23 dD rfl) <| WL.R (Rd.ld (isAgg23 _) rfl ah rfl) <| WL.M rfl <| WL.bsl (ps := _) u23_ s9_ zeroValue9 rfl rfl rfl rfl rfl pR rfl (fun ge d1 U cm B fT => ?_)
 have d2 := on_ bz U B
 have aQ := on_ cW U B
 have d3 := ls_ (w1 := d1) cX (fun k hk hl => B.other k oO)
 have d4 := bgl U bA.lt
 have d5 := bA.un B d4
 have d6 := bgl U bB.lt
 have d7 := bB.un B d6
 have d8 := bgl U ah.lt
 have bD := ah.un B d8
 have cn := fun h0 => U ▸ bC.lt h0
 have d9 := bup bC B cn
 have bT := bge U ar.size
 have da := tt_ ar (tn_ B bT)
 have fU := RowM.lit (V := strL) (l := [kX]) cm (rfl)
 have fV := (aQ).lt
 refine WL.appM u23_ inf9 rfl rfl rfl d2 rfl fU (by simp only [List.length_cons, List.length_nil]; omega) ((bD).lt) rfl (fun h => nomatch h) (fun aR gf b0 a5 b2 b3 => ?_)
 have db := d5.below a5 oO
 have dc := d7.below a5 oO
 have dd := bD.below a5 oO
 have de := LInv.grow (T := fun k => N < k ∧ (aR).ownBlock ≠ some k ∧ (Value.slice pl cs.length cl).ownBlock ≠ some k) d3 (fun k hk hl => b2.block k hl (fun e => hk.2.1 e.symm)) (fun k hk hl => ⟨hk.1, fun e => by rcases b3 k e with h | h; exact hk.2.1 h; omega, hk.2.2⟩)
 have df := OwnM.same aQ (fun g hg => b2.block g ((aQ).lt g hg).2 (fun hx => bh g hx.symm hg))
 have dg := bb_ d9 a5 bu
 have dh := tt_ da (tb_ (a5.mono oO))
 have ac : ∀ g, (aR).ownBlock = some g → (Value.slice pl cs.length cl).ownBlock ≠ some g := fun g hg => by rcases b3 g hg with h | h; exact bh g h; exact fun h2 => by have := fV g h2; omega
 obtain ⟨ae, rfl⟩ : ∃ ae, ae = aR := ⟨aR, rfl⟩
 refine WL.O (.fa u99_ rfl sizeOf23 dD rfl) <| WL.st sizeOf23 rfl rfl (b0).one dd oD (fun co aj n fW => ?_)
 have aj : Blk co N _ _ := aj
 have n : Upd N _ _ := n
 have di := OwnM.touch b0 n oM
 have dj := OwnM.touch df n oM
 have dk := ls_ (w1 := co) de (fun k hk hl => n.other k (by first | ((try simp only) <;> omega) | (have := hk.1; ((try simp only) <;> omega))))
 have dl := db.up n
 have bE := dc.up n
 have dm := bup dg n aa
 have au := tt_ dh (tn_ n oO)
 refine WL.e <| W.sr <| WL.M rfl <| WL.ce hB_ rfl rfl ((plex_skip r p l c t1 refs _ ⟨dl, dm⟩ hne hl eM.2)) (fun fq cq ak A => ?_) (fun gg cq ak A => ?_)
 have bU := tt_ au (tm_ A au.size)
 exact pn_is (ee_ fq (by rw [← hw, H]; (try simp only []); rw [if_neg a3, if_neg ad, if_neg (by rw [ag]; simp), ai]; (try simp only []); rw [if_neg (dF aS), if_neg oO, (skipE_err ak).1, (skipE_err ak).2]; rfl) bU)
 have dn := OwnM.touch' di A.2 oO
 have dp := OwnM.touch' dj A.2 oO
 have dq := ls_ (w1 := cq) dk (fun k hk hl => A.2.block k hl (by first | omega | (have := hk.1; omega)))
 have dr := A.1.1
 have ds := bo_ bE A.2 bE.lt oO
 have dt := bo_ aj A.2 aj.lt oO
 have du := A.1.2
 have dv := tt_ au (tm_ A.2 au.size)
 have an := skipE_ok ak
 obtain ⟨aT, -⟩ := List.getElem?_eq_some_iff.1 an
 have g5 := skipAt_ge l t1 eM.2
 refine WL.e <| W.regY 9 rfl mixed (fun fr J => ?_)
 have av := OwnM.drew dn J
 have aw := OwnM.drew dp J
 have bG := ls_ (w1 := fr) dq (fun k hk hl => (by obtain ⟨m, rfl⟩ := J; rfl))
 have bH := dr.drew J
 have ax := ds.drew J
 have X := dt.drew J
 have bI := du.drew J
 have K := tt_ dv (td_ J)
 refine WY.tk 0 rfl (.fa u99_ rfl s72_ dD rfl) rfl <| WY.tk 2 rfl (.mv rfl) rfl <| WY.tk 3 rfl (.mv rfl) rfl <| WY.br2 1 rfl 4 rfl ?_ ?_
 refine WL.R (Rd.ld (g72_ _) rfl X rfl) <| WL.e <| WY.br1 4 rfl <| WL.cx hB_ rfl rfl ((hO r _ _ ⟨bH, bI⟩ hne aT)) (fun fs cr aB aU => ?_) (fun ft gh cr aB aU => ?_)
 have bV := tt_ K (tm_ aU K.size)
 exact pn_is (ee_ fs (by rw [← hw, H]; (try simp only []); rw [if_neg a3, if_neg ad, if_neg (by rw [ag]; simp), ai]; (try simp only []); rw [if_neg (dF aS), if_neg oO, an]; (try simp only []); rw [aB]; rfl) bV)
 have aL := aB
 obtain ⟨oX, tX⟩ := ft
 obtain ⟨x1, rfl, ct, aC, Q⟩ := aU
 have bJ := hadv _ oX tX aT aL
 have bK := OwnM.touch' aw Q oO
 have bM := OwnM.touch' av Q oO
 have aV := ls_ (w1 := cr) bG (fun k hk hl => Q.block k hl (by have := hk.1; omega))
 have af := bo_ ax Q (ax).lt oO
 have a6 := bo_ X Q (X).lt oO
 have aD := tt_ K (tm_ Q K.size)
 have bq := ct.mono (T := fun k => N < k ∧ ae.ownBlock ≠ some k ∧ (Value.slice pl cs.length cl).ownBlock ≠ some k) (fun k hk _ => ⟨by have := (X).lt; omega, fun e => by have := ((av).lt k e).2; omega, fun e => by have := ((aw).lt k e).2; omega⟩)
 have ay := aV.push bq
 have aE := aC.1
 have aF := aC.2
 refine WL.e <| WY.br1 5 rfl <| WL.bslM (L := pcL) (ps := _) ([x1]) u72_ s99_ z99_ rfl rfl rfl rfl rfl (by first | rfl | decide) rfl rfl (fun fu bN Y cu C fX => ?_)
 have aW := on_ bM Y C
 have dw := on_ bK Y C
 have dx := ls_ (w1 := bN) ay (fun k hk hl => C.other k oO)
 have dy := bgl Y aE.lt
 have dz := aE.un C dy
 have dA := bgl Y af.lt
 have dB := af.un C dA
 have dC := bgl Y a6.lt
 have bO := a6.un C dC
 have cv := fun h0 => Y ▸ aF.lt h0
 have dE := bup aF C cv
 have bW := bge Y aD.size
 have dG := tt_ aD (tn_ C bW)
 have fz : fu ≤ bN.heap.size := by omega
 refine WL.e <| WY.br1 6 rfl ?_
 have b4 := (aW).lt
 refine WL.appM u72_ inf99 rfl rfl rfl dw rfl (cu).rowp (by simp only [List.length_cons, List.length_nil]; omega) ((bO).lt) rfl (fun h => nomatch h) (fun cw gi b5 a7 b6 b8 => ?_)
 have dH := dz.below a7 oO
 have dI := dB.below a7 oO
 have dJ := bO.below a7 oO
 have dK := LInv.grow (T := fun k => N < k ∧ ae.ownBlock ≠ some k ∧ (cw).ownBlock ≠ some k) dx (fun k hk hl => b6.block k hl (fun e => hk.2.2 e.symm)) (fun k hk hl => ⟨hk.1, hk.2.1, fun e => by rcases b8 k e with h | h; exact hk.2.2 h; omega⟩)
 have dL := OwnM.same aW (fun g hg => b6.block g ((aW).lt g hg).2 (fun hx => ac g hg hx.symm))
 have dM := bb_ dE a7 bu
 have dN := tt_ dG (tb_ (a7.mono oO))
 have am : ∀ g, ae.ownBlock = some g → (cw).ownBlock ≠ some g := fun g hg h2 => by rcases b8 g h2 with h | h; exact ac g hg h; have := b4 g hg; omega
 refine WL.e <| WY.tk 7 rfl (.fa u99_ rfl s72_ dD rfl) rfl <| WY.br1 8 rfl <| WL.st s72_ rfl rfl (b5).one dJ oD (fun cy aG q fY => ?_)
 have aG : Blk cy N _ _ := aG
 have q : Upd N _ _ := q
 have dO := OwnM.touch dL q oM
 have dP := OwnM.touch b5 q oM
 have dQ := ls_ (w1 := cy) dK (fun k hk hl => q.other k (by first | ((try simp only) <;> omega) | (have := hk.1; ((try simp only) <;> omega))))
 have dR := dH.up q
 have dS := dI.up q
 have dU := bup dM q aa
 have dV := tt_ dN (tn_ q oO)
 refine WL.e <| WY.done kR ?_
 exact ⟨(_, _, ks ++ [kX], cs ++ [x1], acc ++ [oX], tX, f - 1), ⟨rfl, rfl, rfl, rfl, tT⟩, ⟨⟨dR, dU⟩, dV, dS, aG, dO, dP, am, dQ, by rw [← hw, H]; (try simp only []); rw [if_neg a3, if_neg ad, if_neg (by rw [ag]; simp), ai]; (try simp only []); rw [if_neg (dF aS), if_neg oO, an]; (try simp only []); rw [aL], by ((try simp only) <;> omega), bJ.2, by simp only [List.length_append, List.length_cons, List.length_nil]; omega, by simp only [List.length_append, List.length_cons, List.length_nil]; omega⟩, by ((try simp only) <;> omega)⟩
 refine WL.cx hB_ rfl rfl ((hO r _ _ ⟨bH, bI⟩ hne aT)) (fun fv cz aH aX => ?_) (fun fw gj cz aH aX => ?_)
 have bX := tt_ K (tm_ aX K.size)
 exact pn_is (ee_ fv (by rw [← hw, H]; (try simp only []); rw [if_neg a3, if_neg ad, if_neg (by rw [ag]; simp), ai]; (try simp only []); rw [if_neg (dF aS), if_neg oO, an]; (try simp only []); rw [aH]; rfl) bX)
 have aL := aH
 obtain ⟨oX, tX⟩ := fw
 obtain ⟨x1, rfl, ct, aC, Q⟩ := aX
 have bJ := hadv _ oX tX aT aL
 have bK := OwnM.touch' aw Q oO
 have bM := OwnM.touch' av Q oO
 have aV := ls_ (w1 := cz) bG (fun k hk hl => Q.block k hl (by have := hk.1; omega))
 have af := bo_ ax Q (ax).lt oO
 have a6 := bo_ X Q (X).lt oO
 have aD := tt_ K (tm_ Q K.size)
 have bq := ct.mono (T := fun k => N < k ∧ ae.ownBlock ≠ some k ∧ (Value.slice pl cs.length cl).ownBlock ≠ some k) (fun k hk _ => ⟨by have := (X).lt; omega, fun e => by have := ((av).lt k e).2; omega, fun e => by have := ((aw).lt k e).2; omega⟩)
 have ay := aV.push bq
 have aE := aC.1
 have aF := aC.2
 refine WL.e <| WY.br2 1 rfl 5 rfl ?_ ?_
 refine WL.R (Rd.ld (g72_ _) rfl a6 rfl) <| WL.e <| WY.br1 5 rfl <| WL.bslM (L := pcL) (ps := _) ([x1]) u72_ s99_ z99_ rfl rfl rfl rfl rfl (by first | rfl | decide) rfl rfl (fun fx bP a0 cA E fZ => ?_)
 have aY := on_ bM a0 E
 have dW := on_ bK a0 E
 have dX := ls_ (w1 := bP) ay (fun k hk hl => E.other k oO)
 have dY := bgl a0 aE.lt
 have dZ := aE.un E dY
 have d' := bgl a0 af.lt
 have e0 := af.un E d'
 have e1 := bgl a0 a6.lt
 have bQ := a6.un E e1
 have cB := fun h0 => a0 ▸ aF.lt h0
 have e2 := bup aF E cB
 have bY := bge a0 aD.size
 have e3 := tt_ aD (tn_ E bY)
 have fA : fx ≤ bP.heap.size := by omega
 refine WL.e <| WY.br1 6 rfl ?_
 have b4 := (aY).lt
 refine WL.appM u72_ inf99 rfl rfl rfl dW rfl (cA).rowp (by simp only [List.length_cons, List.length_nil]; omega) ((bQ).lt) rfl (fun h => nomatch h) (fun cC gk b9 a8 ba bb => ?_)
 have e4 := dZ.below a8 oO
 have e5 := e0.below a8 oO
 have e6 := bQ.below a8 oO
 have e7 := LInv.grow (T := fun k => N < k ∧ ae.ownBlock ≠ some k ∧ (cC).ownBlock ≠ some k) dX (fun k hk hl => ba.block k hl (fun e => hk.2.2 e.symm)) (fun k hk hl => ⟨hk.1, hk.2.1, fun e => by rcases bb k e with h | h; exact hk.2.2 h; omega⟩)
 have e8 := OwnM.same aY (fun g hg => ba.block g ((aY).lt g hg).2 (fun hx => ac g hg hx.symm))
 have e9 := bb_ e2 a8 bu
 have ea := tt_ e3 (tb_ (a8.mono oO))
 have am : ∀ g, ae.ownBlock = some g → (cC).ownBlock ≠ some g := fun g hg h2 => by rcases bb g h2 with h | h; exact ac g hg h; have := b4 g hg; omega
 refine WL.e <| WY.tk 7 rfl (.fa u99_ rfl s72_ dD rfl) rfl <| WY.br1 8 rfl <| WL.st s72_ rfl rfl (b9).one e6 oD (fun cD aI u f' => ?_)
 have aI : Blk cD N _ _ := aI
 have u : Upd N _ _ := u
 have eb := OwnM.touch e8 u oM
 have ec := OwnM.touch b9 u oM
 have ed := ls_ (w1 := cD) e7 (fun k hk hl => u.other k (by first | ((try simp only) <;> omega) | (have := hk.1; ((try simp only) <;> omega))))
 have ee := e4.up u
 have ef := e5.up u
 have eg := bup e9 u aa
 have eh := tt_ ea (tn_ u oO)
 refine WL.e <| WY.done kR ?_
 exact ⟨(_, _, ks ++ [kX], cs ++ [x1], acc ++ [oX], tX, f - 1), ⟨rfl, rfl, rfl, rfl, tT⟩, ⟨⟨ee, eg⟩, eh, ef, aI, eb, ec, am, ed, by rw [← hw, H]; (try simp only []); rw [if_neg a3, if_neg ad, if_neg (by rw [ag]; simp), ai]; (try simp only []); rw [if_neg (dF aS), if_neg oO, an]; (try simp only []); rw [aL], by ((try simp only) <;> omega), bJ.2, by simp only [List.length_append, List.length_cons, List.length_nil]; omega, by simp only [List.length_append, List.length_cons, List.length_nil]; omega⟩, by ((try simp only) <;> omega)⟩
 refine WL.bslM (L := pcL) (ps := _) ([x1]) u72_ s99_ z99_ rfl rfl rfl rfl rfl (by first | rfl | decide) rfl rfl (fun fy bR a1 cE F g0 => ?_)
 have aZ := on_ bM a1 F
 have ei := on_ bK a1 F
 have ej := ls_ (w1 := bR) ay (fun k hk hl => F.other k oO)
 have ek := bgl a1 aE.lt
 have el := aE.un F ek
 have em := bgl a1 af.lt
 have en := af.un F em
 have eo := bgl a1 a6.lt
 have a' := a6.un F eo
 have cF := fun h0 => a1 ▸ aF.lt h0
 have ep := bup aF F cF
 have bZ := bge a1 aD.size
 have eq := tt_ aD (tn_ F bZ)
 have fB : fy ≤ bR.heap.size := by omega
 refine WL.e <| WY.br1 1 rfl <| WL.R (Rd.ld (g72_ _) rfl a' rfl) <| WL.e <| WY.br1 6 rfl ?_
 have b4 := (aZ).lt
 refine WL.appM u72_ inf99 rfl rfl rfl ei rfl (cE).rowp (by simp only [List.length_cons, List.length_nil]; omega) ((a').lt) rfl (fun h => nomatch h) (fun cG gl bc a9 bd be => ?_)
 have er := el.below a9 oO
 have es := en.below a9 oO
 have et := a'.below a9 oO
 have eu := LInv.grow (T := fun k => N < k ∧ ae.ownBlock ≠ some k ∧ (cG).ownBlock ≠ some k) ej (fun k hk hl => bd.block k hl (fun e => hk.2.2 e.symm)) (fun k hk hl => ⟨hk.1, hk.2.1, fun e => by rcases be k e with h | h; exact hk.2.2 h; omega⟩)
 have ev := OwnM.same aZ (fun g hg => bd.block g ((aZ).lt g hg).2 (fun hx => ac g hg hx.symm))
 have ew := bb_ ep a9 bu
 have ex := tt_ eq (tb_ (a9.mono oO))
 have am : ∀ g, ae.ownBlock = some g → (cG).ownBlock ≠ some g := fun g hg h2 => by rcases be g h2 with h | h; exact ac g hg h; have := b4 g hg; omega
 refine WL.e <| WY.tk 7 rfl (.fa u99_ rfl s72_ dD rfl) rfl <| WY.br1 8 rfl <| WL.st s72_ rfl rfl (bc).one et oD (fun cH aJ x g1 => ?_)
 have aJ : Blk cH N _ _ := aJ
 have x : Upd N _ _ := x
 have ey := OwnM.touch ev x oM
 have ez := OwnM.touch bc x oM
 have eA := ls_ (w1 := cH) eu (fun k hk hl => x.other k (by first | ((try simp only) <;> omega) | (have := hk.1; ((try simp only) <;> omega))))
 have eB := er.up x
 have eC := es.up x
 have eD := bup ew x aa
 have eF := tt_ ex (tn_ x oO)
 refine WL.e <| WY.done kR ?_
 exact ⟨(_, _, ks ++ [kX], cs ++ [x1], acc ++ [oX], tX, f - 1), ⟨rfl, rfl, rfl, rfl, tT⟩, ⟨⟨eB, eD⟩, eF, eC, aJ, ey, ez, am, eA, by rw [← hw, H]; (try simp only []); rw [if_neg a3, if_neg ad, if_neg (by rw [ag]; simp), ai]; (try simp only []); rw [if_neg (dF aS), if_neg oO, an]; (try simp only []); rw [aL], by ((try simp only) <;> omega), bJ.2, by simp only [List.length_append, List.length_cons, List.length_nil]; omega, by simp only [List.length_append, List.length_cons, List.length_nil]; omega⟩, by ((try simp only) <;> omega)⟩
end
end Go.Proofs.YthmhfjeojkbpfaaGreatDoor
