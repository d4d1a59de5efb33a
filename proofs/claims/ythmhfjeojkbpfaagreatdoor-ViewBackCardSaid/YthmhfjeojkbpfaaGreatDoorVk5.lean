/-
  What the claim leans on, part 5: pruned and joined by my own tool out of the texts that stand in wip/ as templates.
-/
import Derived.Test.YthmhfjeojkbpfaaGreatDoorVk4
set_option maxHeartbeats 6400000
set_option maxRecDepth 100000
namespace Go.Proofs.YthmhfjeojkbpfaaGreatDoor
open Go.RowKit
open Go.Proofs.Tryz
variable {aft:Array Edge} {ops:Array Oper} {ats:Array TypeId} {refs:Bool} {R:Ending->World->Prop} {f:Fr} {fill last:Int} {sum:Int->List UInt8->Int} {ns:List Int} {A s:List UInt8} {vs xs:List Value} {B N bp bv by' c d g i id m t t1:Nat} {F1 T Z:Nat->Prop} {x y:Operand} {p q:Option Addr} {P:Program} {pos:String} {α β:Type} {E e ta tb tx:TypeId} {v v' v1 vp z:Value} {w w1 w2:World} {S':World->Prop}
section
def K5 (N:Nat) (Q:World->Prop) (w:World):Prop:=∃ w0:World,w0.heap.size=N/\Q w0/\∀ k,k<N->w.heap[k]?=w0.heap[k]?
theorem K5.of {Q:World->Prop} (h:Q w):K5 w.heap.size Q w:=⟨w,rfl,h,λ_ _=>rfl⟩
theorem K5.same {N:Nat} {Q:World->Prop} {w w1:World} (h:K5 N Q w) (hb:∀ k,k<N->k<w.heap.size->w1.heap[k]?=w.heap[k]?):K5 N Q w1:=by
 obtain ⟨e,b,f,c⟩:=h
 refine ⟨e,b,f,λk hk=>(hb k hk ?_).trans (c k hk)⟩
 rcases BU k w.heap.size with a | a
 · exact a
 ·
  have d:=c k hk
  rw [Dw a,Gb (b▸hk)] at d
  cases d
abbrev Hn:=@K5.same
theorem K5.size  {Q:World->Prop} (h:K5 N Q w):N<=w.heap.size:=by
  obtain ⟨a,rfl,e,c⟩:=h
  rcases Ho a.heap.size with d | d
  · omega
  · have b := c (a.heap.size - 1) oO
    rw [Gb (by omega:a.heap.size-1<a.heap.size)] at b
    have:=(Bs.1 b).1
    omega
theorem Du  {m:Int} {P:CP} (h:K5 N (λw=>CG B w bp m P v) w):CG B w bp m P v:=by
 have hs:=h.size
 obtain ⟨c,rfl,a,b⟩:=h
 exact ⟨(b _ a.blk.lt).trans a.blk,a.own.same λg hg=>b g (a.own.lt g hg).2,a.len,AW a.base hs⟩
def U9:CP->List BQ->Except Int CP
 | P,[]=>.ok P
 | P,a::r=>D6 (Fa 4096 P a)>>=λQ=>U9 Q r
theorem HE {m:M6}:∀ {k:Nat} {l:List Int} {q:List BQ},l.length=2 * k->Dy m l=.ok q->q.length=k
 | 0,l,q,hl,h=>by
  obtain rfl:=Cz hl
  cases h;rfl
 | k+1,[],q,hl,h=>by simp at hl
 | k+1,[x],q,hl,h=>by simp at hl;omega
 | k+1,x::y::r,q,hl,h=>by
  have h:(Nl m x y>>=λp=>Dy m r>>=λq=>pure (p::q))=.ok q:=h
  obtain ⟨p,-,h⟩:=BZ h
  obtain ⟨q1,h2,h⟩:=BZ h
  obtain rfl:=ET h
  have:=HE (k:=k) (by simp at hl;omega) h2
  simp [this]
def V6 (c:M6) (P:CP) (args:List PV):Except Int CP :=
 Dg args 4>>=λn=>IO (n.getD 0 0) (n.getD 2 0)>>=λx=>IO (n.getD 1 0) (n.getD 3 0)>>=λy =>
  Dy c [n.getD 0 0,n.getD 1 0,x,n.getD 1 0,x,y,n.getD 0 0,y]>>=λl=>D6 (GC 4096 P (l.getD 0 Fv))>>=λp0=>U9 p0 (l.drop 1)>>=λp3=>D6 (Ge 4096 p3)
theorem Vm {a b k:Int} (h:IO a b=.error k):k=22:=by
 unfold IO at h;split at h
 · cases h
 · cases h;rfl
theorem A0K  {γ:Type} {x:Except Int α} {y:Except Int β} {f:α->β->Except Int γ} {k:Int} (h:y=.error k) (hx:∀ j,x=.error j->j=k):(x>>=λa=>y>>=λb=>f a b)=.error k:=by
 cases hx0:x with
 | error j=>rw [hx j hx0];rfl
 | ok a=>rw [h];rfl
theorem Gy {r:CP × Int} {u:Unit} (h:Qo r.2=.ok u):D6 r=.ok r.1:=by rw [Ym,h];rfl
theorem G6 {r:CP × Int} {k:Int} (h:Qo r.2=.error k):D6 r=.error k:=by rw [Ym,h];rfl
abbrev A8Q (B:Nat) (bp:Nat) (vp:Value) (w:World) (res:Except Int CP):Ending->World->Prop :=
 Hk 30 res (λP1 v w'=>v=.tuple #[]/\AB w.heap.size [bp,vb vp bp] w w'/\∃ v1,CG B w' bp 4096 P1 v1/\FK w vp v1) (λw'=>Below B w w')
theorem CG.ctm  {P:CP} (h:CG B w bp 4096 P v) (hB:B<=bp) (hK:AB w.heap.size [bp,vb v bp] w w1):Below B w w1:=hK.below h.base (λk hk=>by
 simp only [Ar,AA,C8] at hk
 rcases hk with rfl | rfl
 · exact hB
 ·
  rcases Yc v bp with h1 | h1
  · rw [h1];exact hB
  · exact (h.own.lt _ h1).1)
theorem A0Y  {b:Nat} (h:∀ g,v1.ownBlock=some g->v.ownBlock=some g\/N<=g):vb v1 b=b\/vb v1 b=vb v b\/N<=vb v1 b:=by
 rcases Yc v1 b with a | a
 · exact .inl a
 ·
  rcases h _ a with c | c
  · exact .inr (.inl (FR c).symm)
  · exact .inr (.inr c)
theorem Ye  {P:CP} {b:Nat} {cs:Array Value} (hP:CG B w1 bp 4096 P v) (hb:AF w1 b cs 74):b≠bp/\b≠vb v bp:=by
 refine ⟨λe=>?_,λe=>?_⟩
 ·
  have c:=hb.ty;have a:=hP.blk.ty
  rw [e] at c
  exact CM (c.uniq a) dD
 ·
  obtain ⟨t,ht,a⟩:=hP.own.tyv hP.blk.ty
  rw [<- e] at a
  have:=hb.ty.uniq a
  subst this
  exact CM ht dD
theorem Vt  {a:Nat} (h:p=some (pA p)):(pA (Gd m p c a)).block=(pA p).block:=by
 unfold Gd
 split
 · rfl
 · rw [h];exact Fg _ _
section
variable {B:Nat} {fs:PZ} {w:World} {bv:Nat} {F:Nat->Prop} {V:Vw} {args:List PV}
theorem TH {H:PW} (h:FO B fs w bv F V args) (ha:args.length<=32) (hbk:AF w bv (Fh H).toArray 74) (hP:CG B w H.path 4096 V.path vp) (hc:H.s.ctm=V.s.ctm) (hlb:B<=H.path) :
  Calls Tryz.prog 83 #[.pointer (some ⟨bv,0,none⟩)] w (A8Q B H.path vp w (V6 V.s.ctm V.path args)):=by
 have bC:=Hy.of h
 obtain ⟨s,fo,sa,pa,aG,it,lo,te,li,ar,itv⟩:=H
 simp only at hP hc hlb ⊢
 have cd:=hP.blk.lt
 have cH:=hbk.lt
 have cP:=NA hP.own cd
 obtain ⟨cQ,cR⟩:=Ye hP hbk
 have a6:=λw1=>hP.ctm (w1:=w1) hlb
 obtain ⟨R,hD⟩:∃ R,V6 V.s.ctm V.path args=R:=⟨_,rfl⟩
 rw [hD]
 unfold V6 at hD
 have bD:=K5.of (Q:=λw=>CG B w pa 4096 V.path vp) hP
 refine W.e func83 rfl ntmps83 bL ?_
 have bp:=AB.refl w.heap.size ([pa,vb vp pa]) w
 refine A4<|A2 rfl<|WL.cx AN rfl rfl ((F7 4 (bC).get ha oO)) (λk3 w1 ac aa=>?_) (λa2 x4 w1 ac aa=>?_)
 have bg:=kB bp aa
 exact Aw (Dq k3 (by rw [<- hD,Ax ac]) (a6 _ bg))
 have cf:=Hn (w1:=w1) bD (λk hk hl=>aa.1.block k hl)
 have cg:=hbk.bl aa.1
 have ci:=kB bp aa.1
 obtain ⟨nl,rfl⟩:∃ l,l=a2:=⟨_,rfl⟩
 obtain ⟨pn,cn,evn,cj,cS,-⟩:=aa.2.row
 subst evn
 have aA:=(Fl ac).1
 have bq:=cj.ofI
 have cT:=bq.lt
 rw [AG ac,Tm aA dD,Tm aA dD,Tm aA dD,Tm aA dD] at hD
 refine A9 rfl<|D4 (α:=Int × Int) (λt=>[(0,.pointer (some ⟨bv,0,none⟩)),(2,.slice pn nl.length cn),(3,.int .i64 t.1),(4,.int .i64 t.2)]) (λt w'=>AB w.heap.size [pa,vb vp pa] w w'/\AF w' bv (Fh ⟨s,fo,sa,pa,aG,it,lo,te,li,ar,itv⟩).toArray 74/\AS DW w' pn nl/\K5 w.heap.size (λw=>CG B w pa 4096 V.path vp) w'/\IO nl[0] nl[2]=.ok t.1/\IO nl[1] nl[3]=.ok t.2) ?_ (λt w1 hR=>?_)
 refine Dr 16 rfl C7 (λw'=>AS DW w' pn nl/\True) (λw9 aB=>?_)
 have bE:=Hn (w1:=w9) cf (λk hk hl=>(by obtain ⟨m,rfl⟩:=aB;rfl))
 have bG:=cg.drew aB
 have f:=bq.drew aB
 have aH:=DA ci (Q8 aB)
 refine Af 0 rfl (.mv rfl) ⟨f,tT⟩ rfl ?_
 refine Af 1 rfl (.ixb Dh B5 rfl rfl (f.isp oD) (0) (rfl) oO) ⟨f,tT⟩ rfl ?_
 refine BY 2 rfl (λw' hw'=>AO (Bw _) rfl ((hw'.1).cells (0) oO)) ⟨f,tT⟩ rfl ?_
 refine Af 3 rfl (.mv rfl) ⟨f,tT⟩ rfl ?_
 refine Af 4 rfl (.ixb Dh B5 rfl rfl (f.isp oD) (2) (rfl) oO) ⟨f,tT⟩ rfl ?_
 refine BY 5 rfl (λw' hw'=>AO (Bw _) rfl ((hw'.1).cells (2) oO)) ⟨f,tT⟩ rfl ?_
 refine Af 7 rfl (.mv rfl) ⟨f,tT⟩ rfl ?_
 refine Af 8 rfl (.ixb Dh B5 rfl rfl (f.isp oD) (1) (rfl) oO) ⟨f,tT⟩ rfl ?_
 refine BY 9 rfl (λw' hw'=>AO (Bw _) rfl ((hw'.1).cells (1) oO)) ⟨f,tT⟩ rfl ?_
 refine Af 10 rfl (.mv rfl) ⟨f,tT⟩ rfl ?_
 refine Af 11 rfl (.ixb Dh B5 rfl rfl (f.isp oD) (3) (rfl) oO) ⟨f,tT⟩ rfl ?_
 refine BY 12 rfl (λw' hw'=>AO (Bw _) rfl ((hw'.1).cells (3) oO)) ⟨f,tT⟩ rfl ?_
 refine An 6 rfl<|Bk AN rfl rfl ((Yb _ _ _)) (λck bt ad T=>?_) (λcU bt ad T=>?_)
 have aI:=kB aH T
 exact Aw (Dq ck (by rw [<- hD];exact Ax ad) (a6 _ aI))
 have bH:=Hn (w1:=bt) bE (λk hk hl=>T.block k hl)
 have bI:=bG.bl T
 have aj:=AS.below f T (λo=>f.lt o)
 have aJ:=kB aH T
 have bJ:=ad
 refine WL.e<|⟨⟨aj,tT⟩,?_⟩
 refine An 13 rfl<|Bk AN rfl rfl ((Yb _ _ _)) (λcm bu a0 U=>?_) (λcV bu a0 U=>?_)
 have aK:=kB aJ U
 exact Aw (Dq cm (by rw [<- hD];exact A0K a0 (λj hj=>(Vm hj).trans (Vm a0).symm)) (a6 _ aK))
 have bK:=Hn (w1:=bu) bH (λk hk hl=>U.block k hl)
 have bM:=bI.bl U
 have ae:=AS.below aj U (λo=>aj.lt o)
 have bN:=kB aJ U
 have bO:=a0
 refine WL.e<|⟨⟨ae,tT⟩,?_⟩
 refine Af 14 rfl (.as rfl) ⟨ae,tT⟩ rfl ?_
 refine Af 15 rfl (.as rfl) ⟨ae,tT⟩ rfl ?_
 refine Bd kR ?_
 exact ⟨(_,_),⟨rfl,rfl,rfl,rfl,tT⟩,bN,bM,ae,bK,bJ,bO⟩
 obtain ⟨⟨x,y⟩,co⟩:∃ u,u=t:=⟨t,rfl⟩
 subst co
 obtain ⟨j1,j2,j3,j4,j5,j6⟩:=hR
 simp only at j5 j6
 rw [AG j5,AG j6] at hD
 refine Ah<|Dr 20 rfl C7 (λw'=>AS DW w' pn nl/\True) (λcq af=>?_)
 have bP:=Hn (w1:=cq) j4 (λk hk hl=>(by obtain ⟨m,rfl⟩:=af;rfl))
 have aL:=j2.drew af
 have d:=j3.drew af
 have aM:=DA j1 (Q8 af)
 refine Af 0 rfl (.mv rfl) ⟨d,tT⟩ rfl ?_
 refine Af 1 rfl (.mv rfl) ⟨d,tT⟩ rfl ?_
 refine Af 2 rfl (.ixb Dh B5 rfl rfl (d.isp oD) (0) (rfl) oO) ⟨d,tT⟩ rfl ?_
 refine BY 3 rfl (λw' hw'=>AO (Bw _) rfl ((hw'.1).cells (0) oO)) ⟨d,tT⟩ rfl ?_
 refine Af 4 rfl (.mv rfl) ⟨d,tT⟩ rfl ?_
 refine Af 5 rfl (.ixb Dh B5 rfl rfl (d.isp oD) (1) (rfl) oO) ⟨d,tT⟩ rfl ?_
 refine BY 6 rfl (λw' hw'=>AO (Bw _) rfl ((hw'.1).cells (1) oO)) ⟨d,tT⟩ rfl ?_
 refine Af 7 rfl (.mv rfl) ⟨d,tT⟩ rfl ?_
 refine Af 8 rfl (.mv rfl) ⟨d,tT⟩ rfl ?_
 refine Af 9 rfl (.ixb Dh B5 rfl rfl (d.isp oD) (1) (rfl) oO) ⟨d,tT⟩ rfl ?_
 refine BY 10 rfl (λw' hw'=>AO (Bw _) rfl ((hw'.1).cells (1) oO)) ⟨d,tT⟩ rfl ?_
 refine Af 11 rfl (.mv rfl) ⟨d,tT⟩ rfl ?_
 refine Af 12 rfl (.mv rfl) ⟨d,tT⟩ rfl ?_
 refine Af 13 rfl (.mv rfl) ⟨d,tT⟩ rfl ?_
 refine Af 14 rfl (.ixb Dh B5 rfl rfl (d.isp oD) (0) (rfl) oO) ⟨d,tT⟩ rfl ?_
 refine BY 15 rfl (λw' hw'=>AO (Bw _) rfl ((hw'.1).cells (0) oO)) ⟨d,tT⟩ rfl ?_
 refine Af 16 rfl (.mv rfl) ⟨d,tT⟩ rfl ?_
 refine An 17 rfl<|Ct (ps:=_) Dh B5 PG rfl rfl rfl rfl rfl pR rfl (λcW bQ ak bh a1 cE=>?_)
 have bR:=Hn (w1:=bQ) bP (λk hk hl=>a1.other k oO)
 have bS:=Bg ak aL.lt
 have aN:=aL.un a1 bS
 have bi:=λo=>ak▸d.lt o
 have am:=AS.upd d a1 (λo=>Js (bi o))
 have aO:=Cq ak aM.size
 have an:=DA aM (Hf a1 aO)
 have hq:=AS.lit (V:=DW) (l:=[nl[0],nl[1],x,nl[1],x,y,nl[0],y]) bh (rfl)
 refine WL.e<|⟨⟨am,tT⟩,?_⟩
 refine An 18 rfl<|WL.cx AN rfl rfl ((Mh bv ⟨s,fo,sa,pa,aG,it,lo,te,li,ar,itv⟩ _ [nl[0],nl[1],x,nl[1],x,y,nl[0],y] 8 4 _ aN hq rfl oO (FL 8))) (λcr aP G J=>?_) (λct cX aP G J=>?_)
 have aQ:=kB an J
 exact Aw (Dq cr (by rw [hc] at G;rw [<- hD];exact Ax G) (a6 _ aQ))
 have bT:=Hn (w1:=aP) bR (λk hk hl=>J.1.block k hl)
 have C:=aN.bl J.1
 have aR:=AS.below am J.1 (λo=>am.lt o)
 have bU:=kB an J.1
 obtain ⟨ls,rfl⟩:∃ l,l=ct:=⟨_,rfl⟩
 obtain ⟨pl,cl,evl,ao,bV,cI,-⟩:=J.2.row
 subst evl
 have cY:=HE (k:=4) rfl G
 rw [hc] at G
 rw [AG G,show ls.getD 0 Fv=ls[0] by rw [BW,A7 oO];rfl] at hD
 have ap:0<ls.length->w.heap.size<=(pA pl).block:=λo=>AW an.size (bV _ (ao.isp o))
 refine WL.e<|⟨⟨aR,tT⟩,?_⟩
 refine Af 19 rfl (.as rfl) ⟨aR,tT⟩ rfl ?_
 refine Bd kR<|Ah<|Dr 9 rfl C7 (λw'=>w'.heap[bv]?=aP.heap[bv]?/\Be Ed w' pl ls/\True) (λbw ag=>?_)
 have bW:=Hn (w1:=bw) bT (λk hk hl=>(by obtain ⟨m,rfl⟩:=ag;rfl))
 have D:=C.drew ag
 have v:=ao.drew ag
 have aq:=DA bU (Q8 ag)
 refine Af 0 rfl (.mv rfl) ⟨(D).trans (C).symm,v,tT⟩ rfl ?_
 refine Af 1 rfl (.nck rfl) ⟨(D).trans (C).symm,v,tT⟩ rfl ?_
 refine Af 2 rfl (.fa BL rfl OH dD rfl) ⟨(D).trans (C).symm,v,tT⟩ rfl ?_
 refine BY 3 rfl (λw' hw'=>Ad (P2 _) rfl ((hw'.1).trans C) rfl) ⟨(D).trans (C).symm,v,tT⟩ rfl ?_
 refine Af 4 rfl (.mv rfl) ⟨(D).trans (C).symm,v,tT⟩ rfl ?_
 refine Af 5 rfl (.ixm G1 Fs rfl rfl (v.isp oC) (0) (rfl) oO) ⟨(D).trans (C).symm,v,tT⟩ rfl ?_
 refine BY 6 rfl (λw' hw'=>DP CS rfl Ca (hw'.2.1) (0) oC rfl) ⟨(D).trans (C).symm,v,tT⟩ rfl ?_
 refine An 7 rfl<|WL.c1 AN rfl rfl ((Ve B pa 4096 vp V.path ls[0] _ (Du bW))) (λcu a7=>?_)
 have aS:=Dl D a7.1 D.lt (by simp only [Ar,AA,C8,not_or,AY];omega)
 have au:=rk_ v a7.1 (λo=>⟨v.lt o,by first | simpa using (ap) o | (have q:=(ap) o;have q1:=v.lt o;simp only [Ar,AA,C8,not_or,AY];omega)⟩)
 have aT:=DA aq (AB.wide a7.1 aq.size (by simp <;> omega))
 obtain ⟨v1,cv,cw⟩:=a7.2
 have bX:=K5.of (Q:=λw=>CG B w pa 4096 _ v1) cv
 have aU:=(v).lt
 have bx:=aq.size
 obtain ⟨N,hN⟩:∃ N,N=bw.heap.size:=⟨_,rfl⟩
 rw [<- hN] at aU bx
 have bY:N<=cu.heap.size:=hN▸(a7.1).size
 refine WL.e<|⟨⟨(aS).trans (C).symm,au,tT⟩,?_⟩
 refine An 8 rfl<|Bk AN rfl rfl ((Ix _ _)) (λcy aV ah X=>?_) (λcZ aV ah X=>?_)
 have aW:=kB aT X
 exact Aw (Dq cy (by rw [<- hD];exact Ax (G6 ah)) (a6 _ aW))
 have aX:=Hn (w1:=aV) bX (λk hk hl=>X.block k hl)
 have aY:=aS.bl X
 have aZ:=I8 au X (λo=>au.lt o)
 have bZ:=kB aT X
 rw [AG (Gy ah)] at hD
 refine WL.e<|⟨⟨(aY).trans (C).symm,aZ,tT⟩,?_⟩
 refine Bd kR<|Ah<|A4<|A2 rfl<|A0 (.slmF G1 Fs rfl rfl  (1) (rfl) oO)<|?_
 have cz:Be Ed aV (Gd 2 pl cl 1) (ls.drop 1):=by
  have h2:=Be.part (a:=1) (b:=4) (c:=cl) aZ oO oO oO
  rwa [AR (by rw [B4];omega)] at h2
 have c':(ls.drop 1).length=3:=by rw [B4];omega
 have a':0<(ls.drop 1).length->w.heap.size<=(pA (Gd 2 pl cl 1)).block/\(pA (Gd 2 pl cl 1)).block<N:=λ_=>by
  rw [Vt (ao.isp oO)];exact ⟨ap oO,aU oO⟩
 refine A0 (.lenS G1 rfl)<|A2 rfl<|WL.e<|W.b<|Cj (α:=Nat × CP × Value) (λt=>[(0,.pointer (some ⟨bv,0,none⟩)),(53,.slice (Gd 2 pl cl 1) (ls.length-1) (cl-1)),(54,.int .i64 ((ls.length-1:Nat):Int)),(55,.int .i64 (t.1:Int))]) (λt w'=>AB w.heap.size [pa,vb vp pa] w w'/\AF w' bv (Fh ⟨s,fo,sa,pa,aG,it,lo,te,li,ar,itv⟩).toArray 74/\Be Ed w' (Gd 2 pl cl 1) (ls.drop 1)/\CG B w' pa 4096 t.2.1 t.2.2/\(∀ g,t.2.2.ownBlock=some g->vp.ownBlock=some g\/N<=g)/\N<=w'.heap.size/\t.1<=3/\(U9 t.2.1 ((ls.drop 1).drop t.1)>>=λp3=>D6 (Ge 4096 p3))=R) (λt=>3-t.1) ((0,_,_)) ⟨rfl,rfl,rfl,rfl,tT⟩ (⟨bZ,aY,cz,Du aX,λg hg=>hN▸cw g hg,AW bY (aX).size,Gg _,hD⟩) (λt w1 hR=>?_)
 obtain ⟨⟨i,Pi,vi⟩,cA⟩:∃ u,u=t:=⟨t,rfl⟩
 subst cA
 obtain ⟨q1,q2,q3,q4,q5,b0,q6,q7⟩:=hR
 simp only at q4 q5 q6 q7
 have av:=K5.of (Q:=λw=>CG B w pa 4096 Pi vi) q4
 have cJ:=NA q4.own q4.blk.lt
 have cK:=A0Y (b:=pa) q5
 obtain ⟨cL,cM⟩:=Ye q4 q2
 refine A4<|A0 (.lss rfl rfl)<|WL.e<|Ah<|Ac rfl (λb1=>?_) (λb1=>?_)
 have b':=dT b1
 have bz:i<(ls.drop 1).length:=by omega
 have ab:(D6 (Fa 4096 Pi (ls.drop 1)[i])>>=λQ=>U9 Q ((ls.drop 1).drop (i+1)))>>=(λp3=>D6 (Ge 4096 p3))=R:=by rw [<- q7,Ap bz];rfl
 refine W.k<|Ah<|W.b<|A4<|A0 (.ixm G1 Fs rfl rfl (q3.isp oC) (i) (rfl) oO)<|Ag (DP CS rfl Ca q3 (i) oC rfl)<|BV LG rfl (λbA c0 aw bj a3 cF=>?_)
 have c2:=Hn (w1:=c0) av (λk hk hl=>a3.other k oO)
 have c3:=Bg aw q2.lt
 have c4:=q2.un a3 c3
 have aC:=λo=>aw▸q3.lt o
 have c5:=Be.upd q3 a3 (λo=>Js (aC o))
 have b2:=Cq aw q1.size
 have c6:=DA q1 (Hf a3 b2)
 refine Az rfl rfl bj Ca rfl rfl (λb3 A a4 cG=>?_)
 have c7:=Hn (w1:=b3) c2 (λk hk hl=>a4.other k (by first | ((try simp only) <;> omega) | (have:=hk.1;((try simp only) <;> omega))))
 have E:=c4.up a4
 have c8:=Be.upd c5 a4 (λo=>Js (aC o))
 have c9:=kU c6 a4
 refine WL.e<|Dr 7 rfl C7 (λw'=>w'.heap[bv]?=b3.heap[bv]?/\w'.heap[bA]?=b3.heap[bA]?/\True) (λcB a8=>?_)
 have ax:=Hn (w1:=cB) c7 (λk hk hl=>(by obtain ⟨m,rfl⟩:=a8;rfl))
 have K:=E.drew a8
 have L:=A.drew a8
 have ay:=c8.drew a8
 have b4:=DA c9 (Q8 a8)
 refine Af 0 rfl (.mv rfl) ⟨(K).trans (E).symm,(L).trans (A).symm,tT⟩ rfl ?_
 refine Af 1 rfl (.nck rfl) ⟨(K).trans (E).symm,(L).trans (A).symm,tT⟩ rfl ?_
 refine Af 2 rfl (.fa BL rfl OH dD rfl) ⟨(K).trans (E).symm,(L).trans (A).symm,tT⟩ rfl ?_
 refine BY 3 rfl (λw' hw'=>Ad (P2 _) rfl ((hw'.1).trans E) rfl) ⟨(K).trans (E).symm,(L).trans (A).symm,tT⟩ rfl ?_
 refine BY 4 rfl (λw' hw'=>BA rfl ((hw'.2.1).trans A) CS rfl Ca) ⟨(K).trans (E).symm,(L).trans (A).symm,tT⟩ rfl ?_
 refine An 5 rfl<|WL.c1 AN rfl rfl ((Vf B pa 4096 vi Pi (ls.drop 1)[i] _ (Du ax))) (λcC Y=>?_)
 have b5:=Dl K Y.1 K.lt (by simp only [Ar,AA,C8,not_or,AY];omega)
 have b6:=Dl L Y.1 L.lt (by simp only [Ar,AA,C8,not_or,AY];omega)
 have b7:=rk_ ay Y.1 (λo=>⟨ay.lt o,by first | simpa using (a') o | (have q:=(a') o;have q1:=ay.lt o;simp only [Ar,AA,C8,not_or,AY];omega)⟩)
 have b8:=DA b4 (AB.wide Y.1 b4.size (by simp <;> omega))
 obtain ⟨v2,b9,ba⟩:=Y.2
 have az:=K5.of (Q:=λw=>CG B w pa 4096 _ v2) b9
 have bb:∀ g,v2.ownBlock=some g->vp.ownBlock=some g\/N<=g:=λg hg=>(ba g hg).elim (q5 g) (λh=>.inr (AW (AW b0 (ax).size) h))
 have ca:N<=cC.heap.size:=AW (AW b0 (ax).size) (Y.1).size
 refine WL.e<|⟨⟨(b5).trans (E).symm,(b6).trans (A).symm,tT⟩,?_⟩
 refine An 6 rfl<|Bk AN rfl rfl ((Ix _ _)) (λcD bB ai P=>?_) (λd0 bB ai P=>?_)
 have bc:=kB b8 P
 exact Aw (Dq cD (by rw [<- ab];exact Ax (Ax (G6 ai))) (a6 _ bc))
 have bd:=Hn (w1:=bB) az (λk hk hl=>P.block k hl)
 have be:=b5.bl P
 have cb:=b6.bl P
 have bk:=I8 b7 P (λo=>b7.lt o)
 have bm:=kB b8 P
 rw [AG (Gy ai)] at ab
 refine WL.e<|⟨⟨(be).trans (E).symm,(cb).trans (A).symm,tT⟩,?_⟩
 refine Bd kR<|Ak<|A0 (.iis (((i+1:Nat):Int)) (.add rfl rfl (Bp oO)) oO)<|A2 rfl<|WL.e<|?_
 exact ⟨(i+1,_,v2),⟨rfl,rfl,rfl,rfl,tT⟩,⟨bm,be,bk,Du bd,bb,AW ca (bd).size,by ((try simp only) <;> omega),ab⟩,by ((try simp only) <;> omega)⟩
 have b':=dF b1
 have bz:i=3:=by omega
 have ab:D6 (Ge 4096 Pi)=R:=by rw [<- q7,List.drop_of_length_le oO];rfl
 refine C0<|Ak<|A2 rfl<|A0 (.nck rfl)<|A0 (.fa BL rfl OH dD rfl)<|Ag (Ad (P2 _) rfl q2 rfl)<|WL.c1 AN rfl rfl ((OM B pa 4096 vi Pi _ (Du av))) (λcN aD=>?_)
 have aE:=DA q1 (AB.wide aD.1 q1.size (by simp <;> omega))
 obtain ⟨v2,b9,ba⟩:=aD.2
 have az:=K5.of (Q:=λw=>CG B w pa 4096 _ v2) b9
 have bb:∀ g,v2.ownBlock=some g->vp.ownBlock=some g\/N<=g:=λg hg=>(ba g hg).elim (q5 g) (λh=>.inr (AW (AW b0 (av).size) h))
 refine Bk AN rfl rfl ((Ix _ _)) (λcc bf a9 a5=>?_) (λcO bf a9 a5=>?_)
 have aF:=kB aE a5
 exact Aw (Dq cc (by rw [<- ab];exact G6 a9) (a6 _ aF))
 have bn:=Hn (w1:=bf) az (λk hk hl=>a5.block k hl)
 have bo:=kB aE a5
 refine WL.e<|BJ (Bt rfl ?_)
 exact GD _ _ (ab.symm.trans (Gy a9)) rfl ⟨rfl,bo,v2,Du bn,λg hg=>(bb g hg).imp id (λh=>AW bx h)⟩
end
end
section
def Jb (V:Vw) (x:Except Int CP):Except Int Vw:=x>>=λp=>.ok (Kp V p)
theorem A6C {V:Vw} {args:List PV}:Gj V args [109]=(Dg args 2>>=λn=>Dy V.s.ctm n>>=λl=>Jb V (D6 (GC 4096 V.path (l.getD 0 Fv)))):=by unfold Gj;rw [A6 rfl];rfl
theorem A6D {V:Vw} {args:List PV}:Gj V args [108]=(Dg args 2>>=λn=>Dy V.s.ctm n>>=λl=>Jb V (D6 (Fa 4096 V.path (l.getD 0 Fv)))):=by unfold Gj;rw [A1 dD,A6 rfl];rfl
theorem A6F {V:Vw} {args:List PV}:Gj V args [99]=(Dg args 6>>=λn=>Dy V.s.ctm n>>=λl=>Jb V (D6 (HR 4096 V.path (l.getD 0 Fv) (l.getD 1 Fv) (l.getD 2 Fv)))):=by
 unfold Gj;rw [A1 dD,A1 dD,A6 rfl];rfl
theorem A6B {V:Vw} {args:List PV}:Gj V args [118]=(Dg args 4>>=λn=>Dy V.s.ctm n>>=λl=>CH (decide (V.path.list.length≠0))>>=λ_=>Jb V (D6 (HR 4096 V.path V.path.now (l.getD 0 Fv) (l.getD 1 Fv)))):=by
 unfold Gj;rw [A1 dD,A1 dD,A1 dD,A6 rfl];rfl
theorem A6A {V:Vw} {args:List PV}:Gj V args [121]=(Dg args 4>>=λn=>Dy V.s.ctm n>>=λl=>Jb V (D6 (HR 4096 V.path (l.getD 0 Fv) (l.getD 1 Fv) (l.getD 1 Fv)))):=by
 unfold Gj;rw [A1 dD,A1 dD,A1 dD,A1 dD,A6 rfl];rfl
theorem A6E {V:Vw} {args:List PV}:Gj V args [104]=(Dg args 0>>=λ_=>Jb V (D6 (Ge 4096 V.path))):=by
 unfold Gj;rw [A1 dD,A1 dD,A1 dD,A1 dD,A1 dD,A6 rfl];rfl
theorem A4S {V:Vw} {args:List PV} {op:l8_} (h1:¬ op=[109]) (h2:¬ op=[108]) (h3:¬ op=[99]) (h4:¬ op=[118]) (h5:¬ op=[121]) (h6:¬ op=[104]):Gj V args op=Jb V (V6 V.s.ctm V.path args):=by
 unfold Gj V6 Jb
 rw [A1 h1,A1 h2,A1 h3,A1 h4,A1 h5,A1 h6]
 cases hn:Dg args 4 with
 | error k=>rfl
 | ok n =>
  show (IO (n.getD 0 0) (n.getD 2 0)>>=λx=>_)=((IO (n.getD 0 0) (n.getD 2 0)>>=λx=>_)>>=_)
  cases hx:IO (n.getD 0 0) (n.getD 2 0) with
  | error k=>rfl
  | ok x =>
   show (IO (n.getD 1 0) (n.getD 3 0)>>=λy=>_)=((IO (n.getD 1 0) (n.getD 3 0)>>=λy=>_)>>=_)
   cases hy:IO (n.getD 1 0) (n.getD 3 0) with
   | error k=>rfl
   | ok y =>
    show (Dy V.s.ctm [n.getD 0 0,n.getD 1 0,x,n.getD 1 0,x,y,n.getD 0 0,y]>>=λl=>_)=((Dy V.s.ctm [n.getD 0 0,n.getD 1 0,x,n.getD 1 0,x,y,n.getD 0 0,y]>>=λl=>_)>>=_)
    cases hl:Dy V.s.ctm [n.getD 0 0,n.getD 1 0,x,n.getD 1 0,x,y,n.getD 0 0,y] with
    | error k=>rfl
    | ok l =>
     have j:=HE (k:=4) rfl hl
     match l,j with
     | [a,b,c,d],_ =>
      show (D6 (GC 4096 V.path a)>>=λi=>D6 (Fa 4096 i b)>>=λe=>D6 (Fa 4096 e c)>>=λf=>D6 (Fa 4096 f d)>>=λg=>D6 (Ge 4096 g)>>=λp=>.ok (Kp V p)) =
       ((D6 (GC 4096 V.path a)>>=λi=>(D6 (Fa 4096 i b)>>=λe=>D6 (Fa 4096 e c)>>=λf=>D6 (Fa 4096 f d)>>=λg=>.ok g)>>=λg=>D6 (Ge 4096 g))>>=λp=>.ok (Kp V p))
      cases D6 (GC 4096 V.path a) with
      | error k=>rfl
      | ok i =>
       show (D6 (Fa 4096 i b)>>=λe=>_)=(((D6 (Fa 4096 i b)>>=λe=>_)>>=_)>>=_)
       cases D6 (Fa 4096 i b) with
       | error k=>rfl
       | ok e =>
        show (D6 (Fa 4096 e c)>>=λf=>_)=(((D6 (Fa 4096 e c)>>=λf=>_)>>=_)>>=_)
        cases D6 (Fa 4096 e c) with
        | error k=>rfl
        | ok f =>
         show (D6 (Fa 4096 f d)>>=λg=>_)=(((D6 (Fa 4096 f d)>>=λg=>_)>>=_)>>=_)
         cases D6 (Fa 4096 f d) with
         | error k=>rfl
         | ok g=>rfl
def Uq (P:CP):BQ × Int:=if P.list.length=0 then (Fv,10) else (P.now,0)
theorem A6L {P:CP} {u:Unit} (h:Lq (Uq P).2=.ok u):decide (P.list.length≠0)=true/\P.now=(Uq P).1:=by
 have a:=Mx h
 unfold Uq at a ⊢
 split at a
 · cases a
 · next hn=>rw [A1 hn];exact ⟨Aj hn,rfl⟩
theorem YW {P:CP} {k:Int} (h:Lq (Uq P).2=.error k):decide (P.list.length≠0)=false/\k=22:=by
 unfold Lq at h
 split at h
 · cases h
 ·
  next hn =>
  cases h
  refine ⟨Al λhl=>?_,rfl⟩
  unfold Uq at hn
  rw [A1 hl] at hn
  exact hn rfl
theorem A1H (B bp:Nat) (m:Int) (v:Value) (P:CP) (w:World) (h:CG B w bp m P v) :
  Calls Tryz.prog 80 #[.pointer (some ⟨bp,0,none⟩)] w λe w'=>e=.returned (.tuple #[.agg (DH (Uq P).1).toArray,.int .i64 (Uq P).2])/\Below w.heap.size w w' :=
 (Vg B bp m v P w h).mono λe w' ⟨h1,h2⟩=>⟨by rw [h1];unfold Uq;split <;> rfl,h2⟩
theorem O9 {l:List BQ} {n:Nat} (h:l.length=n) (hi:i<n):l.getD i Fv=l[i]'oO:=by
 rw [BW,A7 oO];rfl
section
variable {B:Nat} {fs:PZ} {w w1:World} {bv:Nat} {F:Nat->Prop} {V:Vw} {args:List PV}
theorem FO.setPath {H:PW} {vp v1:Value} {its:List AQ} {hs:List Ux} {cs:List PC} {P1:CP} (hO:Zb B w bv H vp V its hs cs) (hR:Za (E3 fs.c (Gm bv H vp) w) w H fs V args its hs cs)
  (K:AB w.heap.size [H.path,vb vp H.path] w w1) (hp:CG B w1 H.path 4096 P1 v1) (hg:FK w vp v1):∃ F1,FO B fs w1 bv F1 (Kp V P1) args/\Df (Gm bv H vp) F1 w w1:=by
 obtain ⟨d,-,e,f,i⟩:=hO.rest K _ (Kc hO.pth.own hO.pth.blk.ty)
 have hC:Df (Gm bv H vp) (Gm bv H v1) w w1:=Cn K (Ll (λg hg=>.inr (.inr (.inl hg))) (.inr (.inl rfl))) (λg b=>by
  rcases b with a | a | a | a
  · exact .inl (.inl a)
  · exact .inl (.inr (.inl a))
  · exact (hg g a).imp (λh=>.inr (.inr (.inl h))) id
  · exact .inl (.inr (.inr (.inr a))))
 have hq:=hR.mv (E3.mv hC)
 exact ⟨_,⟨H,v1,its,hs,cs,rfl,⟨d dD,hp,e dD,f dD,i dD,hO.lbv,hO.lbp⟩,{ hq with }⟩,hC⟩
theorem A3G (op:l8_) (h:FO B fs w bv F V args) (ha:args.length<=32) :
  Calls Tryz.prog 53 #[.pointer (some ⟨bv,0,none⟩),.string (bs op)] w (VwE B fs bv F w (Gj V args op) args):=by
 have f:=h
 obtain ⟨H,vp,its,hs,cs,rfl,hO,hR⟩:=h.mem
 have ao:=Hy.of f
 have A:=hO.blk
 have hP:=hO.pth
 have c3:=hO.lbp
 have hc:=hR.st.ctm
 have aF:=@FO.setPath B fs w
 obtain ⟨s,fo,sa,pa,b9,it,lo,te,li,ar,itv⟩:=H
 simp only at hP hc c3
 have e8:=hP.blk.lt
 have er:=A.lt
 have eK:=NA hP.own e8
 obtain ⟨eL,eM⟩:=Ye hP A
 have D:=λw1=>hP.ctm (w1:=w1) c3
 have ap:=K5.of (Q:=λw=>CG B w pa 4096 V.path vp) hP
 refine W.e func53 rfl ntmps53 bL ?_
 have ab:=AB.refl w.heap.size ([pa,vb vp pa]) w
 refine A4<|A2 rfl<|WL.e<|W.b<|A4<|A0 (.eqs rfl rfl)<|A9 rfl<|Ac rfl (λh1=>?_) (λh1=>?_)
 have e9:=dT h1
 have Y:op=[109]:=by assumption
 have hD:=A6C (V:=V) (args:=args)
 rw [<- Y] at hD
 refine Dr 12 rfl C7 (λw'=>w'.heap[bv]?=w.heap[bv]?/\True) (λw2 bt=>?_)
 have ea:=JP (w1:=w2) ao (λk hk hl=>(by obtain ⟨m,rfl⟩:=bt;rfl))
 have eb:=Hn (w1:=w2) ap (λk hk hl=>(by obtain ⟨m,rfl⟩:=bt;rfl))
 have di:=A.drew bt
 have dj:=DA ab (Q8 bt)
 have aO:=Dm (di.trans A.symm) BG
 refine Af 0 rfl (.mv rfl) aO rfl ?_
 refine Af 1 rfl (.nck rfl) aO rfl ?_
 refine Af 2 rfl (.fa BL rfl OH dD rfl) aO rfl ?_
 refine BY 3 rfl (λw' hw'=>Ad (P2 _) rfl ((hw'.1).trans A) rfl) aO rfl ?_
 refine Af 4 rfl (.mv rfl) aO rfl ?_
 refine Af 5 rfl (.mv rfl) aO rfl ?_
 refine An 6 rfl<|WL.cx AN rfl rfl ((F7 2 (ea).get ha oO)) (λk9 w7 aR aP=>?_) (λa8 eN w7 aR aP=>?_)
 have cF:=kB dj aP
 exact Aw (Dq k9 (by rw [hD,Ax aR]) (D _ cF))
 have ds:=Hn (w1:=w7) eb (λk hk hl=>aP.1.block k hl)
 have bb:=di.bl aP.1
 have bc:=kB dj aP.1
 obtain ⟨nl,rfl⟩:∃ l,l=a8:=⟨_,rfl⟩
 obtain ⟨pn,cn,evn,ac,bu,ad,-⟩:=aP.2.row
 subst evn
 have bw:=(Fl aR).1
 have ae:=ac.ofI
 rw [AG aR] at hD
 refine WL.e<|⟨⟨(bb).trans (A).symm,tT⟩,?_⟩
 refine An 7 rfl<|WL.cx AN rfl rfl ((Mh bv ⟨s,fo,sa,pa,b9,it,lo,te,li,ar,itv⟩ pn nl cn 1 _ bb ae oO oO ad)) (λec dk a1 aq=>?_) (λed eO dk a1 aq=>?_)
 have c4:=kB bc aq
 exact Aw (Dq ec (by rw [hc] at a1;rw [hD];exact Ax a1) (D _ c4))
 have dt:=Hn (w1:=dk) ds (λk hk hl=>aq.1.block k hl)
 have bd:=bb.bl aq.1
 have be:=kB bc aq.1
 obtain ⟨ls,rfl⟩:∃ l,l=ed:=⟨_,rfl⟩
 obtain ⟨pl,cl,evl,u,T,aT,-⟩:=aq.2.row
 subst evl
 have J:=HE (k:=1) oO a1
 rw [hc] at a1
 rw [AG a1,O9 J (i:=0) dD] at hD
 have G:0<ls.length->w.heap.size<=(pA pl).block:=λf=>AW bc.size (T _ (u.isp f))
 refine WL.e<|?_
 have c5:=Dm (bd.trans A.symm) BG
 refine ⟨c5,?_⟩
 refine Af 8 rfl (.ixm G1 Fs rfl rfl (u.isp oC) (0) (rfl) oO) c5 rfl ?_
 refine An 9 rfl<|Ag (DP CS rfl Ca u (0) oC rfl)<|WL.e<|⟨c5,?_⟩
 refine An 10 rfl<|WL.c1 AN rfl rfl ((Ve B pa 4096 vp V.path ls[0] _ (Du dt))) (λeP bf=>?_)
 have c6:=Dl bd bf.1 bd.lt (by simp only [Ar,AA,C8,not_or,AY];omega)
 have c7:=DA be (AB.wide bf.1 be.size (by simp <;> omega))
 obtain ⟨v1,K,a0⟩:=bf.2
 have E:=K5.of (Q:=λw=>CG B w pa 4096 _ v1) K
 have L:=FK.mono a0 be.size
 refine WL.e<|⟨⟨(c6).trans (A).symm,tT⟩,?_⟩
 refine An 11 rfl<|Bk AN rfl rfl ((Ix _ _)) (λee dl aU aG=>?_) (λeQ dl aU aG=>?_)
 have c8:=kB c7 aG
 exact Aw (Dq ee (by rw [hD];exact Ax (G6 aU)) (D _ c8))
 have du:=Hn (w1:=dl) E (λk hk hl=>aG.block k hl)
 have dv:=c6.bl aG
 have dw:=kB c7 aG
 rw [Jb,AG (Gy aU)] at hD
 refine WL.e<|⟨⟨(dv).trans (A).symm,tT⟩,?_⟩
 refine Bd kR<|BJ (Bt rfl ?_)
 exact GD _ _ hD rfl ⟨rfl,aF hO hR dw (Du du) L⟩
 have e9:=dF h1
 refine A4<|A0 (.eqs rfl rfl)<|A9 rfl<|Ac rfl (λc9=>?_) (λc9=>?_)
 have dx:=dT c9
 have Y:op=[108]:=by assumption
 have hD:=A6D (V:=V) (args:=args)
 rw [<- Y] at hD
 refine Dr 12 rfl C7 (λw'=>w'.heap[bv]?=w.heap[bv]?/\True) (λdm aV=>?_)
 have dy:=JP (w1:=dm) ao (λk hk hl=>(by obtain ⟨m,rfl⟩:=aV;rfl))
 have dz:=Hn (w1:=dm) ap (λk hk hl=>(by obtain ⟨m,rfl⟩:=aV;rfl))
 have ca:=A.drew aV
 have cb:=DA ab (Q8 aV)
 have aQ:=Dm (ca.trans A.symm) BG
 refine Af 0 rfl (.mv rfl) aQ rfl ?_
 refine Af 1 rfl (.nck rfl) aQ rfl ?_
 refine Af 2 rfl (.fa BL rfl OH dD rfl) aQ rfl ?_
 refine BY 3 rfl (λw' hw'=>Ad (P2 _) rfl ((hw'.1).trans A) rfl) aQ rfl ?_
 refine Af 4 rfl (.mv rfl) aQ rfl ?_
 refine Af 5 rfl (.mv rfl) aQ rfl ?_
 refine An 6 rfl<|WL.cx AN rfl rfl ((F7 2 (dy).get ha oO)) (λef dn ay au=>?_) (λeg eR dn ay au=>?_)
 have cc:=kB cb au
 exact Aw (Dq ef (by rw [hD,Ax ay]) (D _ cc))
 have dA:=Hn (w1:=dn) dz (λk hk hl=>au.1.block k hl)
 have bg:=ca.bl au.1
 have bh:=kB cb au.1
 obtain ⟨nl,rfl⟩:∃ l,l=eg:=⟨_,rfl⟩
 obtain ⟨pn,cn,evn,ac,bu,ad,-⟩:=au.2.row
 subst evn
 have bw:=(Fl ay).1
 have ae:=ac.ofI
 rw [AG ay] at hD
 refine WL.e<|⟨⟨(bg).trans (A).symm,tT⟩,?_⟩
 refine An 7 rfl<|WL.cx AN rfl rfl ((Mh bv ⟨s,fo,sa,pa,b9,it,lo,te,li,ar,itv⟩ pn nl cn 1 _ bg ae oO oO ad)) (λeh dp a2 av=>?_) (λei eS dp a2 av=>?_)
 have cd:=kB bh av
 exact Aw (Dq eh (by rw [hc] at a2;rw [hD];exact Ax a2) (D _ cd))
 have dB:=Hn (w1:=dp) dA (λk hk hl=>av.1.block k hl)
 have bi:=bg.bl av.1
 have bj:=kB bh av.1
 obtain ⟨ls,rfl⟩:∃ l,l=ei:=⟨_,rfl⟩
 obtain ⟨pl,cl,evl,u,T,aT,-⟩:=av.2.row
 subst evl
 have J:=HE (k:=1) oO a2
 rw [hc] at a2
 rw [AG a2,O9 J (i:=0) dD] at hD
 have G:0<ls.length->w.heap.size<=(pA pl).block:=λf=>AW bh.size (T _ (u.isp f))
 refine WL.e<|?_
 have cf:=Dm (bi.trans A.symm) BG
 refine ⟨cf,?_⟩
 refine Af 8 rfl (.ixm G1 Fs rfl rfl (u.isp oC) (0) (rfl) oO) cf rfl ?_
 refine An 9 rfl<|Ag (DP CS rfl Ca u (0) oC rfl)<|WL.e<|⟨cf,?_⟩
 refine An 10 rfl<|WL.c1 AN rfl rfl ((Vf B pa 4096 vp V.path ls[0] _ (Du dB))) (λeT bk=>?_)
 have cg:=Dl bi bk.1 bi.lt (by simp only [Ar,AA,C8,not_or,AY];omega)
 have ci:=DA bj (AB.wide bk.1 bj.size (by simp <;> omega))
 obtain ⟨v1,K,a0⟩:=bk.2
 have E:=K5.of (Q:=λw=>CG B w pa 4096 _ v1) K
 have L:=FK.mono a0 bj.size
 refine WL.e<|⟨⟨(cg).trans (A).symm,tT⟩,?_⟩
 refine An 11 rfl<|Bk AN rfl rfl ((Ix _ _)) (λej dq aW aH=>?_) (λeU dq aW aH=>?_)
 have cj:=kB ci aH
 exact Aw (Dq ej (by rw [hD];exact Ax (G6 aW)) (D _ cj))
 have dC:=Hn (w1:=dq) E (λk hk hl=>aH.block k hl)
 have dE:=cg.bl aH
 have dG:=kB ci aH
 rw [Jb,AG (Gy aW)] at hD
 refine WL.e<|⟨⟨(dE).trans (A).symm,tT⟩,?_⟩
 refine Bd kR<|BJ (Bt rfl ?_)
 exact GD _ _ hD rfl ⟨rfl,aF hO hR dG (Du dC) L⟩
 have dx:=dF c9
 refine A4<|A0 (.eqs rfl rfl)<|A9 rfl<|Ac rfl (λck=>?_) (λck=>?_)
 have dH:=dT ck
 have Y:op=[99]:=by assumption
 have hD:=A6F (V:=V) (args:=args)
 rw [<- Y] at hD
 refine A4<|A2 rfl<|A2 rfl<|WL.cx AN rfl rfl ((F7 6 (ao).get ha oO)) (λek dr az aw=>?_) (λel eV dr az aw=>?_)
 have cm:=kB ab aw
 exact Aw (Dq ek (by rw [hD,Ax az]) (D _ cm))
 have dI:=Hn (w1:=dr) ap (λk hk hl=>aw.1.block k hl)
 have co:=A.bl aw.1
 have bm:=kB ab aw.1
 obtain ⟨nl,rfl⟩:∃ l,l=el:=⟨_,rfl⟩
 obtain ⟨pn,cn,evn,ac,bu,ad,-⟩:=aw.2.row
 subst evn
 have bw:=(Fl az).1
 have ae:=ac.ofI
 rw [AG az] at hD
 refine WL.cx AN rfl rfl ((Mh bv ⟨s,fo,sa,pa,b9,it,lo,te,li,ar,itv⟩ pn nl cn 3 _ co ae oO oO ad)) (λem cq a3 ax=>?_) (λen eW cq a3 ax=>?_)
 have cr:=kB bm ax
 exact Aw (Dq em (by rw [hc] at a3;rw [hD];exact Ax a3) (D _ cr))
 have dJ:=Hn (w1:=cq) dI (λk hk hl=>ax.1.block k hl)
 have v:=co.bl ax.1
 have dK:=kB bm ax.1
 obtain ⟨ls,rfl⟩:∃ l,l=en:=⟨_,rfl⟩
 obtain ⟨pl,cl,evl,u,T,aT,-⟩:=ax.2.row
 subst evl
 have J:=HE (k:=3) oO a3
 rw [hc] at a3
 rw [AG a3,O9 J (i:=0) dD,O9 J (i:=1) dD,O9 J (i:=2) dD] at hD
 have G:0<ls.length->w.heap.size<=(pA pl).block:=λf=>AW bm.size (T _ (u.isp f))
 refine A9 rfl<|Dr 15 rfl C7 (λw'=>w'.heap[bv]?=cq.heap[bv]?/\Be Ed w' pl ls/\True) (λeo aX=>?_)
 have dL:=Hn (w1:=eo) dJ (λk hk hl=>(by obtain ⟨m,rfl⟩:=aX;rfl))
 have C:=v.drew aX
 have a:=u.drew aX
 have aY:=DA dK (Q8 aX)
 refine Af 0 rfl (.mv rfl) ⟨(C).trans (v).symm,a,tT⟩ rfl ?_
 refine Af 1 rfl (.nck rfl) ⟨(C).trans (v).symm,a,tT⟩ rfl ?_
 refine Af 2 rfl (.fa BL rfl OH dD rfl) ⟨(C).trans (v).symm,a,tT⟩ rfl ?_
 refine BY 3 rfl (λw' hw'=>Ad (P2 _) rfl ((hw'.1).trans v) rfl) ⟨(C).trans (v).symm,a,tT⟩ rfl ?_
 refine Af 4 rfl (.mv rfl) ⟨(C).trans (v).symm,a,tT⟩ rfl ?_
 refine Af 5 rfl (.ixm G1 Fs rfl rfl (a.isp oC) (0) (rfl) oO) ⟨(C).trans (v).symm,a,tT⟩ rfl ?_
 refine BY 6 rfl (λw' hw'=>DP CS rfl Ca (hw'.2.1) (0) oC rfl) ⟨(C).trans (v).symm,a,tT⟩ rfl ?_
 refine Af 7 rfl (.mv rfl) ⟨(C).trans (v).symm,a,tT⟩ rfl ?_
 refine Af 8 rfl (.ixm G1 Fs rfl rfl (a.isp oC) (1) (rfl) oO) ⟨(C).trans (v).symm,a,tT⟩ rfl ?_
 refine BY 9 rfl (λw' hw'=>DP CS rfl Ca (hw'.2.1) (1) oC rfl) ⟨(C).trans (v).symm,a,tT⟩ rfl ?_
 refine Af 10 rfl (.mv rfl) ⟨(C).trans (v).symm,a,tT⟩ rfl ?_
 refine Af 11 rfl (.ixm G1 Fs rfl rfl (a.isp oC) (2) (rfl) oO) ⟨(C).trans (v).symm,a,tT⟩ rfl ?_
 refine BY 12 rfl (λw' hw'=>DP CS rfl Ca (hw'.2.1) (2) oC rfl) ⟨(C).trans (v).symm,a,tT⟩ rfl ?_
 refine An 13 rfl<|WL.c1 AN rfl rfl ((OL B pa 4096 vp V.path ls[0] ls[1] ls[2] _ (Du dL))) (λes aA=>?_)
 have bx:=Dl C aA.1 C.lt (by simp only [Ar,AA,C8,not_or,AY];omega)
 have aZ:=rk_ a aA.1 (λf=>⟨a.lt f,by first | simpa using (G) f | (have q:=(G) f;have q1:=a.lt f;simp only [Ar,AA,C8,not_or,AY];omega)⟩)
 have bz:=DA aY (AB.wide aA.1 aY.size (by simp <;> omega))
 obtain ⟨v1,K,a0⟩:=aA.2
 have E:=K5.of (Q:=λw=>CG B w pa 4096 _ v1) K
 have L:=FK.mono a0 aY.size
 refine WL.e<|⟨⟨(bx).trans (v).symm,aZ,tT⟩,?_⟩
 refine An 14 rfl<|Bk AN rfl rfl ((Ix _ _)) (λdM ct aI a4=>?_) (λet ct aI a4=>?_)
 have bS:=kB bz a4
 exact Aw (Dq dM (by rw [hD];exact Ax (G6 aI)) (D _ bS))
 have cG:=Hn (w1:=ct) E (λk hk hl=>a4.block k hl)
 have cH:=bx.bl a4
 have cI:=I8 aZ a4 (λf=>aZ.lt f)
 have cJ:=kB bz a4
 rw [Jb,AG (Gy aI)] at hD
 refine WL.e<|⟨⟨(cH).trans (v).symm,cI,tT⟩,?_⟩
 refine Bd kR<|BJ (Bt rfl ?_)
 exact GD _ _ hD rfl ⟨rfl,aF hO hR cJ (Du cG) L⟩
 have dH:=dF ck
 refine A4<|A0 (.eqs rfl rfl)<|A9 rfl<|Ac rfl (λbn=>?_) (λbn=>?_)
 have cK:=dT bn
 have Y:op=[118]:=by assumption
 have hD:=A6B (V:=V) (args:=args)
 rw [<- Y] at hD
 refine A4<|A2 rfl<|A2 rfl<|WL.cx AN rfl rfl ((F7 4 (ao).get ha oO)) (λdN cu af a5=>?_) (λdO eu cu af a5=>?_)
 have bT:=kB ab a5
 exact Aw (Dq dN (by rw [hD,Ax af]) (D _ bT))
 have cL:=Hn (w1:=cu) ap (λk hk hl=>a5.1.block k hl)
 have bA:=A.bl a5.1
 have a':=kB ab a5.1
 obtain ⟨nl,rfl⟩:∃ l,l=dO:=⟨_,rfl⟩
 obtain ⟨pn,cn,evn,ac,bu,ad,-⟩:=a5.2.row
 subst evn
 have bw:=(Fl af).1
 have ae:=ac.ofI
 rw [AG af] at hD
 refine WL.cx AN rfl rfl ((Mh bv ⟨s,fo,sa,pa,b9,it,lo,te,li,ar,itv⟩ pn nl cn 2 _ bA ae oO oO ad)) (λdP cv N a6=>?_) (λdQ ev cv N a6=>?_)
 have bU:=kB a' a6
 exact Aw (Dq dP (by rw [hc] at N;rw [hD];exact Ax N) (D _ bU))
 have bB:=Hn (w1:=cv) cL (λk hk hl=>a6.1.block k hl)
 have bC:=bA.bl a6.1
 have cM:=kB a' a6.1
 obtain ⟨ls,rfl⟩:∃ l,l=dQ:=⟨_,rfl⟩
 obtain ⟨pl,cl,evl,u,T,aT,-⟩:=a6.2.row
 subst evl
 have J:=HE (k:=2) oO N
 rw [hc] at N
 rw [AG N,O9 J (i:=0) dD,O9 J (i:=1) dD] at hD
 have G:0<ls.length->w.heap.size<=(pA pl).block:=λf=>AW a'.size (T _ (u.isp f))
 refine A9 rfl<|A4<|A2 rfl<|A0 (.nck rfl)<|A0 (.fa BL rfl OH dD rfl)<|Ag (Ad (P2 _) rfl bC rfl)<|WL.c1 AN rfl rfl ((A1H B pa 4096 vp V.path _ (Du bB))) (λdR aB=>?_)
 have cN:=Hn (w1:=dR) bB (λk hk hl=>aB.block k hl)
 have bD:=bC.bl aB
 have bE:=I8 u aB (λf=>u.lt f)
 have bG:=kB cM aB
 refine A2 rfl<|A0 (.ext rfl rfl)<|A0 (.ext rfl rfl)<|BV LG rfl (λcw cO b0 cy ag ep=>?_)
 have cP:=Hn (w1:=cO) cN (λk hk hl=>ag.other k oO)
 have cQ:=Bg b0 bD.lt
 have cR:=bD.un ag cQ
 have ba:=λf=>b0▸bE.lt f
 have cS:=Be.upd bE ag (λf=>Js (ba f))
 have bV:=Cq b0 bG.size
 have cT:=DA bG (Hf ag bV)
 refine Az rfl rfl cy Ca rfl rfl (λdS cz ah eq=>?_)
 have cU:=Hn (w1:=dS) cP (λk hk hl=>ah.other k (by first | ((try simp only) <;> omega) | (have:=hk.1;((try simp only) <;> omega))))
 have cV:=cR.up ah
 have bH:=Be.upd cS ah (λf=>Js (ba f))
 have bI:=kU cT ah
 refine A9 rfl<|A4<|A2 rfl<|Bk AN rfl rfl ((KT _ _)) (λdU b1 ai U=>?_) (λew b1 ai U=>?_)
 have bW:=kB bI U
 exact Aw (Dq dU (by rw [hD,(YW ai).1,(YW ai).2];rfl) (D _ bW))
 have cW:=Hn (w1:=b1) cU (λk hk hl=>U.block k hl)
 have j:=cV.bl U
 have o:=cz.bl U
 have cX:=I8 bH U (λf=>bH.lt f)
 have cY:=kB bI U
 obtain ⟨dV,dW⟩:=A6L ai
 rw [dV,AG (show CH true=.ok () from rfl),dW] at hD
 refine WL.e<|Dr 13 rfl C7 (λw'=>w'.heap[bv]?=b1.heap[bv]?/\Be Ed w' pl ls/\w'.heap[cw]?=b1.heap[cw]?/\True) (λdX aj=>?_)
 have cZ:=Hn (w1:=dX) cW (λk hk hl=>(by obtain ⟨m,rfl⟩:=aj;rfl))
 have x:=j.drew aj
 have y:=o.drew aj
 have g:=cX.drew aj
 have b2:=DA cY (Q8 aj)
 refine Af 0 rfl (.mv rfl) ⟨(x).trans (j).symm,g,(y).trans (o).symm,tT⟩ rfl ?_
 refine Af 1 rfl (.nck rfl) ⟨(x).trans (j).symm,g,(y).trans (o).symm,tT⟩ rfl ?_
 refine Af 2 rfl (.fa BL rfl OH dD rfl) ⟨(x).trans (j).symm,g,(y).trans (o).symm,tT⟩ rfl ?_
 refine BY 3 rfl (λw' hw'=>Ad (P2 _) rfl ((hw'.1).trans j) rfl) ⟨(x).trans (j).symm,g,(y).trans (o).symm,tT⟩ rfl ?_
 refine BY 4 rfl (λw' hw'=>BA rfl ((hw'.2.2.1).trans o) CS rfl Ca) ⟨(x).trans (j).symm,g,(y).trans (o).symm,tT⟩ rfl ?_
 refine Af 5 rfl (.mv rfl) ⟨(x).trans (j).symm,g,(y).trans (o).symm,tT⟩ rfl ?_
 refine Af 6 rfl (.ixm G1 Fs rfl rfl (g.isp oC) (0) (rfl) oO) ⟨(x).trans (j).symm,g,(y).trans (o).symm,tT⟩ rfl ?_
 refine BY 7 rfl (λw' hw'=>DP CS rfl Ca (hw'.2.1) (0) oC rfl) ⟨(x).trans (j).symm,g,(y).trans (o).symm,tT⟩ rfl ?_
 refine Af 8 rfl (.mv rfl) ⟨(x).trans (j).symm,g,(y).trans (o).symm,tT⟩ rfl ?_
 refine Af 9 rfl (.ixm G1 Fs rfl rfl (g.isp oC) (1) (rfl) oO) ⟨(x).trans (j).symm,g,(y).trans (o).symm,tT⟩ rfl ?_
 refine BY 10 rfl (λw' hw'=>DP CS rfl Ca (hw'.2.1) (1) oC rfl) ⟨(x).trans (j).symm,g,(y).trans (o).symm,tT⟩ rfl ?_
 refine An 11 rfl<|WL.c1 AN rfl rfl ((OL B pa 4096 vp V.path (Uq V.path).1 ls[0] ls[1] _ (Du cZ))) (λex ak=>?_)
 have bJ:=Dl x ak.1 x.lt (by simp only [Ar,AA,C8,not_or,AY];omega)
 have bK:=Dl y ak.1 y.lt (by simp only [Ar,AA,C8,not_or,AY];omega)
 have b3:=rk_ g ak.1 (λf=>⟨g.lt f,by first | simpa using (G) f | (have q:=(G) f;have q1:=g.lt f;simp only [Ar,AA,C8,not_or,AY];omega)⟩)
 have bM:=DA b2 (AB.wide ak.1 b2.size (by simp <;> omega))
 obtain ⟨v1,K,a0⟩:=ak.2
 have E:=K5.of (Q:=λw=>CG B w pa 4096 _ v1) K
 have L:=FK.mono a0 b2.size
 refine WL.e<|⟨⟨(bJ).trans (j).symm,b3,(bK).trans (o).symm,tT⟩,?_⟩
 refine An 12 rfl<|Bk AN rfl rfl ((Ix _ _)) (λdY cA aJ X=>?_) (λey cA aJ X=>?_)
 have bX:=kB bM X
 exact Aw (Dq dY (by rw [hD];exact Ax (G6 aJ)) (D _ bX))
 have c':=Hn (w1:=cA) E (λk hk hl=>X.block k hl)
 have d0:=bJ.bl X
 have d1:=bK.bl X
 have d2:=I8 b3 X (λf=>b3.lt f)
 have d3:=kB bM X
 rw [Jb,AG (Gy aJ)] at hD
 refine WL.e<|⟨⟨(d0).trans (j).symm,d2,(d1).trans (o).symm,tT⟩,?_⟩
 refine Bd kR<|BJ (Bt rfl ?_)
 exact GD _ _ hD rfl ⟨rfl,aF hO hR d3 (Du c') L⟩
 have cK:=dF bn
 refine A4<|A0 (.eqs rfl rfl)<|A9 rfl<|Ac rfl (λbo=>?_) (λbo=>?_)
 have d4:=dT bo
 have Y:op=[121]:=by assumption
 have hD:=A6A (V:=V) (args:=args)
 rw [<- Y] at hD
 refine A4<|A2 rfl<|A2 rfl<|WL.cx AN rfl rfl ((F7 4 (ao).get ha oO)) (λdZ cB am a7=>?_) (λd' ez cB am a7=>?_)
 have bY:=kB ab a7
 exact Aw (Dq dZ (by rw [hD,Ax am]) (D _ bY))
 have d5:=Hn (w1:=cB) ap (λk hk hl=>a7.1.block k hl)
 have bN:=A.bl a7.1
 have b4:=kB ab a7.1
 obtain ⟨nl,rfl⟩:∃ l,l=d':=⟨_,rfl⟩
 obtain ⟨pn,cn,evn,ac,bu,ad,-⟩:=a7.2.row
 subst evn
 have bw:=(Fl am).1
 have ae:=ac.ofI
 rw [AG am] at hD
 refine WL.cx AN rfl rfl ((Mh bv ⟨s,fo,sa,pa,b9,it,lo,te,li,ar,itv⟩ pn nl cn 2 _ bN ae oO oO ad)) (λe0 bp P a9=>?_) (λe1 eA bp P a9=>?_)
 have bZ:=kB b4 a9
 exact Aw (Dq e0 (by rw [hc] at P;rw [hD];exact Ax P) (D _ bZ))
 have d6:=Hn (w1:=bp) d5 (λk hk hl=>a9.1.block k hl)
 have d:=bN.bl a9.1
 have d7:=kB b4 a9.1
 obtain ⟨ls,rfl⟩:∃ l,l=e1:=⟨_,rfl⟩
 obtain ⟨pl,cl,evl,u,T,aT,-⟩:=a9.2.row
 subst evl
 have J:=HE (k:=2) oO P
 rw [hc] at P
 rw [AG P,O9 J (i:=0) dD,O9 J (i:=1) dD] at hD
 have G:0<ls.length->w.heap.size<=(pA pl).block:=λf=>AW b4.size (T _ (u.isp f))
 refine A9 rfl<|Dr 15 rfl C7 (λw'=>w'.heap[bv]?=bp.heap[bv]?/\Be Ed w' pl ls/\True) (λe2 aC=>?_)
 have d8:=Hn (w1:=e2) d6 (λk hk hl=>(by obtain ⟨m,rfl⟩:=aC;rfl))
 have t:=d.drew aC
 have c:=u.drew aC
 have b5:=DA d7 (Q8 aC)
 refine Af 0 rfl (.mv rfl) ⟨(t).trans (d).symm,c,tT⟩ rfl ?_
 refine Af 1 rfl (.nck rfl) ⟨(t).trans (d).symm,c,tT⟩ rfl ?_
 refine Af 2 rfl (.fa BL rfl OH dD rfl) ⟨(t).trans (d).symm,c,tT⟩ rfl ?_
 refine BY 3 rfl (λw' hw'=>Ad (P2 _) rfl ((hw'.1).trans d) rfl) ⟨(t).trans (d).symm,c,tT⟩ rfl ?_
 refine Af 4 rfl (.mv rfl) ⟨(t).trans (d).symm,c,tT⟩ rfl ?_
 refine Af 5 rfl (.ixm G1 Fs rfl rfl (c.isp oC) (0) (rfl) oO) ⟨(t).trans (d).symm,c,tT⟩ rfl ?_
 refine BY 6 rfl (λw' hw'=>DP CS rfl Ca (hw'.2.1) (0) oC rfl) ⟨(t).trans (d).symm,c,tT⟩ rfl ?_
 refine Af 7 rfl (.mv rfl) ⟨(t).trans (d).symm,c,tT⟩ rfl ?_
 refine Af 8 rfl (.ixm G1 Fs rfl rfl (c.isp oC) (1) (rfl) oO) ⟨(t).trans (d).symm,c,tT⟩ rfl ?_
 refine BY 9 rfl (λw' hw'=>DP CS rfl Ca (hw'.2.1) (1) oC rfl) ⟨(t).trans (d).symm,c,tT⟩ rfl ?_
 refine Af 10 rfl (.mv rfl) ⟨(t).trans (d).symm,c,tT⟩ rfl ?_
 refine Af 11 rfl (.ixm G1 Fs rfl rfl (c.isp oC) (1) (rfl) oO) ⟨(t).trans (d).symm,c,tT⟩ rfl ?_
 refine BY 12 rfl (λw' hw'=>DP CS rfl Ca (hw'.2.1) (1) oC rfl) ⟨(t).trans (d).symm,c,tT⟩ rfl ?_
 refine An 13 rfl<|WL.c1 AN rfl rfl ((OL B pa 4096 vp V.path ls[0] ls[1] ls[1] _ (Du d8))) (λeB aD=>?_)
 have bO:=Dl t aD.1 t.lt (by simp only [Ar,AA,C8,not_or,AY];omega)
 have b6:=rk_ c aD.1 (λf=>⟨c.lt f,by first | simpa using (G) f | (have q:=(G) f;have q1:=c.lt f;simp only [Ar,AA,C8,not_or,AY];omega)⟩)
 have bP:=DA b5 (AB.wide aD.1 b5.size (by simp <;> omega))
 obtain ⟨v1,K,a0⟩:=aD.2
 have E:=K5.of (Q:=λw=>CG B w pa 4096 _ v1) K
 have L:=FK.mono a0 b5.size
 refine WL.e<|⟨⟨(bO).trans (d).symm,b6,tT⟩,?_⟩
 refine An 14 rfl<|Bk AN rfl rfl ((Ix _ _)) (λe3 cC aK aa=>?_) (λeC cC aK aa=>?_)
 have b':=kB bP aa
 exact Aw (Dq e3 (by rw [hD];exact Ax (G6 aK)) (D _ b'))
 have d9:=Hn (w1:=cC) E (λk hk hl=>aa.block k hl)
 have da:=bO.bl aa
 have db:=I8 b6 aa (λf=>b6.lt f)
 have dc:=kB bP aa
 rw [Jb,AG (Gy aK)] at hD
 refine WL.e<|⟨⟨(da).trans (d).symm,db,tT⟩,?_⟩
 refine Bd kR<|BJ (Bt rfl ?_)
 exact GD _ _ hD rfl ⟨rfl,aF hO hR dc (Du d9) L⟩
 have d4:=dF bo
 refine A4<|A0 (.eqs rfl rfl)<|A9 rfl<|Ac rfl (λbq=>?_) (λbq=>?_)
 have dd:=dT bq
 have Y:op=[104]:=by assumption
 have hD:=A6E (V:=V) (args:=args)
 rw [<- Y] at hD
 refine A4<|A2 rfl<|WL.cx AN rfl rfl ((F7 0 (ao).get ha oO)) (λe4 cD aL an=>?_) (λeD eF cD aL an=>?_)
 have c0:=kB ab an
 exact Aw (Dq e4 (by rw [hD,Ax aL]) (D _ c0))
 have de:=Hn (w1:=cD) ap (λk hk hl=>an.1.block k hl)
 have df:=A.bl an.1
 have b7:=kB ab an.1
 rw [AG aL] at hD
 refine WL.e<|Ak<|A2 rfl<|A0 (.nck rfl)<|A0 (.fa BL rfl OH dD rfl)<|Ag (Ad (P2 _) rfl df rfl)<|WL.c1 AN rfl rfl ((OM B pa 4096 vp V.path _ (Du de))) (λeG bQ=>?_)
 have bR:=DA b7 (AB.wide bQ.1 b7.size (by simp <;> omega))
 obtain ⟨v1,K,a0⟩:=bQ.2
 have E:=K5.of (Q:=λw=>CG B w pa 4096 _ v1) K
 have L:=FK.mono a0 b7.size
 refine Bk AN rfl rfl ((Ix _ _)) (λe5 cE aM aE=>?_) (λeH cE aM aE=>?_)
 have c2:=kB bR aE
 exact Aw (Dq e5 (by rw [hD];exact Ax (G6 aM)) (D _ c2))
 have dg:=Hn (w1:=cE) E (λk hk hl=>aE.block k hl)
 have dh:=kB bR aE
 rw [Jb,AG (Gy aM)] at hD
 refine WL.e<|BJ (Bt rfl ?_)
 exact GD _ _ hD rfl ⟨rfl,aF hO hR dh (Du dg) L⟩
 have dd:=dF bq
 have hD:=A4S (V:=V) (args:=args) (op:=op) aS aS aS aS aS aS
 refine Ak<|A2 rfl<|WL.cx AN rfl rfl ((TH f ha A hP hc c3)) (λe6 e7 aN b8=>?_) (λeI eJ e7 aN b8=>?_)
 exact Aw (Dq e6 (by rw [hD,Jb,Ax aN]) b8)
 obtain ⟨rfl,hK,v1,K,L⟩:=b8
 rw [Jb,AG aN] at hD
 refine WL.e<|BJ (Bt rfl ?_)
 exact GD _ _ hD rfl ⟨rfl,aF hO hR hK K L⟩
end
end
section
structure Jf (w:World) (S:Nat->Prop) (l:List Bv):Prop where
 all:∀ y∈l,CC Fq S w y.pfPath y.fPath y.cfPath
theorem Jf.nil (w:World) (S:Nat->Prop):Jf w S []:=⟨λy hy=>by cases hy⟩
theorem Jf.same  {S:Nat->Prop} {l:List Bv} (h:Jf w S l) (hb:∀ k,S k->k<w.heap.size->w1.heap[k]?=w.heap[k]?):Jf w1 S l :=
 ⟨λy hy=>⟨(h.all y hy).row.same λh0=>hb _ ((h.all y hy).inn h0) ((h.all y hy).row.lt h0),(h.all y hy).sl,(h.all y hy).inn⟩⟩
theorem Jf.mono  {S:Nat->Prop} {l:List Bv} (h:Jf w S l) (hT:∀ k,S k->k<w.heap.size->T k):Jf w T l :=
 ⟨λy hy=>⟨(h.all y hy).row,(h.all y hy).sl,λh0=>hT _ ((h.all y hy).inn h0) ((h.all y hy).row.lt h0)⟩⟩
theorem IZ  {S:Nat->Prop} {l:List Bv} (h:Jf w S l) (hb:∀ k,S k->k<w.heap.size->w1.heap[k]?=w.heap[k]?) (hT:∀ k,S k->k<w.heap.size->T k):Jf w1 T l :=
 ((h.mono (T:=λk=>S k/\k<w.heap.size) (λk hk hl=>⟨hk,hl⟩)).same (λk hk _=>hb k hk.1 hk.2)).mono (λk hk _=>hT k hk.1 hk.2)
theorem Jf.app  {S:Nat->Prop} {l r:List Bv} (h:Jf w S l) (h2:Jf w S r):Jf w S (l++r):=⟨λy hy=>(Ba.1 hy).elim (h.all y) (h2.all y)⟩
theorem A5B:(Tryz.prog.info? 44).map (λi=>(i.zero,i.size,i.bytes))=some (some (.agg (FF ⟨0,none,[],0,M8 0,none,[],0,JK,0,0,0,0,0,0,0,none,[],0⟩).toArray),22,240):=by kernel_rfl
theorem RH {l:List Bv} (h:EQ (l.map Fn)=true):l.length<=16/\∀ y∈l,y.fPath.length<=4096:=by
 unfold EQ at h
 rw [A3,Ab,BD] at h
 refine ⟨by omega,λy hy=>?_⟩
 have a:=Au.1 h.2 _ (IE.2 ⟨y,hy,rfl⟩)
 unfold G5 Fk at a
 simp only [A3,Ab] at a
 exact a.2.1
def itC (x:AQ) (p:Option Addr) (l:List Bv) (c:Nat):AQ:={ x with pfClips:=p,fClips:=l,cfClips:=c }
section
variable {B:Nat} {fs:PZ} {w w1:World} {bv:Nat} {F:Nat->Prop} {V:Vw} {args:List PV}
theorem Oy (x:AQ) (h:FO B fs w bv F V args) (hsn:A3p V.s) (hi:MZ (E3 fs.c F w) w x) (hcl:x.pfClips=none/\x.fClips=[]/\x.cfClips=0) :
  Calls Tryz.prog 101 #[.pointer (some ⟨bv,0,none⟩),.agg (FF x).toArray] w (VwE B fs bv F w (Fu V { Jd x with fClips:=V.s.clips }) args):=by
 obtain ⟨bx,ca⟩:=h.base
 obtain ⟨H,vp,its,hs,cs,rfl,hO,hR⟩:=h.mem
 have a8:=hO.blk
 have a9:=hO.oi
 obtain ⟨pvc,cvc,lc,evc,en,aN,cb⟩:=hR.st.clips
 obtain ⟨fV,cc⟩:=RH (cb▸hsn.clips)
 obtain ⟨⟨ctm,fi,sk,pe,clv,fn,sz⟩,fo,sa,pa,X,Y,lo,te,li,ar,itv⟩:=H
 simp only at evc
 subst evc
 obtain ⟨pit,cit,eit,-,-,g2,-,-,g3,-⟩:=a9.row
 simp only at eit
 subst eit
 have g4:=a8.lt
 have j:=a9.lt
 have ga:its.length=V.items.length:=by rw [<- hR.it,BD]
 have eo:=Kc a9 a8.ty
 have fw:∀ w1,AB w.heap.size [bv,vb (.slice pit its.length cit) bv] w w1->Below B w w1:=λw1 hK=>hK.below ca (λk hk=>by
  simp only [Ar,AA,C8] at hk;rcases hk with rfl | rfl;exact bx;rcases Yc (.slice pit its.length cit) bv with d | d;rw [d];exact bx;exact (j _ d).1)
 have cd:∀ g,E3 fs.c (Gm bv ⟨⟨ctm,fi,sk,pe,.slice pvc lc.length cvc,fn,sz⟩,fo,sa,pa,X,Y,lo,te,li,ar,.slice pit its.length cit⟩ vp) w g->g<w.heap.size/\g ∉ [bv,vb (.slice pit its.length cit) bv]:=λg hg=>⟨hg.1,λhm=>hg.2.1 ((Ll (N:=w.heap.size) (v:=.slice pit its.length cit) (F:=Gm bv ⟨⟨ctm,fi,sk,pe,.slice pvc lc.length cvc,fn,sz⟩,fo,sa,pa,X,Y,lo,te,li,ar,.slice pit its.length cit⟩ vp) (λg hg=>.inr (.inr (.inr (.inl hg)))) (.inl rfl) g hm).elim id (λh=>CM hg.1 oO))⟩
 have ey:∀ {w1:World},AB w.heap.size [bv,vb (.slice pit its.length cit) bv] w w1->Be Gk w1 pvc lc:=λhK=>rk_ en.row hK (λh0=>cd _ (en.inn h0))
 have d1:=ca
 refine W.e func101 rfl ntmps101 bL ?_
 have ep:=AB.refl w.heap.size ([bv,vb (.slice pit its.length cit) bv]) w
 refine A4<|CU rfl rfl (λJ gb cf ez aO g5=>?_)
 have eA:=AW d1 aO.size
 have fx:=GU a9 cf aO
 have fy:=Bg cf a8.lt
 have eq:=a8.un aO fy
 have d2:=Cq cf ep.size
 have er:=DA ep (Hf aO d2)
 refine WL.e<|A4<|A2 rfl<|A0 (.nck rfl)<|A0 (.fa BL rfl MK dD rfl)<|Ag (Ad (P3 _) rfl eq rfl)<|A0 (.lenS KU rfl)<|A0 (.bis (decide (V.items.length<4096)) (.lss rfl rfl) (by exact D5.2 oO))<|Bk AN rfl rfl ((Nz _ _)) (λfz w9 bk aw=>?_) (λgc w9 bk aw=>?_)
 have d3:=kB er aw
 exact Aw (Dq fz (by unfold Fu;exact Ax bk) (fw _ d3))
 have fW:=AW eA aw.size
 have eB:=AD.below fx aw
 have cg:=eq.bl aw
 have eC:=ez.bl aw
 have eD:=kB er aw
 have bm:=bk
 refine WL.e<|Ah<|A4<|A2 rfl<|A0 (.nck rfl)<|A0 (.fa BL rfl Ey dD rfl)<|A0 (.fa Fb rfl GA dD rfl)<|Ag (Ad (Kj _) rfl cg rfl)<|A0 (.lenS Fi rfl)<|A2 rfl<|WL.e<|W.b<|Cj (α:=Option Addr × List Bv × Nat × Nat) (λt=>[(0,.pointer (some ⟨bv,0,none⟩)),(3,.pointer (some ⟨J,0,none⟩)),(17,.slice pvc lc.length cvc),(18,.int .i64 (lc.length:Int)),(19,.int .i64 (t.2.2.2:Int))]) (λt w'=>AB w.heap.size [bv,vb (.slice pit its.length cit) bv] w w'/\AF w' bv (Fh ⟨⟨ctm,fi,sk,pe,.slice pvc lc.length cvc,fn,sz⟩,fo,sa,pa,X,Y,lo,te,li,ar,.slice pit its.length cit⟩).toArray 74/\AF w' J (FF (itC x t.1 t.2.1 t.2.2.1)).toArray 44/\AD Ls 44 B w' (.slice pit its.length cit) its/\AD Gk 61 (J+1) w' (.slice t.1 t.2.1.length t.2.2.1) t.2.1/\Jf w' (λk=>J<k/\(Value.slice t.1 t.2.1.length t.2.2.1).ownBlock≠some k) t.2.1/\t.2.2.2<=lc.length/\t.2.1.map Fn=(lc.take t.2.2.2).map Fn) (λt=>lc.length-t.2.2.2) ((none,[],0,0)) ⟨rfl,rfl,rfl,rfl,rfl,tT⟩ (⟨eD,cg,by have h3:=eC;rw [show x=itC x none [] 0 by obtain ⟨q1,q2,q3⟩:=hcl;unfold itC;rw [<- q1,<- q2,<- q3]] at h3;exact h3,eB,AD.nil _ _ _ _,Jf.nil _ _,Gg _,rfl⟩) (λt w1 hR=>?_)
 obtain ⟨⟨p1,L1,c1,i⟩,fA⟩:∃ u,u=t:=⟨t,rfl⟩
 subst fA
 obtain ⟨q1,q2,q3,q4,q5,q6,q7,q8⟩:=hR
 simp only at q3 q5 q6 q7 q8
 have ci:=q3.lt
 have cj:B<=w1.heap.size:=AW ca q1.size
 have f:=q5.lt
 have ge:L1.length=i:=by have:=Bc List.length q8;rw [BD,BD,AT] at this;omega
 have ck:=ey q1
 have es:Jf w1 (λk=>k<w1.heap.size/\(J<k/\(Value.slice p1 L1.length c1).ownBlock≠some k)) L1:=q6.mono (λk hk hl=>⟨hl,hk⟩)
 refine A4<|A0 (.lss rfl rfl)<|WL.e<|Ah<|Ac rfl (λcl=>?_) (λcl=>?_)
 have eF:=dT cl
 have aa:i<lc.length:=by first | omega | (simp only at *;omega)
 refine W.k<|Ah<|W.b<|A4<|A0 (.ixm Fi Kr rfl rfl (ck.isp oC) (i) (rfl) oO)<|Ag (DP PH rfl A5x ck (i) oC rfl)<|BV RY rfl (λet eG ax d4 a2 fX=>?_)
 have d5:=AW ci a2.size
 have cm:=GU q5 ax a2
 have d6:=AW cj a2.size
 have eH:=GU q4 ax a2
 have eI:=Jf.same (w1:=eG) es (λk hk hl=>a2.other k oO)
 have eJ:=Bg ax q2.lt
 have eK:=q2.un a2 eJ
 have eL:=Bg ax q3.lt
 have eM:=q3.un a2 eL
 have cn:=Cq ax q1.size
 have eN:=DA q1 (Hf a2 cn)
 refine Az rfl rfl d4 A5x rfl rfl (λeu a a3 fY=>?_)
 have d7:=AW d5 a3.size
 have eO:=Ia cm a3 (λg hg e=>by first | (have:=(cm).lt g hg;omega) | (have:=f g hg;omega))
 have d8:=AW d6 a3.size
 have eP:=Ia eH a3 (λg hg e=>by first | (have:=j g hg;omega) | (subst e;rcases HF _ hg with d | d <;> first | exact BO a9 a8 dD _ d rfl | omega))
 have eQ:=Jf.same (w1:=eu) eI (λk hk hl=>a3.other k (by first | ((try simp only) <;> omega) | (have:=hk.1;((try simp only) <;> omega))))
 have eR:=eK.up a3
 have eS:=eM.up a3
 have eT:=kU eN a3
 refine WL.e<|Dr 12 rfl C7 (λw'=>w'.heap[et]?=eu.heap[et]?/\True) (λfB a6=>?_)
 have bz:=CZ.le d7 a6
 have aP:=AD.drew eO a6
 have bA:=CZ.le d8 a6
 have co:=AD.drew eP a6
 have cq:=Jf.same (w1:=fB) eQ (λk hk hl=>(by obtain ⟨m,rfl⟩:=a6;rfl))
 have cr:=eR.drew a6
 have ay:=eS.drew a6
 have bn:=a.drew a6
 have aQ:=DA eT (Q8 a6)
 have aL:=Dm (bn.trans a.symm) BG
 refine Af 0 rfl (.fa Dx rfl GA dD rfl) aL rfl ?_
 refine Af 2 rfl (.fa PH rfl IL dD rfl) aL rfl ?_
 refine BY 3 rfl (λw' hw'=>Ad (JL _) rfl ((hw'.1).trans a) rfl) aL rfl ?_
 refine Af 5 rfl (.fa PH rfl Ot dD rfl) aL rfl ?_
 refine BY 6 rfl (λw' hw'=>Ad (g4_ _) rfl ((hw'.1).trans a) rfl) aL rfl ?_
 refine Ea 1 rfl 4 rfl ?_ ?_
 refine Ag (Ad (Kj _) rfl ay rfl)<|WL.e<|⟨aL,?_⟩
 refine An 4 rfl<|DQ AN rfl rfl ((HV lc[i].pfPath lc[i].fPath lc[i].cfPath _ (rk_ (aN lc[i] (AJ aa)).row aQ (λh0=>cd _ ((aN lc[i] (AJ aa)).inn h0))) (AW (cc lc[i] (AJ aa)) dD))) (λxx ct a5=>?_)
 have d9:=AW bz a5.1.size
 have eU:=AD.below aP a5.1
 have da:=AW bA a5.1.size
 have eV:=AD.below co a5.1
 have eW:=Jf.same (w1:=ct) cq (λk hk hl=>a5.1.block k hl)
 have cu:=cr.bl a5.1
 have cw:=ay.bl a5.1
 have aR:=bn.bl a5.1
 have cy:=kB aQ a5.1
 have hx:=a5.2
 obtain ⟨xp,xc⟩:=xx
 have eX:=(ay).lt
 obtain ⟨p5,c5,e5,cz⟩:=CC.own (Z:=λk=>k<ct.heap.size/\(J<k/\(Value.slice p1 L1.length c1).ownBlock≠some k)) hx (λg hg=>⟨(hx.lt g hg).2,by have:=(hx.lt g hg).1;omega,λe=>by have:=(hx.lt g hg).1;have:=(aP).lt g e;omega⟩)
 cases e5
 have bB:Jf ct _ [(⟨xp,lc[i].fPath,xc,lc[i].fEvenOdd⟩:Bv)]:=⟨λy hy=>by rw [Am.1 hy];exact cz⟩
 refine WL.e<|⟨⟨(aR).trans (a).symm,tT⟩,?_⟩
 refine Af 7 rfl (.buildL (ps:=_) Wf rfl rfl rfl pS) ⟨(aR).trans (a).symm,tT⟩ rfl ?_
 refine An 8 rfl<|Cu (L:=Gk) (ps:=_) ([(⟨xp,lc[i].fPath,xc,lc[i].fEvenOdd⟩:Bv)]) Fi Kr RY rfl rfl rfl rfl rfl rD rfl rfl (λfC bo ap db K fZ=>?_)
 have bC:=AW d9 K.size
 have eY:=GU eU ap K
 have dc:=AW da K.size
 have cA:=GU eV ap K
 have eZ:=Jf.same (w1:=bo) eW (λk hk hl=>K.other k oO)
 have e':=Jf.same (w1:=bo) bB (λk hk hl=>K.other k oO)
 have f0:=Bg ap cu.lt
 have f1:=cu.un K f0
 have f2:=Bg ap cw.lt
 have f3:=cw.un K f2
 have f4:=Bg ap aR.lt
 have cB:=aR.un K f4
 have cC:=Cq ap cy.size
 have cD:=DA cy (Hf K cC)
 have fD:fC<=bo.heap.size:=by omega
 refine WL.e<|⟨⟨(cB).trans (a).symm,tT⟩,?_⟩
 refine An 9 rfl<|CW Fi MU rfl rfl rfl eY rfl (db).rowp oE (bC) rfl (λh=>CM h (Q6 _ _)) (λev gf aT bD a7 aU=>?_)
 have f5:=f1.grown a7 (λe=>by have:=f _ e;omega)
 have f6:=f3.grown a7 (λe=>by have:=f _ e;omega)
 have bp:=cB.grown a7 (λe=>by have:=f _ e;omega)
 have f7:=IZ (T:=λk=>k<w1.heap.size/\(J<k/\(ev).ownBlock≠some k)) eZ (λk hk hl=>a7.block k hl (λe=>hk.2.2 e.symm)) (λk hk hl=>⟨hk.1,hk.2.1,λe=>by rcases aU k e with h | h;exact hk.2.2 h;omega⟩)
 have f8:=IZ (T:=λk=>True/\(J<k/\(ev).ownBlock≠some k)) e' (λk hk hl=>a7.block k hl (λe=>hk.2.2 e.symm)) (λk hk hl=>⟨trivial,hk.2.1,λe=>by rcases aU k e with h | h;exact hk.2.2 h;omega⟩)
 have f9:=AD.same cA (λg hg=>a7.block g ((cA).lt g hg).2 (λhx=>by have d:=j g hg;have h2:=f g hx.symm;omega))
 have dd:=AW dc bD.size
 have fb:=DA cD (C1 a7 (λg hg=>.inr (by have:=f g hg;omega)) cD.size)
 have de:=AW bC bD.size
 obtain ⟨pv,cv,evv,-⟩:=(aT).row
 subst evv
 refine WL.e<|⟨⟨(bp).trans (a).symm,tT⟩,?_⟩
 refine Af 10 rfl (.fa Dx rfl GA dD rfl) ⟨(bp).trans (a).symm,tT⟩ rfl ?_
 refine An 11 rfl<|C2 (o:=7) ((FF (itC x pv (L1++[(⟨xp,lc[i].fPath,xc,lc[i].fEvenOdd⟩:Bv)]) cv)).toArray) GA rfl (rfl) rfl (rfl) f6 bL (rfl) (λcE aV D f'=>?_)
 have aV:AF cE J _ _:=aV
 have D:BF J _ _:=D
 have g0:=AW de D.size
 have fc:=Ia aT D (λg hg e=>by first | (have:=(aT).lt g hg;omega) | (have:=f g hg;omega))
 have g1:=AW dd D.size
 have fd:=Ia f9 D (λg hg e=>by first | (have:=j g hg;omega) | (subst e;rcases aU _ hg with d | d <;> first | exact BO a9 a8 dD _ d rfl | omega))
 have fe:=Jf.same (w1:=cE) f7 (λk hk hl=>D.other k (by have:=hk.2.1;omega))
 have ff:=Jf.same (w1:=cE) f8 (λk hk hl=>D.other k (by have:=hk.2.1;omega))
 have fg:=f5.up D
 have fh:=bp.up D
 have df:=kU fb D
 refine WL.e<|⟨⟨(fh).trans (a).symm,tT⟩,?_⟩
 refine Bd kR<|Ak<|A0 (.iis (((i+1:Nat):Int)) (.add rfl rfl (Bp (by (try simp only) <;> omega))) oM)<|A2 rfl<|WL.e<|?_
 exact ⟨(pv,L1++[(⟨xp,lc[i].fPath,xc,lc[i].fEvenOdd⟩:Bv)],cv,i+1),⟨rfl,rfl,rfl,rfl,rfl,tT⟩,⟨df,fg,aV,fd,fc,((fe).mono (λk hk _=>hk.2)).app ((ff).mono (λk hk _=>hk.2)),by ((try simp only) <;> omega),by rw [BC,q8,B7 aa,BC];rfl⟩,by ((try simp only) <;> omega)⟩
 refine DQ AN rfl rfl ((HV lc[i].pfPath lc[i].fPath lc[i].cfPath _ (rk_ (aN lc[i] (AJ aa)).row aQ (λh0=>cd _ ((aN lc[i] (AJ aa)).inn h0))) (AW (cc lc[i] (AJ aa)) dD))) (λxx bq P=>?_)
 have b4:=AW bz P.1.size
 have bE:=AD.below aP P.1
 have b5:=AW bA P.1.size
 have bG:=AD.below co P.1
 have bH:=Jf.same (w1:=bq) cq (λk hk hl=>P.1.block k hl)
 have aq:=cr.bl P.1
 have ai:=ay.bl P.1
 have aj:=bn.bl P.1
 have au:=kB aQ P.1
 have hx:=P.2
 obtain ⟨xp,xc⟩:=xx
 have eX:=(ay).lt
 obtain ⟨p5,c5,e5,cz⟩:=CC.own (Z:=λk=>k<bq.heap.size/\(J<k/\(Value.slice p1 L1.length c1).ownBlock≠some k)) hx (λg hg=>⟨(hx.lt g hg).2,by have:=(hx.lt g hg).1;omega,λe=>by have:=(hx.lt g hg).1;have:=(aP).lt g e;omega⟩)
 cases e5
 have bB:Jf bq _ [(⟨xp,lc[i].fPath,xc,lc[i].fEvenOdd⟩:Bv)]:=⟨λy hy=>by rw [Am.1 hy];exact cz⟩
 refine WL.e<|?_
 have cF:=Dm (aj.trans a.symm) BG
 refine ⟨cF,?_⟩
 refine Af 7 rfl (.buildL (ps:=_) Wf rfl rfl rfl pS) cF rfl ?_
 refine Ea 1 rfl 8 rfl ?_ ?_
 refine Ag (Ad (Kj _) rfl ai rfl)<|WL.e<|⟨cF,?_⟩
 refine An 8 rfl<|Cu (L:=Gk) (ps:=_) ([(⟨xp,lc[i].fPath,xc,lc[i].fEvenOdd⟩:Bv)]) Fi Kr RY rfl rfl rfl rfl rfl rD rfl rfl (λfj aW ae cG A fE=>?_)
 have b6:=AW b4 A.size
 have dg:=GU bE ae A
 have cH:=AW b5 A.size
 have bI:=GU bG ae A
 have dh:=Jf.same (w1:=aW) bH (λk hk hl=>A.other k oO)
 have di:=Jf.same (w1:=aW) bB (λk hk hl=>A.other k oO)
 have dj:=Bg ae aq.lt
 have dk:=aq.un A dj
 have dl:=Bg ae ai.lt
 have dm:=ai.un A dl
 have dn:=Bg ae aj.lt
 have bJ:=aj.un A dn
 have c6:=Cq ae au.size
 have bK:=DA au (Hf A c6)
 have fr:fj<=aW.heap.size:=by omega
 refine WL.e<|⟨⟨(bJ).trans (a).symm,tT⟩,?_⟩
 refine An 9 rfl<|CW Fi MU rfl rfl rfl dg rfl (cG).rowp oE (b6) rfl (λh=>CM h (Q6 _ _)) (λcI g6 az b7 a0 aA=>?_)
 have dp:=dk.grown a0 (λe=>by have:=f _ e;omega)
 have dq:=dm.grown a0 (λe=>by have:=f _ e;omega)
 have aX:=bJ.grown a0 (λe=>by have:=f _ e;omega)
 have dr:=IZ (T:=λk=>k<w1.heap.size/\(J<k/\(cI).ownBlock≠some k)) dh (λk hk hl=>a0.block k hl (λe=>hk.2.2 e.symm)) (λk hk hl=>⟨hk.1,hk.2.1,λe=>by rcases aA k e with h | h;exact hk.2.2 h;omega⟩)
 have ds:=IZ (T:=λk=>True/\(J<k/\(cI).ownBlock≠some k)) di (λk hk hl=>a0.block k hl (λe=>hk.2.2 e.symm)) (λk hk hl=>⟨trivial,hk.2.1,λe=>by rcases aA k e with h | h;exact hk.2.2 h;omega⟩)
 have dt:=AD.same bI (λg hg=>a0.block g ((bI).lt g hg).2 (λhx=>by have d:=j g hg;have h2:=f g hx.symm;omega))
 have cJ:=AW cH b7.size
 have du:=DA bK (C1 a0 (λg hg=>.inr (by have:=f g hg;omega)) bK.size)
 have cK:=AW b6 b7.size
 obtain ⟨pv,cv,evv,-⟩:=(az).row
 subst evv
 refine WL.e<|⟨⟨(aX).trans (a).symm,tT⟩,?_⟩
 refine Af 10 rfl (.fa Dx rfl GA dD rfl) ⟨(aX).trans (a).symm,tT⟩ rfl ?_
 refine An 11 rfl<|C2 (o:=7) ((FF (itC x pv (L1++[(⟨xp,lc[i].fPath,xc,lc[i].fEvenOdd⟩:Bv)]) cv)).toArray) GA rfl (rfl) rfl (rfl) dq bL (rfl) (λbt aB l fF=>?_)
 have aB:AF bt J _ _:=aB
 have l:BF J _ _:=l
 have fG:=AW cK l.size
 have dv:=Ia az l (λg hg e=>by first | (have:=(az).lt g hg;omega) | (have:=f g hg;omega))
 have fH:=AW cJ l.size
 have dw:=Ia dt l (λg hg e=>by first | (have:=j g hg;omega) | (subst e;rcases aA _ hg with d | d <;> first | exact BO a9 a8 dD _ d rfl | omega))
 have dx:=Jf.same (w1:=bt) dr (λk hk hl=>l.other k (by have:=hk.2.1;omega))
 have dy:=Jf.same (w1:=bt) ds (λk hk hl=>l.other k (by have:=hk.2.1;omega))
 have dz:=dp.up l
 have dA:=aX.up l
 have dB:=kU du l
 refine WL.e<|⟨⟨(dA).trans (a).symm,tT⟩,?_⟩
 refine Bd kR<|Ak<|A0 (.iis (((i+1:Nat):Int)) (.add rfl rfl (Bp (by (try simp only) <;> omega))) oM)<|A2 rfl<|WL.e<|?_
 exact ⟨(pv,L1++[(⟨xp,lc[i].fPath,xc,lc[i].fEvenOdd⟩:Bv)],cv,i+1),⟨rfl,rfl,rfl,rfl,rfl,tT⟩,⟨dB,dz,aB,dw,dv,((dx).mono (λk hk _=>hk.2)).app ((dy).mono (λk hk _=>hk.2)),by ((try simp only) <;> omega),by rw [BC,q8,B7 aa,BC];rfl⟩,by ((try simp only) <;> omega)⟩
 refine Cu (L:=Gk) (ps:=_) ([(⟨xp,lc[i].fPath,xc,lc[i].fEvenOdd⟩:Bv)]) Fi Kr RY rfl rfl rfl rfl rfl rD rfl rfl (λfk aY af cL C fI=>?_)
 have b8:=AW b4 C.size
 have dC:=GU bE af C
 have cM:=AW b5 C.size
 have bM:=GU bG af C
 have dE:=Jf.same (w1:=aY) bH (λk hk hl=>C.other k oO)
 have dG:=Jf.same (w1:=aY) bB (λk hk hl=>C.other k oO)
 have dH:=Bg af aq.lt
 have dI:=aq.un C dH
 have dJ:=Bg af ai.lt
 have bN:=ai.un C dJ
 have dK:=Bg af aj.lt
 have aZ:=aj.un C dK
 have c7:=Cq af au.size
 have bO:=DA au (Hf C c7)
 have ft:fk<=aY.heap.size:=by omega
 refine WL.e<|⟨⟨(aZ).trans (a).symm,tT⟩,?_⟩
 refine An 1 rfl<|Ag (Ad (Kj _) rfl bN rfl)<|WL.e<|⟨⟨(aZ).trans (a).symm,tT⟩,?_⟩
 refine An 9 rfl<|CW Fi MU rfl rfl rfl dC rfl (cL).rowp oE (b8) rfl (λh=>CM h (Q6 _ _)) (λcN g7 aC b9 a1 aD=>?_)
 have dL:=dI.grown a1 (λe=>by have:=f _ e;omega)
 have dM:=bN.grown a1 (λe=>by have:=f _ e;omega)
 have a':=aZ.grown a1 (λe=>by have:=f _ e;omega)
 have dN:=IZ (T:=λk=>k<w1.heap.size/\(J<k/\(cN).ownBlock≠some k)) dE (λk hk hl=>a1.block k hl (λe=>hk.2.2 e.symm)) (λk hk hl=>⟨hk.1,hk.2.1,λe=>by rcases aD k e with h | h;exact hk.2.2 h;omega⟩)
 have dO:=IZ (T:=λk=>True/\(J<k/\(cN).ownBlock≠some k)) dG (λk hk hl=>a1.block k hl (λe=>hk.2.2 e.symm)) (λk hk hl=>⟨trivial,hk.2.1,λe=>by rcases aD k e with h | h;exact hk.2.2 h;omega⟩)
 have dP:=AD.same bM (λg hg=>a1.block g ((bM).lt g hg).2 (λhx=>by have d:=j g hg;have h2:=f g hx.symm;omega))
 have cO:=AW cM b9.size
 have dQ:=DA bO (C1 a1 (λg hg=>.inr (by have:=f g hg;omega)) bO.size)
 have cP:=AW b8 b9.size
 obtain ⟨pv,cv,evv,-⟩:=(aC).row
 subst evv
 refine WL.e<|⟨⟨(a').trans (a).symm,tT⟩,?_⟩
 refine Af 10 rfl (.fa Dx rfl GA dD rfl) ⟨(a').trans (a).symm,tT⟩ rfl ?_
 refine An 11 rfl<|C2 (o:=7) ((FF (itC x pv (L1++[(⟨xp,lc[i].fPath,xc,lc[i].fEvenOdd⟩:Bv)]) cv)).toArray) GA rfl (rfl) rfl (rfl) dM bL (rfl) (λbu aE q fJ=>?_)
 have aE:AF bu J _ _:=aE
 have q:BF J _ _:=q
 have fK:=AW cP q.size
 have dR:=Ia aC q (λg hg e=>by first | (have:=(aC).lt g hg;omega) | (have:=f g hg;omega))
 have fL:=AW cO q.size
 have dS:=Ia dP q (λg hg e=>by first | (have:=j g hg;omega) | (subst e;rcases aD _ hg with d | d <;> first | exact BO a9 a8 dD _ d rfl | omega))
 have dU:=Jf.same (w1:=bu) dN (λk hk hl=>q.other k (by have:=hk.2.1;omega))
 have dV:=Jf.same (w1:=bu) dO (λk hk hl=>q.other k (by have:=hk.2.1;omega))
 have dW:=dL.up q
 have dX:=a'.up q
 have dY:=kU dQ q
 refine WL.e<|⟨⟨(dX).trans (a).symm,tT⟩,?_⟩
 refine Bd kR<|Ak<|A0 (.iis (((i+1:Nat):Int)) (.add rfl rfl (Bp (by (try simp only) <;> omega))) oM)<|A2 rfl<|WL.e<|?_
 exact ⟨(pv,L1++[(⟨xp,lc[i].fPath,xc,lc[i].fEvenOdd⟩:Bv)],cv,i+1),⟨rfl,rfl,rfl,rfl,rfl,tT⟩,⟨dY,dW,aE,dS,dR,((dU).mono (λk hk _=>hk.2)).app ((dV).mono (λk hk _=>hk.2)),by ((try simp only) <;> omega),by rw [BC,q8,B7 aa,BC];rfl⟩,by ((try simp only) <;> omega)⟩
 have eF:=dF cl
 have aa:i=lc.length:=by first | omega | (simp only at *;omega)
 have ew:V.items.length<4096:=by
  unfold H6 at bm
  split at bm;exact dT aS;cases bm
 have ex:L1.map Fn=V.s.clips:=by rw [q8,aa,Cs];exact cb
 refine C0<|Dr 11 rfl C7 (λw'=>w'.heap[J]?=w1.heap[J]?/\True) (λfl a4=>?_)
 have ba:=CZ.le ci a4
 have bP:=AD.drew q5 a4
 have bb:=CZ.le cj a4
 have bQ:=AD.drew q4 a4
 have bR:=Jf.same (w1:=fl) es (λk hk hl=>(by obtain ⟨m,rfl⟩:=a4;rfl))
 have ak:=q2.drew a4
 have am:=q3.drew a4
 have av:=DA q1 (Q8 a4)
 have aM:=Dm (am.trans q3.symm) BG
 refine Af 0 rfl (.mv rfl) aM rfl ?_
 refine Af 1 rfl (.mv rfl) aM rfl ?_
 refine Af 2 rfl (.nck rfl) aM rfl ?_
 refine Af 3 rfl (.fa BL rfl MK dD rfl) aM rfl ?_
 refine BY 5 rfl (λw' hw'=>BA rfl ((hw'.1).trans q3) Dx rfl Th) aM rfl ?_
 refine Ea 4 rfl 6 rfl ?_ ?_
 refine Ag (Ad (P3 _) rfl ak rfl)<|WL.e<|⟨aM,?_⟩
 refine An 6 rfl<|Cu (L:=Ls) (ps:=_) ([itC x p1 L1 c1]) KU X8 zeroValue44 rfl rfl rfl rfl rfl rD rfl rfl (λfm bS an cQ Q fM=>?_)
 have cR:=AW ba Q.size
 have bT:=GU bP an Q
 have bc:=AW bb Q.size
 have dZ:=GU bQ an Q
 have d':=Jf.same (w1:=bS) bR (λk hk hl=>Q.other k oO)
 have e0:=Bg an ak.lt
 have e1:=ak.un Q e0
 have e3:=Bg an am.lt
 have bU:=am.un Q e3
 have c8:=Cq an av.size
 have b0:=DA av (Hf Q c8)
 have fu:fm<=bS.heap.size:=by omega
 refine WL.e<|⟨⟨(bU).trans (q3).symm,tT⟩,?_⟩
 refine An 7 rfl<|CW KU A5B rfl rfl rfl dZ rfl (cQ).rowp oE (bc) rfl (λh=>CM h (Q6 _ _)) (λag g8 bd be ab aF=>?_)
 have e4:=e1.grown ab (λe=>BO a9 a8 dD _ e rfl)
 have bV:=bU.grown ab (λe=>by have:=j _ e;omega)
 have e6:=IZ (T:=λk=>True/\(J<k/\(Value.slice p1 L1.length c1).ownBlock≠some k/\(ag).ownBlock≠some k)) d' (λk hk hl=>ab.block k hl (λe=>by have:=j _ e.symm;have:=hk.2.1;omega)) (λk hk hl=>⟨trivial,hk.2.1,hk.2.2,λe=>by rcases aF k e with h | h;(have:=j _ h;have:=hk.2.1;omega);omega⟩)
 have bW:=AD.same bT (λg hg=>ab.block g ((bT).lt g hg).2 (λhx=>by have d:=j g hx.symm;have h2:=f g hg;omega))
 have cS:=AW cR be.size
 have e7:=DA b0 (C1 ab (λg hg=>.inl (by have hg:(Value.slice pit its.length cit).ownBlock=some g:=hg;rw [FR hg];simp)) b0.size)
 have cT:=AW bc be.size
 refine WL.e<|?_
 have cU:=Dm (bV.trans q3.symm) BG
 refine ⟨cU,?_⟩
 refine Af 8 rfl (.nck rfl) cU rfl ?_
 refine Af 9 rfl (.fa BL rfl MK dD rfl) cU rfl ?_
 refine An 10 rfl<|C2 (o:=44) ((Fh ⟨⟨ctm,fi,sk,pe,.slice pvc lc.length cvc,fn,sz⟩,fo,sa,pa,X,Y,lo,te,li,ar,ag⟩).toArray) MK rfl (rfl) rfl ((bd).one) e4 bL (rfl) (λaG aH E fN=>?_)
 have aH:AF aG bv _ _:=aH
 have E:BF bv _ _:=E
 have fO:=AW cS E.size
 have e8:=Ia bW E (λg hg e=>by first | (have:=(bW).lt g hg;omega) | (have:=f g hg;omega))
 have fP:=AW cT E.size
 have e9:=Ia bd E (λg hg e=>by first | (have:=j g hg;omega) | (subst e;rcases aF _ hg with d | d <;> first | exact BO a9 a8 dD _ d rfl | omega))
 have ea:=Jf.same (w1:=aG) e6 (λk hk hl=>E.other k (by have:=hk.2.1;omega))
 have eb:=bV.up E
 have bX:=kU e7 E
 refine WL.e<|⟨⟨(eb).trans (q3).symm,tT⟩,?_⟩
 refine Bd kR<|BJ (Bt rfl ?_)
 have bf:=e9
 have ac:=e8
 have cV:=b0.size
 have fQ:=q3.lt
 have fp:w.heap.size<=J:=by omega
 obtain ⟨-,r2,-,r4,r5⟩:=hO.rest bX _ eo
 have hC:Df (Gm bv ⟨⟨ctm,fi,sk,pe,.slice pvc lc.length cvc,fn,sz⟩,fo,sa,pa,X,Y,lo,te,li,ar,.slice pit its.length cit⟩ vp) (Gm bv ⟨⟨ctm,fi,sk,pe,.slice pvc lc.length cvc,fn,sz⟩,fo,sa,pa,X,Y,lo,te,li,ar,ag⟩ vp) w aG:=Cn bX (Ll (λg hg=>.inr (.inr (.inr (.inl hg))))) (λg hg=>by
  rcases hg with d | d | d | d | d;exact .inl (.inl d);exact .inl (.inr (.inl d));exact .inl (.inr (.inr (.inl d)));exact (aF g d).imp (λh=>.inr (.inr (.inr (.inl h)))) (λh=>AW cV h);exact .inl (.inr (.inr (.inr (.inr d)))))
 have bg:∀ g,J<g->(ag).ownBlock≠some g->¬ Gm bv ⟨⟨ctm,fi,sk,pe,.slice pvc lc.length cvc,fn,sz⟩,fo,sa,pa,X,Y,lo,te,li,ar,ag⟩ vp g:=λg d h2 hf=>by
  rcases hf with h | h | h | h | h;have:=(hO.inn g (.inl h)).2;omega;have:=(hO.inn g (.inr (.inl h))).2;omega;have:=(hO.inn g (.inr (.inr (.inl h)))).2;omega;exact h2 h;have:=(hO.inn g (.inr (.inr (.inr (.inr h))))).2;omega
 refine GD _ _ (show Fu V _=.ok { V with items:=V.items++[_] } by unfold Fu;rw [Aj ew];rfl) rfl ⟨rfl,_,⟨_,vp,its++[itC x p1 L1 c1],hs,cs,rfl,⟨aH,r2 dD dD,bf,r4 dD,r5 dD,bx,hO.lbp⟩,?_⟩,hC⟩
 have m:=E3.mv (c:=fs.c) hC
 have hq:=hR.mv m
 obtain ⟨p2,c2,e2,cW⟩:=CC.own (Z:=E3 fs.c (Gm bv ⟨⟨ctm,fi,sk,pe,.slice pvc lc.length cvc,fn,sz⟩,fo,sa,pa,X,Y,lo,te,li,ar,ag⟩ vp) aG) ac (λg hg=>⟨(ac.lt g hg).2,bg g (by have:=(ac.lt g hg).1;omega) (Vu ac bf dD g hg),by have:=hR.cx;have:=(ac.lt g hg).1;omega⟩)
 cases e2
 have bw:=((ea).mono (T:=E3 fs.c (Gm bv ⟨⟨ctm,fi,sk,pe,.slice pvc lc.length cvc,fn,sz⟩,fo,sa,pa,X,Y,lo,te,li,ar,ag⟩ vp) aG) (λk hk hl=>⟨hl,bg k hk.2.1 hk.2.2.2,by have:=hR.cx;have:=hk.2.1;omega⟩)).all
 refine { hq with it:=?_,itr:=?_ }
 rw [BC,hq.it,<- ex];rfl
 intro y hy
 rcases Ba.1 hy with hy | hy
 exact hq.itr y hy
 rw [Am.1 hy]
 exact ⟨hi.path.mv m,cW,bw,hi.pen.mv m,hi.bytes.mv m⟩
 refine Cu (L:=Ls) (ps:=_) ([itC x p1 L1 c1]) KU X8 zeroValue44 rfl rfl rfl rfl rfl rD rfl rfl (λfq bY ao cX U fR=>?_)
 have cY:=AW ba U.size
 have bZ:=GU bP ao U
 have bh:=AW bb U.size
 have ec:=GU bQ ao U
 have ed:=Jf.same (w1:=bY) bR (λk hk hl=>U.other k oO)
 have ee:=Bg ao ak.lt
 have b':=ak.un U ee
 have ef:=Bg ao am.lt
 have b2:=am.un U ef
 have c9:=Cq ao av.size
 have b3:=DA av (Hf U c9)
 have fv:fq<=bY.heap.size:=by omega
 refine WL.e<|⟨⟨(b2).trans (q3).symm,tT⟩,?_⟩
 refine An 4 rfl<|Ag (Ad (P3 _) rfl b' rfl)<|WL.e<|⟨⟨(b2).trans (q3).symm,tT⟩,?_⟩
 refine An 7 rfl<|CW KU A5B rfl rfl rfl ec rfl (cX).rowp oE (bh) rfl (λh=>CM h (Q6 _ _)) (λah g9 bi bj ad aI=>?_)
 have eg:=b'.grown ad (λe=>BO a9 a8 dD _ e rfl)
 have c0:=b2.grown ad (λe=>by have:=j _ e;omega)
 have eh:=IZ (T:=λk=>True/\(J<k/\(Value.slice p1 L1.length c1).ownBlock≠some k/\(ah).ownBlock≠some k)) ed (λk hk hl=>ad.block k hl (λe=>by have:=j _ e.symm;have:=hk.2.1;omega)) (λk hk hl=>⟨trivial,hk.2.1,hk.2.2,λe=>by rcases aI k e with h | h;(have:=j _ h;have:=hk.2.1;omega);omega⟩)
 have c3:=AD.same bZ (λg hg=>ad.block g ((bZ).lt g hg).2 (λhx=>by have d:=j g hx.symm;have h2:=f g hg;omega))
 have cZ:=AW cY bj.size
 have ei:=DA b3 (C1 ad (λg hg=>.inl (by have hg:(Value.slice pit its.length cit).ownBlock=some g:=hg;rw [FR hg];simp)) b3.size)
 have c':=AW bh bj.size
 refine WL.e<|?_
 have d0:=Dm (c0.trans q3.symm) BG
 refine ⟨d0,?_⟩
 refine Af 8 rfl (.nck rfl) d0 rfl ?_
 refine Af 9 rfl (.fa BL rfl MK dD rfl) d0 rfl ?_
 refine An 10 rfl<|C2 (o:=44) ((Fh ⟨⟨ctm,fi,sk,pe,.slice pvc lc.length cvc,fn,sz⟩,fo,sa,pa,X,Y,lo,te,li,ar,ah⟩).toArray) MK rfl (rfl) rfl ((bi).one) eg bL (rfl) (λaJ aK G fS=>?_)
 have aK:AF aJ bv _ _:=aK
 have G:BF bv _ _:=G
 have fT:=AW cZ G.size
 have ej:=Ia c3 G (λg hg e=>by first | (have:=(c3).lt g hg;omega) | (have:=f g hg;omega))
 have fU:=AW c' G.size
 have ek:=Ia bi G (λg hg e=>by first | (have:=j g hg;omega) | (subst e;rcases aI _ hg with d | d <;> first | exact BO a9 a8 dD _ d rfl | omega))
 have el:=Jf.same (w1:=aJ) eh (λk hk hl=>G.other k (by have:=hk.2.1;omega))
 have em:=c0.up G
 have c4:=kU ei G
 refine WL.e<|⟨⟨(em).trans (q3).symm,tT⟩,?_⟩
 refine Bd kR<|BJ (Bt rfl ?_)
 have bf:=ek
 have ac:=ej
 have cV:=b3.size
 have fQ:=q3.lt
 have fp:w.heap.size<=J:=by omega
 obtain ⟨-,r2,-,r4,r5⟩:=hO.rest c4 _ eo
 have hC:Df (Gm bv ⟨⟨ctm,fi,sk,pe,.slice pvc lc.length cvc,fn,sz⟩,fo,sa,pa,X,Y,lo,te,li,ar,.slice pit its.length cit⟩ vp) (Gm bv ⟨⟨ctm,fi,sk,pe,.slice pvc lc.length cvc,fn,sz⟩,fo,sa,pa,X,Y,lo,te,li,ar,ah⟩ vp) w aJ:=Cn c4 (Ll (λg hg=>.inr (.inr (.inr (.inl hg))))) (λg hg=>by
  rcases hg with d | d | d | d | d;exact .inl (.inl d);exact .inl (.inr (.inl d));exact .inl (.inr (.inr (.inl d)));exact (aI g d).imp (λh=>.inr (.inr (.inr (.inl h)))) (λh=>AW cV h);exact .inl (.inr (.inr (.inr (.inr d)))))
 have bg:∀ g,J<g->(ah).ownBlock≠some g->¬ Gm bv ⟨⟨ctm,fi,sk,pe,.slice pvc lc.length cvc,fn,sz⟩,fo,sa,pa,X,Y,lo,te,li,ar,ah⟩ vp g:=λg d h2 hf=>by
  rcases hf with h | h | h | h | h;have:=(hO.inn g (.inl h)).2;omega;have:=(hO.inn g (.inr (.inl h))).2;omega;have:=(hO.inn g (.inr (.inr (.inl h)))).2;omega;exact h2 h;have:=(hO.inn g (.inr (.inr (.inr (.inr h))))).2;omega
 refine GD _ _ (show Fu V _=.ok { V with items:=V.items++[_] } by unfold Fu;rw [Aj ew];rfl) rfl ⟨rfl,_,⟨_,vp,its++[itC x p1 L1 c1],hs,cs,rfl,⟨aK,r2 dD dD,bf,r4 dD,r5 dD,bx,hO.lbp⟩,?_⟩,hC⟩
 have m:=E3.mv (c:=fs.c) hC
 have hq:=hR.mv m
 obtain ⟨p2,c2,e2,cW⟩:=CC.own (Z:=E3 fs.c (Gm bv ⟨⟨ctm,fi,sk,pe,.slice pvc lc.length cvc,fn,sz⟩,fo,sa,pa,X,Y,lo,te,li,ar,ah⟩ vp) aJ) ac (λg hg=>⟨(ac.lt g hg).2,bg g (by have:=(ac.lt g hg).1;omega) (Vu ac bf dD g hg),by have:=hR.cx;have:=(ac.lt g hg).1;omega⟩)
 cases e2
 have bw:=((el).mono (T:=E3 fs.c (Gm bv ⟨⟨ctm,fi,sk,pe,.slice pvc lc.length cvc,fn,sz⟩,fo,sa,pa,X,Y,lo,te,li,ar,ah⟩ vp) aJ) (λk hk hl=>⟨hl,bg k hk.2.1 hk.2.2.2,by have:=hR.cx;have:=hk.2.1;omega⟩)).all
 refine { hq with it:=?_,itr:=?_ }
 rw [BC,hq.it,<- ex];rfl
 intro y hy
 rcases Ba.1 hy with hy | hy
 exact hq.itr y hy
 rw [Am.1 hy]
 exact ⟨hi.path.mv m,cW,bw,hi.pen.mv m,hi.bytes.mv m⟩
end
end
section
section
variable {P:Program} {n:Sh} {f:Fr}
theorem A70  {Q:Exit->Fr->World->Prop} {rest:List Oper} {d:Option Tmp} {ty:Nat} {F:FuncId} {first cap args:Array Value} {xs:List Operand}
  {ch:List PanicEntry} {S:World->Prop} (hb:Dk P F) (hf:D0 f x=some (.func (.func F) first cap)) (hx:Rw f xs=some vs) (ha:first++vs.toArray++cap=args)
  (hc:Calls P F args w λe w'=>e=.panicked ch/\S w') (k:∀ w',S w'->Q (.panic ch) f w') :
  WL P n ops Q (⟨d,.call ⟨.value x,xs.toArray,ats⟩,ty,pos,aft,none⟩::rest) f w:=by
 unfold WL at *
 intro a ha'
 refine wpList_plain rfl λK hK=>?_
 unfold Oper.wp
 rw [SN hb ha'.agr hf hx ha,Oper.upon_enter]
 refine hc.mono ?_
 rintro e w' ⟨rfl,hS⟩
 exact ⟨f,ha',k w' hS⟩
theorem Lg  {Q:Exit->Fr->World->Prop} {rest:List Oper} {ty:Nat} {F:FuncId} {first cap args:Array Value} {xs:List Operand}
 {res:Except Int α} {V:α->Value} {S:α->World->Prop} (hb:Dk P F) (hf:D0 f x=some (.func (.func F) first cap)) (hx:Rw f xs=some vs) (ha:first++vs.toArray++cap=args) (hd:Nat.blt d n.n=true)
  (hc:Calls P F args w (Cg E res V S S')) (herr:∀ k w',res=.error k->S' w'->Q (.panic [{ v:=.iface E (.int .i64 k),recovered:=false }]) f w')
  (hok:∀ a w',res=.ok a->S a w'->WL P n ops Q rest ((d,V a)::f) w'):WL P n ops Q (⟨some d,.call ⟨.value x,xs.toArray,ats⟩,ty,pos,aft,none⟩::rest) f w:=by
 cases hres:res with
 | ok a=>exact Y1 hb hf hx ha hd (hc.mono λe w' h=>by rw [hres] at h;exact h) λw' h=>hok a w' hres h
 | error k=>exact A70 hb hf hx ha (hc.mono λe w' h=>by rw [hres] at h;exact h) λw' h=>herr k w' hres h
end
theorem HJ (b n:Int) (c:Nat) (w:World) (h:AF w c #[.int .i64 b] 3) :
  Calls Tryz.prog 148 #[.int .i64 n,.pointer (some ⟨c,0,none⟩)] w (RT w (Gw b n) λx=>.int .i64 x):=by
 refine W.e func148 rfl ntmps148 bL ?_
 have i:=EM (w.heap.size) w
 refine A4<|A9 rfl<|A4<|A2 rfl<|Ag (Ad (Bw _) rfl h rfl)<|WL.c1 AN rfl rfl ((Ul n b _)) (λo j=>?_)
 have a:=DJ i j
 simp only [Ky]
 refine A2 rfl<|A0 (.ext rfl rfl)<|A0 (.ext rfl rfl)<|Dp rfl<|A9 rfl<|A4<|A2 rfl<|Bk AN rfl rfl ((KT _ _)) (λl m d f=>?_) (λq m d f=>?_)
 have g:=EZ a (Below.mono f a.size)
 exact Aw (Bn l (by unfold Gw;exact LX d) g)
 have k:=DJ a f
 refine WL.e<|A4<|A2 rfl<|A9 rfl<|Ai (AZ rfl rfl ?_)
 exact Cg.ok _ (by unfold Gw;rw [A6 (Mx aS)]) rfl k
theorem WI {b n x:Int} (h:Gw b n=.ok x):-2147483648<=x/\x<=2147483647:=by rw [ND h];exact MW (KD _ _)
def Vo (p:Dz) (w ph:Int) (q:Option Addr) (l:List Int) (c:Nat):Dz:={ p with fWidth:=w,fPhase:=ph,pfDash:=q,fDash:=l,cfDash:=c }
theorem VT:∀ (l:List Int) (a:Int),(∀ x∈l,-2147483648<=x/\x<=2147483647)->a-2147483648 * (l.length:Int)<=l.foldl (· + ·) a/\l.foldl (· + ·) a<=a+2147483647 * (l.length:Int)
 | [],a,_=>by simp
 | x::l,a,h=>by
  have h1:=h x (by simp)
  have h2:=VT l (a+x) λy hy=>h y (List.mem_cons_of_mem _ hy)
  rw [DD,A8]
  omega
theorem A3S {l:List Int} (h:∀ x∈l,-2147483648<=x/\x<=2147483647):-2147483648 * (l.length:Int)<=FM l/\FM l<=2147483647 * (l.length:Int):=by
 have:=VT l 0 h
 unfold FM
 omega
def NG (c:M6) (p:Dz):Except Int Dz :=
 KX c>>=λb=>Gw b p.fWidth>>=λw=>Gw b p.fPhase>>=λph=>Hs b p.fDash>>=λd=>.ok (if FM d=0/\d.length > 0 then Fy (Vo p w 0 none [] 0) else Fy (Vo p w ph none d 0))
theorem ZG {s:RP} {p:Dz} (h:Fy p=s.pen):HM s=NG s.ctm p:=by
 unfold HM NG
 rw [<- h]
 rfl
theorem UK  {b:Int} {L:List Int} (h:i<L.length) (f:List Int->Except Int α):(Hs b (L.drop i)>>=f)=(Gw b L[i]>>=λx=>Hs b (L.drop (i+1))>>=λd=>f (x::d)):=by
 rw [Ap h]
 show ((Gw b L[i]>>=λx=>Hs b (L.drop (i+1))>>=λl=>pure (x::l))>>=f)=_
 cases Gw b L[i] with
 | error k=>rfl
 | ok x =>
  show ((Hs b (L.drop (i+1))>>=λl=>pure (x::l))>>=f)=(Hs b (L.drop (i+1))>>=λd=>f (x::d))
  cases Hs b (L.drop (i+1)) <;> rfl
section
variable {w:World} {bv:Nat}
theorem Zg {H:PW} {p:Dz} (hbk:AF w bv (Fh H).toArray 74) (hp:H.s.pen=p) (hpr:Y7 Z w p) (hl:p.fDash.length<=11) :
    Calls Tryz.prog 115 #[.pointer (some ⟨bv,0,none⟩)] w (Hk 30 (NG H.s.ctm p) (λq v w'=>∃ q':Dz,v=.agg (El q').toArray/\Fy q'=q/\Y7 (λg=>w.heap.size<=g/\g<w'.heap.size) w' q'/\Below w.heap.size w w') (λw'=>Below w.heap.size w w')):=by
  obtain ⟨⟨ctm,fi,sk,pe,clv,fn,sz⟩,fo,sa,pa,ha,hb,lo,te,li,ar,itv⟩:=H;simp only at hp ⊢;subst hp;obtain ⟨pw,pca,pj,pm,pd,L,pcd,pph⟩:=pe;have aG:=hpr.row;have c7:=aG.lt;simp only at hl aG c7;obtain ⟨R,hD⟩:∃ R,NG ctm ⟨pw,pca,pj,pm,pd,L,pcd,pph⟩=R:=⟨_,rfl⟩;rw [hD];unfold NG at hD;simp only at hD;refine W.e func115 rfl ntmps115 bL ?_;have es:=EM (w.heap.size) w;refine A4<|BV zeroValue41 rfl (λb1 he bE ey bw gN=>?_);have fK:=Bg bE hbk.lt;have et:=hbk.un bw fK;have ez:=λc=>bE▸aG.lt c
  have eu:=Be.upd aG bw (λc=>Js (ez c));have fL:=uB es bE bw;have gC:=Cq bE es.size;refine WL.e<|A4<|A2 rfl<|A0 (.nck rfl)<|A0 (.fa BL rfl Ey dD rfl)<|A0 (.fa Fb rfl IK dD rfl)<|Ag (Ck (L:=Ww) DU rfl CJ et (ctm) (rfl) rfl)<|WL.c1 AN rfl rfl ((A09 ctm _)) (λw7 bG=>?_);have ev:=et.bl bG;have ew:=ey.bl bG;have c8:=I8 eu bG (λc=>eu.lt c);have c9:=DJ fL bG;simp only [Ky];refine A2 rfl<|A0 (.ext rfl rfl)<|A0 (.ext rfl rfl)<|BV PG rfl (λm gO aH cJ az gD=>?_);have eA:=Bg aH ev.lt;have eB:=ev.un az eA;have eC:=Bg aH ew.lt;have eD:=ew.un az eC;have bH:=λc=>aH▸c8.lt c
  have eF:=Be.upd c8 az (λc=>Js (bH c));have eG:=uB c9 aH az;have fM:=Cq aH c9.size;refine WL.st B5 rfl rfl rfl cJ oQ (λfN b4 ae gE=>?_);have b4:AF fN m _ _:=b4;have ae:BF m _ _:=ae;have eH:=eB.up ae;have eI:=eD.up ae;have ca:=Be.upd eF ae (λc=>Js (bH c));have bx:=CN eG oO ae;refine A9 rfl<|A4<|A2 rfl<|Bk AN rfl rfl ((KT _ _)) (λex fO b5 aj=>?_) (λhf fO b5 aj=>?_);have cb:=EZ bx (Below.mono aj bx.size);exact Aw (Dq ex (by rw [<- hD];exact Ax (show KX ctm=.error ex by unfold KX;exact LX b5)) cb);have cc:=eH.bl aj;have cd:=eI.bl aj;have cf:=b4.bl aj;have eJ:=I8 ca aj (λc=>ca.lt c);have cg:=DJ bx aj;rw [AG (show KX ctm=.ok (Ik ctm).1 by unfold KX;rw [A6 (Mx b5)])] at hD
  generalize (Ik ctm).1=by_ at *;refine WL.e<|A4<|A0 (.mkFv rfl)<|A9 rfl<|A4<|A2 rfl<|A0 (.nck rfl)<|A0 (.fa BL rfl Ey dD rfl)<|A0 (.fa Fb rfl MJ dD rfl)<|Ag (Ck (L:=Vp) CT rfl HY cc (⟨pw,pca,pj,pm,pd,L,pcd,pph⟩) (rfl) rfl)<|BV zeroValue41 rfl (λa gP au cK b6 gF=>?_);have gQ:=Bg au cc.lt;have eK:=Bg au cd.lt;have eL:=cd.un b6 eK;have eM:=Bg au cf.lt;have eN:=cf.un b6 eM;have b7:=λc=>au▸eJ.lt c
  have eO:=uB cg au b6;have fP:=Cq au cg.size;refine Az rfl rfl cK HY rfl rfl (λhi cL b8 gG=>?_);have eP:=eL.up b8;have eQ:=eN.up b8;have eR:=CN eO oO b8;refine WL.e<|D4 (α:=Int × Int) (λt=>[(0,.pointer (some ⟨bv,0,none⟩)),(2,.pointer (some ⟨b1,0,none⟩)),(5,.func (.func 148) #[] #[.pointer (some ⟨m,0,none⟩)]),(6,.pointer (some ⟨a,0,none⟩))]) (λt w'=>Below w.heap.size w w'/\AF w' b1 (El JK).toArray 41/\AF w' m #[.int .i64 by_] 3/\AF w' a (El ⟨t.1,pca,pj,pm,none,[],0,t.2⟩).toArray 41/\(Hs by_ L>>=λd=>.ok (if FM d=0/\d.length > 0 then Fy (Vo ⟨pw,pca,pj,pm,pd,L,pcd,pph⟩ t.1 0 none [] 0) else Fy (Vo ⟨pw,pca,pj,pm,pd,L,pcd,pph⟩ t.1 t.2 none d 0)))=R) ?_ (λt w1 hR=>?_);refine Dr 14 rfl C7 (λw'=>True/\True) (λhj b9=>?_);have bz:=eP.drew b9;have av:=eQ.drew b9;have ak:=cL.drew b9;have a2:=CZ.below eR b9;refine Af 0 rfl (.mv rfl) ⟨trivial,tT⟩ rfl ?_;refine Af 1 rfl (.fa CT rfl B5 dD rfl) ⟨trivial,tT⟩ rfl ?_;refine Af 4 rfl (.mv rfl) ⟨trivial,tT⟩ rfl ?_;refine Af 5 rfl (.fa CT rfl B5 dD rfl) ⟨trivial,tT⟩ rfl ?_;refine Ea 2 rfl 6 rfl ?_ ?_;refine Ag (Ad (Bw _) rfl ak rfl)<|WL.e<|⟨⟨trivial,tT⟩,?_⟩;refine Ea 3 rfl 6 rfl ?_ ?_;refine Lg AN rfl rfl rfl rfl ((HJ by_ pw m _ av)) (λfQ fR ba aw=>?_) (λfS fR ba aw=>?_);have ci:=EZ a2 (Below.mono aw a2.size);exact Aw (Dq fQ (by rw [<- hD];exact Ax ba) ci);have eS:=bz.bl aw;have cj:=av.bl aw;have ck:=ak.bl aw;have bA:=DJ a2 aw;obtain ⟨j,rfl⟩:∃ x,x=fS:=⟨_,rfl⟩;rw [AG ba] at hD;refine WL.e<|⟨⟨trivial,tT⟩,?_⟩;refine An 6 rfl<|Ag (Ad (Bw _) rfl ck rfl)<|WL.e<|⟨⟨trivial,tT⟩,?_⟩;refine Af 8 rfl (.fa CT rfl B5 dD rfl) ⟨trivial,tT⟩ rfl ?_;refine An 7 rfl<|Lg AN rfl rfl rfl rfl ((HJ by_ pph m _ cj)) (λfT fU bb ax=>?_) (λfV fU bb ax=>?_);have cl:=EZ bA (Below.mono ax bA.size);exact Aw (Dq fT (by rw [<- hD];exact Ax bb) cl);have eT:=eS.bl ax;have eU:=cj.bl ax;have eV:=ck.bl ax;have eW:=DJ bA ax;obtain ⟨f,rfl⟩:∃ x,x=fV:=⟨_,rfl⟩
  rw [AG bb] at hD;refine WL.e<|⟨⟨trivial,tT⟩,?_⟩;refine An 9 rfl<|C2 (o:=0) ((El ⟨j,pca,pj,pm,pd,L,pcd,pph⟩).toArray) B5 rfl (rfl) rfl (rfl) eV bL (rfl) (λfW bc am gH=>?_);have bc:AF fW a _ _:=bc;have am:BF a _ _:=am;have eX:=eT.up am;have eY:=eU.up am;have eZ:=CN eW oO am;refine WL.e<|⟨⟨trivial,tT⟩,?_⟩;refine Af 10 rfl (.fa CT rfl B5 dD rfl) ⟨trivial,tT⟩ rfl ?_;refine An 11 rfl<|C2 (o:=5) ((El ⟨j,pca,pj,pm,pd,L,pcd,f⟩).toArray) B5 rfl (rfl) rfl (rfl) bc bL (rfl) (λfX bd an gI=>?_);have bd:AF fX a _ _:=bd;have an:BF a _ _:=an;have e':=eX.up an;have f0:=eY.up an;have f1:=CN eZ oO an;refine WL.e<|⟨⟨trivial,tT⟩,?_⟩;refine Af 12 rfl (.fa CT rfl Hu dD rfl) ⟨trivial,tT⟩ rfl ?_;refine An 13 rfl<|C2 (o:=4) ((El ⟨j,pca,pj,pm,none,[],0,f⟩).toArray) Hu rfl (rfl) rfl (rfl) bd bL (rfl) (λfY be ao gJ=>?_);have be:AF fY a _ _:=be;have ao:BF a _ _:=ao;have f2:=e'.up ao;have f3:=f0.up ao;have f4:=CN f1 oO ao;refine WL.e<|⟨⟨trivial,tT⟩,?_⟩;refine Bd kR ?_;exact ⟨(j,f),⟨rfl,rfl,rfl,rfl,tT⟩,f4,f2,f3,be,hD⟩;refine Ag (Ad (Bw _) rfl ak rfl)<|WL.e<|⟨⟨trivial,tT⟩,?_⟩;refine An 3 rfl<|Lg AN rfl rfl rfl rfl ((HJ by_ pw m _ av)) (λfZ f' bf ay=>?_) (λg0 f' bf ay=>?_);have cm:=EZ a2 (Below.mono ay a2.size);exact Aw (Dq fZ (by rw [<- hD];exact Ax bf) cm);have f5:=bz.bl ay;have cn:=av.bl ay;have f6:=ak.bl ay;have bg:=DJ a2 ay;obtain ⟨j,rfl⟩:∃ x,x=g0:=⟨_,rfl⟩;rw [AG bf] at hD;refine WL.e<|⟨⟨trivial,tT⟩,?_⟩;refine Af 8 rfl (.fa CT rfl B5 dD rfl) ⟨trivial,tT⟩ rfl ?_;refine An 7 rfl<|Lg AN rfl rfl rfl rfl ((HJ by_ pph m _ cn)) (λf7 f8 aI af=>?_) (λf9 f8 aI af=>?_);have c0:=EZ bg (Below.mono af bg.size);exact Aw (Dq f7 (by rw [<- hD];exact Ax aI) c0);have cM:=f5.bl af;have cN:=cn.bl af;have cO:=f6.bl af;have cP:=DJ bg af;obtain ⟨f,rfl⟩:∃ x,x=f9:=⟨_,rfl⟩
  rw [AG aI] at hD;refine WL.e<|⟨⟨trivial,tT⟩,?_⟩;refine An 9 rfl<|C2 (o:=0) ((El ⟨j,pca,pj,pm,pd,L,pcd,pph⟩).toArray) B5 rfl (rfl) rfl (rfl) cO bL (rfl) (λfb aJ a7 g1=>?_);have aJ:AF fb a _ _:=aJ;have a7:BF a _ _:=a7;have cQ:=cM.up a7;have cR:=cN.up a7;have cS:=CN cP oO a7;refine WL.e<|⟨⟨trivial,tT⟩,?_⟩;refine Af 10 rfl (.fa CT rfl B5 dD rfl) ⟨trivial,tT⟩ rfl ?_;refine An 11 rfl<|C2 (o:=5) ((El ⟨j,pca,pj,pm,pd,L,pcd,f⟩).toArray) B5 rfl (rfl) rfl (rfl) aJ bL (rfl) (λfc aK a8 g2=>?_);have aK:AF fc a _ _:=aK;have a8:BF a _ _:=a8;have cT:=cQ.up a8;have cU:=cR.up a8;have cV:=CN cS oO a8;refine WL.e<|⟨⟨trivial,tT⟩,?_⟩;refine Af 12 rfl (.fa CT rfl Hu dD rfl) ⟨trivial,tT⟩ rfl ?_;refine An 13 rfl<|C2 (o:=4) ((El ⟨j,pca,pj,pm,none,[],0,f⟩).toArray) Hu rfl (rfl) rfl (rfl) aK bL (rfl) (λfd aL a9 g3=>?_);have aL:AF fd a _ _:=aL;have a9:BF a _ _:=a9;have cW:=cT.up a9;have cX:=cU.up a9;have cY:=CN cV oO a9;refine WL.e<|⟨⟨trivial,tT⟩,?_⟩;refine Bd kR ?_;exact ⟨(j,f),⟨rfl,rfl,rfl,rfl,tT⟩,cY,cW,cX,aL,hD⟩;refine Ag (Ad (Bw _) rfl ak rfl)<|WL.e<|⟨⟨trivial,tT⟩,?_⟩;refine An 2 rfl<|Ag (Ad (Bw _) rfl ak rfl)<|WL.e<|⟨⟨trivial,tT⟩,?_⟩;refine An 3 rfl<|Lg AN rfl rfl rfl rfl ((HJ by_ pw m _ av)) (λfe ff aM ag=>?_) (λfg ff aM ag=>?_);have c3:=EZ a2 (Below.mono ag a2.size);exact Aw (Dq fe (by rw [<- hD];exact Ax aM) c3);have cZ:=bz.bl ag;have bI:=av.bl ag;have c':=ak.bl ag;have bh:=DJ a2 ag;obtain ⟨j,rfl⟩:∃ x,x=fg:=⟨_,rfl⟩;rw [AG aM] at hD;refine WL.e<|⟨⟨trivial,tT⟩,?_⟩;refine Af 8 rfl (.fa CT rfl B5 dD rfl) ⟨trivial,tT⟩ rfl ?_;refine An 7 rfl<|Lg AN rfl rfl rfl rfl ((HJ by_ pph m _ bI)) (λfh fj aN ah=>?_) (λfk fj aN ah=>?_);have c4:=EZ bh (Below.mono ah bh.size);exact Aw (Dq fh (by rw [<- hD];exact Ax aN) c4)
  have d0:=cZ.bl ah;have d1:=bI.bl ah;have d2:=c'.bl ah;have d3:=DJ bh ah;obtain ⟨f,rfl⟩:∃ x,x=fk:=⟨_,rfl⟩;rw [AG aN] at hD;refine WL.e<|⟨⟨trivial,tT⟩,?_⟩;refine An 9 rfl<|C2 (o:=0) ((El ⟨j,pca,pj,pm,pd,L,pcd,pph⟩).toArray) B5 rfl (rfl) rfl (rfl) d2 bL (rfl) (λfl aO aa g4=>?_);have aO:AF fl a _ _:=aO;have aa:BF a _ _:=aa;have d4:=d0.up aa;have d5:=d1.up aa;have d6:=CN d3 oO aa;refine WL.e<|⟨⟨trivial,tT⟩,?_⟩;refine Af 10 rfl (.fa CT rfl B5 dD rfl) ⟨trivial,tT⟩ rfl ?_;refine An 11 rfl<|C2 (o:=5) ((El ⟨j,pca,pj,pm,pd,L,pcd,f⟩).toArray) B5 rfl (rfl) rfl (rfl) aO bL (rfl) (λfm aP ab g5=>?_);have aP:AF fm a _ _:=aP;have ab:BF a _ _:=ab;have d7:=d4.up ab;have d8:=d5.up ab;have d9:=CN d6 oO ab;refine WL.e<|⟨⟨trivial,tT⟩,?_⟩;refine Af 12 rfl (.fa CT rfl Hu dD rfl) ⟨trivial,tT⟩ rfl ?_;refine An 13 rfl<|C2 (o:=4) ((El ⟨j,pca,pj,pm,none,[],0,f⟩).toArray) Hu rfl (rfl) rfl (rfl) aP bL (rfl) (λfp aQ ac g6=>?_);have aQ:AF fp a _ _:=aQ;have ac:BF a _ _:=ac;have da:=d7.up ac;have db:=d8.up ac;have dc:=CN d9 oO ac;refine WL.e<|⟨⟨trivial,tT⟩,?_⟩;refine Bd kR ?_;exact ⟨(j,f),⟨rfl,rfl,rfl,rfl,tT⟩,dc,da,db,aQ,hD⟩;obtain ⟨⟨j,f⟩,bk⟩:∃ u,u=t:=⟨t,rfl⟩;subst bk;obtain ⟨j1,j2,j3,j4,hD⟩:=hR;simp only at j4 hD;have g7:=aG.below j1 c7;have fq:=hbk.below j1 hbk.lt;refine Ah ?_;obtain ⟨fin,co⟩:∃ fin:List Int->Except Int Dz,fin=λd=>.ok (if FM d=0/\d.length > 0 then Fy (Vo ⟨pw,pca,pj,pm,pd,L,pcd,pph⟩ j 0 none [] 0) else Fy (Vo ⟨pw,pca,pj,pm,pd,L,pcd,pph⟩ j f none d 0)):=⟨_,rfl⟩
  rw [<- co] at hD;have gR:=j3.lt;have gS:=j4.lt;have gT:=j2.lt;refine Ak<|A9 rfl<|Ah<|A4<|A2 rfl<|A0 (.nck rfl)<|A0 (.fa BL rfl Ey dD rfl)<|A0 (.fa Fb rfl MJ dD rfl)<|A0 (.fa CT rfl Hu dD rfl)<|Ag (Ad (KH _) rfl fq rfl)<|A0 (.lenS Dh rfl)<|A2 rfl<|WL.e<|W.b<|Cj (α:=Option Addr × List Int × Nat × Nat) (λt=>[(0,.pointer (some ⟨bv,0,none⟩)),(2,.pointer (some ⟨b1,0,none⟩)),(5,.func (.func 148) #[] #[.pointer (some ⟨m,0,none⟩)]),(6,.pointer (some ⟨a,0,none⟩)),(7,.int .i64 (FM t.2.1)),(43,.slice pd L.length pcd),(44,.int .i64 (L.length:Int)),(45,.int .i64 (t.2.2.2:Int))]) (λt w'=>Below w.heap.size w w'/\AF w' b1 (El JK).toArray 41/\AF w' m #[.int .i64 by_] 3/\AF w' a (El ⟨j,pca,pj,pm,t.1,t.2.1,t.2.2.1,f⟩).toArray 41/\AD RV 3 (a+1) w' (.slice t.1 t.2.1.length t.2.2.1) t.2.1/\Be RV w' pd L/\t.2.2.2<=L.length/\t.2.1.length=t.2.2.2/\(∀ x∈t.2.1,-2147483648<=x/\x<=2147483647)/\(Hs by_ (L.drop t.2.2.2)>>=λd=>fin (t.2.1++d))=R) (λt=>L.length-t.2.2.2) ((none,[],0,0)) ⟨rfl,rfl,rfl,rfl,rfl,rfl,rfl,rfl,tT⟩ (⟨j1,j2,j3,j4,AD.nil _ _ _ _,g7,Gg _,rfl,(λx hx=>by cases hx),hD⟩) (λt w1 hR=>?_);obtain ⟨⟨p1,L1,c1,i⟩,bk⟩:∃ u,u=t:=⟨t,rfl⟩;subst bk;obtain ⟨q1,q2,q3,q4,q5,q6,q7,q8,q9,bJ⟩:=hR;simp only at q4 q5 q7 q8 q9 bJ;have bi:=q4.lt;have gU:=q5.lt;have hk:=A3S q9;have bB:0<L.length->(pA pd).block<a+1:=λc=>by have:=c7 c;omega
  refine A4<|A0 (.lss rfl rfl)<|WL.e<|Ah<|Ac rfl (λbC=>?_) (λbC=>?_)
  · have dd := dT bC
    have cq:i<L.length:=by first | omega | (simp only at *;omega)
    have bK:=(UK (b:=by_) cq (λd=>fin (L1++d))).symm.trans bJ;refine W.k<|Ah<|W.b<|A4<|A0 (.ixm Dh B5 rfl rfl (q6.isp oC) (i) (rfl) oO)<|Ag (AO (Bw _) rfl ((q6.field (i) oC 0 dD).trans rfl))<|A9 rfl<|D4 (α:=Option Addr × Int × Nat) (λt=>[(2,.pointer (some ⟨b1,0,none⟩)),(0,.pointer (some ⟨bv,0,none⟩)),(5,.func (.func 148) #[] #[.pointer (some ⟨m,0,none⟩)]),(6,.pointer (some ⟨a,0,none⟩)),(7,.int .i64 (FM L1)),(9,.int .i64 L[i]),(43,.slice pd L.length pcd),(44,.int .i64 (L.length:Int)),(45,.int .i64 (i:Int))]) (λt w'=>Below w.heap.size w w'/\AF w' b1 (El JK).toArray 41/\AF w' m #[.int .i64 by_] 3/\AF w' a (El ⟨j,pca,pj,pm,t.1,L1++[t.2.1],t.2.2,f⟩).toArray 41/\AD RV 3 (a+1) w' (.slice t.1 (L1++[t.2.1]).length t.2.2) (L1++[t.2.1])/\Be RV w' pd L/\Gw by_ L[i]=.ok t.2.1) ?_ (λt w1 hR=>?_);refine Dr 9 rfl C7 (λw'=>True/\True) (λgV a3=>?_);have bm:=CZ.le bi a3;have bM:=AD.drew q5 a3;have bN:=q2.drew a3;have aA:=q3.drew a3;have bj:=q4.drew a3;have aB:=q6.drew a3;have ai:=CZ.below q1 a3;refine Af 0 rfl (.fa CT rfl Hu dD rfl) ⟨trivial,tT⟩ rfl ?_;refine Af 2 rfl (.mv rfl) ⟨trivial,tT⟩ rfl ?_;refine Af 3 rfl (.mv rfl) ⟨trivial,tT⟩ rfl ?_;refine Ea 1 rfl 4 rfl ?_ ?_;refine Ag (Ad (KH _) rfl bj rfl)<|WL.e<|⟨⟨trivial,tT⟩,?_⟩;refine An 4 rfl<|Lg AN rfl rfl rfl rfl ((HJ by_ L[i] m _ aA)) (λfr fs aR D=>?_) (λft fs aR D=>?_);have c5:=EZ ai (Below.mono D ai.size);exact Aw (Dq fr (by rw [<- bK];exact Ax aR) c5);have cr:=AW bm D.size;have de:=AD.below bM D;have bO:=bN.bl D;have bP:=aA.bl D;have bQ:=bj.bl D;have bR:=I8 aB D (λc=>aB.lt c);have bS:=DJ ai D;obtain ⟨x1,rfl⟩:∃ x,x=ft:=⟨_,rfl⟩;have bT:=aR;refine WL.e<|⟨⟨trivial,tT⟩,?_⟩;refine An 5 rfl<|Ct (ps:=_) Dh B5 PG rfl rfl rfl rfl rfl pR rfl (λgW gK a4 ct F g8=>?_);have bn:=AW cr F.size;have df:=GU de a4 F;have dg:=Bg a4 bO.lt;have dh:=bO.un F dg;have di:=Bg a4 bP.lt
    have dj:=bP.un F di;have dk:=Bg a4 bQ.lt;have dl:=bQ.un F dk;have cu:=λc=>a4▸bR.lt c
    have dm:=Be.upd bR F (λc=>Js (cu c));have dn:=uB bS a4 F;have fH:=Cq a4 bS.size;have bo:=Be.lit (V:=RV) (l:=[x1]) ct rfl;refine WL.e<|⟨⟨trivial,tT⟩,?_⟩;refine An 6 rfl<|CW Dh VL rfl rfl rfl df rfl bo oE (bn) rfl (λh=>CM h (Q6 _ _)) (λgX gY aS T g9 ga=>?_);have dp:=dh.below T oO;have dq:=dj.below T oO;have dr:=dl.below T oO;have ds:=I8 dm T bB;have dt:=EZ dn (T.mono (oO));have cw:=AW bn T.size;obtain ⟨pv,cv,evv,-⟩:=(aS).row;subst evv;refine WL.e<|⟨⟨trivial,tT⟩,?_⟩;refine Af 7 rfl (.fa CT rfl Hu dD rfl) ⟨trivial,tT⟩ rfl ?_;refine An 8 rfl<|C2 (o:=4) ((El ⟨j,pca,pj,pm,pv,L1++[x1],cv,f⟩).toArray) Hu rfl (rfl) rfl (rfl) dr bL (rfl) (λfu aT A gb=>?_);have aT:AF fu a _ _:=aT;have A:BF a _ _:=A;have gc:=AW cw A.size;have du:=Ia aS A (λg hg e=>by have:=(aS).lt g hg;omega);have dv:=dp.up A;have dw:=dq.up A;have dx:=Be.upd ds A (λc=>Js (b7 c));have dy:=CN dt oO A;refine WL.e<|⟨⟨trivial,tT⟩,?_⟩;refine Bd kR ?_;exact ⟨(pv,x1,cv),⟨rfl,rfl,rfl,rfl,rfl,rfl,rfl,rfl,rfl,tT⟩,dy,dv,dw,aT,du,dx,bT⟩;refine Lg AN rfl rfl rfl rfl ((HJ by_ L[i] m _ aA)) (λfv fw aU E=>?_) (λfx fw aU E=>?_);have c6:=EZ ai (Below.mono E ai.size);exact Aw (Dq fv (by rw [<- bK];exact Ax aU) c6);have bp:=AW bm E.size;have bU:=AD.below bM E;have aC:=bN.bl E;have aD:=aA.bl E;have ap:=bj.bl E;have aE:=I8 aB E (λc=>aB.lt c);have aF:=DJ ai E;obtain ⟨x1,rfl⟩:∃ x,x=fx:=⟨_,rfl⟩;have bT:=aU;refine WL.e<|⟨⟨trivial,tT⟩,?_⟩;refine Ea 1 rfl 5 rfl ?_ ?_;refine Ag (Ad (KH _) rfl ap rfl)<|WL.e<|⟨⟨trivial,tT⟩,?_⟩;refine An 5 rfl<|Ct (ps:=_) Dh B5 PG rfl rfl rfl rfl rfl pR rfl (λgZ gL a5 cy G ge=>?_);have bq:=AW bp G.size;have dz:=GU bU a5 G;have dA:=Bg a5 aC.lt
    have dB:=aC.un G dA;have dC:=Bg a5 aD.lt;have dE:=aD.un G dC;have dG:=Bg a5 ap.lt;have dH:=ap.un G dG;have cz:=λc=>a5▸aE.lt c
    have dI:=Be.upd aE G (λc=>Js (cz c));have dJ:=uB aF a5 G;have fI:=Cq a5 aF.size;have bo:=Be.lit (V:=RV) (l:=[x1]) cy rfl;refine WL.e<|⟨⟨trivial,tT⟩,?_⟩;refine An 6 rfl<|CW Dh VL rfl rfl rfl dz rfl bo oE (bq) rfl (λh=>CM h (Q6 _ _)) (λg' h3 aV U gf gg=>?_);have dK:=dB.below U oO;have dL:=dE.below U oO;have dM:=dH.below U oO;have dN:=I8 dI U bB;have dO:=EZ dJ (U.mono (oO));have cA:=AW bq U.size;obtain ⟨pv,cv,evv,-⟩:=(aV).row;subst evv;refine WL.e<|⟨⟨trivial,tT⟩,?_⟩;refine Af 7 rfl (.fa CT rfl Hu dD rfl) ⟨trivial,tT⟩ rfl ?_;refine An 8 rfl<|C2 (o:=4) ((El ⟨j,pca,pj,pm,pv,L1++[x1],cv,f⟩).toArray) Hu rfl (rfl) rfl (rfl) dM bL (rfl) (λfy aW B gh=>?_);have aW:AF fy a _ _:=aW;have B:BF a _ _:=B;have gi:=AW cA B.size;have dP:=Ia aV B (λg hg e=>by have:=(aV).lt g hg;omega);have dQ:=dK.up B;have dR:=dL.up B;have dS:=Be.upd dN B (λc=>Js (b7 c));have dU:=CN dO oO B;refine WL.e<|⟨⟨trivial,tT⟩,?_⟩;refine Bd kR ?_;exact ⟨(pv,x1,cv),⟨rfl,rfl,rfl,rfl,rfl,rfl,rfl,rfl,rfl,tT⟩,dU,dQ,dR,aW,dP,dS,bT⟩;refine Ct (ps:=_) Dh B5 PG rfl rfl rfl rfl rfl pR rfl (λh4 gM a6 cB J gj=>?_);have bt:=AW bp J.size;have dV:=GU bU a6 J;have dW:=Bg a6 aC.lt;have dX:=aC.un J dW;have dY:=Bg a6 aD.lt;have dZ:=aD.un J dY;have d':=Bg a6 ap.lt;have bV:=ap.un J d';have cC:=λc=>a6▸aE.lt c
    have e0:=Be.upd aE J (λc=>Js (cC c));have e1:=uB aF a6 J;have fJ:=Cq a6 aF.size;have bo:=Be.lit (V:=RV) (l:=[x1]) cB rfl;refine WL.e<|⟨⟨trivial,tT⟩,?_⟩;refine An 1 rfl<|Ag (Ad (KH _) rfl bV rfl)<|WL.e<|⟨⟨trivial,tT⟩,?_⟩;refine An 6 rfl<|CW Dh VL rfl rfl rfl dV rfl bo oE (bt) rfl (λh=>CM h (Q6 _ _)) (λh5 h6 aX X gk gl=>?_);have e3:=dX.below X oO;have e4:=dZ.below X oO;have e5:=bV.below X oO;have e6:=I8 e0 X bB;have e7:=EZ e1 (X.mono (oO));have cD:=AW bt X.size;obtain ⟨pv,cv,evv,-⟩:=(aX).row;subst evv;refine WL.e<|⟨⟨trivial,tT⟩,?_⟩;refine Af 7 rfl (.fa CT rfl Hu dD rfl) ⟨trivial,tT⟩ rfl ?_;refine An 8 rfl<|C2 (o:=4) ((El ⟨j,pca,pj,pm,pv,L1++[x1],cv,f⟩).toArray) Hu rfl (rfl) rfl (rfl) e5 bL (rfl) (λfz aY C gm=>?_);have aY:AF fz a _ _:=aY;have C:BF a _ _:=C;have go:=AW cD C.size;have e8:=Ia aX C (λg hg e=>by have:=(aX).lt g hg;omega);have e9:=e3.up C;have ea:=e4.up C;have eb:=Be.upd e6 C (λc=>Js (b7 c));have ec:=CN e7 oO C;refine WL.e<|⟨⟨trivial,tT⟩,?_⟩;refine Bd kR ?_;exact ⟨(pv,x1,cv),⟨rfl,rfl,rfl,rfl,rfl,rfl,rfl,rfl,rfl,tT⟩,ec,e9,ea,aY,e8,eb,bT⟩;obtain ⟨⟨pv,x1,cv⟩,bk⟩:∃ u,u=t:=⟨t,rfl⟩;subst bk;obtain ⟨n1,n2,n3,n4,n5,n6,n7⟩:=hR;simp only at n4 n5 n7;rw [AG n7] at bK;have fA:=n4.lt;have h7:=n5.lt;have gp:=WI n7;refine Ak<|A2 rfl<|A2 rfl<|A2 rfl<|Lg AN rfl rfl rfl rfl ((HJ by_ L[i] m _ n3)) (λh8 fB aq Q=>?_) (λh9 fB aq Q=>?_);rw [n7] at aq;cases aq;have gq:=AW fA Q.size;have ed:=AD.below n5 Q;have ee:=n2.bl Q;have ef:=n3.bl Q;have eg:=n4.bl Q;have eh:=I8 n6 Q (λc=>n6.lt c);have ei:=DJ n1 Q;obtain rfl:=Except.ok.inj (n7.symm.trans aq);refine A0 (.iis (FM (L1++[x1])) (.add rfl rfl (Bp (by (try simp only) <;> omega))) (by rw [OE]))<|A9 rfl<|Ak<|A0 (.iis (((i+1:Nat):Int)) (.add rfl rfl (Bp (by (try simp only) <;> omega))) oM)<|A2 rfl<|WL.e<|?_
    exact ⟨(pv,L1++[x1],cv,i+1),⟨rfl,rfl,rfl,rfl,rfl,rfl,rfl,rfl,tT⟩,⟨ei,ee,ef,eg,ed,eh,by ((try simp only) <;> omega),by rw [A5,q8];rfl,λy hy=>(Ba.1 hy).elim (q9 y) (λh=>by rw [Am.1 h];exact gp),by rw [<- bK];simp only [AE,List.singleton_append]⟩,by ((try simp only) <;> omega)⟩
  have dd:=dF bC;have cq:i=L.length:=by first | omega | (simp only at *;omega)
  rw [cq,F3] at bJ;have K:fin L1=R:=by rw [<- bJ];show _=fin (L1++[]);rw [BK]
  have K:(.ok (if FM L1=0/\L1.length > 0 then Fy (Vo ⟨pw,pca,pj,pm,pd,L,pcd,pph⟩ j 0 none [] 0) else Fy (Vo ⟨pw,pca,pj,pm,pd,L,pcd,pph⟩ j f none L1 0)):Except Int Dz)=R:=by rw [co] at K;exact K
  refine C0<|Ah<|A4<|A2 rfl<|A0 (.eql rfl rfl)<|A2 rfl<|B1 rfl rfl rfl (λP=>?_) (λP=>?_)
  · have ej := dT P
    refine A0 (.fa CT rfl Hu dD rfl)<|As P<|Ag (Ad (KH _) rfl q4 rfl)<|As P<|A0 (.lenS Dh rfl)<|As P<|A0 (.bis (decide (L1.length > 0)) (.gtr rfl rfl) (by exact D5.2 (by first | omega | (simp only;omega))))<|A0 (.pkT rfl P rfl)<|WL.e<|Ac rfl (λbD=>?_) (λbD=>?_)
    · have ek := dT bD
      refine Ak<|A0 (.fa CT rfl Hu dD rfl)<|C2 (o:=4) ((El ⟨j,pca,pj,pm,none,[],0,f⟩).toArray) Hu rfl (rfl) rfl (rfl) q4 bL (rfl) (λfC aZ a0 gr=>?_);have aZ:AF fC a _ _:=aZ;have a0:BF a _ _:=a0;have cE:=AW bi a0.size;have bW:=Ia q5 a0 (λg hg e=>by have:=(q5).lt g hg;omega);have el:=q2.upd a0 oM;have em:=CN q1 oO a0;refine A0 (.fa CT rfl B5 dD rfl)<|C2 (o:=5) ((El ⟨j,pca,pj,pm,none,[],0,0⟩).toArray) B5 rfl (rfl) rfl (rfl) aZ bL (rfl) (λfD a' a1 gs=>?_);have a':AF fD a _ _:=a';have a1:BF a _ _:=a1;have cF:=AW cE a1.size;have bX:=Ia bW a1 (λg hg e=>by have:=(bW).lt g hg;omega);have en:=el.up a1;have eo:=CN em oO a1;refine WL.e<|A4<|Ag (BA rfl a' CT rfl HY)<|Az rfl rfl en HY rfl rfl (λfE cG b0 gt=>?_);have gv:=AW cF b0.size;have ep:=Ia bX b0 (λg hg e=>by have:=(bX).lt g hg;omega);have bY:=CN eo oO b0;refine WL.e<|Ai (C4 rfl rfl (Bq cG CT rfl HY)  ?_);have ad:=ep;obtain ⟨p2,c2,e2,bu⟩:=CC.own (Z:=λg=>w.heap.size<=g/\g<fE.heap.size) ad (λg hg=>⟨by have:=(ad.lt g hg).1;omega,(ad.lt g hg).2⟩);cases e2
      first
        | (rw [A6 ⟨by assumption, by (have hh : decide (L1.length > 0) = true := by assumption); exact dT hh⟩] at K
           exact GD _ _ K.symm rfl ⟨_,rfl,rfl,CC.nil _ _ _,bY⟩)
        | (rw [A1 (fun hc => by (have h1 := hc.1; have h2 := hc.2; simp_all; done))] at K
           exact GD _ _ K.symm rfl ⟨⟨j,pca,pj,pm,p1,L1,c1,f⟩,rfl,rfl,bu,bY⟩)
    have ek:=dF bD;refine W.k<|A4<|Ag (BA rfl q4 CT rfl HY)<|Az rfl rfl q2 HY rfl rfl (λfF cH b2 gw=>?_);have gx:=AW bi b2.size;have eq:=Ia q5 b2 (λg hg e=>by have:=(q5).lt g hg;omega);have bZ:=CN q1 oO b2;refine WL.e<|Ai (C4 rfl rfl (Bq cH CT rfl HY)  ?_);have ad:=eq;obtain ⟨p2,c2,e2,bu⟩:=CC.own (Z:=λg=>w.heap.size<=g/\g<fF.heap.size) ad (λg hg=>⟨by have:=(ad.lt g hg).1;omega,(ad.lt g hg).2⟩);cases e2
    first
      | (rw [A6 ⟨by assumption, by (have hh : decide (L1.length > 0) = true := by assumption); exact dT hh⟩] at K
         exact GD _ _ K.symm rfl ⟨_,rfl,rfl,CC.nil _ _ _,bZ⟩)
      | (rw [A1 (fun hc => by (have h1 := hc.1; have h2 := hc.2; simp_all; done))] at K
         exact GD _ _ K.symm rfl ⟨⟨j,pca,pj,pm,p1,L1,c1,f⟩,rfl,rfl,bu,bZ⟩)
  have ej:=dF P;refine Aa P<|Aa P<|Aa P<|A0 (.pkF rfl P rfl)<|WL.e<|DS rfl rfl<|W.k<|A4<|Ag (BA rfl q4 CT rfl HY)<|Az rfl rfl q2 HY rfl rfl (λfG cI b3 gz=>?_);have gA:=AW bi b3.size;have er:=Ia q5 b3 (λg hg e=>by have:=(q5).lt g hg;omega);have b':=CN q1 oO b3;refine WL.e<|Ai (C4 rfl rfl (Bq cI CT rfl HY)  ?_);have ad:=er;obtain ⟨p2,c2,e2,bu⟩:=CC.own (Z:=λg=>w.heap.size<=g/\g<fG.heap.size) ad (λg hg=>⟨by have:=(ad.lt g hg).1;omega,(ad.lt g hg).2⟩);cases e2
  first
    | (rw [A6 ⟨by assumption, by (have hh : decide (L1.length > 0) = true := by assumption); exact dT hh⟩] at K
       exact GD _ _ K.symm rfl ⟨_,rfl,rfl,CC.nil _ _ _,b'⟩)
    | (rw [A1 (fun hc => by (have h1 := hc.1; have h2 := hc.2; simp_all; done))] at K
       exact GD _ _ K.symm rfl ⟨⟨j,pca,pj,pm,p1,L1,c1,f⟩,rfl,rfl,bu,b'⟩)
end
end
section
theorem Uy  {F:Nat->Prop} {w0:World} (hN:w0.heap.size=N) (h:∀ k,k<N->w.heap[k]?=w0.heap[k]?):Mv (E3 c F w0) (E3 c F w) w0 w:=by
 subst hN
 have hs:w0.heap.size<=w.heap.size:=K5.size (Q:=λ_=>True) ⟨w0,rfl,trivial,h⟩
 exact ⟨hs,λg hg=>⟨h g hg.1,CE hg.1 hs,hg.2⟩⟩
theorem Ei  {L:Fe α} {F:Nat->Prop} {l:List α} {cp:Nat} (h:K5 N (λw=>CC L (E3 c F w) w p l cp) w):CC L (E3 c F w) w p l cp:=by
 obtain ⟨e,a,b,d⟩:=h
 exact b.mv (Uy a d)
theorem Uw  {F:Nat->Prop} {h:Zc} {s:RP} (q:K5 N (λw=>Wm (E3 c F w) w h s) w):Wm (E3 c F w) w h s:=by
 obtain ⟨e,a,b,d⟩:=q
 exact b.mv (Uy a d)
theorem CC.mono  {L:Fe α} {Z1:Nat->Prop} {l:List α} (h:CC L Z w p l c) (hz:∀ g,Z g->Z1 g):CC L Z1 w p l c:=⟨h.row,h.sl,λh0=>hz _ (h.inn h0)⟩
theorem A48 {p:Dz} (h:Kw p=true):p.fDash.length<=11:=by
 unfold Kw Kv at h
 simp only [A3,AH,E1,Aq] at h
 omega
theorem N3  {H:PW} {s:RP} (hbk:AF w bv (Fh H).toArray 74) (hs:Wm Z w H.s s) (hp:Kw s.pen=true) :
  Calls Tryz.prog 115 #[.pointer (some ⟨bv,0,none⟩)] w (Hk 30 (HM s) (λq v w'=>Below w.heap.size w w'/\∃ q':Dz,v=.agg (El q').toArray/\Fy q'=q/\Y7 (λg=>w.heap.size<=g/\g<w'.heap.size) w' q') (λw'=>Below w.heap.size w w')):=by
 have hl:H.s.pen.fDash.length<=11:=by have:=A48 hp;rw [<- hs.pen] at this;exact this
 rw [ZG hs.pen,<- hs.ctm]
 refine (Zg hbk rfl hs.penr hl).mono λe w' h=>?_
 unfold Hk at h ⊢
 split at h
 ·
  obtain ⟨v,a,q',b,c,d,f⟩:=h
  exact ⟨v,a,f,q',b,c,d⟩
 · exact h
theorem Xu {v:Vw} {st:Bool} {k:Int} (h:M2 v fill=.error k):DK v fill st=.error k:=Ax h
theorem ZY {v v1:Vw} {st:Bool} (h:M2 v fill=.ok v1):DK v fill st=(Jh v v1 st>>=λv2=>FG v>>=λcl=>.ok { v2 with s:={ v.s with clips:=cl },clip:=0,path:=I9 }):=AG h
theorem Wc {v:Vw} (h:v.clip > 0):FG v=(CH (decide (v.path.list.length > 0))>>=λ_=>H6 (decide (v.s.clips.length<16))>>=λ_=>.ok (v.s.clips++[(⟨none,v.path.list,0,decide (v.clip=2)⟩:Bv)])):=A6 h
theorem XW {v:Vw} (h:¬ v.clip > 0):FG v=.ok v.s.clips:=A1 h
theorem A3b (k:Int) (p:Option Addr) (l:List CK) (c:Nat) (co:C6) (q:Dz):Tryz.prog.built 44 [(0,.int .i64 k),(1,.slice p l.length c),(2,.agg (DI co).toArray),(4,.agg (El q).toArray)]=some (FF ⟨k,p,l,c,co,none,[],0,q,0,0,0,0,0,0,0,none,[],0⟩).toArray:=by kernel_rfl
theorem A82 (k:Int) (p:Option Addr) (l:List CK) (c:Nat) (co:C6):Tryz.prog.built 44 [(0,.int .i64 k),(1,.slice p l.length c),(2,.agg (DI co).toArray)]=some (FF ⟨k,p,l,c,co,none,[],0,JK,0,0,0,0,0,0,0,none,[],0⟩).toArray:=by kernel_rfl
theorem Tg {yp:Option Addr} {l:List CK} {yc:Nat} {co:C6} {q1 q:Dz} {cl:List Bv} (h:Fy q1=q):Fx 3 l co q cl={ Jd ⟨3,yp,l,yc,co,none,[],0,q1,0,0,0,0,0,0,0,none,[],0⟩ with fClips:=cl }:=by rw [<- h];rfl
theorem Yy {n:Nat} {b:Bool} (h:(decide (n > 0) && b)=false) (hc:n > 0/\b=true):False:=by
 rw [Aj hc.1,hc.2] at h;cases h
structure GW (B bp:Nat) (P:CP) (v:Value) (w:World):Prop where
 at':CG B w bp 4096 P v
 lb:B<=bp
theorem GW.same  {P:CP} (h:GW B bp P v w) (hb:∀ k,k=bp\/v.ownBlock=some k->k<w.heap.size->w1.heap[k]?=w.heap[k]?):GW B bp P v w1:=by
 have hk:=(hb bp (.inl rfl) h.at'.blk.lt).trans h.at'.blk
 have hl:=(Bs.1 hk).1
 have a:=h.lb
 exact ⟨⟨hk,h.at'.own.same λg hg=>hb g (.inr hg) (h.at'.own.lt g hg).2,h.at'.len,by omega⟩,h.lb⟩
theorem VW {v:Vw} (h1:v.path.list.length > 0) (h2:fill > 0):M2 v fill=Fu v (Fx fill v.path.list v.s.fill JK v.s.clips):=A6 ⟨h1,h2⟩
theorem YO {v:Vw} (h:¬ (v.path.list.length > 0/\fill > 0)):M2 v fill=.ok v:=A1 h
theorem WM {v v1:Vw} {b:Bool} (h1:v.path.list.length > 0) (h2:b=true):Jh v v1 b=(HM v.s>>=λp=>Fu v1 (Fx 3 v.path.list v.s.stroke p v.s.clips)):=A6 ⟨h1,h2⟩
theorem Mm {v v1:Vw} {b:Bool} (h:¬ (v.path.list.length > 0/\b=true)):Jh v v1 b=.ok v1:=A1 h
theorem F8 {v v1:Vw} {x:AQ} (h:Fu v x=.ok v1):v1.s=v.s/\v1.path=v.path/\v1.clip=v.clip:=by
 unfold Fu at h
 obtain ⟨u,-,h⟩:=BZ h
 cases h
 exact ⟨rfl,rfl,rfl⟩
structure Ptd (V V1:Vw):Prop where
 s:V1.s=V.s
 path:V1.path=V.path
 clip:V1.clip=V.clip
section
variable {B:Nat} {fs:PZ} {w w1:World} {bv:Nat} {F:Nat->Prop} {V:Vw} {args:List PV}
theorem Ig (fill:Int) (stroke:Bool) (h:FO B fs w bv F V args) (hsn:Ez V) (hf:fill=0\/fill=1\/fill=2) :
    Calls Tryz.prog 85 #[.pointer (some ⟨bv,0,none⟩),.int .i64 fill,.bool stroke] w (VwE B fs bv F w (DK V fill stroke) args):=by
  obtain ⟨h8,eT⟩:=h.base;have h0:=h;have d9:=h.lt;obtain ⟨H,vp,its,hs,cs,h9,hO,eU⟩:=h.mem;have f8:=Hy.of h0;have eV:=hO.blk;have hP:=hO.pth;have ha:=hP.len;have eW:H.s.fill=V.s.fill:=eU.st.fill;have aY:∀ {F1:Nat->Prop} {w1:World},Df F F1 w w1->Below B w w1:=λh=>h.below eT (λg hg=>(d9 g hg).1)
  obtain ⟨R,hD⟩:∃ R,DK V fill stroke=R:=⟨_,rfl⟩;rw [hD];refine W.e func85 rfl ntmps85 bL ?_;have fJ:=Df.refl F w;refine A4<|A2 rfl<|A0 (.nck rfl)<|A0 (.fa BL rfl OH dD rfl)<|Ag (Ad (P2 _) rfl eV rfl)<|DQ AN rfl rfl ((U0 B H.path 4096 vp V.path _ hP)) (λx w1 cq=>?_);have b2:=JP (w1:=w1) f8 (λk hk hl=>cq.1.block k hl);have fK:=eV.bl cq.1;have cr:=Cd fJ cq.1;have hx:=cq.2;obtain ⟨xp,xc⟩:=x;obtain ⟨p5,c5,e5,fL⟩:=CC.own (Z:=E3 fs.c F w1) hx (λg hg=>⟨(hx.lt g hg).2,λhf=>by have:=d9 g hf;have:=(hx.lt g hg).1;omega,by have:=eU.cx;have:=(hx.lt g hg).1;omega⟩);cases e5;have bo:=K5.of (Q:=λw=>CC Fq (E3 fs.c F w) w xp V.path.list xc) fL;refine A9 rfl<|D4 (α:=(Nat->Prop) × Vw) (λt=>[(0,.pointer (some ⟨bv,0,none⟩)),(2,.bool stroke),(6,.slice xp V.path.list.length xc)]) (λt w'=>FO B fs w' bv t.1 t.2 args/\Df F t.1 w w'/\CC Fq (E3 fs.c t.1 w') w' xp V.path.list xc/\M2 V fill=.ok t.2/\Ptd V t.2) ?_ (λt w1 hR=>?_);refine Fd 18 (decide (V.path.list.length > 0/\fill > 0)) ?_ ?_;refine Ak<|A2 rfl<|A0 (.lenS Fj rfl)<|A0 (.gtr rfl rfl)<|A2 rfl<|B1 rfl rfl rfl (λg5=>?_) (λg5=>?_)
  · have fM := dT g5
    refine A2 rfl<|As g5<|A0 (.gtr rfl rfl)<|A0 (.pkT rfl g5 rfl)<|WL.e<|?_;exact ⟨G8 (Cy rfl (by first | (simp;omega) | (exfalso;simp_all;omega) | (simp_all;done))),rfl⟩
  have fM:=dF g5;refine Aa g5<|A0 (.pkF rfl g5 rfl)<|WL.e<|?_;exact ⟨G8 (Cy rfl (by first | (simp;omega) | (exfalso;simp_all;omega) | (simp_all;done))),rfl⟩;refine Ac rfl (λh6=>?_) (λh6=>?_)
  · have fN := dT h6
    have bp:V.path.list.length > 0/\fill > 0:=dT aS;refine Ak<|A2 rfl<|A2 rfl<|A2 rfl<|A2 rfl<|A0 (.nck rfl)<|A0 (.fa BL rfl Ey dD rfl)<|A0 (.fa Fb rfl JH dD rfl)<|Ag (Ck (L:=FX) GH rfl EJ fK (H.s.fill) (rfl) rfl)<|?_;refine A0 (.build rfl (A82 fill xp V.path.list xc H.s.fill)) ?_;refine WL.cx AN rfl rfl ((Oy ⟨fill,xp,V.path.list,xc,H.s.fill,none,[],0,JK,0,0,0,0,0,0,0,none,[],0⟩ (b2).get hsn.s ⟨Ei bo,CC.nil _ _ _,λy hy=>(by cases hy),CC.nil _ _ _,Sx.nil _ _⟩ ⟨rfl,rfl,rfl⟩)) (λk9 w7 a4 da=>?_) (λa8 hb w7 a4 da=>?_);exact Aw (Dq k9 (by rw [<- hD];exact Xu ((VW bp.1 bp.2).trans ((by rw [eW];rfl:_=Fu V _).trans a4))) (EZ (aY cr) da));obtain ⟨rfl,F1,b3,eX⟩:=da;have b4:=(Ei bo).mv (E3.mv eX);have av:=PU cr eX;have eY:M2 V fill=.ok a8:=(VW bp.1 bp.2).trans ((by rw [eW];rfl:_=Fu V _).trans a4);refine WL.e<|?_
    first
    | exact ⟨(F1,_),⟨rfl,rfl,rfl,tT⟩,b3,av,b4,eY,⟨(F8 a4).1,(F8 a4).2.1,(F8 a4).2.2⟩⟩
    | exact ⟨(F,V),⟨rfl,rfl,rfl,tT⟩,(b2).get,cr,Ei bo,YO (dF aS),⟨rfl,rfl,rfl⟩⟩
  have fN:=dF h6;refine W.k ?_
  first
  | exact ⟨(F1,_),⟨rfl,rfl,rfl,tT⟩,b3,av,b4,eY,⟨(F8 a4).1,(F8 a4).2.1,(F8 a4).2.2⟩⟩
  | exact ⟨(F,V),⟨rfl,rfl,rfl,tT⟩,(b2).get,cr,Ei bo,YO (dF aS),⟨rfl,rfl,rfl⟩⟩
  obtain ⟨⟨F1,V1⟩,bI⟩:∃ u,u=t:=⟨t,rfl⟩;subst bI;obtain ⟨j1,j2,j3,j4,d⟩:=hR;simp only at j1 j2 j3 j4 d;rw [ZY j4] at hD;have b3:=Hy.of j1;have b4:=K5.of (Q:=λw=>CC Fq (E3 fs.c F1 w) w xp V.path.list xc) j3;have b5:=j1.lt;obtain ⟨H1,he,gM,hh,hi,gN,fO,c8⟩:=j1.mem;have f9:=fO.blk;have aP:H1.s.stroke=V.s.stroke:=by rw [c8.st.stroke,d.s]
  have fb:=K5.of (Q:=λw=>Wm (E3 fs.c F1 w) w H1.s V1.s) c8.st;have gO:=c8.cx;refine D4 (α:=(Nat->Prop) × Vw) (λt=>[(0,.pointer (some ⟨bv,0,none⟩)),(6,.slice xp V.path.list.length xc)]) (λt w'=>FO B fs w' bv t.1 t.2 args/\Df F t.1 w w'/\CC Fq (E3 fs.c t.1 w') w' xp V.path.list xc/\(FG V>>=λcl=>(.ok { t.2 with s:={ V.s with clips:=cl },clip:=0,path:=I9 }:Except Int Vw))=R/\Ptd V t.2) ?_ (λt w1 hR=>?_);refine Fd 34 ((decide (V.path.list.length > 0) && stroke)) ?_ ?_;refine Ak<|A2 rfl<|A0 (.lenS Fj rfl)<|A0 (.gtr rfl rfl)<|A2 rfl<|B1 rfl rfl rfl (λbJ=>?_) (λbJ=>?_)
  · have fc := dT bJ
    refine A2 rfl<|A0 (.pkT rfl bJ rfl)<|WL.e<|?_;exact ⟨G8 (Cy rfl (by first | (simp;omega) | (exfalso;simp_all;omega) | (simp_all;done))),rfl⟩
  have fc:=dF bJ;refine A0 (.pkF rfl bJ rfl)<|WL.e<|?_;exact ⟨G8 (Cy rfl (by first | (simp;omega) | (exfalso;simp_all;omega) | (simp_all;done))),rfl⟩;refine Ac rfl (λfP=>?_) (λfP=>?_);have db:V.path.list.length > 0/\stroke=true:=by simpa using (show (decide (V.path.list.length > 0) && stroke)=true by assumption)
  have fd:Jh V V1 stroke=(HM V.s>>=λp=>Fu V1 (Fx 3 V.path.list V.s.stroke p V.s.clips)):=WM db.1 db.2;rw [fd] at hD;refine Dr 12 rfl C7 (λw'=>True/\True) (λdc b6=>?_);have dd:=JP (w1:=dc) b3 (λk hk hl=>(by obtain ⟨m,rfl⟩:=b6;rfl));have aQ:=Hn (w1:=dc) b4 (λk hk hl=>(by obtain ⟨m,rfl⟩:=b6;rfl));have de:=Hn (w1:=dc) fb (λk hk hl=>(by obtain ⟨m,rfl⟩:=b6;rfl));have ca:=f9.drew b6;have df:=Df.drew j2 b6;refine Af 0 rfl (.mv rfl) ⟨trivial,tT⟩ rfl ?_;refine Af 1 rfl (.mv rfl) ⟨trivial,tT⟩ rfl ?_;refine Af 3 rfl (.mv rfl) ⟨trivial,tT⟩ rfl ?_;refine Af 4 rfl (.nck rfl) ⟨trivial,tT⟩ rfl ?_;refine Af 5 rfl (.fa BL rfl Ey dD rfl) ⟨trivial,tT⟩ rfl ?_;refine Af 6 rfl (.fa Fb rfl JH dD rfl) ⟨trivial,tT⟩ rfl ?_;refine Af 8 rfl (.mv rfl) ⟨trivial,tT⟩ rfl ?_;refine Ea 2 rfl 7 rfl ?_ ?_;refine DQ AN rfl rfl ((HV xp V.path.list xc _ (Ei aQ).row oO)) (λy ct aR=>?_);have dg:=JP (w1:=ct) dd (λk hk hl=>aR.1.block k hl);have bq:=Hn (w1:=ct) aQ (λk hk hl=>aR.1.block k hl);have dh:=Hn (w1:=ct) de (λk hk hl=>aR.1.block k hl);have bt:=ca.bl aR.1;have bu:=Cd df aR.1;have hy:=aR.2;obtain ⟨yp,yc⟩:=y;have b7:=(K5.size aQ);obtain ⟨p6,c6,e6,di⟩:=CC.own (Z:=E3 fs.c F1 ct) hy (λg hg=>⟨(hy.lt g hg).2,λhf=>by have:=b5 g hf;have:=(hy.lt g hg).1;omega,by have:=(hy.lt g hg).1;omega⟩);cases e6;have bw:=K5.of (Q:=λw=>CC Fq (E3 fs.c F1 w) w yp V.path.list yc) di;refine WL.e<|⟨⟨trivial,tT⟩,?_⟩;refine Ea 7 rfl 9 rfl ?_ ?_;refine Ag (Ck (L:=FX) GH rfl EJ bt (H1.s.stroke) (rfl) rfl)<|WL.e<|⟨⟨trivial,tT⟩,?_⟩;refine An 9 rfl<|WL.cx AN rfl rfl ((N3 bt (Uw dh) (by rw [d.s];exact hsn.s.pen))) (λfQ cu aw an=>?_) (λfR hj cu aw an=>?_);have dj:=Cd bu an;exact Aw (Dq fQ (by rw [d.s] at aw;rw [<- hD,Ax aw];rfl) (aY dj));have dk:=JP (w1:=cu) dg (λk hk hl=>an.1.block k hl);have dl:=Hn (w1:=cu) bq (λk hk hl=>an.1.block k hl);have fe:=Hn (w1:=cu) bw (λk hk hl=>an.1.block k hl);have cb:=Cd bu an.1;obtain ⟨qq,rfl⟩:∃ x,x=fR:=⟨_,rfl⟩
  obtain ⟨q1,bK,aZ,bM⟩:=an.2;subst bK;have dm:=(K5.size bq);have bN:=K5.of (Q:=λw=>CC RV (E3 fs.c F1 w) w q1.pfDash q1.fDash q1.cfDash) (bM.mono (λg hg=>⟨hg.2,λhf=>by have:=b5 g hf;have:=hg.1;omega,by have:=hg.1;omega⟩));rw [d.s] at aw;rw [AG aw] at hD;refine WL.e<|⟨⟨trivial,tT⟩,?_⟩;refine Af 10 rfl (.build rfl (A3b 3 yp V.path.list yc H1.s.stroke q1)) ⟨trivial,tT⟩ rfl ?_;refine An 11 rfl<|WL.cx AN rfl rfl ((Oy ⟨3,yp,V.path.list,yc,H1.s.stroke,none,[],0,q1,0,0,0,0,0,0,0,none,[],0⟩ (dk).get (by rw [d.s];exact hsn.s) ⟨Ei fe,CC.nil _ _ _,λy hy=>(by cases hy),Ei bN,Sx.nil _ _⟩ ⟨rfl,rfl,rfl⟩)) (λfS fT af cc=>?_) (λhm hn fT af cc=>?_);exact Aw (Dq fS (by rw [<- hD];exact Ax ((by rw [aP,Tg (yp:=yp) (yc:=yc) aZ,d.s]:Fu V1 (Fx 3 V.path.list V.s.stroke qq V.s.clips)=Fu V1 _).trans af)) (EZ (aY cb) cc));obtain ⟨rfl,F2,aT,a'⟩:=cc;have aU:=(Ei dl).mv (E3.mv a');have av:=PU cb a';have bm:=AG (f:=λv2=>FG V>>=λcl=>(.ok { v2 with s:={ V.s with clips:=cl },clip:=0,path:=I9 }:Except Int Vw)) ((by rw [aP,Tg (yp:=yp) (yc:=yc) aZ,d.s]:Fu V1 (Fx 3 V.path.list V.s.stroke qq V.s.clips)=Fu V1 _).trans af);refine WL.e<|⟨⟨trivial,tT⟩,?_⟩;refine Bd kR ?_
  first
  | exact ⟨(F2,_),⟨rfl,rfl,tT⟩,aT,av,aU,bm.symm.trans hD,⟨(F8 af).1.trans d.s,(F8 af).2.1.trans d.path,(F8 af).2.2.trans d.clip⟩⟩
  | exact ⟨(F1,V1),⟨rfl,rfl,tT⟩,(dk).get,cb,Ei dl,(AG (Mm (λhc=>by exact Yy aS hc))).symm.trans hD,d⟩
  refine WL.cx AN rfl rfl ((N3 bt (Uw dh) (by rw [d.s];exact hsn.s.pen))) (λfU cw ax aa=>?_) (λfV ho cw ax aa=>?_);have dn:=Cd bu aa;exact Aw (Dq fU (by rw [d.s] at ax;rw [<- hD,Ax ax];rfl) (aY dn));have dp:=JP (w1:=cw) dg (λk hk hl=>aa.1.block k hl);have dq:=Hn (w1:=cw) bq (λk hk hl=>aa.1.block k hl);have ff:=Hn (w1:=cw) bw (λk hk hl=>aa.1.block k hl);have fg:=bt.bl aa.1;have cd:=Cd bu aa.1;obtain ⟨qq,rfl⟩:∃ x,x=fV:=⟨_,rfl⟩;obtain ⟨q1,bK,aZ,bM⟩:=aa.2;subst bK;have dm:=(K5.size bq);have bN:=K5.of (Q:=λw=>CC RV (E3 fs.c F1 w) w q1.pfDash q1.fDash q1.cfDash) (bM.mono (λg hg=>⟨hg.2,λhf=>by have:=b5 g hf;have:=hg.1;omega,by have:=hg.1;omega⟩));rw [d.s] at ax;rw [AG ax] at hD;refine WL.e<|⟨⟨trivial,tT⟩,?_⟩;refine An 7 rfl<|Ag (Ck (L:=FX) GH rfl EJ fg (H1.s.stroke) (rfl) rfl)<|WL.e<|⟨⟨trivial,tT⟩,?_⟩;refine Af 10 rfl (.build rfl (A3b 3 yp V.path.list yc H1.s.stroke q1)) ⟨trivial,tT⟩ rfl ?_;refine An 11 rfl<|WL.cx AN rfl rfl ((Oy ⟨3,yp,V.path.list,yc,H1.s.stroke,none,[],0,q1,0,0,0,0,0,0,0,none,[],0⟩ (dp).get (by rw [d.s];exact hsn.s) ⟨Ei ff,CC.nil _ _ _,λy hy=>(by cases hy),Ei bN,Sx.nil _ _⟩ ⟨rfl,rfl,rfl⟩)) (λfW fX ag cf=>?_) (λhp hr fX ag cf=>?_);exact Aw (Dq fW (by rw [<- hD];exact Ax ((by rw [aP,Tg (yp:=yp) (yc:=yc) aZ,d.s]:Fu V1 (Fx 3 V.path.list V.s.stroke qq V.s.clips)=Fu V1 _).trans ag)) (EZ (aY cd) cf));obtain ⟨rfl,F2,aT,a'⟩:=cf;have aU:=(Ei dq).mv (E3.mv a');have av:=PU cd a';have bm:=AG (f:=λv2=>FG V>>=λcl=>(.ok { v2 with s:={ V.s with clips:=cl },clip:=0,path:=I9 }:Except Int Vw)) ((by rw [aP,Tg (yp:=yp) (yc:=yc) aZ,d.s]:Fu V1 (Fx 3 V.path.list V.s.stroke qq V.s.clips)=Fu V1 _).trans ag);refine WL.e<|⟨⟨trivial,tT⟩,?_⟩;refine Bd kR ?_
  first
  | exact ⟨(F2,_),⟨rfl,rfl,tT⟩,aT,av,aU,bm.symm.trans hD,⟨(F8 ag).1.trans d.s,(F8 ag).2.1.trans d.path,(F8 ag).2.2.trans d.clip⟩⟩
  | exact ⟨(F1,V1),⟨rfl,rfl,tT⟩,(dp).get,cd,Ei dq,(AG (Mm (λhc=>by exact Yy aS hc))).symm.trans hD,d⟩
  refine Ag (Ck (L:=FX) GH rfl EJ ca (H1.s.stroke) (rfl) rfl)<|WL.e<|⟨⟨trivial,tT⟩,?_⟩;refine An 2 rfl<|DQ AN rfl rfl ((HV xp V.path.list xc _ (Ei aQ).row oO)) (λy cy aV=>?_);have fh:=JP (w1:=cy) dd (λk hk hl=>aV.1.block k hl);have dr:=Hn (w1:=cy) aQ (λk hk hl=>aV.1.block k hl);have fj:=Hn (w1:=cy) de (λk hk hl=>aV.1.block k hl);have fk:=ca.bl aV.1;have ds:=Cd df aV.1;have hy:=aV.2;obtain ⟨yp,yc⟩:=y;have b7:=(K5.size aQ);obtain ⟨p6,c6,e6,di⟩:=CC.own (Z:=E3 fs.c F1 cy) hy (λg hg=>⟨(hy.lt g hg).2,λhf=>by have:=b5 g hf;have:=(hy.lt g hg).1;omega,by have:=(hy.lt g hg).1;omega⟩);cases e6;have bw:=K5.of (Q:=λw=>CC Fq (E3 fs.c F1 w) w yp V.path.list yc) di;refine WL.e<|⟨⟨trivial,tT⟩,?_⟩;refine An 9 rfl<|WL.cx AN rfl rfl ((N3 fk (Uw fj) (by rw [d.s];exact hsn.s.pen))) (λfY cz ay ao=>?_) (λfZ ht cz ay ao=>?_);have dt:=Cd ds ao;exact Aw (Dq fY (by rw [d.s] at ay;rw [<- hD,Ax ay];rfl) (aY dt));have du:=JP (w1:=cz) fh (λk hk hl=>ao.1.block k hl);have dv:=Hn (w1:=cz) dr (λk hk hl=>ao.1.block k hl);have fl:=Hn (w1:=cz) bw (λk hk hl=>ao.1.block k hl);have cg:=Cd ds ao.1;obtain ⟨qq,rfl⟩:∃ x,x=fZ:=⟨_,rfl⟩;obtain ⟨q1,bK,aZ,bM⟩:=ao.2;subst bK;have dm:=(K5.size dr);have bN:=K5.of (Q:=λw=>CC RV (E3 fs.c F1 w) w q1.pfDash q1.fDash q1.cfDash) (bM.mono (λg hg=>⟨hg.2,λhf=>by have:=b5 g hf;have:=hg.1;omega,by have:=hg.1;omega⟩));rw [d.s] at ay;rw [AG ay] at hD;refine WL.e<|⟨⟨trivial,tT⟩,?_⟩;refine Af 10 rfl (.build rfl (A3b 3 yp V.path.list yc H1.s.stroke q1)) ⟨trivial,tT⟩ rfl ?_;refine An 11 rfl<|WL.cx AN rfl rfl ((Oy ⟨3,yp,V.path.list,yc,H1.s.stroke,none,[],0,q1,0,0,0,0,0,0,0,none,[],0⟩ (du).get (by rw [d.s];exact hsn.s) ⟨Ei fl,CC.nil _ _ _,λy hy=>(by cases hy),Ei bN,Sx.nil _ _⟩ ⟨rfl,rfl,rfl⟩)) (λf' g0 E ci=>?_) (λhu hv g0 E ci=>?_);exact Aw (Dq f' (by rw [<- hD];exact Ax ((by rw [aP,Tg (yp:=yp) (yc:=yc) aZ,d.s]:Fu V1 (Fx 3 V.path.list V.s.stroke qq V.s.clips)=Fu V1 _).trans E)) (EZ (aY cg) ci))
  obtain ⟨rfl,F2,aT,a'⟩:=ci;have aU:=(Ei dv).mv (E3.mv a');have av:=PU cg a';have bm:=AG (f:=λv2=>FG V>>=λcl=>(.ok { v2 with s:={ V.s with clips:=cl },clip:=0,path:=I9 }:Except Int Vw)) ((by rw [aP,Tg (yp:=yp) (yc:=yc) aZ,d.s]:Fu V1 (Fx 3 V.path.list V.s.stroke qq V.s.clips)=Fu V1 _).trans E);refine WL.e<|⟨⟨trivial,tT⟩,?_⟩;refine Bd kR ?_
  first
  | exact ⟨(F2,_),⟨rfl,rfl,tT⟩,aT,av,aU,bm.symm.trans hD,⟨(F8 E).1.trans d.s,(F8 E).2.1.trans d.path,(F8 E).2.2.trans d.clip⟩⟩
  | exact ⟨(F1,V1),⟨rfl,rfl,tT⟩,(du).get,cg,Ei dv,(AG (Mm (λhc=>by exact Yy aS hc))).symm.trans hD,d⟩
  refine W.k ?_
  first
  | exact ⟨(F2,_),⟨rfl,rfl,tT⟩,aT,av,aU,bm.symm.trans hD,⟨(F8 E).1.trans d.s,(F8 E).2.1.trans d.path,(F8 E).2.2.trans d.clip⟩⟩
  | exact ⟨(F1,V1),⟨rfl,rfl,tT⟩,(b3).get,j2,Ei b4,(AG (Mm (λhc=>by exact Yy aS hc))).symm.trans hD,d⟩
  obtain ⟨⟨F2,V2⟩,bI⟩:∃ u,u=t:=⟨t,rfl⟩;subst bI;obtain ⟨k1,k2,k3,J,k5⟩:=hR;obtain ⟨wJ,g1⟩:∃ u,u=w1:=⟨_,rfl⟩;subst g1;simp only at k1 k2 k3 J k5;have eZ:=aY k2;have ab:=k1.lt;obtain ⟨H2,G,fm,g2,g3,dw,bn,bx⟩:=k1.mem;have ap:=bn.blk;have b8:=bn.pth;obtain ⟨pvc,cvc,lcl,evc,K,A,j⟩:=bx.st.clips;have gP:=bx.cx;have dx:H2.clip=V.clip:=by rw [bx.clip,k5.clip]
  have gQ:lcl.length=V.s.clips.length:=by rw [<- k5.s,<- j,BD]
  have gR:=(RH (l:=lcl) (by rw [j,k5.s];exact hsn.s.clips)).1;obtain ⟨⟨ctm,fi,sk,pe,clv,fn,sz⟩,fo,sa,pa,b0,a9,lo,te,li,ar,itv⟩:=H2;simp only at evc dx;subst evc;have gK:=ap.lt;have g4:∀ g∈[bv,pa,vb G pa],∃ t'∈[74,97,94],NC wJ g t':=λg hg=>by
    rcases Ar.1 hg with rfl | hg
    · exact ⟨_,by simp,ap.ty⟩
    · obtain ⟨t', h1, h2⟩ := Kc b8.own b8.blk.ty g hg
      exact ⟨t',List.mem_cons_of_mem _ h1,h2⟩
  have b2:∀ g∈[bv,pa,vb G pa],F2 g:=λg hg=>by
    rw [dw];rcases Ar.1 hg with rfl | hg
    · exact .inl rfl
    · exact (Ll (N:=g+1) (F:=Gm bv ⟨⟨ctm,fi,sk,pe,.slice pvc lcl.length cvc,fn,sz⟩,fo,sa,pa,b0,a9,lo,te,li,ar,itv⟩ G) (λg hg=>.inr (.inr (.inl hg))) (.inr (.inl rfl)) g hg).elim id (λh=>CM h oO)
  have a:∀ {w2:World},AB wJ.heap.size [bv,pa,vb G pa] wJ w2->Df F2 F2 wJ w2:=λhK=>Cn hK (λg hg=>.inl (b2 g hg)) (λg hg=>.inl hg)
  have e':∀ {w2:World},AB wJ.heap.size [bv,pa,vb G pa] wJ w2->Below B w w2:=λhK=>EZ eZ ((a hK).below (AW eT eZ.size) (λg hg=>(ab g hg).1))
  obtain ⟨aq,au⟩:bv≠pa/\bv≠vb G pa:=Ye b8 ap;have fp:pa<wJ.heap.size:=b8.blk.lt;have gS:vb G pa<wJ.heap.size:=NA b8.own fp;have b1:=AB.refl wJ.heap.size [bv,pa,vb G pa] wJ;have cj:GW B pa V2.path G wJ:=⟨b8,bn.lbp⟩;have aW:=b8.own.lt;refine D4 (α:=Option Addr × List Bv × Nat) (λt=>[(0,.pointer (some ⟨bv,0,none⟩))]) (λt w'=>AB wJ.heap.size [bv,pa,vb G pa] wJ w'/\AF w' bv (Fh ⟨⟨ctm,fi,sk,pe,.slice t.1 t.2.1.length t.2.2,fn,sz⟩,fo,sa,pa,b0,a9,lo,te,li,ar,itv⟩).toArray 74/\CC Gk (E3 fs.c F2 w') w' t.1 t.2.1 t.2.2/\(∀ y∈t.2.1,Me (E3 fs.c F2 w') w' y)/\.ok { V2 with s:={ V.s with clips:=t.2.1.map Fn },clip:=0,path:=I9 }=R/\GW B pa V2.path G w') ?_ (λt w1 hR=>?_);refine A4<|A2 rfl<|A0 (.nck rfl)<|A0 (.fa BL rfl B5 dD rfl)<|Ag (Ad (Bw _) rfl ap rfl)<|A0 (.gtr rfl rfl)<|WL.e<|Ac rfl (λdy=>?_) (λdy=>?_)
  · have fq := dT dy
    have dz:=Wc (v:=V) (by first | omega | (simp only at *;omega));rw [dz] at J;refine A4<|A2 rfl<|A0 (.lenS Fj rfl)<|A0 (.bis (decide (V.path.list.length > 0)) (.gtr rfl rfl) (by exact D5.2 oO))<|Bk AN rfl rfl ((Dc _ _)) (λg6 f0 bz b9=>?_) (λhz f0 bz b9=>?_);have dA:=kB b1 b9;exact Aw (Dq g6 (by rw [<- J];exact Ax (Ax bz)) (e' dA));have fr:=GW.same (w1:=f0) cj (λk hk hl=>b9.block k hl);have dB:=ap.bl b9;have dC:=kB b1 b9;rw [AG bz] at J;refine WL.e<|A4<|A2 rfl<|A0 (.nck rfl)<|A0 (.fa BL rfl Ey dD rfl)<|A0 (.fa Fb rfl GA dD rfl)<|Ag (Ad (Kj _) rfl dB rfl)<|A0 (.lenS Fi rfl)<|A0 (.bis (decide (V.s.clips.length<16)) (.lss rfl rfl) (by exact D5.2 oO))<|Bk AN rfl rfl ((Nz _ _)) (λg7 f1 bA ba=>?_) (λhA f1 bA ba=>?_);have dE:=kB dC ba;exact Aw (Dq g7 (by rw [<- J];exact Ax (Ax bA)) (e' dE));have ft:=GW.same (w1:=f1) fr (λk hk hl=>ba.block k hl);have fu:=dB.bl ba;have fv:=kB dC ba;rw [AG bA] at J;refine WL.e<|Dr 20 rfl C7 (λw'=>True/\True) (λg8 ck=>?_);have aX:=GW.same (w1:=g8) ft (λk hk hl=>(by obtain ⟨m,rfl⟩:=ck;rfl));have D:=fu.drew ck;have q:=DA fv (Q8 ck);refine Af 0 rfl (.mv rfl) ⟨trivial,tT⟩ rfl ?_;refine Af 1 rfl (.mv rfl) ⟨trivial,tT⟩ rfl ?_;refine Af 2 rfl (.nck rfl) ⟨trivial,tT⟩ rfl ?_;refine Af 3 rfl (.fa BL rfl Ey dD rfl) ⟨trivial,tT⟩ rfl ?_;refine Af 4 rfl (.fa Fb rfl GA dD rfl) ⟨trivial,tT⟩ rfl ?_;refine Af 7 rfl (.mv rfl) ⟨trivial,tT⟩ rfl ?_;refine Af 8 rfl (.mv rfl) ⟨trivial,tT⟩ rfl ?_;refine Af 9 rfl (.nck rfl) ⟨trivial,tT⟩ rfl ?_;refine Af 10 rfl (.fa BL rfl B5 dD rfl) ⟨trivial,tT⟩ rfl ?_;refine Ea 5 rfl 11 rfl ?_ ?_;refine Ag (Ad (Kj _) rfl D rfl)<|WL.e<|⟨⟨trivial,tT⟩,?_⟩;refine Ea 6 rfl 11 rfl ?_ ?_;refine DQ AN rfl rfl ((G7 pvc lcl cvc _ (K.mv (E3.mv (a q))).row oO)) (λy g9 bb=>?_);have fw:=GW.same (w1:=g9) aX (λk hk hl=>bb.1.block k hl);have cm:=D.bl bb.1;have dG:=kB q bb.1;have hy:=bb.2;obtain ⟨yp,yc⟩:=y
    have b7:=q.size;have C:=(bb.1).size;have i:=hy.lt;refine WL.e<|⟨⟨trivial,tT⟩,?_⟩;refine An 11 rfl<|Ag (Ad (Bw _) rfl cm rfl)<|WL.e<|⟨⟨trivial,tT⟩,?_⟩;refine Af 12 rfl (.bis (decide (V.clip=2)) (.eql rfl rfl) (by exact D5.2 (by first | omega | (simp only at *;omega)))) ⟨trivial,tT⟩ rfl ?_;refine Af 13 rfl (.buildL (ps:=_) Wf rfl rfl rfl pS) ⟨trivial,tT⟩ rfl ?_;refine An 14 rfl<|Cu (L:=Gk) (ps:=_) ([(⟨xp,V.path.list,xc,decide (V.clip=2)⟩:Bv)]) Fi Kr RY rfl rfl rfl rfl rfl rD rfl rfl (λf2 dH cn dY az gL=>?_);have cA:=AW C az.size;have fx:=GU hy cn az;have fy:=GW.same (w1:=dH) fw (λk hk hl=>az.other k oO);have fz:=Bg cn cm.lt;have fA:=cm.un az fz;have dI:wJ.heap.size<=f2:=by rw [cn];exact dG.size
    have cB:=DA dG (Hf az dI);have ga:f2<=dH.heap.size:=by omega
    refine WL.e<|⟨⟨trivial,tT⟩,?_⟩;refine An 15 rfl<|CW Fi MU rfl rfl rfl fx rfl (dY).rowp oE (cA) rfl (λh=>CM h (Q6 _ _)) (λgT gU aA bO bP gb=>?_);have dZ:=fA.below bO oO;have d':=GW.same fy (λk hk hl=>bP.block k hl (λe=>by rcases hk with rfl | hk;(have:=i _ e.symm;omega);(have:=i _ e.symm;have:=aW _ hk;omega)));have e0:=DA cB (C1 bP (λg hg=>.inr (by have:=i g hg;omega)) cB.size);have dJ:=AW cA bO.size;obtain ⟨pv,cv,evv,-⟩:=(aA).row;subst evv;refine WL.e<|⟨⟨trivial,tT⟩,?_⟩;refine Af 16 rfl (.nck rfl) ⟨trivial,tT⟩ rfl ?_;refine Af 17 rfl (.fa BL rfl Ey dD rfl) ⟨trivial,tT⟩ rfl ?_;refine Af 18 rfl (.fa Fb rfl GA dD rfl) ⟨trivial,tT⟩ rfl ?_;refine An 19 rfl<|C2 (o:=22) ((Fh ⟨⟨ctm,fi,sk,pe,.slice pv (lcl++[(⟨xp,V.path.list,xc,decide (V.clip=2)⟩:Bv)]).length cv,fn,sz⟩,fo,sa,pa,b0,a9,lo,te,li,ar,itv⟩).toArray) GA rfl (rfl) rfl ((aA).one) dZ bL (rfl) (λbc aB P gc=>?_);have aB:AF bc bv _ _:=aB;have P:BF bv _ _:=P;have ge:=AW dJ P.size;have e1:=Ia aA P (λg hg e=>by have:=(aA).lt g hg;omega);have cC:=GW.same (w1:=bc) d' (λk hk hl=>P.other k (λe=>by rcases hk with rfl | hk;exact aq e.symm;exact au (e▸(FR hk).symm)));have ah:=kU e0 P;refine WL.e<|⟨⟨trivial,tT⟩,?_⟩;refine Bd kR ?_
    first
    | (have b := e1
       obtain ⟨p9,c9,e9,T⟩:=CC.own (Z:=E3 fs.c F2 bc) b (λg hg=>⟨(b.lt g hg).2,λhf=>by have:=ab g hf;have:=(b.lt g hg).1;omega,by have:=(b.lt g hg).1;omega⟩);cases e9;have U:∀ y∈lcl++[(⟨xp,V.path.list,xc,decide (V.clip=2)⟩:Bv)],Me (E3 fs.c F2 bc) bc y:=λy hy=>(Ba.1 hy).elim (λh=>(A y h).mv (E3.mv (a ah))) (λh=>by rw [Am.1 h];exact k3.mv (E3.mv (a ah)))
       exact ⟨(pv,lcl++[(⟨xp,V.path.list,xc,decide (V.clip=2)⟩:Bv)],cv),⟨rfl,tT⟩,ah,aB,T,U,by rw [<- J,BC,j,k5.s];rfl,cC⟩)
    | exact ⟨(pvc,lcl,cvc),⟨rfl,tT⟩,ah,aB,K.mv (E3.mv (a ah)),λy hy=>(A y hy).mv (E3.mv (a ah)),by rw [<- J,j,k5.s] <;> rfl,cC⟩
    refine Ag (Ad (Bw _) rfl D rfl)<|WL.e<|⟨⟨trivial,tT⟩,?_⟩;refine Af 12 rfl (.bis (decide (V.clip=2)) (.eql rfl rfl) (by exact D5.2 (by first | omega | (simp only at *;omega)))) ⟨trivial,tT⟩ rfl ?_;refine Af 13 rfl (.buildL (ps:=_) Wf rfl rfl rfl pS) ⟨trivial,tT⟩ rfl ?_;refine Ea 6 rfl 14 rfl ?_ ?_;refine DQ AN rfl rfl ((G7 pvc lcl cvc _ (K.mv (E3.mv (a q))).row oO)) (λy fB aC=>?_);have e2:=GW.same (w1:=fB) aX (λk hk hl=>aC.1.block k hl);have cD:=D.bl aC.1;have cE:=kB q aC.1;have hy:=aC.2;obtain ⟨yp,yc⟩:=y;have b7:=q.size;have C:=(aC.1).size;have i:=hy.lt;refine WL.e<|⟨⟨trivial,tT⟩,?_⟩;refine An 14 rfl<|Cu (L:=Gk) (ps:=_) ([(⟨xp,V.path.list,xc,decide (V.clip=2)⟩:Bv)]) Fi Kr RY rfl rfl rfl rfl rfl rD rfl rfl (λdK cF bB dL ac gf=>?_);have bQ:=AW C ac.size;have e3:=GU hy bB ac;have e4:=GW.same (w1:=cF) e2 (λk hk hl=>ac.other k oO);have e7:=Bg bB cD.lt;have e8:=cD.un ac e7;have d1:wJ.heap.size<=dK:=by rw [bB];exact cE.size
    have cG:=DA cE (Hf ac d1);have fH:dK<=cF.heap.size:=by omega
    refine WL.e<|⟨⟨trivial,tT⟩,?_⟩;refine An 15 rfl<|CW Fi MU rfl rfl rfl e3 rfl (dL).rowp oE (bQ) rfl (λh=>CM h (Q6 _ _)) (λgV gW aD bR bS gg=>?_);have ea:=e8.below bR oO;have eb:=GW.same e4 (λk hk hl=>bS.block k hl (λe=>by rcases hk with rfl | hk;(have:=i _ e.symm;omega);(have:=i _ e.symm;have:=aW _ hk;omega)));have ec:=DA cG (C1 bS (λg hg=>.inr (by have:=i g hg;omega)) cG.size);have dM:=AW bQ bR.size;obtain ⟨pv,cv,evv,-⟩:=(aD).row;subst evv;refine WL.e<|⟨⟨trivial,tT⟩,?_⟩;refine Af 16 rfl (.nck rfl) ⟨trivial,tT⟩ rfl ?_;refine Af 17 rfl (.fa BL rfl Ey dD rfl) ⟨trivial,tT⟩ rfl ?_;refine Af 18 rfl (.fa Fb rfl GA dD rfl) ⟨trivial,tT⟩ rfl ?_;refine An 19 rfl<|C2 (o:=22) ((Fh ⟨⟨ctm,fi,sk,pe,.slice pv (lcl++[(⟨xp,V.path.list,xc,decide (V.clip=2)⟩:Bv)]).length cv,fn,sz⟩,fo,sa,pa,b0,a9,lo,te,li,ar,itv⟩).toArray) GA rfl (rfl) rfl ((aD).one) ea bL (rfl) (λbd aE X gh=>?_);have aE:AF bd bv _ _:=aE;have X:BF bv _ _:=X;have gi:=AW dM X.size;have ed:=Ia aD X (λg hg e=>by have:=(aD).lt g hg;omega);have cH:=GW.same (w1:=bd) eb (λk hk hl=>X.other k (λe=>by rcases hk with rfl | hk;exact aq e.symm;exact au (e▸(FR hk).symm)));have ai:=kU ec X;refine WL.e<|⟨⟨trivial,tT⟩,?_⟩;refine Bd kR ?_
    first
    | (have b := ed
       obtain ⟨p9,c9,e9,T⟩:=CC.own (Z:=E3 fs.c F2 bd) b (λg hg=>⟨(b.lt g hg).2,λhf=>by have:=ab g hf;have:=(b.lt g hg).1;omega,by have:=(b.lt g hg).1;omega⟩);cases e9;have U:∀ y∈lcl++[(⟨xp,V.path.list,xc,decide (V.clip=2)⟩:Bv)],Me (E3 fs.c F2 bd) bd y:=λy hy=>(Ba.1 hy).elim (λh=>(A y h).mv (E3.mv (a ai))) (λh=>by rw [Am.1 h];exact k3.mv (E3.mv (a ai)))
       exact ⟨(pv,lcl++[(⟨xp,V.path.list,xc,decide (V.clip=2)⟩:Bv)],cv),⟨rfl,tT⟩,ai,aE,T,U,by rw [<- J,BC,j,k5.s];rfl,cH⟩)
    | exact ⟨(pvc,lcl,cvc),⟨rfl,tT⟩,ai,aE,K.mv (E3.mv (a ai)),λy hy=>(A y hy).mv (E3.mv (a ai)),by rw [<- J,j,k5.s] <;> rfl,cH⟩
    refine Cu (L:=Gk) (ps:=_) ([(⟨xp,V.path.list,xc,decide (V.clip=2)⟩:Bv)]) Fi Kr RY rfl rfl rfl rfl rfl rD rfl rfl (λdN cI cJ bT be gj=>?_);have ee:=GW.same (w1:=cI) aX (λk hk hl=>be.other k oO);have ef:=Bg cJ D.lt;have eg:=D.un be ef;have d2:wJ.heap.size<=dN:=by rw [cJ];exact q.size
    have bC:=DA q (Hf be d2);have d3:dN<=cI.heap.size:=by omega
    refine WL.e<|⟨⟨trivial,tT⟩,?_⟩;refine An 6 rfl<|DQ AN rfl rfl ((G7 pvc lcl cvc _ (K.mv (E3.mv (a bC))).row oO)) (λy fC a5=>?_);have gk:=AW d3 a5.1.size;have eh:=GW.same (w1:=fC) ee (λk hk hl=>a5.1.block k hl);have ei:=eg.bl a5.1;have ej:=I8 (bT).rowp a5.1 (λh0=>(bT).rowp.lt h0);have cK:=kB bC a5.1;have hy:=a5.2;obtain ⟨yp,yc⟩:=y;have b7:=bC.size;have C:=(a5.1).size;have i:=hy.lt;refine WL.e<|⟨⟨trivial,tT⟩,?_⟩;refine An 15 rfl<|CW Fi MU rfl rfl rfl hy rfl ej oE (C) rfl (λh=>CM h (Q6 _ _)) (λgX gY aF bU bV gl=>?_);have ek:=ei.below bU oO;have el:=GW.same eh (λk hk hl=>bV.block k hl (λe=>by rcases hk with rfl | hk;(have:=i _ e.symm;omega);(have:=i _ e.symm;have:=aW _ hk;omega)));have em:=DA cK (C1 bV (λg hg=>.inr (by have:=i g hg;omega)) cK.size);have dO:=AW C bU.size;obtain ⟨pv,cv,evv,-⟩:=(aF).row;subst evv;refine WL.e<|⟨⟨trivial,tT⟩,?_⟩;refine Af 16 rfl (.nck rfl) ⟨trivial,tT⟩ rfl ?_;refine Af 17 rfl (.fa BL rfl Ey dD rfl) ⟨trivial,tT⟩ rfl ?_;refine Af 18 rfl (.fa Fb rfl GA dD rfl) ⟨trivial,tT⟩ rfl ?_;refine An 19 rfl<|C2 (o:=22) ((Fh ⟨⟨ctm,fi,sk,pe,.slice pv (lcl++[(⟨xp,V.path.list,xc,decide (V.clip=2)⟩:Bv)]).length cv,fn,sz⟩,fo,sa,pa,b0,a9,lo,te,li,ar,itv⟩).toArray) GA rfl (rfl) rfl ((aF).one) ek bL (rfl) (λbf aG a0 gm=>?_);have aG:AF bf bv _ _:=aG;have a0:BF bv _ _:=a0;have go:=AW dO a0.size;have en:=Ia aF a0 (λg hg e=>by have:=(aF).lt g hg;omega);have cL:=GW.same (w1:=bf) el (λk hk hl=>a0.other k (λe=>by rcases hk with rfl | hk;exact aq e.symm;exact au (e▸(FR hk).symm)));have aj:=kU em a0;refine WL.e<|⟨⟨trivial,tT⟩,?_⟩;refine Bd kR ?_
    first
    | (have b := en
       obtain ⟨p9,c9,e9,T⟩:=CC.own (Z:=E3 fs.c F2 bf) b (λg hg=>⟨(b.lt g hg).2,λhf=>by have:=ab g hf;have:=(b.lt g hg).1;omega,by have:=(b.lt g hg).1;omega⟩);cases e9;have U:∀ y∈lcl++[(⟨xp,V.path.list,xc,decide (V.clip=2)⟩:Bv)],Me (E3 fs.c F2 bf) bf y:=λy hy=>(Ba.1 hy).elim (λh=>(A y h).mv (E3.mv (a aj))) (λh=>by rw [Am.1 h];exact k3.mv (E3.mv (a aj)))
       exact ⟨(pv,lcl++[(⟨xp,V.path.list,xc,decide (V.clip=2)⟩:Bv)],cv),⟨rfl,tT⟩,aj,aG,T,U,by rw [<- J,BC,j,k5.s];rfl,cL⟩)
    | exact ⟨(pvc,lcl,cvc),⟨rfl,tT⟩,aj,aG,K.mv (E3.mv (a aj)),λy hy=>(A y hy).mv (E3.mv (a aj)),by rw [<- J,j,k5.s] <;> rfl,cL⟩
    refine Ag (Ad (Bw _) rfl D rfl)<|WL.e<|⟨⟨trivial,tT⟩,?_⟩;refine Af 12 rfl (.bis (decide (V.clip=2)) (.eql rfl rfl) (by exact D5.2 (by first | omega | (simp only at *;omega)))) ⟨trivial,tT⟩ rfl ?_;refine Af 13 rfl (.buildL (ps:=_) Wf rfl rfl rfl pS) ⟨trivial,tT⟩ rfl ?_;refine Ea 5 rfl 14 rfl ?_ ?_;refine Ag (Ad (Kj _) rfl D rfl)<|WL.e<|⟨⟨trivial,tT⟩,?_⟩;refine Ea 6 rfl 14 rfl ?_ ?_;refine DQ AN rfl rfl ((G7 pvc lcl cvc _ (K.mv (E3.mv (a q))).row oO)) (λy fD aH=>?_);have eo:=GW.same (w1:=fD) aX (λk hk hl=>aH.1.block k hl);have cM:=D.bl aH.1;have cN:=kB q aH.1;have hy:=aH.2;obtain ⟨yp,yc⟩:=y;have b7:=q.size;have C:=(aH.1).size;have i:=hy.lt;refine WL.e<|⟨⟨trivial,tT⟩,?_⟩;refine An 14 rfl<|Cu (L:=Gk) (ps:=_) ([(⟨xp,V.path.list,xc,decide (V.clip=2)⟩:Bv)]) Fi Kr RY rfl rfl rfl rfl rfl rD rfl rfl (λdP cO bD dQ ad gp=>?_);have bW:=AW C ad.size;have ep:=GU hy bD ad;have eq:=GW.same (w1:=cO) eo (λk hk hl=>ad.other k oO);have er:=Bg bD cM.lt;have es:=cM.un ad er;have d4:wJ.heap.size<=dP:=by rw [bD];exact cN.size
    have cP:=DA cN (Hf ad d4);have fI:dP<=cO.heap.size:=by omega
    refine WL.e<|⟨⟨trivial,tT⟩,?_⟩;refine An 15 rfl<|CW Fi MU rfl rfl rfl ep rfl (dQ).rowp oE (bW) rfl (λh=>CM h (Q6 _ _)) (λgZ g' aI bX bY gq=>?_);have et:=es.below bX oO;have eu:=GW.same eq (λk hk hl=>bY.block k hl (λe=>by rcases hk with rfl | hk;(have:=i _ e.symm;omega);(have:=i _ e.symm;have:=aW _ hk;omega)));have ev:=DA cP (C1 bY (λg hg=>.inr (by have:=i g hg;omega)) cP.size);have dR:=AW bW bX.size;obtain ⟨pv,cv,evv,-⟩:=(aI).row;subst evv;refine WL.e<|⟨⟨trivial,tT⟩,?_⟩;refine Af 16 rfl (.nck rfl) ⟨trivial,tT⟩ rfl ?_;refine Af 17 rfl (.fa BL rfl Ey dD rfl) ⟨trivial,tT⟩ rfl ?_;refine Af 18 rfl (.fa Fb rfl GA dD rfl) ⟨trivial,tT⟩ rfl ?_;refine An 19 rfl<|C2 (o:=22) ((Fh ⟨⟨ctm,fi,sk,pe,.slice pv (lcl++[(⟨xp,V.path.list,xc,decide (V.clip=2)⟩:Bv)]).length cv,fn,sz⟩,fo,sa,pa,b0,a9,lo,te,li,ar,itv⟩).toArray) GA rfl (rfl) rfl ((aI).one) et bL (rfl) (λbg aJ a1 gr=>?_);have aJ:AF bg bv _ _:=aJ;have a1:BF bv _ _:=a1;have gs:=AW dR a1.size;have ew:=Ia aI a1 (λg hg e=>by have:=(aI).lt g hg;omega);have cQ:=GW.same (w1:=bg) eu (λk hk hl=>a1.other k (λe=>by rcases hk with rfl | hk;exact aq e.symm;exact au (e▸(FR hk).symm)));have ak:=kU ev a1;refine WL.e<|⟨⟨trivial,tT⟩,?_⟩;refine Bd kR ?_
    first
    | (have b := ew
       obtain ⟨p9,c9,e9,T⟩:=CC.own (Z:=E3 fs.c F2 bg) b (λg hg=>⟨(b.lt g hg).2,λhf=>by have:=ab g hf;have:=(b.lt g hg).1;omega,by have:=(b.lt g hg).1;omega⟩);cases e9;have U:∀ y∈lcl++[(⟨xp,V.path.list,xc,decide (V.clip=2)⟩:Bv)],Me (E3 fs.c F2 bg) bg y:=λy hy=>(Ba.1 hy).elim (λh=>(A y h).mv (E3.mv (a ak))) (λh=>by rw [Am.1 h];exact k3.mv (E3.mv (a ak)))
       exact ⟨(pv,lcl++[(⟨xp,V.path.list,xc,decide (V.clip=2)⟩:Bv)],cv),⟨rfl,tT⟩,ak,aJ,T,U,by rw [<- J,BC,j,k5.s];rfl,cQ⟩)
    | exact ⟨(pvc,lcl,cvc),⟨rfl,tT⟩,ak,aJ,K.mv (E3.mv (a ak)),λy hy=>(A y hy).mv (E3.mv (a ak)),by rw [<- J,j,k5.s] <;> rfl,cQ⟩
    refine Cu (L:=Gk) (ps:=_) ([(⟨xp,V.path.list,xc,decide (V.clip=2)⟩:Bv)]) Fi Kr RY rfl rfl rfl rfl rfl rD rfl rfl (λdS cR cS bZ bh gt=>?_);have ex:=GW.same (w1:=cR) aX (λk hk hl=>bh.other k oO);have ey:=Bg cS D.lt;have ez:=D.un bh ey;have d5:wJ.heap.size<=dS:=by rw [cS];exact q.size
    have bE:=DA q (Hf bh d5);have d6:dS<=cR.heap.size:=by omega
    refine WL.e<|⟨⟨trivial,tT⟩,?_⟩;refine An 6 rfl<|DQ AN rfl rfl ((G7 pvc lcl cvc _ (K.mv (E3.mv (a bE))).row oO)) (λy fE a6=>?_);have gv:=AW d6 a6.1.size;have eA:=GW.same (w1:=fE) ex (λk hk hl=>a6.1.block k hl);have eB:=ez.bl a6.1;have eC:=I8 (bZ).rowp a6.1 (λh0=>(bZ).rowp.lt h0);have cT:=kB bE a6.1;have hy:=a6.2;obtain ⟨yp,yc⟩:=y;have b7:=bE.size;have C:=(a6.1).size;have i:=hy.lt;refine WL.e<|⟨⟨trivial,tT⟩,?_⟩;refine An 15 rfl<|CW Fi MU rfl rfl rfl hy rfl eC oE (C) rfl (λh=>CM h (Q6 _ _)) (λh3 h4 aK b' c0 gw=>?_);have eD:=eB.below b' oO;have eF:=GW.same eA (λk hk hl=>c0.block k hl (λe=>by rcases hk with rfl | hk;(have:=i _ e.symm;omega);(have:=i _ e.symm;have:=aW _ hk;omega)));have eG:=DA cT (C1 c0 (λg hg=>.inr (by have:=i g hg;omega)) cT.size);have dU:=AW C b'.size;obtain ⟨pv,cv,evv,-⟩:=(aK).row;subst evv;refine WL.e<|⟨⟨trivial,tT⟩,?_⟩;refine Af 16 rfl (.nck rfl) ⟨trivial,tT⟩ rfl ?_;refine Af 17 rfl (.fa BL rfl Ey dD rfl) ⟨trivial,tT⟩ rfl ?_;refine Af 18 rfl (.fa Fb rfl GA dD rfl) ⟨trivial,tT⟩ rfl ?_;refine An 19 rfl<|C2 (o:=22) ((Fh ⟨⟨ctm,fi,sk,pe,.slice pv (lcl++[(⟨xp,V.path.list,xc,decide (V.clip=2)⟩:Bv)]).length cv,fn,sz⟩,fo,sa,pa,b0,a9,lo,te,li,ar,itv⟩).toArray) GA rfl (rfl) rfl ((aK).one) eD bL (rfl) (λbi aL a2 gx=>?_);have aL:AF bi bv _ _:=aL;have a2:BF bv _ _:=a2;have gz:=AW dU a2.size;have eH:=Ia aK a2 (λg hg e=>by have:=(aK).lt g hg;omega);have cU:=GW.same (w1:=bi) eF (λk hk hl=>a2.other k (λe=>by rcases hk with rfl | hk;exact aq e.symm;exact au (e▸(FR hk).symm)));have al:=kU eG a2;refine WL.e<|⟨⟨trivial,tT⟩,?_⟩;refine Bd kR ?_
    first
    | (have b := eH
       obtain ⟨p9,c9,e9,T⟩:=CC.own (Z:=E3 fs.c F2 bi) b (λg hg=>⟨(b.lt g hg).2,λhf=>by have:=ab g hf;have:=(b.lt g hg).1;omega,by have:=(b.lt g hg).1;omega⟩);cases e9;have U:∀ y∈lcl++[(⟨xp,V.path.list,xc,decide (V.clip=2)⟩:Bv)],Me (E3 fs.c F2 bi) bi y:=λy hy=>(Ba.1 hy).elim (λh=>(A y h).mv (E3.mv (a al))) (λh=>by rw [Am.1 h];exact k3.mv (E3.mv (a al)))
       exact ⟨(pv,lcl++[(⟨xp,V.path.list,xc,decide (V.clip=2)⟩:Bv)],cv),⟨rfl,tT⟩,al,aL,T,U,by rw [<- J,BC,j,k5.s];rfl,cU⟩)
    | exact ⟨(pvc,lcl,cvc),⟨rfl,tT⟩,al,aL,K.mv (E3.mv (a al)),λy hy=>(A y hy).mv (E3.mv (a al)),by rw [<- J,j,k5.s] <;> rfl,cU⟩
    refine Cu (L:=Gk) (ps:=_) ([(⟨xp,V.path.list,xc,decide (V.clip=2)⟩:Bv)]) Fi Kr RY rfl rfl rfl rfl rfl rD rfl rfl (λdV cV cW c2 bj gA=>?_);have eI:=GW.same (w1:=cV) aX (λk hk hl=>bj.other k oO);have eJ:=Bg cW D.lt;have cX:=D.un bj eJ;have d7:wJ.heap.size<=dV:=by rw [cW];exact q.size
    have bG:=DA q (Hf bj d7);have d8:dV<=cV.heap.size:=by omega
    refine WL.e<|⟨⟨trivial,tT⟩,?_⟩;refine An 5 rfl<|Ag (Ad (Kj _) rfl cX rfl)<|WL.e<|⟨⟨trivial,tT⟩,?_⟩;refine An 6 rfl<|DQ AN rfl rfl ((G7 pvc lcl cvc _ (K.mv (E3.mv (a bG))).row oO)) (λy fF a7=>?_);have gC:=AW d8 a7.1.size;have eK:=GW.same (w1:=fF) eI (λk hk hl=>a7.1.block k hl);have eL:=cX.bl a7.1;have eM:=I8 (c2).rowp a7.1 (λh0=>(c2).rowp.lt h0);have cY:=kB bG a7.1;have hy:=a7.2;obtain ⟨yp,yc⟩:=y;have b7:=bG.size;have C:=(a7.1).size;have i:=hy.lt;refine WL.e<|⟨⟨trivial,tT⟩,?_⟩;refine An 15 rfl<|CW Fi MU rfl rfl rfl hy rfl eM oE (C) rfl (λh=>CM h (Q6 _ _)) (λh5 h7 aM c4 c7 gD=>?_);have eN:=eL.below c4 oO;have eO:=GW.same eK (λk hk hl=>c7.block k hl (λe=>by rcases hk with rfl | hk;(have:=i _ e.symm;omega);(have:=i _ e.symm;have:=aW _ hk;omega)));have eP:=DA cY (C1 c7 (λg hg=>.inr (by have:=i g hg;omega)) cY.size);have dW:=AW C c4.size;obtain ⟨pv,cv,evv,-⟩:=(aM).row;subst evv;refine WL.e<|⟨⟨trivial,tT⟩,?_⟩;refine Af 16 rfl (.nck rfl) ⟨trivial,tT⟩ rfl ?_;refine Af 17 rfl (.fa BL rfl Ey dD rfl) ⟨trivial,tT⟩ rfl ?_;refine Af 18 rfl (.fa Fb rfl GA dD rfl) ⟨trivial,tT⟩ rfl ?_;refine An 19 rfl<|C2 (o:=22) ((Fh ⟨⟨ctm,fi,sk,pe,.slice pv (lcl++[(⟨xp,V.path.list,xc,decide (V.clip=2)⟩:Bv)]).length cv,fn,sz⟩,fo,sa,pa,b0,a9,lo,te,li,ar,itv⟩).toArray) GA rfl (rfl) rfl ((aM).one) eN bL (rfl) (λbk aN a3 gE=>?_);have aN:AF bk bv _ _:=aN;have a3:BF bv _ _:=a3;have gF:=AW dW a3.size;have eQ:=Ia aM a3 (λg hg e=>by have:=(aM).lt g hg;omega);have cZ:=GW.same (w1:=bk) eO (λk hk hl=>a3.other k (λe=>by rcases hk with rfl | hk;exact aq e.symm;exact au (e▸(FR hk).symm)));have am:=kU eP a3;refine WL.e<|⟨⟨trivial,tT⟩,?_⟩;refine Bd kR ?_
    first
    | (have b := eQ
       obtain ⟨p9,c9,e9,T⟩:=CC.own (Z:=E3 fs.c F2 bk) b (λg hg=>⟨(b.lt g hg).2,λhf=>by have:=ab g hf;have:=(b.lt g hg).1;omega,by have:=(b.lt g hg).1;omega⟩);cases e9;have U:∀ y∈lcl++[(⟨xp,V.path.list,xc,decide (V.clip=2)⟩:Bv)],Me (E3 fs.c F2 bk) bk y:=λy hy=>(Ba.1 hy).elim (λh=>(A y h).mv (E3.mv (a am))) (λh=>by rw [Am.1 h];exact k3.mv (E3.mv (a am)))
       exact ⟨(pv,lcl++[(⟨xp,V.path.list,xc,decide (V.clip=2)⟩:Bv)],cv),⟨rfl,tT⟩,am,aN,T,U,by rw [<- J,BC,j,k5.s];rfl,cZ⟩)
    | exact ⟨(pvc,lcl,cvc),⟨rfl,tT⟩,am,aN,K.mv (E3.mv (a am)),λy hy=>(A y hy).mv (E3.mv (a am)),by rw [<- J,j,k5.s] <;> rfl,cZ⟩
  have fq:=dF dy;have dz:=XW (v:=V) (by first | omega | (simp only at *;omega));rw [dz,AG (show (Except.ok V.s.clips:Except Int (List Bv))=.ok V.s.clips from rfl)] at J;refine W.k ?_
  first
  | (have b := OWN
     obtain ⟨p9,c9,e9,T⟩:=CC.own (Z:=E3 fs.c F2 wJ) b (λg hg=>⟨(b.lt g hg).2,λhf=>by have:=ab g hf;have:=(b.lt g hg).1;omega,by have:=(b.lt g hg).1;omega⟩);cases e9;have U:∀ y∈lcl++[(⟨xp,V.path.list,xc,decide (V.clip=2)⟩:Bv)],Me (E3 fs.c F2 wJ) wJ y:=λy hy=>(Ba.1 hy).elim (λh=>(A y h).mv (E3.mv (a b1))) (λh=>by rw [Am.1 h];exact k3.mv (E3.mv (a b1)))
     exact ⟨(pv,lcl++[(⟨xp,V.path.list,xc,decide (V.clip=2)⟩:Bv)],cv),⟨rfl,tT⟩,b1,ap,T,U,by rw [<- J,BC,j,k5.s];rfl,cj⟩)
  | exact ⟨(pvc,lcl,cvc),⟨rfl,tT⟩,b1,ap,K.mv (E3.mv (a b1)),λy hy=>(A y hy).mv (E3.mv (a b1)),by rw [<- J,j,k5.s] <;> rfl,cj⟩
  obtain ⟨⟨p3,L3,c3⟩,bI⟩:∃ u,u=t:=⟨t,rfl⟩;subst bI;obtain ⟨m1,m2,m3,m4,m5,m6⟩:=hR;simp only at m2 m3 m4 m5;have gG:=AB.refl w1.heap.size [bv,pa,vb G pa] w1;have fG:=m1.size;refine A4<|A2 rfl<|A0 (.nck rfl)<|A0 (.fa BL rfl B5 dD rfl)<|C2 (o:=28) ((Fh ⟨⟨ctm,fi,sk,pe,.slice p3 L3.length c3,fn,sz⟩,fo,sa,pa,0,a9,lo,te,li,ar,itv⟩).toArray) B5 rfl (rfl) rfl (rfl) m2 bL (rfl) (λdX ae aO gH=>?_);have ae:AF dX bv _ _:=ae;have aO:BF bv _ _:=aO;have eR:=GW.same (w1:=dX) m6 (λk hk hl=>aO.other k (λe=>by rcases hk with rfl | hk;exact aq e.symm;exact au (e▸(FR hk).symm)));have c':=kU gG aO;refine WL.e<|Ak<|A2 rfl<|A0 (.nck rfl)<|A0 (.fa BL rfl OH dD rfl)<|Ag (Ad (P2 _) rfl ae rfl)<|WL.c1 AN rfl rfl ((ZQ B pa 4096 G V2.path _ (eR).at')) (λco bH=>?_);have eS:=Dl ae bH.1 ae.lt (by simp only [Ar,AA,C8,not_or,AY];omega);have d0:=DA c' (AB.wide bH.1 c'.size (by simp <;> omega));have gI:=bH.2;refine WL.e<|BJ (Bt rfl ?_);have f3:AB wJ.heap.size [bv,pa,vb G pa] wJ co:=DA m1 (AB.mono d0 fG);obtain ⟨-,-,r3,r4,r5⟩:=bn.rest f3 _ g4;have f4:∀ g,Gm bv ⟨⟨ctm,fi,sk,pe,.slice p3 L3.length c3,fn,sz⟩,fo,sa,pa,0,a9,lo,te,li,ar,itv⟩ (.slice none 0 0) g->F2 g:=λg hg=>by
    rw [dw];rcases hg with h1 | h1 | h1 | h1
    · exact .inl h1
    · exact .inr (.inl h1)
    · cases h1
    · exact .inr (.inr (.inr h1))
  have f5:Df F2 (Gm bv ⟨⟨ctm,fi,sk,pe,.slice p3 L3.length c3,fn,sz⟩,fo,sa,pa,0,a9,lo,te,li,ar,itv⟩ (.slice none 0 0)) wJ co:=Cn f3 (λg hg=>.inl (b2 g hg)) (λg hg=>.inl (f4 g hg));have gJ:Df F2 (Gm bv ⟨⟨ctm,fi,sk,pe,.slice p3 L3.length c3,fn,sz⟩,fo,sa,pa,0,a9,lo,te,li,ar,itv⟩ (.slice none 0 0)) w1 co:=Cn d0 (λg hg=>.inl (b2 g hg)) (λg hg=>.inl (f4 g hg));rw [<- m5];refine GD _ _ rfl rfl ⟨rfl,_,⟨_,.slice none 0 0,fm,g2,g3,rfl,⟨eS,gI,r3 dD,r4 dD,r5 dD,bn.lbv,bn.lbp⟩,?_⟩,PU k2 f5⟩;have hq:=bx.mv (E3.mv (c:=fs.c) f5);have f6:=E3.mv (c:=fs.c) gJ;have f7:=hq.st;rw [k5.s] at f7;exact { hq with st:={ f7 with clips:=⟨p3,c3,L3,rfl,m3.mv f6,λy hy=>(m4 y hy).mv f6,rfl⟩ },clip:=rfl }
end
end
section
theorem A4a {V V1:Vw} {args:List PV} {op:l8_} {l:List Int} (h0:Dg args 0=.ok l) (h1:IC V op=.ok V1):J3 V args op =
  if op=[83]\/op=[115] then DK V1 0 true else if op=[102]\/op=[70] then DK V1 1 false else if op=[102,42] then DK V1 2 false
  else if op=[66]\/op=[98] then DK V1 1 true else if op=[66,42]\/op=[98,42] then DK V1 2 true else DK V1 0 false:=(AG h0).trans (AG h1)
theorem A1O {V:Vw} {args:List PV} {op:l8_} {l:List Int} {k:Int} (h0:Dg args 0=.ok l) (h1:IC V op=.error k):J3 V args op=.error k:=(AG h0).trans (Ax h1)
theorem Tx {V:Vw}:Ns V=(D6 (Ge 4096 V.path)>>=λp=>.ok (Kp V p)):=rfl
section
variable {B:Nat} {fs:PZ} {w w1:World} {bv:Nat} {F:Nat->Prop} {V:Vw} {args:List PV}
theorem A0W (op:l8_) (h:FO B fs w bv F V args) (ha:args.length<=32) (hsn:Ez V) :
  Calls Tryz.prog 55 #[.pointer (some ⟨bv,0,none⟩),.string (bs op)] w (VwE B fs bv F w (J3 V args op) args):=by
 obtain ⟨aT,aw⟩:=h.base
 have aj:=h.lt
 have Q:=Hy.of h
 have l:∀ {F1:Nat->Prop} {w1:World},Df F F1 w w1->Below B w w1:=λh=>h.below aw (λg hg=>(aj g hg).1)
 refine W.e func55 rfl ntmps55 bL ?_
 have ae:=Df.refl F w
 refine A4<|A2 rfl<|WL.cx AN rfl rfl ((F7 0 (Q).get ha oO)) (λk3 w1 C N=>?_) (λa2 x4 w1 C N=>?_)
 have ad:=Cd ae N
 exact Aw (Dq k3 (Ax C) (l ad))
 have T:=JP (w1:=w1) Q (λk hk hl=>N.1.block k hl)
 have U:=Cd ae N.1
 have af:=C
 refine WL.e<|D4 (α:=(Nat->Prop) × Vw) (λt=>[(0,.pointer (some ⟨bv,0,none⟩)),(1,.string (bs op))]) (λt w'=>FO B fs w' bv t.1 t.2 args/\Df F t.1 w w'/\IC V op=.ok t.2) ?_ (λt w1 hR=>?_)
 refine A4<|A2 rfl<|WL.e<|W.b<|D4 (α:=Bool) (λt=>[(0,.pointer (some ⟨bv,0,none⟩)),(1,.string (bs op)),(7,.bool t)]) (λt w'=>w1=w'/\t=decide (op=[115]\/op=[98]\/op=[98,42])) ?_ (λt w1 hR=>?_)
 refine A4<|A0 (.eqs rfl rfl)<|A9 rfl<|Ac rfl (λh7=>?_) (λh7=>?_)
 have ax:=dT h7
 refine W.k ?_
 exact ⟨_,⟨rfl,rfl,rfl,tT⟩,rfl,by simp_all⟩
 have ax:=dF h7
 refine A4<|A0 (.eqs rfl rfl)<|A9 rfl<|Ac rfl (λh8=>?_) (λh8=>?_)
 have ay:=dT h8
 refine W.k ?_
 exact ⟨_,⟨rfl,rfl,rfl,tT⟩,rfl,by simp_all⟩
 have ay:=dF h8
 refine Ak<|A0 (.eqs rfl rfl)<|A9 rfl ?_
 exact ⟨_,⟨rfl,rfl,rfl,tT⟩,rfl,by simp_all⟩
 obtain ⟨rfl,rfl⟩:=hR
 refine Ac rfl (λh9=>?_) (λh9=>?_)
 have az:=dT h9
 have X:op=[115]\/op=[98]\/op=[98,42]:=dT aS
 obtain ⟨H,vp,its,hs,cs,ag,hO,aA⟩:=(T).get.mem
 have aB:=hO.blk
 refine Ak<|A2 rfl<|A0 (.nck rfl)<|A0 (.fa BL rfl OH dD rfl)<|Ag (Ad (P2 _) rfl aB rfl)<|WL.c1 AN rfl rfl ((OM B H.path 4096 vp V.path _ hO.pth)) (λaU ak=>?_)
 obtain ⟨hK,v1,aC,aD⟩:=ak
 obtain ⟨F1,d,ah⟩:=FO.setPath hO (ag▸aA) hK aC aD
 rw [<- ag] at ah
 have d:=Hy.of d
 have Y:=PU U ah
 refine Bk AN rfl rfl ((Ix _ _)) (λaE ai m o=>?_) (λaV ai m o=>?_)
 have a0:=Cd Y o
 exact Aw (Dq aE (A1O af ((A6 X).trans (Ax (G6 m)))) (l a0))
 have a1:=JP (w1:=ai) d (λk hk hl=>o.block k hl)
 have a3:=Cd Y o
 refine WL.e<|?_
 first
 | exact ⟨(F1,_),⟨rfl,rfl,tT⟩,(a1).get,a3,(A6 X).trans (Tx.trans (AG (Gy m)))⟩
 | exact ⟨(F,V),⟨rfl,rfl,tT⟩,(a1).get,a3,A1 (dF aS)⟩
 have az:=dF h9
 refine W.k ?_
 first
 | exact ⟨(F1,_),⟨rfl,rfl,tT⟩,(T).get,U,(A6 X).trans (Tx.trans (AG (Gy m)))⟩
 | exact ⟨(F,V),⟨rfl,rfl,tT⟩,(T).get,U,A1 (dF aS)⟩
 obtain ⟨⟨F1,V1⟩,aF⟩:∃ u,u=t:=⟨t,rfl⟩
 subst aF
 obtain ⟨j1,i,P⟩:=hR
 simp only at j1 i P
 have d:=j1
 have hD:=A4a af P
 have j:Ez V1:=by
  unfold IC at P
  split at P;exact Nr hsn P;cases P;exact hsn
 refine A4<|A2 rfl<|WL.e<|W.b<|D4 (α:=Bool) (λt=>[(0,.pointer (some ⟨bv,0,none⟩)),(17,.string (bs op)),(20,.bool t)]) (λt w'=>w1=w'/\t=decide (op=[83]\/op=[115])) ?_ (λt w1 hR=>?_)
 refine A4<|A0 (.eqs rfl rfl)<|A9 rfl<|Ac rfl (λa4=>?_) (λa4=>?_)
 have al:=dT a4
 first | rw [A6 (dT aS)] at hD | skip
 refine W.k ?_
 exact ⟨_,⟨rfl,rfl,rfl,tT⟩,rfl,by simp_all⟩
 have al:=dF a4
 first | rw [A1 (dF aS)] at hD | skip
 refine Ak<|A0 (.eqs rfl rfl)<|A9 rfl ?_
 exact ⟨_,⟨rfl,rfl,rfl,tT⟩,rfl,by simp_all⟩
 obtain ⟨rfl,rfl⟩:=hR
 refine Ac rfl (λa5=>?_) (λa5=>?_)
 have am:=dT a5
 first | rw [A6 (dT aS)] at hD | skip
 refine Ak<|A2 rfl<|WL.cx AN rfl rfl ((Ig 0 true d j dD)) (λaG aH q D=>?_) (λaW aX aH q D=>?_)
 exact Aw (Dq aG (hD.trans q) (EZ (l i) D))
 obtain ⟨rfl,F2,a,f⟩:=D
 have c:=hD.trans q
 refine WL.e<|BJ (Bt rfl ?_)
 exact GD _ _ c rfl ⟨rfl,F2,a,PU i f⟩
 have am:=dF a5
 first | rw [A1 (dF aS)] at hD | skip
 refine D4 (α:=Bool) (λt=>[(0,.pointer (some ⟨bv,0,none⟩)),(17,.string (bs op)),(25,.bool t)]) (λt w'=>w1=w'/\t=decide (op=[102]\/op=[70])) ?_ (λt w1 hR=>?_)
 refine A4<|A0 (.eqs rfl rfl)<|A9 rfl<|Ac rfl (λa6=>?_) (λa6=>?_)
 have an:=dT a6
 first | rw [A6 (dT aS)] at hD | skip
 refine W.k ?_
 exact ⟨_,⟨rfl,rfl,rfl,tT⟩,rfl,by simp_all⟩
 have an:=dF a6
 first | rw [A1 (dF aS)] at hD | skip
 refine Ak<|A0 (.eqs rfl rfl)<|A9 rfl ?_
 exact ⟨_,⟨rfl,rfl,rfl,tT⟩,rfl,by simp_all⟩
 obtain ⟨rfl,rfl⟩:=hR
 refine Ac rfl (λa7=>?_) (λa7=>?_)
 have ao:=dT a7
 first | rw [A6 (dT aS)] at hD | skip
 refine Ak<|A2 rfl<|WL.cx AN rfl rfl ((Ig 1 false d j dD)) (λaI aJ s E=>?_) (λaY aZ aJ s E=>?_)
 exact Aw (Dq aI (hD.trans s) (EZ (l i) E))
 obtain ⟨rfl,F2,a,f⟩:=E
 have c:=hD.trans s
 refine WL.e<|BJ (Bt rfl ?_)
 exact GD _ _ c rfl ⟨rfl,F2,a,PU i f⟩
 have ao:=dF a7
 first | rw [A1 (dF aS)] at hD | skip
 refine A4<|A0 (.eqs rfl rfl)<|A9 rfl<|Ac rfl (λa8=>?_) (λa8=>?_)
 have ap:=dT a8
 rw [A6 aS] at hD
 refine Ak<|A2 rfl<|WL.cx AN rfl rfl ((Ig 2 false d j dD)) (λaK aL v G=>?_) (λa' b0 aL v G=>?_)
 exact Aw (Dq aK (hD.trans v) (EZ (l i) G))
 obtain ⟨rfl,F2,a,f⟩:=G
 have c:=hD.trans v
 refine WL.e<|BJ (Bt rfl ?_)
 exact GD _ _ c rfl ⟨rfl,F2,a,PU i f⟩
 have ap:=dF a8
 rw [A1 aS] at hD
 refine D4 (α:=Bool) (λt=>[(0,.pointer (some ⟨bv,0,none⟩)),(17,.string (bs op)),(34,.bool t)]) (λt w'=>w1=w'/\t=decide (op=[66]\/op=[98])) ?_ (λt w1 hR=>?_)
 refine A4<|A0 (.eqs rfl rfl)<|A9 rfl<|Ac rfl (λa9=>?_) (λa9=>?_)
 have aq:=dT a9
 first | rw [A6 (dT aS)] at hD | skip
 refine W.k ?_
 exact ⟨_,⟨rfl,rfl,rfl,tT⟩,rfl,by simp_all⟩
 have aq:=dF a9
 first | rw [A1 (dF aS)] at hD | skip
 refine Ak<|A0 (.eqs rfl rfl)<|A9 rfl ?_
 exact ⟨_,⟨rfl,rfl,rfl,tT⟩,rfl,by simp_all⟩
 obtain ⟨rfl,rfl⟩:=hR
 refine Ac rfl (λaa=>?_) (λaa=>?_)
 have ar:=dT aa
 first | rw [A6 (dT aS)] at hD | skip
 refine Ak<|A2 rfl<|WL.cx AN rfl rfl ((Ig 1 true d j dD)) (λaM aN x J=>?_) (λb1 b2 aN x J=>?_)
 exact Aw (Dq aM (hD.trans x) (EZ (l i) J))
 obtain ⟨rfl,F2,a,f⟩:=J
 have c:=hD.trans x
 refine WL.e<|BJ (Bt rfl ?_)
 exact GD _ _ c rfl ⟨rfl,F2,a,PU i f⟩
 have ar:=dF aa
 first | rw [A1 (dF aS)] at hD | skip
 refine D4 (α:=Bool) (λt=>[(0,.pointer (some ⟨bv,0,none⟩)),(17,.string (bs op)),(39,.bool t)]) (λt w'=>w1=w'/\t=decide (op=[66,42]\/op=[98,42])) ?_ (λt w1 hR=>?_)
 refine A4<|A0 (.eqs rfl rfl)<|A9 rfl<|Ac rfl (λab=>?_) (λab=>?_)
 have au:=dT ab
 first | rw [A6 (dT aS)] at hD | skip
 refine W.k ?_
 exact ⟨_,⟨rfl,rfl,rfl,tT⟩,rfl,by simp_all⟩
 have au:=dF ab
 first | rw [A1 (dF aS)] at hD | skip
 refine Ak<|A0 (.eqs rfl rfl)<|A9 rfl ?_
 exact ⟨_,⟨rfl,rfl,rfl,tT⟩,rfl,by simp_all⟩
 obtain ⟨rfl,rfl⟩:=hR
 refine Ac rfl (λac=>?_) (λac=>?_)
 have av:=dT ac
 first | rw [A6 (dT aS)] at hD | skip
 refine Ak<|A2 rfl<|WL.cx AN rfl rfl ((Ig 2 true d j dD)) (λaO aP y K=>?_) (λb3 b4 aP y K=>?_)
 exact Aw (Dq aO (hD.trans y) (EZ (l i) K))
 obtain ⟨rfl,F2,a,f⟩:=K
 have c:=hD.trans y
 refine WL.e<|BJ (Bt rfl ?_)
 exact GD _ _ c rfl ⟨rfl,F2,a,PU i f⟩
 have av:=dF ac
 first | rw [A1 (dF aS)] at hD | skip
 refine Ak<|A2 rfl<|WL.cx AN rfl rfl ((Ig 0 false d j dD)) (λaQ aR A L=>?_) (λb5 b6 aR A L=>?_)
 exact Aw (Dq aQ (hD.trans A) (EZ (l i) L))
 obtain ⟨rfl,F2,a,f⟩:=L
 have c:=hD.trans A
 refine WL.e<|BJ (Bt rfl ?_)
 exact GD _ _ c rfl ⟨rfl,F2,a,PU i f⟩
end
end
section
theorem YN {α:Type} {q:α->Bool}:∀ {l:List α} {i:Nat} (hi:i<l.length),(∀ j (h:j<l.length),j<i->q l[j]=false)->q l[i]=true->l.find? q=some l[i]
 | x::l,0,_,_,h=>by
  rw [AX] at h ⊢
  rw [List.find?_cons,h]
 | x::l,i+1,hi,hn,h=>by
  have h0:=hn 0 (by simp) oO
  rw [AX] at h0
  rw [Hq] at h ⊢
  rw [List.find?_cons,h0]
  exact YN (by simpa using hi) (λj hj hji=>by have:=hn (j+1) (by simpa using hj) oO;simpa using this) h
theorem A4P  {q:α->Bool} {l:List α} (hn:∀ j (h:j<l.length),q l[j]=false):l.find? q=none:=by
 rw [List.find?_eq_none]
 intro x hx
 obtain ⟨j,hj,rfl⟩:=List.mem_iff_getElem.1 hx
 rw [hn j hj];decide
theorem Se {F:FuncId} (hF:Dk Tryz.prog F) (cap:Array Value) (p:Option Addr) (l:List LE) (c:Nat) (q:LE->Bool) (w:World) (hr:Be ftL w p l) (hl:l.length<=9223372036854775807)
  (hq:∀ j (h:j<l.length) w1,Below w.heap.size w w1->Calls Tryz.prog F (#[]++[Value.agg (ftV l[j]).toArray].toArray++cap) w1 λe w'=>e=.returned (.bool (q l[j]))/\Below w1.heap.size w1 w') :
  Calls Tryz.prog 97 #[.slice p l.length c,.func (.func F) #[] cap] w λe w'=>∃ r:Int,e=.returned (.int .i64 r)/\((r=-1/\l.find? q=none)\/∃ j,∃ h:j<l.length,r=j/\l.find? q=some l[j])/\Below w.heap.size w w':=by
 have v:0<l.length->(pA p).block<w.heap.size:=λg=>hr.lt g
 refine W.e func97 rfl ntmps97 bL ?_
 have o:=EM (w.heap.size) w
 refine A4<|A9 rfl<|Ah<|A4<|A2 rfl<|A0 (.lenS A0Z rfl)<|A2 rfl<|WL.e<|W.b<|Cj (α:=Nat) (λt=>[(0,.slice p l.length c),(1,.func (.func F) #[] cap),(7,.int .i64 (l.length:Int)),(8,.int .i64 (t:Int))]) (λt w'=>Below w.heap.size w w'/\Be ftL w' p l/\t<=l.length/\∀ j (h:j<l.length),j<t->q l[j]=false) (λt=>l.length-t) (0) ⟨rfl,rfl,rfl,rfl,tT⟩ (⟨o,hr,Gg _,λj _ h=>CM h oO⟩) (λt w1 hR=>?_)
 obtain ⟨i,rfl⟩:∃ i,i=t:=⟨t,rfl⟩
 obtain ⟨hT,hb1,hi,a⟩:=hR
 refine A4<|A0 (.lss rfl rfl)<|WL.e<|Ah<|Ac rfl (λm=>?_) (λm=>?_)
 have s:=dT m
 refine W.k<|Ah<|W.b<|A4<|A2 rfl<|A9 rfl<|A4<|A2 rfl<|A2 rfl<|A2 rfl<|A0 (.ixm A0Z sizeOf53 rfl rfl (hb1.isp oC) (i) (rfl) oO)<|Ag (DP underlying53 rfl A7D hb1 (i) oC rfl)<|Y1 hF rfl rfl rfl rfl (hq i oO _ hT) (λA d=>?_)
 have u:=I8 hb1 d (λg=>hb1.lt g)
 have f:=DJ hT d
 refine WL.e<|Ac rfl (λx=>?_) (λx=>?_)
 refine A4<|A2 rfl<|A9 rfl<|Ai (AZ rfl rfl ?_)
 exact ⟨_,rfl,.inr ⟨i,by omega,rfl,YN oO a aS⟩,f⟩
 refine W.k<|Ak<|A0 (.iis (((i+1:Nat):Int)) (.add rfl rfl (Bp oO)) oO)<|A2 rfl<|WL.e<|?_
 exact ⟨i+1,⟨rfl,rfl,rfl,rfl,tT⟩,⟨f,u,by ((try simp only) <;> omega),λj h hj=>by
  rcases Cb.1 hj with y | rfl;exact a j h y
  assumption⟩,by ((try simp only) <;> omega)⟩
 have s:=dF m
 refine C0<|A4<|A9 rfl<|Ai (AZ rfl rfl ?_)
 exact ⟨_,rfl,.inl ⟨rfl,A4P (λj h=>a j h oO)⟩,hT⟩
theorem Ty {fs:List LE} {V:Vw} {args:List PV} (h:∀ a b,args=[a,b]->N9 a=4->False):ID fs V args=.error 22:=by
 unfold ID
 split
 ·
  next a b =>
  have:N9 a≠4:=λe=>h a b rfl e
  rw [Al this];rfl
 · rfl
def chF (V:Vw) (n:Int) (o:Option LE):Except Int Vw:=match o with
 | none=>.error 26
 | some f=>.ok { V with s:={ V.s with font:=f.font,size:=n } }
theorem A35 {fs:List LE} {V:Vw} {args:List PV} (h:args.length=2) (h4:N9 args[0]=4) :
  ID fs V args=(CH (Ep args[1]).2>>=λ_=>chF V (Ep args[1]).1 (fs.find? λf=>decide (f.name=SV args[0]))):=by
 match args,h with
 | [a,b],_ =>
  have h4:N9 a=4:=h4
  show (CH (decide (N9 a=4))>>=λ_=>CH (Ep b).2>>=λ_=>_)=_
  rw [Aj h4]
  rfl
section
variable {B:Nat} {fs:PZ} {w:World} {bv:Nat} {F:Nat->Prop} {V:Vw} {args:List PV}
theorem WB {H:PW} {cs:List PC} {bc:Nat} (f:LE) (hbk:AF w bv (Fh H).toArray 74) (ha:H.args=.slice p cs.length c) (hr:Be Nb w p cs) (h0:0<cs.length) (h1:AF w bc #[.pointer (some ⟨bv,0,none⟩)] 65) :
  Calls Tryz.prog 98 #[.agg (ftV f).toArray,.pointer (some ⟨bc,0,none⟩)] w λe w'=>e=.returned (.bool (decide (f.name=(cs[0]).text)))/\Below w.heap.size w w':=by
 obtain ⟨s,fo,sa,pa,cl,it,lo,te,li,ar,itv⟩:=H
 simp only at ha
 subst ha
 refine W.e func98 rfl ntmps98 bL ?_
 have t:=EM (w.heap.size) w
 refine A4<|CU rfl rfl (λx q m a l E=>?_)
 have y:=Bg m h1.lt
 have j:=h1.un l y
 have A:=Bg m hbk.lt
 have k:=hbk.un l A
 have u:=λh0=>m▸hr.lt h0
 have B:=Be.upd hr l (λh0=>Js (u h0))
 have C:=uB t m l
 have D:=Cq m t.size
 refine A9 rfl<|Ah<|Dr 11 rfl C7 (λw'=>w'.heap[bc]?=q.heap[bc]?/\w'.heap[bv]?=q.heap[bv]?/\w'.heap[x]?=q.heap[x]?/\Be Nb w' p cs/\True) (λF o=>?_)
 have d:=j.drew o
 have g:=k.drew o
 have i:=a.drew o
 have b:=B.drew o
 have v:=CZ.below C o
 refine Af 0 rfl (.fa underlying53 rfl Lv dD rfl) ⟨(d).trans (j).symm,(g).trans (k).symm,(i).trans (a).symm,b,tT⟩ rfl ?_
 refine BY 1 rfl (λw' hw'=>Ad (KP _) rfl ((hw'.2.2.1).trans a) rfl) ⟨(d).trans (j).symm,(g).trans (k).symm,(i).trans (a).symm,b,tT⟩ rfl ?_
 refine BY 2 rfl (λw' hw'=>Ad (Ui _) rfl ((hw'.1).trans j) rfl) ⟨(d).trans (j).symm,(g).trans (k).symm,(i).trans (a).symm,b,tT⟩ rfl ?_
 refine Af 3 rfl (.nck rfl) ⟨(d).trans (j).symm,(g).trans (k).symm,(i).trans (a).symm,b,tT⟩ rfl ?_
 refine Af 4 rfl (.fa BL rfl EO dD rfl) ⟨(d).trans (j).symm,(g).trans (k).symm,(i).trans (a).symm,b,tT⟩ rfl ?_
 refine BY 5 rfl (λw' hw'=>Ad (GN _) rfl ((hw'.2.1).trans k) rfl) ⟨(d).trans (j).symm,(g).trans (k).symm,(i).trans (a).symm,b,tT⟩ rfl ?_
 refine Af 6 rfl (.ixm EY Il rfl rfl (b.isp oC) (0) (rfl) oO) ⟨(d).trans (j).symm,(g).trans (k).symm,(i).trans (a).symm,b,tT⟩ rfl ?_
 refine Af 7 rfl (.fa CB rfl Lv dD rfl) ⟨(d).trans (j).symm,(g).trans (k).symm,(i).trans (a).symm,b,tT⟩ rfl ?_
 refine BY 8 rfl (λw' hw'=>AO (KP _) rfl (((hw'.2.2.2.1).field (0) oC 2 dD).trans rfl)) ⟨(d).trans (j).symm,(g).trans (k).symm,(i).trans (a).symm,b,tT⟩ rfl ?_
 refine Af 9 rfl (.eqs rfl rfl) ⟨(d).trans (j).symm,(g).trans (k).symm,(i).trans (a).symm,b,tT⟩ rfl ?_
 refine Af 10 rfl (.as rfl) ⟨(d).trans (j).symm,(g).trans (k).symm,(i).trans (a).symm,b,tT⟩ rfl ?_
 refine Bd kR<|Ai (AZ rfl rfl ?_)
 exact ⟨rfl,v⟩
theorem Zi (h:FO B fs w bv F V args) (ha:args.length<=32) :
  Calls Tryz.prog 70 #[.pointer (some ⟨bv,0,none⟩)] w (VwE B fs bv F w (ID fs.fs V args) args):=by
 obtain ⟨b2,b3⟩:=h.base
 obtain ⟨H,vp,its,hs,cs,rfl,hO,hR⟩:=h.mem
 have ag:=hO.blk
 have ay:=hR.ar
 have b4:=hO.oa
 obtain ⟨pf,cf,ef,a8⟩:=hR.fonts
 have aE:=@En B fs w
 obtain ⟨s,fo,sa,pa,cl,it,lo,te,li,ar,itv⟩:=H
 obtain ⟨p,c,e,hr,-⟩:=b4.row
 simp only at e ef
 subst e
 subst ef
 have ah:=ay.1
 have P:=ay.kn
 have bm:=hr.lt
 have bj:=ag.lt
 have b5:fs.fs.length<=9223372036854775807:=by have h1:=a8.sl.le;have h2:=a8.sl.cap;unfold maxLen at h2;omega
 have az:0<fs.fs.length->(pA pf).block≠bv:=λl e=>(a8.inn l).2.1 (.inl e)
 have ai:=a8.row
 have a9:∀ w1,AB w.heap.size [bv] w w1->Below B w w1:=λw1 hK=>hK.below b3 (by simpa using b2)
 refine W.e func70 rfl ntmps70 bL ?_
 have aA:=AB.refl w.heap.size ([bv]) w
 refine A4<|CU rfl rfl (λb1 bn aa T U bk=>?_)
 have b6:=Bg aa ag.lt
 have ab:=ag.un U b6
 have aF:=λl=>aa▸hr.lt l
 have Q:=Be.upd hr U (λl=>Js (aF l))
 have aG:=λl=>aa▸ai.lt l
 have ac:=Be.upd ai U (λl=>Js (aG l))
 have ax:=Cq aa aA.size
 have ad:=DA aA (Hf U ax)
 refine WL.e<|D4 (α:=Unit) (λt=>[(0,.pointer (some ⟨bv,0,none⟩)),(1,.pointer (some ⟨b1,0,none⟩))]) (λt w'=>AB w.heap.size [bv] w w'/\AF w' bv (Fh ⟨s,.slice pf fs.fs.length cf,sa,pa,cl,it,lo,te,li,.slice p cs.length c,itv⟩).toArray 74/\AF w' b1 #[.pointer (some ⟨bv,0,none⟩)] 65/\Be Nb w' p cs/\Be ftL w' pf fs.fs/\∃ D:cs.length=2,cs[0].kind=4) ?_ (λt w1 hR=>?_)
 refine Ak<|Ag (Ad (Ui _) rfl T rfl)<|A0 (.nck rfl)<|A0 (.fa BL rfl EO dD rfl)<|Ag (Ad (GN _) rfl ab rfl)<|A0 (.lenS EY rfl)<|A0 (.eql rfl rfl)<|A2 rfl<|B1 rfl rfl rfl (λq=>?_) (λq=>?_)
 have b7:=dT q
 refine Ag (Ad (Ui _) rfl T rfl)<|As q<|A0 (.nck rfl)<|As q<|A0 (.fa BL rfl EO dD rfl)<|As q<|Ag (Ad (GN _) rfl ab rfl)<|As q<|A0 (.ixm EY Il rfl rfl (Q.isp oC) 0 rfl oO)<|As q<|A0 (.fa CB rfl B5 dD rfl)<|As q<|Ag (AO (Bw _) rfl ((Q.field (0) oC 0 dD).trans rfl))<|As q<|A0 (.eql rfl rfl)<|A0 (.pkT rfl q rfl)<|Bk AN rfl rfl ((Dc _ _)) (λbo b8 X u=>?_) (λbp b8 X u=>?_)
 have aj:=kB ad u
 obtain ⟨ak,rfl⟩:=Db X
 exact Aw (Dq 22 (Ty λa b ho h6=>by
  subst ho;have D:cs.length=2:=ah;obtain ⟨q1,q2,-⟩:=P 0 oO (by simp);simp only [AX] at q1 q2
  first
   | omega
   | (rw [Aq] at ak;omega)) (a9 _ aj))
 have aH:=ab.bl u
 have aI:=T.bl u
 have aJ:=I8 Q u (λl=>Q.lt l)
 have aK:=I8 ac u (λl=>ac.lt l)
 have aL:=kB ad u
 have E:=DX X
 have D:cs.length=2:=by first | exact CM E dD | omega
 have ae:cs[0].kind=4:=by first | exact CM E dD | exact dT E
 refine WL.e<|?_
 exact ⟨(),⟨rfl,rfl,tT⟩,aL,aH,aI,aJ,aK,D,ae⟩
 have b7:=dF q
 refine Aa q<|Aa q<|Aa q<|Aa q<|Aa q<|Aa q<|Aa q<|A0 (.pkF rfl q rfl)<|Bk AN rfl rfl ((Dc _ _)) (λbq b9 a0 v=>?_) (λbt b9 a0 v=>?_)
 have al:=kB ad v
 obtain ⟨ak,rfl⟩:=Db a0
 exact Aw (Dq 22 (Ty λa b ho h6=>by
  subst ho;have D:cs.length=2:=ah;obtain ⟨q1,q2,-⟩:=P 0 oO (by simp);simp only [AX] at q1 q2
  first
   | omega
   | (rw [Aq] at ak;omega)) (a9 _ al))
 have aM:=ab.bl v
 have aN:=T.bl v
 have aO:=I8 Q v (λl=>Q.lt l)
 have aP:=I8 ac v (λl=>ac.lt l)
 have aQ:=kB ad v
 have E:=DX a0
 have D:cs.length=2:=by first | exact CM E dD | omega
 have ae:cs[0].kind=4:=by first | exact CM E dD | exact dT E
 refine WL.e<|?_
 exact ⟨(),⟨rfl,rfl,tT⟩,aQ,aM,aN,aO,aP,D,ae⟩
 obtain ⟨j1,j2,aB,j3,aC,D,ae⟩:=hR
 have ba:args.length=2:=by omega
 have hD:=A35 (fs:=fs.fs) (V:=V) ba (by have:=(P 0 oO oO).1;omega)
 have bb:GM cs[1].kind cs[1].n=Ep args[1]:=by rw [<- OS,(P 1 oO oO).1,(P 1 oO oO).2.1]
 have hT:SV args[0]=cs[0].text:=(P 0 oO oO).2.2
 rw [hT] at hD
 generalize Ep args[1]=ph at *
 obtain ⟨ph,phB⟩:=ph
 simp only at hD
 refine A4<|Ag (Ad (Ui _) rfl aB rfl)<|A0 (.nck rfl)<|A0 (.fa BL rfl EO dD rfl)<|Ag (Ad (GN _) rfl j2 rfl)<|A0 (.ixm EY Il rfl rfl (j3.isp oC) (1) (rfl) oO)<|Ag (DP CB rfl B2 j3 (1) oC rfl)<|WL.c1 AN rfl rfl ((JV cs[1] _)) (λbu G=>?_)
 have aR:=j2.bl G
 have aS:=aB.bl G
 have am:=I8 j3 G (λl=>j3.lt l)
 have an:=I8 aC G (λl=>aC.lt l)
 have ao:=kB j1 G
 rw [bb]
 refine A2 rfl<|A0 (.ext rfl rfl)<|A0 (.ext rfl rfl)<|Dp rfl<|A9 rfl<|A4<|A2 rfl<|Bk AN rfl rfl ((Dc _ _)) (λbc bd a1 x=>?_) (λbw bd a1 x=>?_)
 have ap:=kB ao x
 exact Aw (Dq bc (by rw [hD];exact Ax a1) (a9 _ ap))
 have a2:=aR.bl x
 have a3:=aS.bl x
 have aq:=I8 am x (λl=>am.lt l)
 have a7:=I8 an x (λl=>an.lt l)
 have aT:=kB ao x
 rw [AG a1] at hD
 refine WL.e<|A4<|Ag (Ad (Ui _) rfl a3 rfl)<|A0 (.nck rfl)<|A0 (.fa BL rfl sizeOf25 dD rfl)<|Ag (Ad (isAgg25 _) rfl a2 rfl)<|A0 (.mkFv rfl)<|DQ AN rfl rfl ((Se AN _ pf fs.fs cf (λf=>decide (f.name=cs[0].text)) _ a7 b5 (λj hj wx hb=>WB fs.fs[j] ((a2).below hb (a2).lt) rfl ((aq).below hb (aq).lt) oO ((a3).below hb (a3).lt)))) (λr be J=>?_)
 have aU:=a2.bl J.2
 have d:=a3.bl J.2
 have aV:=I8 a7 J.2 (λl=>a7.lt l)
 have au:=kB aT J.2
 have aD:=J.1
 refine A9 rfl<|Ah<|A4<|A2 rfl<|A0 (.lss rfl rfl)<|WL.e<|Ac rfl (λav=>?_) (λav=>?_)
 have aW:=dT av
 refine Ak<|A0 (.mkI LJ rfl)<|Fo rfl (Aw ?_)
 obtain ⟨-,af⟩ | ⟨j,hj,rfl,af⟩:=aD
 exact Dq 26 (by rw [hD,af];rfl) (a9 _ au)
 exfalso;omega
 have aW:=dF av
 obtain ⟨bx,-⟩ | ⟨j,hj,rfl,af⟩:=aD
 exfalso;omega
 rw [af] at hD
 refine W.k<|Dr 19 rfl C7 (λw'=>w'.heap[b1]?=be.heap[b1]?/\Be ftL w' pf fs.fs/\True) (λbz a4=>?_)
 have aw:=aU.drew a4
 have i:=d.drew a4
 have g:=aV.drew a4
 have aX:=DA au (Q8 a4)
 refine BY 0 rfl (λw' hw'=>Ad (Ui _) rfl ((hw'.1).trans d) rfl) ⟨(i).trans (d).symm,g,tT⟩ rfl ?_
 refine BY 1 rfl (λw' hw'=>Ad (Ui _) rfl ((hw'.1).trans d) rfl) ⟨(i).trans (d).symm,g,tT⟩ rfl ?_
 refine BY 2 rfl (λw' hw'=>Ad (Ui _) rfl ((hw'.1).trans d) rfl) ⟨(i).trans (d).symm,g,tT⟩ rfl ?_
 refine Af 3 rfl (.nck rfl) ⟨(i).trans (d).symm,g,tT⟩ rfl ?_
 refine Af 4 rfl (.fa BL rfl sizeOf25 dD rfl) ⟨(i).trans (d).symm,g,tT⟩ rfl ?_
 refine Af 6 rfl (.mv rfl) ⟨(i).trans (d).symm,g,tT⟩ rfl ?_
 refine Af 10 rfl (.mv rfl) ⟨(i).trans (d).symm,g,tT⟩ rfl ?_
 refine An 5 rfl<|Ag (Ad (isAgg25 _) rfl aw rfl)<|WL.e<|⟨⟨(i).trans (d).symm,g,tT⟩,?_⟩
 refine Af 7 rfl (.ixm A0Z sizeOf53 rfl rfl (g.isp oC) (j) (rfl) oO) ⟨(i).trans (d).symm,g,tT⟩ rfl ?_
 refine Af 8 rfl (.fa underlying53 rfl B5 dD rfl) ⟨(i).trans (d).symm,g,tT⟩ rfl ?_
 refine An 9 rfl<|Ag (AO (Bw _) rfl ((g.field (j) oC 1 dD).trans rfl))<|WL.e<|⟨⟨(i).trans (d).symm,g,tT⟩,?_⟩
 refine Af 11 rfl (.nck rfl) ⟨(i).trans (d).symm,g,tT⟩ rfl ?_
 refine Af 12 rfl (.fa BL rfl Ey dD rfl) ⟨(i).trans (d).symm,g,tT⟩ rfl ?_
 refine Af 13 rfl (.fa Fb rfl B5 dD rfl) ⟨(i).trans (d).symm,g,tT⟩ rfl ?_
 refine An 14 rfl<|C2 (o:=23) ((Fh ⟨{ s with font:=fs.fs[j].font },.slice pf fs.fs.length cf,sa,pa,cl,it,lo,te,li,.slice p cs.length c,itv⟩).toArray) B5 rfl (rfl) rfl (rfl) aw bL (rfl) (λbf a5 y bh=>?_)
 have a5:AF bf bv _ _:=a5
 have y:BF bv _ _:=y
 have K:=i.up y
 have L:=Be.upd g y (az)
 have aY:=kU aX y
 refine WL.e<|⟨⟨(K).trans (d).symm,L,tT⟩,?_⟩
 refine Af 15 rfl (.nck rfl) ⟨(K).trans (d).symm,L,tT⟩ rfl ?_
 refine Af 16 rfl (.fa BL rfl Ey dD rfl) ⟨(K).trans (d).symm,L,tT⟩ rfl ?_
 refine Af 17 rfl (.fa Fb rfl B5 dD rfl) ⟨(K).trans (d).symm,L,tT⟩ rfl ?_
 refine An 18 rfl<|C2 (o:=24) ((Fh ⟨{ s with font:=fs.fs[j].font,size:=ph },.slice pf fs.fs.length cf,sa,pa,cl,it,lo,te,li,.slice p cs.length c,itv⟩).toArray) B5 rfl (rfl) rfl (rfl) a5 bL (rfl) (λbg a6 C bi=>?_)
 have a6:AF bg bv _ _:=a6
 have C:BF bv _ _:=C
 have aZ:=K.up C
 have a':=Be.upd L C (az)
 have b0:=kU aY C
 refine WL.e<|⟨⟨(aZ).trans (d).symm,a',tT⟩,?_⟩
 refine Bd kR<|BJ (Bt rfl ?_)
 refine GD _ _ hD rfl ⟨rfl,aE hO b0 a6 (λm=>?_)⟩
 have hq:=hR.mv m
 exact { hq with st:={ hq.st with font:=rfl,size:=rfl } }
end
end
section
def A5E:l8_:=[48,50,55,56,48,50,55,56,48,51,53,53,48,53,53,54,48,53,53,54,48,56,56,57,48,54,54,55,48,50,50,50,48,51,51,51,48,51,51,51,48,51,56,57,48,53,56,52,48,50,55,56,48,51,51,51,48,50,55,56,48,50,55,56,48,53,53,54,48,53,53,54,48,53,53,54,48,53,53,54,48,53,53,54,48,53,53,54,48,53,53,54,48,53,53,54,48,53,53,54,48,53,53,54,48,50,55,56,48,50,55,56,48,53,56,52,48,53,56,52,48,53,56,52,48,53,53,54,49,48,49,53,48,54,54,55,48,54,54,55,48,55,50,50,48,55,50,50,48,54,54,55,48,54,49,49,48,55,55,56,48,55,50,50,48,50,55,56,48,53,48,48,48,54,54,55,48,53,53,54,48,56,51,51,48,55,50,50,48,55,55,56,48,54,54,55,48,55,55,56,48,55,50,50,48,54,54,55,48,54,49,49,48,55,50,50,48,54,54,55,48,57,52,52,48,54,54,55,48,54,54,55,48,54,49,49,48,50,55,56,48,50,55,56,48,50,55,56,48,52,54,57,48,53,53,54,48,50,50,50,48,53,53,54,48,53,53,54,48,53,48,48,48,53,53,54,48,53,53,54,48,50,55,56,48,53,53,54,48,53,53,54,48,50,50,50,48,50,50,50,48,53,48,48,48,50,50,50,48,56,51,51,48,53,53,54,48,53,53,54,48,53,53,54,48,53,53,54,48,51,51,51,48,53,48,48,48,50,55,56,48,53,53,54,48,53,48,48,48,55,50,50,48,53,48,48,48,53,48,48,48,53,48,48,48,51,51,52,48,50,54,48,48,51,51,52,48,53,56,52]
def A2I:l8_:=[48,50,55,56,48,51,51,51,48,52,55,52,48,53,53,54,48,53,53,54,48,56,56,57,48,55,50,50,48,50,55,56,48,51,51,51,48,51,51,51,48,51,56,57,48,53,56,52,48,50,55,56,48,51,51,51,48,50,55,56,48,50,55,56,48,53,53,54,48,53,53,54,48,53,53,54,48,53,53,54,48,53,53,54,48,53,53,54,48,53,53,54,48,53,53,54,48,53,53,54,48,53,53,54,48,51,51,51,48,51,51,51,48,53,56,52,48,53,56,52,48,53,56,52,48,54,49,49,48,57,55,53,48,55,50,50,48,55,50,50,48,55,50,50,48,55,50,50,48,54,54,55,48,54,49,49,48,55,55,56,48,55,50,50,48,50,55,56,48,53,53,54,48,55,50,50,48,54,49,49,48,56,51,51,48,55,50,50,48,55,55,56,48,54,54,55,48,55,55,56,48,55,50,50,48,54,54,55,48,54,49,49,48,55,50,50,48,54,54,55,48,57,52,52,48,54,54,55,48,54,54,55,48,54,49,49,48,51,51,51,48,50,55,56,48,51,51,51,48,53,56,52,48,53,53,54,48,50,55,56,48,53,53,54,48,54,49,49,48,53,53,54,48,54,49,49,48,53,53,54,48,51,51,51,48,54,49,49,48,54,49,49,48,50,55,56,48,50,55,56,48,53,53,54,48,50,55,56,48,56,56,57,48,54,49,49,48,54,49,49,48,54,49,49,48,54,49,49,48,51,56,57,48,53,53,54,48,51,51,51,48,54,49,49,48,53,53,54,48,55,55,56,48,53,53,54,48,53,53,54,48,53,48,48,48,51,56,57,48,50,56,48,48,51,56,57,48,53,56,52]
def A7M:l8_:=[48,50,53,48,48,51,51,51,48,52,48,56,48,53,48,48,48,53,48,48,48,56,51,51,48,55,55,56,48,51,51,51,48,51,51,51,48,51,51,51,48,53,48,48,48,53,54,52,48,50,53,48,48,51,51,51,48,50,53,48,48,50,55,56,48,53,48,48,48,53,48,48,48,53,48,48,48,53,48,48,48,53,48,48,48,53,48,48,48,53,48,48,48,53,48,48,48,53,48,48,48,53,48,48,48,50,55,56,48,50,55,56,48,53,54,52,48,53,54,52,48,53,54,52,48,52,52,52,48,57,50,49,48,55,50,50,48,54,54,55,48,54,54,55,48,55,50,50,48,54,49,49,48,53,53,54,48,55,50,50,48,55,50,50,48,51,51,51,48,51,56,57,48,55,50,50,48,54,49,49,48,56,56,57,48,55,50,50,48,55,50,50,48,53,53,54,48,55,50,50,48,54,54,55,48,53,53,54,48,54,49,49,48,55,50,50,48,55,50,50,48,57,52,52,48,55,50,50,48,55,50,50,48,54,49,49,48,51,51,51,48,50,55,56,48,51,51,51,48,52,54,57,48,53,48,48,48,51,51,51,48,52,52,52,48,53,48,48,48,52,52,52,48,53,48,48,48,52,52,52,48,51,51,51,48,53,48,48,48,53,48,48,48,50,55,56,48,50,55,56,48,53,48,48,48,50,55,56,48,55,55,56,48,53,48,48,48,53,48,48,48,53,48,48,48,53,48,48,48,51,51,51,48,51,56,57,48,50,55,56,48,53,48,48,48,53,48,48,48,55,50,50,48,53,48,48,48,53,48,48,48,52,52,52,48,52,56,48,48,50,48,48,48,52,56,48,48,53,52,49]
def A5D:l8_:=[48,50,53,48,48,51,51,51,48,53,53,53,48,53,48,48,48,53,48,48,49,48,48,48,48,56,51,51,48,51,51,51,48,51,51,51,48,51,51,51,48,53,48,48,48,53,55,48,48,50,53,48,48,51,51,51,48,50,53,48,48,50,55,56,48,53,48,48,48,53,48,48,48,53,48,48,48,53,48,48,48,53,48,48,48,53,48,48,48,53,48,48,48,53,48,48,48,53,48,48,48,53,48,48,48,51,51,51,48,51,51,51,48,53,55,48,48,53,55,48,48,53,55,48,48,53,48,48,48,57,51,48,48,55,50,50,48,54,54,55,48,55,50,50,48,55,50,50,48,54,54,55,48,54,49,49,48,55,55,56,48,55,55,56,48,51,56,57,48,53,48,48,48,55,55,56,48,54,54,55,48,57,52,52,48,55,50,50,48,55,55,56,48,54,49,49,48,55,55,56,48,55,50,50,48,53,53,54,48,54,54,55,48,55,50,50,48,55,50,50,49,48,48,48,48,55,50,50,48,55,50,50,48,54,54,55,48,51,51,51,48,50,55,56,48,51,51,51,48,53,56,49,48,53,48,48,48,51,51,51,48,53,48,48,48,53,53,54,48,52,52,52,48,53,53,54,48,52,52,52,48,51,51,51,48,53,48,48,48,53,53,54,48,50,55,56,48,51,51,51,48,53,53,54,48,50,55,56,48,56,51,51,48,53,53,54,48,53,48,48,48,53,53,54,48,53,53,54,48,52,52,52,48,51,56,57,48,51,51,51,48,53,53,54,48,53,48,48,48,55,50,50,48,53,48,48,48,53,48,48,48,52,52,52,48,51,57,52,48,50,50,48,48,51,57,52,48,53,50,48]
def A5C:l8_:=[48,50,53,48,48,51,51,51,48,52,50,48,48,53,48,48,48,53,48,48,48,56,51,51,48,55,55,56,48,51,51,51,48,51,51,51,48,51,51,51,48,53,48,48,48,54,55,53,48,50,53,48,48,51,51,51,48,50,53,48,48,50,55,56,48,53,48,48,48,53,48,48,48,53,48,48,48,53,48,48,48,53,48,48,48,53,48,48,48,53,48,48,48,53,48,48,48,53,48,48,48,53,48,48,48,51,51,51,48,51,51,51,48,54,55,53,48,54,55,53,48,54,55,53,48,53,48,48,48,57,50,48,48,54,49,49,48,54,49,49,48,54,54,55,48,55,50,50,48,54,49,49,48,54,49,49,48,55,50,50,48,55,50,50,48,51,51,51,48,52,52,52,48,54,54,55,48,53,53,54,48,56,51,51,48,54,54,55,48,55,50,50,48,54,49,49,48,55,50,50,48,54,49,49,48,53,48,48,48,53,53,54,48,55,50,50,48,54,49,49,48,56,51,51,48,54,49,49,48,53,53,54,48,53,53,54,48,51,56,57,48,50,55,56,48,51,56,57,48,52,50,50,48,53,48,48,48,51,51,51,48,53,48,48,48,53,48,48,48,52,52,52,48,53,48,48,48,52,52,52,48,50,55,56,48,53,48,48,48,53,48,48,48,50,55,56,48,50,55,56,48,52,52,52,48,50,55,56,48,55,50,50,48,53,48,48,48,53,48,48,48,53,48,48,48,53,48,48,48,51,56,57,48,51,56,57,48,50,55,56,48,53,48,48,48,52,52,52,48,54,54,55,48,52,52,52,48,52,52,52,48,51,56,57,48,52,48,48,48,50,55,53,48,52,48,48,48,53,52,49]
def A2H:l8_:=[48,50,53,48,48,51,56,57,48,53,53,53,48,53,48,48,48,53,48,48,48,56,51,51,48,55,55,56,48,51,51,51,48,51,51,51,48,51,51,51,48,53,48,48,48,53,55,48,48,50,53,48,48,51,51,51,48,50,53,48,48,50,55,56,48,53,48,48,48,53,48,48,48,53,48,48,48,53,48,48,48,53,48,48,48,53,48,48,48,53,48,48,48,53,48,48,48,53,48,48,48,53,48,48,48,51,51,51,48,51,51,51,48,53,55,48,48,53,55,48,48,53,55,48,48,53,48,48,48,56,51,50,48,54,54,55,48,54,54,55,48,54,54,55,48,55,50,50,48,54,54,55,48,54,54,55,48,55,50,50,48,55,55,56,48,51,56,57,48,53,48,48,48,54,54,55,48,54,49,49,48,56,56,57,48,55,50,50,48,55,50,50,48,54,49,49,48,55,50,50,48,54,54,55,48,53,53,54,48,54,49,49,48,55,50,50,48,54,54,55,48,56,56,57,48,54,54,55,48,54,49,49,48,54,49,49,48,51,51,51,48,50,55,56,48,51,51,51,48,53,55,48,48,53,48,48,48,51,51,51,48,53,48,48,48,53,48,48,48,52,52,52,48,53,48,48,48,52,52,52,48,51,51,51,48,53,48,48,48,53,53,54,48,50,55,56,48,50,55,56,48,53,48,48,48,50,55,56,48,55,55,56,48,53,53,54,48,53,48,48,48,53,48,48,48,53,48,48,48,51,56,57,48,51,56,57,48,50,55,56,48,53,53,54,48,52,52,52,48,54,54,55,48,53,48,48,48,52,52,52,48,51,56,57,48,51,52,56,48,50,50,48,48,51,52,56,48,53,55,48]
def H0 (i:Int):l8_:=if i=4\/i=6 then A5E else if i=5\/i=7 then A2I else if i=8 then A7M else if i=9 then A5D else if i=10 then A5C else if i=11 then A2H else []
theorem A1g (i:Int):(H0 i).length=380\/H0 i=[]:=by
 unfold H0
 repeat' split
 all_goals first | (right;rfl) | (left;kernel_rfl)
theorem UM (i:Int):(H0 i).all (λd=>decide (48<=d.toNat) && decide (d.toNat<=57))=true:=by
 unfold H0
 repeat' split
 all_goals kernel_rfl
def Ry:Int->l8_->Int
 | n,[]=>n
 | n,d::r=>Ry (10 * n+((d.toNat:Int)-48)) r
def KR (i:Int) (c:UInt8):Int :=
 if i<0\/14<=i\/c.toNat<32\/126<c.toNat then 0 else if H0 i=[] then (if i=13 then 788 else 600) else Ry 0 (((H0 i).drop (4 * (c.toNat-32))).take 4)
def FS (i:Int):Int->l8_->Int
 | n,[]=>n
 | n,c::r=>FS i (n+KR i c) r
theorem A0w {l:l8_} (h:i<l.length) (n:Int):Ry n (l.drop i)=Ry (10 * n+((l[i].toNat:Int)-48)) (l.drop (i+1)):=by rw [Ap h];rfl
theorem Zx {f:Int} {l:l8_} (h:i<l.length) (n:Int):FS f n (l.drop i)=FS f (n+KR f l[i]) (l.drop (i+1)):=by rw [Ap h];rfl
theorem YQ:∀ (l:l8_) (n:Int),l.all (λd=>decide (48<=d.toNat) && decide (d.toNat<=57))=true->0<=n->0<=Ry n l/\Ry n l+1<=(n+1) * 10 ^ l.length
 | [],n,_,h0=>by simp [Ry];omega
 | d::r,n,h,h0=>by
  rw [Cw,A3,A3,Ab,Ab] at h
  have ih:=YQ r (10 * n+((d.toNat:Int)-48)) h.2 oO
  rw [Ry]
  refine ⟨ih.1,Int.le_trans ih.2 ?_⟩
  rw [A8,Int.pow_succ,Int.mul_comm (10 ^ r.length) 10,<- Int.mul_assoc]
  exact Int.mul_le_mul_of_nonneg_right oO (Int.le_of_lt (Int.pow_pos dD))
theorem Wh  {q:α->Bool} {l:List α} (a b:Nat) (h:l.all q=true):((l.drop a).take b).all q=true:=by
 rw [Au] at h ⊢
 exact λx hx=>h x (Eu (Dv hx))
theorem SB (i:Int) (c:UInt8):0<=KR i c/\KR i c<=9999:=by
  unfold KR
  split
  · omega
  · split
    · split <;> omega
    · have h := YQ (((H0 i).drop (4 * (c.toNat - 32))).take 4) 0 (Wh _ _ (UM i)) oO
      have a:(((H0 i).drop (4 * (c.toNat-32))).take 4).length<=4:=by rw [AT];omega
      have b:(10:Int) ^ (((H0 i).drop (4 * (c.toNat-32))).take 4).length<=10000:=by
        generalize (((H0 i).drop (4 * (c.toNat-32))).take 4).length=n at a
        match n,a with
        | 0,_=>decide
        | 1,_=>decide
        | 2,_=>decide
        | 3,_=>decide
        | 4,_=>decide
      omega
theorem Qn (i:Int):∀ (l:l8_) (n:Int),0<=n->n<=FS i n l/\FS i n l<=n+9999 * (l.length:Int)
 | [],n,h=>by simp [FS]
 | c::r,n,h=>by
  have h1:=SB i c
  have ih:=Qn i r (n+KR i c) oO
  rw [FS,A8]
  omega
theorem A1I {n:Nat} (h:n<=4):(10:Int) ^ n<=10000:=by
 match n,h with
 | 0,_=>decide
 | 1,_=>decide
 | 2,_=>decide
 | 3,_=>decide
 | 4,_=>decide
theorem XM (i:Int) (w:World):Calls Tryz.prog 170 #[.int .i64 i] w λe w'=>e=.returned (.string (bs (H0 i)))/\w=w':=by
 refine W.e func170 rfl ntmps170 bL ?_
 refine A4<|A9 rfl<|Ah<|A4<|A2 rfl<|WL.e<|W.b<|D4 (α:=Bool) (λt=>[(3,.int .i64 i),(4,.bool t)]) (λt w'=>w=w'/\t=decide (i=4\/i=6)) ?_ (λt B hR=>?_)
 refine A4<|A0 (.eql rfl rfl)<|A9 rfl<|Ac rfl (λa=>?_) (λa=>?_)
 have o:=dT a
 refine W.k ?_
 exact ⟨_,⟨rfl,rfl,tT⟩,rfl,by simp_all⟩
 have o:=dF a
 refine Ak<|A0 (.eql rfl rfl)<|A9 rfl ?_
 exact ⟨_,⟨rfl,rfl,tT⟩,rfl,by simp_all⟩
 obtain ⟨rfl,rfl⟩:=hR
 refine Ac rfl (λc=>?_) (λc=>?_)
 have q:=dT c
 refine A4<|A9 rfl<|Ai (AZ rfl rfl ?_)
 exact ⟨D1 (by rw [show H0 i=A5E by unfold H0;rw [A6 aS]];kernel_rfl),rfl⟩
 have q:=dF c
 refine D4 (α:=Bool) (λt=>[(3,.int .i64 i),(7,.bool t)]) (λt w'=>w=w'/\t=decide (i=5\/i=7)) ?_ (λt B hR=>?_)
 refine A4<|A0 (.eql rfl rfl)<|A9 rfl<|Ac rfl (λd=>?_) (λd=>?_)
 have s:=dT d
 refine W.k ?_
 exact ⟨_,⟨rfl,rfl,tT⟩,rfl,by simp_all⟩
 have s:=dF d
 refine Ak<|A0 (.eql rfl rfl)<|A9 rfl ?_
 exact ⟨_,⟨rfl,rfl,tT⟩,rfl,by simp_all⟩
 obtain ⟨rfl,rfl⟩:=hR
 refine Ac rfl (λf=>?_) (λf=>?_)
 have u:=dT f
 refine A4<|A9 rfl<|Ai (AZ rfl rfl ?_)
 exact ⟨D1 (by rw [show H0 i=A2I by unfold H0;rw [A1 aS,A6 aS]];kernel_rfl),rfl⟩
 have u:=dF f
 refine A4<|A0 (.eql rfl rfl)<|A9 rfl<|Ac rfl (λg=>?_) (λg=>?_)
 have v:=dT g
 refine A4<|A9 rfl<|Ai (AZ rfl rfl ?_)
 exact ⟨D1 (by rw [show H0 i=A7M by unfold H0;rw [A1 aS,A1 aS,A6 aS]];kernel_rfl),rfl⟩
 have v:=dF g
 refine A4<|A0 (.eql rfl rfl)<|A9 rfl<|Ac rfl (λj=>?_) (λj=>?_)
 have x:=dT j
 refine A4<|A9 rfl<|Ai (AZ rfl rfl ?_)
 exact ⟨D1 (by rw [show H0 i=A5D by unfold H0;rw [A1 aS,A1 aS,A1 aS,A6 aS]];kernel_rfl),rfl⟩
 have x:=dF j
 refine A4<|A0 (.eql rfl rfl)<|A9 rfl<|Ac rfl (λl=>?_) (λl=>?_)
 have y:=dT l
 refine A4<|A9 rfl<|Ai (AZ rfl rfl ?_)
 exact ⟨D1 (by rw [show H0 i=A5C by unfold H0;rw [A1 aS,A1 aS,A1 aS,A1 aS,A6 aS]];kernel_rfl),rfl⟩
 have y:=dF l
 refine A4<|A0 (.eql rfl rfl)<|A9 rfl<|Ac rfl (λm=>?_) (λm=>?_)
 have A:=dT m
 refine A4<|A9 rfl<|Ai (AZ rfl rfl ?_)
 exact ⟨D1 (by rw [show H0 i=A2H by unfold H0;rw [A1 aS,A1 aS,A1 aS,A1 aS,A1 aS,A6 aS]];kernel_rfl),rfl⟩
 have A:=dF m
 refine W.k<|A4<|A9 rfl<|Ai (AZ rfl rfl ?_)
 exact ⟨D1 (by rw [show H0 i=[] by unfold H0;rw [A1 aS,A1 aS,A1 aS,A1 aS,A1 aS,A1 aS]];rfl),rfl⟩
theorem XN (i:Int) (c:UInt8) (w:World):Calls Tryz.prog 139 #[.int .i64 i,.int .u8 (c.toNat:Int)] w λe w'=>e=.returned (.int .i64 (KR i c))/\Below w.heap.size w w':=by
 have hc:=c.toNat_lt
 refine W.e func139 rfl ntmps139 bL ?_
 have a:=EM (w.heap.size) w
 refine A4<|A9 rfl<|Ah<|Fd 23 (decide (i<0\/14<=i\/c.toNat<32\/126<c.toNat)) ?_ ?_
 refine Ak<|A2 rfl<|A0 (.lss rfl rfl)<|A2 rfl<|B1 rfl rfl rfl (λd=>?_) (λd=>?_)
 have G:=dF d
 refine A2 rfl<|As d<|A0 (.geq rfl rfl)<|A0 (.pkF rfl d rfl)<|A2 rfl<|B1 rfl rfl rfl (λf=>?_) (λf=>?_)
 have H:=dF f
 refine A2 rfl<|As f<|A0 (.lss rfl rfl)<|A0 (.pkF rfl f rfl)<|A2 rfl<|B1 rfl rfl rfl (λg=>?_) (λg=>?_)
 have J:=dF g
 refine A2 rfl<|As g<|A0 (.gtr rfl rfl)<|A0 (.pkF rfl g rfl)<|WL.e<|?_
 exact ⟨G8 (Cy rfl (by first | (rw [AU];simp;omega) | (simp;omega) | (exfalso;simp_all;omega) | (simp_all;done))),rfl⟩
 have J:=dT g
 refine Aa g<|A0 (.pkT rfl g rfl)<|WL.e<|?_
 exact ⟨G8 (Cy rfl (by first | (rw [AU];simp;omega) | (simp;omega) | (exfalso;simp_all;omega) | (simp_all;done))),rfl⟩
 have H:=dT f
 refine Aa f<|A0 (.pkT rfl f rfl)<|A2 rfl<|Aa rfl<|Aa rfl<|A0 (.pkT rfl rfl rfl)<|WL.e<|?_
 exact ⟨G8 (Cy rfl (by first | (rw [AU];simp;omega) | (simp;omega) | (exfalso;simp_all;omega) | (simp_all;done))),rfl⟩
 have G:=dT d
 refine Aa d<|A0 (.pkT rfl d rfl)<|A2 rfl<|Aa rfl<|Aa rfl<|A0 (.pkT rfl rfl rfl)<|A2 rfl<|Aa rfl<|Aa rfl<|A0 (.pkT rfl rfl rfl)<|WL.e<|?_
 exact ⟨G8 (Cy rfl (by first | (rw [AU];simp;omega) | (simp;omega) | (exfalso;simp_all;omega) | (simp_all;done))),rfl⟩
 refine Ac rfl (λx=>?_) (λx=>?_)
 have K:=dT x
 have l:=dT (show decide (i<0\/14<=i\/c.toNat<32\/126<c.toNat)=true by assumption)
 refine A4<|A9 rfl<|Ai (AZ rfl rfl ?_)
 exact ⟨D1 (Bc _ (A6 l).symm),a⟩
 have K:=dF x
 have l:=dF (show decide (i<0\/14<=i\/c.toNat<32\/126<c.toNat)=false by assumption)
 have hD:KR i c=if H0 i=[] then (if i=13 then 788 else 600) else Ry 0 (((H0 i).drop (4 * (c.toNat-32))).take 4):=A1 l
 refine W.k<|A4<|A2 rfl<|WL.c1 AN rfl rfl ((XM i _)) (λw5 P=>?_)
 obtain rfl:=P
 refine A9 rfl<|Ah<|A4<|A2 rfl<|A0 (.bis (decide (H0 i=[])) (.eqs rfl rfl) (by rfl))<|WL.e<|Ac rfl (λy=>?_) (λy=>?_)
 have Q:=dT y
 rw [A6 (dT aS)] at hD
 refine Ah<|A4<|A2 rfl<|A0 (.eql rfl rfl)<|WL.e<|Ac rfl (λA=>?_) (λA=>?_)
 have T:=dT A
 rw [A6 aS] at hD
 refine A4<|A9 rfl<|Ai (AZ rfl rfl ?_)
 exact ⟨D1 (by rw [hD]),a⟩
 have T:=dF A
 rw [A1 aS] at hD
 refine W.k<|A4<|A9 rfl<|Ai (AZ rfl rfl ?_)
 exact ⟨D1 (by rw [hD]),a⟩
 have Q:=dF y
 rw [A1 (dF aS)] at hD
 have a3:(H0 i).length=380:=(A1g i).resolve_right (dF aS)
 have s:=Wh (4 * (c.toNat-32)) 4 (UM i)
 obtain ⟨L,hL⟩:∃ L,L=((H0 i).drop (4 * (c.toNat-32))).take 4:=⟨_,rfl⟩
 have a8:L.length=4:=by rw [hL,AT,B4];omega
 rw [<- hL] at hD s
 have U:((H0 i).drop (4 * (c.toNat-32))).take (4 * (c.toNat-32)+4-4 * (c.toNat-32))=L:=by rw [hL,Nat.add_sub_cancel_left]
 refine W.k<|A4<|A9 rfl<|A4<|A2 rfl<|A0 (.sub rfl rfl (TJ oO))<|A0 (.cvt Lk JQ rfl (Bp oO))<|A0 (.iis (((4 * (c.toNat-32):Nat):Int)) (.mul rfl rfl (Bp oO)) oO)<|A9 rfl<|Ah<|A4<|A2 rfl<|A2 rfl<|A2 rfl<|A0 (.iis (((4 * (c.toNat-32)+4:Nat):Int)) (.add rfl rfl (Bp oO)) oO)<|A0 (.sis (L) (.slS Ju rfl rfl rfl (4 * (c.toNat-32)) (4 * (c.toNat-32)+4) (rfl) (rfl) oO oO) (by exact U))<|A3h Ju Bu Lk rfl rfl (λV a9 B v C a4 D a6=>?_)
 have X:=uB a v D
 have a5:=Cq v a.size
 refine A0 (.lenS Bu rfl)<|A2 rfl<|WL.e<|W.b<|Cj (α:=Nat × Int) (λt=>[(6,.int .i64 t.2),(39,.slice (some ⟨V,0,none⟩) L.length B),(40,.int .i64 (L.length:Int)),(41,.int .i64 (t.1:Int))]) (λt w'=>Below w.heap.size w w'/\Av w' (some ⟨V,0,none⟩) L/\t.1<=4/\0<=t.2/\t.2+1<=10 ^ t.1/\Ry t.2 (L.drop t.1)=Ry 0 L) (λt=>L.length-t.1) ((0,0)) ⟨rfl,rfl,rfl,rfl,tT⟩ (⟨X,C,by omega,by decide,by decide,rfl⟩) (λt w1 hR=>?_)
 obtain ⟨⟨j,n⟩,a0⟩:∃ u,u=t:=⟨t,rfl⟩
 subst a0
 obtain ⟨q1,E,q3,q4,q5,q⟩:=hR
 simp only at q3 q4 q5 q
 have a7:=A1I q3
 refine A4<|A0 (.lss rfl rfl)<|WL.e<|Ah<|Ac rfl (λm=>?_) (λm=>?_)
 have F:=dT m
 have o:j<L.length:=by first | omega | (simp only at *;omega)
 have a1:=Au.1 s L[j] (AJ o)
 rw [A3,Ab,Ab] at a1
 have a2:=(A0w o n).symm.trans q
 refine W.k<|Ah<|W.b<|A4<|A0 (.ixb Bu I7 rfl rfl (E.isp oD) (j) (rfl) oO)<|Ag (AO (Ou _) rfl (E.cells (j) oO))<|A9 rfl<|Ak<|A2 rfl<|A0 (.mul rfl rfl (Bp oO))<|A2 rfl<|A0 (.sub rfl rfl (TJ oO))<|A0 (.cvt Lk JQ rfl (Bp oO))<|A0 (.iis (10 * n+((L[j].toNat:Int)-48)) (.add rfl rfl (Bp oO)) oO)<|A9 rfl<|Ak<|A0 (.iis (((j+1:Nat):Int)) (.add rfl rfl (Bp (by (try simp only) <;> omega))) oM)<|A2 rfl<|WL.e<|?_
 exact ⟨(j+1,10 * n+((L[j].toNat:Int)-48)),⟨rfl,rfl,rfl,rfl,tT⟩,⟨q1,E,by ((try simp only) <;> omega),by ((try simp only) <;> omega),by show _<=(10:Int) ^ (j+1);rw [Int.pow_succ];((try simp only) <;> omega),a2⟩,by ((try simp only) <;> omega)⟩
 have F:=dF m
 have o:j=4:=by first | omega | (simp only at *;omega)
 rw [List.drop_of_length_le oO] at q
 refine C0<|A4<|A2 rfl<|A9 rfl<|Ai (AZ rfl rfl ?_)
 exact ⟨D1 (by rw [hD,<- q];rfl),q1⟩
theorem A2C (i:Int) (p:Option Addr) (l:l8_) (c:Nat) (w:World) (hr:Av w p l) (hl:l.length<=100000000) :
  Calls Tryz.prog 102 #[.int .i64 i,.slice p l.length c] w λe w'=>e=.returned (.int .i64 (FS i 0 l))/\Below w.heap.size w w':=by
 have G:=hr.lt
 refine W.e func102 rfl ntmps102 bL ?_
 have q:=EM (w.heap.size) w
 refine A4<|A9 rfl<|A4<|A9 rfl<|Ah<|A4<|A2 rfl<|A0 (.lenS Bu rfl)<|A2 rfl<|WL.e<|W.b<|Cj (α:=Nat × Int) (λt=>[(0,.int .i64 i),(5,.int .i64 t.2),(8,.slice p l.length c),(9,.int .i64 (l.length:Int)),(10,.int .i64 (t.1:Int))]) (λt w'=>Below w.heap.size w w'/\Av w' p l/\t.1<=l.length/\0<=t.2/\t.2<=9999 * (t.1:Int)/\FS i t.2 (l.drop t.1)=FS i 0 l) (λt=>l.length-t.1) ((0,0)) ⟨rfl,rfl,rfl,rfl,rfl,tT⟩ (⟨q,hr,Gg _,by decide,by decide,rfl⟩) (λt H hR=>?_)
 obtain ⟨⟨j,n⟩,s⟩:∃ u,u=t:=⟨t,rfl⟩
 subst s
 obtain ⟨v,d,C,D,E,g⟩:=hR
 simp only at C D E g
 refine A4<|A0 (.lss rfl rfl)<|WL.e<|Ah<|Ac rfl (λo=>?_) (λo=>?_)
 have x:=dT o
 have a:j<l.length:=by first | omega | (simp only at *;omega)
 have hw:=SB i l[j]
 have y:=(Zx (f:=i) a n).symm.trans g
 refine W.k<|Ah<|W.b<|A4<|A0 (.ixb Bu I7 rfl rfl (d.isp oD) (j) (rfl) oO)<|Ag (AO (Ou _) rfl (d.cells (j) oO))<|A9 rfl<|Ak<|A2 rfl<|A2 rfl<|A2 rfl<|WL.c1 AN rfl rfl ((XN i l[j] _)) (λJ m=>?_)
 have A:=GY d m (λF=>d.lt F)
 have B:=DJ v m
 refine A0 (.add rfl rfl (Bp (by (try simp only) <;> omega)))<|A9 rfl<|Ak<|A0 (.iis (((j+1:Nat):Int)) (.add rfl rfl (Bp (by (try simp only) <;> omega))) oM)<|A2 rfl<|WL.e<|?_
 exact ⟨(j+1,n+KR i l[j]),⟨rfl,rfl,rfl,rfl,rfl,tT⟩,⟨B,A,by ((try simp only) <;> omega),by ((try simp only) <;> omega),by ((try simp only) <;> omega),y⟩,by ((try simp only) <;> omega)⟩
 have x:=dF o
 have a:j=l.length:=by first | omega | (simp only at *;omega)
 rw [a,F3] at g
 refine C0<|A4<|A2 rfl<|A9 rfl<|Ai (AZ rfl rfl ?_)
 exact ⟨D1 (by rw [<- g];rfl),v⟩
end
section
open Go.RowKit Go.WideShapes Go.ChangeShapes
theorem Hy.lt  {fs:PZ} {F:Nat->Prop} {V:Vw} {args:List PV} (h:Hy N B fs w bv F V args) (hg:F g):B<=g/\g<w.heap.size:=h.get.lt g hg
theorem Hy.ltN  {fs:PZ} {F:Nat->Prop} {V:Vw} {args:List PV} (h:Hy N B fs w bv F V args) (hg:F g):g<N:=by
 obtain ⟨b,rfl,a,-⟩:=h
 exact (a.lt g hg).2
theorem Hy.excl  {fs:PZ} {b:Nat} {F:Nat->Prop} {V:Vw} {args:List PV} (h:Hy N B fs w bv F V args) (hb:N<=b) (hlt:b<w.heap.size):FO B ⟨fs.fs,b⟩ w bv F V args:=by
 obtain ⟨a,rfl,f,d⟩:=h
 obtain ⟨H,vp,its,hs,cs,e,hO,hR⟩:=f.mem
 subst e
 have hs':=K5.size (Q:=λ_=>True) ⟨a,rfl,trivial,d⟩
 refine ⟨H,vp,its,hs,cs,rfl,hO.same hs' λg hg=>d g (hO.inn g hg).2,?_⟩
 have m:Mv (E3 fs.c (Gm bv H vp) a) (E3 b (Gm bv H vp) w) a w:=⟨hs',λg hg=>⟨d g hg.1,CE hg.1 hs',hg.2.1,by have:=hg.1;omega⟩⟩
 obtain ⟨p,c,i,j⟩:=hR.fonts
 exact ⟨hR.st.mv m,hR.sv.mv m,hR.it,λx hx=>(hR.itr x hx).mv m,hR.ar.mv m,hR.clip,hR.inText,hR.lost,hR.text,hR.line,⟨p,c,i,j.mv m⟩,hlt⟩
theorem Za.own  {fs:PZ} {F:Nat->Prop} {H:PW} {V:Vw} {args:List PV} {its:List AQ} {hs:List Ux} {cs:List PC} (hR:Za (E3 c F w) w H ⟨fs.fs,c⟩ V args its hs cs) (hfc:fs.c=bv) (hF:F1 bv) (hbv:bv<w1.heap.size)
  (m:Mv (E3 c F w) (E3 c F1 w1) w w1):Za (E3 fs.c F1 w1) w1 H fs V args its hs cs:=by
 have a:Mv (E3 c F w) (E3 fs.c F1 w1) w w1:=⟨m.1,λg hg=>⟨(m.2 g hg).1,(m.2 g hg).2.1,(m.2 g hg).2.2.1,λe=>(m.2 g hg).2.2.1 (by rw [e,hfc];exact hF)⟩⟩
 obtain ⟨p,c,b,d⟩:=hR.fonts
 exact ⟨hR.st.mv a,hR.sv.mv a,hR.it,λx hx=>(hR.itr x hx).mv a,hR.ar.mv a,hR.clip,hR.inText,hR.lost,hR.text,hR.line,⟨p,c,b,d.mv a⟩,by rw [hfc];exact hbv⟩
theorem Df.keep  {F:Nat->Prop} {S:List Nat} {wJ:World} (h:Df F F1 w wJ) (hK:AB wJ.heap.size S wJ w2) (hS:∀ g∈S,F1 g\/w.heap.size<=g):Df F F1 w w2 :=
 ⟨hK.os.trans h.os,hK.tape.trans h.tape,hK.output.trans h.output,AW h.size hK.size,λk hk hf=>(hK.block k (CE hk h.size) λhm=>by
  rcases hS k hm with h1 | h1
  ·
   rcases h.new k h1 with h2 | h2
   · exact hf h2
   · omega
  · omega).trans (h.block k hk hf),h.new⟩
theorem A58 {v v1:Vw} {x:AQ} (h:Fu v x=.ok v1):v1={ v with items:=v1.items }:=by
 unfold Fu at h
 obtain ⟨u,-,h⟩:=BZ h
 cases h
 rfl
theorem L5  {V:Vw} {args:List PV} (h:∀ a,args=[a]->(decide (N9 a=5) && decide (V.s.font ≥ 0) && !V.lost)=true->False):FE sum V args=.error 22:=by
 unfold FE
 split
 ·
  next a =>
  have:(decide (N9 a=5) && decide (V.s.font ≥ 0) && !V.lost)=false:=by
   cases hx:(decide (N9 a=5) && decide (V.s.font ≥ 0) && !V.lost) with
   | false=>rfl
   | true=>exact (h a rfl hx).elim
  rw [this];rfl
 · rfl
theorem A0c  {V:Vw} {args:List PV} (h:args.length=1) (h4:(decide (N9 args[0]=5) && decide (V.s.font ≥ 0) && !V.lost)=true) :
  FE sum V args=if SV args[0]=[] then .ok V else Qu sum V (SV args[0]):=by
 match args,h with
 | [a],_ =>
  have h4:(decide (N9 a=5) && decide (V.s.font ≥ 0) && !V.lost)=true:=h4
  show (CH (decide (N9 a=5) && decide (V.s.font ≥ 0) && !V.lost)>>=λ_=>if SV a=[] then .ok V else Qu sum V (SV a))=_
  rw [h4];rfl
theorem A5I (co:C6) (f:Int) (m:M6) (p:Option Addr) (l:l8_) (c:Nat):Tryz.prog.built 44 [(0,.int .i64 4),(2,.agg (DI co).toArray),(5,.int .i64 f),(6,.agg (LF m).toArray),(7,.slice p l.length c)]=some (FF ⟨4,none,[],0,co,none,[],0,JK,f,m.a,m.b,m.c,m.d,m.e,m.f,p,l,c⟩).toArray:=by kernel_rfl
theorem A59  {n:Sh} {Q:Exit->Fr->World->Prop} {rest:List Oper} {ty:Nat} {src dst:TypeId} {l:l8_} (hlm:l.length<=maxLen)
  (hs:P.underlying src=some .string) (hd':P.underlying dst=some (.slice e)) (he:P.underlying e=some (.int .u8)) (hx:D0 f x=some (.string (bs l))) (hd:Nat.blt d n.n=true)
  (k:∀ b w1 c,b=w.heap.size->Av w1 (some ⟨b,0,none⟩) l->l.length<=c/\c<=maxLen->BF b w w1->w1.heap.size=b+1->WL P n ops Q rest ((d,.slice (some ⟨b,0,none⟩) l.length c)::f) w1) :
  WL P n ops Q (⟨some d,.convert src dst x,ty,pos,aft,none⟩::rest) f w:=by
 have g:=Lib.run_convert_string_bytes (P:=P) w src dst e (bs l) hs hd' he
 have a:(bs l).size=l.length:=by simp [bs,ByteArray.size]
 have hu:BF w.heap.size w (Lib.bytesWorld w e (bs l)):=⟨rfl,rfl,rfl,by rw [Lib.bytesWorld_size];omega,λj hj=>by
  rcases BU j w.heap.size with h | h
  · exact Lib.bytesWorld_at_old w e (bs l) j h
  · rw [Dw (by rw [Lib.bytesWorld_size];omega),Dw h]⟩
 refine WL.run hd (w':=Lib.bytesWorld w e (bs l)) (v:=.slice (some ⟨w.heap.size,0,none⟩) l.length (grownCap w l.length 0 e)) (λρ hρ=>?_)
  (k _ _ _ rfl ⟨λ_=>rfl,λj hj=>?_⟩ ⟨grownCap_ge w l.length 0 e,grownCap_le_maxLen w l.length 0 e hlm⟩ hu (Lib.bytesWorld_size w e (bs l)))
 · unfold execOp;simp only [hρ _ _ hx,BB,g,B6,CX,a]
 ·
  have i:(pA (some ⟨w.heap.size,0,none⟩)).add j=⟨w.heap.size,j,none⟩:=by
   show (⟨w.heap.size,0,none⟩:Addr).add j=_
   unfold Addr.add;split
   · next h=>rw [h]
   · simp
  rw [i,Lib.bytesWorld_cell w e (bs l) j (by rw [a];exact hj)];simp [bs,List.getD,hj]
section
variable {B:Nat} {fs:PZ} {w w1:World} {bv:Nat} {F:Nat->Prop} {V:Vw} {args:List PV}
theorem WA (h:FO B fs w bv F V args) (ha:args.length<=32) (hb:∀ a∈args,(SV a).length<=65535) (hsn:Ez V) (hfc:fs.c=bv) :
  Calls Tryz.prog 74 #[.pointer (some ⟨bv,0,none⟩)] w (VwE B fs bv F w (FE (λf b=>FS f 0 b) V args) args):=by
 obtain ⟨R,aZ⟩:∃ R,FE (λf b=>FS f 0 b) V args=R:=⟨_,rfl⟩
 rw [aZ]
 obtain ⟨gI,fE⟩:=h.base
 have i:=h
 have eN:=h.lt
 obtain ⟨H,vp,its,hs,cs,fF,hO,aJ⟩:=h.mem
 have bd:=Hy.of i
 have a6:=hO.blk
 have fG:F bv:=by rw [fF];exact .inl rfl
 have ey:=aJ.ar
 have aK:H.s.font=V.s.font:=aJ.st.font
 have a':H.lost=V.lost:=aJ.lost
 have ez:H.s.fill=V.s.fill:=aJ.st.fill
 have eA:H.s.size=V.s.size:=aJ.st.size
 have eB:H.s.ctm=V.s.ctm:=aJ.st.ctm
 have eC:H.text=V.text:=aJ.text
 obtain ⟨p,c,e,hr,-⟩:=hO.oa.row
 have be:=ey.1
 have bP:=ey.kn
 have gt:=hr.lt
 have G:∀ {F1:Nat->Prop} {w1:World},Df F F1 w w1->Below B w w1:=λh=>h.below fE (λg hg=>(eN g hg).1)
 have a6:AF w bv (Fh { H with args:=.slice p cs.length c }).toArray 74:=by rw [<- e];exact a6
 obtain ⟨⟨ctm,fi,sk,pe,clv,fn,sz⟩,fo,sa,pa,eD,eF,lo,te,li,ar,itv⟩:=H
 simp only at e aK a' ez eA eB eC a6
 subst e
 refine W.e func74 rfl ntmps74 bL ?_
 have aB:=Df.refl F w
 refine D4 (α:=Unit) (λt=>[(0,.pointer (some ⟨bv,0,none⟩))]) (λt w'=>Hy w.heap.size B fs w' bv F V args/\Df F F w w'/\AF w' bv (Fh ⟨⟨ctm,fi,sk,pe,clv,fn,sz⟩,fo,sa,pa,eD,eF,lo,te,li,.slice p cs.length c,itv⟩).toArray 74/\Be Nb w' p cs/\(∃ P:cs.length=1,cs[0].kind=5)/\0<=fn/\lo=false) ?_ (λt w1 hR=>?_)
 refine Ak<|A2 rfl<|A0 (.nck rfl)<|A0 (.fa BL rfl EO dD rfl)<|Ag (Ad (GN _) rfl a6 rfl)<|A0 (.lenS EY rfl)<|A0 (.eql rfl rfl)<|A2 rfl<|B1 rfl rfl rfl (λT=>?_) (λT=>?_)
 have fH:=dT T
 refine A2 rfl<|As T<|A0 (.nck rfl)<|As T<|A0 (.fa BL rfl EO dD rfl)<|As T<|Ag (Ad (GN _) rfl a6 rfl)<|As T<|A0 (.ixm EY Il rfl rfl (hr.isp oC) 0 rfl oO)<|As T<|A0 (.fa CB rfl B5 dD rfl)<|As T<|Ag (AO (Bw _) rfl ((hr.field (0) oC 0 dD).trans rfl))<|As T<|A0 (.eql rfl rfl)<|A0 (.pkT rfl T rfl)<|A2 rfl<|B1 rfl rfl rfl (λg2=>?_) (λg2=>?_)
 have fI:=dT g2
 refine A2 rfl<|As g2<|A0 (.nck rfl)<|As g2<|A0 (.fa BL rfl Ey dD rfl)<|As g2<|A0 (.fa Fb rfl B5 dD rfl)<|As g2<|Ag (Ad (Bw _) rfl a6 rfl)<|As g2<|A0 (.geq rfl rfl)<|A0 (.pkT rfl g2 rfl)<|A2 rfl<|B1 rfl rfl rfl (λg3=>?_) (λg3=>?_)
 have fJ:=dT g3
 refine A2 rfl<|As g3<|A0 (.nck rfl)<|As g3<|A0 (.fa BL rfl Ot dD rfl)<|As g3<|Ag (Ad (g4_ _) rfl a6 rfl)<|As g3<|A0 (.not rfl)<|A0 (.pkT rfl g3 rfl)<|Bk AN rfl rfl ((Dc _ _)) (λk6 w4 bV b0=>?_) (λa5 w4 bV b0=>?_)
 have dz:=Cd aB b0
 obtain ⟨a7,rfl⟩:=Db bV
 exact Aw (Dq 22 (aZ▸L5 λa ho hc=>by
  subst ho;have P:cs.length=1:=be;obtain ⟨q1,q2,-⟩:=bP 0 oO (by simp);simp only [AX] at q1 q2;simp only [A3,Ab,AH] at hc
  first
   | omega
   | (have:=hc.1.2;rw [<- aK] at this;exact CM this aS)
   | (simp [a',hc.2] at a7;done)
   | exact CM a7 dD) (G dz))
 have fK:=JP (w1:=w4) bd (λk hk hl=>b0.block k hl)
 have fL:=a6.bl b0
 have fM:=I8 hr b0 (λi=>hr.lt i)
 have eO:=Cd aB b0
 have l:=DX bV
 have P:cs.length=1:=by first | exact CM l dD | omega
 have J:cs[0].kind=5:=by first | exact CM l dD | omega
 have ae:0<=fn:=by first | exact CM l dD | omega
 have af:lo=false:=by first | exact CM l dD | simpa using l
 refine WL.e<|?_
 exact ⟨(),⟨rfl,tT⟩,fK,eO,fL,fM,⟨P,J⟩,ae,af⟩
 have fJ:=dF g3
 refine Aa g3<|Aa g3<|Aa g3<|Aa g3<|A0 (.pkF rfl g3 rfl)<|Bk AN rfl rfl ((Dc _ _)) (λgJ eG bf aq=>?_) (λgK eG bf aq=>?_)
 have cQ:=Cd aB aq
 obtain ⟨a7,rfl⟩:=Db bf
 exact Aw (Dq 22 (aZ▸L5 λa ho hc=>by
  subst ho;have P:cs.length=1:=be;obtain ⟨q1,q2,-⟩:=bP 0 oO (by simp);simp only [AX] at q1 q2;simp only [A3,Ab,AH] at hc
  first
   | omega
   | (have:=hc.1.2;rw [<- aK] at this;exact CM this aS)
   | (simp [a',hc.2] at a7;done)
   | exact CM a7 dD) (G cQ))
 have eP:=JP (w1:=eG) bd (λk hk hl=>aq.block k hl)
 have eQ:=a6.bl aq
 have eR:=I8 hr aq (λi=>hr.lt i)
 have eS:=Cd aB aq
 have l:=DX bf
 have P:cs.length=1:=by first | exact CM l dD | omega
 have J:cs[0].kind=5:=by first | exact CM l dD | omega
 have ae:0<=fn:=by first | exact CM l dD | omega
 have af:lo=false:=by first | exact CM l dD | simpa using l
 refine WL.e<|?_
 exact ⟨(),⟨rfl,tT⟩,eP,eS,eQ,eR,⟨P,J⟩,ae,af⟩
 have fI:=dF g2
 refine Aa g2<|Aa g2<|Aa g2<|Aa g2<|Aa g2<|A0 (.pkF rfl g2 rfl)<|A2 rfl<|Aa rfl<|Aa rfl<|Aa rfl<|Aa rfl<|Aa rfl<|A0 (.pkF rfl rfl rfl)<|Bk AN rfl rfl ((Dc _ _)) (λgL eH bg au=>?_) (λgM eH bg au=>?_)
 have cR:=Cd aB au
 obtain ⟨a7,rfl⟩:=Db bg
 exact Aw (Dq 22 (aZ▸L5 λa ho hc=>by
  subst ho;have P:cs.length=1:=be;obtain ⟨q1,q2,-⟩:=bP 0 oO (by simp);simp only [AX] at q1 q2;simp only [A3,Ab,AH] at hc
  first
   | omega
   | (have:=hc.1.2;rw [<- aK] at this;exact CM this aS)
   | (simp [a',hc.2] at a7;done)
   | exact CM a7 dD) (G cR))
 have eT:=JP (w1:=eH) bd (λk hk hl=>au.block k hl)
 have eU:=a6.bl au
 have eV:=I8 hr au (λi=>hr.lt i)
 have eW:=Cd aB au
 have l:=DX bg
 have P:cs.length=1:=by first | exact CM l dD | omega
 have J:cs[0].kind=5:=by first | exact CM l dD | omega
 have ae:0<=fn:=by first | exact CM l dD | omega
 have af:lo=false:=by first | exact CM l dD | simpa using l
 refine WL.e<|?_
 exact ⟨(),⟨rfl,tT⟩,eT,eW,eU,eV,⟨P,J⟩,ae,af⟩
 have fH:=dF T
 refine Aa T<|Aa T<|Aa T<|Aa T<|Aa T<|Aa T<|Aa T<|A0 (.pkF rfl T rfl)<|A2 rfl<|Aa rfl<|Aa rfl<|Aa rfl<|Aa rfl<|Aa rfl<|Aa rfl<|A0 (.pkF rfl rfl rfl)<|A2 rfl<|Aa rfl<|Aa rfl<|Aa rfl<|Aa rfl<|Aa rfl<|A0 (.pkF rfl rfl rfl)<|Bk AN rfl rfl ((Dc _ _)) (λgN eI bh av=>?_) (λgO eI bh av=>?_)
 have cS:=Cd aB av
 obtain ⟨a7,rfl⟩:=Db bh
 exact Aw (Dq 22 (aZ▸L5 λa ho hc=>by
  subst ho;have P:cs.length=1:=be;obtain ⟨q1,q2,-⟩:=bP 0 oO (by simp);simp only [AX] at q1 q2;simp only [A3,Ab,AH] at hc
  first
   | omega
   | (have:=hc.1.2;rw [<- aK] at this;exact CM this aS)
   | (simp [a',hc.2] at a7;done)
   | exact CM a7 dD) (G cS))
 have eX:=JP (w1:=eI) bd (λk hk hl=>av.block k hl)
 have eY:=a6.bl av
 have eZ:=I8 hr av (λi=>hr.lt i)
 have e':=Cd aB av
 have l:=DX bh
 have P:cs.length=1:=by first | exact CM l dD | omega
 have J:cs[0].kind=5:=by first | exact CM l dD | omega
 have ae:0<=fn:=by first | exact CM l dD | omega
 have af:lo=false:=by first | exact CM l dD | simpa using l
 refine WL.e<|?_
 exact ⟨(),⟨rfl,tT⟩,eX,e',eY,eZ,⟨P,J⟩,ae,af⟩
 obtain ⟨j1,j2,j3,j4,⟨P,J⟩,ae,af⟩:=hR
 have fN:args.length=1:=by omega
 obtain ⟨qk,qn,qt⟩:=bP 0 oO oO
 have hD:=aZ.symm.trans<|A0c (sum:=λf b=>FS f 0 b) (V:=V) fN (by rw [qk,J,<- aK,<- a',af,Aj (show fn ≥ 0 from ae)];rfl)
 have fO:=hb _ (AJ (by omega:0<args.length))
 rw [qt] at hD fO
 refine A4<|A2 rfl<|A0 (.nck rfl)<|A0 (.fa BL rfl EO dD rfl)<|Ag (Ad (GN _) rfl j3 rfl)<|A0 (.ixm EY Il rfl rfl (j4.isp oC) (0) (rfl) oO)<|A0 (.fa CB rfl Lv dD rfl)<|Ag (AO (KP _) rfl ((j4.field (0) oC 2 dD).trans rfl))<|A59 (by unfold maxLen;omega) Ju Bu Lk rfl rfl (λD cT aa cU f0 aC bi gm=>?_)
 have cV:=JP (w1:=cT) j1 (λk hk hl=>bi.other k oO)
 have f1:=Bg cU j3.lt
 have j:=j3.un bi f1
 have cW:=Cq cU j2.size
 have cX:=Df.upd j2 bi cW
 have dA:¬ F D:=λhq=>by have J:=(j1).lt hq;omega
 have a9:0<cs[0].text.length->¬ F (pA (some ⟨D,0,none⟩)).block:=λ_=>dA
 refine A9 rfl<|Ah<|A4<|A2 rfl<|A0 (.lenS Bu rfl)<|A0 (.eql rfl rfl)<|WL.e<|Ac rfl (λcY=>?_) (λcY=>?_)
 have f2:=dT cY
 have aL:cs[0].text=[]:=Cz oO
 rw [A6 aL] at hD
 refine Ai (Bt rfl  ?_)
 rw [hD];exact GD _ _ rfl rfl ⟨rfl,F,(cV).get,cX⟩
 have f2:=dF cY
 have aL:cs[0].text≠[]:=λe=>CM (Bc List.length e) (by simp only [Ae];omega)
 have bj:0<cs[0].text.length:=by omega
 rw [A1 aL] at hD
 have hD:R=(LB (m6S sz sz) te>>=λm1=>LB m1 ctm>>=λm=>Fu V (HX fi V.s.clips fn m cs[0].text)>>=λv1=>.ok { v1 with lost:=(KE (λf b=>FS f 0 b) V cs[0].text).2,text:=(KE (λf b=>FS f 0 b) V cs[0].text).1 }):=by
  rw [eA,eC,eB,ez,aK];exact hD
 refine W.k<|D4 (α:=Nat × M6) (λt=>[(0,.pointer (some ⟨bv,0,none⟩)),(2,.slice (some ⟨D,0,none⟩) cs[0].text.length aa),(3,.pointer (some ⟨t.1,0,none⟩))]) (λt w'=>Hy w.heap.size B fs w' bv F V args/\Df F F w w'/\AF w' bv (Fh ⟨⟨ctm,fi,sk,pe,clv,fn,sz⟩,fo,sa,pa,eD,eF,lo,te,li,.slice p cs.length c,itv⟩).toArray 74/\Av w' (some ⟨D,0,none⟩) cs[0].text/\AF w' t.1 (LF t.2).toArray 42/\w.heap.size<=t.1/\D<t.1/\R=(Fu V (HX fi V.s.clips fn t.2 cs[0].text)>>=λv1=>.ok { v1 with lost:=(KE (λf b=>FS f 0 b) V cs[0].text).2,text:=(KE (λf b=>FS f 0 b) V cs[0].text).1 })) ?_ (λt w1 hR=>?_)
 refine Dr 24 rfl C7 (λw'=>w'.heap[bv]?=cT.heap[bv]?/\True) (λfP bk=>?_)
 have bW:=JP (w1:=fP) cV (λk hk hl=>(by obtain ⟨m,rfl⟩:=bk;rfl))
 have bm:=j.drew bk
 have bn:=f0.drew bk
 have bX:=Df.drew cX bk
 have q:=Dm (bm.trans j.symm) BG
 refine Af 0 rfl (.mv rfl) q rfl ?_
 refine Af 1 rfl (.nck rfl) q rfl ?_
 refine Af 2 rfl (.fa BL rfl Ey dD rfl) q rfl ?_
 refine Af 3 rfl (.fa Fb rfl B5 dD rfl) q rfl ?_
 refine BY 4 rfl (λw' hw'=>Ad (Bw _) rfl ((hw'.1).trans j) rfl) q rfl ?_
 refine Af 5 rfl (.mv rfl) q rfl ?_
 refine Af 6 rfl (.nck rfl) q rfl ?_
 refine Af 7 rfl (.fa BL rfl Ey dD rfl) q rfl ?_
 refine Af 8 rfl (.fa Fb rfl B5 dD rfl) q rfl ?_
 refine BY 9 rfl (λw' hw'=>Ad (Bw _) rfl ((hw'.1).trans j) rfl) q rfl ?_
 refine Af 11 rfl (.mv rfl) q rfl ?_
 refine Af 12 rfl (.nck rfl) q rfl ?_
 refine Af 13 rfl (.fa BL rfl IK dD rfl) q rfl ?_
 refine BY 14 rfl (λw' hw'=>Ck (L:=Ww) DU rfl CJ ((hw'.1).trans j) (te) (rfl) rfl) q rfl ?_
 refine Af 16 rfl (.mv rfl) q rfl ?_
 refine Af 17 rfl (.nck rfl) q rfl ?_
 refine Af 18 rfl (.fa BL rfl Ey dD rfl) q rfl ?_
 refine Af 19 rfl (.fa Fb rfl IK dD rfl) q rfl ?_
 refine BY 20 rfl (λw' hw'=>Ck (L:=Ww) DU rfl CJ ((hw'.1).trans j) (ctm) (rfl) rfl) q rfl ?_
 refine Ea 10 rfl 22 rfl ?_ ?_
 refine WL.c1 AN rfl rfl ((Pr sz sz _)) (λfQ bo=>?_)
 have bY:=JP (w1:=fQ) bW (λk hk hl=>bo.block k hl)
 have bp:=bm.bl bo
 have bq:=GY bn bo (λi=>bn.lt i)
 have bt:=Cd bX bo
 refine WL.e<|⟨⟨(bp).trans (j).symm,tT⟩,?_⟩
 refine Ea 15 rfl 22 rfl ?_ ?_
 refine Bk AN rfl rfl ((FA (m6S sz sz) te _)) (λfR eJ bu aw=>?_) (λgP eJ bu aw=>?_)
 have cZ:=Cd bt aw
 exact Aw (Dq fR (by rw [hD];exact Ax bu) (G cZ))
 have bZ:=JP (w1:=eJ) bY (λk hk hl=>aw.block k hl)
 have bw:=bp.bl aw
 have bx:=GY bq aw (λi=>bq.lt i)
 have bz:=Cd bt aw
 rw [AG bu] at hD
 refine WL.e<|⟨⟨(bw).trans (j).symm,tT⟩,?_⟩
 refine Ea 21 rfl 22 rfl ?_ ?_
 refine Bk AN rfl rfl ((FA _ ctm _)) (λfS eK bA ax=>?_) (λfT eK bA ax=>?_)
 have c':=Cd bz ax
 exact Aw (Dq fS (by rw [hD];exact Ax bA) (G c'))
 have d0:=JP (w1:=eK) bZ (λk hk hl=>ax.block k hl)
 have b':=bw.bl ax
 have d1:=GY bx ax (λi=>bx.lt i)
 have d2:=Cd bz ax
 rw [AG bA] at hD
 obtain ⟨mm,rfl⟩:∃ x,x=fT:=⟨_,rfl⟩
 refine WL.e<|⟨⟨(b').trans (j).symm,tT⟩,?_⟩
 refine An 22 rfl<|BV PF rfl (λd3 f3 c0 dB aD go=>?_)
 have f4:=JP (w1:=f3) d0 (λk hk hl=>aD.other k oO)
 have f5:=Bg c0 b'.lt
 have d4:=b'.un aD f5
 have c7:=λi=>c0▸d1.lt i
 have f6:=DB d1 aD c7
 have d5:=Cq c0 d2.size
 have f7:=Df.upd d2 aD d5
 have gp:¬ F d3:=λhq=>by have J:=(d0).lt hq;omega
 refine WL.e<|⟨⟨(d4).trans (j).symm,tT⟩,?_⟩
 refine An 23 rfl<|Az rfl rfl dB CJ rfl rfl (λfU dC aE gq=>?_)
 have f8:=JP (w1:=fU) f4 (λk hk hl=>aE.other k (by first | ((try simp only) <;> omega) | (have:=hk.1;((try simp only) <;> omega))))
 have d6:=d4.up aE
 have f9:=DB f6 aE c7
 have fb:=Df.upd f7 aE oO
 refine WL.e<|⟨⟨(d6).trans (j).symm,tT⟩,?_⟩
 refine Bd kR ?_
 exact ⟨(d3,mm),⟨rfl,rfl,rfl,tT⟩,f8,fb,d6,f9,dC,by omega,(by assumption:0<cs[0].text.length->(pA (some ⟨D,0,none⟩)).block<d3) bj,hD⟩
 refine BV PF rfl (λd7 fc c2 dE aF gr=>?_)
 have fd:=JP (w1:=fc) bZ (λk hk hl=>aF.other k oO)
 have fe:=Bg c2 bw.lt
 have d8:=bw.un aF fe
 have c8:=λi=>c2▸bx.lt i
 have d9:=DB bx aF c8
 have da:=Cq c2 bz.size
 have db:=Df.upd bz aF da
 have gs:¬ F d7:=λhq=>by have J:=(bZ).lt hq;omega
 refine WL.e<|⟨⟨(d8).trans (j).symm,tT⟩,?_⟩
 refine An 21 rfl<|Bk AN rfl rfl ((FA _ ctm _)) (λfV eL bB ab=>?_) (λfW eL bB ab=>?_)
 have dc:=Cd db ab
 exact Aw (Dq fV (by rw [hD];exact Ax bB) (G dc))
 have ff:=JP (w1:=eL) fd (λk hk hl=>ab.block k hl)
 have dd:=d8.bl ab
 have dG:=dE.bl ab
 have dH:=GY d9 ab (λi=>d9.lt i)
 have dI:=Cd db ab
 rw [AG bB] at hD
 obtain ⟨mm,rfl⟩:∃ x,x=fW:=⟨_,rfl⟩
 refine WL.e<|⟨⟨(dd).trans (j).symm,tT⟩,?_⟩
 refine An 23 rfl<|Az rfl rfl dG CJ rfl rfl (λfg de ag fX=>?_)
 have dJ:=JP (w1:=fg) ff (λk hk hl=>ag.other k (by first | ((try simp only) <;> omega) | (have:=hk.1;((try simp only) <;> omega))))
 have c9:=dd.up ag
 have dK:=DB dH ag c8
 have dL:=Df.upd dI ag oO
 refine WL.e<|⟨⟨(c9).trans (j).symm,tT⟩,?_⟩
 refine Bd kR ?_
 exact ⟨(d7,mm),⟨rfl,rfl,rfl,tT⟩,dJ,dL,c9,dK,de,by omega,(by assumption:0<cs[0].text.length->(pA (some ⟨D,0,none⟩)).block<d7) bj,hD⟩
 refine BV PF rfl (λc3 dM bC df ah fY=>?_)
 have dN:=JP (w1:=dM) bY (λk hk hl=>ah.other k oO)
 have dO:=Bg bC bp.lt
 have ca:=bp.un ah dO
 have bQ:=λi=>bC▸bq.lt i
 have cb:=DB bq ah bQ
 have cK:=Cq bC bt.size
 have cc:=Df.upd bt ah cK
 have fZ:¬ F c3:=λhq=>by have J:=(bY).lt hq;omega
 refine WL.e<|⟨⟨(ca).trans (j).symm,tT⟩,?_⟩
 refine An 15 rfl<|Bk AN rfl rfl ((FA (m6S sz sz) te _)) (λfh dg aM U=>?_) (λgv dg aM U=>?_)
 have cL:=Cd cc U
 exact Aw (Dq fh (by rw [hD];exact Ax aM) (G cL))
 have dP:=JP (w1:=dg) dN (λk hk hl=>U.block k hl)
 have cd:=ca.bl U
 have dQ:=df.bl U
 have cf:=GY cb U (λi=>cb.lt i)
 have cg:=Cd cc U
 rw [AG aM] at hD
 refine WL.e<|⟨⟨(cd).trans (j).symm,tT⟩,?_⟩
 refine An 21 rfl<|Bk AN rfl rfl ((FA _ ctm _)) (λfj dh aN X=>?_) (λfk dh aN X=>?_)
 have cM:=Cd cg X
 exact Aw (Dq fj (by rw [hD];exact Ax aN) (G cM))
 have dR:=JP (w1:=dh) dP (λk hk hl=>X.block k hl)
 have ci:=cd.bl X
 have dS:=dQ.bl X
 have dU:=GY cf X (λi=>cf.lt i)
 have dV:=Cd cg X
 rw [AG aN] at hD
 obtain ⟨mm,rfl⟩:∃ x,x=fk:=⟨_,rfl⟩
 refine WL.e<|⟨⟨(ci).trans (j).symm,tT⟩,?_⟩
 refine An 23 rfl<|Az rfl rfl dS CJ rfl rfl (λfl di ai f'=>?_)
 have dW:=JP (w1:=fl) dR (λk hk hl=>ai.other k (by first | ((try simp only) <;> omega) | (have:=hk.1;((try simp only) <;> omega))))
 have cj:=ci.up ai
 have dX:=DB dU ai bQ
 have dY:=Df.upd dV ai oO
 refine WL.e<|⟨⟨(cj).trans (j).symm,tT⟩,?_⟩
 refine Bd kR ?_
 exact ⟨(c3,mm),⟨rfl,rfl,rfl,tT⟩,dW,dY,cj,dX,di,by omega,(by assumption:0<cs[0].text.length->(pA (some ⟨D,0,none⟩)).block<c3) bj,hD⟩
 refine BV PF rfl (λc4 dZ bD dj aj g0=>?_)
 have d':=JP (w1:=dZ) bW (λk hk hl=>aj.other k oO)
 have e0:=Bg bD bm.lt
 have ck:=bm.un aj e0
 have bR:=λi=>bD▸bn.lt i
 have cl:=DB bn aj bR
 have cN:=Cq bD bX.size
 have e1:=Df.upd bX aj cN
 have g4:¬ F c4:=λhq=>by have J:=(bW).lt hq;omega
 refine WL.e<|⟨⟨(ck).trans (j).symm,tT⟩,?_⟩
 refine An 10 rfl<|WL.c1 AN rfl rfl ((Pr sz sz _)) (λfm ak=>?_)
 have e2:=JP (w1:=fm) d' (λk hk hl=>ak.block k hl)
 have cm:=ck.bl ak
 have e3:=dj.bl ak
 have cn:=GY cl ak (λi=>cl.lt i)
 have co:=Cd e1 ak
 refine WL.e<|⟨⟨(cm).trans (j).symm,tT⟩,?_⟩
 refine An 15 rfl<|Bk AN rfl rfl ((FA (m6S sz sz) te _)) (λfp dk aO a0=>?_) (λgw dk aO a0=>?_)
 have cO:=Cd co a0
 exact Aw (Dq fp (by rw [hD];exact Ax aO) (G cO))
 have e4:=JP (w1:=dk) e2 (λk hk hl=>a0.block k hl)
 have cq:=cm.bl a0
 have e5:=e3.bl a0
 have cr:=GY cn a0 (λi=>cn.lt i)
 have ct:=Cd co a0
 rw [AG aO] at hD
 refine WL.e<|⟨⟨(cq).trans (j).symm,tT⟩,?_⟩
 refine An 21 rfl<|Bk AN rfl rfl ((FA _ ctm _)) (λfq dl aP a1=>?_) (λfr dl aP a1=>?_)
 have cP:=Cd ct a1
 exact Aw (Dq fq (by rw [hD];exact Ax aP) (G cP))
 have e6:=JP (w1:=dl) e4 (λk hk hl=>a1.block k hl)
 have cu:=cq.bl a1
 have e7:=e5.bl a1
 have e8:=GY cr a1 (λi=>cr.lt i)
 have e9:=Cd ct a1
 rw [AG aP] at hD
 obtain ⟨mm,rfl⟩:∃ x,x=fr:=⟨_,rfl⟩
 refine WL.e<|⟨⟨(cu).trans (j).symm,tT⟩,?_⟩
 refine An 23 rfl<|Az rfl rfl e7 CJ rfl rfl (λft dm am g5=>?_)
 have ea:=JP (w1:=ft) e6 (λk hk hl=>am.other k (by first | ((try simp only) <;> omega) | (have:=hk.1;((try simp only) <;> omega))))
 have cv:=cu.up am
 have eb:=DB e8 am bR
 have ec:=Df.upd e9 am oO
 refine WL.e<|⟨⟨(cv).trans (j).symm,tT⟩,?_⟩
 refine Bd kR ?_
 exact ⟨(c4,mm),⟨rfl,rfl,rfl,tT⟩,ea,ec,cv,eb,dm,by omega,(by assumption:0<cs[0].text.length->(pA (some ⟨D,0,none⟩)).block<c4) bj,hD⟩
 obtain ⟨⟨E,mm⟩,dn⟩:∃ u,u=t:=⟨t,rfl⟩
 subst dn
 obtain ⟨i1,i2,i3,i4,i5,i6,i7,hD⟩:=hR
 simp only at i5 i6 i7 hD
 have bE:¬ F E:=λhq=>by have:=i1.ltN hq;omega
 have gx:bv<E:=by have:=i1.ltN fG;omega
 refine D4 (α:=(Nat->Prop) × Vw) (λt=>[(0,.pointer (some ⟨bv,0,none⟩)),(2,.slice (some ⟨D,0,none⟩) cs[0].text.length aa),(3,.pointer (some ⟨E,0,none⟩))]) (λt w'=>FO B ⟨fs.fs,E⟩ w' bv t.1 t.2 args/\Df F t.1 w w'/\AF w' E (LF mm).toArray 42/\Av w' (some ⟨D,0,none⟩) cs[0].text/\Fu V (HX fi V.s.clips fn mm cs[0].text)=.ok t.2/\¬ t.1 E) ?_ (λt w1 hR=>?_)
 refine Dr 15 rfl C7 (λw'=>w'.heap[E]?=w1.heap[E]?/\True) (λfu an=>?_)
 have cw:=JP (w1:=fu) i1 (λk hk hl=>(by obtain ⟨m,rfl⟩:=an;rfl))
 have aG:=i3.drew an
 have a2:=i5.drew an
 have K:=i4.drew an
 have aH:=Df.drew i2 an
 have v:=Dm (a2.trans i5.symm) BG
 refine Af 0 rfl (.mv rfl) v rfl ?_
 refine Af 1 rfl (.mv rfl) v rfl ?_
 refine Af 2 rfl (.nck rfl) v rfl ?_
 refine Af 3 rfl (.fa BL rfl Ey dD rfl) v rfl ?_
 refine Af 4 rfl (.fa Fb rfl JH dD rfl) v rfl ?_
 refine Af 6 rfl (.mv rfl) v rfl ?_
 refine Af 7 rfl (.nck rfl) v rfl ?_
 refine Af 8 rfl (.fa BL rfl Ey dD rfl) v rfl ?_
 refine Af 9 rfl (.fa Fb rfl B5 dD rfl) v rfl ?_
 refine BY 11 rfl (λw' hw'=>Ck (L:=Ww) DU rfl CJ ((hw'.1).trans i5) (mm) (rfl) rfl) v rfl ?_
 refine Af 12 rfl (.mv rfl) v rfl ?_
 refine Ea 5 rfl 10 rfl ?_ ?_
 refine Ag (Ck (L:=FX) GH rfl EJ aG (fi) (rfl) rfl)<|WL.e<|⟨v,?_⟩
 refine An 10 rfl<|Ag (Ad (Bw _) rfl aG rfl)<|WL.e<|⟨v,?_⟩
 refine Af 13 rfl (.build rfl (A5I fi fn mm (some ⟨D,0,none⟩) cs[0].text aa)) v rfl ?_
 refine An 14 rfl<|WL.cx AN rfl rfl ((Oy (fs:=⟨fs.fs,E⟩) ⟨4,none,[],0,fi,none,[],0,JK,fn,mm.a,mm.b,mm.c,mm.d,mm.e,mm.f,some ⟨D,0,none⟩,cs[0].text,aa⟩ ((cw).excl oO a2.lt) hsn.s ⟨CC.nil _ _ _,CC.nil _ _ _,λy hy=>(by cases hy),CC.nil _ _ _,⟨K,⟨aC.1,aC.2,λh=>CM h aL,λh=>nomatch h⟩,λi=>⟨(K).lt i,a9 i,Js i7⟩⟩⟩ ⟨rfl,rfl,rfl⟩)) (λdp fv aQ bG=>?_) (λfw gz fv aQ bG=>?_)
 have ac:Fu V (HX fi V.s.clips fn mm cs[0].text)=.error dp:=aQ
 exact Aw (Dq dp (by rw [hD];exact Ax ac) (EZ (G aH) bG))
 obtain ⟨rfl,F1,aR,a8⟩:=bG
 have ed:=Hy.of aR
 have ac:Fu V (HX fi V.s.clips fn mm cs[0].text)=.ok fw:=aQ
 have dq:=Df.nf a8 bE a2.lt
 have cy:=AF.chg a2 a8 bE
 have g6:=λi=>Df.nf a8 (a9 i) (K.lt i)
 have ee:=Av.chg K a8 a9
 have ef:=PU aH a8
 refine WL.e<|⟨⟨(cy).trans (i5).symm,tT⟩,?_⟩
 refine Bd kR ?_
 exact ⟨(F1,_),⟨rfl,rfl,rfl,tT⟩,aR,ef,cy,ee,ac,dq⟩
 refine Ag (Ad (Bw _) rfl aG rfl)<|WL.e<|⟨v,?_⟩
 refine An 5 rfl<|Ag (Ck (L:=FX) GH rfl EJ aG (fi) (rfl) rfl)<|WL.e<|⟨v,?_⟩
 refine Af 13 rfl (.build rfl (A5I fi fn mm (some ⟨D,0,none⟩) cs[0].text aa)) v rfl ?_
 refine An 14 rfl<|WL.cx AN rfl rfl ((Oy (fs:=⟨fs.fs,E⟩) ⟨4,none,[],0,fi,none,[],0,JK,fn,mm.a,mm.b,mm.c,mm.d,mm.e,mm.f,some ⟨D,0,none⟩,cs[0].text,aa⟩ ((cw).excl oO a2.lt) hsn.s ⟨CC.nil _ _ _,CC.nil _ _ _,λy hy=>(by cases hy),CC.nil _ _ _,⟨K,⟨aC.1,aC.2,λh=>CM h aL,λh=>nomatch h⟩,λi=>⟨(K).lt i,a9 i,Js i7⟩⟩⟩ ⟨rfl,rfl,rfl⟩)) (λdr fx aT bH=>?_) (λfy gA fx aT bH=>?_)
 have ac:Fu V (HX fi V.s.clips fn mm cs[0].text)=.error dr:=aT
 exact Aw (Dq dr (by rw [hD];exact Ax ac) (EZ (G aH) bH))
 obtain ⟨rfl,F1,aR,a8⟩:=bH
 have ed:=Hy.of aR
 have ac:Fu V (HX fi V.s.clips fn mm cs[0].text)=.ok fy:=aT
 have ds:=Df.nf a8 bE a2.lt
 have cz:=AF.chg a2 a8 bE
 have g7:=λi=>Df.nf a8 (a9 i) (K.lt i)
 have eg:=Av.chg K a8 a9
 have eh:=PU aH a8
 refine WL.e<|⟨⟨(cz).trans (i5).symm,tT⟩,?_⟩
 refine Bd kR ?_
 exact ⟨(F1,_),⟨rfl,rfl,rfl,tT⟩,aR,eh,cz,eg,ac,ds⟩
 obtain ⟨⟨F1,V1⟩,dn⟩:∃ u,u=t:=⟨t,rfl⟩
 subst dn
 obtain ⟨k1,k2,k3,k4,k5,k6⟩:=hR
 obtain ⟨wJ,g8⟩:∃ u,u=w1:=⟨_,rfl⟩
 subst g8
 simp only at k1 k2 k3 k4 k5 k6
 rw [AG k5] at hD
 have dt:=A58 k5
 have gC:=k1.lt
 obtain ⟨H2,g9,fz,ga,gb,du,cA,bI⟩:=k1.mem
 have aU:=cA.blk
 have dv:H2.s.font=V.s.font:=bI.st.font.trans (by rw [dt])
 have dw:H2.s.size=V.s.size:=bI.st.size.trans (by rw [dt])
 have dx:H2.text=V.text:=bI.text.trans (by rw [dt])
 obtain ⟨⟨ay,b1,b2,b4,az,a4,C⟩,b5,b6,b7,b8,b9,gc,Q,ba,bb,aA⟩:=H2
 simp only at dv dw dx aU
 have ge:∀ g∈[bv,E],∃ t'∈[74,42],NC wJ g t':=λg hg=>by
  rcases Ar.1 hg with rfl | hg;exact ⟨_,by simp,aU.ty⟩;rw [Am.1 hg];exact ⟨_,by simp,k3.ty⟩
 have cB:F1 bv:=by rw [du];exact .inl rfl
 have eM:∀ g∈[bv,E],F1 g\/w.heap.size<=g:=λg hg=>by
  rcases Ar.1 hg with rfl | hg;exact .inl cB;rw [Am.1 hg];exact .inr oO
 have gQ:∀ {w2:World},AB wJ.heap.size [bv,E] wJ w2->Below B w w2:=λhK=>G (k2.keep hK eM)
 have gR:bv≠E:=λe=>k6 (e▸cB)
 have ei:bv<wJ.heap.size:=aU.lt
 have hb3l2:E<wJ.heap.size:=k3.lt
 have gf:=AB.refl wJ.heap.size [bv,E] wJ
 have gS:=(Qn a4 cs[0].text 0 dD).1
 have gT:=(Qn a4 cs[0].text 0 dD).2
 refine A4<|A2 rfl<|A0 (.nck rfl)<|A0 (.fa BL rfl Ey dD rfl)<|A0 (.fa Fb rfl B5 dD rfl)<|Ag (Ad (Bw _) rfl aU rfl)<|A2 rfl<|WL.c1 AN rfl rfl ((A2C a4 (some ⟨D,0,none⟩) cs[0].text aa _ k4 oO)) (λgD bJ=>?_)
 have cC:=aU.bl bJ
 have cD:=k3.bl bJ
 have cE:=kB gf bJ
 refine A0 (.mul rfl rfl (Bp oO))<|A9 rfl<|A4<|A2 rfl<|A0 (.quo rfl rfl oO (A8F oO oO oO))<|A9 rfl<|D4 (α:=Int) (λt=>[(0,.pointer (some ⟨bv,0,none⟩)),(3,.pointer (some ⟨E,0,none⟩)),(5,.int .i64 t)]) (λt w'=>AB wJ.heap.size [bv,E] wJ w'/\AF w' bv (Fh ⟨⟨ay,b1,b2,b4,az,a4,C⟩,b5,b6,b7,b8,b9,gc,Q,ba,bb,aA⟩).toArray 74/\AF w' E (LF mm).toArray 42/\t=(if 2 * ((FS a4 0 cs[0].text * 65536) % 1000) ≥ 1000 then (FS a4 0 cs[0].text * 65536) / 1000+1 else (FS a4 0 cs[0].text * 65536) / 1000)) ?_ (λt w1 hR=>?_)
 refine A4<|A2 rfl<|A0 (.rem rfl rfl oO (Int.tmod_eq_emod_of_nonneg oO))<|A0 (.mul rfl rfl (Bp oO))<|A0 (.geq rfl rfl)<|WL.e<|Ac rfl (λc5=>?_) (λc5=>?_)
 have ej:=dT c5
 refine Ak<|A2 rfl<|A0 (.add rfl rfl (Bp oO))<|A9 rfl ?_
 exact ⟨_,⟨rfl,rfl,rfl,tT⟩,cE,cC,cD,(A6 oO).symm⟩
 have ej:=dF c5
 refine W.k ?_
 exact ⟨_,⟨rfl,rfl,rfl,tT⟩,cE,cC,cD,(A1 oO).symm⟩
 obtain ⟨q1,q2,q3,q4⟩:=hR
 obtain ⟨wd,gg⟩:∃ u,u=t:=⟨t,rfl⟩
 subst gg
 refine A4<|A2 rfl<|A2 rfl<|A0 (.nck rfl)<|A0 (.fa BL rfl Ey dD rfl)<|A0 (.fa Fb rfl B5 dD rfl)<|Ag (Ad (Bw _) rfl q2 rfl)<|WL.c1 AN rfl rfl ((Ul wd C _)) (λfA bK=>?_)
 have a3:=q2.bl bK
 have ek:=q3.bl bK
 have el:=kB q1 bK
 simp only [Ky]
 refine A2 rfl<|A0 (.ext rfl rfl)<|A0 (.ext rfl rfl)<|Dp rfl<|A9 rfl<|Ah<|Dr 12 rfl C7 (λw'=>w'.heap[bv]?=fA.heap[bv]?/\True) (λgE bM=>?_)
 have cF:=a3.drew bM
 have em:=ek.drew bM
 have en:=DA el (Q8 bM)
 have bS:=Dm (cF.trans a3.symm) BG
 refine Af 0 rfl (.mv rfl) bS rfl ?_
 refine Af 2 rfl (.mv rfl) bS rfl ?_
 refine Af 3 rfl (.nck rfl) bS rfl ?_
 refine Af 4 rfl (.fa BL rfl IK dD rfl) bS rfl ?_
 refine BY 5 rfl (λw' hw'=>Ck (L:=Ww) DU rfl CJ ((hw'.1).trans a3) (Q) (rfl) rfl) bS rfl ?_
 refine An 1 rfl<|WL.c1 AN rfl rfl ((Kf _ _ _)) (λgF bN=>?_)
 have cG:=cF.bl bN
 have eo:=em.bl bN
 have ep:=kB en bN
 refine WL.e<|⟨⟨(cG).trans (a3).symm,tT⟩,?_⟩
 refine An 6 rfl<|WL.c1 AN rfl rfl ((Ra _ Q _)) (λgG bO=>?_)
 have cH:=cG.bl bO
 have eq:=eo.bl bO
 have er:=kB ep bO
 simp only [m6R]
 refine WL.e<|?_
 have cI:=Dm (cH.trans a3.symm) BG
 refine ⟨cI,?_⟩
 refine Af 7 rfl (.mv rfl) cI rfl ?_
 refine Af 8 rfl (.ext rfl rfl) cI rfl ?_
 refine Af 9 rfl (.ext rfl rfl) cI rfl ?_
 refine An 10 rfl<|Az rfl rfl eq CJ rfl rfl (λgH bT bU gh=>?_)
 have aI:=cH.up bU
 have cJ:=kU er bU
 refine WL.e<|⟨⟨(aI).trans (a3).symm,tT⟩,?_⟩
 refine Af 11 rfl (.as rfl) ⟨(aI).trans (a3).symm,tT⟩ rfl ?_
 refine Bd kR<|D4 (α:=Bool) (λt=>[(0,.pointer (some ⟨bv,0,none⟩)),(3,.pointer (some ⟨E,0,none⟩))]) (λt w'=>AB wJ.heap.size [bv,E] wJ w'/\AF w' bv (Fh ⟨⟨ay,b1,b2,b4,az,a4,C⟩,b5,b6,b7,b8,b9,t,Q,ba,bb,aA⟩).toArray 74/\AF w' E (LF (D8 (Jj (Fz wd C).1 0) Q).1).toArray 42/\t=!(decide ((Fz wd C).2=0) && decide ((D8 (Jj (Fz wd C).1 0) Q).2=0))) ?_ (λt w1 hR=>?_)
 refine Ak<|A2 rfl<|A2 rfl<|A0 (.neq rfl rfl)<|A2 rfl<|B1 rfl rfl rfl (λad=>?_) (λad=>?_)
 have es:=JZ ad
 refine A2 rfl<|As ad<|A0 (.neq rfl rfl)<|A0 (.pkF rfl ad rfl)<|A0 (.nck rfl)<|A0 (.fa BL rfl Ot dD rfl)<|C2 (o:=30) ((Fh ⟨⟨ay,b1,b2,b4,az,a4,C⟩,b5,b6,b7,b8,b9,(!decide ((D8 (Jj (Fz wd C).1 0) Q).2=0)),Q,ba,bb,aA⟩).toArray) Ot rfl (rfl) rfl (rfl) aI bL (rfl) (λfB aV ao gi=>?_)
 have aV:AF fB bv _ _:=aV
 have ao:BF bv _ _:=ao
 have et:=bT.up ao
 have eu:=kU cJ ao
 refine WL.e<|?_
 have hz:(Fz wd C).2=0:=by assumption
 exact ⟨_,⟨rfl,rfl,tT⟩,eu,aV,et,by rw [Aj hz,Cx]⟩
 have es:=JY ad
 refine Aa ad<|A0 (.pkT rfl ad rfl)<|A0 (.nck rfl)<|A0 (.fa BL rfl Ot dD rfl)<|C2 (o:=30) ((Fh ⟨⟨ay,b1,b2,b4,az,a4,C⟩,b5,b6,b7,b8,b9,true,Q,ba,bb,aA⟩).toArray) Ot rfl (rfl) rfl (rfl) aI bL (rfl) (λfC aW ap gj=>?_)
 have aW:AF fC bv _ _:=aW
 have ap:BF bv _ _:=ap
 have ev:=bT.up ap
 have ew:=kU cJ ap
 refine WL.e<|?_
 have hz:¬ (Fz wd C).2=0:=by assumption
 exact ⟨_,⟨rfl,rfl,tT⟩,ew,aW,ev,by rw [Al hz];rfl⟩
 obtain ⟨u1,u2,u3,u4⟩:=hR
 obtain ⟨dy,fD⟩:∃ u,u=t:=⟨t,rfl⟩
 subst fD
 refine Ak<|A2 rfl<|Ag (Ck (L:=Ww) DU rfl CJ u3 ((D8 (Jj (Fz wd C).1 0) Q).1) (rfl) rfl)<|A0 (.nck rfl)<|A0 (.fa BL rfl IK dD rfl)<|Eh (o:=31) ((Fh ⟨⟨ay,b1,b2,b4,az,a4,C⟩,b5,b6,b7,b8,b9,dy,(D8 (Jj (Fz wd C).1 0) Q).1,ba,bb,aA⟩).toArray) rfl (rfl) rfl u2 CJ rfl bL (rfl) (λc6 aX aY gk=>?_)
 have aX:AF c6 bv _ _:=aX
 have aY:BF bv _ _:=aY
 have ex:=kU u1 aY
 refine WL.e<|BJ (Bt rfl ?_)
 have bc:=ex
 obtain ⟨-,r2,r3,r4,r5⟩:=cA.rest bc _ ge
 have hM:Mv (E3 E F1 wJ) (E3 E F1 c6) wJ c6:=⟨bc.size,λg hg=>⟨bc.block g hg.1 (λhm=>by
  rcases Ar.1 hm with rfl | hm;exact hg.2.1 cB;exact hg.2.2 (Am.1 hm)),CE hg.1 bc.size,hg.2.1,hg.2.2⟩⟩
 have hq:=Za.own bI hfc cB (CE ei bc.size) hM
 have gl:KE (λf b=>FS f 0 b) V cs[0].text=((D8 (Jj (Fz wd C).1 0) Q).1,dy):=by
  rw [u4,q4,dv,dw,dx]
  rfl
 rw [gl] at hD
 refine GD _ _ hD rfl ⟨rfl,F1,⟨⟨⟨ay,b1,b2,b4,az,a4,C⟩,b5,b6,b7,b8,b9,dy,(D8 (Jj (Fz wd C).1 0) Q).1,ba,bb,aA⟩,g9,fz,ga,gb,du,⟨aX,r2 dD dD,r3 dD,r4 dD,r5 dD,cA.lbv,cA.lbp⟩,?_⟩,k2.keep bc eM⟩
 exact { hq with lost:=rfl,text:=rfl }
end
end
section
def A1d (sum:Int->l8_->Int) (fs:List LE) (v:Vw) (args:List PV) (op:l8_):Except Int Vw :=
 if op=[66,84] then (Dg args 0>>=λ_=>.ok { v with inText:=true,lost:=false,text:=Nw,line:=Nw })
 else if op=[69,84] then (Dg args 0>>=λ_=>.ok { v with inText:=false })
 else if op=[84,102] then ID fs v args
 else if op=[84,109] then (Sd args>>=λm=>.ok { v with line:=m,text:=m,lost:=false })
 else if op=[84,100] then (Dg args 2>>=λn=>LB (Jj (n.getD 0 0) (n.getD 1 0)) v.line>>=λm=>.ok { v with line:=m,text:=m,lost:=false })
 else FE sum v args
theorem Yj (sum:Int->l8_->Int) (fs:List LE) (v:Vw) (args:List PV) (op:l8_):Jv sum fs v args op=(CH (decide (v.inText=true↔op≠[66,84]))>>=λ_=>A1d sum fs v args op):=rfl
theorem n2a (l:List Int) (h:l.length=2):l.getD 0 0=l[0]/\l.getD 1 0=l[1]:=by
 match l,h with
 | [_,_],_=>exact ⟨rfl,rfl⟩
section
variable {B:Nat} {fs:PZ} {w w1:World} {bv:Nat} {F:Nat->Prop} {V:Vw} {args:List PV}
theorem A0V (op:l8_) (h:FO B fs w bv F V args) (ha:args.length<=32) (hb:∀ a∈args,(SV a).length<=65535) (hsn:Ez V) (hfc:fs.c=bv) :
    Calls Tryz.prog 50 #[.pointer (some ⟨bv,0,none⟩),.string (bs op)] w (VwE B fs bv F w (Jv (λf b=>FS f 0 b) fs.fs V args op) args):=by
  obtain ⟨bZ,b'⟩:=h.base;have E:=h;have bg:=Hy.of E;obtain ⟨H,vp,its,hs,cs,rfl,hO,hR⟩:=h.mem;have aL:=hO.blk;have bc:H.inText=V.inText:=hR.inText;have ax:H.line=V.line:=hR.line;obtain ⟨s,fo,sa,pa,cl,it,lo,te,li,ar,itv⟩:=H;simp only at bc ax;have cQ:=aL.lt;have j:∀ w1,AB w.heap.size [bv] w w1->Below B w w1:=λw1 hK=>hK.below b' (by simpa using bZ)
  refine W.e func50 rfl ntmps50 bL ?_;have bd:=AB.refl w.heap.size ([bv]) w;refine A4<|A2 rfl<|A0 (.nck rfl)<|A0 (.fa BL rfl Ot dD rfl)<|Ag (Ad (g4_ _) rfl aL rfl)<|A2 rfl<|A0 (.nes rfl rfl)<|A0 (.bis (decide (V.inText=true↔op≠[66,84])) (.eqb u4_ rfl rfl) (by rw [bc];by_cases hop:op=[66,84] <;> cases V.inText <;> simp [hop]))<|Bk AN rfl rfl ((Dc _ _)) (λk3 w1 az ay=>?_) (λa2 w1 az ay=>?_);have b4:=kB bd ay;exact Aw (Dq k3 ((Yj _ _ _ _ _).trans (Ax az)) (j _ b4));have X:=JP (w1:=w1) bg (λk hk hl=>ay.block k hl);have aJ:=aL.bl ay;have i:=kB bd ay;have hE:Jv (λf b=>FS f 0 b) fs.fs V args op=A1d (λf b=>FS f 0 b) fs.fs V args op:=(Yj _ _ _ _ _).trans (AG az);refine WL.e<|A4<|A2 rfl<|WL.e<|W.b<|A4<|A0 (.eqs rfl rfl)<|A9 rfl<|Ac rfl (λh7=>?_) (λh7=>?_)
  · have c0 := dT h7
    have hD:=hE.trans (A6 aS);refine A4<|A2 rfl<|WL.cx AN rfl rfl ((F7 0 (X).get ha oO)) (λc2 w8 aA aK=>?_) (λa9 cT w8 aA aK=>?_);have b5:=kB i aK;exact Aw (Dq c2 (by rw [hD,Ax aA]) (j _ b5));have bh:=aJ.bl aK.1;have bi:=kB i aK.1;rw [AG aA] at hD;refine WL.e<|Ak<|A2 rfl<|A2 rfl<|A2 rfl<|A2 rfl<|WL.c1 AN rfl rfl ((L4 _)) (λcU aM=>?_);have bj:=bh.bl aM;have bk:=kB bi aM;refine WL.c1 AN rfl rfl ((L4 _)) (λcV aN=>?_);have bm:=bj.bl aN;have bn:=kB bk aN;refine A0 (.nck rfl)<|A0 (.fa BL rfl Ot dD rfl)<|C2 (o:=29) ((Fh ⟨s,fo,sa,pa,cl,true,lo,te,li,ar,itv⟩).toArray) Ot rfl (rfl) rfl (rfl) bm bL (rfl) (λc3 Y a0 cF=>?_);have Y:AF c3 bv _ _:=Y;have a0:BF bv _ _:=a0;have bo:=kU bn a0;refine A0 (.nck rfl)<|A0 (.fa BL rfl Ot dD rfl)<|C2 (o:=30) ((Fh ⟨s,fo,sa,pa,cl,true,false,te,li,ar,itv⟩).toArray) Ot rfl (rfl) rfl (rfl) Y bL (rfl) (λc4 a1 a3 cG=>?_);have a1:AF c4 bv _ _:=a1;have a3:BF bv _ _:=a3;have bp:=kU bo a3;refine A0 (.nck rfl)<|A0 (.fa BL rfl IK dD rfl)<|Eh (o:=31) ((Fh ⟨s,fo,sa,pa,cl,true,false,Nw,li,ar,itv⟩).toArray) rfl (rfl) rfl a1 CJ rfl bL (rfl) (λc5 a4 a5 cH=>?_);have a4:AF c5 bv _ _:=a4;have a5:BF bv _ _:=a5;have bq:=kU bp a5;refine A0 (.nck rfl)<|A0 (.fa BL rfl IK dD rfl)<|Eh (o:=37) ((Fh ⟨s,fo,sa,pa,cl,true,false,Nw,Nw,ar,itv⟩).toArray) rfl (rfl) rfl a4 CJ rfl bL (rfl) (λc6 a6 a7 cI=>?_);have a6:AF c6 bv _ _:=a6;have a7:BF bv _ _:=a7;have bt:=kU bq a7;refine WL.e<|BJ (Bt rfl ?_)
    (refine GD _ _ hD rfl ⟨rfl, En hO bt a6 (fun m => ?_)⟩
     have hq:=hR.mv m
     first
       | exact { hq with inText:=rfl,lost:=rfl,text:=rfl,line:=rfl }
       | exact { hq with inText:=rfl }
       | exact { hq with lost:=rfl,text:=rfl,line:=rfl })
  have c0:=dF h7;refine A4<|A0 (.eqs rfl rfl)<|A9 rfl<|Ac rfl (λaO=>?_) (λaO=>?_)
  · have bu := dT aO
    have hD:=hE.trans ((A1 aS).trans (A6 aS));refine A4<|A2 rfl<|WL.cx AN rfl rfl ((F7 0 (X).get ha oO)) (λc7 c8 a8 aa=>?_) (λcW cX c8 a8 aa=>?_);have aP:=kB i aa;exact Aw (Dq c7 (by rw [hD,Ax a8]) (j _ aP));have bw:=aJ.bl aa.1;have bx:=kB i aa.1;rw [AG a8] at hD;refine WL.e<|Ak<|A2 rfl<|A0 (.nck rfl)<|A0 (.fa BL rfl Ot dD rfl)<|C2 (o:=29) ((Fh ⟨s,fo,sa,pa,cl,false,lo,te,li,ar,itv⟩).toArray) Ot rfl (rfl) rfl (rfl) bw bL (rfl) (λc9 ab ac cJ=>?_);have ab:AF c9 bv _ _:=ab;have ac:BF bv _ _:=ac;have bz:=kU bx ac;refine WL.e<|BJ (Bt rfl ?_)
    (refine GD _ _ hD rfl ⟨rfl, En hO bz ab (fun m => ?_)⟩
     have hq:=hR.mv m
     first
       | exact { hq with inText:=rfl,lost:=rfl,text:=rfl,line:=rfl }
       | exact { hq with inText:=rfl }
       | exact { hq with lost:=rfl,text:=rfl,line:=rfl })
  have bu:=dF aO;refine A4<|A0 (.eqs rfl rfl)<|A9 rfl<|Ac rfl (λaQ=>?_) (λaQ=>?_)
  · have bA := dT aQ
    have hD:=hE.trans ((A1 aS).trans ((A1 aS).trans (A6 aS)));refine Ak<|A2 rfl<|WL.cx AN rfl rfl ((Zi (X).get ha)) (λca cb ad aB=>?_) (λcY cZ cb ad aB=>?_);exact Aw (Dq ca (by rw [hD];exact ad) (EZ (j _ i) aB));have aR:=ad;obtain ⟨rfl,F9,aT,aC⟩:=aB;have aD:=PU (Cn i (λg hg=>.inl (.inl (Am.1 hg))) (λg hg=>.inl hg)) aC;refine WL.e<|BJ (Bt rfl ?_);exact GD _ _ (hD.trans aR) rfl ⟨rfl,F9,aT,aD⟩
  have bA:=dF aQ;refine A4<|A0 (.eqs rfl rfl)<|A9 rfl<|Ac rfl (λaU=>?_) (λaU=>?_)
  · have bB := dT aU
    have hD:=hE.trans ((A1 aS).trans ((A1 aS).trans ((A1 aS).trans (A6 aS))));refine A4<|A2 rfl<|A2 rfl<|Bk AN rfl rfl ((Ox (X).get ha)) (λcc cd ae af=>?_) (λcf cd ae af=>?_);have aV:=kB i af;exact Aw (Dq cc (by rw [hD,Ax ae]) (j _ aV));have bC:=aJ.bl af;have bD:=kB i af;rw [AG ae] at hD;obtain ⟨mm,rfl⟩:∃ x,x=cf:=⟨_,rfl⟩;refine A0 (.nck rfl)<|A0 (.fa BL rfl IK dD rfl)<|Eh (o:=37) ((Fh ⟨s,fo,sa,pa,cl,it,lo,te,mm,ar,itv⟩).toArray) rfl (rfl) rfl bC CJ rfl bL (rfl) (λcg v ag cK=>?_);have v:AF cg bv _ _:=v;have ag:BF bv _ _:=ag;have bE:=kU bD ag;refine WL.e<|Ak<|A2 rfl<|A2 rfl<|A2 rfl<|A0 (.nck rfl)<|A0 (.fa BL rfl IK dD rfl)<|Ag (Ck (L:=Ww) DU rfl CJ v (mm) (rfl) rfl)<|A0 (.nck rfl)<|A0 (.fa BL rfl IK dD rfl)<|Eh (o:=31) ((Fh ⟨s,fo,sa,pa,cl,it,lo,mm,mm,ar,itv⟩).toArray) rfl (rfl) rfl v CJ rfl bL (rfl) (λci ah ai cL=>?_);have ah:AF ci bv _ _:=ah;have ai:BF bv _ _:=ai;have bG:=kU bE ai;refine A0 (.nck rfl)<|A0 (.fa BL rfl Ot dD rfl)<|C2 (o:=30) ((Fh ⟨s,fo,sa,pa,cl,it,false,mm,mm,ar,itv⟩).toArray) Ot rfl (rfl) rfl (rfl) ah bL (rfl) (λcj aj ak cM=>?_);have aj:AF cj bv _ _:=aj;have ak:BF bv _ _:=ak;have bH:=kU bG ak;refine WL.e<|BJ (Bt rfl ?_)
    (refine GD _ _ hD rfl ⟨rfl, En hO bH aj (fun m => ?_)⟩
     have hq:=hR.mv m
     first
       | exact { hq with inText:=rfl,lost:=rfl,text:=rfl,line:=rfl }
       | exact { hq with inText:=rfl }
       | exact { hq with lost:=rfl,text:=rfl,line:=rfl })
  have bB:=dF aU;refine A4<|A0 (.eqs rfl rfl)<|A9 rfl<|Ac rfl (λaW=>?_) (λaW=>?_)
  · have bI := dT aW
    have hD:=hE.trans ((A1 aS).trans ((A1 aS).trans ((A1 aS).trans ((A1 aS).trans (A6 aS)))));refine A4<|A2 rfl<|WL.cx AN rfl rfl ((F7 2 (X).get ha oO)) (λck cm y G=>?_) (λco c' cm y G=>?_);have aX:=kB i G;exact Aw (Dq ck (by rw [hD,Ax y]) (j _ aX));have bJ:=aJ.bl G.1;have bK:=kB i G.1;obtain ⟨nl,rfl⟩:∃ l,l=co:=⟨_,rfl⟩;obtain ⟨pn,cn,evn,be,cq,d0,-⟩:=G.2.row;subst evn;have u:=(Fl y).1;have cr:=be.ofI;have bf:0<nl.length->(pA pn).block≠bv:=λE e=>by have:=cq _ (be.isp E);have:=i.size;omega
    rw [AG y] at hD;refine A9 rfl<|Ah<|Dr 16 rfl C7 (λw'=>AS DW w' pn nl/\True) (λd1 aE=>?_);have aF:=bJ.drew aE;have d:=cr.drew aE;have aY:=DA bK (Q8 aE);refine Af 0 rfl (.mv rfl) ⟨d,tT⟩ rfl ?_;refine Af 1 rfl (.mv rfl) ⟨d,tT⟩ rfl ?_;refine Af 2 rfl (.ixb Dh B5 rfl rfl (d.isp oD) (0) (rfl) oO) ⟨d,tT⟩ rfl ?_;refine BY 3 rfl (λw' hw'=>AO (Bw _) rfl ((hw'.1).cells (0) oO)) ⟨d,tT⟩ rfl ?_;refine Af 4 rfl (.mv rfl) ⟨d,tT⟩ rfl ?_;refine Af 5 rfl (.ixb Dh B5 rfl rfl (d.isp oD) (1) (rfl) oO) ⟨d,tT⟩ rfl ?_;refine BY 6 rfl (λw' hw'=>AO (Bw _) rfl ((hw'.1).cells (1) oO)) ⟨d,tT⟩ rfl ?_;refine Af 8 rfl (.mv rfl) ⟨d,tT⟩ rfl ?_;refine Af 9 rfl (.nck rfl) ⟨d,tT⟩ rfl ?_;refine Af 10 rfl (.fa BL rfl IK dD rfl) ⟨d,tT⟩ rfl ?_;refine Ea 7 rfl 11 rfl ?_ ?_;refine WL.c1 AN rfl rfl ((Kf _ _ _)) (λd2 aG=>?_);have aZ:=aF.bl aG;have al:=AS.below d aG (λE=>d.lt E);have a':=kB aY aG;refine WL.e<|⟨⟨al,tT⟩,?_⟩;refine An 11 rfl<|Ag (Ck (L:=Ww) DU rfl CJ aZ (li) (rfl) rfl)<|WL.e<|⟨⟨al,tT⟩,?_⟩;refine An 12 rfl<|Bk AN rfl rfl ((FA _ li _)) (λct cu am J=>?_) (λcv cu am J=>?_);have b0:=kB a' J;exact Aw (Dq ct (by rw [(n2a nl u).1,(n2a nl u).2] at hD;rw [hD,<- ax];exact Ax am) (j _ b0));have bM:=aZ.bl J;have an:=AS.below al J (λE=>al.lt E);have bN:=kB a' J;have b1:=am;rw [(n2a nl u).1,(n2a nl u).2] at hD;rw [<- ax,AG b1] at hD;obtain ⟨mm,rfl⟩:∃ x,x=cv:=⟨_,rfl⟩;refine WL.e<|⟨⟨an,tT⟩,?_⟩;refine Af 13 rfl (.nck rfl) ⟨an,tT⟩ rfl ?_;refine Af 14 rfl (.fa BL rfl IK dD rfl) ⟨an,tT⟩ rfl ?_;refine An 15 rfl<|Eh (o:=37) ((Fh ⟨s,fo,sa,pa,cl,it,lo,te,mm,ar,itv⟩).toArray) rfl (rfl) rfl bM CJ rfl bL (rfl) (λcw A C cN=>?_);have A:AF cw bv _ _:=A;have C:BF bv _ _:=C;have bO:=AS.upd an C (bf);have bP:=kU bN C;refine WL.e<|⟨⟨bO,tT⟩,?_⟩;refine Bd kR<|Ak<|A2 rfl<|A2 rfl<|A2 rfl<|A0 (.nck rfl)<|A0 (.fa BL rfl IK dD rfl)<|Ag (Ck (L:=Ww) DU rfl CJ A (mm) (rfl) rfl)<|A0 (.nck rfl)<|A0 (.fa BL rfl IK dD rfl)<|Eh (o:=31) ((Fh ⟨s,fo,sa,pa,cl,it,lo,mm,mm,ar,itv⟩).toArray) rfl (rfl) rfl A CJ rfl bL (rfl) (λcy ao ap cO=>?_)
    have ao:AF cy bv _ _:=ao;have ap:BF bv _ _:=ap;have bQ:=kU bP ap;refine A0 (.nck rfl)<|A0 (.fa BL rfl Ot dD rfl)<|C2 (o:=30) ((Fh ⟨s,fo,sa,pa,cl,it,false,mm,mm,ar,itv⟩).toArray) Ot rfl (rfl) rfl (rfl) ao bL (rfl) (λcz aq au cP=>?_);have aq:AF cz bv _ _:=aq;have au:BF bv _ _:=au;have bR:=kU bQ au;refine WL.e<|BJ (Bt rfl ?_)
    (refine GD _ _ hD rfl ⟨rfl, En hO bR aq (fun m => ?_)⟩
     have hq:=hR.mv m
     first
       | exact { hq with inText:=rfl,lost:=rfl,text:=rfl,line:=rfl }
       | exact { hq with inText:=rfl }
       | exact { hq with lost:=rfl,text:=rfl,line:=rfl })
    refine Ag (Ck (L:=Ww) DU rfl CJ aF (li) (rfl) rfl)<|WL.e<|⟨⟨d,tT⟩,?_⟩;refine An 7 rfl<|WL.c1 AN rfl rfl ((Kf _ _ _)) (λd3 aH=>?_);have bS:=aF.bl aH;have aI:=AS.below d aH (λE=>d.lt E);have b2:=kB aY aH;refine WL.e<|⟨⟨aI,tT⟩,?_⟩;refine An 12 rfl<|Bk AN rfl rfl ((FA _ li _)) (λbT cA av K=>?_) (λcB cA av K=>?_);have b3:=kB b2 K;exact Aw (Dq bT (by rw [(n2a nl u).1,(n2a nl u).2] at hD;rw [hD,<- ax];exact Ax av) (j _ b3));have b6:=bS.bl K;have D:=AS.below aI K (λE=>aI.lt E);have b7:=kB b2 K;have b1:=av;rw [(n2a nl u).1,(n2a nl u).2] at hD;rw [<- ax,AG b1] at hD;obtain ⟨mm,rfl⟩:∃ x,x=cB:=⟨_,rfl⟩;refine WL.e<|⟨⟨D,tT⟩,?_⟩;refine Af 13 rfl (.nck rfl) ⟨D,tT⟩ rfl ?_;refine Af 14 rfl (.fa BL rfl IK dD rfl) ⟨D,tT⟩ rfl ?_;refine An 15 rfl<|Eh (o:=37) ((Fh ⟨s,fo,sa,pa,cl,it,lo,te,mm,ar,itv⟩).toArray) rfl (rfl) rfl b6 CJ rfl bL (rfl) (λbU q t cC=>?_);have q:AF bU bv _ _:=q;have t:BF bv _ _:=t;have b8:=AS.upd D t (bf);have b9:=kU b7 t;refine WL.e<|⟨⟨b8,tT⟩,?_⟩;refine Bd kR<|Ak<|A2 rfl<|A2 rfl<|A2 rfl<|A0 (.nck rfl)<|A0 (.fa BL rfl IK dD rfl)<|Ag (Ck (L:=Ww) DU rfl CJ q (mm) (rfl) rfl)<|A0 (.nck rfl)<|A0 (.fa BL rfl IK dD rfl)<|Eh (o:=31) ((Fh ⟨s,fo,sa,pa,cl,it,lo,mm,mm,ar,itv⟩).toArray) rfl (rfl) rfl q CJ rfl bL (rfl) (λbV N P cD=>?_);have N:AF bV bv _ _:=N;have P:BF bv _ _:=P;have ba:=kU b9 P;refine A0 (.nck rfl)<|A0 (.fa BL rfl Ot dD rfl)<|C2 (o:=30) ((Fh ⟨s,fo,sa,pa,cl,it,false,mm,mm,ar,itv⟩).toArray) Ot rfl (rfl) rfl (rfl) N bL (rfl) (λbW Q T cE=>?_);have Q:AF bW bv _ _:=Q;have T:BF bv _ _:=T;have bb:=kU ba T;refine WL.e<|BJ (Bt rfl ?_)
    (refine GD _ _ hD rfl ⟨rfl, En hO bb Q (fun m => ?_)⟩
     have hq:=hR.mv m
     first
       | exact { hq with inText:=rfl,lost:=rfl,text:=rfl,line:=rfl }
       | exact { hq with inText:=rfl }
       | exact { hq with lost:=rfl,text:=rfl,line:=rfl })
  have bI:=dF aW;have hD:=hE.trans ((A1 aS).trans ((A1 aS).trans ((A1 aS).trans ((A1 aS).trans (A1 aS)))));refine Ak<|A2 rfl<|WL.cx AN rfl rfl ((WA (X).get ha hb hsn hfc)) (λbX bY U aw=>?_) (λcR cS bY U aw=>?_);exact Aw (Dq bX (by rw [hD];exact U) (EZ (j _ i) aw));have aR:=U;obtain ⟨rfl,F9,aT,aC⟩:=aw;have aD:=PU (Cn i (λg hg=>.inl (.inl (Am.1 hg))) (λg hg=>.inl hg)) aC;refine WL.e<|BJ (Bt rfl ?_);exact GD _ _ (hD.trans aR) rfl ⟨rfl,F9,aT,aD⟩
end
end
end Go.Proofs.YthmhfjeojkbpfaaGreatDoor
