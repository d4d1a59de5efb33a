/-
  What the claim leans on, part 6: pruned and joined by my own tool out of the texts that stand in wip/ as templates.
-/
import Derived.Test.YthmhfjeojkbpfaaGreatDoorVm5
set_option maxHeartbeats 6400000
set_option maxRecDepth 100000
namespace Go.Proofs.YthmhfjeojkbpfaaGreatDoor
open Go.RowKit
open Go.Proofs.Tryz
variable {aft:Array Edge} {ops:Array Oper} {ats:Array TypeId} {refs:Bool} {R:Ending->World->Prop} {f:Fr} {dx dy fill last:Int} {sum:Int->List UInt8->Int} {ns:List Int} {A s z:List UInt8} {vs xs:List Value} {B N bp bv by' c cc cp d g i id m t t1:Nat} {F1 T Z:Nat->Prop} {x y:Operand} {p pc pp q:Option Addr} {P:Program} {pos:String} {α β:Type} {E e ta tb tx:TypeId} {v v' v1 vp:Value} {w w1 w2:World} {S':World->Prop}
section
structure JC (w:World) (S:Nat->Prop) (l:List Bm):Prop where
 all:∀ y∈l,Cn EX S w y.pfPath y.fPath y.cfPath
theorem JC.nil (w:World) (S:Nat->Prop):JC w S []:=⟨λy hy=>by cases hy⟩
theorem JC.same  {S:Nat->Prop} {l:List Bm} (h:JC w S l) (hb:∀ k,S k->k<w.heap.size->w1.heap[k]?=w.heap[k]?):JC w1 S l :=
 ⟨λy hy=>⟨(h.all y hy).row.same λh0=>hb _ ((h.all y hy).inn h0) ((h.all y hy).row.lt h0),(h.all y hy).sl,(h.all y hy).inn⟩⟩
theorem JC.mono  {S:Nat->Prop} {l:List Bm} (h:JC w S l) (hT:∀ k,S k->k<w.heap.size->T k):JC w T l :=
 ⟨λy hy=>⟨(h.all y hy).row,(h.all y hy).sl,λh0=>hT _ ((h.all y hy).inn h0) ((h.all y hy).row.lt h0)⟩⟩
theorem Jj  {S:Nat->Prop} {l:List Bm} (h:JC w S l) (hb:∀ k,S k->k<w.heap.size->w1.heap[k]?=w.heap[k]?) (hT:∀ k,S k->k<w.heap.size->T k):JC w1 T l :=
 ((h.mono (T:=λk=>S k/\k<w.heap.size) (λk hk hl=>⟨hk,hl⟩)).same (λk hk _=>hb k hk.1 hk.2)).mono (λk hk _=>hT k hk.1 hk.2)
theorem JC.app  {S:Nat->Prop} {l r:List Bm} (h:JC w S l) (h2:JC w S r):JC w S (l++r):=⟨λy hy=>(B4.1 hy).elim (h.all y) (h2.all y)⟩
theorem A3u:(Tryz.prog.info? 44).map (λi=>(i.zero,i.size,i.bytes))=some (some (.agg (F4 ⟨0,none,[],0,MC 0,none,[],0,K9,0,0,0,0,0,0,0,none,[],0⟩).toArray),22,240):=by kernel_rfl
theorem Ss {l:List Bm} (h:ET (l.map FL)=true):l.length<=16/\∀ y∈l,y.fPath.length<=4096:=by
 unfold ET at h
 rw [A4,Ad,B0] at h
 refine ⟨oO,λy hy=>?_⟩
 have a:=At.1 h.2 _ (FR.2 ⟨y,hy,rfl⟩)
 unfold Fo EZ at a
 simp only [A4,Ad] at a
 exact a.2.1
def itC (x:AN) (p:Option Addr) (l:List Bm) (c:Nat):AN:={ x with pfClips:=p,fClips:=l,cfClips:=c }
section
variable {B:Nat} {fs:QD} {w w1:World} {bv:Nat} {F:Nat->Prop} {V:Vw} {args:List PV}
theorem P7 (x:AN) (h:Ga B fs w bv F V args) (hsn:A4w V.s) (hi:Lg (Eh fs.c F w) w x) (hcl:x.pfClips=none/\x.fClips=[]/\x.cfClips=0) :
  Calls Tryz.prog 101 #[ptV bv,.agg (F4 x).toArray] w (VwE B fs bv F w (FG V { JA x with fClips:=V.s.clips }) args):=by
 obtain ⟨bd,bR⟩:=h.base
 obtain ⟨H,vp,its,hs,cs,rfl,hO,hR⟩:=h.mem
 have a3:=hO.blk
 have a4:=hO.oi
 obtain ⟨pvc,cvc,lc,evc,e6,aD,bS⟩:=hR.st.clips
 obtain ⟨fH,bT⟩:=Ss (bS▸hsn.clips)
 obtain ⟨⟨ctm,fi,sk,pe,clv,fn,sz⟩,fo,sa,pa,D,E,lo,te,li,ar,itv⟩:=H
 simp only at evc
 subst evc
 obtain ⟨pit,cit,eit,-,-,fP,-,-,fQ,-⟩:=a4.row
 simp only at eit
 subst eit
 have fR:=a3.lt
 have b:=a4.lt
 have fX:its.length=V.items.length:=by rw [<- hR.it,B0]
 have e7:=Ky a4 a3.ty
 have fe:∀ w1,AL w.heap.size [bv,vb (.slice pit its.length cit) bv] w w1->Below B w w1:=λw1 hK=>hK.below bR (λk hk=>by
  simp only [Ax,AK,Cl] at hk;rcases hk with rfl | rfl;exact bd;rcases Z0 (.slice pit its.length cit) bv with h1 | h1;rw [h1];exact bd;exact (b _ h1).1)
 have bU:∀ g,Eh fs.c (GG bv ⟨⟨ctm,fi,sk,pe,.slice pvc lc.length cvc,fn,sz⟩,fo,sa,pa,D,E,lo,te,li,ar,.slice pit its.length cit⟩ vp) w g->g<w.heap.size/\g ∉ [bv,vb (.slice pit its.length cit) bv]:=λg hg=>⟨hg.1,λhm=>hg.2.1 ((LP (N:=w.heap.size) (v:=.slice pit its.length cit) (F:=GG bv ⟨⟨ctm,fi,sk,pe,.slice pvc lc.length cvc,fn,sz⟩,fo,sa,pa,D,E,lo,te,li,ar,.slice pit its.length cit⟩ vp) (λg hg=>.inr (.inr (.inr (.inl hg)))) (.inl rfl) g hm).elim id (λh=>D6 hg.1 oO))⟩
 have ei:∀ {w1:World},AL w.heap.size [bv,vb (.slice pit its.length cit) bv] w w1->Bi G0 w1 pvc lc:=λhK=>rk_ e6.row hK (λh0=>bU _ (e6.inn h0))
 have cK:=bR
 refine Av func101 rfl ntmps101 ?_
 have e8:=AL.refl w.heap.size ([bv,vb (.slice pit its.length cit) bv]) w
 refine A5<|D5 rfl rfl (λX fY bV ej aE fS=>?_)
 have ek:=BA cK aE.size
 have ff:=GK a4 bV aE
 have fg:=Bx bV a3.lt
 have e9:=a3.un aE fg
 have cL:=DW bV e8.size
 have ea:=CI e8 (Ik aE cL)
 refine A0<|A5<|A3 rfl<|A1 (.nck rfl)<|A1 (.fa BW rfl Mi dD rfl)<|Ai (Af (OM _) rfl e9 rfl)<|A1 (.lenS JQ rfl)<|A1 (.bis (decide (V.items.length<4096)) (.lss rfl rfl) (by exact DX.2 oO))<|By BQ rfl rfl ((O6 _ _)) (λfh w9 b6 ap=>?_) (λfZ w9 b6 ap=>?_)
 have cM:=kB ea ap
 exact AE (DG fh (by unfold FG;exact AF b6) (fe _ cM))
 have fI:=BA ek ap.size
 have el:=AJ.below ff ap
 have bW:=e9.bl ap
 have em:=ej.bl ap
 have en:=kB ea ap
 have b7:=b6
 refine A0<|Aj<|A5<|A3 rfl<|A1 (.nck rfl)<|A1 (.fa BW rfl EL dD rfl)<|A1 (.fa Fv rfl Gg dD rfl)<|Ai (Af (JY _) rfl bW rfl)<|A1 (.lenS Fj rfl)<|A3 rfl<|A0<|AU<|Cf (α:=Option Addr × List Bm × Nat × Nat) (λt=>[(0,ptV bv),(3,ptV X),(17,.slice pvc lc.length cvc),(18,Ah (lc.length:Int)),(19,Ah (t.2.2.2:Int))]) (λt w'=>AL w.heap.size [bv,vb (.slice pit its.length cit) bv] w w'/\Be w' bv (FA ⟨⟨ctm,fi,sk,pe,.slice pvc lc.length cvc,fn,sz⟩,fo,sa,pa,D,E,lo,te,li,ar,.slice pit its.length cit⟩).toArray 74/\Be w' X (F4 (itC x t.1 t.2.1 t.2.2.1)).toArray 44/\AJ JW 44 B w' (.slice pit its.length cit) its/\AJ G0 61 (X+1) w' (.slice t.1 t.2.1.length t.2.2.1) t.2.1/\JC w' (λk=>X<k/\(Value.slice t.1 t.2.1.length t.2.2.1).ownBlock≠some k) t.2.1/\t.2.2.2<=lc.length/\t.2.1.map FL=(lc.take t.2.2.2).map FL) (λt=>lc.length-t.2.2.2) ((none,[],0,0)) ⟨rfl,rfl,rfl,rfl,rfl,tT⟩ (⟨en,bW,by have h3:=em;rw [show x=itC x none [] 0 by obtain ⟨q1,q2,q3⟩:=hcl;unfold itC;rw [<- q1,<- q2,<- q3]] at h3;exact h3,el,AJ.nil _ _ _ _,JC.nil _ _,G8 _,rfl⟩) (λt w1 hR=>?_)
 obtain ⟨⟨p1,L1,c1,i⟩,fj⟩:=eX t
 subst fj
 obtain ⟨q1,q2,q3,q4,q5,q6,q7,q8⟩:=hR
 simp only at q3 q5 q6 q7 q8
 have bX:=q3.lt
 have bY:B<=w1.heap.size:=BA bR q1.size
 have d:=q5.lt
 have f':L1.length=i:=by have:=Bk List.length q8;rw [B0,B0,AT] at this;omega
 have bZ:=ei q1
 have eb:JC w1 (λk=>k<w1.heap.size/\(X<k/\(Value.slice p1 L1.length c1).ownBlock≠some k)) L1:=q6.mono (λk hk hl=>⟨hl,hk⟩)
 refine A5<|A1 (.lss rfl rfl)<|A0<|Aj<|Ae rfl (λb'=>?_) (λb'=>?_)
 have eo:=dT b'
 have a5:i<lc.length:=by (simp only at *;omega)
 refine Ap<|Aj<|AU<|A5<|A1 (.ixm Fj K6 rfl rfl (bZ.isp oO) (i) (rfl) oO)<|Ai (Dy Na rfl Wx bZ (i) oO rfl)<|C1 Qj rfl (λec ep aq cN P fJ=>?_)
 have cO:=BA bX P.size
 have eq:=GK q5 aq P
 have cP:=BA bY P.size
 have er:=GK q4 aq P
 have es:=JC.same (w1:=ep) eb (λk hk hl=>P.other k oO)
 have et:=Bx aq q2.lt
 have eu:=q2.un P et
 have ev:=Bx aq q3.lt
 have ew:=q3.un P ev
 have c0:=DW aq q1.size
 have ex:=CI q1 (Ik P c0)
 refine AH rfl rfl cN Wx rfl rfl (λed a Q fK=>?_)
 have cQ:=BA cO Q.size
 have ey:=I4 eq Q (λg hg e=>by (have:=d g hg;omega))
 have cR:=BA cP Q.size
 have ez:=I4 er Q (λg hg e=>by first | (have:=b g hg;omega) | (subst e;rcases HF _ hg with h1 | h1 <;> first | exact BZ a4 a3 dD _ h1 rfl | omega))
 have eA:=JC.same (w1:=ed) es (λk hk hl=>Q.other k oM)
 have eB:=eu.up Q
 have eC:=ew.up Q
 have eD:=CI ex (by exact Ik Q oO)
 refine A0<|DD 12 rfl Ci (λw'=>w'.heap[ec]?=ed.heap[ec]?/\True) (λfk a1=>?_)
 have be:=Df.le cQ a1
 have aF:=AJ.drew ey a1
 have bf:=Df.le cR a1
 have c3:=AJ.drew ez a1
 have c4:=JC.same (w1:=fk) eA (λk hk hl=>(by obtain ⟨m,rfl⟩:=a1;rfl))
 have c6:=eB.drew a1
 have au:=eC.drew a1
 have b8:=a.drew a1
 have aG:=CI eD (QL a1)
 have aB:=Dr (b8.trans a.symm) BO
 refine Aa 0 rfl (.fa Db rfl Gg dD rfl) aB ?_
 refine Aa 2 rfl (.fa Na rfl HE dD rfl) aB ?_
 refine C8 3 rfl (λw' hw'=>Af (JG _) rfl ((hw'.1).trans a) rfl) aB rfl ?_
 refine Aa 5 rfl (.fa Na rfl P2 dD rfl) aB ?_
 refine C8 6 rfl (λw' hw'=>Af (g4_ _) rfl ((hw'.1).trans a) rfl) aB rfl ?_
 refine Ef 1 rfl 4 rfl ?_ ?_
 refine Ai (Af (JY _) rfl au rfl)<|A0<|⟨aB,?_⟩
 refine Aq 4 rfl<|DO BQ rfl rfl ((Ij lc[i].pfPath lc[i].fPath lc[i].cfPath _ (rk_ (aD lc[i] (AM a5)).row aG (λh0=>bU _ ((aD lc[i] (AM a5)).inn h0))) (BA (bT lc[i] (AM a5)) dD))) (λxx c7 Y=>?_)
 have cS:=BA be Y.1.size
 have eF:=AJ.below aF Y.1
 have cT:=BA bf Y.1.size
 have eG:=AJ.below c3 Y.1
 have eH:=JC.same (w1:=c7) c4 (λk hk hl=>Y.1.block k hl)
 have c8:=c6.bl Y.1
 have c9:=au.bl Y.1
 have aH:=b8.bl Y.1
 have ca:=kB aG Y.1
 have hx:=Y.2
 obtain ⟨xp,xc⟩:=xx
 have eI:=(au).lt
 obtain ⟨p5,c5,e5,cb⟩:=Cn.own (Z:=λk=>k<c7.heap.size/\(X<k/\(Value.slice p1 L1.length c1).ownBlock≠some k)) hx (λg hg=>⟨(hx.lt g hg).2,by have:=(hx.lt g hg).1;omega,λe=>by have:=(hx.lt g hg).1;have:=(aF).lt g e;omega⟩)
 cases e5
 have bg:JC c7 _ [(⟨xp,lc[i].fPath,xc,lc[i].fEvenOdd⟩:Bm)]:=⟨λy hy=>by rw [Ao.1 hy];exact cb⟩
 refine A0<|⟨⟨(aH).trans (a).symm,tT⟩,?_⟩
 refine Aa 7 rfl (.buildL (ps:=_) Xb rfl rfl rfl pS) ⟨(aH).trans (a).symm,tT⟩ ?_
 refine Aq 8 rfl<|Cw (L:=G0) (ps:=_) ([(⟨xp,lc[i].fPath,xc,lc[i].fEvenOdd⟩:Bm)]) Fj K6 Qj rfl rfl rfl rfl rfl (by rfl) rfl rfl (λfl b9 ak cU o fL=>?_)
 have bh:=BA cS o.size
 have eJ:=GK eF ak o
 have cV:=BA cT o.size
 have cc:=GK eG ak o
 have eK:=JC.same (w1:=b9) eH (λk hk hl=>o.other k oO)
 have eL:=JC.same (w1:=b9) bg (λk hk hl=>o.other k oO)
 have eM:=Bx ak c8.lt
 have eN:=c8.un o eM
 have eO:=Bx ak c9.lt
 have eP:=c9.un o eO
 have eQ:=Bx ak aH.lt
 have cd:=aH.un o eQ
 have cf:=DW ak ca.size
 have cg:=CI ca (Ik o cf)
 have fm:fl<=b9.heap.size:=by omega
 refine A0<|⟨⟨(cd).trans (a).symm,tT⟩,?_⟩
 refine Aq 9 rfl<|CV Fj Ms rfl rfl rfl eJ rfl (cU).rowp oE (bh) rfl (λh=>D6 h (PA _ _)) (λee g0 aI bi a2 aJ=>?_)
 have eR:=eN.grown a2 (λe=>by have:=d _ e;omega)
 have eS:=eP.grown a2 (λe=>by have:=d _ e;omega)
 have ba:=cd.grown a2 (λe=>by have:=d _ e;omega)
 have eT:=Jj (T:=λk=>k<w1.heap.size/\(X<k/\(ee).ownBlock≠some k)) eK (λk hk hl=>a2.block k hl (λe=>hk.2.2 e.symm)) (λk hk hl=>⟨hk.1,hk.2.1,λe=>by rcases aJ k e with h | h;exact hk.2.2 h;omega⟩)
 have eU:=Jj (T:=λk=>True/\(X<k/\(ee).ownBlock≠some k)) eL (λk hk hl=>a2.block k hl (λe=>hk.2.2 e.symm)) (λk hk hl=>⟨trivial,hk.2.1,λe=>by rcases aJ k e with h | h;exact hk.2.2 h;omega⟩)
 have eV:=AJ.same cc (λg hg=>a2.block g ((cc).lt g hg).2 (λhx=>by have h1:=b g hg;have h2:=d g hx.symm;omega))
 have cW:=BA cV bi.size
 have eW:=CI cg (Ce a2 (λg hg=>.inr (by have:=d g hg;omega)) cg.size)
 have cX:=BA bh bi.size
 obtain ⟨pv,cv,evv,-⟩:=(aI).row
 subst evv
 refine A0<|⟨⟨(ba).trans (a).symm,tT⟩,?_⟩
 refine Aa 10 rfl (.fa Db rfl Gg dD rfl) ⟨(ba).trans (a).symm,tT⟩ ?_
 refine Aq 11 rfl<|CT 7 ((F4 (itC x pv (L1++[(⟨xp,lc[i].fPath,xc,lc[i].fEvenOdd⟩:Bm)]) cv)).toArray) eS Gg (λef cY C fM=>?_)
 have fN:=BA cX C.size
 have eY:=I4 aI C (λg hg e=>by (have:=(aI).lt g hg;omega))
 have fO:=BA cW C.size
 have eZ:=I4 eV C (λg hg e=>by first | (have:=b g hg;omega) | (subst e;rcases aJ _ hg with h1 | h1 <;> first | exact BZ a4 a3 dD _ h1 rfl | omega))
 have e':=JC.same (w1:=ef) eT (λk hk hl=>C.other k (by have:=hk.2.1;omega))
 have f0:=JC.same (w1:=ef) eU (λk hk hl=>C.other k (by have:=hk.2.1;omega))
 have f1:=eR.up C
 have f2:=ba.up C
 have cZ:=CI eW (by exact Ik C oO)
 refine A0<|⟨⟨(f2).trans (a).symm,tT⟩,?_⟩
 refine Bl kR<|Ak<|A1 (.iis (((i+1:Nat):Int)) (.add rfl rfl (Bn (by (try simp only) <;> omega))) oM)<|A3 rfl<|A0<|?_
 exact ⟨(pv,L1++[(⟨xp,lc[i].fPath,xc,lc[i].fEvenOdd⟩:Bm)],cv,i+1),⟨rfl,rfl,rfl,rfl,rfl,tT⟩,⟨cZ,f1,cY,eZ,eY,((e').mono (λk hk _=>hk.2)).app ((f0).mono (λk hk _=>hk.2)),oM,by rw [Bp,q8,Bd a5,Bp];rfl⟩,oM⟩
 refine DO BQ rfl rfl ((Ij lc[i].pfPath lc[i].fPath lc[i].cfPath _ (rk_ (aD lc[i] (AM a5)).row aG (λh0=>bU _ ((aD lc[i] (AM a5)).inn h0))) (BA (bT lc[i] (AM a5)) dD))) (λxx bb q=>?_)
 have aV:=BA be q.1.size
 have bj:=AJ.below aF q.1
 have aW:=BA bf q.1.size
 have bk:=AJ.below c3 q.1
 have bm:=JC.same (w1:=bb) c4 (λk hk hl=>q.1.block k hl)
 have am:=c6.bl q.1
 have ae:=au.bl q.1
 have af:=b8.bl q.1
 have an:=kB aG q.1
 have hx:=q.2
 obtain ⟨xp,xc⟩:=xx
 have eI:=(au).lt
 obtain ⟨p5,c5,e5,cb⟩:=Cn.own (Z:=λk=>k<bb.heap.size/\(X<k/\(Value.slice p1 L1.length c1).ownBlock≠some k)) hx (λg hg=>⟨(hx.lt g hg).2,by have:=(hx.lt g hg).1;omega,λe=>by have:=(hx.lt g hg).1;have:=(aF).lt g e;omega⟩)
 cases e5
 have bg:JC bb _ [(⟨xp,lc[i].fPath,xc,lc[i].fEvenOdd⟩:Bm)]:=⟨λy hy=>by rw [Ao.1 hy];exact cb⟩
 refine A0<|?_
 have ci:=Dr (af.trans a.symm) BO
 refine ⟨ci,?_⟩
 refine Aa 7 rfl (.buildL (ps:=_) Xb rfl rfl rfl pS) ci ?_
 refine Ef 1 rfl 8 rfl ?_ ?_
 refine Ai (Af (JY _) rfl ae rfl)<|A0<|⟨ci,?_⟩
 refine Aq 8 rfl<|Cw (L:=G0) (ps:=_) ([(⟨xp,lc[i].fPath,xc,lc[i].fEvenOdd⟩:Bm)]) Fj K6 Qj rfl rfl rfl rfl rfl (by rfl) rfl rfl (λf3 aK aa cj f fp=>?_)
 have aX:=BA aV f.size
 have c':=GK bj aa f
 have ck:=BA aW f.size
 have bn:=GK bk aa f
 have d0:=JC.same (w1:=aK) bm (λk hk hl=>f.other k oO)
 have d1:=JC.same (w1:=aK) bg (λk hk hl=>f.other k oO)
 have d2:=Bx aa am.lt
 have d3:=am.un f d2
 have d4:=Bx aa ae.lt
 have d5:=ae.un f d4
 have d6:=Bx aa af.lt
 have bo:=af.un f d6
 have bN:=DW aa an.size
 have bp:=CI an (Ik f bN)
 have f9:f3<=aK.heap.size:=by omega
 refine A0<|⟨⟨(bo).trans (a).symm,tT⟩,?_⟩
 refine Aq 9 rfl<|CV Fj Ms rfl rfl rfl c' rfl (cj).rowp oE (aX) rfl (λh=>D6 h (PA _ _)) (λcl fT av aY G aw=>?_)
 have d7:=d3.grown G (λe=>by have:=d _ e;omega)
 have d8:=d5.grown G (λe=>by have:=d _ e;omega)
 have aL:=bo.grown G (λe=>by have:=d _ e;omega)
 have d9:=Jj (T:=λk=>k<w1.heap.size/\(X<k/\(cl).ownBlock≠some k)) d0 (λk hk hl=>G.block k hl (λe=>hk.2.2 e.symm)) (λk hk hl=>⟨hk.1,hk.2.1,λe=>by rcases aw k e with h | h;exact hk.2.2 h;omega⟩)
 have da:=Jj (T:=λk=>True/\(X<k/\(cl).ownBlock≠some k)) d1 (λk hk hl=>G.block k hl (λe=>hk.2.2 e.symm)) (λk hk hl=>⟨trivial,hk.2.1,λe=>by rcases aw k e with h | h;exact hk.2.2 h;omega⟩)
 have db:=AJ.same bn (λg hg=>G.block g ((bn).lt g hg).2 (λhx=>by have h1:=b g hg;have h2:=d g hx.symm;omega))
 have cm:=BA ck aY.size
 have dc:=CI bp (Ce G (λg hg=>.inr (by have:=d g hg;omega)) bp.size)
 have cn:=BA aX aY.size
 obtain ⟨pv,cv,evv,-⟩:=(av).row
 subst evv
 refine A0<|⟨⟨(aL).trans (a).symm,tT⟩,?_⟩
 refine Aa 10 rfl (.fa Db rfl Gg dD rfl) ⟨(aL).trans (a).symm,tT⟩ ?_
 refine Aq 11 rfl<|CT 7 ((F4 (itC x pv (L1++[(⟨xp,lc[i].fPath,xc,lc[i].fEvenOdd⟩:Bm)]) cv)).toArray) d8 Gg (λco cq l fq=>?_)
 have fr:=BA cn l.size
 have dd:=I4 av l (λg hg e=>by (have:=(av).lt g hg;omega))
 have ft:=BA cm l.size
 have de:=I4 db l (λg hg e=>by first | (have:=b g hg;omega) | (subst e;rcases aw _ hg with h1 | h1 <;> first | exact BZ a4 a3 dD _ h1 rfl | omega))
 have df:=JC.same (w1:=co) d9 (λk hk hl=>l.other k (by have:=hk.2.1;omega))
 have dg:=JC.same (w1:=co) da (λk hk hl=>l.other k (by have:=hk.2.1;omega))
 have dh:=d7.up l
 have di:=aL.up l
 have dj:=CI dc (by exact Ik l oO)
 refine A0<|⟨⟨(di).trans (a).symm,tT⟩,?_⟩
 refine Bl kR<|Ak<|A1 (.iis (((i+1:Nat):Int)) (.add rfl rfl (Bn (by (try simp only) <;> omega))) oM)<|A3 rfl<|A0<|?_
 exact ⟨(pv,L1++[(⟨xp,lc[i].fPath,xc,lc[i].fEvenOdd⟩:Bm)],cv,i+1),⟨rfl,rfl,rfl,rfl,rfl,tT⟩,⟨dj,dh,cq,de,dd,((df).mono (λk hk _=>hk.2)).app ((dg).mono (λk hk _=>hk.2)),oM,by rw [Bp,q8,Bd a5,Bp];rfl⟩,oM⟩
 refine Cw (L:=G0) (ps:=_) ([(⟨xp,lc[i].fPath,xc,lc[i].fEvenOdd⟩:Bm)]) Fj K6 Qj rfl rfl rfl rfl rfl (by rfl) rfl rfl (λf4 aM ab cr j fu=>?_)
 have ct:=BA aV j.size
 have dk:=GK bj ab j
 have fv:=BA aW j.size
 have bq:=GK bk ab j
 have dl:=JC.same (w1:=aM) bm (λk hk hl=>j.other k oO)
 have dm:=JC.same (w1:=aM) bg (λk hk hl=>j.other k oO)
 have dn:=Bx ab am.lt
 have dp:=am.un j dn
 have dq:=Bx ab ae.lt
 have bt:=ae.un j dq
 have dr:=Bx ab af.lt
 have aN:=af.un j dr
 have bO:=DW ab an.size
 have bu:=CI an (Ik j bO)
 have fb:f4<=aM.heap.size:=by omega
 refine A0<|⟨⟨(aN).trans (a).symm,tT⟩,?_⟩
 refine Aq 1 rfl<|Ai (Af (JY _) rfl bt rfl)<|A0<|⟨⟨(aN).trans (a).symm,tT⟩,?_⟩
 refine Aq 9 rfl<|CV Fj Ms rfl rfl rfl dk rfl (cr).rowp oE (ct) rfl (λh=>D6 h (PA _ _)) (λcu fU ax fw J ay=>?_)
 have ds:=dp.grown J (λe=>by have:=d _ e;omega)
 have dt:=bt.grown J (λe=>by have:=d _ e;omega)
 have aO:=aN.grown J (λe=>by have:=d _ e;omega)
 have du:=Jj (T:=λk=>k<w1.heap.size/\(X<k/\(cu).ownBlock≠some k)) dl (λk hk hl=>J.block k hl (λe=>hk.2.2 e.symm)) (λk hk hl=>⟨hk.1,hk.2.1,λe=>by rcases ay k e with h | h;exact hk.2.2 h;omega⟩)
 have dv:=Jj (T:=λk=>True/\(X<k/\(cu).ownBlock≠some k)) dm (λk hk hl=>J.block k hl (λe=>hk.2.2 e.symm)) (λk hk hl=>⟨trivial,hk.2.1,λe=>by rcases ay k e with h | h;exact hk.2.2 h;omega⟩)
 have dw:=AJ.same bq (λg hg=>J.block g ((bq).lt g hg).2 (λhx=>by have h1:=b g hg;have h2:=d g hx.symm;omega))
 have dx:=CI bu (Ce J (λg hg=>.inr (by have:=d g hg;omega)) bu.size)
 obtain ⟨pv,cv,evv,-⟩:=(ax).row
 subst evv
 refine A0<|⟨⟨(aO).trans (a).symm,tT⟩,?_⟩
 refine Aa 10 rfl (.fa Db rfl Gg dD rfl) ⟨(aO).trans (a).symm,tT⟩ ?_
 refine Aq 11 rfl<|CT 7 ((F4 (itC x pv (L1++[(⟨xp,lc[i].fPath,xc,lc[i].fEvenOdd⟩:Bm)]) cv)).toArray) dt Gg (λcw cy K fx=>?_)
 have dy:=I4 ax K (λg hg e=>by (have:=(ax).lt g hg;omega))
 have dz:=I4 dw K (λg hg e=>by first | (have:=b g hg;omega) | (subst e;rcases ay _ hg with h1 | h1 <;> first | exact BZ a4 a3 dD _ h1 rfl | omega))
 have dA:=JC.same (w1:=cw) du (λk hk hl=>K.other k (by have:=hk.2.1;omega))
 have dB:=JC.same (w1:=cw) dv (λk hk hl=>K.other k (by have:=hk.2.1;omega))
 have dC:=ds.up K
 have dE:=aO.up K
 have dG:=CI dx (by exact Ik K oO)
 refine A0<|⟨⟨(dE).trans (a).symm,tT⟩,?_⟩
 refine Bl kR<|Ak<|A1 (.iis (((i+1:Nat):Int)) (.add rfl rfl (Bn (by (try simp only) <;> omega))) oM)<|A3 rfl<|A0<|?_
 exact ⟨(pv,L1++[(⟨xp,lc[i].fPath,xc,lc[i].fEvenOdd⟩:Bm)],cv,i+1),⟨rfl,rfl,rfl,rfl,rfl,tT⟩,⟨dG,dC,cy,dz,dy,((dA).mono (λk hk _=>hk.2)).app ((dB).mono (λk hk _=>hk.2)),oM,by rw [Bp,q8,Bd a5,Bp];rfl⟩,oM⟩
 have eo:=dF b'
 have a5:i=lc.length:=by (simp only at *;omega)
 have eg:V.items.length<4096:=by
  unfold HG at b7
  split at b7;exact dT aS;cases b7
 have eh:L1.map FL=V.s.clips:=by rw [q8,a5,Ca];exact bS
 refine C7<|DD 11 rfl Ci (λw'=>w'.heap[X]?=w1.heap[X]?/\True) (λf5 U=>?_)
 have aZ:=Df.le bX U
 have bw:=AJ.drew q5 U
 have a':=Df.le bY U
 have bx:=AJ.drew q4 U
 have bz:=JC.same (w1:=f5) eb (λk hk hl=>(by obtain ⟨m,rfl⟩:=U;rfl))
 have ag:=q2.drew U
 have ah:=q3.drew U
 have ao:=CI q1 (QL U)
 have aC:=Dr (ah.trans q3.symm) BO
 refine Aa 0 rfl (.mv rfl) aC ?_
 refine Aa 1 rfl (.mv rfl) aC ?_
 refine Aa 2 rfl (.nck rfl) aC ?_
 refine Aa 3 rfl (.fa BW rfl Mi dD rfl) aC ?_
 refine C8 5 rfl (λw' hw'=>BD rfl ((hw'.1).trans q3) Db rfl OI) aC rfl ?_
 refine Ef 4 rfl 6 rfl ?_ ?_
 refine Ai (Af (OM _) rfl ag rfl)<|A0<|⟨aC,?_⟩
 refine Aq 6 rfl<|Cw (L:=JW) (ps:=_) ([itC x p1 L1 c1]) JQ Uy A1S rfl rfl rfl rfl rfl (by rfl) rfl rfl (λf6 bA ai cz u fy=>?_)
 have fz:=BA aZ u.size
 have bB:=GK bw ai u
 have b0:=BA a' u.size
 have dH:=GK bx ai u
 have dI:=JC.same (w1:=bA) bz (λk hk hl=>u.other k oO)
 have dJ:=Bx ai ag.lt
 have dK:=ag.un u dJ
 have dL:=Bx ai ah.lt
 have bC:=ah.un u dL
 have bP:=DW ai ao.size
 have aP:=CI ao (Ik u bP)
 have fc:f6<=bA.heap.size:=by omega
 refine A0<|⟨⟨(bC).trans (q3).symm,tT⟩,?_⟩
 refine Aq 7 rfl<|CV JQ A3u rfl rfl rfl dH rfl (cz).rowp oE (b0) rfl (λh=>D6 h (PA _ _)) (λac fV b2 cA a6 az=>?_)
 have dM:=dK.grown a6 (λe=>BZ a4 a3 dD _ e rfl)
 have bD:=bC.grown a6 (λe=>by have:=b _ e;omega)
 have dN:=Jj (T:=λk=>True/\(X<k/\(Value.slice p1 L1.length c1).ownBlock≠some k/\(ac).ownBlock≠some k)) dI (λk hk hl=>a6.block k hl (λe=>by have:=b _ e.symm;have:=hk.2.1;omega)) (λk hk hl=>⟨trivial,hk.2.1,hk.2.2,λe=>by rcases az k e with h | h;(have:=b _ h;have:=hk.2.1;omega);omega⟩)
 have bE:=AJ.same bB (λg hg=>a6.block g ((bB).lt g hg).2 (λhx=>by have h1:=b g hx.symm;have h2:=d g hg;omega))
 have dO:=CI aP (Ce a6 (λg hg=>.inl (by have hg:(Value.slice pit its.length cit).ownBlock=some g:=hg;rw [Gc hg];simp)) aP.size)
 have cB:=BA b0 cA.size
 refine A0<|?_
 have cC:=Dr (bD.trans q3.symm) BO
 refine ⟨cC,?_⟩
 refine Aa 8 rfl (.nck rfl) cC ?_
 refine Aa 9 rfl (.fa BW rfl Mi dD rfl) cC ?_
 refine Aq 10 rfl<|CT 44 ((FA ⟨⟨ctm,fi,sk,pe,.slice pvc lc.length cvc,fn,sz⟩,fo,sa,pa,D,E,lo,te,li,ar,ac⟩).toArray) dM Mi (λaQ cD a0 fA=>?_) (h1:=(b2).one)
 have dP:=I4 bE a0 (λg hg e=>by (have:=(bE).lt g hg;omega))
 have fB:=BA cB a0.size
 have dQ:=I4 b2 a0 (λg hg e=>by first | (have:=b g hg;omega) | (subst e;rcases az _ hg with h1 | h1 <;> first | exact BZ a4 a3 dD _ h1 rfl | omega))
 have dR:=JC.same (w1:=aQ) dN (λk hk hl=>a0.other k (by have:=hk.2.1;omega))
 have dS:=bD.up a0
 have bG:=CI dO (by exact Hc a0 (by simp))
 refine A0<|⟨⟨(dS).trans (q3).symm,tT⟩,?_⟩
 refine Bl kR<|BU (BK rfl ?_)
 have b3:=dQ
 have a7:=dP
 have cE:=aP.size
 have fC:=q3.lt
 have f7:w.heap.size<=X:=by omega
 obtain ⟨-,r2,-,r4,r5⟩:=hO.rest bG _ e7
 have hC:Dw (GG bv ⟨⟨ctm,fi,sk,pe,.slice pvc lc.length cvc,fn,sz⟩,fo,sa,pa,D,E,lo,te,li,ar,.slice pit its.length cit⟩ vp) (GG bv ⟨⟨ctm,fi,sk,pe,.slice pvc lc.length cvc,fn,sz⟩,fo,sa,pa,D,E,lo,te,li,ar,ac⟩ vp) w aQ:=CA bG (LP (λg hg=>.inr (.inr (.inr (.inl hg))))) (λg hg=>by
  rcases hg with h1 | h1 | h1 | h1 | h1;exact .inl (.inl h1);exact .inl (.inr (.inl h1));exact .inl (.inr (.inr (.inl h1)));exact (az g h1).imp (λh=>.inr (.inr (.inr (.inl h)))) (λh=>BA cE h);exact .inl (.inr (.inr (.inr (.inr h1)))))
 have b4:∀ g,X<g->(ac).ownBlock≠some g->¬ GG bv ⟨⟨ctm,fi,sk,pe,.slice pvc lc.length cvc,fn,sz⟩,fo,sa,pa,D,E,lo,te,li,ar,ac⟩ vp g:=λg h1 h2 hf=>by
  rcases hf with h | h | h | h | h;have:=(hO.inn g (.inl h)).2;omega;have:=(hO.inn g (.inr (.inl h))).2;omega;have:=(hO.inn g (.inr (.inr (.inl h)))).2;omega;exact h2 h;have:=(hO.inn g (.inr (.inr (.inr (.inr h))))).2;omega
 refine GX _ _ (show FG V _=.ok { V with items:=V.items++[_] } by unfold FG;rw [Al eg];rfl) rfl ⟨rfl,_,⟨_,vp,its++[itC x p1 L1 c1],hs,cs,rfl,⟨cD,r2 dD dD,b3,r4 dD,r5 dD,bd,hO.lbp⟩,?_⟩,hC⟩
 have m:=Eh.mv (c:=fs.c) hC
 have hq:=hR.mv m
 obtain ⟨p2,c2,e2,cF⟩:=Cn.own (Z:=Eh fs.c (GG bv ⟨⟨ctm,fi,sk,pe,.slice pvc lc.length cvc,fn,sz⟩,fo,sa,pa,D,E,lo,te,li,ar,ac⟩ vp) aQ) a7 (λg hg=>⟨(a7.lt g hg).2,b4 g (by have:=(a7.lt g hg).1;omega) (Wh a7 b3 dD g hg),by have:=hR.cx;have:=(a7.lt g hg).1;omega⟩)
 cases e2
 have bc:=((dR).mono (T:=Eh fs.c (GG bv ⟨⟨ctm,fi,sk,pe,.slice pvc lc.length cvc,fn,sz⟩,fo,sa,pa,D,E,lo,te,li,ar,ac⟩ vp) aQ) (λk hk hl=>⟨hl,b4 k hk.2.1 hk.2.2.2,by have:=hR.cx;have:=hk.2.1;omega⟩)).all
 refine { hq with it:=?_,itr:=?_ }
 rw [Bp,hq.it,<- eh];rfl
 intro y hy
 rcases B4.1 hy with hy | hy
 exact hq.itr y hy
 rw [Ao.1 hy]
 exact ⟨hi.path.mv m,cF,bc,hi.pen.mv m,hi.bytes.mv m⟩
 refine Cw (L:=JW) (ps:=_) ([itC x p1 L1 c1]) JQ Uy A1S rfl rfl rfl rfl rfl (by rfl) rfl rfl (λf8 bH aj cG A fD=>?_)
 have fE:=BA aZ A.size
 have bI:=GK bw aj A
 have cH:=BA a' A.size
 have dU:=GK bx aj A
 have dV:=JC.same (w1:=bH) bz (λk hk hl=>A.other k oO)
 have dW:=Bx aj ag.lt
 have bJ:=ag.un A dW
 have dX:=Bx aj ah.lt
 have aR:=ah.un A dX
 have bQ:=DW aj ao.size
 have aT:=CI ao (Ik A bQ)
 have fd:f8<=bH.heap.size:=by omega
 refine A0<|⟨⟨(aR).trans (q3).symm,tT⟩,?_⟩
 refine Aq 4 rfl<|Ai (Af (OM _) rfl bJ rfl)<|A0<|⟨⟨(aR).trans (q3).symm,tT⟩,?_⟩
 refine Aq 7 rfl<|CV JQ A3u rfl rfl rfl dU rfl (cG).rowp oE (cH) rfl (λh=>D6 h (PA _ _)) (λad fW b5 fF a8 aA=>?_)
 have dY:=bJ.grown a8 (λe=>BZ a4 a3 dD _ e rfl)
 have bK:=aR.grown a8 (λe=>by have:=b _ e;omega)
 have dZ:=Jj (T:=λk=>True/\(X<k/\(Value.slice p1 L1.length c1).ownBlock≠some k/\(ad).ownBlock≠some k)) dV (λk hk hl=>a8.block k hl (λe=>by have:=b _ e.symm;have:=hk.2.1;omega)) (λk hk hl=>⟨trivial,hk.2.1,hk.2.2,λe=>by rcases aA k e with h | h;(have:=b _ h;have:=hk.2.1;omega);omega⟩)
 have bL:=AJ.same bI (λg hg=>a8.block g ((bI).lt g hg).2 (λhx=>by have h1:=b g hx.symm;have h2:=d g hg;omega))
 have d':=CI aT (Ce a8 (λg hg=>.inl (by have hg:(Value.slice pit its.length cit).ownBlock=some g:=hg;rw [Gc hg];simp)) aT.size)
 refine A0<|?_
 have cI:=Dr (bK.trans q3.symm) BO
 refine ⟨cI,?_⟩
 refine Aa 8 rfl (.nck rfl) cI ?_
 refine Aa 9 rfl (.fa BW rfl Mi dD rfl) cI ?_
 refine Aq 10 rfl<|CT 44 ((FA ⟨⟨ctm,fi,sk,pe,.slice pvc lc.length cvc,fn,sz⟩,fo,sa,pa,D,E,lo,te,li,ar,ad⟩).toArray) dY Mi (λaU cJ a9 fG=>?_) (h1:=(b5).one)
 have e0:=I4 bL a9 (λg hg e=>by (have:=(bL).lt g hg;omega))
 have e1:=I4 b5 a9 (λg hg e=>by first | (have:=b g hg;omega) | (subst e;rcases aA _ hg with h1 | h1 <;> first | exact BZ a4 a3 dD _ h1 rfl | omega))
 have e3:=JC.same (w1:=aU) dZ (λk hk hl=>a9.other k (by have:=hk.2.1;omega))
 have e4:=bK.up a9
 have bM:=CI d' (by exact Hc a9 (by simp))
 refine A0<|⟨⟨(e4).trans (q3).symm,tT⟩,?_⟩
 refine Bl kR<|BU (BK rfl ?_)
 have b3:=e1
 have a7:=e0
 have cE:=aT.size
 have fC:=q3.lt
 have f7:w.heap.size<=X:=by omega
 obtain ⟨-,r2,-,r4,r5⟩:=hO.rest bM _ e7
 have hC:Dw (GG bv ⟨⟨ctm,fi,sk,pe,.slice pvc lc.length cvc,fn,sz⟩,fo,sa,pa,D,E,lo,te,li,ar,.slice pit its.length cit⟩ vp) (GG bv ⟨⟨ctm,fi,sk,pe,.slice pvc lc.length cvc,fn,sz⟩,fo,sa,pa,D,E,lo,te,li,ar,ad⟩ vp) w aU:=CA bM (LP (λg hg=>.inr (.inr (.inr (.inl hg))))) (λg hg=>by
  rcases hg with h1 | h1 | h1 | h1 | h1;exact .inl (.inl h1);exact .inl (.inr (.inl h1));exact .inl (.inr (.inr (.inl h1)));exact (aA g h1).imp (λh=>.inr (.inr (.inr (.inl h)))) (λh=>BA cE h);exact .inl (.inr (.inr (.inr (.inr h1)))))
 have b4:∀ g,X<g->(ad).ownBlock≠some g->¬ GG bv ⟨⟨ctm,fi,sk,pe,.slice pvc lc.length cvc,fn,sz⟩,fo,sa,pa,D,E,lo,te,li,ar,ad⟩ vp g:=λg h1 h2 hf=>by
  rcases hf with h | h | h | h | h;have:=(hO.inn g (.inl h)).2;omega;have:=(hO.inn g (.inr (.inl h))).2;omega;have:=(hO.inn g (.inr (.inr (.inl h)))).2;omega;exact h2 h;have:=(hO.inn g (.inr (.inr (.inr (.inr h))))).2;omega
 refine GX _ _ (show FG V _=.ok { V with items:=V.items++[_] } by unfold FG;rw [Al eg];rfl) rfl ⟨rfl,_,⟨_,vp,its++[itC x p1 L1 c1],hs,cs,rfl,⟨cJ,r2 dD dD,b3,r4 dD,r5 dD,bd,hO.lbp⟩,?_⟩,hC⟩
 have m:=Eh.mv (c:=fs.c) hC
 have hq:=hR.mv m
 obtain ⟨p2,c2,e2,cF⟩:=Cn.own (Z:=Eh fs.c (GG bv ⟨⟨ctm,fi,sk,pe,.slice pvc lc.length cvc,fn,sz⟩,fo,sa,pa,D,E,lo,te,li,ar,ad⟩ vp) aU) a7 (λg hg=>⟨(a7.lt g hg).2,b4 g (by have:=(a7.lt g hg).1;omega) (Wh a7 b3 dD g hg),by have:=hR.cx;have:=(a7.lt g hg).1;omega⟩)
 cases e2
 have bc:=((e3).mono (T:=Eh fs.c (GG bv ⟨⟨ctm,fi,sk,pe,.slice pvc lc.length cvc,fn,sz⟩,fo,sa,pa,D,E,lo,te,li,ar,ad⟩ vp) aU) (λk hk hl=>⟨hl,b4 k hk.2.1 hk.2.2.2,by have:=hR.cx;have:=hk.2.1;omega⟩)).all
 refine { hq with it:=?_,itr:=?_ }
 rw [Bp,hq.it,<- eh];rfl
 intro y hy
 rcases B4.1 hy with hy | hy
 exact hq.itr y hy
 rw [Ao.1 hy]
 exact ⟨hi.path.mv m,cF,bc,hi.pen.mv m,hi.bytes.mv m⟩
end
end
section
section
variable {P:Program} {n:Sh} {f:Fr}
theorem A89  {Q:Exit->Fr->World->Prop} {rest:List Oper} {d:Option Tmp} {ty:Nat} {F:FuncId} {first cap args:Array Value} {xs:List Operand}
  {ch:List PanicEntry} {S:World->Prop} (hb:Dq P F) (hf:D3 f x=some (.func (.func F) first cap)) (hx:QO f xs=some vs) (ha:first++vs.toArray++cap=args)
  (hc:Calls P F args w λe w'=>e=.panicked ch/\S w') (k:∀ w',S w'->Q (.panic ch) f w') :
  WL P n ops Q (⟨d,.call ⟨.value x,xs.toArray,ats⟩,ty,pos,aft,none⟩::rest) f w:=by
 unfold WL at *
 intro a ha'
 refine wpList_plain rfl λK hK=>?_
 unfold Oper.wp
 rw [TA hb ha'.agr hf hx ha,Oper.upon_enter]
 refine hc.mono ?_
 rintro e w' ⟨rfl,hS⟩
 exact ⟨f,ha',k w' hS⟩
theorem LJ  {Q:Exit->Fr->World->Prop} {rest:List Oper} {ty:Nat} {F:FuncId} {first cap args:Array Value} {xs:List Operand}
 {res:Except Int α} {V:α->Value} {S:α->World->Prop} (hb:Dq P F) (hf:D3 f x=some (.func (.func F) first cap)) (hx:QO f xs=some vs) (ha:first++vs.toArray++cap=args) (hd:Nat.blt d n.n=true)
  (hc:Calls P F args w (Ct E res V S S')) (herr:∀ k w',res=.error k->S' w'->Q (.panic [{ v:=.iface E (Ah k),recovered:=false }]) f w')
  (hok:∀ a w',res=.ok a->S a w'->WL P n ops Q rest ((d,V a)::f) w'):WL P n ops Q (⟨some d,.call ⟨.value x,xs.toArray,ats⟩,ty,pos,aft,none⟩::rest) f w:=by
 cases hres:res with
 | ok a=>exact YP hb hf hx ha hd (hc.mono λe w' h=>by rw [hres] at h;exact h) λw' h=>hok a w' hres h
 | error k=>exact A89 hb hf hx ha (hc.mono λe w' h=>by rw [hres] at h;exact h) λw' h=>herr k w' hres h
end
theorem I7 (b n:Int) (c:Nat) (w:World) (h:Be w c #[Ah b] 3) :
  Calls Tryz.prog 148 #[Ah n,ptV c] w (SF w (GP b n) λx=>Ah x):=by
 refine Av func148 rfl ntmps148 ?_
 have g:=DR w
 refine A5<|Ab rfl<|A5<|A3 rfl<|Ai (Af (BE _) rfl h rfl)<|As (V3 n b _) (λm i=>?_)
 have a:=DN g i
 simp only [KV]
 refine A3 rfl<|A1 (.ext rfl rfl)<|A1 (.ext rfl rfl)<|DA rfl<|Ab rfl<|A5<|A3 rfl<|By BQ rfl rfl ((Lm _ _)) (λk l d e=>?_) (λo l d e=>?_)
 have f:=EU a (Below.mono e a.size)
 exact AE (BB k (by unfold GP;exact Mp d) f)
 have j:=DN a e
 refine A0<|A5<|A3 rfl<|Ab rfl<|AI ?_
 exact Ct.ok _ (by unfold GP;rw [A7 (MZ aS)]) rfl j
theorem XD {b n x:Int} (h:GP b n=.ok x):-2147483648<=x/\x<=2147483647:=by rw [Oa h];exact Ko (L4 _ _)
def Wa (p:DP) (w ph:Int) (q:Option Addr) (l:List Int) (c:Nat):DP:={ p with fWidth:=w,fPhase:=ph,pfDash:=q,fDash:=l,cfDash:=c }
theorem WI:∀ (l:List Int) (a:Int),(∀ x∈l,-2147483648<=x/\x<=2147483647)->a-2147483648 * (l.length:Int)<=l.foldl (· + ·) a/\l.foldl (· + ·) a<=a+2147483647 * (l.length:Int)
 | [],a,_=>by simp
 | x::l,a,h=>by
  have h1:=h x (by simp)
  have h2:=WI l (a+x) λy hy=>h y (List.mem_cons_of_mem _ hy)
  rw [DS,A8]
  omega
theorem A52 {l:List Int} (h:∀ x∈l,-2147483648<=x/\x<=2147483647):-2147483648 * (l.length:Int)<=G6 l/\G6 l<=2147483647 * (l.length:Int):=by
 have:=WI l 0 h
 unfold G6
 omega
def Oe (c:M6) (p:DP):Except Int DP :=
 Lr c>>=λb=>GP b p.fWidth>>=λw=>GP b p.fPhase>>=λph=>HU b p.fDash>>=λd=>.ok (if G6 d=0/\d.length > 0 then FM (Wa p w 0 none [] 0) else FM (Wa p w ph none d 0))
theorem A0y {s:SB} {p:DP} (h:FM p=s.pen):Ia s=Oe s.ctm p:=by
 unfold Ia Oe
 rw [<- h]
 rfl
theorem Vx  {b:Int} {L:List Int} (h:i<L.length) (f:List Int->Except Int α):(HU b (L.drop i)>>=f)=(GP b L[i]>>=λx=>HU b (L.drop (i+1))>>=λd=>f (x::d)):=by
 rw [Ar h]
 show ((GP b L[i]>>=λx=>HU b (L.drop (i+1))>>=λl=>pure (x::l))>>=f)=_
 cases GP b L[i] with
 | error k=>rfl
 | ok x =>
  show ((HU b (L.drop (i+1))>>=λl=>pure (x::l))>>=f)=(HU b (L.drop (i+1))>>=λd=>f (x::d))
  cases HU b (L.drop (i+1)) <;> rfl
section
variable {w:World} {bv:Nat}
theorem A07 {H:QA} {p:DP} (hbk:Be w bv (FA H).toArray 74) (hp:H.s.pen=p) (hpr:YV Z w p) (hl:p.fDash.length<=11) :
    Calls Tryz.prog 115 #[ptV bv] w (HO 30 (Oe H.s.ctm p) (λq v w'=>∃ q':DP,v=.agg (Ex q').toArray/\FM q'=q/\YV (λg=>w.heap.size<=g/\g<w'.heap.size) w' q'/\AD w w') (λw'=>AD w w')):=by
  obtain ⟨⟨ctm,fi,sk,pe,clv,fn,sz⟩,fo,sa,pa,gL,gM,lo,te,li,ar,itv⟩:=H;simp only at hp ⊢;subst hp;obtain ⟨pw,pca,pj,pm,pd,L,pcd,pph⟩:=pe;have an:=hpr.row;have bJ:=an.lt;simp only at hl an bJ;obtain ⟨R,hD⟩:∃ R,Oe ctm ⟨pw,pca,pj,pm,pd,L,pcd,pph⟩=R:=⟨_,rfl⟩;rw [hD];unfold Oe at hD;simp only at hD;refine Av func115 rfl ntmps115 ?_;have fq:=DR w;refine A5<|C1 zeroValue41 rfl (λb1 gN bK em b8 ge=>?_);have fr:=Bx bK hbk.lt;have eh:=hbk.un b8 fr;have en:=λa=>bK▸an.lt a
  have ei:=Bi.upd an b8 (λa=>IU (en a));have fs:=uB fq bK b8;refine A0<|A5<|A3 rfl<|A1 (.nck rfl)<|A1 (.fa BW rfl EL dD rfl)<|A1 (.fa Fv rfl HD dD rfl)<|Ai (Cx (L:=Xt) DM rfl CY eh (ctm) (rfl) rfl)<|As (A14 ctm _) (λw7 bf=>?_);have ej:=eh.bl bf;have ek:=em.bl bf;have bL:=Is ei bf (λa=>ei.lt a);have eo:=DN fs bf;simp only [KV];refine A3 rfl<|A1 (.ext rfl rfl)<|A1 (.ext rfl rfl)<|C1 PM rfl (λm gf aH cq af g3=>?_);have ep:=Bx aH ej.lt;have eq:=ej.un af ep;have er:=Bx aH ek.lt;have es:=ek.un af er;have bg:=λa=>aH▸bL.lt a
  have et:=Bi.upd bL af (λa=>IU (bg a));have eu:=uB eo aH af;refine D1 cq B6 (λgO cr ag g4=>?_);have ev:=eq.up ag;have ew:=es.up ag;have bM:=Bi.upd et ag (λa=>IU (bg a));have b9:=CP eu oO ag;refine Ab rfl<|A5<|A3 rfl<|By BQ rfl rfl ((Lm _ _)) (λel ft aI a6=>?_) (λgP ft aI a6=>?_);have bN:=EU b9 (Below.mono a6 b9.size);exact AE (DG el (by rw [<- hD];exact AF (show Lr ctm=.error el by unfold Lr;exact Mp aI)) bN);have ex:=ev.bl a6;have bO:=ew.bl a6;have bP:=cr.bl a6;have ey:=Is bM a6 (λa=>bM.lt a);have ez:=DN b9 a6;rw [AQ (show Lr ctm=.ok (IH ctm).1 by unfold Lr;rw [A7 (MZ aI)])] at hD
  generalize (IH ctm).1=by_ at *;refine A0<|A5<|A1 (.mkFv rfl)<|Ab rfl<|A5<|A3 rfl<|A1 (.nck rfl)<|A1 (.fa BW rfl EL dD rfl)<|A1 (.fa Fv rfl Nd dD rfl)<|Ai (Cx (L:=Wb) D7 rfl Im ex (⟨pw,pca,pj,pm,pd,L,pcd,pph⟩) (rfl) rfl)<|C1 zeroValue41 rfl (λa8 gg aJ ct aK g5=>?_);have eA:=Bx aJ bO.lt;have eB:=bO.un aK eA;have eC:=Bx aJ bP.lt;have eD:=bP.un aK eC;have aL:=λa=>aJ▸ey.lt a
  have eF:=uB ez aJ aK;refine AH rfl rfl ct Im rfl rfl (λgQ cu aM g6=>?_);have eG:=eB.up aM;have eH:=eD.up aM;have eI:=CP eF oO aM;refine A0<|De (α:=Int × Int) (λt=>[(0,ptV bv),(2,ptV b1),(5,.func (.func 148) #[] #[ptV m]),(6,ptV a8)]) (λt w'=>AD w w'/\Be w' b1 (Ex K9).toArray 41/\Be w' m #[Ah by_] 3/\Be w' a8 (Ex ⟨t.1,pca,pj,pm,none,[],0,t.2⟩).toArray 41/\(HU by_ L>>=λd=>.ok (if G6 d=0/\d.length > 0 then FM (Wa ⟨pw,pca,pj,pm,pd,L,pcd,pph⟩ t.1 0 none [] 0) else FM (Wa ⟨pw,pca,pj,pm,pd,L,pcd,pph⟩ t.1 t.2 none d 0)))=R) ?_ (λt w1 hR=>?_);refine DD 14 rfl Ci (λw'=>True/\True) (λgR aN=>?_);have ba:=eG.drew aN;have ab:=eH.drew aN;have a7:=cu.drew aN;have G:=Df.below eI aN;refine Aa 0 rfl (.mv rfl) tU ?_;refine Aa 1 rfl (.fa D7 rfl B6 dD rfl) tU ?_;refine Aa 4 rfl (.mv rfl) tU ?_;refine Aa 5 rfl (.fa D7 rfl B6 dD rfl) tU ?_;refine Ef 2 rfl 6 rfl ?_ ?_;refine Ai (Af (BE _) rfl a7 rfl)<|A0<|⟨tU,?_⟩;refine Ef 3 rfl 6 rfl ?_ ?_;refine LJ BQ rfl rfl rfl rfl ((I7 by_ pw m _ ab)) (λfu fv aO ac=>?_) (λfw fv aO ac=>?_);have bQ:=EU G (Below.mono ac G.size);exact AE (DG fu (by rw [<- hD];exact AF aO) bQ);have eJ:=ba.bl ac;have bR:=ab.bl ac;have bS:=a7.bl ac;have bb:=DN G ac;obtain ⟨f,rfl⟩:=eX fw;rw [AQ aO] at hD;refine A0<|⟨tU,?_⟩;refine Aq 6 rfl<|Ai (Af (BE _) rfl bS rfl)<|A0<|⟨tU,?_⟩;refine Aa 8 rfl (.fa D7 rfl B6 dD rfl) tU ?_;refine Aq 7 rfl<|LJ BQ rfl rfl rfl rfl ((I7 by_ pph m _ bR)) (λfx fy aP ad=>?_) (λfz fy aP ad=>?_);have bT:=EU bb (Below.mono ad bb.size);exact AE (DG fx (by rw [<- hD];exact AF aP) bT);have eK:=eJ.bl ad;have eL:=bR.bl ad;have eM:=bS.bl ad;have eN:=DN bb ad;obtain ⟨c,rfl⟩:=eX fz;rw [AQ aP] at hD;refine A0<|⟨tU,?_⟩;refine Aq 9 rfl<|CT 0 ((Ex ⟨f,pca,pj,pm,pd,L,pcd,pph⟩).toArray) eM B6 (λgS cw aQ g7=>?_)
  have eO:=eK.up aQ;have eP:=eL.up aQ;have eQ:=CP eN oO aQ;refine A0<|⟨tU,?_⟩;refine Aa 10 rfl (.fa D7 rfl B6 dD rfl) tU ?_;refine Aq 11 rfl<|CT 5 ((Ex ⟨f,pca,pj,pm,pd,L,pcd,c⟩).toArray) cw B6 (λgT cy aR g8=>?_);have eR:=eO.up aR;have eS:=eP.up aR;have eT:=CP eQ oO aR;refine A0<|⟨tU,?_⟩;refine Aa 12 rfl (.fa D7 rfl HX dD rfl) tU ?_;refine Aq 13 rfl<|CT 4 ((Ex ⟨f,pca,pj,pm,none,[],0,c⟩).toArray) cy HX (λgU cz aT g9=>?_);have eU:=eR.up aT;have eV:=eS.up aT;have eW:=CP eT oO aT;refine A0<|⟨tU,?_⟩;refine Bl kR ?_;exact ⟨(f,c),⟨rfl,rfl,rfl,rfl,tT⟩,eW,eU,eV,cz,hD⟩;refine Ai (Af (BE _) rfl a7 rfl)<|A0<|⟨tU,?_⟩;refine Aq 3 rfl<|LJ BQ rfl rfl rfl rfl ((I7 by_ pw m _ ab)) (λfA fB aU ae=>?_) (λfC fB aU ae=>?_);have bU:=EU G (Below.mono ae G.size);exact AE (DG fA (by rw [<- hD];exact AF aU) bU);have eY:=ba.bl ae;have bV:=ab.bl ae;have eZ:=a7.bl ae;have aV:=DN G ae;obtain ⟨f,rfl⟩:=eX fC;rw [AQ aU] at hD;refine A0<|⟨tU,?_⟩;refine Aa 8 rfl (.fa D7 rfl B6 dD rfl) tU ?_;refine Aq 7 rfl<|LJ BQ rfl rfl rfl rfl ((I7 by_ pph m _ bV)) (λe' f0 ao a0=>?_) (λf1 f0 ao a0=>?_);have bD:=EU aV (Below.mono a0 aV.size);exact AE (DG e' (by rw [<- hD];exact AF ao) bD);have cA:=eY.bl a0;have cB:=bV.bl a0;have cC:=eZ.bl a0;have cD:=DN aV a0;obtain ⟨c,rfl⟩:=eX f1;rw [AQ ao] at hD;refine A0<|⟨tU,?_⟩;refine Aq 9 rfl<|CT 0 ((Ex ⟨f,pca,pj,pm,pd,L,pcd,pph⟩).toArray) cC B6 (λgh bW ap fD=>?_);have cE:=cA.up ap;have cF:=cB.up ap;have cG:=CP cD oO ap;refine A0<|⟨tU,?_⟩;refine Aa 10 rfl (.fa D7 rfl B6 dD rfl) tU ?_;refine Aq 11 rfl<|CT 5 ((Ex ⟨f,pca,pj,pm,pd,L,pcd,c⟩).toArray) bW B6 (λgi bX aq fE=>?_);have cH:=cE.up aq;have cI:=cF.up aq;have cJ:=CP cG oO aq;refine A0<|⟨tU,?_⟩;refine Aa 12 rfl (.fa D7 rfl HX dD rfl) tU ?_
  refine Aq 13 rfl<|CT 4 ((Ex ⟨f,pca,pj,pm,none,[],0,c⟩).toArray) bX HX (λgj bY au fF=>?_);have cK:=cH.up au;have cL:=cI.up au;have cM:=CP cJ oO au;refine A0<|⟨tU,?_⟩;refine Bl kR ?_;exact ⟨(f,c),⟨rfl,rfl,rfl,rfl,tT⟩,cM,cK,cL,bY,hD⟩;refine Ai (Af (BE _) rfl a7 rfl)<|A0<|⟨tU,?_⟩;refine Aq 2 rfl<|Ai (Af (BE _) rfl a7 rfl)<|A0<|⟨tU,?_⟩;refine Aq 3 rfl<|LJ BQ rfl rfl rfl rfl ((I7 by_ pw m _ ab)) (λf2 f3 av a1=>?_) (λf4 f3 av a1=>?_);have bE:=EU G (Below.mono a1 G.size);exact AE (DG f2 (by rw [<- hD];exact AF av) bE);have cN:=ba.bl a1;have bh:=ab.bl a1;have cO:=a7.bl a1;have aW:=DN G a1;obtain ⟨f,rfl⟩:=eX f4;rw [AQ av] at hD;refine A0<|⟨tU,?_⟩;refine Aa 8 rfl (.fa D7 rfl B6 dD rfl) tU ?_;refine Aq 7 rfl<|LJ BQ rfl rfl rfl rfl ((I7 by_ pph m _ bh)) (λf5 f6 aw a2=>?_) (λf7 f6 aw a2=>?_);have bG:=EU aW (Below.mono a2 aW.size);exact AE (DG f5 (by rw [<- hD];exact AF aw) bG);have cP:=cN.bl a2;have cQ:=bh.bl a2;have cR:=cO.bl a2;have cS:=DN aW a2;obtain ⟨c,rfl⟩:=eX f7;rw [AQ aw] at hD;refine A0<|⟨tU,?_⟩;refine Aq 9 rfl<|CT 0 ((Ex ⟨f,pca,pj,pm,pd,L,pcd,pph⟩).toArray) cR B6 (λgk bZ ax fG=>?_);have cT:=cP.up ax;have cU:=cQ.up ax;have cV:=CP cS oO ax;refine A0<|⟨tU,?_⟩;refine Aa 10 rfl (.fa D7 rfl B6 dD rfl) tU ?_;refine Aq 11 rfl<|CT 5 ((Ex ⟨f,pca,pj,pm,pd,L,pcd,c⟩).toArray) bZ B6 (λgl b' ay fH=>?_);have cW:=cT.up ay;have cX:=cU.up ay;have cY:=CP cV oO ay;refine A0<|⟨tU,?_⟩;refine Aa 12 rfl (.fa D7 rfl HX dD rfl) tU ?_;refine Aq 13 rfl<|CT 4 ((Ex ⟨f,pca,pj,pm,none,[],0,c⟩).toArray) b' HX (λgm c0 az fI=>?_);have cZ:=cW.up az;have c':=cX.up az;have d0:=CP cY oO az;refine A0<|⟨tU,?_⟩;refine Bl kR ?_;exact ⟨(f,c),⟨rfl,rfl,rfl,rfl,tT⟩,d0,cZ,c',c0,hD⟩
  obtain ⟨⟨f,c⟩,aZ⟩:=eX t;subst aZ;obtain ⟨j1,j2,j3,j4,hD⟩:=hR;simp only at j4 hD;have fJ:=an.below j1 bJ;have f8:=hbk.below j1 hbk.lt;refine Aj ?_;obtain ⟨fin,c3⟩:∃ fin:List Int->Except Int DP,fin=λd=>.ok (if G6 d=0/\d.length > 0 then FM (Wa ⟨pw,pca,pj,pm,pd,L,pcd,pph⟩ f 0 none [] 0) else FM (Wa ⟨pw,pca,pj,pm,pd,L,pcd,pph⟩ f c none d 0)):=⟨_,rfl⟩
  rw [<- c3] at hD;have go:=j2.lt;refine Ak<|Ab rfl<|Aj<|A5<|A3 rfl<|A1 (.nck rfl)<|A1 (.fa BW rfl EL dD rfl)<|A1 (.fa Fv rfl Nd dD rfl)<|A1 (.fa D7 rfl HX dD rfl)<|Ai (Af (L8 _) rfl f8 rfl)<|A1 (.lenS Dm rfl)<|A3 rfl<|A0<|AU<|Cf (α:=Option Addr × List Int × Nat × Nat) (λt=>[(0,ptV bv),(2,ptV b1),(5,.func (.func 148) #[] #[ptV m]),(6,ptV a8),(7,Ah (G6 t.2.1)),(43,.slice pd L.length pcd),(44,Ah (L.length:Int)),(45,Ah (t.2.2.2:Int))]) (λt w'=>AD w w'/\Be w' b1 (Ex K9).toArray 41/\Be w' m #[Ah by_] 3/\Be w' a8 (Ex ⟨f,pca,pj,pm,t.1,t.2.1,t.2.2.1,c⟩).toArray 41/\AJ QM 3 (a8+1) w' (.slice t.1 t.2.1.length t.2.2.1) t.2.1/\Bi QM w' pd L/\t.2.2.2<=L.length/\t.2.1.length=t.2.2.2/\(∀ x∈t.2.1,-2147483648<=x/\x<=2147483647)/\(HU by_ (L.drop t.2.2.2)>>=λd=>fin (t.2.1++d))=R) (λt=>L.length-t.2.2.2) ((none,[],0,0)) ⟨rfl,rfl,rfl,rfl,rfl,rfl,rfl,rfl,tT⟩ (⟨j1,j2,j3,j4,AJ.nil _ _ _ _,fJ,G8 _,rfl,(λx hx=>by cases hx),hD⟩) (λt w1 hR=>?_);obtain ⟨⟨p1,L1,c1,i⟩,aZ⟩:=eX t;subst aZ;obtain ⟨q1,q2,q3,q4,q5,q6,q7,q8,q9,bi⟩:=hR;simp only at q4 q5 q7 q8 q9 bi;have f9:=q4.lt;have gp:=q5.lt;have gV:=A52 q9;have bc:0<L.length->(pA pd).block<a8+1:=λa=>by have:=bJ a;omega
  refine A5<|A1 (.lss rfl rfl)<|A0<|Aj<|Ae rfl (λbd=>?_) (λbd=>?_)
  · have d1 := dT bd
    have c4:i<L.length:=by (simp only at *;omega)
    have bj:=(Vx (b:=by_) c4 (λd=>fin (L1++d))).symm.trans bi;refine Ap<|Aj<|AU<|A5<|A1 (.ixm Dm B6 rfl rfl (q6.isp oO) (i) (rfl) oO)<|Ai (AS (BE _) rfl ((q6.field (i) oO 0 dD).trans rfl))<|Ab rfl<|De (α:=Option Addr × Int × Nat) (λt=>[(2,ptV b1),(0,ptV bv),(5,.func (.func 148) #[] #[ptV m]),(6,ptV a8),(7,Ah (G6 L1)),(9,Ah L[i]),(43,.slice pd L.length pcd),(44,Ah (L.length:Int)),(45,Ah (i:Int))]) (λt w'=>AD w w'/\Be w' b1 (Ex K9).toArray 41/\Be w' m #[Ah by_] 3/\Be w' a8 (Ex ⟨f,pca,pj,pm,t.1,L1++[t.2.1],t.2.2,c⟩).toArray 41/\AJ QM 3 (a8+1) w' (.slice t.1 (L1++[t.2.1]).length t.2.2) (L1++[t.2.1])/\Bi QM w' pd L/\GP by_ L[i]=.ok t.2.1) ?_ (λt w1 hR=>?_);refine DD 9 rfl Ci (λw'=>True/\True) (λgq J=>?_);have a':=Df.le f9 J;have bk:=AJ.drew q5 J;have bm:=q2.drew J;have ah:=q3.drew J;have aX:=q4.drew J;have ai:=q6.drew J;have a3:=Df.below q1 J;refine Aa 0 rfl (.fa D7 rfl HX dD rfl) tU ?_;refine Aa 2 rfl (.mv rfl) tU ?_;refine Aa 3 rfl (.mv rfl) tU ?_;refine Ef 1 rfl 4 rfl ?_ ?_;refine Ai (Af (L8 _) rfl aX rfl)<|A0<|⟨tU,?_⟩;refine Aq 4 rfl<|LJ BQ rfl rfl rfl rfl ((I7 by_ L[i] m _ ah)) (λfb fc aA j=>?_) (λfd fc aA j=>?_);have bH:=EU a3 (Below.mono j a3.size);exact AE (DG fb (by rw [<- bj];exact AF aA) bH);have c5:=BA a' j.size;have d2:=AJ.below bk j;have bn:=bm.bl j;have bo:=ah.bl j;have bp:=aX.bl j;have bq:=Is ai j (λa=>ai.lt a);have d3:=DN a3 j;obtain ⟨x1,rfl⟩:=eX fd;have bt:=aA;refine A0<|⟨tU,?_⟩;refine Aq 5 rfl<|CF (ps:=_) Dm B6 PM rfl rfl rfl rfl rfl pR rfl (λgr ga a4 c6 o fK=>?_);have c7:=BA c5 o.size;have d4:=GK d2 a4 o;have d5:=Bx a4 bn.lt;have d6:=bn.un o d5;have d7:=Bx a4 bo.lt;have d8:=bo.un o d7;have d9:=Bx a4 bp.lt
    have da:=bp.un o d9;have c8:=λa=>a4▸bq.lt a
    have db:=Bi.upd bq o (λa=>IU (c8 a));have dc:=uB d3 a4 o;have b0:=Bi.lit (V:=QM) (l:=[x1]) c6 rfl;refine A0<|⟨tU,?_⟩;refine Aq 6 rfl<|CV Dm Wy rfl rfl rfl d4 rfl b0 oE (c7) rfl (λh=>D6 h (PA _ _)) (λgs gt aB P fL fM=>?_);have dd:=d6.below P oO;have de:=d8.below P oO;have df:=da.below P oO;have dg:=Is db P bc;have dh:=EU dc (P.mono (oO));obtain ⟨pv,cv,evv,-⟩:=(aB).row;subst evv;refine A0<|⟨tU,?_⟩;refine Aa 7 rfl (.fa D7 rfl HX dD rfl) tU ?_;refine Aq 8 rfl<|CT 4 ((Ex ⟨f,pca,pj,pm,pv,L1++[x1],cv,c⟩).toArray) df HX (λgv c9 Q fN=>?_);have di:=I4 aB Q (λg hg e=>by have:=(aB).lt g hg;omega);have dj:=dd.up Q;have dk:=de.up Q;have dl:=Bi.upd dg Q (λa=>IU (aL a));have dm:=CP dh oO Q;refine A0<|⟨tU,?_⟩;refine Bl kR ?_;exact ⟨(pv,x1,cv),⟨rfl,rfl,rfl,rfl,rfl,rfl,rfl,rfl,rfl,tT⟩,dm,dj,dk,c9,di,dl,bt⟩;refine LJ BQ rfl rfl rfl rfl ((I7 by_ L[i] m _ ah)) (λfe ff aC k=>?_) (λfg ff aC k=>?_);have bI:=EU a3 (Below.mono k a3.size);exact AE (DG fe (by rw [<- bj];exact AF aC) bI);have b2:=BA a' k.size;have bu:=AJ.below bk k;have aj:=bm.bl k;have ak:=ah.bl k;have a9:=aX.bl k;have am:=Is ai k (λa=>ai.lt a);have aY:=DN a3 k;obtain ⟨x1,rfl⟩:=eX fg;have bt:=aC;refine A0<|⟨tU,?_⟩;refine Ef 1 rfl 5 rfl ?_ ?_;refine Ai (Af (L8 _) rfl a9 rfl)<|A0<|⟨tU,?_⟩;refine Aq 5 rfl<|CF (ps:=_) Dm B6 PM rfl rfl rfl rfl rfl pR rfl (λgw gb a5 ca u fO=>?_);have cb:=BA b2 u.size;have dn:=GK bu a5 u;have dp:=Bx a5 aj.lt;have dq:=aj.un u dp;have dr:=Bx a5 ak.lt;have ds:=ak.un u dr;have dt:=Bx a5 a9.lt;have du:=a9.un u dt;have cc:=λa=>a5▸am.lt a
    have dv:=Bi.upd am u (λa=>IU (cc a));have dw:=uB aY a5 u;have b0:=Bi.lit (V:=QM) (l:=[x1]) ca rfl;refine A0<|⟨tU,?_⟩;refine Aq 6 rfl<|CV Dm Wy rfl rfl rfl dn rfl b0 oE (cb) rfl (λh=>D6 h (PA _ _)) (λgx gz aD T fP fQ=>?_);have dx:=dq.below T oO;have dy:=ds.below T oO;have dz:=du.below T oO;have dA:=Is dv T bc;have dB:=EU dw (T.mono (oO));obtain ⟨pv,cv,evv,-⟩:=(aD).row;subst evv;refine A0<|⟨tU,?_⟩;refine Aa 7 rfl (.fa D7 rfl HX dD rfl) tU ?_;refine Aq 8 rfl<|CT 4 ((Ex ⟨f,pca,pj,pm,pv,L1++[x1],cv,c⟩).toArray) dz HX (λgA cd U fR=>?_);have dC:=I4 aD U (λg hg e=>by have:=(aD).lt g hg;omega);have dE:=dx.up U;have dG:=dy.up U;have dH:=Bi.upd dA U (λa=>IU (aL a));have dI:=CP dB oO U;refine A0<|⟨tU,?_⟩;refine Bl kR ?_;exact ⟨(pv,x1,cv),⟨rfl,rfl,rfl,rfl,rfl,rfl,rfl,rfl,rfl,tT⟩,dI,dE,dG,cd,dC,dH,bt⟩;refine CF (ps:=_) Dm B6 PM rfl rfl rfl rfl rfl pR rfl (λgC gc K cf A fS=>?_);have b3:=BA b2 A.size;have dJ:=GK bu K A;have dK:=Bx K aj.lt;have dL:=aj.un A dK;have dM:=Bx K ak.lt;have dN:=ak.un A dM;have dO:=Bx K a9.lt;have bw:=a9.un A dO;have cg:=λa=>K▸am.lt a
    have dP:=Bi.upd am A (λa=>IU (cg a));have dQ:=uB aY K A;have fp:=DW K aY.size;have b0:=Bi.lit (V:=QM) (l:=[x1]) cf rfl;refine A0<|⟨tU,?_⟩;refine Aq 1 rfl<|Ai (Af (L8 _) rfl bw rfl)<|A0<|⟨tU,?_⟩;refine Aq 6 rfl<|CV Dm Wy rfl rfl rfl dJ rfl b0 oE (b3) rfl (λh=>D6 h (PA _ _)) (λgD gE aE E fT fU=>?_);have dR:=dL.below E oO;have dS:=dN.below E oO;have dU:=bw.below E oO;have dV:=Is dP E bc;have dW:=EU dQ (E.mono (oO));have ci:=BA b3 E.size;obtain ⟨pv,cv,evv,-⟩:=(aE).row;subst evv;refine A0<|⟨tU,?_⟩;refine Aa 7 rfl (.fa D7 rfl HX dD rfl) tU ?_;refine Aq 8 rfl<|CT 4 ((Ex ⟨f,pca,pj,pm,pv,L1++[x1],cv,c⟩).toArray) dU HX (λgF cj F fV=>?_);have fW:=BA ci F.size;have dX:=I4 aE F (λg hg e=>by have:=(aE).lt g hg;omega);have dY:=dR.up F;have dZ:=dS.up F;have d':=Bi.upd dV F (λa=>IU (aL a));have e0:=CP dW oO F;refine A0<|⟨tU,?_⟩;refine Bl kR ?_;exact ⟨(pv,x1,cv),⟨rfl,rfl,rfl,rfl,rfl,rfl,rfl,rfl,rfl,tT⟩,e0,dY,dZ,cj,dX,d',bt⟩;obtain ⟨⟨pv,x1,cv⟩,aZ⟩:=eX t;subst aZ;obtain ⟨n1,n2,n3,n4,n5,n6,n7⟩:=hR;simp only at n4 n5 n7;rw [AQ n7] at bj;have fh:=n4.lt;have gG:=n5.lt;have fX:=XD n7;refine Ak<|A3 rfl<|A3 rfl<|A3 rfl<|LJ BQ rfl rfl rfl rfl ((I7 by_ L[i] m _ n3)) (λgH fj aa D=>?_) (λgI fj aa D=>?_);rw [n7] at aa;cases aa;have fY:=BA fh D.size;have e1:=AJ.below n5 D;have e3:=n2.bl D;have e4:=n3.bl D;have e5:=n4.bl D;have e6:=Is n6 D (λa=>n6.lt a);have e7:=DN n1 D;obtain rfl:=Except.ok.inj (n7.symm.trans aa);refine A1 (.iis (G6 (L1++[x1])) (.add rfl rfl (Bn (by (try simp only) <;> omega))) (by rw [Pc]))<|Ab rfl<|Ak<|A1 (.iis (((i+1:Nat):Int)) (.add rfl rfl (Bn (by (try simp only) <;> omega))) oM)<|A3 rfl<|A0<|?_;exact ⟨(pv,L1++[x1],cv,i+1),⟨rfl,rfl,rfl,rfl,rfl,rfl,rfl,rfl,tT⟩,⟨e7,e3,e4,e5,e1,e6,oM,by rw [A9,q8];rfl,λy hy=>(B4.1 hy).elim (q9 y) (λh=>by rw [Ao.1 h];exact fX),by rw [<- bj];simp only [AB,List.singleton_append]⟩,oM⟩
  have d1:=dF bd;have c4:i=L.length:=by (simp only at *;omega)
  rw [c4,Fl] at bi;have B:fin L1=R:=by rw [<- bi];show _=fin (L1++[]);rw [Bv]
  have B:(.ok (if G6 L1=0/\L1.length > 0 then FM (Wa ⟨pw,pca,pj,pm,pd,L,pcd,pph⟩ f 0 none [] 0) else FM (Wa ⟨pw,pca,pj,pm,pd,L,pcd,pph⟩ f c none L1 0)):Except Int DP)=R:=by rw [c3] at B;exact B
  refine C7<|Aj<|A5<|A3 rfl<|A1 (.eql rfl rfl)<|A3 rfl<|B5 rfl rfl rfl (λC=>?_) (λC=>?_)
  · have e8 := dT C
    refine A1 (.fa D7 rfl HX dD rfl)<|Au C<|Ai (Af (L8 _) rfl q4 rfl)<|Au C<|A1 (.lenS Dm rfl)<|Au C<|A1 (.bis (decide (L1.length > 0)) (.gtr rfl rfl) (by exact DX.2 (by (simp only;omega))))<|A1 (.pkT rfl C rfl)<|A0<|Ae rfl (λbe=>?_) (λbe=>?_)
    · have e9 := dT be
      refine Ak<|A1 (.fa D7 rfl HX dD rfl)<|CT 4 ((Ex ⟨f,pca,pj,pm,none,[],0,c⟩).toArray) q4 HX (λgJ ck aF fZ=>?_);have bx:=I4 q5 aF (λg hg e=>by have:=(q5).lt g hg;omega);have ea:=q2.upd aF oM;have eb:=CP q1 oO aF;refine A1 (.fa D7 rfl B6 dD rfl)<|CT 5 ((Ex ⟨f,pca,pj,pm,none,[],0,0⟩).toArray) ck B6 (λgK cl aG f'=>?_);have bz:=I4 bx aG (λg hg e=>by have:=(bx).lt g hg;omega);have ec:=ea.up aG;have ed:=CP eb oO aG;refine A0<|A5<|Ai (BD rfl cl D7 rfl Im)<|AH rfl rfl ec Im rfl rfl (λfk cm b4 g0=>?_);have ee:=I4 bz b4 (λg hg e=>by have:=(bz).lt g hg;omega);have bA:=CP ed oO b4;refine A0<|B2 (Ch rfl rfl (BF cm D7 rfl Im)  ?_);have X:=ee;obtain ⟨p2,c2,e2,b5⟩:=Cn.own (Z:=λg=>w.heap.size<=g/\g<fk.heap.size) X (λg hg=>⟨by have:=(X.lt g hg).1;omega,(X.lt g hg).2⟩);cases e2
      first
        | (rw [A7 ⟨aS, by (have hh : decide (L1.length > 0) = true := by assumption); exact dT hh⟩] at B
           exact GX _ _ B.symm rfl ⟨_,rfl,rfl,Cn.nil _ _ _,bA⟩)
        | (rw [A2 (fun hc => by (have h1 := hc.1; have h2 := hc.2; simp_all; done))] at B
           exact GX _ _ B.symm rfl ⟨⟨f,pca,pj,pm,p1,L1,c1,c⟩,rfl,rfl,b5,bA⟩)
    have e9:=dF be;refine Ap<|A5<|Ai (BD rfl q4 D7 rfl Im)<|AH rfl rfl q2 Im rfl rfl (λfl cn b6 g1=>?_);have ef:=I4 q5 b6 (λg hg e=>by have:=(q5).lt g hg;omega);have bB:=CP q1 oO b6;refine A0<|B2 (Ch rfl rfl (BF cn D7 rfl Im)  ?_);have X:=ef;obtain ⟨p2,c2,e2,b5⟩:=Cn.own (Z:=λg=>w.heap.size<=g/\g<fl.heap.size) X (λg hg=>⟨by have:=(X.lt g hg).1;omega,(X.lt g hg).2⟩);cases e2
    first
      | (rw [A7 ⟨aS, by (have hh : decide (L1.length > 0) = true := by assumption); exact dT hh⟩] at B
         exact GX _ _ B.symm rfl ⟨_,rfl,rfl,Cn.nil _ _ _,bB⟩)
      | (rw [A2 (fun hc => by (have h1 := hc.1; have h2 := hc.2; simp_all; done))] at B
         exact GX _ _ B.symm rfl ⟨⟨f,pca,pj,pm,p1,L1,c1,c⟩,rfl,rfl,b5,bB⟩)
  have e8:=dF C;refine Ac C<|Ac C<|Ac C<|A1 (.pkF rfl C rfl)<|A0<|E4 rfl rfl<|Ap<|A5<|Ai (BD rfl q4 D7 rfl Im)<|AH rfl rfl q2 Im rfl rfl (λfm co b7 g2=>?_);have eg:=I4 q5 b7 (λg hg e=>by have:=(q5).lt g hg;omega);have bC:=CP q1 oO b7;refine A0<|B2 (Ch rfl rfl (BF co D7 rfl Im)  ?_);have X:=eg;obtain ⟨p2,c2,e2,b5⟩:=Cn.own (Z:=λg=>w.heap.size<=g/\g<fm.heap.size) X (λg hg=>⟨by have:=(X.lt g hg).1;omega,(X.lt g hg).2⟩);cases e2
  first
    | (rw [A7 ⟨aS, by (have hh : decide (L1.length > 0) = true := by assumption); exact dT hh⟩] at B
       exact GX _ _ B.symm rfl ⟨_,rfl,rfl,Cn.nil _ _ _,bC⟩)
    | (rw [A2 (fun hc => by (have h1 := hc.1; have h2 := hc.2; simp_all; done))] at B
       exact GX _ _ B.symm rfl ⟨⟨f,pca,pj,pm,p1,L1,c1,c⟩,rfl,rfl,b5,bC⟩)
end
end
section
theorem Vg  {F:Nat->Prop} {w0:World} (hN:w0.heap.size=N) (h:∀ k,k<N->w.heap[k]?=w0.heap[k]?):Mv (Eh c F w0) (Eh c F w) w0 w:=by
 subst hN
 have hs:w0.heap.size<=w.heap.size:=Jh.size (Q:=λ_=>True) ⟨w0,rfl,trivial,h⟩
 exact ⟨hs,λg hg=>⟨h g hg.1,C6 hg.1 hs,hg.2⟩⟩
theorem Eu  {L:Fq α} {F:Nat->Prop} {l:List α} (h:Jh N (λw=>Cn L (Eh c F w) w p l cp) w):Cn L (Eh c F w) w p l cp:=by
 obtain ⟨e,a,b,d⟩:=h
 exact b.mv (Vg a d)
theorem Ve  {F:Nat->Prop} {h:StH} {s:SB} (q:Jh N (λw=>Xj (Eh c F w) w h s) w):Xj (Eh c F w) w h s:=by
 obtain ⟨e,a,b,d⟩:=q
 exact b.mv (Vg a d)
theorem Cn.mono  {L:Fq α} {Z1:Nat->Prop} {l:List α} (h:Cn L Z w p l c) (hz:∀ g,Z g->Z1 g):Cn L Z1 w p l c:=⟨h.row,h.sl,λh0=>hz _ (h.inn h0)⟩
theorem A5k {p:DP} (h:KT p=true):p.fDash.length<=11:=by
 unfold KT KS at h
 simp only [A4,AP,Ee,Aw] at h
 omega
theorem Ny  {H:QA} {s:SB} (hbk:Be w bv (FA H).toArray 74) (hs:Xj Z w H.s s) (hp:KT s.pen=true) :
  Calls Tryz.prog 115 #[ptV bv] w (HO 30 (Ia s) (λq v w'=>AD w w'/\∃ q':DP,v=.agg (Ex q').toArray/\FM q'=q/\YV (λg=>w.heap.size<=g/\g<w'.heap.size) w' q') (λw'=>AD w w')):=by
 have hl:H.s.pen.fDash.length<=11:=by have:=A5k hp;rw [<- hs.pen] at this;exact this
 rw [A0y hs.pen,<- hs.ctm]
 refine (A07 hbk rfl hs.penr hl).mono λe w' h=>?_
 unfold HO at h ⊢
 split at h
 ·
  obtain ⟨v,a,q',b,c,d,f⟩:=h
  exact ⟨v,a,f,q',b,c,d⟩
 · exact h
theorem Yh {v:Vw} {st:Bool} {k:Int} (h:Mx v fill=.error k):DY v fill st=.error k:=AF h
theorem A0Q {v v1:Vw} {st:Bool} (h:Mx v fill=.ok v1):DY v fill st=(JF v v1 st>>=λv2=>FZ v>>=λcl=>.ok { v2 with s:={ v.s with clips:=cl },clip:=0,path:=Ie }):=AQ h
theorem X8 {v:Vw} (h:v.clip > 0):FZ v=(CS (decide (v.path.list.length > 0))>>=λ_=>HG (decide (v.s.clips.length<16))>>=λ_=>.ok (v.s.clips++[(⟨none,v.path.list,0,decide (v.clip=2)⟩:Bm)])):=A7 h
theorem YI {v:Vw} (h:¬ v.clip > 0):FZ v=.ok v.s.clips:=A2 h
theorem A4d (k:Int) (p:Option Addr) (l:List Cm) (c:Nat) (co:Cj) (q:DP):Tryz.prog.built 44 [(0,Ah k),(1,.slice p l.length c),(2,.agg (DV co).toArray),(4,.agg (Ex q).toArray)]=some (F4 ⟨k,p,l,c,co,none,[],0,q,0,0,0,0,0,0,0,none,[],0⟩).toArray:=by kernel_rfl
theorem A9f (k:Int) (p:Option Addr) (l:List Cm) (c:Nat) (co:Cj):Tryz.prog.built 44 [(0,Ah k),(1,.slice p l.length c),(2,.agg (DV co).toArray)]=some (F4 ⟨k,p,l,c,co,none,[],0,K9,0,0,0,0,0,0,0,none,[],0⟩).toArray:=by kernel_rfl
theorem TY {yp:Option Addr} {l:List Cm} {yc:Nat} {co:Cj} {q1 q:DP} {cl:List Bm} (h:FM q1=q):FJ 3 l co q cl={ JA ⟨3,yp,l,yc,co,none,[],0,q1,0,0,0,0,0,0,0,none,[],0⟩ with fClips:=cl }:=by rw [<- h];rfl
theorem Zl {n:Nat} {b:Bool} (h:(decide (n > 0) && b)=false) (hc:n > 0/\b=true):False:=by
 rw [Al hc.1,hc.2] at h;cases h
structure Hr (B bp:Nat) (P:D2) (v:Value) (w:World):Prop where
 at':CU B w bp 4096 P v
 lb:B<=bp
theorem Hr.same  {P:D2} (h:Hr B bp P v w) (hb:∀ k,k=bp\/v.ownBlock=some k->k<w.heap.size->w1.heap[k]?=w.heap[k]?):Hr B bp P v w1:=by
 have hk:=(hb bp (.inl rfl) h.at'.blk.lt).trans h.at'.blk
 have hl:=(BJ.1 hk).1
 have a:=h.lb
 exact ⟨⟨hk,h.at'.own.same λg hg=>hb g (.inr hg) (h.at'.own.lt g hg).2,h.at'.len,oO⟩,h.lb⟩
theorem WM {v:Vw} (h1:v.path.list.length > 0) (h2:fill > 0):Mx v fill=FG v (FJ fill v.path.list v.s.fill K9 v.s.clips):=A7 ⟨h1,h2⟩
theorem ZE {v:Vw} (h:¬ (v.path.list.length > 0/\fill > 0)):Mx v fill=.ok v:=A2 h
theorem XG {v v1:Vw} {b:Bool} (h1:v.path.list.length > 0) (h2:b=true):JF v v1 b=(Ia v.s>>=λp=>FG v1 (FJ 3 v.path.list v.s.stroke p v.s.clips)):=A7 ⟨h1,h2⟩
theorem MP {v v1:Vw} {b:Bool} (h:¬ (v.path.list.length > 0/\b=true)):JF v v1 b=.ok v1:=A2 h
theorem Ft {v v1:Vw} {x:AN} (h:FG v x=.ok v1):v1.s=v.s/\v1.path=v.path/\v1.clip=v.clip:=by
 unfold FG at h
 obtain ⟨u,-,h⟩:=Cd h
 cases h
 exact ⟨rfl,rfl,rfl⟩
structure Ptd (V V1:Vw):Prop where
 s:V1.s=V.s
 path:V1.path=V.path
 clip:V1.clip=V.clip
section
variable {B:Nat} {fs:QD} {w w1:World} {bv:Nat} {F:Nat->Prop} {V:Vw} {args:List PV}
theorem IE (fill:Int) (stroke:Bool) (h:Ga B fs w bv F V args) (hsn:EM V) (hf:fill=0\/fill=1\/fill=2) :
    Calls Tryz.prog 85 #[ptV bv,Ah fill,.bool stroke] w (VwE B fs bv F w (DY V fill stroke) args):=by
  obtain ⟨h7,eQ⟩:=h.base;have h0:=h;have d7:=h.lt;obtain ⟨H,vp,its,hs,cs,h8,hO,eR⟩:=h.mem;have f6:=Iq.of h0;have eS:=hO.blk;have hP:=hO.pth;have h9:=hP.len;have eT:H.s.fill=V.s.fill:=eR.st.fill;have aO:∀ {F1:Nat->Prop} {w1:World},Dw F F1 w w1->Below B w w1:=λh=>h.below eQ (λg hg=>(d7 g hg).1)
  obtain ⟨R,hD⟩:∃ R,DY V fill stroke=R:=⟨_,rfl⟩;rw [hD];refine Av func85 rfl ntmps85 ?_;have fI:=Dw.refl F w;refine A5<|A3 rfl<|A1 (.nck rfl)<|A1 (.fa BW rfl Pf dD rfl)<|Ai (Af (PE _) rfl eS rfl)<|DO BQ rfl rfl ((UG B H.path 4096 vp V.path _ hP)) (λx w1 cn=>?_);have aU:=Kc (w1:=w1) f6 (λk hk hl=>cn.1.block k hl);have fJ:=eS.bl cn.1;have co:=Cr fI cn.1;have hx:=cn.2;obtain ⟨xp,xc⟩:=x;obtain ⟨p5,c5,e5,fK⟩:=Cn.own (Z:=Eh fs.c F w1) hx (λg hg=>⟨(hx.lt g hg).2,λhf=>by have:=d7 g hf;have:=(hx.lt g hg).1;omega,by have:=eR.cx;have:=(hx.lt g hg).1;omega⟩);cases e5;have b9:=Jh.of (Q:=λw=>Cn EX (Eh fs.c F w) w xp V.path.list xc) fK;refine Ab rfl<|De (α:=(Nat->Prop) × Vw) (λt=>[(0,ptV bv),(2,.bool stroke),(6,.slice xp V.path.list.length xc)]) (λt w'=>Ga B fs w' bv t.1 t.2 args/\Dw F t.1 w w'/\Cn EX (Eh fs.c t.1 w') w' xp V.path.list xc/\Mx V fill=.ok t.2/\Ptd V t.2) ?_ (λt w1 hR=>?_);refine Fx 18 (decide (V.path.list.length > 0/\fill > 0)) ?_ ?_;refine Ak<|A3 rfl<|A1 (.lenS Fk rfl)<|A1 (.gtr rfl rfl)<|A3 rfl<|B5 rfl rfl rfl (λg5=>?_) (λg5=>?_)
  · have fL := dT g5
    refine A3 rfl<|Au g5<|A1 (.gtr rfl rfl)<|A1 (.pkT rfl g5 rfl)<|A0<|?_;exact ⟨Gm (CD rfl (by (simp;omega))),rfl⟩
  have fL:=dF g5;refine Ac g5<|A1 (.pkF rfl g5 rfl)<|A0<|?_;exact ⟨Gm (CD rfl (by (simp;omega))),rfl⟩;refine Ae rfl (λh6=>?_) (λh6=>?_)
  · have fM := dT h6
    have ba:V.path.list.length > 0/\fill > 0:=dT aS;refine Ak<|A3 rfl<|A3 rfl<|A3 rfl<|A3 rfl<|A1 (.nck rfl)<|A1 (.fa BW rfl EL dD rfl)<|A1 (.fa Fv rfl K7 dD rfl)<|Ai (Cx (L:=Gj) H5 rfl F5 fJ (H.s.fill) (rfl) rfl)<|?_;refine A1 (.build rfl (A9f fill xp V.path.list xc H.s.fill)) ?_;refine WL.cx BQ rfl rfl ((P7 ⟨fill,xp,V.path.list,xc,H.s.fill,none,[],0,K9,0,0,0,0,0,0,0,none,[],0⟩ (aU).get hsn.s ⟨Eu b9,Cn.nil _ _ _,λy hy=>(by cases hy),Cn.nil _ _ _,Th.nil _ _⟩ ⟨rfl,rfl,rfl⟩)) (λk9 w7 P d8=>?_) (λa8 ha w7 P d8=>?_);exact AE (DG k9 (by rw [<- hD];exact Yh ((WM ba.1 ba.2).trans ((by rw [eT];rfl:_=FG V _).trans P))) (EU (aO co) d8));obtain ⟨rfl,F1,aV,eU⟩:=d8;have aW:=(Eu b9).mv (Eh.mv eU);have ak:=Qz co eU;have eV:Mx V fill=.ok a8:=(WM ba.1 ba.2).trans ((by rw [eT];rfl:_=FG V _).trans P);refine A0<|?_
    first
    | exact ⟨(F1,_),⟨rfl,rfl,rfl,tT⟩,aV,ak,aW,eV,⟨(Ft P).1,(Ft P).2.1,(Ft P).2.2⟩⟩
    | exact ⟨(F,V),⟨rfl,rfl,rfl,tT⟩,(aU).get,co,Eu b9,ZE (dF aS),⟨rfl,rfl,rfl⟩⟩
  have fM:=dF h6;refine Ap ?_
  first
  | exact ⟨(F1,_),⟨rfl,rfl,rfl,tT⟩,aV,ak,aW,eV,⟨(Ft P).1,(Ft P).2.1,(Ft P).2.2⟩⟩
  | exact ⟨(F,V),⟨rfl,rfl,rfl,tT⟩,(aU).get,co,Eu b9,ZE (dF aS),⟨rfl,rfl,rfl⟩⟩
  obtain ⟨⟨F1,V1⟩,bz⟩:=eX t;subst bz;obtain ⟨j1,j2,j3,j4,d⟩:=hR;simp only at j1 j2 j3 j4 d;rw [A0Q j4] at hD;have aV:=Iq.of j1;have aW:=Jh.of (Q:=λw=>Cn EX (Eh fs.c F1 w) w xp V.path.list xc) j3;have aX:=j1.lt;obtain ⟨H1,hb,gL,he,hh,gM,fN,c4⟩:=j1.mem;have f7:=fN.blk;have aG:H1.s.stroke=V.s.stroke:=by rw [c4.st.stroke,d.s]
  have f8:=Jh.of (Q:=λw=>Xj (Eh fs.c F1 w) w H1.s V1.s) c4.st;have gN:=c4.cx;refine De (α:=(Nat->Prop) × Vw) (λt=>[(0,ptV bv),(6,.slice xp V.path.list.length xc)]) (λt w'=>Ga B fs w' bv t.1 t.2 args/\Dw F t.1 w w'/\Cn EX (Eh fs.c t.1 w') w' xp V.path.list xc/\(FZ V>>=λcl=>(.ok { t.2 with s:={ V.s with clips:=cl },clip:=0,path:=Ie }:Except Int Vw))=R/\Ptd V t.2) ?_ (λt w1 hR=>?_);refine Fx 34 ((decide (V.path.list.length > 0) && stroke)) ?_ ?_;refine Ak<|A3 rfl<|A1 (.lenS Fk rfl)<|A1 (.gtr rfl rfl)<|A3 rfl<|B5 rfl rfl rfl (λbA=>?_) (λbA=>?_)
  · have f9 := dT bA
    refine A3 rfl<|A1 (.pkT rfl bA rfl)<|A0<|?_;exact ⟨Gm (CD rfl (by (simp;omega))),rfl⟩
  have f9:=dF bA;refine A1 (.pkF rfl bA rfl)<|A0<|?_;exact ⟨Gm (CD rfl (by (simp;omega))),rfl⟩;refine Ae rfl (λfO=>?_) (λfO=>?_);have d9:V.path.list.length > 0/\stroke=true:=by simpa using (show (decide (V.path.list.length > 0) && stroke)=true by assumption)
  have fb:JF V V1 stroke=(Ia V.s>>=λp=>FG V1 (FJ 3 V.path.list V.s.stroke p V.s.clips)):=XG d9.1 d9.2;rw [fb] at hD;refine DD 12 rfl Ci (λw'=>True/\True) (λda aY=>?_);have db:=Kc (w1:=da) aV (λk hk hl=>(by obtain ⟨m,rfl⟩:=aY;rfl));have aH:=FP (w1:=da) aW (λk hk hl=>(by obtain ⟨m,rfl⟩:=aY;rfl));have dc:=FP (w1:=da) f8 (λk hk hl=>(by obtain ⟨m,rfl⟩:=aY;rfl));have c7:=f7.drew aY;have dd:=Dw.drew j2 aY;refine Aa 0 rfl (.mv rfl) tU ?_;refine Aa 1 rfl (.mv rfl) tU ?_;refine Aa 3 rfl (.mv rfl) tU ?_;refine Aa 4 rfl (.nck rfl) tU ?_;refine Aa 5 rfl (.fa BW rfl EL dD rfl) tU ?_;refine Aa 6 rfl (.fa Fv rfl K7 dD rfl) tU ?_;refine Aa 8 rfl (.mv rfl) tU ?_;refine Ef 2 rfl 7 rfl ?_ ?_;refine DO BQ rfl rfl ((Ij xp V.path.list xc _ (Eu aH).row oO)) (λy cq aI=>?_);have de:=Kc (w1:=cq) db (λk hk hl=>aI.1.block k hl);have bb:=FP (w1:=cq) aH (λk hk hl=>aI.1.block k hl);have df:=FP (w1:=cq) dc (λk hk hl=>aI.1.block k hl);have bc:=c7.bl aI.1;have bd:=Cr dd aI.1;have hy:=aI.2;obtain ⟨yp,yc⟩:=y;have aZ:=(Jh.size aH);obtain ⟨p6,c6,e6,dg⟩:=Cn.own (Z:=Eh fs.c F1 cq) hy (λg hg=>⟨(hy.lt g hg).2,λhf=>by have:=aX g hf;have:=(hy.lt g hg).1;omega,by have:=(hy.lt g hg).1;omega⟩);cases e6;have be:=Jh.of (Q:=λw=>Cn EX (Eh fs.c F1 w) w yp V.path.list yc) dg;refine A0<|⟨tU,?_⟩;refine Ef 7 rfl 9 rfl ?_ ?_;refine Ai (Cx (L:=Gj) H5 rfl F5 bc (H1.s.stroke) (rfl) rfl)<|A0<|⟨tU,?_⟩;refine Aq 9 rfl<|WL.cx BQ rfl rfl ((Ny bc (Ve df) (by rw [d.s];exact hsn.s.pen))) (λfP cr al af=>?_) (λfQ hi cr al af=>?_);have dh:=Cr bd af;exact AE (DG fP (by rw [d.s] at al;rw [<- hD,AF al];rfl) (aO dh));have di:=Kc (w1:=cr) de (λk hk hl=>af.1.block k hl);have dj:=FP (w1:=cr) bb (λk hk hl=>af.1.block k hl);have fc:=FP (w1:=cr) be (λk hk hl=>af.1.block k hl);have c8:=Cr bd af.1;obtain ⟨qq,rfl⟩:=eX fQ;obtain ⟨q1,bB,aP,bC⟩:=af.2;subst bB;have dk:=(Jh.size bb);have bD:=Jh.of (Q:=λw=>Cn QM (Eh fs.c F1 w) w q1.pfDash q1.fDash q1.cfDash) (bC.mono (λg hg=>⟨hg.2,λhf=>by have:=aX g hf;have:=hg.1;omega,by have:=hg.1;omega⟩))
  rw [d.s] at al;rw [AQ al] at hD;refine A0<|⟨tU,?_⟩;refine Aa 10 rfl (.build rfl (A4d 3 yp V.path.list yc H1.s.stroke q1)) tU ?_;refine Aq 11 rfl<|WL.cx BQ rfl rfl ((P7 ⟨3,yp,V.path.list,yc,H1.s.stroke,none,[],0,q1,0,0,0,0,0,0,0,none,[],0⟩ (di).get (by rw [d.s];exact hsn.s) ⟨Eu fc,Cn.nil _ _ _,λy hy=>(by cases hy),Eu bD,Th.nil _ _⟩ ⟨rfl,rfl,rfl⟩)) (λfR fS a6 ca=>?_) (λhj hm fS a6 ca=>?_);exact AE (DG fR (by rw [<- hD];exact AF ((by rw [aG,TY (yp:=yp) (yc:=yc) aP,d.s]:FG V1 (FJ 3 V.path.list V.s.stroke qq V.s.clips)=FG V1 _).trans a6)) (EU (aO c8) ca));obtain ⟨rfl,F2,aJ,aQ⟩:=ca;have aK:=(Eu dj).mv (Eh.mv aQ);have ak:=Qz c8 aQ;have b7:=AQ (f:=λv2=>FZ V>>=λcl=>(.ok { v2 with s:={ V.s with clips:=cl },clip:=0,path:=Ie }:Except Int Vw)) ((by rw [aG,TY (yp:=yp) (yc:=yc) aP,d.s]:FG V1 (FJ 3 V.path.list V.s.stroke qq V.s.clips)=FG V1 _).trans a6);refine A0<|⟨tU,?_⟩;refine Bl kR ?_
  first
  | exact ⟨(F2,_),⟨rfl,rfl,tT⟩,aJ,ak,aK,b7.symm.trans hD,⟨(Ft a6).1.trans d.s,(Ft a6).2.1.trans d.path,(Ft a6).2.2.trans d.clip⟩⟩
  | exact ⟨(F1,V1),⟨rfl,rfl,tT⟩,(di).get,c8,Eu dj,(AQ (MP (λhc=>by exact Zl aS hc))).symm.trans hD,d⟩
  refine WL.cx BQ rfl rfl ((Ny bc (Ve df) (by rw [d.s];exact hsn.s.pen))) (λfT ct am a2=>?_) (λfU hn ct am a2=>?_);have dl:=Cr bd a2;exact AE (DG fT (by rw [d.s] at am;rw [<- hD,AF am];rfl) (aO dl));have dm:=Kc (w1:=ct) de (λk hk hl=>a2.1.block k hl);have dn:=FP (w1:=ct) bb (λk hk hl=>a2.1.block k hl);have fd:=FP (w1:=ct) be (λk hk hl=>a2.1.block k hl);have fe:=bc.bl a2.1;have cb:=Cr bd a2.1;obtain ⟨qq,rfl⟩:=eX fU;obtain ⟨q1,bB,aP,bC⟩:=a2.2;subst bB;have dk:=(Jh.size bb);have bD:=Jh.of (Q:=λw=>Cn QM (Eh fs.c F1 w) w q1.pfDash q1.fDash q1.cfDash) (bC.mono (λg hg=>⟨hg.2,λhf=>by have:=aX g hf;have:=hg.1;omega,by have:=hg.1;omega⟩));rw [d.s] at am;rw [AQ am] at hD;refine A0<|⟨tU,?_⟩;refine Aq 7 rfl<|Ai (Cx (L:=Gj) H5 rfl F5 fe (H1.s.stroke) (rfl) rfl)<|A0<|⟨tU,?_⟩;refine Aa 10 rfl (.build rfl (A4d 3 yp V.path.list yc H1.s.stroke q1)) tU ?_;refine Aq 11 rfl<|WL.cx BQ rfl rfl ((P7 ⟨3,yp,V.path.list,yc,H1.s.stroke,none,[],0,q1,0,0,0,0,0,0,0,none,[],0⟩ (dm).get (by rw [d.s];exact hsn.s) ⟨Eu fd,Cn.nil _ _ _,λy hy=>(by cases hy),Eu bD,Th.nil _ _⟩ ⟨rfl,rfl,rfl⟩)) (λfV fW a7 cc=>?_) (λho hp fW a7 cc=>?_);exact AE (DG fV (by rw [<- hD];exact AF ((by rw [aG,TY (yp:=yp) (yc:=yc) aP,d.s]:FG V1 (FJ 3 V.path.list V.s.stroke qq V.s.clips)=FG V1 _).trans a7)) (EU (aO cb) cc));obtain ⟨rfl,F2,aJ,aQ⟩:=cc;have aK:=(Eu dn).mv (Eh.mv aQ);have ak:=Qz cb aQ;have b7:=AQ (f:=λv2=>FZ V>>=λcl=>(.ok { v2 with s:={ V.s with clips:=cl },clip:=0,path:=Ie }:Except Int Vw)) ((by rw [aG,TY (yp:=yp) (yc:=yc) aP,d.s]:FG V1 (FJ 3 V.path.list V.s.stroke qq V.s.clips)=FG V1 _).trans a7);refine A0<|⟨tU,?_⟩;refine Bl kR ?_
  first
  | exact ⟨(F2,_),⟨rfl,rfl,tT⟩,aJ,ak,aK,b7.symm.trans hD,⟨(Ft a7).1.trans d.s,(Ft a7).2.1.trans d.path,(Ft a7).2.2.trans d.clip⟩⟩
  | exact ⟨(F1,V1),⟨rfl,rfl,tT⟩,(dm).get,cb,Eu dn,(AQ (MP (λhc=>by exact Zl aS hc))).symm.trans hD,d⟩
  refine Ai (Cx (L:=Gj) H5 rfl F5 c7 (H1.s.stroke) (rfl) rfl)<|A0<|⟨tU,?_⟩;refine Aq 2 rfl<|DO BQ rfl rfl ((Ij xp V.path.list xc _ (Eu aH).row oO)) (λy cu aL=>?_);have ff:=Kc (w1:=cu) db (λk hk hl=>aL.1.block k hl);have dp:=FP (w1:=cu) aH (λk hk hl=>aL.1.block k hl);have fg:=FP (w1:=cu) dc (λk hk hl=>aL.1.block k hl);have fh:=c7.bl aL.1;have dq:=Cr dd aL.1;have hy:=aL.2;obtain ⟨yp,yc⟩:=y;have aZ:=(Jh.size aH);obtain ⟨p6,c6,e6,dg⟩:=Cn.own (Z:=Eh fs.c F1 cu) hy (λg hg=>⟨(hy.lt g hg).2,λhf=>by have:=aX g hf;have:=(hy.lt g hg).1;omega,by have:=(hy.lt g hg).1;omega⟩);cases e6;have be:=Jh.of (Q:=λw=>Cn EX (Eh fs.c F1 w) w yp V.path.list yc) dg;refine A0<|⟨tU,?_⟩;refine Aq 9 rfl<|WL.cx BQ rfl rfl ((Ny fh (Ve fg) (by rw [d.s];exact hsn.s.pen))) (λfX cw an ag=>?_) (λfY hr cw an ag=>?_);have dr:=Cr dq ag;exact AE (DG fX (by rw [d.s] at an;rw [<- hD,AF an];rfl) (aO dr));have ds:=Kc (w1:=cw) ff (λk hk hl=>ag.1.block k hl);have dt:=FP (w1:=cw) dp (λk hk hl=>ag.1.block k hl);have fj:=FP (w1:=cw) be (λk hk hl=>ag.1.block k hl);have cd:=Cr dq ag.1;obtain ⟨qq,rfl⟩:=eX fY;obtain ⟨q1,bB,aP,bC⟩:=ag.2;subst bB;have dk:=(Jh.size dp);have bD:=Jh.of (Q:=λw=>Cn QM (Eh fs.c F1 w) w q1.pfDash q1.fDash q1.cfDash) (bC.mono (λg hg=>⟨hg.2,λhf=>by have:=aX g hf;have:=hg.1;omega,by have:=hg.1;omega⟩));rw [d.s] at an;rw [AQ an] at hD;refine A0<|⟨tU,?_⟩;refine Aa 10 rfl (.build rfl (A4d 3 yp V.path.list yc H1.s.stroke q1)) tU ?_;refine Aq 11 rfl<|WL.cx BQ rfl rfl ((P7 ⟨3,yp,V.path.list,yc,H1.s.stroke,none,[],0,q1,0,0,0,0,0,0,0,none,[],0⟩ (ds).get (by rw [d.s];exact hsn.s) ⟨Eu fj,Cn.nil _ _ _,λy hy=>(by cases hy),Eu bD,Th.nil _ _⟩ ⟨rfl,rfl,rfl⟩)) (λfZ f' C cf=>?_) (λht hu f' C cf=>?_);exact AE (DG fZ (by rw [<- hD];exact AF ((by rw [aG,TY (yp:=yp) (yc:=yc) aP,d.s]:FG V1 (FJ 3 V.path.list V.s.stroke qq V.s.clips)=FG V1 _).trans C)) (EU (aO cd) cf));obtain ⟨rfl,F2,aJ,aQ⟩:=cf
  have aK:=(Eu dt).mv (Eh.mv aQ);have ak:=Qz cd aQ;have b7:=AQ (f:=λv2=>FZ V>>=λcl=>(.ok { v2 with s:={ V.s with clips:=cl },clip:=0,path:=Ie }:Except Int Vw)) ((by rw [aG,TY (yp:=yp) (yc:=yc) aP,d.s]:FG V1 (FJ 3 V.path.list V.s.stroke qq V.s.clips)=FG V1 _).trans C);refine A0<|⟨tU,?_⟩;refine Bl kR ?_
  first
  | exact ⟨(F2,_),⟨rfl,rfl,tT⟩,aJ,ak,aK,b7.symm.trans hD,⟨(Ft C).1.trans d.s,(Ft C).2.1.trans d.path,(Ft C).2.2.trans d.clip⟩⟩
  | exact ⟨(F1,V1),⟨rfl,rfl,tT⟩,(ds).get,cd,Eu dt,(AQ (MP (λhc=>by exact Zl aS hc))).symm.trans hD,d⟩
  refine Ap ?_
  first
  | exact ⟨(F2,_),⟨rfl,rfl,tT⟩,aJ,ak,aK,b7.symm.trans hD,⟨(Ft C).1.trans d.s,(Ft C).2.1.trans d.path,(Ft C).2.2.trans d.clip⟩⟩
  | exact ⟨(F1,V1),⟨rfl,rfl,tT⟩,(aV).get,j2,Eu aW,(AQ (MP (λhc=>by exact Zl aS hc))).symm.trans hD,d⟩
  obtain ⟨⟨F2,V2⟩,bz⟩:=eX t;subst bz;obtain ⟨k1,k2,k3,E,T⟩:=hR;obtain ⟨wJ,g0⟩:=eX w1;subst g0;simp only at k1 k2 k3 E T;have eW:=aO k2;have a3:=k1.lt;obtain ⟨H2,D,fk,g1,g2,du,b8,bf⟩:=k1.mem;have ah:=b8.blk;have a':=b8.pth;obtain ⟨pvc,cvc,lcl,evc,G,q,j⟩:=bf.st.clips;have gO:=bf.cx;have dv:H2.clip=V.clip:=by rw [bf.clip,T.clip]
  have gP:lcl.length=V.s.clips.length:=by rw [<- T.s,<- j,B0]
  have gQ:=(Ss (l:=lcl) (by rw [j,T.s];exact hsn.s.clips)).1;obtain ⟨⟨ctm,fi,sk,pe,clv,fn,sz⟩,fo,sa,pa,aR,a1,lo,te,li,ar,itv⟩:=H2;simp only at evc dv;subst evc;have gJ:=ah.lt;have g3:∀ g∈[bv,pa,vb D pa],∃ t'∈[74,97,94],O9 wJ g t':=λg hg=>by
    rcases Ax.1 hg with rfl | hg
    · exact ⟨_,by simp,ah.ty⟩
    · obtain ⟨t', h1, h2⟩ := Ky a'.own a'.blk.ty g hg
      exact ⟨t',List.mem_cons_of_mem _ h1,h2⟩
  have aU:∀ g∈[bv,pa,vb D pa],F2 g:=λg hg=>by
    rw [du];rcases Ax.1 hg with rfl | hg
    · exact .inl rfl
    · exact (LP (N:=g+1) (F:=GG bv ⟨⟨ctm,fi,sk,pe,.slice pvc lcl.length cvc,fn,sz⟩,fo,sa,pa,aR,a1,lo,te,li,ar,itv⟩ D) (λg hg=>.inr (.inr (.inl hg))) (.inr (.inl rfl)) g hg).elim id (λh=>D6 h oO)
  have a:∀ {w2:World},AL wJ.heap.size [bv,pa,vb D pa] wJ w2->Dw F2 F2 wJ w2:=λhK=>CA hK (λg hg=>.inl (aU g hg)) (λg hg=>.inl hg)
  have eY:∀ {w2:World},AL wJ.heap.size [bv,pa,vb D pa] wJ w2->Below B w w2:=λhK=>EU eW ((a hK).below (BA eQ eW.size) (λg hg=>(a3 g hg).1))
  obtain ⟨ai,aj⟩:bv≠pa/\bv≠vb D pa:=Z3 a' ah;have fl:pa<wJ.heap.size:=a'.blk.lt;have gR:vb D pa<wJ.heap.size:=Vr a'.own fl;have aT:=AL.refl wJ.heap.size [bv,pa,vb D pa] wJ;have cg:Hr B pa V2.path D wJ:=⟨a',b8.lbp⟩;have aM:=a'.own.lt;refine De (α:=Option Addr × List Bm × Nat) (λt=>[(0,ptV bv)]) (λt w'=>AL wJ.heap.size [bv,pa,vb D pa] wJ w'/\Be w' bv (FA ⟨⟨ctm,fi,sk,pe,.slice t.1 t.2.1.length t.2.2,fn,sz⟩,fo,sa,pa,aR,a1,lo,te,li,ar,itv⟩).toArray 74/\Cn G0 (Eh fs.c F2 w') w' t.1 t.2.1 t.2.2/\(∀ y∈t.2.1,Lh (Eh fs.c F2 w') w' y)/\.ok { V2 with s:={ V.s with clips:=t.2.1.map FL },clip:=0,path:=Ie }=R/\Hr B pa V2.path D w') ?_ (λt w1 hR=>?_);refine A5<|A3 rfl<|A1 (.nck rfl)<|A1 (.fa BW rfl B6 dD rfl)<|Ai (Af (BE _) rfl ah rfl)<|A1 (.gtr rfl rfl)<|A0<|Ae rfl (λdw=>?_) (λdw=>?_)
  · have fm := dT dw
    have dx:=X8 (v:=V) (by (simp only at *;omega));rw [dx] at E;refine A5<|A3 rfl<|A1 (.lenS Fk rfl)<|A1 (.bis (decide (V.path.list.length > 0)) (.gtr rfl rfl) (by exact DX.2 oO))<|By BQ rfl rfl ((Dn _ _)) (λg4 eZ bg b0=>?_) (λhv eZ bg b0=>?_);have dy:=kB aT b0;exact AE (DG g4 (by rw [<- E];exact AF (AF bg)) (eY dy));have fp:=Hr.same (w1:=eZ) cg (λk hk hl=>b0.block k hl);have dz:=ah.bl b0;have dA:=kB aT b0;rw [AQ bg] at E;refine A0<|A5<|A3 rfl<|A1 (.nck rfl)<|A1 (.fa BW rfl EL dD rfl)<|A1 (.fa Fv rfl Gg dD rfl)<|Ai (Af (JY _) rfl dz rfl)<|A1 (.lenS Fj rfl)<|A1 (.bis (decide (V.s.clips.length<16)) (.lss rfl rfl) (by exact DX.2 oO))<|By BQ rfl rfl ((O6 _ _)) (λg6 e' bh b1=>?_) (λhz e' bh b1=>?_);have dB:=kB dA b1;exact AE (DG g6 (by rw [<- E];exact AF (AF bh)) (eY dB));have fq:=Hr.same (w1:=e') fp (λk hk hl=>b1.block k hl);have fr:=dz.bl b1;have ft:=kB dA b1;rw [AQ bh] at E;refine A0<|DD 20 rfl Ci (λw'=>True/\True) (λg7 ci=>?_);have aN:=Hr.same (w1:=g7) fq (λk hk hl=>(by obtain ⟨m,rfl⟩:=ci;rfl));have A:=fr.drew ci;have o:=CI ft (QL ci);refine Aa 0 rfl (.mv rfl) tU ?_;refine Aa 1 rfl (.mv rfl) tU ?_;refine Aa 2 rfl (.nck rfl) tU ?_;refine Aa 3 rfl (.fa BW rfl EL dD rfl) tU ?_;refine Aa 4 rfl (.fa Fv rfl Gg dD rfl) tU ?_;refine Aa 7 rfl (.mv rfl) tU ?_;refine Aa 8 rfl (.mv rfl) tU ?_;refine Aa 9 rfl (.nck rfl) tU ?_;refine Aa 10 rfl (.fa BW rfl B6 dD rfl) tU ?_;refine Ef 5 rfl 11 rfl ?_ ?_;refine Ai (Af (JY _) rfl A rfl)<|A0<|⟨tU,?_⟩;refine Ef 6 rfl 11 rfl ?_ ?_;refine DO BQ rfl rfl ((Gv pvc lcl cvc _ (G.mv (Eh.mv (a o))).row oO)) (λy g8 b2=>?_);have fu:=Hr.same (w1:=g8) aN (λk hk hl=>b2.1.block k hl);have cj:=A.bl b2.1;have dC:=kB o b2.1;have hy:=b2.2;obtain ⟨yp,yc⟩:=y;have aZ:=o.size;have u:=(b2.1).size;have i:=hy.lt;refine A0<|⟨tU,?_⟩;refine Aq 11 rfl<|Ai (Af (BE _) rfl cj rfl)<|A0<|⟨tU,?_⟩
    refine Aa 12 rfl (.bis (decide (V.clip=2)) (.eql rfl rfl) (by exact DX.2 (by (simp only at *;omega)))) tU ?_;refine Aa 13 rfl (.buildL (ps:=_) Xb rfl rfl rfl pS) tU ?_;refine Aq 14 rfl<|Cw (L:=G0) (ps:=_) ([(⟨xp,V.path.list,xc,decide (V.clip=2)⟩:Bm)]) Fj K6 Qj rfl rfl rfl rfl rfl (by rfl) rfl rfl (λf0 dE ck dV ao gK=>?_);have cy:=BA u ao.size;have fv:=GK hy ck ao;have fw:=Hr.same (w1:=dE) fu (λk hk hl=>ao.other k oO);have fx:=Bx ck cj.lt;have fy:=cj.un ao fx;have dG:wJ.heap.size<=f0:=by rw [ck];exact dC.size
    have cz:=CI dC (Ik ao dG);have g9:f0<=dE.heap.size:=by omega
    refine A0<|⟨tU,?_⟩;refine Aq 15 rfl<|CV Fj Ms rfl rfl rfl fv rfl (dV).rowp oE (cy) rfl (λh=>D6 h (PA _ _)) (λgS gT ap bE bG ga=>?_);have dW:=fy.below bE oO;have dX:=Hr.same fw (λk hk hl=>bG.block k hl (λe=>by rcases hk with rfl | hk;(have:=i _ e.symm;omega);(have:=i _ e.symm;have:=aM _ hk;omega)));have dY:=CI cz (Ce bG (λg hg=>.inr (by have:=i g hg;omega)) cz.size);have dH:=BA cy bE.size;obtain ⟨pv,cv,evv,-⟩:=(ap).row;subst evv;refine A0<|⟨tU,?_⟩;refine Aa 16 rfl (.nck rfl) tU ?_;refine Aa 17 rfl (.fa BW rfl EL dD rfl) tU ?_;refine Aa 18 rfl (.fa Fv rfl Gg dD rfl) tU ?_;refine Aq 19 rfl<|CT 22 ((FA ⟨⟨ctm,fi,sk,pe,.slice pv (lcl++[(⟨xp,V.path.list,xc,decide (V.clip=2)⟩:Bm)]).length cv,fn,sz⟩,fo,sa,pa,aR,a1,lo,te,li,ar,itv⟩).toArray) dW Gg (λbi bH aq gb=>?_) (h1:=(ap).one);have gc:=BA dH aq.size;have dZ:=I4 ap aq (λg hg e=>by have:=(ap).lt g hg;omega);have cA:=Hr.same (w1:=bi) dX (λk hk hl=>aq.other k (λe=>by rcases hk with rfl | hk;exact ai e.symm;exact aj (e▸(Gc hk).symm)));have a9:=CI dY (by exact Hc aq (by simp));refine A0<|⟨tU,?_⟩;refine Bl kR ?_
    first
    | (have b := dZ
       obtain ⟨p9,c9,e9,J⟩:=Cn.own (Z:=Eh fs.c F2 bi) b (λg hg=>⟨(b.lt g hg).2,λhf=>by have:=a3 g hf;have:=(b.lt g hg).1;omega,by have:=(b.lt g hg).1;omega⟩);cases e9;have K:∀ y∈lcl++[(⟨xp,V.path.list,xc,decide (V.clip=2)⟩:Bm)],Lh (Eh fs.c F2 bi) bi y:=λy hy=>(B4.1 hy).elim (λh=>(q y h).mv (Eh.mv (a a9))) (λh=>by rw [Ao.1 h];exact k3.mv (Eh.mv (a a9)))
       exact ⟨(pv,lcl++[(⟨xp,V.path.list,xc,decide (V.clip=2)⟩:Bm)],cv),⟨rfl,tT⟩,a9,bH,J,K,by rw [<- E,Bp,j,T.s];rfl,cA⟩)
    | exact ⟨(pvc,lcl,cvc),⟨rfl,tT⟩,a9,bH,G.mv (Eh.mv (a a9)),λy hy=>(q y hy).mv (Eh.mv (a a9)),by rw [<- E,j,T.s] <;> rfl,cA⟩
    refine Ai (Af (BE _) rfl A rfl)<|A0<|⟨tU,?_⟩;refine Aa 12 rfl (.bis (decide (V.clip=2)) (.eql rfl rfl) (by exact DX.2 (by (simp only at *;omega)))) tU ?_;refine Aa 13 rfl (.buildL (ps:=_) Xb rfl rfl rfl pS) tU ?_;refine Ef 6 rfl 14 rfl ?_ ?_;refine DO BQ rfl rfl ((Gv pvc lcl cvc _ (G.mv (Eh.mv (a o))).row oO)) (λy fz au=>?_);have d':=Hr.same (w1:=fz) aN (λk hk hl=>au.1.block k hl);have cB:=A.bl au.1;have cC:=kB o au.1;have hy:=au.2;obtain ⟨yp,yc⟩:=y;have aZ:=o.size;have u:=(au.1).size;have i:=hy.lt;refine A0<|⟨tU,?_⟩;refine Aq 14 rfl<|Cw (L:=G0) (ps:=_) ([(⟨xp,V.path.list,xc,decide (V.clip=2)⟩:Bm)]) Fj K6 Qj rfl rfl rfl rfl rfl (by rfl) rfl rfl (λdI cD bj dJ a4 ge=>?_);have bI:=BA u a4.size;have e0:=GK hy bj a4;have e1:=Hr.same (w1:=cD) d' (λk hk hl=>a4.other k oO);have e2:=Bx bj cB.lt;have e3:=cB.un a4 e2;have c':wJ.heap.size<=dI:=by rw [bj];exact cC.size
    have cE:=CI cC (Ik a4 c');have fG:dI<=cD.heap.size:=by omega
    refine A0<|⟨tU,?_⟩;refine Aq 15 rfl<|CV Fj Ms rfl rfl rfl e0 rfl (dJ).rowp oE (bI) rfl (λh=>D6 h (PA _ _)) (λgU gV av bJ bK gf=>?_);have e4:=e3.below bJ oO;have e7:=Hr.same e1 (λk hk hl=>bK.block k hl (λe=>by rcases hk with rfl | hk;(have:=i _ e.symm;omega);(have:=i _ e.symm;have:=aM _ hk;omega)));have e8:=CI cE (Ce bK (λg hg=>.inr (by have:=i g hg;omega)) cE.size);have dK:=BA bI bJ.size;obtain ⟨pv,cv,evv,-⟩:=(av).row;subst evv;refine A0<|⟨tU,?_⟩;refine Aa 16 rfl (.nck rfl) tU ?_;refine Aa 17 rfl (.fa BW rfl EL dD rfl) tU ?_;refine Aa 18 rfl (.fa Fv rfl Gg dD rfl) tU ?_;refine Aq 19 rfl<|CT 22 ((FA ⟨⟨ctm,fi,sk,pe,.slice pv (lcl++[(⟨xp,V.path.list,xc,decide (V.clip=2)⟩:Bm)]).length cv,fn,sz⟩,fo,sa,pa,aR,a1,lo,te,li,ar,itv⟩).toArray) e4 Gg (λbk bL aw gg=>?_) (h1:=(av).one);have gh:=BA dK aw.size;have ea:=I4 av aw (λg hg e=>by have:=(av).lt g hg;omega);have cF:=Hr.same (w1:=bk) e7 (λk hk hl=>aw.other k (λe=>by rcases hk with rfl | hk;exact ai e.symm;exact aj (e▸(Gc hk).symm)));have aa:=CI e8 (by exact Hc aw (by simp));refine A0<|⟨tU,?_⟩;refine Bl kR ?_
    first
    | (have b := ea
       obtain ⟨p9,c9,e9,J⟩:=Cn.own (Z:=Eh fs.c F2 bk) b (λg hg=>⟨(b.lt g hg).2,λhf=>by have:=a3 g hf;have:=(b.lt g hg).1;omega,by have:=(b.lt g hg).1;omega⟩);cases e9;have K:∀ y∈lcl++[(⟨xp,V.path.list,xc,decide (V.clip=2)⟩:Bm)],Lh (Eh fs.c F2 bk) bk y:=λy hy=>(B4.1 hy).elim (λh=>(q y h).mv (Eh.mv (a aa))) (λh=>by rw [Ao.1 h];exact k3.mv (Eh.mv (a aa)))
       exact ⟨(pv,lcl++[(⟨xp,V.path.list,xc,decide (V.clip=2)⟩:Bm)],cv),⟨rfl,tT⟩,aa,bL,J,K,by rw [<- E,Bp,j,T.s];rfl,cF⟩)
    | exact ⟨(pvc,lcl,cvc),⟨rfl,tT⟩,aa,bL,G.mv (Eh.mv (a aa)),λy hy=>(q y hy).mv (Eh.mv (a aa)),by rw [<- E,j,T.s] <;> rfl,cF⟩
    refine Cw (L:=G0) (ps:=_) ([(⟨xp,V.path.list,xc,decide (V.clip=2)⟩:Bm)]) Fj K6 Qj rfl rfl rfl rfl rfl (by rfl) rfl rfl (λdL cG cH bM b3 gi=>?_);have eb:=Hr.same (w1:=cG) aN (λk hk hl=>b3.other k oO);have ec:=Bx cH A.lt;have ed:=A.un b3 ec;have d0:wJ.heap.size<=dL:=by rw [cH];exact o.size
    have bm:=CI o (Ik b3 d0);have d1:dL<=cG.heap.size:=by omega
    refine A0<|⟨tU,?_⟩;refine Aq 6 rfl<|DO BQ rfl rfl ((Gv pvc lcl cvc _ (G.mv (Eh.mv (a bm))).row oO)) (λy fA U=>?_);have gj:=BA d1 U.1.size;have ee:=Hr.same (w1:=fA) eb (λk hk hl=>U.1.block k hl);have ef:=ed.bl U.1;have eg:=Is (bM).rowp U.1 (λh0=>(bM).rowp.lt h0);have cI:=kB bm U.1;have hy:=U.2;obtain ⟨yp,yc⟩:=y;have aZ:=bm.size;have u:=(U.1).size;have i:=hy.lt;refine A0<|⟨tU,?_⟩;refine Aq 15 rfl<|CV Fj Ms rfl rfl rfl hy rfl eg oE (u) rfl (λh=>D6 h (PA _ _)) (λgW gX ax bN bO gk=>?_);have eh:=ef.below bN oO;have ei:=Hr.same ee (λk hk hl=>bO.block k hl (λe=>by rcases hk with rfl | hk;(have:=i _ e.symm;omega);(have:=i _ e.symm;have:=aM _ hk;omega)));have ej:=CI cI (Ce bO (λg hg=>.inr (by have:=i g hg;omega)) cI.size);have dM:=BA u bN.size;obtain ⟨pv,cv,evv,-⟩:=(ax).row;subst evv;refine A0<|⟨tU,?_⟩;refine Aa 16 rfl (.nck rfl) tU ?_;refine Aa 17 rfl (.fa BW rfl EL dD rfl) tU ?_;refine Aa 18 rfl (.fa Fv rfl Gg dD rfl) tU ?_;refine Aq 19 rfl<|CT 22 ((FA ⟨⟨ctm,fi,sk,pe,.slice pv (lcl++[(⟨xp,V.path.list,xc,decide (V.clip=2)⟩:Bm)]).length cv,fn,sz⟩,fo,sa,pa,aR,a1,lo,te,li,ar,itv⟩).toArray) eh Gg (λbn bP ay gl=>?_) (h1:=(ax).one);have gm:=BA dM ay.size;have ek:=I4 ax ay (λg hg e=>by have:=(ax).lt g hg;omega);have cJ:=Hr.same (w1:=bn) ei (λk hk hl=>ay.other k (λe=>by rcases hk with rfl | hk;exact ai e.symm;exact aj (e▸(Gc hk).symm)));have ab:=CI ej (by exact Hc ay (by simp));refine A0<|⟨tU,?_⟩;refine Bl kR ?_
    first
    | (have b := ek
       obtain ⟨p9,c9,e9,J⟩:=Cn.own (Z:=Eh fs.c F2 bn) b (λg hg=>⟨(b.lt g hg).2,λhf=>by have:=a3 g hf;have:=(b.lt g hg).1;omega,by have:=(b.lt g hg).1;omega⟩);cases e9;have K:∀ y∈lcl++[(⟨xp,V.path.list,xc,decide (V.clip=2)⟩:Bm)],Lh (Eh fs.c F2 bn) bn y:=λy hy=>(B4.1 hy).elim (λh=>(q y h).mv (Eh.mv (a ab))) (λh=>by rw [Ao.1 h];exact k3.mv (Eh.mv (a ab)))
       exact ⟨(pv,lcl++[(⟨xp,V.path.list,xc,decide (V.clip=2)⟩:Bm)],cv),⟨rfl,tT⟩,ab,bP,J,K,by rw [<- E,Bp,j,T.s];rfl,cJ⟩)
    | exact ⟨(pvc,lcl,cvc),⟨rfl,tT⟩,ab,bP,G.mv (Eh.mv (a ab)),λy hy=>(q y hy).mv (Eh.mv (a ab)),by rw [<- E,j,T.s] <;> rfl,cJ⟩
    refine Ai (Af (BE _) rfl A rfl)<|A0<|⟨tU,?_⟩;refine Aa 12 rfl (.bis (decide (V.clip=2)) (.eql rfl rfl) (by exact DX.2 (by (simp only at *;omega)))) tU ?_;refine Aa 13 rfl (.buildL (ps:=_) Xb rfl rfl rfl pS) tU ?_;refine Ef 5 rfl 14 rfl ?_ ?_;refine Ai (Af (JY _) rfl A rfl)<|A0<|⟨tU,?_⟩;refine Ef 6 rfl 14 rfl ?_ ?_;refine DO BQ rfl rfl ((Gv pvc lcl cvc _ (G.mv (Eh.mv (a o))).row oO)) (λy fB az=>?_);have el:=Hr.same (w1:=fB) aN (λk hk hl=>az.1.block k hl);have cK:=A.bl az.1;have cL:=kB o az.1;have hy:=az.2;obtain ⟨yp,yc⟩:=y;have aZ:=o.size;have u:=(az.1).size;have i:=hy.lt;refine A0<|⟨tU,?_⟩;refine Aq 14 rfl<|Cw (L:=G0) (ps:=_) ([(⟨xp,V.path.list,xc,decide (V.clip=2)⟩:Bm)]) Fj K6 Qj rfl rfl rfl rfl rfl (by rfl) rfl rfl (λdN cM bo dO a5 go=>?_);have bQ:=BA u a5.size;have em:=GK hy bo a5;have en:=Hr.same (w1:=cM) el (λk hk hl=>a5.other k oO);have eo:=Bx bo cK.lt;have ep:=cK.un a5 eo;have d2:wJ.heap.size<=dN:=by rw [bo];exact cL.size
    have cN:=CI cL (Ik a5 d2);have fH:dN<=cM.heap.size:=by omega
    refine A0<|⟨tU,?_⟩;refine Aq 15 rfl<|CV Fj Ms rfl rfl rfl em rfl (dO).rowp oE (bQ) rfl (λh=>D6 h (PA _ _)) (λgY gZ aA bR bS gp=>?_);have eq:=ep.below bR oO;have er:=Hr.same en (λk hk hl=>bS.block k hl (λe=>by rcases hk with rfl | hk;(have:=i _ e.symm;omega);(have:=i _ e.symm;have:=aM _ hk;omega)));have es:=CI cN (Ce bS (λg hg=>.inr (by have:=i g hg;omega)) cN.size);have dP:=BA bQ bR.size;obtain ⟨pv,cv,evv,-⟩:=(aA).row;subst evv;refine A0<|⟨tU,?_⟩;refine Aa 16 rfl (.nck rfl) tU ?_;refine Aa 17 rfl (.fa BW rfl EL dD rfl) tU ?_;refine Aa 18 rfl (.fa Fv rfl Gg dD rfl) tU ?_;refine Aq 19 rfl<|CT 22 ((FA ⟨⟨ctm,fi,sk,pe,.slice pv (lcl++[(⟨xp,V.path.list,xc,decide (V.clip=2)⟩:Bm)]).length cv,fn,sz⟩,fo,sa,pa,aR,a1,lo,te,li,ar,itv⟩).toArray) eq Gg (λbp bT aB gq=>?_) (h1:=(aA).one);have gr:=BA dP aB.size;have et:=I4 aA aB (λg hg e=>by have:=(aA).lt g hg;omega);have cO:=Hr.same (w1:=bp) er (λk hk hl=>aB.other k (λe=>by rcases hk with rfl | hk;exact ai e.symm;exact aj (e▸(Gc hk).symm)));have ac:=CI es (by exact Hc aB (by simp));refine A0<|⟨tU,?_⟩;refine Bl kR ?_
    first
    | (have b := et
       obtain ⟨p9,c9,e9,J⟩:=Cn.own (Z:=Eh fs.c F2 bp) b (λg hg=>⟨(b.lt g hg).2,λhf=>by have:=a3 g hf;have:=(b.lt g hg).1;omega,by have:=(b.lt g hg).1;omega⟩);cases e9;have K:∀ y∈lcl++[(⟨xp,V.path.list,xc,decide (V.clip=2)⟩:Bm)],Lh (Eh fs.c F2 bp) bp y:=λy hy=>(B4.1 hy).elim (λh=>(q y h).mv (Eh.mv (a ac))) (λh=>by rw [Ao.1 h];exact k3.mv (Eh.mv (a ac)))
       exact ⟨(pv,lcl++[(⟨xp,V.path.list,xc,decide (V.clip=2)⟩:Bm)],cv),⟨rfl,tT⟩,ac,bT,J,K,by rw [<- E,Bp,j,T.s];rfl,cO⟩)
    | exact ⟨(pvc,lcl,cvc),⟨rfl,tT⟩,ac,bT,G.mv (Eh.mv (a ac)),λy hy=>(q y hy).mv (Eh.mv (a ac)),by rw [<- E,j,T.s] <;> rfl,cO⟩
    refine Cw (L:=G0) (ps:=_) ([(⟨xp,V.path.list,xc,decide (V.clip=2)⟩:Bm)]) Fj K6 Qj rfl rfl rfl rfl rfl (by rfl) rfl rfl (λdQ cP cQ bU b4 gs=>?_);have eu:=Hr.same (w1:=cP) aN (λk hk hl=>b4.other k oO);have ev:=Bx cQ A.lt;have ew:=A.un b4 ev;have d3:wJ.heap.size<=dQ:=by rw [cQ];exact o.size
    have bq:=CI o (Ik b4 d3);have d4:dQ<=cP.heap.size:=by omega
    refine A0<|⟨tU,?_⟩;refine Aq 6 rfl<|DO BQ rfl rfl ((Gv pvc lcl cvc _ (G.mv (Eh.mv (a bq))).row oO)) (λy fC X=>?_);have gt:=BA d4 X.1.size;have ex:=Hr.same (w1:=fC) eu (λk hk hl=>X.1.block k hl);have ey:=ew.bl X.1;have ez:=Is (bU).rowp X.1 (λh0=>(bU).rowp.lt h0);have cR:=kB bq X.1;have hy:=X.2;obtain ⟨yp,yc⟩:=y;have aZ:=bq.size;have u:=(X.1).size;have i:=hy.lt;refine A0<|⟨tU,?_⟩;refine Aq 15 rfl<|CV Fj Ms rfl rfl rfl hy rfl ez oE (u) rfl (λh=>D6 h (PA _ _)) (λg' h3 aC bV bW gv=>?_);have eA:=ey.below bV oO;have eB:=Hr.same ex (λk hk hl=>bW.block k hl (λe=>by rcases hk with rfl | hk;(have:=i _ e.symm;omega);(have:=i _ e.symm;have:=aM _ hk;omega)));have eC:=CI cR (Ce bW (λg hg=>.inr (by have:=i g hg;omega)) cR.size);have dR:=BA u bV.size;obtain ⟨pv,cv,evv,-⟩:=(aC).row;subst evv;refine A0<|⟨tU,?_⟩;refine Aa 16 rfl (.nck rfl) tU ?_;refine Aa 17 rfl (.fa BW rfl EL dD rfl) tU ?_;refine Aa 18 rfl (.fa Fv rfl Gg dD rfl) tU ?_;refine Aq 19 rfl<|CT 22 ((FA ⟨⟨ctm,fi,sk,pe,.slice pv (lcl++[(⟨xp,V.path.list,xc,decide (V.clip=2)⟩:Bm)]).length cv,fn,sz⟩,fo,sa,pa,aR,a1,lo,te,li,ar,itv⟩).toArray) eA Gg (λbt bX aD gw=>?_) (h1:=(aC).one);have gx:=BA dR aD.size;have eD:=I4 aC aD (λg hg e=>by have:=(aC).lt g hg;omega);have cS:=Hr.same (w1:=bt) eB (λk hk hl=>aD.other k (λe=>by rcases hk with rfl | hk;exact ai e.symm;exact aj (e▸(Gc hk).symm)));have ad:=CI eC (by exact Hc aD (by simp));refine A0<|⟨tU,?_⟩;refine Bl kR ?_
    first
    | (have b := eD
       obtain ⟨p9,c9,e9,J⟩:=Cn.own (Z:=Eh fs.c F2 bt) b (λg hg=>⟨(b.lt g hg).2,λhf=>by have:=a3 g hf;have:=(b.lt g hg).1;omega,by have:=(b.lt g hg).1;omega⟩);cases e9;have K:∀ y∈lcl++[(⟨xp,V.path.list,xc,decide (V.clip=2)⟩:Bm)],Lh (Eh fs.c F2 bt) bt y:=λy hy=>(B4.1 hy).elim (λh=>(q y h).mv (Eh.mv (a ad))) (λh=>by rw [Ao.1 h];exact k3.mv (Eh.mv (a ad)))
       exact ⟨(pv,lcl++[(⟨xp,V.path.list,xc,decide (V.clip=2)⟩:Bm)],cv),⟨rfl,tT⟩,ad,bX,J,K,by rw [<- E,Bp,j,T.s];rfl,cS⟩)
    | exact ⟨(pvc,lcl,cvc),⟨rfl,tT⟩,ad,bX,G.mv (Eh.mv (a ad)),λy hy=>(q y hy).mv (Eh.mv (a ad)),by rw [<- E,j,T.s] <;> rfl,cS⟩
    refine Cw (L:=G0) (ps:=_) ([(⟨xp,V.path.list,xc,decide (V.clip=2)⟩:Bm)]) Fj K6 Qj rfl rfl rfl rfl rfl (by rfl) rfl rfl (λdS cT cU bY b5 gz=>?_);have eF:=Hr.same (w1:=cT) aN (λk hk hl=>b5.other k oO);have eG:=Bx cU A.lt;have cV:=A.un b5 eG;have d5:wJ.heap.size<=dS:=by rw [cU];exact o.size
    have bu:=CI o (Ik b5 d5);have d6:dS<=cT.heap.size:=by omega
    refine A0<|⟨tU,?_⟩;refine Aq 5 rfl<|Ai (Af (JY _) rfl cV rfl)<|A0<|⟨tU,?_⟩;refine Aq 6 rfl<|DO BQ rfl rfl ((Gv pvc lcl cvc _ (G.mv (Eh.mv (a bu))).row oO)) (λy fD a0=>?_);have gA:=BA d6 a0.1.size;have eH:=Hr.same (w1:=fD) eF (λk hk hl=>a0.1.block k hl);have eI:=cV.bl a0.1;have eJ:=Is (bY).rowp a0.1 (λh0=>(bY).rowp.lt h0);have cW:=kB bu a0.1;have hy:=a0.2;obtain ⟨yp,yc⟩:=y;have aZ:=bu.size;have u:=(a0.1).size;have i:=hy.lt;refine A0<|⟨tU,?_⟩;refine Aq 15 rfl<|CV Fj Ms rfl rfl rfl hy rfl eJ oE (u) rfl (λh=>D6 h (PA _ _)) (λh4 h5 aE bZ b' gC=>?_);have eK:=eI.below bZ oO;have eL:=Hr.same eH (λk hk hl=>b'.block k hl (λe=>by rcases hk with rfl | hk;(have:=i _ e.symm;omega);(have:=i _ e.symm;have:=aM _ hk;omega)));have eM:=CI cW (Ce b' (λg hg=>.inr (by have:=i g hg;omega)) cW.size);have dU:=BA u bZ.size;obtain ⟨pv,cv,evv,-⟩:=(aE).row;subst evv;refine A0<|⟨tU,?_⟩;refine Aa 16 rfl (.nck rfl) tU ?_;refine Aa 17 rfl (.fa BW rfl EL dD rfl) tU ?_;refine Aa 18 rfl (.fa Fv rfl Gg dD rfl) tU ?_;refine Aq 19 rfl<|CT 22 ((FA ⟨⟨ctm,fi,sk,pe,.slice pv (lcl++[(⟨xp,V.path.list,xc,decide (V.clip=2)⟩:Bm)]).length cv,fn,sz⟩,fo,sa,pa,aR,a1,lo,te,li,ar,itv⟩).toArray) eK Gg (λbw c0 aF gD=>?_) (h1:=(aE).one);have gE:=BA dU aF.size;have eN:=I4 aE aF (λg hg e=>by have:=(aE).lt g hg;omega);have cX:=Hr.same (w1:=bw) eL (λk hk hl=>aF.other k (λe=>by rcases hk with rfl | hk;exact ai e.symm;exact aj (e▸(Gc hk).symm)));have ae:=CI eM (by exact Hc aF (by simp));refine A0<|⟨tU,?_⟩;refine Bl kR ?_
    first
    | (have b := eN
       obtain ⟨p9,c9,e9,J⟩:=Cn.own (Z:=Eh fs.c F2 bw) b (λg hg=>⟨(b.lt g hg).2,λhf=>by have:=a3 g hf;have:=(b.lt g hg).1;omega,by have:=(b.lt g hg).1;omega⟩);cases e9;have K:∀ y∈lcl++[(⟨xp,V.path.list,xc,decide (V.clip=2)⟩:Bm)],Lh (Eh fs.c F2 bw) bw y:=λy hy=>(B4.1 hy).elim (λh=>(q y h).mv (Eh.mv (a ae))) (λh=>by rw [Ao.1 h];exact k3.mv (Eh.mv (a ae)))
       exact ⟨(pv,lcl++[(⟨xp,V.path.list,xc,decide (V.clip=2)⟩:Bm)],cv),⟨rfl,tT⟩,ae,c0,J,K,by rw [<- E,Bp,j,T.s];rfl,cX⟩)
    | exact ⟨(pvc,lcl,cvc),⟨rfl,tT⟩,ae,c0,G.mv (Eh.mv (a ae)),λy hy=>(q y hy).mv (Eh.mv (a ae)),by rw [<- E,j,T.s] <;> rfl,cX⟩
  have fm:=dF dw;have dx:=YI (v:=V) (by (simp only at *;omega));rw [dx,AQ (show (Except.ok V.s.clips:Except Int (List Bm))=.ok V.s.clips from rfl)] at E;refine Ap ?_
  first
  | (have b := OWN
     obtain ⟨p9,c9,e9,J⟩:=Cn.own (Z:=Eh fs.c F2 wJ) b (λg hg=>⟨(b.lt g hg).2,λhf=>by have:=a3 g hf;have:=(b.lt g hg).1;omega,by have:=(b.lt g hg).1;omega⟩);cases e9;have K:∀ y∈lcl++[(⟨xp,V.path.list,xc,decide (V.clip=2)⟩:Bm)],Lh (Eh fs.c F2 wJ) wJ y:=λy hy=>(B4.1 hy).elim (λh=>(q y h).mv (Eh.mv (a aT))) (λh=>by rw [Ao.1 h];exact k3.mv (Eh.mv (a aT)))
     exact ⟨(pv,lcl++[(⟨xp,V.path.list,xc,decide (V.clip=2)⟩:Bm)],cv),⟨rfl,tT⟩,aT,ah,J,K,by rw [<- E,Bp,j,T.s];rfl,cg⟩)
  | exact ⟨(pvc,lcl,cvc),⟨rfl,tT⟩,aT,ah,G.mv (Eh.mv (a aT)),λy hy=>(q y hy).mv (Eh.mv (a aT)),by rw [<- E,j,T.s] <;> rfl,cg⟩
  obtain ⟨⟨p3,L3,c3⟩,bz⟩:=eX t;subst bz;obtain ⟨m1,m2,m3,m4,m5,m6⟩:=hR;simp only at m2 m3 m4 m5;have gF:=AL.refl w1.heap.size [bv,pa,vb D pa] w1;have fE:=m1.size;refine A5<|A3 rfl<|A1 (.nck rfl)<|A1 (.fa BW rfl B6 dD rfl)<|CT 28 ((FA ⟨⟨ctm,fi,sk,pe,.slice p3 L3.length c3,fn,sz⟩,fo,sa,pa,0,a1,lo,te,li,ar,itv⟩).toArray) m2 B6 (λfF b6 c2 gG=>?_);have eO:=Hr.same (w1:=fF) m6 (λk hk hl=>c2.other k (λe=>by rcases hk with rfl | hk;exact ai e.symm;exact aj (e▸(Gc hk).symm)));have cY:=CI gF (by exact Hc c2 (by simp));refine A0<|Ak<|A3 rfl<|A1 (.nck rfl)<|A1 (.fa BW rfl Pf dD rfl)<|Ai (Af (PE _) rfl b6 rfl)<|As (A0I B pa 4096 D V2.path _ (eO).at') (λcm bx=>?_);have eP:=DB b6 bx.1 b6.lt (by simp only [Ax,AK,Cl,not_or,Bh];omega);have cZ:=CI cY (AL.wide bx.1 cY.size (by simp <;> omega));have gH:=bx.2;refine A0<|BU (BK rfl ?_);have f1:AL wJ.heap.size [bv,pa,vb D pa] wJ cm:=CI m1 (AL.mono cZ fE);obtain ⟨-,-,r3,r4,r5⟩:=b8.rest f1 _ g3;have f2:∀ g,GG bv ⟨⟨ctm,fi,sk,pe,.slice p3 L3.length c3,fn,sz⟩,fo,sa,pa,0,a1,lo,te,li,ar,itv⟩ (.slice none 0 0) g->F2 g:=λg hg=>by
    rw [du];rcases hg with h1 | h1 | h1 | h1
    · exact .inl h1
    · exact .inr (.inl h1)
    · cases h1
    · exact .inr (.inr (.inr h1))
  have f3:Dw F2 (GG bv ⟨⟨ctm,fi,sk,pe,.slice p3 L3.length c3,fn,sz⟩,fo,sa,pa,0,a1,lo,te,li,ar,itv⟩ (.slice none 0 0)) wJ cm:=CA f1 (λg hg=>.inl (aU g hg)) (λg hg=>.inl (f2 g hg));have gI:Dw F2 (GG bv ⟨⟨ctm,fi,sk,pe,.slice p3 L3.length c3,fn,sz⟩,fo,sa,pa,0,a1,lo,te,li,ar,itv⟩ (.slice none 0 0)) w1 cm:=CA cZ (λg hg=>.inl (aU g hg)) (λg hg=>.inl (f2 g hg));rw [<- m5];refine GX _ _ rfl rfl ⟨rfl,_,⟨_,.slice none 0 0,fk,g1,g2,rfl,⟨eP,gH,r3 dD,r4 dD,r5 dD,b8.lbv,b8.lbp⟩,?_⟩,Qz k2 f3⟩;have hq:=bf.mv (Eh.mv (c:=fs.c) f3);have f4:=Eh.mv (c:=fs.c) gI;have f5:=hq.st;rw [T.s] at f5;exact { hq with st:={ f5 with clips:=⟨p3,c3,L3,rfl,m3.mv f4,λy hy=>(m4 y hy).mv f4,rfl⟩ },clip:=rfl }
end
end
section
theorem A5m {V V1:Vw} {args:List PV} {op:l8_} {l:List Int} (h0:Dt args 0=.ok l) (h1:IY V op=.ok V1):Jo V args op =
  if op=[83]\/op=[115] then DY V1 0 true else if op=[102]\/op=[70] then DY V1 1 false else if op=[102,42] then DY V1 2 false
  else if op=[66]\/op=[98] then DY V1 1 true else if op=[66,42]\/op=[98,42] then DY V1 2 true else DY V1 0 false:=(AQ h0).trans (AQ h1)
theorem A2P {V:Vw} {args:List PV} {op:l8_} {l:List Int} {k:Int} (h0:Dt args 0=.ok l) (h1:IY V op=.error k):Jo V args op=.error k:=(AQ h0).trans (AF h1)
theorem Uc {V:Vw}:NZ V=(Dg (GA 4096 V.path)>>=λp=>.ok (KB V p)):=rfl
section
variable {B:Nat} {fs:QD} {w w1:World} {bv:Nat} {F:Nat->Prop} {V:Vw} {args:List PV}
theorem A1V (op:l8_) (h:Ga B fs w bv F V args) (ha:args.length<=32) (hsn:EM V) :
  Calls Tryz.prog 55 #[ptV bv,.string (bs op)] w (VwE B fs bv F w (Jo V args op) args):=by
 obtain ⟨aP,ar⟩:=h.base
 have ag:=h.lt
 have L:=Iq.of h
 have i:∀ {F1:Nat->Prop} {w1:World},Dw F F1 w w1->Below B w w1:=λh=>h.below ar (λg hg=>(ag g hg).1)
 refine Av func55 rfl ntmps55 ?_
 have ab:=Dw.refl F w
 refine A5<|A3 rfl<|WL.cx BQ rfl rfl ((Fs 0 (L).get ha oO)) (λk3 w1 x J=>?_) (λa2 x4 w1 x J=>?_)
 have aa:=Cr ab J
 exact AE (DG k3 (AF x) (i aa))
 have N:=Kc (w1:=w1) L (λk hk hl=>J.1.block k hl)
 have P:=Cr ab J.1
 have ac:=x
 refine A0<|De (α:=(Nat->Prop) × Vw) (λt=>[(0,ptV bv),(1,.string (bs op))]) (λt w'=>Ga B fs w' bv t.1 t.2 args/\Dw F t.1 w w'/\IY V op=.ok t.2) ?_ (λt w1 hR=>?_)
 refine A5<|A3 rfl<|A0<|AU<|De (α:=Bool) (λt=>[(0,ptV bv),(1,.string (bs op)),(7,.bool t)]) (λt w'=>w1=w'/\t=decide (op=[115]\/op=[98]\/op=[98,42])) ?_ (λt w1 hR=>?_)
 refine A5<|A1 (.eqs rfl rfl)<|Ab rfl<|Ae rfl (λh7=>?_) (λh7=>?_)
 have au:=dT h7
 refine Ap ?_
 exact ⟨_,⟨rfl,rfl,rfl,tT⟩,rfl,by simp_all⟩
 have au:=dF h7
 refine A5<|A1 (.eqs rfl rfl)<|Ab rfl<|Ae rfl (λh8=>?_) (λh8=>?_)
 have av:=dT h8
 refine Ap ?_
 exact ⟨_,⟨rfl,rfl,rfl,tT⟩,rfl,by simp_all⟩
 have av:=dF h8
 refine Ak<|A1 (.eqs rfl rfl)<|Ab rfl ?_
 exact ⟨_,⟨rfl,rfl,rfl,tT⟩,rfl,by simp_all⟩
 obtain ⟨rfl,rfl⟩:=hR
 refine Ae rfl (λh9=>?_) (λh9=>?_)
 have aw:=dT h9
 have Q:op=[115]\/op=[98]\/op=[98,42]:=dT aS
 obtain ⟨H,vp,its,hs,cs,ad,hO,ax⟩:=(N).get.mem
 have ay:=hO.blk
 refine Ak<|A3 rfl<|A1 (.nck rfl)<|A1 (.fa BW rfl Pf dD rfl)<|Ai (Af (PE _) rfl ay rfl)<|As (Pm B H.path 4096 vp V.path _ hO.pth) (λaQ ah=>?_)
 obtain ⟨hK,v1,az,aA⟩:=ah
 obtain ⟨F1,c,ae⟩:=Ga.setPath hO (ad▸ax) hK az aA
 rw [<- ad] at ae
 have c:=Iq.of c
 have T:=Qz P ae
 refine By BQ rfl rfl ((IT _ _)) (λaB af j l=>?_) (λaR af j l=>?_)
 have U:=Cr T l
 exact AE (DG aB (A2P ac ((A7 Q).trans (AF (Gu j)))) (i U))
 have X:=Kc (w1:=af) c (λk hk hl=>l.block k hl)
 have Y:=Cr T l
 refine A0<|?_
 first
 | exact ⟨(F1,_),⟨rfl,rfl,tT⟩,(X).get,Y,(A7 Q).trans (Uc.trans (AQ (GR j)))⟩
 | exact ⟨(F,V),⟨rfl,rfl,tT⟩,(X).get,Y,A2 (dF aS)⟩
 have aw:=dF h9
 refine Ap ?_
 first
 | exact ⟨(F1,_),⟨rfl,rfl,tT⟩,(N).get,P,(A7 Q).trans (Uc.trans (AQ (GR j)))⟩
 | exact ⟨(F,V),⟨rfl,rfl,tT⟩,(N).get,P,A2 (dF aS)⟩
 obtain ⟨⟨F1,V1⟩,aC⟩:=eX t
 subst aC
 obtain ⟨j1,e,K⟩:=hR
 simp only at j1 e K
 have c:=j1
 have hD:=A5m ac K
 have f:EM V1:=by
  unfold IY at K
  split at K;exact NY hsn K;cases K;exact hsn
 refine A5<|A3 rfl<|A0<|AU<|De (α:=Bool) (λt=>[(0,ptV bv),(17,.string (bs op)),(20,.bool t)]) (λt w'=>w1=w'/\t=decide (op=[83]\/op=[115])) ?_ (λt w1 hR=>?_)
 refine A5<|A1 (.eqs rfl rfl)<|Ab rfl<|Ae rfl (λa0=>?_) (λa0=>?_)
 have ai:=dT a0
 first | rw [A7 (dT aS)] at hD | skip
 refine Ap ?_
 exact ⟨_,⟨rfl,rfl,rfl,tT⟩,rfl,by simp_all⟩
 have ai:=dF a0
 first | rw [A2 (dF aS)] at hD | skip
 refine Ak<|A1 (.eqs rfl rfl)<|Ab rfl ?_
 exact ⟨_,⟨rfl,rfl,rfl,tT⟩,rfl,by simp_all⟩
 obtain ⟨rfl,rfl⟩:=hR
 refine Ae rfl (λa1=>?_) (λa1=>?_)
 have aj:=dT a1
 first | rw [A7 (dT aS)] at hD | skip
 refine Ak<|A3 rfl<|WL.cx BQ rfl rfl ((IE 0 true c f dD)) (λaD aE m y=>?_) (λaT aU aE m y=>?_)
 exact AE (DG aD (hD.trans m) (EU (i e) y))
 obtain ⟨rfl,F2,a,d⟩:=y
 have b:=hD.trans m
 refine A0<|BU (BK rfl ?_)
 exact GX _ _ b rfl ⟨rfl,F2,a,Qz e d⟩
 have aj:=dF a1
 first | rw [A2 (dF aS)] at hD | skip
 refine De (α:=Bool) (λt=>[(0,ptV bv),(17,.string (bs op)),(25,.bool t)]) (λt w'=>w1=w'/\t=decide (op=[102]\/op=[70])) ?_ (λt w1 hR=>?_)
 refine A5<|A1 (.eqs rfl rfl)<|Ab rfl<|Ae rfl (λa3=>?_) (λa3=>?_)
 have ak:=dT a3
 first | rw [A7 (dT aS)] at hD | skip
 refine Ap ?_
 exact ⟨_,⟨rfl,rfl,rfl,tT⟩,rfl,by simp_all⟩
 have ak:=dF a3
 first | rw [A2 (dF aS)] at hD | skip
 refine Ak<|A1 (.eqs rfl rfl)<|Ab rfl ?_
 exact ⟨_,⟨rfl,rfl,rfl,tT⟩,rfl,by simp_all⟩
 obtain ⟨rfl,rfl⟩:=hR
 refine Ae rfl (λa4=>?_) (λa4=>?_)
 have al:=dT a4
 first | rw [A7 (dT aS)] at hD | skip
 refine Ak<|A3 rfl<|WL.cx BQ rfl rfl ((IE 1 false c f dD)) (λaF aG o A=>?_) (λaV aW aG o A=>?_)
 exact AE (DG aF (hD.trans o) (EU (i e) A))
 obtain ⟨rfl,F2,a,d⟩:=A
 have b:=hD.trans o
 refine A0<|BU (BK rfl ?_)
 exact GX _ _ b rfl ⟨rfl,F2,a,Qz e d⟩
 have al:=dF a4
 first | rw [A2 (dF aS)] at hD | skip
 refine A5<|A1 (.eqs rfl rfl)<|Ab rfl<|Ae rfl (λa5=>?_) (λa5=>?_)
 have am:=dT a5
 rw [A7 aS] at hD
 refine Ak<|A3 rfl<|WL.cx BQ rfl rfl ((IE 2 false c f dD)) (λaH aI q C=>?_) (λaX aY aI q C=>?_)
 exact AE (DG aH (hD.trans q) (EU (i e) C))
 obtain ⟨rfl,F2,a,d⟩:=C
 have b:=hD.trans q
 refine A0<|BU (BK rfl ?_)
 exact GX _ _ b rfl ⟨rfl,F2,a,Qz e d⟩
 have am:=dF a5
 rw [A2 aS] at hD
 refine De (α:=Bool) (λt=>[(0,ptV bv),(17,.string (bs op)),(34,.bool t)]) (λt w'=>w1=w'/\t=decide (op=[66]\/op=[98])) ?_ (λt w1 hR=>?_)
 refine A5<|A1 (.eqs rfl rfl)<|Ab rfl<|Ae rfl (λa6=>?_) (λa6=>?_)
 have an:=dT a6
 first | rw [A7 (dT aS)] at hD | skip
 refine Ap ?_
 exact ⟨_,⟨rfl,rfl,rfl,tT⟩,rfl,by simp_all⟩
 have an:=dF a6
 first | rw [A2 (dF aS)] at hD | skip
 refine Ak<|A1 (.eqs rfl rfl)<|Ab rfl ?_
 exact ⟨_,⟨rfl,rfl,rfl,tT⟩,rfl,by simp_all⟩
 obtain ⟨rfl,rfl⟩:=hR
 refine Ae rfl (λa7=>?_) (λa7=>?_)
 have ao:=dT a7
 first | rw [A7 (dT aS)] at hD | skip
 refine Ak<|A3 rfl<|WL.cx BQ rfl rfl ((IE 1 true c f dD)) (λaJ aK s D=>?_) (λaZ a' aK s D=>?_)
 exact AE (DG aJ (hD.trans s) (EU (i e) D))
 obtain ⟨rfl,F2,a,d⟩:=D
 have b:=hD.trans s
 refine A0<|BU (BK rfl ?_)
 exact GX _ _ b rfl ⟨rfl,F2,a,Qz e d⟩
 have ao:=dF a7
 first | rw [A2 (dF aS)] at hD | skip
 refine De (α:=Bool) (λt=>[(0,ptV bv),(17,.string (bs op)),(39,.bool t)]) (λt w'=>w1=w'/\t=decide (op=[66,42]\/op=[98,42])) ?_ (λt w1 hR=>?_)
 refine A5<|A1 (.eqs rfl rfl)<|Ab rfl<|Ae rfl (λa8=>?_) (λa8=>?_)
 have ap:=dT a8
 first | rw [A7 (dT aS)] at hD | skip
 refine Ap ?_
 exact ⟨_,⟨rfl,rfl,rfl,tT⟩,rfl,by simp_all⟩
 have ap:=dF a8
 first | rw [A2 (dF aS)] at hD | skip
 refine Ak<|A1 (.eqs rfl rfl)<|Ab rfl ?_
 exact ⟨_,⟨rfl,rfl,rfl,tT⟩,rfl,by simp_all⟩
 obtain ⟨rfl,rfl⟩:=hR
 refine Ae rfl (λa9=>?_) (λa9=>?_)
 have aq:=dT a9
 first | rw [A7 (dT aS)] at hD | skip
 refine Ak<|A3 rfl<|WL.cx BQ rfl rfl ((IE 2 true c f dD)) (λaL aM u E=>?_) (λb0 b1 aM u E=>?_)
 exact AE (DG aL (hD.trans u) (EU (i e) E))
 obtain ⟨rfl,F2,a,d⟩:=E
 have b:=hD.trans u
 refine A0<|BU (BK rfl ?_)
 exact GX _ _ b rfl ⟨rfl,F2,a,Qz e d⟩
 have aq:=dF a9
 first | rw [A2 (dF aS)] at hD | skip
 refine Ak<|A3 rfl<|WL.cx BQ rfl rfl ((IE 0 false c f dD)) (λaN aO v G=>?_) (λb2 b3 aO v G=>?_)
 exact AE (DG aN (hD.trans v) (EU (i e) G))
 obtain ⟨rfl,F2,a,d⟩:=G
 have b:=hD.trans v
 refine A0<|BU (BK rfl ?_)
 exact GX _ _ b rfl ⟨rfl,F2,a,Qz e d⟩
end
end
section
theorem ZD {α:Type} {q:α->Bool}:∀ {l:List α} {i:Nat} (hi:i<l.length),(∀ j (h:j<l.length),j<i->q l[j]=false)->q l[i]=true->l.find? q=some l[i]
 | x::l,0,_,_,h=>by
  rw [B3] at h ⊢
  rw [List.find?_cons,h]
 | x::l,i+1,hi,hn,h=>by
  have h0:=hn 0 (by simp) oO
  rw [B3] at h0
  rw [HS] at h ⊢
  rw [List.find?_cons,h0]
  exact ZD (by simpa using hi) (λj hj hji=>by have:=hn (j+1) (by simpa using hj) oO;simpa using this) h
theorem A61  {q:α->Bool} {l:List α} (hn:∀ j (h:j<l.length),q l[j]=false):l.find? q=none:=by
 rw [List.find?_eq_none]
 intro x hx
 obtain ⟨j,hj,rfl⟩:=List.mem_iff_getElem.1 hx
 rw [hn j hj];decide
theorem SU {F:FuncId} (hF:Dq Tryz.prog F) (cap:Array Value) (p:Option Addr) (l:List LO) (c:Nat) (q:LO->Bool) (w:World) (hr:Bi ftL w p l) (hl:l.length<=9223372036854775807)
  (hq:∀ j (h:j<l.length) w1,AD w w1->Calls Tryz.prog F (#[]++[Value.agg (ftV l[j]).toArray].toArray++cap) w1 λe w'=>e=.returned (.bool (q l[j]))/\AD w1 w') :
  Calls Tryz.prog 97 #[.slice p l.length c,.func (.func F) #[] cap] w λe w'=>∃ r:Int,e=.returned (Ah r)/\((r=-1/\l.find? q=none)\/∃ j,∃ h:j<l.length,r=j/\l.find? q=some l[j])/\AD w w':=by
 refine Av func97 rfl ntmps97 ?_
 have g:=DR w
 refine A5<|Ab rfl<|Aj<|A5<|A3 rfl<|A1 (.lenS A1Z rfl)<|A3 rfl<|A0<|AU<|Cf (α:=Nat) (λt=>[(0,.slice p l.length c),(1,.func (.func F) #[] cap),(7,Ah (l.length:Int)),(8,Ah (t:Int))]) (λt w'=>AD w w'/\Bi ftL w' p l/\t<=l.length/\∀ j (h:j<l.length),j<t->q l[j]=false) (λt=>l.length-t) (0) ⟨rfl,rfl,rfl,rfl,tT⟩ (⟨g,hr,G8 _,λj _ h=>D6 h oO⟩) (λt w1 hR=>?_)
 obtain ⟨i,rfl⟩:=eX t
 obtain ⟨hT,hb1,hi,a⟩:=hR
 refine A5<|A1 (.lss rfl rfl)<|A0<|Aj<|Ae rfl (λf=>?_) (λf=>?_)
 have k:=dT f
 refine Ap<|Aj<|AU<|A5<|A3 rfl<|Ab rfl<|A5<|A3 rfl<|A3 rfl<|A3 rfl<|A1 (.ixm A1Z sizeOf53 rfl rfl (hb1.isp oO) (i) (rfl) oO)<|Ai (Dy underlying53 rfl A8R hb1 (i) oO rfl)<|YP hF rfl rfl rfl rfl (hq i oO _ hT) (λv b=>?_)
 have m:=Is hb1 b (λo=>hb1.lt o)
 have d:=DN hT b
 refine A0<|Ae rfl (λs=>?_) (λs=>?_)
 refine A5<|A3 rfl<|Ab rfl<|AI ?_
 exact ⟨_,rfl,.inr ⟨i,oO,rfl,ZD oO a aS⟩,d⟩
 refine Ap<|Ak<|A1 (.iis (((i+1:Nat):Int)) (.add rfl rfl (Bn oO)) oO)<|A3 rfl<|A0<|?_
 exact ⟨i+1,⟨rfl,rfl,rfl,rfl,tT⟩,⟨d,m,oM,λj h hj=>by
  rcases Cp.1 hj with u | rfl;exact a j h u
  assumption⟩,oM⟩
 have k:=dF f
 refine C7<|A5<|Ab rfl<|AI ?_
 exact ⟨_,rfl,.inl ⟨rfl,A61 (λj h=>a j h oO)⟩,hT⟩
theorem Ud {fs:List LO} {V:Vw} {args:List PV} (h:∀ a b,args=[a,b]->ND a=4->False):IZ fs V args=.error 22:=by
 unfold IZ
 split
 ·
  next a b =>
  have:ND a≠4:=λe=>h a b rfl e
  rw [An this];rfl
 · rfl
def chF (V:Vw) (n:Int) (o:Option LO):Except Int Vw:=match o with
 | none=>.error 26
 | some f=>.ok { V with s:={ V.s with font:=f.font,size:=n } }
theorem A48 {fs:List LO} {V:Vw} {args:List PV} (h:args.length=2) (h4:ND args[0]=4) :
  IZ fs V args=(CS (EE args[1]).2>>=λ_=>chF V (EE args[1]).1 (fs.find? λf=>decide (f.name=TI args[0]))):=by
 match args,h with
 | [a,b],_ =>
  have h4:ND a=4:=h4
  show (CS (decide (ND a=4))>>=λ_=>CS (EE b).2>>=λ_=>_)=_
  rw [Al h4]
  rfl
section
variable {B:Nat} {fs:QD} {w:World} {bv:Nat} {F:Nat->Prop} {V:Vw} {args:List PV}
theorem Xy {H:QA} {cs:List PC} {bc:Nat} (f:LO) (hbk:Be w bv (FA H).toArray 74) (ha:H.args=.slice p cs.length c) (hr:Bi NF w p cs) (h0:0<cs.length) (h1:Be w bc #[ptV bv] 65) :
  Calls Tryz.prog 98 #[.agg (ftV f).toArray,ptV bc] w λe w'=>e=.returned (.bool (decide (f.name=(cs[0]).text)))/\AD w w':=by
 obtain ⟨s,fo,sa,pa,cl,it,lo,te,li,ar,itv⟩:=H
 simp only at ha
 subst ha
 refine Av func98 rfl ntmps98 ?_
 have v:=DR w
 refine A5<|D5 rfl rfl (λx q o a l D=>?_)
 have y:=Bx o h1.lt
 have j:=h1.un l y
 have A:=Bx o hbk.lt
 have k:=hbk.un l A
 have t:=λh0=>o▸hr.lt h0
 have B:=Bi.upd hr l (λh0=>IU (t h0))
 have C:=uB v o l
 refine Ab rfl<|Aj<|DD 11 rfl Ci (λw'=>w'.heap[bc]?=q.heap[bc]?/\w'.heap[bv]?=q.heap[bv]?/\w'.heap[x]?=q.heap[x]?/\Bi NF w' p cs/\True) (λE m=>?_)
 have d:=j.drew m
 have g:=k.drew m
 have i:=a.drew m
 have b:=B.drew m
 have u:=Df.below C m
 refine Aa 0 rfl (.fa underlying53 rfl M1 dD rfl) ⟨(d).trans (j).symm,(g).trans (k).symm,(i).trans (a).symm,b,tT⟩ ?_
 refine C8 1 rfl (λw' hw'=>Af (Li _) rfl ((hw'.2.2.1).trans a) rfl) ⟨(d).trans (j).symm,(g).trans (k).symm,(i).trans (a).symm,b,tT⟩ rfl ?_
 refine C8 2 rfl (λw' hw'=>Af (UY _) rfl ((hw'.1).trans j) rfl) ⟨(d).trans (j).symm,(g).trans (k).symm,(i).trans (a).symm,b,tT⟩ rfl ?_
 refine Aa 3 rfl (.nck rfl) ⟨(d).trans (j).symm,(g).trans (k).symm,(i).trans (a).symm,b,tT⟩ ?_
 refine Aa 4 rfl (.fa BW rfl F8 dD rfl) ⟨(d).trans (j).symm,(g).trans (k).symm,(i).trans (a).symm,b,tT⟩ ?_
 refine C8 5 rfl (λw' hw'=>Af (He _) rfl ((hw'.2.1).trans k) rfl) ⟨(d).trans (j).symm,(g).trans (k).symm,(i).trans (a).symm,b,tT⟩ rfl ?_
 refine Aa 6 rfl (.ixm Fi II rfl rfl (b.isp oO) (0) (rfl) oO) ⟨(d).trans (j).symm,(g).trans (k).symm,(i).trans (a).symm,b,tT⟩ ?_
 refine Aa 7 rfl (.fa CO rfl M1 dD rfl) ⟨(d).trans (j).symm,(g).trans (k).symm,(i).trans (a).symm,b,tT⟩ ?_
 refine C8 8 rfl (λw' hw'=>AS (Li _) rfl (((hw'.2.2.2.1).field (0) oO 2 dD).trans rfl)) ⟨(d).trans (j).symm,(g).trans (k).symm,(i).trans (a).symm,b,tT⟩ rfl ?_
 refine Aa 9 rfl (.eqs rfl rfl) ⟨(d).trans (j).symm,(g).trans (k).symm,(i).trans (a).symm,b,tT⟩ ?_
 refine Aa 10 rfl (.as rfl) ⟨(d).trans (j).symm,(g).trans (k).symm,(i).trans (a).symm,b,tT⟩ ?_
 refine Bl kR<|AI ?_
 exact ⟨rfl,u⟩
theorem A09 (h:Ga B fs w bv F V args) (ha:args.length<=32) :
  Calls Tryz.prog 70 #[ptV bv] w (VwE B fs bv F w (IZ fs.fs V args) args):=by
 obtain ⟨a',b0⟩:=h.base
 obtain ⟨H,vp,its,hs,cs,rfl,hO,hR⟩:=h.mem
 have av:=hO.blk
 have aw:=hR.ar
 have b2:=hO.oa
 obtain ⟨pf,cf,ef,a3⟩:=hR.fonts
 have aC:=@EC B fs w
 obtain ⟨s,fo,sa,pa,cl,it,lo,te,li,ar,itv⟩:=H
 obtain ⟨p,c,e,hr,-⟩:=b2.row
 simp only at e ef
 subst e
 subst ef
 have ac:=aw.1
 have E:=aw.kn
 have b3:fs.fs.length<=9223372036854775807:=by have h1:=a3.sl.le;have h2:=a3.sl.cap;unfold maxLen at h2;omega
 have ax:0<fs.fs.length->(pA pf).block≠bv:=λk e=>(a3.inn k).2.1 (.inl e)
 have ad:=a3.row
 have a4:∀ w1,AL w.heap.size [bv] w w1->Below B w w1:=λw1 hK=>hK.below b0 (by simpa using a')
 refine Av func70 rfl ntmps70 ?_
 have ay:=AL.refl w.heap.size ([bv]) w
 refine A5<|D5 rfl rfl (λb1 bg a5 J K bf=>?_)
 have b4:=Bx a5 av.lt
 have a6:=av.un K b4
 have aD:=λk=>a5▸hr.lt k
 have G:=Bi.upd hr K (λk=>IU (aD k))
 have aE:=λk=>a5▸ad.lt k
 have a7:=Bi.upd ad K (λk=>IU (aE k))
 have ap:=DW a5 ay.size
 have a8:=CI ay (Ik K ap)
 refine A0<|De (α:=Unit) (λt=>[(0,ptV bv),(1,ptV b1)]) (λt w'=>AL w.heap.size [bv] w w'/\Be w' bv (FA ⟨s,.slice pf fs.fs.length cf,sa,pa,cl,it,lo,te,li,.slice p cs.length c,itv⟩).toArray 74/\Be w' b1 #[ptV bv] 65/\Bi NF w' p cs/\Bi ftL w' pf fs.fs/\∃ v:cs.length=2,cs[0].kind=4) ?_ (λt w1 hR=>?_)
 refine Ak<|Ai (Af (UY _) rfl J rfl)<|A1 (.nck rfl)<|A1 (.fa BW rfl F8 dD rfl)<|Ai (Af (He _) rfl a6 rfl)<|A1 (.lenS Fi rfl)<|A1 (.eql rfl rfl)<|A3 rfl<|B5 rfl rfl rfl (λl=>?_) (λl=>?_)
 have b5:=dT l
 refine Ai (Af (UY _) rfl J rfl)<|Au l<|A1 (.nck rfl)<|Au l<|A1 (.fa BW rfl F8 dD rfl)<|Au l<|Ai (Af (He _) rfl a6 rfl)<|Au l<|A1 (.ixm Fi II rfl rfl (G.isp oO) 0 rfl oO)<|Au l<|A1 (.fa CO rfl B6 dD rfl)<|Au l<|Ai (AS (BE _) rfl ((G.field (0) oO 0 dD).trans rfl))<|Au l<|A1 (.eql rfl rfl)<|A1 (.pkT rfl l rfl)<|By BQ rfl rfl ((Dn _ _)) (λbh b6 L o=>?_) (λbi b6 L o=>?_)
 have ae:=kB a8 o
 obtain ⟨af,rfl⟩:=Dl L
 exact AE (DG 22 (Ud λa b ho h6=>by
  subst ho;have v:cs.length=2:=ac;obtain ⟨q1,q2,-⟩:=E 0 oO (by simp);simp only [B3] at q1 q2
  first
   | omega
   | (rw [Aw] at af;omega)) (a4 _ ae))
 have aF:=a6.bl o
 have aG:=J.bl o
 have aH:=Is G o (λk=>G.lt k)
 have aI:=Is a7 o (λk=>a7.lt k)
 have aJ:=kB a8 o
 have a9:=Ea L
 have v:cs.length=2:=by omega
 have aa:cs[0].kind=4:=by exact dT a9
 refine A0<|?_
 exact ⟨(),⟨rfl,rfl,tT⟩,aJ,aF,aG,aH,aI,v,aa⟩
 have b5:=dF l
 refine Ac l<|Ac l<|Ac l<|Ac l<|Ac l<|Ac l<|Ac l<|A1 (.pkF rfl l rfl)<|By BQ rfl rfl ((Dn _ _)) (λbj b7 P q=>?_) (λbk b7 P q=>?_)
 have ag:=kB a8 q
 obtain ⟨af,rfl⟩:=Dl P
 exact AE (DG 22 (Ud λa b ho h6=>by
  subst ho;have v:cs.length=2:=ac;obtain ⟨q1,q2,-⟩:=E 0 oO (by simp);simp only [B3] at q1 q2
  first
   | omega
   | (rw [Aw] at af;omega)) (a4 _ ag))
 have aK:=a6.bl q
 have aL:=J.bl q
 have aM:=Is G q (λk=>G.lt k)
 have aN:=Is a7 q (λk=>a7.lt k)
 have aO:=kB a8 q
 have a9:=Ea P
 have v:cs.length=2:=by exact D6 a9 dD
 have aa:cs[0].kind=4:=by exact D6 a9 dD
 refine A0<|?_
 exact ⟨(),⟨rfl,rfl,tT⟩,aO,aK,aL,aM,aN,v,aa⟩
 obtain ⟨j1,j2,az,j3,aA,v,aa⟩:=hR
 have b8:args.length=2:=by omega
 have hD:=A48 (fs:=fs.fs) (V:=V) b8 (by have:=(E 0 oO oO).1;omega)
 have b9:Ha cs[1].kind cs[1].n=EE args[1]:=by rw [<- Pt,(E 1 oO oO).1,(E 1 oO oO).2.1]
 have hT:TI args[0]=cs[0].text:=(E 0 oO oO).2.2
 rw [hT] at hD
 generalize EE args[1]=ph at *
 obtain ⟨ph,phB⟩:=ph
 simp only at hD
 refine A5<|Ai (Af (UY _) rfl az rfl)<|A1 (.nck rfl)<|A1 (.fa BW rfl F8 dD rfl)<|Ai (Af (He _) rfl j2 rfl)<|A1 (.ixm Fi II rfl rfl (j3.isp oO) (1) (rfl) oO)<|Ai (Dy CO rfl Bb j3 (1) oO rfl)<|As (Kg cs[1] _) (λbm x=>?_)
 have aP:=j2.bl x
 have aQ:=az.bl x
 have ah:=Is j3 x (λk=>j3.lt k)
 have ai:=Is aA x (λk=>aA.lt k)
 have aj:=kB j1 x
 rw [b9]
 refine A3 rfl<|A1 (.ext rfl rfl)<|A1 (.ext rfl rfl)<|DA rfl<|Ab rfl<|A5<|A3 rfl<|By BQ rfl rfl ((Dn _ _)) (λba bb Q u=>?_) (λbn bb Q u=>?_)
 have ak:=kB aj u
 exact AE (DG ba (by rw [hD];exact AF Q) (a4 _ ak))
 have T:=aP.bl u
 have U:=aQ.bl u
 have al:=Is ah u (λk=>ah.lt k)
 have a2:=Is ai u (λk=>ai.lt k)
 have aR:=kB aj u
 rw [AQ Q] at hD
 refine A0<|A5<|Ai (Af (UY _) rfl U rfl)<|A1 (.nck rfl)<|A1 (.fa BW rfl sizeOf25 dD rfl)<|Ai (Af (isAgg25 _) rfl T rfl)<|A1 (.mkFv rfl)<|DO BQ rfl rfl ((SU BQ _ pf fs.fs cf (λf=>decide (f.name=cs[0].text)) _ a2 b3 (λj hj wx hb=>Xy fs.fs[j] ((T).below hb (T).lt) rfl ((al).below hb (al).lt) oO ((U).below hb (U).lt)))) (λr bc y=>?_)
 have aS:=T.bl y.2
 have d:=U.bl y.2
 have aT:=Is a2 y.2 (λk=>a2.lt k)
 have am:=kB aR y.2
 have aB:=y.1
 refine Ab rfl<|Aj<|A5<|A3 rfl<|A1 (.lss rfl rfl)<|A0<|Ae rfl (λan=>?_) (λan=>?_)
 have aU:=dT an
 refine Ak<|A1 (.mkI Mc rfl)<|FE rfl (AE ?_)
 obtain ⟨-,ab⟩ | ⟨j,hj,rfl,ab⟩:=aB
 exact DG 26 (by rw [hD,ab];rfl) (a4 _ am)
 exfalso;omega
 have aU:=dF an
 obtain ⟨bo,-⟩ | ⟨j,hj,rfl,ab⟩:=aB
 exfalso;omega
 rw [ab] at hD
 refine Ap<|DD 19 rfl Ci (λw'=>w'.heap[b1]?=bc.heap[b1]?/\Bi ftL w' pf fs.fs/\True) (λbp X=>?_)
 have ao:=aS.drew X
 have i:=d.drew X
 have g:=aT.drew X
 have aV:=CI am (QL X)
 refine C8 0 rfl (λw' hw'=>Af (UY _) rfl ((hw'.1).trans d) rfl) ⟨(i).trans (d).symm,g,tT⟩ rfl ?_
 refine C8 1 rfl (λw' hw'=>Af (UY _) rfl ((hw'.1).trans d) rfl) ⟨(i).trans (d).symm,g,tT⟩ rfl ?_
 refine C8 2 rfl (λw' hw'=>Af (UY _) rfl ((hw'.1).trans d) rfl) ⟨(i).trans (d).symm,g,tT⟩ rfl ?_
 refine Aa 3 rfl (.nck rfl) ⟨(i).trans (d).symm,g,tT⟩ ?_
 refine Aa 4 rfl (.fa BW rfl sizeOf25 dD rfl) ⟨(i).trans (d).symm,g,tT⟩ ?_
 refine Aa 6 rfl (.mv rfl) ⟨(i).trans (d).symm,g,tT⟩ ?_
 refine Aa 10 rfl (.mv rfl) ⟨(i).trans (d).symm,g,tT⟩ ?_
 refine Aq 5 rfl<|Ai (Af (isAgg25 _) rfl ao rfl)<|A0<|⟨⟨(i).trans (d).symm,g,tT⟩,?_⟩
 refine Aa 7 rfl (.ixm A1Z sizeOf53 rfl rfl (g.isp oO) (j) (rfl) oO) ⟨(i).trans (d).symm,g,tT⟩ ?_
 refine Aa 8 rfl (.fa underlying53 rfl B6 dD rfl) ⟨(i).trans (d).symm,g,tT⟩ ?_
 refine Aq 9 rfl<|Ai (AS (BE _) rfl ((g.field (j) oO 1 dD).trans rfl))<|A0<|⟨⟨(i).trans (d).symm,g,tT⟩,?_⟩
 refine Aa 11 rfl (.nck rfl) ⟨(i).trans (d).symm,g,tT⟩ ?_
 refine Aa 12 rfl (.fa BW rfl EL dD rfl) ⟨(i).trans (d).symm,g,tT⟩ ?_
 refine Aa 13 rfl (.fa Fv rfl B6 dD rfl) ⟨(i).trans (d).symm,g,tT⟩ ?_
 refine Aq 14 rfl<|CT 23 ((FA ⟨{ s with font:=fs.fs[j].font },.slice pf fs.fs.length cf,sa,pa,cl,it,lo,te,li,.slice p cs.length c,itv⟩).toArray) ao B6 (λbq aq a0 bd=>?_)
 have C:=i.up a0
 have D:=Bi.upd g a0 (ax)
 have aW:=CI aV (by exact Hc a0 (by simp))
 refine A0<|⟨⟨(C).trans (d).symm,D,tT⟩,?_⟩
 refine Aa 15 rfl (.nck rfl) ⟨(C).trans (d).symm,D,tT⟩ ?_
 refine Aa 16 rfl (.fa BW rfl EL dD rfl) ⟨(C).trans (d).symm,D,tT⟩ ?_
 refine Aa 17 rfl (.fa Fv rfl B6 dD rfl) ⟨(C).trans (d).symm,D,tT⟩ ?_
 refine Aq 18 rfl<|CT 24 ((FA ⟨{ s with font:=fs.fs[j].font,size:=ph },.slice pf fs.fs.length cf,sa,pa,cl,it,lo,te,li,.slice p cs.length c,itv⟩).toArray) aq B6 (λbt au a1 be=>?_)
 have aX:=C.up a1
 have aY:=Bi.upd D a1 (ax)
 have aZ:=CI aW (by exact Hc a1 (by simp))
 refine A0<|⟨⟨(aX).trans (d).symm,aY,tT⟩,?_⟩
 refine Bl kR<|BU (BK rfl ?_)
 refine GX _ _ hD rfl ⟨rfl,aC hO aZ au (λm=>?_)⟩
 have hq:=hR.mv m
 exact { hq with st:={ hq.st with font:=rfl,size:=rfl } }
end
end
section
def A6N:l8_:=[48,50,55,56,48,50,55,56,48,51,53,53,48,53,53,54,48,53,53,54,48,56,56,57,48,54,54,55,48,50,50,50,48,51,51,51,48,51,51,51,48,51,56,57,48,53,56,52,48,50,55,56,48,51,51,51,48,50,55,56,48,50,55,56,48,53,53,54,48,53,53,54,48,53,53,54,48,53,53,54,48,53,53,54,48,53,53,54,48,53,53,54,48,53,53,54,48,53,53,54,48,53,53,54,48,50,55,56,48,50,55,56,48,53,56,52,48,53,56,52,48,53,56,52,48,53,53,54,49,48,49,53,48,54,54,55,48,54,54,55,48,55,50,50,48,55,50,50,48,54,54,55,48,54,49,49,48,55,55,56,48,55,50,50,48,50,55,56,48,53,48,48,48,54,54,55,48,53,53,54,48,56,51,51,48,55,50,50,48,55,55,56,48,54,54,55,48,55,55,56,48,55,50,50,48,54,54,55,48,54,49,49,48,55,50,50,48,54,54,55,48,57,52,52,48,54,54,55,48,54,54,55,48,54,49,49,48,50,55,56,48,50,55,56,48,50,55,56,48,52,54,57,48,53,53,54,48,50,50,50,48,53,53,54,48,53,53,54,48,53,48,48,48,53,53,54,48,53,53,54,48,50,55,56,48,53,53,54,48,53,53,54,48,50,50,50,48,50,50,50,48,53,48,48,48,50,50,50,48,56,51,51,48,53,53,54,48,53,53,54,48,53,53,54,48,53,53,54,48,51,51,51,48,53,48,48,48,50,55,56,48,53,53,54,48,53,48,48,48,55,50,50,48,53,48,48,48,53,48,48,48,53,48,48,48,51,51,52,48,50,54,48,48,51,51,52,48,53,56,52]
def A3K:l8_:=[48,50,55,56,48,51,51,51,48,52,55,52,48,53,53,54,48,53,53,54,48,56,56,57,48,55,50,50,48,50,55,56,48,51,51,51,48,51,51,51,48,51,56,57,48,53,56,52,48,50,55,56,48,51,51,51,48,50,55,56,48,50,55,56,48,53,53,54,48,53,53,54,48,53,53,54,48,53,53,54,48,53,53,54,48,53,53,54,48,53,53,54,48,53,53,54,48,53,53,54,48,53,53,54,48,51,51,51,48,51,51,51,48,53,56,52,48,53,56,52,48,53,56,52,48,54,49,49,48,57,55,53,48,55,50,50,48,55,50,50,48,55,50,50,48,55,50,50,48,54,54,55,48,54,49,49,48,55,55,56,48,55,50,50,48,50,55,56,48,53,53,54,48,55,50,50,48,54,49,49,48,56,51,51,48,55,50,50,48,55,55,56,48,54,54,55,48,55,55,56,48,55,50,50,48,54,54,55,48,54,49,49,48,55,50,50,48,54,54,55,48,57,52,52,48,54,54,55,48,54,54,55,48,54,49,49,48,51,51,51,48,50,55,56,48,51,51,51,48,53,56,52,48,53,53,54,48,50,55,56,48,53,53,54,48,54,49,49,48,53,53,54,48,54,49,49,48,53,53,54,48,51,51,51,48,54,49,49,48,54,49,49,48,50,55,56,48,50,55,56,48,53,53,54,48,50,55,56,48,56,56,57,48,54,49,49,48,54,49,49,48,54,49,49,48,54,49,49,48,51,56,57,48,53,53,54,48,51,51,51,48,54,49,49,48,53,53,54,48,55,55,56,48,53,53,54,48,53,53,54,48,53,48,48,48,51,56,57,48,50,56,48,48,51,56,57,48,53,56,52]
def A8Z:l8_:=[48,50,53,48,48,51,51,51,48,52,48,56,48,53,48,48,48,53,48,48,48,56,51,51,48,55,55,56,48,51,51,51,48,51,51,51,48,51,51,51,48,53,48,48,48,53,54,52,48,50,53,48,48,51,51,51,48,50,53,48,48,50,55,56,48,53,48,48,48,53,48,48,48,53,48,48,48,53,48,48,48,53,48,48,48,53,48,48,48,53,48,48,48,53,48,48,48,53,48,48,48,53,48,48,48,50,55,56,48,50,55,56,48,53,54,52,48,53,54,52,48,53,54,52,48,52,52,52,48,57,50,49,48,55,50,50,48,54,54,55,48,54,54,55,48,55,50,50,48,54,49,49,48,53,53,54,48,55,50,50,48,55,50,50,48,51,51,51,48,51,56,57,48,55,50,50,48,54,49,49,48,56,56,57,48,55,50,50,48,55,50,50,48,53,53,54,48,55,50,50,48,54,54,55,48,53,53,54,48,54,49,49,48,55,50,50,48,55,50,50,48,57,52,52,48,55,50,50,48,55,50,50,48,54,49,49,48,51,51,51,48,50,55,56,48,51,51,51,48,52,54,57,48,53,48,48,48,51,51,51,48,52,52,52,48,53,48,48,48,52,52,52,48,53,48,48,48,52,52,52,48,51,51,51,48,53,48,48,48,53,48,48,48,50,55,56,48,50,55,56,48,53,48,48,48,50,55,56,48,55,55,56,48,53,48,48,48,53,48,48,48,53,48,48,48,53,48,48,48,51,51,51,48,51,56,57,48,50,55,56,48,53,48,48,48,53,48,48,48,55,50,50,48,53,48,48,48,53,48,48,48,52,52,52,48,52,56,48,48,50,48,48,48,52,56,48,48,53,52,49]
def A6M:l8_:=[48,50,53,48,48,51,51,51,48,53,53,53,48,53,48,48,48,53,48,48,49,48,48,48,48,56,51,51,48,51,51,51,48,51,51,51,48,51,51,51,48,53,48,48,48,53,55,48,48,50,53,48,48,51,51,51,48,50,53,48,48,50,55,56,48,53,48,48,48,53,48,48,48,53,48,48,48,53,48,48,48,53,48,48,48,53,48,48,48,53,48,48,48,53,48,48,48,53,48,48,48,53,48,48,48,51,51,51,48,51,51,51,48,53,55,48,48,53,55,48,48,53,55,48,48,53,48,48,48,57,51,48,48,55,50,50,48,54,54,55,48,55,50,50,48,55,50,50,48,54,54,55,48,54,49,49,48,55,55,56,48,55,55,56,48,51,56,57,48,53,48,48,48,55,55,56,48,54,54,55,48,57,52,52,48,55,50,50,48,55,55,56,48,54,49,49,48,55,55,56,48,55,50,50,48,53,53,54,48,54,54,55,48,55,50,50,48,55,50,50,49,48,48,48,48,55,50,50,48,55,50,50,48,54,54,55,48,51,51,51,48,50,55,56,48,51,51,51,48,53,56,49,48,53,48,48,48,51,51,51,48,53,48,48,48,53,53,54,48,52,52,52,48,53,53,54,48,52,52,52,48,51,51,51,48,53,48,48,48,53,53,54,48,50,55,56,48,51,51,51,48,53,53,54,48,50,55,56,48,56,51,51,48,53,53,54,48,53,48,48,48,53,53,54,48,53,53,54,48,52,52,52,48,51,56,57,48,51,51,51,48,53,53,54,48,53,48,48,48,55,50,50,48,53,48,48,48,53,48,48,48,52,52,52,48,51,57,52,48,50,50,48,48,51,57,52,48,53,50,48]
def A6L:l8_:=[48,50,53,48,48,51,51,51,48,52,50,48,48,53,48,48,48,53,48,48,48,56,51,51,48,55,55,56,48,51,51,51,48,51,51,51,48,51,51,51,48,53,48,48,48,54,55,53,48,50,53,48,48,51,51,51,48,50,53,48,48,50,55,56,48,53,48,48,48,53,48,48,48,53,48,48,48,53,48,48,48,53,48,48,48,53,48,48,48,53,48,48,48,53,48,48,48,53,48,48,48,53,48,48,48,51,51,51,48,51,51,51,48,54,55,53,48,54,55,53,48,54,55,53,48,53,48,48,48,57,50,48,48,54,49,49,48,54,49,49,48,54,54,55,48,55,50,50,48,54,49,49,48,54,49,49,48,55,50,50,48,55,50,50,48,51,51,51,48,52,52,52,48,54,54,55,48,53,53,54,48,56,51,51,48,54,54,55,48,55,50,50,48,54,49,49,48,55,50,50,48,54,49,49,48,53,48,48,48,53,53,54,48,55,50,50,48,54,49,49,48,56,51,51,48,54,49,49,48,53,53,54,48,53,53,54,48,51,56,57,48,50,55,56,48,51,56,57,48,52,50,50,48,53,48,48,48,51,51,51,48,53,48,48,48,53,48,48,48,52,52,52,48,53,48,48,48,52,52,52,48,50,55,56,48,53,48,48,48,53,48,48,48,50,55,56,48,50,55,56,48,52,52,52,48,50,55,56,48,55,50,50,48,53,48,48,48,53,48,48,48,53,48,48,48,53,48,48,48,51,56,57,48,51,56,57,48,50,55,56,48,53,48,48,48,52,52,52,48,54,54,55,48,52,52,52,48,52,52,52,48,51,56,57,48,52,48,48,48,50,55,53,48,52,48,48,48,53,52,49]
def A3J:l8_:=[48,50,53,48,48,51,56,57,48,53,53,53,48,53,48,48,48,53,48,48,48,56,51,51,48,55,55,56,48,51,51,51,48,51,51,51,48,51,51,51,48,53,48,48,48,53,55,48,48,50,53,48,48,51,51,51,48,50,53,48,48,50,55,56,48,53,48,48,48,53,48,48,48,53,48,48,48,53,48,48,48,53,48,48,48,53,48,48,48,53,48,48,48,53,48,48,48,53,48,48,48,53,48,48,48,51,51,51,48,51,51,51,48,53,55,48,48,53,55,48,48,53,55,48,48,53,48,48,48,56,51,50,48,54,54,55,48,54,54,55,48,54,54,55,48,55,50,50,48,54,54,55,48,54,54,55,48,55,50,50,48,55,55,56,48,51,56,57,48,53,48,48,48,54,54,55,48,54,49,49,48,56,56,57,48,55,50,50,48,55,50,50,48,54,49,49,48,55,50,50,48,54,54,55,48,53,53,54,48,54,49,49,48,55,50,50,48,54,54,55,48,56,56,57,48,54,54,55,48,54,49,49,48,54,49,49,48,51,51,51,48,50,55,56,48,51,51,51,48,53,55,48,48,53,48,48,48,51,51,51,48,53,48,48,48,53,48,48,48,52,52,52,48,53,48,48,48,52,52,52,48,51,51,51,48,53,48,48,48,53,53,54,48,50,55,56,48,50,55,56,48,53,48,48,48,50,55,56,48,55,55,56,48,53,53,54,48,53,48,48,48,53,48,48,48,53,48,48,48,51,56,57,48,51,56,57,48,50,55,56,48,53,53,54,48,52,52,52,48,54,54,55,48,53,48,48,48,52,52,52,48,51,56,57,48,51,52,56,48,50,50,48,48,51,52,56,48,53,55,48]
def Hy (i:Int):l8_:=if i=4\/i=6 then A6N else if i=5\/i=7 then A3K else if i=8 then A8Z else if i=9 then A6M else if i=10 then A6L else if i=11 then A3J else []
theorem A2h (i:Int):(Hy i).length=380\/Hy i=[]:=by
 unfold Hy
 repeat' split
 all_goals first | (right;rfl) | (left;kernel_rfl)
theorem Vz (i:Int):(Hy i).all (λd=>decide (48<=d.toNat) && decide (d.toNat<=57))=true:=by
 unfold Hy
 repeat' split
 all_goals kernel_rfl
def Sk:Int->l8_->Int
 | n,[]=>n
 | n,d::r=>Sk (10 * n+((d.toNat:Int)-48)) r
def Lk (i:Int) (c:UInt8):Int :=
 if i<0\/14<=i\/c.toNat<32\/126<c.toNat then 0 else if Hy i=[] then (if i=13 then 788 else 600) else Sk 0 (((Hy i).drop (4 * (c.toNat-32))).take 4)
def Gd (i:Int):Int->l8_->Int
 | n,[]=>n
 | n,c::r=>Gd i (n+Lk i c) r
theorem A1r {l:l8_} (h:i<l.length) (n:Int):Sk n (l.drop i)=Sk (10 * n+((l[i].toNat:Int)-48)) (l.drop (i+1)):=by rw [Ar h];rfl
theorem A0n {f:Int} {l:l8_} (h:i<l.length) (n:Int):Gd f n (l.drop i)=Gd f (n+Lk f l[i]) (l.drop (i+1)):=by rw [Ar h];rfl
theorem ZG:∀ (l:l8_) (n:Int),l.all (λd=>decide (48<=d.toNat) && decide (d.toNat<=57))=true->0<=n->0<=Sk n l/\Sk n l+1<=(n+1) * 10 ^ l.length
 | [],n,_,h0=>by simp [Sk];omega
 | d::r,n,h,h0=>by
  rw [B8,A4,A4,Ad,Ad] at h
  have ih:=ZG r (10 * n+((d.toNat:Int)-48)) h.2 oO
  rw [Sk]
  refine ⟨ih.1,Int.le_trans ih.2 ?_⟩
  rw [A8,Int.pow_succ,Int.mul_comm (10 ^ r.length) 10,<- Int.mul_assoc]
  exact Int.mul_le_mul_of_nonneg_right oO (Int.le_of_lt (Int.pow_pos dD))
theorem Xe  {q:α->Bool} {l:List α} (a b:Nat) (h:l.all q=true):((l.drop a).take b).all q=true:=by
 rw [At] at h ⊢
 exact λx hx=>h x (DL (DK hx))
theorem Tm (i:Int) (c:UInt8):0<=Lk i c/\Lk i c<=9999:=by
  unfold Lk
  split
  · omega
  · split
    · split <;> omega
    · have h := ZG (((Hy i).drop (4 * (c.toNat - 32))).take 4) 0 (Xe _ _ (Vz i)) oO
      have a:(((Hy i).drop (4 * (c.toNat-32))).take 4).length<=4:=by rw [AT];omega
      have b:(10:Int) ^ (((Hy i).drop (4 * (c.toNat-32))).take 4).length<=10000:=by
        generalize (((Hy i).drop (4 * (c.toNat-32))).take 4).length=n at a
        match n,a with
        | 0,_=>decide
        | 1,_=>decide
        | 2,_=>decide
        | 3,_=>decide
        | 4,_=>decide
      omega
theorem R8 (i:Int):∀ (l:l8_) (n:Int),0<=n->n<=Gd i n l/\Gd i n l<=n+9999 * (l.length:Int)
 | [],n,h=>by simp [Gd]
 | c::r,n,h=>by
  have h1:=Tm i c
  have ih:=R8 i r (n+Lk i c) oO
  rw [Gd,A8]
  omega
theorem A2J {n:Nat} (h:n<=4):(10:Int) ^ n<=10000:=by
 match n,h with
 | 0,_=>decide
 | 1,_=>decide
 | 2,_=>decide
 | 3,_=>decide
 | 4,_=>decide
theorem Yy (i:Int) (w:World):Calls Tryz.prog 170 #[Ah i] w λe w'=>e=.returned (.string (bs (Hy i)))/\w=w':=by
 refine Av func170 rfl ntmps170<|A5<|Ab rfl<|Aj<|A5<|A3 rfl<|A0<|AU<|De (α:=Bool) (λt=>[(3,Ah i),(4,.bool t)]) (λt w'=>w=w'/\t=decide (i=4\/i=6)) ?_ (λt y hR=>?_)
 refine A5<|A1 (.eql rfl rfl)<|Ab rfl<|Ae rfl (λa=>?_) (λa=>?_)
 have l:=dT a
 refine Ap ?_
 exact ⟨_,⟨rfl,rfl,tT⟩,rfl,by simp_all⟩
 have l:=dF a
 refine Ak<|A1 (.eql rfl rfl)<|Ab rfl ?_
 exact ⟨_,⟨rfl,rfl,tT⟩,rfl,by simp_all⟩
 obtain ⟨rfl,rfl⟩:=hR
 refine Ae rfl (λb=>?_) (λb=>?_)
 have m:=dT b
 refine A5<|Ab rfl<|AI ?_
 exact ⟨Dc (by rw [show Hy i=A6N by unfold Hy;rw [A7 aS]];kernel_rfl),rfl⟩
 have m:=dF b
 refine De (α:=Bool) (λt=>[(3,Ah i),(7,.bool t)]) (λt w'=>w=w'/\t=decide (i=5\/i=7)) ?_ (λt y hR=>?_)
 refine A5<|A1 (.eql rfl rfl)<|Ab rfl<|Ae rfl (λc=>?_) (λc=>?_)
 have o:=dT c
 refine Ap ?_
 exact ⟨_,⟨rfl,rfl,tT⟩,rfl,by simp_all⟩
 have o:=dF c
 refine Ak<|A1 (.eql rfl rfl)<|Ab rfl ?_
 exact ⟨_,⟨rfl,rfl,tT⟩,rfl,by simp_all⟩
 obtain ⟨rfl,rfl⟩:=hR
 refine Ae rfl (λd=>?_) (λd=>?_)
 have q:=dT d
 refine A5<|Ab rfl<|AI ?_
 exact ⟨Dc (by rw [show Hy i=A3K by unfold Hy;rw [A2 aS,A7 aS]];kernel_rfl),rfl⟩
 have q:=dF d
 refine A5<|A1 (.eql rfl rfl)<|Ab rfl<|Ae rfl (λf=>?_) (λf=>?_)
 have s:=dT f
 refine A5<|Ab rfl<|AI ?_
 exact ⟨Dc (by rw [show Hy i=A8Z by unfold Hy;rw [A2 aS,A2 aS,A7 aS]];kernel_rfl),rfl⟩
 have s:=dF f
 refine A5<|A1 (.eql rfl rfl)<|Ab rfl<|Ae rfl (λg=>?_) (λg=>?_)
 have u:=dT g
 refine A5<|Ab rfl<|AI ?_
 exact ⟨Dc (by rw [show Hy i=A6M by unfold Hy;rw [A2 aS,A2 aS,A2 aS,A7 aS]];kernel_rfl),rfl⟩
 have u:=dF g
 refine A5<|A1 (.eql rfl rfl)<|Ab rfl<|Ae rfl (λj=>?_) (λj=>?_)
 have v:=dT j
 refine A5<|Ab rfl<|AI ?_
 exact ⟨Dc (by rw [show Hy i=A6L by unfold Hy;rw [A2 aS,A2 aS,A2 aS,A2 aS,A7 aS]];kernel_rfl),rfl⟩
 have v:=dF j
 refine A5<|A1 (.eql rfl rfl)<|Ab rfl<|Ae rfl (λk=>?_) (λk=>?_)
 have x:=dT k
 refine A5<|Ab rfl<|AI ?_
 exact ⟨Dc (by rw [show Hy i=A3J by unfold Hy;rw [A2 aS,A2 aS,A2 aS,A2 aS,A2 aS,A7 aS]];kernel_rfl),rfl⟩
 have x:=dF k
 refine Ap<|A5<|Ab rfl<|AI ?_
 exact ⟨Dc (by rw [show Hy i=[] by unfold Hy;rw [A2 aS,A2 aS,A2 aS,A2 aS,A2 aS,A2 aS]];rfl),rfl⟩
theorem Yz (i:Int) (c:UInt8) (w:World):C9 139 #[Ah i,.int .u8 (c.toNat:Int)] w (Ah (Lk i c)):=by
 refine Av func139 rfl ntmps139 ?_
 have a:=DR w
 refine A5<|Ab rfl<|Aj<|Fx 23 (decide (i<0\/14<=i\/c.toNat<32\/126<c.toNat)) ?_ ?_
 refine Ak<|A3 rfl<|A1 (.lss rfl rfl)<|A3 rfl<|B5 rfl rfl rfl (λb=>?_) (λb=>?_)
 have D:=dF b
 refine A3 rfl<|Au b<|A1 (.geq rfl rfl)<|A1 (.pkF rfl b rfl)<|A3 rfl<|B5 rfl rfl rfl (λd=>?_) (λd=>?_)
 have E:=dF d
 refine A3 rfl<|Au d<|A1 (.lss rfl rfl)<|A1 (.pkF rfl d rfl)<|A3 rfl<|B5 rfl rfl rfl (λf=>?_) (λf=>?_)
 have F:=dF f
 refine A3 rfl<|Au f<|A1 (.gtr rfl rfl)<|A1 (.pkF rfl f rfl)<|A0<|?_
 exact ⟨Gm (CD rfl (by (rw [B1];simp;omega))),rfl⟩
 have F:=dT f
 refine Ac f<|A1 (.pkT rfl f rfl)<|A0<|?_
 exact ⟨Gm (CD rfl (by (rw [B1];simp;omega))),rfl⟩
 have E:=dT d
 refine Ac d<|A1 (.pkT rfl d rfl)<|A3 rfl<|Ac rfl<|Ac rfl<|A1 (.pkT rfl rfl rfl)<|A0<|?_
 exact ⟨Gm (CD rfl (by (rw [B1];simp;omega))),rfl⟩
 have D:=dT b
 refine Ac b<|A1 (.pkT rfl b rfl)<|A3 rfl<|Ac rfl<|Ac rfl<|A1 (.pkT rfl rfl rfl)<|A3 rfl<|Ac rfl<|Ac rfl<|A1 (.pkT rfl rfl rfl)<|A0<|?_
 exact ⟨Gm (CD rfl (by (rw [B1];simp;omega))),rfl⟩
 refine Ae rfl (λs=>?_) (λs=>?_)
 have G:=dT s
 have g:=dT (show decide (i<0\/14<=i\/c.toNat<32\/126<c.toNat)=true by assumption)
 refine A5<|Ab rfl<|AI ?_
 exact ⟨Dc (Bk _ (A7 g).symm),a⟩
 have G:=dF s
 have g:=dF (show decide (i<0\/14<=i\/c.toNat<32\/126<c.toNat)=false by assumption)
 have hD:Lk i c=if Hy i=[] then (if i=13 then 788 else 600) else Sk 0 (((Hy i).drop (4 * (c.toNat-32))).take 4):=A2 g
 refine Ap<|A5<|A3 rfl<|As (Yy i _) (λw5 H=>?_)
 obtain rfl:=H
 refine Ab rfl<|Aj<|A5<|A3 rfl<|A1 (.bis (decide (Hy i=[])) (.eqs rfl rfl) (by rfl))<|A0<|Ae rfl (λu=>?_) (λu=>?_)
 have J:=dT u
 rw [A7 (dT aS)] at hD
 refine Aj<|A5<|A3 rfl<|A1 (.eql rfl rfl)<|A0<|Ae rfl (λv=>?_) (λv=>?_)
 have K:=dT v
 rw [A7 aS] at hD
 refine A5<|Ab rfl<|AI ?_
 exact ⟨Dc (by rw [hD]),a⟩
 have K:=dF v
 rw [A2 aS] at hD
 refine Ap<|A5<|Ab rfl<|AI ?_
 exact ⟨Dc (by rw [hD]),a⟩
 have J:=dF u
 rw [A2 (dF aS)] at hD
 have a2:(Hy i).length=380:=(A2h i).resolve_right (dF aS)
 have o:=Xe (4 * (c.toNat-32)) 4 (Vz i)
 obtain ⟨L,hL⟩:=eX (((Hy i).drop (4 * (c.toNat-32))).take 4)
 have a7:L.length=4:=by rw [hL,AT,B9];omega
 rw [<- hL] at hD o
 have P:((Hy i).drop (4 * (c.toNat-32))).take (4 * (c.toNat-32)+4-4 * (c.toNat-32))=L:=by rw [hL,Nat.add_sub_cancel_left]
 refine Ap<|A5<|Ab rfl<|A5<|A3 rfl<|A1 (.sub rfl rfl (Un oO))<|A1 (.cvt Ln JL rfl (Bn oO))<|A1 (.iis (((4 * (c.toNat-32):Nat):Int)) (.mul rfl rfl (Bn oO)) oO)<|Ab rfl<|Aj<|A5<|A3 rfl<|A3 rfl<|A3 rfl<|A1 (.iis (((4 * (c.toNat-32)+4:Nat):Int)) (.add rfl rfl (Bn oO)) oO)<|A1 (.sis (L) (.slS JK rfl rfl rfl (4 * (c.toNat-32)) (4 * (c.toNat-32)+4) (rfl) (rfl) oO oO) (by exact P))<|A4o JK BI Ln rfl rfl (λQ a8 x q y a3 A a5=>?_)
 have T:=uB a q A
 have a4:=DW q a.size
 refine A1 (.lenS BI rfl)<|A3 rfl<|A0<|AU<|Cf (α:=Nat × Int) (λt=>[(6,Ah t.2),(39,.slice (some ⟨Q,0,none⟩) L.length x),(40,Ah (L.length:Int)),(41,Ah (t.1:Int))]) (λt w'=>AD w w'/\Ay w' (some ⟨Q,0,none⟩) L/\t.1<=4/\0<=t.2/\t.2+1<=10 ^ t.1/\Sk t.2 (L.drop t.1)=Sk 0 L) (λt=>L.length-t.1) ((0,0)) ⟨rfl,rfl,rfl,rfl,tT⟩ (⟨T,y,oO,dD,dD,rfl⟩) (λt w1 hR=>?_)
 obtain ⟨⟨j,n⟩,U⟩:=eX t
 subst U
 obtain ⟨V,B,X,q4,q5,m⟩:=hR
 simp only at X q4 q5 m
 have a6:=A2J X
 refine A5<|A1 (.lss rfl rfl)<|A0<|Aj<|Ae rfl (λk=>?_) (λk=>?_)
 have C:=dT k
 have l:j<L.length:=by omega
 have a0:=At.1 o L[j] (AM l)
 rw [A4,Ad,Ad] at a0
 have a1:=(A1r l n).symm.trans m
 refine Ap<|Aj<|AU<|A5<|A1 (.ixb BI Iy rfl rfl (B.isp oO) (j) (rfl) oO)<|Ai (AS (P3 _) rfl (B.cells (j) oO))<|Ab rfl<|Ak<|A3 rfl<|A1 (.mul rfl rfl (Bn oO))<|A3 rfl<|A1 (.sub rfl rfl (Un oO))<|A1 (.cvt Ln JL rfl (Bn oO))<|A1 (.iis (10 * n+((L[j].toNat:Int)-48)) (.add rfl rfl (Bn oO)) oO)<|Ab rfl<|Ak<|A1 (.iis (((j+1:Nat):Int)) (.add rfl rfl (Bn (by (try simp only) <;> omega))) oM)<|A3 rfl<|A0<|?_
 exact ⟨(j+1,10 * n+((L[j].toNat:Int)-48)),⟨rfl,rfl,rfl,rfl,tT⟩,⟨V,B,oM,oM,by show _<=(10:Int) ^ (j+1);rw [Int.pow_succ];((try simp only) <;> omega),a1⟩,oM⟩
 have C:=dF k
 have l:j=4:=by omega
 rw [List.drop_of_length_le oO] at m
 refine C7<|A5<|A3 rfl<|Ab rfl<|AI ?_
 exact ⟨Dc (by rw [hD,<- m];rfl),V⟩
theorem A3D (i:Int) (p:Option Addr) (l:l8_) (c:Nat) (w:World) (hr:Ay w p l) (hl:l.length<=100000000) :
  C9 102 #[Ah i,.slice p l.length c] w (Ah (Gd i 0 l)):=by
 have D:=hr.lt
 refine Av func102 rfl ntmps102 ?_
 have m:=DR w
 refine A5<|Ab rfl<|A5<|Ab rfl<|Aj<|A5<|A3 rfl<|A1 (.lenS BI rfl)<|A3 rfl<|A0<|AU<|Cf (α:=Nat × Int) (λt=>[(0,Ah i),(5,Ah t.2),(8,.slice p l.length c),(9,Ah (l.length:Int)),(10,Ah (t.1:Int))]) (λt w'=>AD w w'/\Ay w' p l/\t.1<=l.length/\0<=t.2/\t.2<=9999 * (t.1:Int)/\Gd i t.2 (l.drop t.1)=Gd i 0 l) (λt=>l.length-t.1) ((0,0)) ⟨rfl,rfl,rfl,rfl,rfl,tT⟩ (⟨m,hr,G8 _,dD,dD,rfl⟩) (λt E hR=>?_)
 obtain ⟨⟨j,n⟩,o⟩:=eX t
 subst o
 obtain ⟨q,b,y,A,B,d⟩:=hR
 simp only at y A B d
 refine A5<|A1 (.lss rfl rfl)<|A0<|Aj<|Ae rfl (λk=>?_) (λk=>?_)
 have s:=dT k
 have a:j<l.length:=by omega
 have hw:=Tm i l[j]
 have u:=(A0n (f:=i) a n).symm.trans d
 refine Ap<|Aj<|AU<|A5<|A1 (.ixb BI Iy rfl rfl (b.isp oO) (j) (rfl) oO)<|Ai (AS (P3 _) rfl (b.cells (j) oO))<|Ab rfl<|Ak<|A3 rfl<|A3 rfl<|A3 rfl<|As (Yz i l[j] _) (λF g=>?_)
 have v:=Hk b g (λC=>b.lt C)
 have x:=DN q g
 refine A1 (.add rfl rfl (Bn (by (try simp only) <;> omega)))<|Ab rfl<|Ak<|A1 (.iis (((j+1:Nat):Int)) (.add rfl rfl (Bn (by (try simp only) <;> omega))) oM)<|A3 rfl<|A0<|?_
 exact ⟨(j+1,n+Lk i l[j]),⟨rfl,rfl,rfl,rfl,rfl,tT⟩,⟨x,v,oM,oM,oM,u⟩,oM⟩
 have s:=dF k
 have a:j=l.length:=by omega
 rw [a,Fl] at d
 refine C7<|A5<|A3 rfl<|Ab rfl<|AI ?_
 exact ⟨Dc (by rw [<- d];rfl),q⟩
end
section
open Go.RowKit Go.WideShapes Go.ChangeShapes
theorem Iq.lt  {fs:QD} {F:Nat->Prop} {V:Vw} {args:List PV} (h:Iq N B fs w bv F V args) (hg:F g):B<=g/\g<w.heap.size:=h.get.lt g hg
theorem Iq.ltN  {fs:QD} {F:Nat->Prop} {V:Vw} {args:List PV} (h:Iq N B fs w bv F V args) (hg:F g):g<N:=by
 obtain ⟨b,rfl,a,-⟩:=h
 exact (a.lt g hg).2
theorem Iq.excl  {fs:QD} {b:Nat} {F:Nat->Prop} {V:Vw} {args:List PV} (h:Iq N B fs w bv F V args) (hb:N<=b) (hlt:b<w.heap.size):Ga B ⟨fs.fs,b⟩ w bv F V args:=by
 obtain ⟨a,rfl,f,d⟩:=h
 obtain ⟨H,vp,its,hs,cs,e,hO,hR⟩:=f.mem
 subst e
 have hs':=Jh.size (Q:=λ_=>True) ⟨a,rfl,trivial,d⟩
 refine ⟨H,vp,its,hs,cs,rfl,hO.same hs' λg hg=>d g (hO.inn g hg).2,?_⟩
 have m:Mv (Eh fs.c (GG bv H vp) a) (Eh b (GG bv H vp) w) a w:=⟨hs',λg hg=>⟨d g hg.1,C6 hg.1 hs',hg.2.1,by have:=hg.1;omega⟩⟩
 obtain ⟨p,c,i,j⟩:=hR.fonts
 exact ⟨hR.st.mv m,hR.sv.mv m,hR.it,λx hx=>(hR.itr x hx).mv m,hR.ar.mv m,hR.clip,hR.inText,hR.lost,hR.text,hR.line,⟨p,c,i,j.mv m⟩,hlt⟩
theorem VwR.own  {fs:QD} {F:Nat->Prop} {H:QA} {V:Vw} {args:List PV} {its:List AN} {hs:List Vf} {cs:List PC} (hR:VwR (Eh c F w) w H ⟨fs.fs,c⟩ V args its hs cs) (hfc:fs.c=bv) (hF:F1 bv) (hbv:bv<w1.heap.size)
  (m:Mv (Eh c F w) (Eh c F1 w1) w w1):VwR (Eh fs.c F1 w1) w1 H fs V args its hs cs:=by
 have a:Mv (Eh c F w) (Eh fs.c F1 w1) w w1:=⟨m.1,λg hg=>⟨(m.2 g hg).1,(m.2 g hg).2.1,(m.2 g hg).2.2.1,λe=>(m.2 g hg).2.2.1 (by rw [e,hfc];exact hF)⟩⟩
 obtain ⟨p,c,b,d⟩:=hR.fonts
 exact ⟨hR.st.mv a,hR.sv.mv a,hR.it,λx hx=>(hR.itr x hx).mv a,hR.ar.mv a,hR.clip,hR.inText,hR.lost,hR.text,hR.line,⟨p,c,b,d.mv a⟩,by rw [hfc];exact hbv⟩
theorem Dw.keep  {F:Nat->Prop} {S:List Nat} {wJ:World} (h:Dw F F1 w wJ) (hK:AL wJ.heap.size S wJ w2) (hS:∀ g∈S,F1 g\/w.heap.size<=g):Dw F F1 w w2 :=
 ⟨hK.os.trans h.os,hK.tape.trans h.tape,hK.output.trans h.output,BA h.size hK.size,λk hk hf=>(hK.block k (C6 hk h.size) λhm=>by
  rcases hS k hm with h1 | h1
  ·
   rcases h.new k h1 with h2 | h2
   · exact hf h2
   · omega
  · omega).trans (h.block k hk hf),h.new⟩
theorem A6l {v v1:Vw} {x:AN} (h:FG v x=.ok v1):v1={ v with items:=v1.items }:=by
 unfold FG at h
 obtain ⟨u,-,h⟩:=Cd h
 cases h
 rfl
theorem Lw  {V:Vw} {args:List PV} (h:∀ a,args=[a]->(decide (ND a=5) && decide (V.s.font ≥ 0) && !V.lost)=true->False):FX sum V args=.error 22:=by
 unfold FX
 split
 ·
  next a =>
  have:(decide (ND a=5) && decide (V.s.font ≥ 0) && !V.lost)=false:=by
   cases hx:(decide (ND a=5) && decide (V.s.font ≥ 0) && !V.lost) with
   | false=>rfl
   | true=>exact (h a rfl hx).elim
  rw [this];rfl
 · rfl
theorem A17  {V:Vw} {args:List PV} (h:args.length=1) (h4:(decide (ND args[0]=5) && decide (V.s.font ≥ 0) && !V.lost)=true) :
  FX sum V args=if TI args[0]=[] then .ok V else PR sum V (TI args[0]):=by
 match args,h with
 | [a],_ =>
  have h4:(decide (ND a=5) && decide (V.s.font ≥ 0) && !V.lost)=true:=h4
  show (CS (decide (ND a=5) && decide (V.s.font ≥ 0) && !V.lost)>>=λ_=>if TI a=[] then .ok V else PR sum V (TI a))=_
  rw [h4];rfl
theorem A6R (co:Cj) (f:Int) (m:M6) (p:Option Addr) (l:l8_) (c:Nat):Tryz.prog.built 44 [(0,Ah 4),(2,.agg (DV co).toArray),(5,Ah f),(6,.agg (M9 m).toArray),(7,.slice p l.length c)]=some (F4 ⟨4,none,[],0,co,none,[],0,K9,f,m.a,m.b,m.c,m.d,m.e,m.f,p,l,c⟩).toArray:=by kernel_rfl
theorem A6m  {n:Sh} {Q:Exit->Fr->World->Prop} {rest:List Oper} {ty:Nat} {src dst:TypeId} {l:l8_} (hlm:l.length<=maxLen)
  (hs:P.underlying src=some .string) (hd':P.underlying dst=some (.slice e)) (he:P.underlying e=some (.int .u8)) (hx:D3 f x=some (.string (bs l))) (hd:Nat.blt d n.n=true)
  (k:∀ b w1 c,b=w.heap.size->Ay w1 (some ⟨b,0,none⟩) l->l.length<=c/\c<=maxLen->E6 b w w1->w1.heap.size=b+1->WL P n ops Q rest ((d,.slice (some ⟨b,0,none⟩) l.length c)::f) w1) :
  WL P n ops Q (⟨some d,.convert src dst x,ty,pos,aft,none⟩::rest) f w:=by
 have g:=Lib.run_convert_string_bytes (P:=P) w src dst e (bs l) hs hd' he
 have a:(bs l).size=l.length:=by simp [bs,ByteArray.size]
 have hu:E6 w.heap.size w (Lib.bytesWorld w e (bs l)):=⟨rfl,rfl,rfl,by rw [Lib.bytesWorld_size];omega,λj hj=>by
  rcases BL j w.heap.size with h | h
  · exact Lib.bytesWorld_at_old w e (bs l) j h
  · rw [CL (by rw [Lib.bytesWorld_size];omega),CL h]⟩
 refine WL.run hd (w':=Lib.bytesWorld w e (bs l)) (v:=.slice (some ⟨w.heap.size,0,none⟩) l.length (grownCap w l.length 0 e)) (λρ hρ=>?_)
  (k _ _ _ rfl ⟨λ_=>rfl,λj hj=>?_⟩ ⟨grownCap_ge w l.length 0 e,grownCap_le_maxLen w l.length 0 e hlm⟩ hu (Lib.bytesWorld_size w e (bs l)))
 · unfold execOp;simp only [hρ _ _ hx,Bq,g,AX,CC,a]
 ·
  have i:(pA (some ⟨w.heap.size,0,none⟩)).add j=⟨w.heap.size,j,none⟩:=by
   show (⟨w.heap.size,0,none⟩:Addr).add j=_
   unfold Addr.add;split
   · next h=>rw [h]
   · simp
  rw [i,Lib.bytesWorld_cell w e (bs l) j (by rw [a];exact hj)];simp [bs,List.getD,hj]
section
variable {B:Nat} {fs:QD} {w w1:World} {bv:Nat} {F:Nat->Prop} {V:Vw} {args:List PV}
theorem Xx (h:Ga B fs w bv F V args) (ha:args.length<=32) (hb:∀ a∈args,(TI a).length<=65535) (hsn:EM V) (hfc:fs.c=bv) :
  Calls Tryz.prog 74 #[ptV bv] w (VwE B fs bv F w (FX (λf b=>Gd f 0 b) V args) args):=by
 obtain ⟨R,aP⟩:∃ R,FX (λf b=>Gd f 0 b) V args=R:=⟨_,rfl⟩
 rw [aP]
 obtain ⟨gr,fy⟩:=h.base
 have j:=h
 have eH:=h.lt
 obtain ⟨H,vp,its,hs,cs,gs,hO,aE⟩:=h.mem
 have b4:=Iq.of j
 have a0:=hO.blk
 have er:=aE.ar
 have aF:H.s.font=V.s.font:=aE.st.font
 have aQ:H.lost=V.lost:=aE.lost
 have es:H.s.fill=V.s.fill:=aE.st.fill
 have et:H.s.size=V.s.size:=aE.st.size
 have eu:H.s.ctm=V.s.ctm:=aE.st.ctm
 have ev:H.text=V.text:=aE.text
 obtain ⟨p,c,e,hr,-⟩:=hO.oa.row
 have b5:=er.1
 have bE:=er.kn
 have C:∀ {F1:Nat->Prop} {w1:World},Dw F F1 w w1->Below B w w1:=λh=>h.below fy (λg hg=>(eH g hg).1)
 have a0:Be w bv (FA { H with args:=.slice p cs.length c }).toArray 74:=by rw [<- e];exact a0
 obtain ⟨⟨ctm,fi,sk,pe,clv,fn,sz⟩,fo,sa,pa,ew,ex,lo,te,li,ar,itv⟩:=H
 simp only at e aF aQ es et eu ev a0
 subst e
 refine Av func74 rfl ntmps74 ?_
 have av:=Dw.refl F w
 refine De (α:=Unit) (λt=>[(0,ptV bv)]) (λt w'=>Iq w.heap.size B fs w' bv F V args/\Dw F F w w'/\Be w' bv (FA ⟨⟨ctm,fi,sk,pe,clv,fn,sz⟩,fo,sa,pa,ew,ex,lo,te,li,.slice p cs.length c,itv⟩).toArray 74/\Bi NF w' p cs/\(∃ D:cs.length=1,cs[0].kind=5)/\0<=fn/\lo=false) ?_ (λt w1 hR=>?_)
 refine Ak<|A3 rfl<|A1 (.nck rfl)<|A1 (.fa BW rfl F8 dD rfl)<|Ai (Af (He _) rfl a0 rfl)<|A1 (.lenS Fi rfl)<|A1 (.eql rfl rfl)<|A3 rfl<|B5 rfl rfl rfl (λG=>?_) (λG=>?_)
 have fz:=dT G
 refine A3 rfl<|Au G<|A1 (.nck rfl)<|Au G<|A1 (.fa BW rfl F8 dD rfl)<|Au G<|Ai (Af (He _) rfl a0 rfl)<|Au G<|A1 (.ixm Fi II rfl rfl (hr.isp oO) 0 rfl oO)<|Au G<|A1 (.fa CO rfl B6 dD rfl)<|Au G<|Ai (AS (BE _) rfl ((hr.field (0) oO 0 dD).trans rfl))<|Au G<|A1 (.eql rfl rfl)<|A1 (.pkT rfl G rfl)<|A3 rfl<|B5 rfl rfl rfl (λg2=>?_) (λg2=>?_)
 have fA:=dT g2
 refine A3 rfl<|Au g2<|A1 (.nck rfl)<|Au g2<|A1 (.fa BW rfl EL dD rfl)<|Au g2<|A1 (.fa Fv rfl B6 dD rfl)<|Au g2<|Ai (Af (BE _) rfl a0 rfl)<|Au g2<|A1 (.geq rfl rfl)<|A1 (.pkT rfl g2 rfl)<|A3 rfl<|B5 rfl rfl rfl (λg3=>?_) (λg3=>?_)
 have fB:=dT g3
 refine A3 rfl<|Au g3<|A1 (.nck rfl)<|Au g3<|A1 (.fa BW rfl P2 dD rfl)<|Au g3<|Ai (Af (g4_ _) rfl a0 rfl)<|Au g3<|A1 (.not rfl)<|A1 (.pkT rfl g3 rfl)<|By BQ rfl rfl ((Dn _ _)) (λk6 w4 bN aR=>?_) (λa5 w4 bN aR=>?_)
 have ds:=Cr av aR
 obtain ⟨a1,rfl⟩:=Dl bN
 exact AE (DG 22 (aP▸Lw λa ho hc=>by
  subst ho;have D:cs.length=1:=b5;obtain ⟨q1,q2,-⟩:=bE 0 oO (by simp);simp only [B3] at q1 q2;simp only [A4,Ad,AP] at hc
  first
   | omega
   | (have:=hc.1.2;rw [<- aF] at this;exact D6 this aS)
   | (simp [aQ,hc.2] at a1;done)
   | exact D6 a1 dD) (C ds))
 have fC:=Kc (w1:=w4) b4 (λk hk hl=>aR.block k hl)
 have fD:=a0.bl aR
 have fE:=Is hr aR (λj=>hr.lt j)
 have eI:=Cr av aR
 have u:=Ea bN
 have D:cs.length=1:=by omega
 have a3:cs[0].kind=5:=by omega
 have a9:0<=fn:=by omega
 have aa:lo=false:=by simpa using u
 refine A0<|?_
 exact ⟨(),⟨rfl,tT⟩,fC,eI,fD,fE,⟨D,a3⟩,a9,aa⟩
 have fB:=dF g3
 refine Ac g3<|Ac g3<|Ac g3<|Ac g3<|A1 (.pkF rfl g3 rfl)<|By BQ rfl rfl ((Dn _ _)) (λgt ey b6 aj=>?_) (λgv ey b6 aj=>?_)
 have cC:=Cr av aj
 obtain ⟨a1,rfl⟩:=Dl b6
 exact AE (DG 22 (aP▸Lw λa ho hc=>by
  subst ho;have D:cs.length=1:=b5;obtain ⟨q1,q2,-⟩:=bE 0 oO (by simp);simp only [B3] at q1 q2;simp only [A4,Ad,AP] at hc
  first
   | omega
   | (have:=hc.1.2;rw [<- aF] at this;exact D6 this aS)
   | (simp [aQ,hc.2] at a1;done)
   | exact D6 a1 dD) (C cC))
 have eJ:=Kc (w1:=ey) b4 (λk hk hl=>aj.block k hl)
 have eK:=a0.bl aj
 have eL:=Is hr aj (λj=>hr.lt j)
 have eM:=Cr av aj
 have u:=Ea b6
 have D:cs.length=1:=by exact D6 u dD
 have a3:cs[0].kind=5:=by exact D6 u dD
 have a9:0<=fn:=by exact D6 u dD
 have aa:lo=false:=by exact D6 u dD
 refine A0<|?_
 exact ⟨(),⟨rfl,tT⟩,eJ,eM,eK,eL,⟨D,a3⟩,a9,aa⟩
 have fA:=dF g2
 refine Ac g2<|Ac g2<|Ac g2<|Ac g2<|Ac g2<|A1 (.pkF rfl g2 rfl)<|A3 rfl<|Ac rfl<|Ac rfl<|Ac rfl<|Ac rfl<|Ac rfl<|A1 (.pkF rfl rfl rfl)<|By BQ rfl rfl ((Dn _ _)) (λgw ez b7 ak=>?_) (λgx ez b7 ak=>?_)
 have cD:=Cr av ak
 obtain ⟨a1,rfl⟩:=Dl b7
 exact AE (DG 22 (aP▸Lw λa ho hc=>by
  subst ho;have D:cs.length=1:=b5;obtain ⟨q1,q2,-⟩:=bE 0 oO (by simp);simp only [B3] at q1 q2;simp only [A4,Ad,AP] at hc
  first
   | omega
   | (have:=hc.1.2;rw [<- aF] at this;exact D6 this aS)
   | (simp [aQ,hc.2] at a1;done)
   | exact D6 a1 dD) (C cD))
 have eN:=Kc (w1:=ez) b4 (λk hk hl=>ak.block k hl)
 have eO:=a0.bl ak
 have eP:=Is hr ak (λj=>hr.lt j)
 have eQ:=Cr av ak
 have u:=Ea b7
 have D:cs.length=1:=by exact D6 u dD
 have a3:cs[0].kind=5:=by exact D6 u dD
 have a9:0<=fn:=by exact D6 u dD
 have aa:lo=false:=by exact D6 u dD
 refine A0<|?_
 exact ⟨(),⟨rfl,tT⟩,eN,eQ,eO,eP,⟨D,a3⟩,a9,aa⟩
 have fz:=dF G
 refine Ac G<|Ac G<|Ac G<|Ac G<|Ac G<|Ac G<|Ac G<|A1 (.pkF rfl G rfl)<|A3 rfl<|Ac rfl<|Ac rfl<|Ac rfl<|Ac rfl<|Ac rfl<|Ac rfl<|A1 (.pkF rfl rfl rfl)<|A3 rfl<|Ac rfl<|Ac rfl<|Ac rfl<|Ac rfl<|Ac rfl<|A1 (.pkF rfl rfl rfl)<|By BQ rfl rfl ((Dn _ _)) (λgz eA b8 am=>?_) (λgA eA b8 am=>?_)
 have cE:=Cr av am
 obtain ⟨a1,rfl⟩:=Dl b8
 exact AE (DG 22 (aP▸Lw λa ho hc=>by
  subst ho;have D:cs.length=1:=b5;obtain ⟨q1,q2,-⟩:=bE 0 oO (by simp);simp only [B3] at q1 q2;simp only [A4,Ad,AP] at hc
  first
   | omega
   | (have:=hc.1.2;rw [<- aF] at this;exact D6 this aS)
   | (simp [aQ,hc.2] at a1;done)
   | exact D6 a1 dD) (C cE))
 have eR:=Kc (w1:=eA) b4 (λk hk hl=>am.block k hl)
 have eS:=a0.bl am
 have eT:=Is hr am (λj=>hr.lt j)
 have eU:=Cr av am
 have u:=Ea b8
 have D:cs.length=1:=by exact D6 u dD
 have a3:cs[0].kind=5:=by exact D6 u dD
 have a9:0<=fn:=by exact D6 u dD
 have aa:lo=false:=by exact D6 u dD
 refine A0<|?_
 exact ⟨(),⟨rfl,tT⟩,eR,eU,eS,eT,⟨D,a3⟩,a9,aa⟩
 obtain ⟨j1,j2,j3,j4,⟨D,a3⟩,a9,aa⟩:=hR
 have fF:args.length=1:=by omega
 obtain ⟨qk,qn,qt⟩:=bE 0 oO oO
 have hD:=aP.symm.trans<|A17 (sum:=λf b=>Gd f 0 b) (V:=V) fF (by rw [qk,a3,<- aF,<- aQ,aa,Al (show fn ≥ 0 from a9)];rfl)
 have fG:=hb _ (AM (by omega:0<args.length))
 rw [qt] at hD fG
 refine A5<|A3 rfl<|A1 (.nck rfl)<|A1 (.fa BW rfl F8 dD rfl)<|Ai (Af (He _) rfl j3 rfl)<|A1 (.ixm Fi II rfl rfl (j4.isp oO) (0) (rfl) oO)<|A1 (.fa CO rfl M1 dD rfl)<|Ai (AS (Li _) rfl ((j4.field (0) oO 2 dD).trans rfl))<|A6m (by unfold maxLen;omega) JK BI Ln rfl rfl (λv cF a4 cG eV aw b9 ga=>?_)
 have cH:=Kc (w1:=cF) j1 (λk hk hl=>b9.other k oO)
 have eW:=Bx cG j3.lt
 have i:=j3.un b9 eW
 have cI:=DW cG j2.size
 have cJ:=Dw.upd j2 b9 cI
 have dt:¬ F v:=λhq=>by have a3:=(j1).lt hq;omega
 have ax:0<cs[0].text.length->¬ F (pA (some ⟨v,0,none⟩)).block:=λ_=>dt
 refine Ab rfl<|Aj<|A5<|A3 rfl<|A1 (.lenS BI rfl)<|A1 (.eql rfl rfl)<|A0<|Ae rfl (λcK=>?_) (λcK=>?_)
 have eY:=dT cK
 have aG:cs[0].text=[]:=CM oO
 rw [A7 aG] at hD
 refine B2 (BK rfl  ?_)
 rw [hD];exact GX _ _ rfl rfl ⟨rfl,F,(cH).get,cJ⟩
 have eY:=dF cK
 have aG:cs[0].text≠[]:=λe=>D6 (Bk List.length e) (by simp only [Ag];omega)
 have ba:0<cs[0].text.length:=by omega
 rw [A2 aG] at hD
 have hD:R=(LF (m6S sz sz) te>>=λm1=>LF m1 ctm>>=λm=>FG V (Il fi V.s.clips fn m cs[0].text)>>=λv1=>.ok { v1 with lost:=(L5 (λf b=>Gd f 0 b) V cs[0].text).2,text:=(L5 (λf b=>Gd f 0 b) V cs[0].text).1 }):=by
  rw [et,ev,eu,es,aF];exact hD
 refine Ap<|De (α:=Nat × M6) (λt=>[(0,ptV bv),(2,.slice (some ⟨v,0,none⟩) cs[0].text.length a4),(3,ptV t.1)]) (λt w'=>Iq w.heap.size B fs w' bv F V args/\Dw F F w w'/\Be w' bv (FA ⟨⟨ctm,fi,sk,pe,clv,fn,sz⟩,fo,sa,pa,ew,ex,lo,te,li,.slice p cs.length c,itv⟩).toArray 74/\Ay w' (some ⟨v,0,none⟩) cs[0].text/\Be w' t.1 (M9 t.2).toArray 42/\w.heap.size<=t.1/\v<t.1/\R=(FG V (Il fi V.s.clips fn t.2 cs[0].text)>>=λv1=>.ok { v1 with lost:=(L5 (λf b=>Gd f 0 b) V cs[0].text).2,text:=(L5 (λf b=>Gd f 0 b) V cs[0].text).1 })) ?_ (λt w1 hR=>?_)
 refine DD 24 rfl Ci (λw'=>w'.heap[bv]?=cF.heap[bv]?/\True) (λfH bb=>?_)
 have cL:=Kc (w1:=fH) cH (λk hk hl=>(by obtain ⟨m,rfl⟩:=bb;rfl))
 have bc:=i.drew bb
 have bd:=eV.drew bb
 have bO:=Dw.drew cJ bb
 have l:=Dr (bc.trans i.symm) BO
 refine Aa 0 rfl (.mv rfl) l ?_
 refine Aa 1 rfl (.nck rfl) l ?_
 refine Aa 2 rfl (.fa BW rfl EL dD rfl) l ?_
 refine Aa 3 rfl (.fa Fv rfl B6 dD rfl) l ?_
 refine C8 4 rfl (λw' hw'=>Af (BE _) rfl ((hw'.1).trans i) rfl) l rfl ?_
 refine Aa 5 rfl (.mv rfl) l ?_
 refine Aa 6 rfl (.nck rfl) l ?_
 refine Aa 7 rfl (.fa BW rfl EL dD rfl) l ?_
 refine Aa 8 rfl (.fa Fv rfl B6 dD rfl) l ?_
 refine C8 9 rfl (λw' hw'=>Af (BE _) rfl ((hw'.1).trans i) rfl) l rfl ?_
 refine Aa 11 rfl (.mv rfl) l ?_
 refine Aa 12 rfl (.nck rfl) l ?_
 refine Aa 13 rfl (.fa BW rfl HD dD rfl) l ?_
 refine C8 14 rfl (λw' hw'=>Cx (L:=Xt) DM rfl CY ((hw'.1).trans i) (te) (rfl) rfl) l rfl ?_
 refine Aa 16 rfl (.mv rfl) l ?_
 refine Aa 17 rfl (.nck rfl) l ?_
 refine Aa 18 rfl (.fa BW rfl EL dD rfl) l ?_
 refine Aa 19 rfl (.fa Fv rfl HD dD rfl) l ?_
 refine C8 20 rfl (λw' hw'=>Cx (L:=Xt) DM rfl CY ((hw'.1).trans i) (ctm) (rfl) rfl) l rfl ?_
 refine Ef 10 rfl 22 rfl ?_ ?_
 refine As (Q6 sz sz _) (λfI be=>?_)
 have cM:=Kc (w1:=fI) cL (λk hk hl=>be.block k hl)
 have bf:=bc.bl be
 have bg:=Hk bd be (λj=>bd.lt j)
 have bh:=Cr bO be
 refine A0<|⟨⟨(bf).trans (i).symm,tT⟩,?_⟩
 refine Ef 15 rfl 22 rfl ?_ ?_
 refine By BQ rfl rfl ((FT (m6S sz sz) te _)) (λfJ eB bi an=>?_) (λgC eB bi an=>?_)
 have cN:=Cr bh an
 exact AE (DG fJ (by rw [hD];exact AF bi) (C cN))
 have cO:=Kc (w1:=eB) cM (λk hk hl=>an.block k hl)
 have bj:=bf.bl an
 have bk:=Hk bg an (λj=>bg.lt j)
 have bm:=Cr bh an
 rw [AQ bi] at hD
 refine A0<|⟨⟨(bj).trans (i).symm,tT⟩,?_⟩
 refine Ef 21 rfl 22 rfl ?_ ?_
 refine By BQ rfl rfl ((FT _ ctm _)) (λfK eC bn ao=>?_) (λfL eC bn ao=>?_)
 have cP:=Cr bm ao
 exact AE (DG fK (by rw [hD];exact AF bn) (C cP))
 have eZ:=Kc (w1:=eC) cO (λk hk hl=>ao.block k hl)
 have bP:=bj.bl ao
 have cQ:=Hk bk ao (λj=>bk.lt j)
 have cR:=Cr bm ao
 rw [AQ bn] at hD
 obtain ⟨mm,rfl⟩:=eX fL
 refine A0<|⟨⟨(bP).trans (i).symm,tT⟩,?_⟩
 refine Aq 22 rfl<|C1 Ql rfl (λeD e' bQ du ay gb=>?_)
 have f0:=Kc (w1:=e') eZ (λk hk hl=>ay.other k oO)
 have f1:=Bx bQ bP.lt
 have cS:=bP.un ay f1
 have bT:=λj=>bQ▸cQ.lt j
 have f2:=DQ cQ ay bT
 have cT:=DW bQ cR.size
 have f3:=Dw.upd cR ay cT
 refine A0<|⟨⟨(cS).trans (i).symm,tT⟩,?_⟩
 refine Aq 23 rfl<|AH rfl rfl du CY rfl rfl (λfM dv az gc=>?_)
 have f4:=Kc (w1:=fM) f0 (λk hk hl=>az.other k oM)
 have cU:=cS.up az
 have f5:=DQ f2 az bT
 have f6:=Dw.upd f3 az oO
 refine A0<|⟨⟨(cU).trans (i).symm,tT⟩,?_⟩
 refine Bl kR ?_
 exact ⟨(eD,mm),⟨rfl,rfl,rfl,tT⟩,f4,f6,cU,f5,dv,oO,(by assumption:0<cs[0].text.length->(pA (some ⟨v,0,none⟩)).block<eD) ba,hD⟩
 refine C1 Ql rfl (λeF f7 bR dw aA ge=>?_)
 have f8:=Kc (w1:=f7) cO (λk hk hl=>aA.other k oO)
 have f9:=Bx bR bj.lt
 have cV:=bj.un aA f9
 have bU:=λj=>bR▸bk.lt j
 have cW:=DQ bk aA bU
 have cX:=DW bR bm.size
 have cY:=Dw.upd bm aA cX
 refine A0<|⟨⟨(cV).trans (i).symm,tT⟩,?_⟩
 refine Aq 21 rfl<|By BQ rfl rfl ((FT _ ctm _)) (λfN eG bo a6=>?_) (λfO eG bo a6=>?_)
 have cZ:=Cr cY a6
 exact AE (DG fN (by rw [hD];exact AF bo) (C cZ))
 have fb:=Kc (w1:=eG) f8 (λk hk hl=>a6.block k hl)
 have c':=cV.bl a6
 have dx:=dw.bl a6
 have dy:=Hk cW a6 (λj=>cW.lt j)
 have dz:=Cr cY a6
 rw [AQ bo] at hD
 obtain ⟨mm,rfl⟩:=eX fO
 refine A0<|⟨⟨(c').trans (i).symm,tT⟩,?_⟩
 refine Aq 23 rfl<|AH rfl rfl dx CY rfl rfl (λfc d0 ab fP=>?_)
 have dA:=Kc (w1:=fc) fb (λk hk hl=>ab.other k oM)
 have bV:=c'.up ab
 have dB:=DQ dy ab bU
 have dC:=Dw.upd dz ab oO
 refine A0<|⟨⟨(bV).trans (i).symm,tT⟩,?_⟩
 refine Bl kR ?_
 exact ⟨(eF,mm),⟨rfl,rfl,rfl,tT⟩,dA,dC,bV,dB,d0,oO,(by assumption:0<cs[0].text.length->(pA (some ⟨v,0,none⟩)).block<eF) ba,hD⟩
 refine C1 Ql rfl (λd1 dE bp d2 ac fQ=>?_)
 have dG:=Kc (w1:=dE) cM (λk hk hl=>ac.other k oO)
 have dH:=Bx bp bf.lt
 have bW:=bf.un ac dH
 have bG:=λj=>bp▸bg.lt j
 have bX:=DQ bg ac bG
 have cv:=DW bp bh.size
 have bY:=Dw.upd bh ac cv
 refine A0<|⟨⟨(bW).trans (i).symm,tT⟩,?_⟩
 refine Aq 15 rfl<|By BQ rfl rfl ((FT (m6S sz sz) te _)) (λfd d3 aH J=>?_) (λgf d3 aH J=>?_)
 have cw:=Cr bY J
 exact AE (DG fd (by rw [hD];exact AF aH) (C cw))
 have dI:=Kc (w1:=d3) dG (λk hk hl=>J.block k hl)
 have bZ:=bW.bl J
 have dJ:=d2.bl J
 have b':=Hk bX J (λj=>bX.lt j)
 have c0:=Cr bY J
 rw [AQ aH] at hD
 refine A0<|⟨⟨(bZ).trans (i).symm,tT⟩,?_⟩
 refine Aq 21 rfl<|By BQ rfl rfl ((FT _ ctm _)) (λfe d4 aI K=>?_) (λff d4 aI K=>?_)
 have cy:=Cr c0 K
 exact AE (DG fe (by rw [hD];exact AF aI) (C cy))
 have dK:=Kc (w1:=d4) dI (λk hk hl=>K.block k hl)
 have c2:=bZ.bl K
 have dL:=dJ.bl K
 have dM:=Hk b' K (λj=>b'.lt j)
 have dN:=Cr c0 K
 rw [AQ aI] at hD
 obtain ⟨mm,rfl⟩:=eX ff
 refine A0<|⟨⟨(c2).trans (i).symm,tT⟩,?_⟩
 refine Aq 23 rfl<|AH rfl rfl dL CY rfl rfl (λfg d5 ad fR=>?_)
 have dO:=Kc (w1:=fg) dK (λk hk hl=>ad.other k oM)
 have c3:=c2.up ad
 have dP:=DQ dM ad bG
 have dQ:=Dw.upd dN ad oO
 refine A0<|⟨⟨(c3).trans (i).symm,tT⟩,?_⟩
 refine Bl kR ?_
 exact ⟨(d1,mm),⟨rfl,rfl,rfl,tT⟩,dO,dQ,c3,dP,d5,oO,(by assumption:0<cs[0].text.length->(pA (some ⟨v,0,none⟩)).block<d1) ba,hD⟩
 refine C1 Ql rfl (λd6 dR bq d7 ae fS=>?_)
 have dS:=Kc (w1:=dR) cL (λk hk hl=>ae.other k oO)
 have dU:=Bx bq bc.lt
 have c4:=bc.un ae dU
 have bH:=λj=>bq▸bd.lt j
 have c5:=DQ bd ae bH
 have cz:=DW bq bO.size
 have dV:=Dw.upd bO ae cz
 refine A0<|⟨⟨(c4).trans (i).symm,tT⟩,?_⟩
 refine Aq 10 rfl<|As (Q6 sz sz _) (λfh af=>?_)
 have dW:=Kc (w1:=fh) dS (λk hk hl=>af.block k hl)
 have c6:=c4.bl af
 have dX:=d7.bl af
 have c7:=Hk c5 af (λj=>c5.lt j)
 have c8:=Cr dV af
 refine A0<|⟨⟨(c6).trans (i).symm,tT⟩,?_⟩
 refine Aq 15 rfl<|By BQ rfl rfl ((FT (m6S sz sz) te _)) (λfj d8 aJ P=>?_) (λgg d8 aJ P=>?_)
 have cA:=Cr c8 P
 exact AE (DG fj (by rw [hD];exact AF aJ) (C cA))
 have dY:=Kc (w1:=d8) dW (λk hk hl=>P.block k hl)
 have c9:=c6.bl P
 have dZ:=dX.bl P
 have ca:=Hk c7 P (λj=>c7.lt j)
 have cb:=Cr c8 P
 rw [AQ aJ] at hD
 refine A0<|⟨⟨(c9).trans (i).symm,tT⟩,?_⟩
 refine Aq 21 rfl<|By BQ rfl rfl ((FT _ ctm _)) (λfk d9 aK Q=>?_) (λfl d9 aK Q=>?_)
 have cB:=Cr cb Q
 exact AE (DG fk (by rw [hD];exact AF aK) (C cB))
 have d':=Kc (w1:=d9) dY (λk hk hl=>Q.block k hl)
 have cc:=c9.bl Q
 have e0:=dZ.bl Q
 have e1:=Hk ca Q (λj=>ca.lt j)
 have e2:=Cr cb Q
 rw [AQ aK] at hD
 obtain ⟨mm,rfl⟩:=eX fl
 refine A0<|⟨⟨(cc).trans (i).symm,tT⟩,?_⟩
 refine Aq 23 rfl<|AH rfl rfl e0 CY rfl rfl (λfm da ag fT=>?_)
 have e3:=Kc (w1:=fm) d' (λk hk hl=>ag.other k oM)
 have cd:=cc.up ag
 have e4:=DQ e1 ag bH
 have e5:=Dw.upd e2 ag oO
 refine A0<|⟨⟨(cd).trans (i).symm,tT⟩,?_⟩
 refine Bl kR ?_
 exact ⟨(d6,mm),⟨rfl,rfl,rfl,tT⟩,e3,e5,cd,e4,da,oO,(by assumption:0<cs[0].text.length->(pA (some ⟨v,0,none⟩)).block<d6) ba,hD⟩
 obtain ⟨⟨x,mm⟩,db⟩:=eX t
 subst db
 obtain ⟨i1,i2,i3,i4,i5,i6,i7,hD⟩:=hR
 simp only at i5 i6 i7 hD
 have bt:¬ F x:=λhq=>by have:=i1.ltN hq;omega
 refine De (α:=(Nat->Prop) × Vw) (λt=>[(0,ptV bv),(2,.slice (some ⟨v,0,none⟩) cs[0].text.length a4),(3,ptV x)]) (λt w'=>Ga B ⟨fs.fs,x⟩ w' bv t.1 t.2 args/\Dw F t.1 w w'/\Be w' x (M9 mm).toArray 42/\Ay w' (some ⟨v,0,none⟩) cs[0].text/\FG V (Il fi V.s.clips fn mm cs[0].text)=.ok t.2/\¬ t.1 x) ?_ (λt w1 hR=>?_)
 refine DD 15 rfl Ci (λw'=>w'.heap[x]?=w1.heap[x]?/\True) (λfp ah=>?_)
 have cf:=Kc (w1:=fp) i1 (λk hk hl=>(by obtain ⟨m,rfl⟩:=ah;rfl))
 have aB:=i3.drew ah
 have T:=i5.drew ah
 have a2:=i4.drew ah
 have aC:=Dw.drew i2 ah
 have o:=Dr (T.trans i5.symm) BO
 refine Aa 0 rfl (.mv rfl) o ?_
 refine Aa 1 rfl (.mv rfl) o ?_
 refine Aa 2 rfl (.nck rfl) o ?_
 refine Aa 3 rfl (.fa BW rfl EL dD rfl) o ?_
 refine Aa 4 rfl (.fa Fv rfl K7 dD rfl) o ?_
 refine Aa 6 rfl (.mv rfl) o ?_
 refine Aa 7 rfl (.nck rfl) o ?_
 refine Aa 8 rfl (.fa BW rfl EL dD rfl) o ?_
 refine Aa 9 rfl (.fa Fv rfl B6 dD rfl) o ?_
 refine C8 11 rfl (λw' hw'=>Cx (L:=Xt) DM rfl CY ((hw'.1).trans i5) (mm) (rfl) rfl) o rfl ?_
 refine Aa 12 rfl (.mv rfl) o ?_
 refine Ef 5 rfl 10 rfl ?_ ?_
 refine Ai (Cx (L:=Gj) H5 rfl F5 aB (fi) (rfl) rfl)<|A0<|⟨o,?_⟩
 refine Aq 10 rfl<|Ai (Af (BE _) rfl aB rfl)<|A0<|⟨o,?_⟩
 refine Aa 13 rfl (.build rfl (A6R fi fn mm (some ⟨v,0,none⟩) cs[0].text a4)) o ?_
 refine Aq 14 rfl<|WL.cx BQ rfl rfl ((P7 (fs:=⟨fs.fs,x⟩) ⟨4,none,[],0,fi,none,[],0,K9,fn,mm.a,mm.b,mm.c,mm.d,mm.e,mm.f,some ⟨v,0,none⟩,cs[0].text,a4⟩ ((cf).excl oO T.lt) hsn.s ⟨Cn.nil _ _ _,Cn.nil _ _ _,λy hy=>(by cases hy),Cn.nil _ _ _,⟨a2,⟨aw.1,aw.2,λh=>D6 h aG,λh=>nomatch h⟩,λj=>⟨(a2).lt j,ax j,IU i7⟩⟩⟩ ⟨rfl,rfl,rfl⟩)) (λdc fq aL bu=>?_) (λfr gh fq aL bu=>?_)
 have a7:FG V (Il fi V.s.clips fn mm cs[0].text)=.error dc:=aL
 exact AE (DG dc (by rw [hD];exact AF a7) (EU (C aC) bu))
 obtain ⟨rfl,F1,aM,ai⟩:=bu
 have e6:=Iq.of aM
 have a7:FG V (Il fi V.s.clips fn mm cs[0].text)=.ok fr:=aL
 have dd:=Dw.nf ai bt T.lt
 have cg:=Be.chg T ai bt
 have e7:=Ay.chg a2 ai ax
 have e8:=Qz aC ai
 refine A0<|⟨⟨(cg).trans (i5).symm,tT⟩,?_⟩
 refine Bl kR ?_
 exact ⟨(F1,_),⟨rfl,rfl,rfl,tT⟩,aM,e8,cg,e7,a7,dd⟩
 refine Ai (Af (BE _) rfl aB rfl)<|A0<|⟨o,?_⟩
 refine Aq 5 rfl<|Ai (Cx (L:=Gj) H5 rfl F5 aB (fi) (rfl) rfl)<|A0<|⟨o,?_⟩
 refine Aa 13 rfl (.build rfl (A6R fi fn mm (some ⟨v,0,none⟩) cs[0].text a4)) o ?_
 refine Aq 14 rfl<|WL.cx BQ rfl rfl ((P7 (fs:=⟨fs.fs,x⟩) ⟨4,none,[],0,fi,none,[],0,K9,fn,mm.a,mm.b,mm.c,mm.d,mm.e,mm.f,some ⟨v,0,none⟩,cs[0].text,a4⟩ ((cf).excl oO T.lt) hsn.s ⟨Cn.nil _ _ _,Cn.nil _ _ _,λy hy=>(by cases hy),Cn.nil _ _ _,⟨a2,⟨aw.1,aw.2,λh=>D6 h aG,λh=>nomatch h⟩,λj=>⟨(a2).lt j,ax j,IU i7⟩⟩⟩ ⟨rfl,rfl,rfl⟩)) (λde ft aN bw=>?_) (λfu gi ft aN bw=>?_)
 have a7:FG V (Il fi V.s.clips fn mm cs[0].text)=.error de:=aN
 exact AE (DG de (by rw [hD];exact AF a7) (EU (C aC) bw))
 obtain ⟨rfl,F1,aM,ai⟩:=bw
 have e6:=Iq.of aM
 have a7:FG V (Il fi V.s.clips fn mm cs[0].text)=.ok fu:=aN
 have df:=Dw.nf ai bt T.lt
 have ci:=Be.chg T ai bt
 have e9:=Ay.chg a2 ai ax
 have ea:=Qz aC ai
 refine A0<|⟨⟨(ci).trans (i5).symm,tT⟩,?_⟩
 refine Bl kR ?_
 exact ⟨(F1,_),⟨rfl,rfl,rfl,tT⟩,aM,ea,ci,e9,a7,df⟩
 obtain ⟨⟨F1,V1⟩,db⟩:=eX t
 subst db
 obtain ⟨k1,k2,k3,k4,k5,k6⟩:=hR
 obtain ⟨wJ,fU⟩:=eX w1
 subst fU
 simp only at k1 k2 k3 k4 k5 k6
 rw [AQ k5] at hD
 have dg:=A6l k5
 obtain ⟨H2,fV,fv,fW,fX,dh,cj,bx⟩:=k1.mem
 have aO:=cj.blk
 have di:H2.s.font=V.s.font:=bx.st.font.trans (by rw [dg])
 have dj:H2.s.size=V.s.size:=bx.st.size.trans (by rw [dg])
 have dk:H2.text=V.text:=bx.text.trans (by rw [dg])
 obtain ⟨⟨ap,aT,aU,aV,aq,X,q⟩,aW,aX,aY,aZ,a',fY,E,b0,b1,au⟩:=H2
 simp only at di dj dk aO
 have fZ:∀ g∈[bv,x],∃ t'∈[74,42],O9 wJ g t':=λg hg=>by
  rcases Ax.1 hg with rfl | hg;exact ⟨_,by simp,aO.ty⟩;rw [Ao.1 hg];exact ⟨_,by simp,k3.ty⟩
 have ck:F1 bv:=by rw [dh];exact .inl rfl
 have f':∀ g∈[bv,x],F1 g\/w.heap.size<=g:=λg hg=>by
  rcases Ax.1 hg with rfl | hg;exact .inl ck;rw [Ao.1 hg];exact .inr oO
 have gD:bv≠x:=λe=>k6 (e▸ck)
 have eb:bv<wJ.heap.size:=aO.lt
 have hb3l2:x<wJ.heap.size:=k3.lt
 have g0:=AL.refl wJ.heap.size [bv,x] wJ
 have gE:=(R8 X cs[0].text 0 dD).1
 have gF:=(R8 X cs[0].text 0 dD).2
 refine A5<|A3 rfl<|A1 (.nck rfl)<|A1 (.fa BW rfl EL dD rfl)<|A1 (.fa Fv rfl B6 dD rfl)<|Ai (Af (BE _) rfl aO rfl)<|A3 rfl<|As (A3D X (some ⟨v,0,none⟩) cs[0].text a4 _ k4 oO) (λgj bz=>?_)
 have cl:=aO.bl bz
 have cm:=k3.bl bz
 have cn:=kB g0 bz
 refine A1 (.mul rfl rfl (Bn oO))<|Ab rfl<|A5<|A3 rfl<|A1 (.quo rfl rfl oO (A9W oO oO oO))<|Ab rfl<|De (α:=Int) (λt=>[(0,ptV bv),(3,ptV x),(5,Ah t)]) (λt w'=>AL wJ.heap.size [bv,x] wJ w'/\Be w' bv (FA ⟨⟨ap,aT,aU,aV,aq,X,q⟩,aW,aX,aY,aZ,a',fY,E,b0,b1,au⟩).toArray 74/\Be w' x (M9 mm).toArray 42/\t=(if 2 * ((Gd X 0 cs[0].text * 65536) % 1000) ≥ 1000 then (Gd X 0 cs[0].text * 65536) / 1000+1 else (Gd X 0 cs[0].text * 65536) / 1000)) ?_ (λt w1 hR=>?_)
 refine A5<|A3 rfl<|A1 (.rem rfl rfl oO (Int.tmod_eq_emod_of_nonneg oO))<|A1 (.mul rfl rfl (Bn oO))<|A1 (.geq rfl rfl)<|A0<|Ae rfl (λbS=>?_) (λbS=>?_)
 have ec:=dT bS
 refine Ak<|A3 rfl<|A1 (.add rfl rfl (Bn oO))<|Ab rfl ?_
 exact ⟨_,⟨rfl,rfl,rfl,tT⟩,cn,cl,cm,(A7 oO).symm⟩
 have ec:=dF bS
 refine Ap ?_
 exact ⟨_,⟨rfl,rfl,rfl,tT⟩,cn,cl,cm,(A2 oO).symm⟩
 obtain ⟨q1,q2,q3,q4⟩:=hR
 obtain ⟨wd,g4⟩:=eX t
 subst g4
 refine A5<|A3 rfl<|A3 rfl<|A1 (.nck rfl)<|A1 (.fa BW rfl EL dD rfl)<|A1 (.fa Fv rfl B6 dD rfl)<|Ai (Af (BE _) rfl q2 rfl)<|As (V3 wd q _) (λfw bA=>?_)
 have U:=q2.bl bA
 have ed:=q3.bl bA
 have ee:=kB q1 bA
 simp only [KV]
 refine A3 rfl<|A1 (.ext rfl rfl)<|A1 (.ext rfl rfl)<|DA rfl<|Ab rfl<|Aj<|DD 12 rfl Ci (λw'=>w'.heap[bv]?=fw.heap[bv]?/\True) (λgk bB=>?_)
 have co:=U.drew bB
 have ef:=ed.drew bB
 have eg:=CI ee (QL bB)
 have bI:=Dr (co.trans U.symm) BO
 refine Aa 0 rfl (.mv rfl) bI ?_
 refine Aa 2 rfl (.mv rfl) bI ?_
 refine Aa 3 rfl (.nck rfl) bI ?_
 refine Aa 4 rfl (.fa BW rfl HD dD rfl) bI ?_
 refine C8 5 rfl (λw' hw'=>Cx (L:=Xt) DM rfl CY ((hw'.1).trans U) (E) (rfl) rfl) bI rfl ?_
 refine Aq 1 rfl<|As (KE _ _ _) (λgl bC=>?_)
 have cq:=co.bl bC
 have eh:=ef.bl bC
 have ei:=kB eg bC
 refine A0<|⟨⟨(cq).trans (U).symm,tT⟩,?_⟩
 refine Aq 6 rfl<|As (RT _ E _) (λgm bD=>?_)
 have cr:=cq.bl bD
 have ej:=eh.bl bD
 have ek:=kB ei bD
 simp only [m6R]
 refine A0<|?_
 have ct:=Dr (cr.trans U.symm) BO
 refine ⟨ct,?_⟩
 refine Aa 7 rfl (.mv rfl) ct ?_
 refine Aa 8 rfl (.ext rfl rfl) ct ?_
 refine Aa 9 rfl (.ext rfl rfl) ct ?_
 refine Aq 10 rfl<|AH rfl rfl ej CY rfl rfl (λgo bJ bK g5=>?_)
 have aD:=cr.up bK
 have cu:=CI ek (by exact Hc bK (by simp))
 refine A0<|⟨⟨(aD).trans (U).symm,tT⟩,?_⟩
 refine Aa 11 rfl (.as rfl) ⟨(aD).trans (U).symm,tT⟩ ?_
 refine Bl kR<|De (α:=Bool) (λt=>[(0,ptV bv),(3,ptV x)]) (λt w'=>AL wJ.heap.size [bv,x] wJ w'/\Be w' bv (FA ⟨⟨ap,aT,aU,aV,aq,X,q⟩,aW,aX,aY,aZ,a',t,E,b0,b1,au⟩).toArray 74/\Be w' x (M9 (Di (It (FN wd q).1 0) E).1).toArray 42/\t=!(decide ((FN wd q).2=0) && decide ((Di (It (FN wd q).1 0) E).2=0))) ?_ (λt w1 hR=>?_)
 refine Ak<|A3 rfl<|A3 rfl<|A1 (.neq rfl rfl)<|A3 rfl<|B5 rfl rfl rfl (λa8=>?_) (λa8=>?_)
 have el:=Kk a8
 refine A3 rfl<|Au a8<|A1 (.neq rfl rfl)<|A1 (.pkF rfl a8 rfl)<|A1 (.nck rfl)<|A1 (.fa BW rfl P2 dD rfl)<|CT 30 ((FA ⟨⟨ap,aT,aU,aV,aq,X,q⟩,aW,aX,aY,aZ,a',(!decide ((Di (It (FN wd q).1 0) E).2=0)),E,b0,b1,au⟩).toArray) aD P2 (λgp dl bL g6=>?_)
 have em:=bJ.up bL
 have en:=CI cu (by exact Hc bL (by simp))
 refine A0<|?_
 have hz:(FN wd q).2=0:=by assumption
 exact ⟨_,⟨rfl,rfl,tT⟩,en,dl,em,by rw [Al hz,BV]⟩
 have el:=Kj a8
 refine Ac a8<|A1 (.pkT rfl a8 rfl)<|A1 (.nck rfl)<|A1 (.fa BW rfl P2 dD rfl)<|CT 30 ((FA ⟨⟨ap,aT,aU,aV,aq,X,q⟩,aW,aX,aY,aZ,a',true,E,b0,b1,au⟩).toArray) aD P2 (λgq dm bM g7=>?_)
 have eo:=bJ.up bM
 have ep:=CI cu (by exact Hc bM (by simp))
 refine A0<|?_
 have hz:¬ (FN wd q).2=0:=by assumption
 exact ⟨_,⟨rfl,rfl,tT⟩,ep,dm,eo,by rw [An hz];rfl⟩
 obtain ⟨u1,u2,u3,u4⟩:=hR
 obtain ⟨dn,fx⟩:=eX t
 subst fx
 refine Ak<|A3 rfl<|Ai (Cx (L:=Xt) DM rfl CY u3 ((Di (It (FN wd q).1 0) E).1) (rfl) rfl)<|A1 (.nck rfl)<|A1 (.fa BW rfl HD dD rfl)<|Fp 31 ((FA ⟨⟨ap,aT,aU,aV,aq,X,q⟩,aW,aX,aY,aZ,a',dn,(Di (It (FN wd q).1 0) E).1,b0,b1,au⟩).toArray) u2 CY (λdp dq dr g8=>?_)
 have eq:=CI u1 (by exact Hc dr (by simp))
 refine A0<|BU (BK rfl ?_)
 have b2:=eq
 obtain ⟨-,r2,r3,r4,r5⟩:=cj.rest b2 _ fZ
 have hM:Mv (Eh x F1 wJ) (Eh x F1 dp) wJ dp:=⟨b2.size,λg hg=>⟨b2.block g hg.1 (λhm=>by
  rcases Ax.1 hm with rfl | hm;exact hg.2.1 ck;exact hg.2.2 (Ao.1 hm)),C6 hg.1 b2.size,hg.2.1,hg.2.2⟩⟩
 have hq:=VwR.own bx hfc ck (C6 eb b2.size) hM
 have g9:L5 (λf b=>Gd f 0 b) V cs[0].text=((Di (It (FN wd q).1 0) E).1,dn):=by
  rw [u4,q4,di,dj,dk]
  rfl
 rw [g9] at hD
 refine GX _ _ hD rfl ⟨rfl,F1,⟨⟨⟨ap,aT,aU,aV,aq,X,q⟩,aW,aX,aY,aZ,a',dn,(Di (It (FN wd q).1 0) E).1,b0,b1,au⟩,fV,fv,fW,fX,dh,⟨dq,r2 dD dD,r3 dD,r4 dD,r5 dD,cj.lbv,cj.lbp⟩,?_⟩,k2.keep b2 f'⟩
 exact { hq with lost:=rfl,text:=rfl }
end
end
section
def A2e (sum:Int->l8_->Int) (fs:List LO) (v:Vw) (args:List PV) (op:l8_):Except Int Vw :=
 if op=[66,84] then (Dt args 0>>=λ_=>.ok { v with inText:=true,lost:=false,text:=O3,line:=O3 })
 else if op=[69,84] then (Dt args 0>>=λ_=>.ok { v with inText:=false })
 else if op=[84,102] then IZ fs v args
 else if op=[84,109] then (RU args>>=λm=>.ok { v with line:=m,text:=m,lost:=false })
 else if op=[84,100] then (Dt args 2>>=λn=>LF (It (n.getD 0 0) (n.getD 1 0)) v.line>>=λm=>.ok { v with line:=m,text:=m,lost:=false })
 else FX sum v args
theorem Z9 (sum:Int->l8_->Int) (fs:List LO) (v:Vw) (args:List PV) (op:l8_):JR sum fs v args op=(CS (decide (v.inText=true↔op≠[66,84]))>>=λ_=>A2e sum fs v args op):=rfl
theorem n2a (l:List Int) (h:l.length=2):l.getD 0 0=l[0]/\l.getD 1 0=l[1]:=by
 match l,h with
 | [_,_],_=>exact ⟨rfl,rfl⟩
section
variable {B:Nat} {fs:QD} {w w1:World} {bv:Nat} {F:Nat->Prop} {V:Vw} {args:List PV}
theorem A1U (op:l8_) (h:Ga B fs w bv F V args) (ha:args.length<=32) (hb:∀ a∈args,(TI a).length<=65535) (hsn:EM V) (hfc:fs.c=bv) :
    Calls Tryz.prog 50 #[ptV bv,.string (bs op)] w (VwE B fs bv F w (JR (λf b=>Gd f 0 b) fs.fs V args op) args):=by
  obtain ⟨bS,bT⟩:=h.base;have t:=h;have bd:=Iq.of t;obtain ⟨H,vp,its,hs,cs,rfl,hO,hR⟩:=h.mem;have ai:=hO.blk;have b9:H.inText=V.inText:=hR.inText;have U:H.line=V.line:=hR.line;obtain ⟨s,fo,sa,pa,cl,it,lo,te,li,ar,itv⟩:=H;simp only at b9 U;have cy:=ai.lt;have j:∀ w1,AL w.heap.size [bv] w w1->Below B w w1:=λw1 hK=>hK.below bT (by simpa using bS)
  refine Av func50 rfl ntmps50 ?_;have ba:=AL.refl w.heap.size ([bv]) w;refine A5<|A3 rfl<|A1 (.nck rfl)<|A1 (.fa BW rfl P2 dD rfl)<|Ai (Af (g4_ _) rfl ai rfl)<|A3 rfl<|A1 (.nes rfl rfl)<|A1 (.bis (decide (V.inText=true↔op≠[66,84])) (.eqb u4_ rfl rfl) (by rw [b9];by_cases hop:op=[66,84] <;> cases V.inText <;> simp [hop]))<|By BQ rfl rfl ((Dn _ _)) (λk3 w1 a1 X=>?_) (λa2 w1 a1 X=>?_);have aI:=kB ba X;exact AE (DG k3 ((Z9 _ _ _ _ _).trans (AF a1)) (j _ aI));have A:=Kc (w1:=w1) bd (λk hk hl=>X.block k hl);have ad:=ai.bl X;have i:=kB ba X;have hE:JR (λf b=>Gd f 0 b) fs.fs V args op=A2e (λf b=>Gd f 0 b) fs.fs V args op:=(Z9 _ _ _ _ _).trans (AQ a1);refine A0<|A5<|A3 rfl<|A0<|AU<|A5<|A1 (.eqs rfl rfl)<|Ab rfl<|Ae rfl (λh7=>?_) (λh7=>?_)
  · have bU := dT h7
    have hD:=hE.trans (A7 aS);refine A5<|A3 rfl<|WL.cx BQ rfl rfl ((Fs 0 (A).get ha oO)) (λbV w8 a3 ae=>?_) (λa9 cE w8 a3 ae=>?_);have aJ:=kB i ae;exact AE (DG bV (by rw [hD,AF a3]) (j _ aJ));have be:=ad.bl ae.1;have bf:=kB i ae.1;rw [AQ a3] at hD;refine A0<|Ak<|A3 rfl<|A3 rfl<|A3 rfl<|A3 rfl<|As (Lv _) (λcF aj=>?_);have bg:=be.bl aj;have bh:=kB bf aj;refine As (Lv _) (λcG ak=>?_);have bi:=bg.bl ak;have bj:=kB bh ak;refine A1 (.nck rfl)<|A1 (.fa BW rfl P2 dD rfl)<|CT 29 ((FA ⟨s,fo,sa,pa,cl,true,lo,te,li,ar,itv⟩).toArray) bi P2 (λcH aK aL ci=>?_);have bk:=CI bj (by exact Hc aL (by simp));refine A1 (.nck rfl)<|A1 (.fa BW rfl P2 dD rfl)<|CT 30 ((FA ⟨s,fo,sa,pa,cl,true,false,te,li,ar,itv⟩).toArray) aK P2 (λcI aM aN cj=>?_);have bm:=CI bk (by exact Hc aN (by simp));refine A1 (.nck rfl)<|A1 (.fa BW rfl HD dD rfl)<|Fp 31 ((FA ⟨s,fo,sa,pa,cl,true,false,O3,li,ar,itv⟩).toArray) aM CY (λcJ aO aP ck=>?_);have bn:=CI bm (by exact Hc aP (by simp));refine A1 (.nck rfl)<|A1 (.fa BW rfl HD dD rfl)<|Fp 37 ((FA ⟨s,fo,sa,pa,cl,true,false,O3,O3,ar,itv⟩).toArray) aO CY (λcK aQ aR cm=>?_);have bo:=CI bn (by exact Hc aR (by simp));refine A0<|BU (BK rfl ?_)
    (refine GX _ _ hD rfl ⟨rfl, EC hO bo aQ (fun m => ?_)⟩
     have hq:=hR.mv m
     first
       | exact { hq with inText:=rfl,lost:=rfl,text:=rfl,line:=rfl }
       | exact { hq with inText:=rfl }
       | exact { hq with lost:=rfl,text:=rfl,line:=rfl })
  have bU:=dF h7;refine A5<|A1 (.eqs rfl rfl)<|Ab rfl<|Ae rfl (λal=>?_) (λal=>?_)
  · have bp := dT al
    have hD:=hE.trans ((A2 aS).trans (A7 aS));refine A5<|A3 rfl<|WL.cx BQ rfl rfl ((Fs 0 (A).get ha oO)) (λbW bX C D=>?_) (λcL cM bX C D=>?_);have am:=kB i D;exact AE (DG bW (by rw [hD,AF C]) (j _ am));have bq:=ad.bl D.1;have bt:=kB i D.1;rw [AQ C] at hD;refine A0<|Ak<|A3 rfl<|A1 (.nck rfl)<|A1 (.fa BW rfl P2 dD rfl)<|CT 29 ((FA ⟨s,fo,sa,pa,cl,false,lo,te,li,ar,itv⟩).toArray) bq P2 (λcN aT aU co=>?_);have bu:=CI bt (by exact Hc aU (by simp));refine A0<|BU (BK rfl ?_)
    (refine GX _ _ hD rfl ⟨rfl, EC hO bu aT (fun m => ?_)⟩
     have hq:=hR.mv m
     first
       | exact { hq with inText:=rfl,lost:=rfl,text:=rfl,line:=rfl }
       | exact { hq with inText:=rfl }
       | exact { hq with lost:=rfl,text:=rfl,line:=rfl })
  have bp:=dF al;refine A5<|A1 (.eqs rfl rfl)<|Ab rfl<|Ae rfl (λan=>?_) (λan=>?_)
  · have bw := dT an
    have hD:=hE.trans ((A2 aS).trans ((A2 aS).trans (A7 aS)));refine Ak<|A3 rfl<|WL.cx BQ rfl rfl ((A09 (A).get ha)) (λbY bZ E a4=>?_) (λcO cP bZ E a4=>?_);exact AE (DG bY (by rw [hD];exact E) (EU (j _ i) a4));have ao:=E;obtain ⟨rfl,F9,ap,a5⟩:=a4;have a6:=Qz (CA i (λg hg=>.inl (.inl (Ao.1 hg))) (λg hg=>.inl hg)) a5;refine A0<|BU (BK rfl ?_);exact GX _ _ (hD.trans ao) rfl ⟨rfl,F9,ap,a6⟩
  have bw:=dF an;refine A5<|A1 (.eqs rfl rfl)<|Ab rfl<|Ae rfl (λaq=>?_) (λaq=>?_)
  · have bx := dT aq
    have hD:=hE.trans ((A2 aS).trans ((A2 aS).trans ((A2 aS).trans (A7 aS))));refine A5<|A3 rfl<|A3 rfl<|By BQ rfl rfl ((P6 (A).get ha)) (λb' c0 G J=>?_) (λc2 c0 G J=>?_);have au:=kB i J;exact AE (DG b' (by rw [hD,AF G]) (j _ au));have bz:=ad.bl J;have bA:=kB i J;rw [AQ G] at hD;obtain ⟨mm,rfl⟩:=eX c2;refine A1 (.nck rfl)<|A1 (.fa BW rfl HD dD rfl)<|Fp 37 ((FA ⟨s,fo,sa,pa,cl,it,lo,te,mm,ar,itv⟩).toArray) bz CY (λcQ af aV cq=>?_);have bB:=CI bA (by exact Hc aV (by simp));refine A0<|Ak<|A3 rfl<|A3 rfl<|A3 rfl<|A1 (.nck rfl)<|A1 (.fa BW rfl HD dD rfl)<|Ai (Cx (L:=Xt) DM rfl CY af (mm) (rfl) rfl)<|A1 (.nck rfl)<|A1 (.fa BW rfl HD dD rfl)<|Fp 31 ((FA ⟨s,fo,sa,pa,cl,it,lo,mm,mm,ar,itv⟩).toArray) af CY (λcR aW aX cr=>?_);have bC:=CI bB (by exact Hc aX (by simp));refine A1 (.nck rfl)<|A1 (.fa BW rfl P2 dD rfl)<|CT 30 ((FA ⟨s,fo,sa,pa,cl,it,false,mm,mm,ar,itv⟩).toArray) aW P2 (λcS aY aZ ct=>?_);have bD:=CI bC (by exact Hc aZ (by simp));refine A0<|BU (BK rfl ?_)
    (refine GX _ _ hD rfl ⟨rfl, EC hO bD aY (fun m => ?_)⟩
     have hq:=hR.mv m
     first
       | exact { hq with inText:=rfl,lost:=rfl,text:=rfl,line:=rfl }
       | exact { hq with inText:=rfl }
       | exact { hq with lost:=rfl,text:=rfl,line:=rfl })
  have bx:=dF aq;refine A5<|A1 (.eqs rfl rfl)<|Ab rfl<|Ae rfl (λav=>?_) (λav=>?_)
  · have bE := dT av
    have hD:=hE.trans ((A2 aS).trans ((A2 aS).trans ((A2 aS).trans ((A2 aS).trans (A7 aS)))));refine A5<|A3 rfl<|WL.cx BQ rfl rfl ((Fs 2 (A).get ha oO)) (λc3 c4 o u=>?_) (λc5 cT c4 o u=>?_);have aw:=kB i u;exact AE (DG c3 (by rw [hD,AF o]) (j _ aw));have bG:=ad.bl u.1;have bH:=kB i u.1;obtain ⟨nl,rfl⟩:=eX c5;obtain ⟨pn,cn,evn,bb,c6,cU,-⟩:=u.2.row;subst evn;have l:=(FB o).1;have c7:=bb.ofI;have bc:0<nl.length->(pA pn).block≠bv:=λt e=>by have:=c6 _ (bb.isp t);have:=i.size;omega
    rw [AQ o] at hD;refine Ab rfl<|Aj<|DD 16 rfl Ci (λw'=>AZ E5 w' pn nl/\True) (λcV a7=>?_);have a8:=bG.drew a7;have d:=c7.drew a7;have ax:=CI bH (QL a7);refine Aa 0 rfl (.mv rfl) ⟨d,tT⟩ ?_;refine Aa 1 rfl (.mv rfl) ⟨d,tT⟩ ?_;refine Aa 2 rfl (.ixb Dm B6 rfl rfl (d.isp oO) (0) (rfl) oO) ⟨d,tT⟩ ?_;refine C8 3 rfl (λw' hw'=>AS (BE _) rfl ((hw'.1).cells (0) oO)) ⟨d,tT⟩ rfl ?_;refine Aa 4 rfl (.mv rfl) ⟨d,tT⟩ ?_;refine Aa 5 rfl (.ixb Dm B6 rfl rfl (d.isp oO) (1) (rfl) oO) ⟨d,tT⟩ ?_;refine C8 6 rfl (λw' hw'=>AS (BE _) rfl ((hw'.1).cells (1) oO)) ⟨d,tT⟩ rfl ?_;refine Aa 8 rfl (.mv rfl) ⟨d,tT⟩ ?_;refine Aa 9 rfl (.nck rfl) ⟨d,tT⟩ ?_;refine Aa 10 rfl (.fa BW rfl HD dD rfl) ⟨d,tT⟩ ?_;refine Ef 7 rfl 11 rfl ?_ ?_;refine As (KE _ _ _) (λcW aa=>?_);have ay:=a8.bl aa;have K:=AZ.below d aa (λt=>d.lt t);have az:=kB ax aa;refine A0<|⟨⟨K,tT⟩,?_⟩;refine Aq 11 rfl<|Ai (Cx (L:=Xt) DM rfl CY ay (li) (rfl) rfl)<|A0<|⟨⟨K,tT⟩,?_⟩;refine Aq 12 rfl<|By BQ rfl rfl ((FT _ li _)) (λc8 c9 N v=>?_) (λca c9 N v=>?_);have aA:=kB az v;exact AE (DG c8 (by rw [(n2a nl l).1,(n2a nl l).2] at hD;rw [hD,<- U];exact AF N) (j _ aA));have bI:=ay.bl v;have P:=AZ.below K v (λt=>K.lt t);have bJ:=kB az v;have aB:=N;rw [(n2a nl l).1,(n2a nl l).2] at hD;rw [<- U,AQ aB] at hD;obtain ⟨mm,rfl⟩:=eX ca;refine A0<|⟨⟨P,tT⟩,?_⟩;refine Aa 13 rfl (.nck rfl) ⟨P,tT⟩ ?_;refine Aa 14 rfl (.fa BW rfl HD dD rfl) ⟨P,tT⟩ ?_;refine Aq 15 rfl<|Fp 37 ((FA ⟨s,fo,sa,pa,cl,it,lo,te,mm,ar,itv⟩).toArray) bI CY (λcX ag ah cu=>?_);have bK:=AZ.upd P ah (bc);have bL:=CI bJ (by exact Hc ah (by simp));refine A0<|⟨⟨bK,tT⟩,?_⟩;refine Bl kR<|Ak<|A3 rfl<|A3 rfl<|A3 rfl<|A1 (.nck rfl)<|A1 (.fa BW rfl HD dD rfl)<|Ai (Cx (L:=Xt) DM rfl CY ag (mm) (rfl) rfl)<|A1 (.nck rfl)<|A1 (.fa BW rfl HD dD rfl)<|Fp 31 ((FA ⟨s,fo,sa,pa,cl,it,lo,mm,mm,ar,itv⟩).toArray) ag CY (λcY a' b0 cv=>?_)
    have bM:=CI bL (by exact Hc b0 (by simp));refine A1 (.nck rfl)<|A1 (.fa BW rfl P2 dD rfl)<|CT 30 ((FA ⟨s,fo,sa,pa,cl,it,false,mm,mm,ar,itv⟩).toArray) a' P2 (λcZ b1 b2 cw=>?_);have bN:=CI bM (by exact Hc b2 (by simp));refine A0<|BU (BK rfl ?_)
    (refine GX _ _ hD rfl ⟨rfl, EC hO bN b1 (fun m => ?_)⟩
     have hq:=hR.mv m
     first
       | exact { hq with inText:=rfl,lost:=rfl,text:=rfl,line:=rfl }
       | exact { hq with inText:=rfl }
       | exact { hq with lost:=rfl,text:=rfl,line:=rfl })
    refine Ai (Cx (L:=Xt) DM rfl CY a8 (li) (rfl) rfl)<|A0<|⟨⟨d,tT⟩,?_⟩;refine Aq 7 rfl<|As (KE _ _ _) (λc' ab=>?_);have bO:=a8.bl ab;have ac:=AZ.below d ab (λt=>d.lt t);have aC:=kB ax ab;refine A0<|⟨⟨ac,tT⟩,?_⟩;refine Aq 12 rfl<|By BQ rfl rfl ((FT _ li _)) (λbP cb Q x=>?_) (λcc cb Q x=>?_);have aD:=kB aC x;exact AE (DG bP (by rw [(n2a nl l).1,(n2a nl l).2] at hD;rw [hD,<- U];exact AF Q) (j _ aD));have b3:=bO.bl x;have q:=AZ.below ac x (λt=>ac.lt t);have b4:=kB aC x;have aB:=Q;rw [(n2a nl l).1,(n2a nl l).2] at hD;rw [<- U,AQ aB] at hD;obtain ⟨mm,rfl⟩:=eX cc;refine A0<|⟨⟨q,tT⟩,?_⟩;refine Aa 13 rfl (.nck rfl) ⟨q,tT⟩ ?_;refine Aa 14 rfl (.fa BW rfl HD dD rfl) ⟨q,tT⟩ ?_;refine Aq 15 rfl<|Fp 37 ((FA ⟨s,fo,sa,pa,cl,it,lo,te,mm,ar,itv⟩).toArray) b3 CY (λcz Y a0 cd=>?_);have b5:=AZ.upd q a0 (bc);have b6:=CI b4 (by exact Hc a0 (by simp));refine A0<|⟨⟨b5,tT⟩,?_⟩;refine Bl kR<|Ak<|A3 rfl<|A3 rfl<|A3 rfl<|A1 (.nck rfl)<|A1 (.fa BW rfl HD dD rfl)<|Ai (Cx (L:=Xt) DM rfl CY Y (mm) (rfl) rfl)<|A1 (.nck rfl)<|A1 (.fa BW rfl HD dD rfl)<|Fp 31 ((FA ⟨s,fo,sa,pa,cl,it,lo,mm,mm,ar,itv⟩).toArray) Y CY (λcA aE aF cf=>?_);have b7:=CI b6 (by exact Hc aF (by simp));refine A1 (.nck rfl)<|A1 (.fa BW rfl P2 dD rfl)<|CT 30 ((FA ⟨s,fo,sa,pa,cl,it,false,mm,mm,ar,itv⟩).toArray) aE P2 (λcB aG aH cg=>?_);have b8:=CI b7 (by exact Hc aH (by simp));refine A0<|BU (BK rfl ?_)
    (refine GX _ _ hD rfl ⟨rfl, EC hO b8 aG (fun m => ?_)⟩
     have hq:=hR.mv m
     first
       | exact { hq with inText:=rfl,lost:=rfl,text:=rfl,line:=rfl }
       | exact { hq with inText:=rfl }
       | exact { hq with lost:=rfl,text:=rfl,line:=rfl })
  have bE:=dF av;have hD:=hE.trans ((A2 aS).trans ((A2 aS).trans ((A2 aS).trans ((A2 aS).trans (A2 aS)))));refine Ak<|A3 rfl<|WL.cx BQ rfl rfl ((Xx (A).get ha hb hsn hfc)) (λbQ bR y T=>?_) (λcC cD bR y T=>?_);exact AE (DG bQ (by rw [hD];exact y) (EU (j _ i) T));have ao:=y;obtain ⟨rfl,F9,ap,a5⟩:=T;have a6:=Qz (CA i (λg hg=>.inl (.inl (Ao.1 hg))) (λg hg=>.inl hg)) a5;refine A0<|BU (BK rfl ?_);exact GX _ _ (hD.trans ao) rfl ⟨rfl,F9,ap,a6⟩
end
end
section
theorem Qb {x:l8_}:∀ {s:List (l8_)} {i:Nat} (h:i<s.length),s[i]=x->x ∉ s.take i->s.idxOf x=i
 | a::r,0,_,h1,_=>by
  have h1:a=x:=h1
  rw [h1,List.idxOf_cons_self]
 | a::r,i+1,h,h1,h2=>by
  rw [List.take_succ_cons,Ax,not_or] at h2
  rw [List.idxOf_cons,show (a == x)=false from by simpa using λe:a=x=>h2.1 e.symm,cond_false,Qb (Nat.lt_of_succ_lt_succ h) (by simpa using h1) h2.2]
def A1d (s:List (l8_)) (x:l8_):Int:=if x∈s then (s.idxOf x:Int) else -1
theorem A3j (q:Option Addr) (s:List (l8_)) (c:Nat) (x:l8_) (w:World) (hb:AZ VB w q s) (hl:s.length<=1000000000) :
  Calls Tryz.prog 51 #[.slice q s.length c,.string (bs x)] w λe w'=>e=.returned (Ah (A1d s x))/\w=w':=by
 refine Av func51 rfl ntmps51<|A5<|Ab rfl<|Aj<|A5<|A3 rfl<|A1 (.lenS R4 rfl)<|A3 rfl<|A0<|AU<|Cf (α:=Nat) (λt=>[(0,.slice q s.length c),(1,.string (bs x)),(7,Ah (s.length:Int)),(8,Ah (t:Int))]) (λt w'=>w=w'/\t<=s.length/\x ∉ s.take t) (λt=>s.length-t) (0) ⟨rfl,rfl,rfl,rfl,tT⟩ (⟨rfl,G8 _,by simp⟩) (λt j hR=>?_)
 obtain ⟨i,rfl⟩:=eX t
 obtain ⟨rfl,hi,a⟩:=hR
 refine A5<|A1 (.lss rfl rfl)<|A0<|Aj<|Ae rfl (λb=>?_) (λb=>?_)
 have f:=dT b
 refine Ap<|Aj<|AU<|A5<|A3 rfl<|Ab rfl<|A5<|A3 rfl<|A3 rfl<|A3 rfl<|A1 (.ixb R4 M1 rfl rfl (hb.isp oO) (i) (rfl) oO)<|Ai (AS (Li _) rfl (hb.cells (i) oO))<|A1 (.eqs rfl rfl)<|A0<|Ae rfl (λd=>?_) (λd=>?_)
 have g:=dT d
 refine A5<|A3 rfl<|Ab rfl<|AI ?_
 exact ⟨Dc (by
  have hx:x=s[i]'oO:=by assumption
  unfold A1d;rw [A7 (hx▸AM _),Qb oO hx.symm a]),rfl⟩
 have g:=dF d
 refine Ap<|Ak<|A1 (.iis (((i+1:Nat):Int)) (.add rfl rfl (Bn oO)) oO)<|A3 rfl<|A0<|?_
 exact ⟨i+1,⟨rfl,rfl,rfl,rfl,tT⟩,⟨rfl,oM,by
  rw [List.take_add_one,A6 oO,Option.toList_some,B4,Ao];exact λh=>h.elim a aS⟩,oM⟩
 have f:=dF b
 refine C7<|A5<|Ab rfl<|AI ?_
 exact ⟨Dc (by
  rw [show s.take i=s from AR oO] at a;unfold A1d;rw [A2 a]),rfl⟩
theorem A2T  {fs:List LO} {v:Vw} {args:List PV} {op:l8_} (h:op∈GU):KK sum fs v args op=I0 v args op:=A7 h
theorem A2V  {fs:List LO} {v:Vw} {args:List PV} {op:l8_} (h0:op ∉ GU) (h:op∈GY):KK sum fs v args op=Et v args op:=(A2 h0).trans (A7 h)
theorem A2S  {fs:List LO} {v:Vw} {args:List PV} {op:l8_} (h0:op ∉ GU) (h1:op ∉ GY) (h:op∈Hl):KK sum fs v args op=JR sum fs v args op:=(A2 h0).trans ((A2 h1).trans (A7 h))
theorem A8C  {fs:List LO} {v:Vw} {args:List PV} {op:l8_} (h0:op ∉ GU) (h1:op ∉ GY) (h2:op ∉ Hl) (h:op ∉ Fn):KK sum fs v args op=.error 23:=(A2 h0).trans ((A2 h1).trans ((A2 h2).trans (A7 h)))
def opW (v:Vw) (args:List PV) (op:l8_):Except Int Vw :=
 if Fn.idxOf op<3 then FO v args op
 else if Fn.idxOf op<10 then FY v args op
 else if op=[87]\/op=[87,42] then (Dt args 0>>=λ_=>.ok { v with clip:=op.length })
 else Jo v args op
theorem A2U  {fs:List LO} {v:Vw} {args:List PV} {op:l8_} (h0:op ∉ GU) (h1:op ∉ GY) (h2:op ∉ Hl) (h:op∈Fn):KK sum fs v args op=(CS (!v.inText)>>=λ_=>opW v args op):=(A2 h0).trans ((A2 h1).trans ((A2 h2).trans (A2 (λhn=>hn h))))
section
variable {B:Nat} {fs:QD} {w w1:World} {bv:Nat} {F:Nat->Prop} {V:Vw} {args:List PV}
theorem Vn (op:l8_) (h:Ga B fs w bv F V args) (ha:args.length<=32) (hb:∀ a∈args,(TI a).length<=65535) (hbl:∀ a∈args,(NC a).length<=65535) (hsn:EM V) (hfc:fs.c=bv) :
  Calls Tryz.prog 36 #[ptV bv,.string (bs op)] w (VwE B fs bv F w (KK (λf b=>Gd f 0 b) fs.fs V args op) args):=by
 obtain ⟨b4,b5⟩:=h.base
 have h0:=h
 have E:=Iq.of h0
 obtain ⟨H,vp,its,hs,cs,rfl,hO,hR⟩:=h.mem
 have aD:=hO.blk
 have aa:H.inText=V.inText:=hR.inText
 obtain ⟨s,fo,sa,pa,cl,it,lo,te,li,ar,itv⟩:=H
 simp only at aa
 have u:∀ w1,AL w.heap.size [bv] w w1->Below B w w1:=λw1 hK=>hK.below b5 (by simpa using b4)
 obtain ⟨R,q⟩:∃ R,KK (λf b=>Gd f 0 b) fs.fs V args op=R:=⟨_,rfl⟩
 rw [q]
 refine Av func36 rfl ntmps36 ?_
 have x:=AL.refl w.heap.size ([bv]) w
 refine Aj<|A5<|A3 rfl<|A0<|AU<|De (α:=Bool) (λt=>[(0,ptV bv),(1,.string (bs op)),(6,.string (bs op)),(7,.bool t)]) (λt w'=>w=w'/\t=decide (op∈GU)) ?_ (λt w1 hR=>?_)
 refine A5<|A1 (.eqs rfl rfl)<|Ab rfl<|Ae rfl (λv=>?_) (λv=>?_)
 have b6:=dT v
 refine Ap ?_
 exact ⟨_,⟨rfl,rfl,rfl,rfl,tT⟩,rfl,by simp_all [GU]⟩
 have b6:=dF v
 refine A5<|A1 (.eqs rfl rfl)<|Ab rfl<|Ae rfl (λy=>?_) (λy=>?_)
 have b7:=dT y
 refine Ap ?_
 exact ⟨_,⟨rfl,rfl,rfl,rfl,tT⟩,rfl,by simp_all [GU]⟩
 have b7:=dF y
 refine A5<|A1 (.eqs rfl rfl)<|Ab rfl<|Ae rfl (λD=>?_) (λD=>?_)
 have b8:=dT D
 refine Ap ?_
 exact ⟨_,⟨rfl,rfl,rfl,rfl,tT⟩,rfl,by simp_all [GU]⟩
 have b8:=dF D
 refine A5<|A1 (.eqs rfl rfl)<|Ab rfl<|Ae rfl (λG=>?_) (λG=>?_)
 have b9:=dT G
 refine Ap ?_
 exact ⟨_,⟨rfl,rfl,rfl,rfl,tT⟩,rfl,by simp_all [GU]⟩
 have b9:=dF G
 refine Ak<|A1 (.eqs rfl rfl)<|Ab rfl ?_
 exact ⟨_,⟨rfl,rfl,rfl,rfl,tT⟩,rfl,by simp_all [GU]⟩
 obtain ⟨rfl,rfl⟩:=hR
 refine Ae rfl (λh5=>?_) (λh5=>?_)
 have ba:=dT h5
 refine Aj ?_
 have v:op∈GU:=by assumption
 refine Ak<|A3 rfl<|A3 rfl<|WL.cx BQ rfl rfl ((A4P op (E).get ha hbl)) (λk8 w6 a2 ab=>?_) (λa7 x9 w6 a2 ab=>?_)
 exact AE (DG k8 (q.symm.trans ((A2T v).trans a2)) (EU (u _ x) ab))
 have i:R=_:=q.symm.trans ((A2T v).trans a2)
 obtain ⟨rfl,F9,j,d⟩:=ab
 have e:=Qz (CA x (λg hg=>.inl (.inl (Ao.1 hg))) (λg hg=>.inl hg)) d
 refine A0<|B2 (BK rfl  ?_)
 exact GX _ _ i rfl ⟨rfl,F9,j,e⟩
 have ba:=dF h5
 have v:op ∉ GU:=by assumption
 refine De (α:=Bool) (λt=>[(0,ptV bv),(1,.string (bs op)),(6,.string (bs op)),(16,.bool t)]) (λt w'=>w=w'/\t=decide (op∈GY)) ?_ (λt w1 hR=>?_)
 refine A5<|A1 (.eqs rfl rfl)<|Ab rfl<|Ae rfl (λac=>?_) (λac=>?_)
 have aF:=dT ac
 refine Ap ?_
 exact ⟨_,⟨rfl,rfl,rfl,rfl,tT⟩,rfl,by simp_all [GY]⟩
 have aF:=dF ac
 refine A5<|A1 (.eqs rfl rfl)<|Ab rfl<|Ae rfl (λad=>?_) (λad=>?_)
 have aG:=dT ad
 refine Ap ?_
 exact ⟨_,⟨rfl,rfl,rfl,rfl,tT⟩,rfl,by simp_all [GY]⟩
 have aG:=dF ad
 refine A5<|A1 (.eqs rfl rfl)<|Ab rfl<|Ae rfl (λae=>?_) (λae=>?_)
 have aH:=dT ae
 refine Ap ?_
 exact ⟨_,⟨rfl,rfl,rfl,rfl,tT⟩,rfl,by simp_all [GY]⟩
 have aH:=dF ae
 refine A5<|A1 (.eqs rfl rfl)<|Ab rfl<|Ae rfl (λaf=>?_) (λaf=>?_)
 have aI:=dT af
 refine Ap ?_
 exact ⟨_,⟨rfl,rfl,rfl,rfl,tT⟩,rfl,by simp_all [GY]⟩
 have aI:=dF af
 refine A5<|A1 (.eqs rfl rfl)<|Ab rfl<|Ae rfl (λag=>?_) (λag=>?_)
 have aJ:=dT ag
 refine Ap ?_
 exact ⟨_,⟨rfl,rfl,rfl,rfl,tT⟩,rfl,by simp_all [GY]⟩
 have aJ:=dF ag
 refine Ak<|A1 (.eqs rfl rfl)<|Ab rfl ?_
 exact ⟨_,⟨rfl,rfl,rfl,rfl,tT⟩,rfl,by simp_all [GY]⟩
 obtain ⟨rfl,rfl⟩:=hR
 refine Ae rfl (λah=>?_) (λah=>?_)
 have aK:=dT ah
 refine Aj ?_
 have y:op∈GY:=by assumption
 refine Ak<|A3 rfl<|A3 rfl<|WL.cx BQ rfl rfl ((A08 op (E).get ha)) (λbb bc J a3=>?_) (λbu bw bc J a3=>?_)
 exact AE (DG bb (q.symm.trans ((A2V v y).trans J)) (EU (u _ x) a3))
 have i:R=_:=q.symm.trans ((A2V v y).trans J)
 obtain ⟨rfl,F9,j,d⟩:=a3
 have e:=Qz (CA x (λg hg=>.inl (.inl (Ao.1 hg))) (λg hg=>.inl hg)) d
 refine A0<|B2 (BK rfl  ?_)
 exact GX _ _ i rfl ⟨rfl,F9,j,e⟩
 have aK:=dF ah
 have y:op ∉ GY:=by assumption
 refine De (α:=Bool) (λt=>[(0,ptV bv),(1,.string (bs op)),(26,.bool t)]) (λt w'=>w=w'/\t=decide (op∈Hl)) ?_ (λt w1 hR=>?_)
 refine A5<|A1 (.eqs rfl rfl)<|Ab rfl<|Ae rfl (λai=>?_) (λai=>?_)
 have aL:=dT ai
 refine Ap ?_
 exact ⟨_,⟨rfl,rfl,rfl,tT⟩,rfl,by simp_all [Hl]⟩
 have aL:=dF ai
 refine A5<|A1 (.eqs rfl rfl)<|Ab rfl<|Ae rfl (λaj=>?_) (λaj=>?_)
 have aM:=dT aj
 refine Ap ?_
 exact ⟨_,⟨rfl,rfl,rfl,tT⟩,rfl,by simp_all [Hl]⟩
 have aM:=dF aj
 refine A5<|A1 (.eqs rfl rfl)<|Ab rfl<|Ae rfl (λak=>?_) (λak=>?_)
 have aN:=dT ak
 refine Ap ?_
 exact ⟨_,⟨rfl,rfl,rfl,tT⟩,rfl,by simp_all [Hl]⟩
 have aN:=dF ak
 refine A5<|A1 (.eqs rfl rfl)<|Ab rfl<|Ae rfl (λal=>?_) (λal=>?_)
 have aO:=dT al
 refine Ap ?_
 exact ⟨_,⟨rfl,rfl,rfl,tT⟩,rfl,by simp_all [Hl]⟩
 have aO:=dF al
 refine A5<|A1 (.eqs rfl rfl)<|Ab rfl<|Ae rfl (λam=>?_) (λam=>?_)
 have aP:=dT am
 refine Ap ?_
 exact ⟨_,⟨rfl,rfl,rfl,tT⟩,rfl,by simp_all [Hl]⟩
 have aP:=dF am
 refine Ak<|A1 (.eqs rfl rfl)<|Ab rfl ?_
 exact ⟨_,⟨rfl,rfl,rfl,tT⟩,rfl,by simp_all [Hl]⟩
 obtain ⟨rfl,rfl⟩:=hR
 refine Ae rfl (λan=>?_) (λan=>?_)
 have aQ:=dT an
 refine Aj ?_
 have D:op∈Hl:=by assumption
 refine Ak<|A3 rfl<|A3 rfl<|WL.cx BQ rfl rfl ((A1U op (E).get ha hb hsn hfc)) (λbd be K a4=>?_) (λbx bz be K a4=>?_)
 exact AE (DG bd (q.symm.trans ((A2S v y D).trans K)) (EU (u _ x) a4))
 have i:R=_:=q.symm.trans ((A2S v y D).trans K)
 obtain ⟨rfl,F9,j,d⟩:=a4
 have e:=Qz (CA x (λg hg=>.inl (.inl (Ao.1 hg))) (λg hg=>.inl hg)) d
 refine A0<|B2 (BK rfl  ?_)
 exact GX _ _ i rfl ⟨rfl,F9,j,e⟩
 have aQ:=dF an
 refine Ap<|Aj ?_
 have D:op ∉ Hl:=by assumption
 refine Ak<|CF (ps:=_) R4 M1 z9_ rfl rfl rfl rfl rfl pR rfl (λbA aR ao aA L bq=>?_)
 have aT:=Kc (w1:=aR) E (λk hk hl=>L.other k oO)
 have aU:=Bx ao aD.lt
 have ap:=aD.un L aU
 have aq:=DW ao x.size
 have a5:=CI x (Ik L aq)
 have bf:=AZ.lit (V:=VB) (l:=[[113],[81],[99,109],[109],[108],[99],[118],[121],[104],[114,101],[83],[115],[102],[70],[102,42],[66],[66,42],[98],[98,42],[110],[87],[87,42]]) aA (rfl)
 refine Ab rfl<|A5<|A3 rfl<|A3 rfl<|WL.c1 BQ rfl rfl ((A3j _ Fn _ op _ bf dD)) (λbB aV=>?_)
 obtain rfl:=aV
 refine Ab rfl<|Aj<|A5<|A3 rfl<|A1 (.lss rfl rfl)<|A0<|Ae rfl (λau=>?_) (λau=>?_)
 have aW:=dT au
 have G:op ∉ Fn:=λhm=>by
  have h9:A1d Fn op=(Fn.idxOf op:Int):=A7 hm
  omega
 refine Ak<|A1 (.mkI Mc rfl)<|FE rfl (AE ?_)
 exact DG 23 (q.symm.trans (A8C v y D G)) (u _ a5)
 have aW:=dF au
 have G:op∈Fn:=by
  apply Classical.byContradiction
  intro hm;have h9:A1d Fn op=-1:=A2 hm
  omega
 have h9:A1d Fn op=(Fn.idxOf op:Int):=A7 G
 refine Ap<|A5<|A3 rfl<|A1 (.nck rfl)<|A1 (.fa BW rfl P2 dD rfl)<|Ai (Af (g4_ _) rfl ap rfl)<|A1 (.not rfl)<|By BQ rfl rfl ((Dn _ _)) (λbg aE P A=>?_) (λbC aE P A=>?_)
 have av:=kB a5 A
 exact AE (DG bg (by rw [<- q,A2U v y D G,<- aa];exact AF P) (u _ av))
 have Q:=Kc (w1:=aE) aT (λk hk hl=>A.block k hl)
 have aX:=ap.bl A
 have o:=kB a5 A
 have hE:R=opW V args op:=q.symm.trans ((A2U v y D G).trans (by rw [<- aa];exact AQ P))
 refine A0<|AU<|A5<|A3 rfl<|A1 (.lss rfl rfl)<|Ab rfl<|Ae rfl (λaw=>?_) (λaw=>?_)
 have aY:=dT aw
 have hD:=hE.trans (A7 oO)
 refine Ak<|A3 rfl<|A3 rfl<|WL.cx BQ rfl rfl ((A06 op (Q).get ha)) (λbh bi T a6=>?_) (λbD bE bi T a6=>?_)
 exact AE (DG bh (hD.trans T) (EU (u _ o) a6))
 have i:R=_:=hD.trans T
 obtain ⟨rfl,F9,j,d⟩:=a6
 have e:=Qz (CA o (λg hg=>.inl (.inl (Ao.1 hg))) (λg hg=>.inl hg)) d
 refine A0<|BU (BK rfl ?_)
 exact GX _ _ i rfl ⟨rfl,F9,j,e⟩
 have aY:=dF aw
 refine A5<|A3 rfl<|A1 (.lss rfl rfl)<|Ab rfl<|Ae rfl (λax=>?_) (λax=>?_)
 have aZ:=dT ax
 have hD:=hE.trans ((A2 oO).trans (A7 oO))
 refine Ak<|A3 rfl<|A3 rfl<|WL.cx BQ rfl rfl ((A4Q op (Q).get ha)) (λbj bk U a8=>?_) (λbG bH bk U a8=>?_)
 exact AE (DG bj (hD.trans U) (EU (u _ o) a8))
 have i:R=_:=hD.trans U
 obtain ⟨rfl,F9,j,d⟩:=a8
 have e:=Qz (CA o (λg hg=>.inl (.inl (Ao.1 hg))) (λg hg=>.inl hg)) d
 refine A0<|BU (BK rfl ?_)
 exact GX _ _ i rfl ⟨rfl,F9,j,e⟩
 have aZ:=dF ax
 refine Fx 64 (decide (op=[87]\/op=[87,42])) ?_ ?_
 refine Ak<|A3 rfl<|A1 (.eqs rfl rfl)<|A3 rfl<|B5 rfl rfl rfl (λC=>?_) (λC=>?_)
 have a':=dF C
 refine A3 rfl<|Au C<|A1 (.eqs rfl rfl)<|A1 (.pkF rfl C rfl)<|Ab rfl ?_
 exact ⟨Gm (CD rfl (by first | (simp_all;done))),rfl⟩
 have a':=dT C
 refine Ac C<|A1 (.pkT rfl C rfl)<|Ab rfl ?_
 exact ⟨Gm (CD rfl (by first | (simp_all;done))),rfl⟩
 refine Ae rfl (λay=>?_) (λay=>?_)
 have b0:=dT ay
 have hD:=hE.trans ((A2 oO).trans ((A2 oO).trans (A7 (dT aS))))
 refine A5<|A3 rfl<|WL.cx BQ rfl rfl ((Fs 0 (Q).get ha oO)) (λbm bn X a0=>?_) (λbI bJ bn X a0=>?_)
 have az:=kB o a0
 exact AE (DG bm (by rw [hD,AF X]) (u _ az))
 have b1:=aX.bl a0.1
 have b2:=kB o a0.1
 rw [AQ X] at hD
 refine A0<|Ak<|A3 rfl<|A3 rfl<|A1 (.len JK rfl)<|A1 (.nck rfl)<|A1 (.fa BW rfl B6 dD rfl)<|CT 28 ((FA ⟨s,fo,sa,pa,(op.length:Int),it,lo,te,li,ar,itv⟩).toArray) b1 B6 (λbK aB aC bt=>?_)
 have b3:=CI b2 (by exact Hc aC (by simp))
 refine A0<|BU (BK rfl ?_)
 exact GX _ _ hD rfl ⟨rfl,EC hO b3 aB (λm=>{ hR.mv m with clip:=rfl })⟩
 have b0:=dF ay
 have hD:=hE.trans ((A2 oO).trans ((A2 oO).trans (A2 (dF aS))))
 refine Ak<|A3 rfl<|A3 rfl<|WL.cx BQ rfl rfl ((A1V op (Q).get ha hsn)) (λbo bp a1 a9=>?_) (λbL bM bp a1 a9=>?_)
 exact AE (DG bo (hD.trans a1) (EU (u _ o) a9))
 have i:R=_:=hD.trans a1
 obtain ⟨rfl,F9,j,d⟩:=a9
 have e:=Qz (CA o (λg hg=>.inl (.inl (Ao.1 hg))) (λg hg=>.inl hg)) d
 refine A0<|BU (BK rfl ?_)
 exact GX _ _ i rfl ⟨rfl,F9,j,e⟩
end
end
section
theorem Kt  {S:List Nat} (h:E6 g w w1) (hg:g∈S\/N<=g):AL N S w w1:=hg.elim (Hc h) (Ik h)
theorem A4z  {F:Nat->Prop} {x:PC} {o:PV} (h:Jh N (λw=>Dv w (Eh c F w) x o) w):Dv w (Eh c F w) x o:=by
 obtain ⟨e,a,b,d⟩:=h
 exact b.mv (Vg a d)
section
variable {B:Nat} {fs:QD} {w w1:World} {bv:Nat} {F:Nat->Prop} {V:Vw} {args:List PV}
theorem Ga.push {H:QA} {its:List AN} {hs:List Vf} {cs:List PC} {x:PC} {o:PV} (hO:VwO B w bv H vp V its hs cs) (hR:VwR (Eh fs.c (GG bv H vp) w) w H fs V args its hs cs) (K:AL w.heap.size [bv,vb H.args bv] w w1)
    (hk:Be w1 bv (FA { H with args:=v1 }).toArray 74) (ho:AJ NF 99 B w1 v1 (cs++[x])) (hn:∀ g,v1.ownBlock=some g->H.args.ownBlock=some g\/w.heap.size<=g) (hp:Dv w (Eh fs.c (GG bv H vp) w) x o) :
    Ga B fs w1 bv (GG bv { H with args:=v1 } vp) V (args++[o])/\Dw (GG bv H vp) (GG bv { H with args:=v1 } vp) w w1:=by
  obtain ⟨-,f,j,k,-⟩:=hO.rest K _ (Ky hO.oa hO.blk.ty)
  have hC:Dw (GG bv H vp) (GG bv { H with args:=v1 } vp) w w1:=CA K (LP (λg hg=>.inr (.inr (.inr (.inr (.inr hg)))))) (λg hg=>by
    rcases hg with a | a | a | a | a | a
    · exact .inl (.inl a)
    · exact .inl (.inr (.inl a))
    · exact .inl (.inr (.inr (.inl a)))
    · exact .inl (.inr (.inr (.inr (.inl a))))
    · exact .inl (.inr (.inr (.inr (.inr (.inl a)))))
    · exact (hn g a).imp (λh=>.inr (.inr (.inr (.inr (.inr h))))) id)
  have hq:=hR.mv (Eh.mv (c:=fs.c) hC)
  have d:=hp.mv (Eh.mv (c:=fs.c) hC)
  have ha:=hq.ar
  refine ⟨⟨_,vp,its,hs,cs++[x],rfl,⟨hk,f dD dD,j dD,k dD,ho,hO.lbv,hO.lbp⟩,?_⟩,hC⟩
  exact { hq with ar:=⟨by rw [A9,A9,ha.1];rfl,λi a m=>by
    rcases BL i cs.length with b | b
    · have e : i < args.length := ha.1 ▸ b
      rw [GM b,GM e]
      exact ha.2 i b e
    · have l : i = cs.length := by rw [A9] at a; simp only [A8, Ag] at a; omega
      subst l
      rw [Gx (FQ _),Gx (Nat.le_of_eq ha.1.symm)]
      simp only [ha.1,Ku,B3]
      exact d⟩ }
theorem N8 {H:QA} {its:List AN} {hs:List Vf} {cs:List PC} {x z:PC} {o:PV} {pv:Option Addr} {cv:Nat} (hO:VwO B w bv H vp V its hs cs) (hR:VwR (Eh fs.c (GG bv H vp) w) w H fs V args its hs cs) (K:AL w.heap.size [bv,vb H.args bv] w w1)
  (hk:Be w1 bv (FA { H with args:=.slice pv (cs++[z]).length cv }).toArray 74) (ho:AJ NF 99 B w1 (.slice pv (cs++[z]).length cv) ((cs++[z]).set cs.length x)) (hn:∀ g,(Value.slice pv (cs++[z]).length cv).ownBlock=some g->H.args.ownBlock=some g\/w.heap.size<=g) (hp:Dv w (Eh fs.c (GG bv H vp) w) x o) :
  Ga B fs w1 bv (GG bv { H with args:=.slice pv (cs++[z]).length cv } vp) V (args++[o])/\Dw (GG bv H vp) (GG bv { H with args:=.slice pv (cs++[z]).length cv } vp) w w1 :=
 Ga.push hO hR K hk (by rwa [List.set_append_right _ _ (FQ _),Ku,List.set_cons_zero] at ho) hn hp
theorem Of  {F0 F2:Nat->Prop} {w0 wJ:World} {l:l8_} {R:Except Int Vw} {f:Nat} {o:PV} (k2:Dw F0 F1 w0 wJ) (k3:Ay wJ p l) (j4:0<l.length->¬ F1 (pA p).block) (hpu:Ga B fs w2 bv F2 V (args++[o])/\Dw F1 F2 wJ w2)
  (k6:args.length<32) (j6:∀ x∈args,Xv x) (hbd:Xv o) (j7:EM V) (k7:Jm (λf b=>Gd f 0 b) fs.fs l f (m:Int) V (args++[o])=R) (h1:m<=l.length) (h2:l.length<f+m) :
  Ga B fs w2 bv F2 V (args++[o])/\Dw F0 F2 w0 w2/\Ay w2 p l/\(0<l.length->¬ F2 (pA p).block)/\(args++[o]).length<=32/\(∀ x∈args++[o],Xv x)/\EM V/\Jm (λf b=>Gd f 0 b) fs.fs l f (m:Int) V (args++[o])=R/\m<=l.length/\l.length<f+m :=
 ⟨hpu.1,Qz k2 hpu.2,k3.chg hpu.2 j4,λh0=>hpu.2.nf (j4 h0) (k3.lt h0),by rw [A9,Ck];omega,λy hy=>(B4.1 hy).elim (j6 y) (λh=>by rw [Ao.1 h];exact hbd),j7,k7,h1,h2⟩
theorem YT {H:QA} {its:List AN} {hs:List Vf} {cs:List PC} (hO:VwO B w bv H vp V its hs cs) (hR:VwR (Eh fs.c (GG bv H vp) w) w H fs V args its hs cs) (K:AL w.heap.size [bv] w w1)
  (hk:Be w1 bv (FA { H with args:=.slice none 0 0 }).toArray 74) :
  Ga B fs w1 bv (GG bv { H with args:=.slice none 0 0 } vp) V []/\Dw (GG bv H vp) (GG bv { H with args:=.slice none 0 0 } vp) w w1:=by
 obtain ⟨-,b,d,e,-⟩:=hO.rest K [74] (λg hg=>⟨_,Ao.2 rfl,by rw [Ao.1 hg];exact hO.blk.ty⟩)
 have hC:Dw (GG bv H vp) (GG bv { H with args:=.slice none 0 0 } vp) w w1:=CA K (λg hg=>.inl (.inl (Ao.1 hg))) (λg hg=>by
  rcases hg with a | a | a | a | a | a
  · exact .inl (.inl a)
  · exact .inl (.inr (.inl a))
  · exact .inl (.inr (.inr (.inl a)))
  · exact .inl (.inr (.inr (.inr (.inl a))))
  · exact .inl (.inr (.inr (.inr (.inr (.inl a)))))
  · cases a)
 have hq:=hR.mv (Eh.mv (c:=fs.c) hC)
 exact ⟨⟨_,vp,its,hs,[],rfl,⟨hk,b dD dD,d dD,e dD,AJ.nil _ _ _ _,hO.lbv,hO.lbp⟩,{ hq with ar:=YX.nil _ _ }⟩,hC⟩
theorem A6Y (p:Option Addr) (l:l8_) (c:Nat) (h:Ga B fs w bv F V []) (hb:Ay w p l) (hc:l.length<=c) (hl:l.length<=100000000) (hpF:0<l.length->¬ F (pA p).block) (hsn:EM V) (hff:∀ f∈fs.fs,0<=f.font/\f.font<=13) (hfc:fs.c=bv) :
    Calls Tryz.prog 19 #[ptV bv,.slice p l.length c] w (VwE B fs bv F w (Jm (λf b=>Gd f 0 b) fs.fs l (l.length+1) 0 V []) []):=by
  obtain ⟨R,cq⟩:∃ R,Jm (λf b=>Gd f 0 b) fs.fs l (l.length+1) 0 V []=R:=⟨_,rfl⟩;rw [cq];obtain ⟨e7,cr⟩:=h.base;have cE:=h.lt;have an:∀ {F1:Nat->Prop} {w1:World},Dw F F1 w w1->Below B w w1:=λh=>h.below cr (λg hg=>(cE g hg).1)
  have hP:∀ (w1:World) (a:Nat),Ay w1 p l->Calls Tryz.prog 34 #[.slice p l.length c,Ah (a:Int)] w1 λe w'=>∃ x:PC,e=.returned (.tuple #[.agg (pcV x).toArray,.string (bs (GH l a).2.1),Ah (GH l a).2.2.1,Ah (GH l a).2.2.2])/\AD w1 w'/\Dv w' (λk=>w1.heap.size<=k) x (GH l a).1:=λw1 a h1 =>
    Calls.mono (Yd p l c a w1 h1 hc hl) λe w' q=>by
      obtain ⟨⟨x,h1,h2⟩,h3⟩:=q;exact ⟨x,h1,h3,h2⟩
  refine Av func19 rfl ntmps19 ?_;have di:=Dw.refl F w;refine Aj<|A5<|Ab rfl<|AU<|Cf (α:=Nat × Nat × (Nat->Prop) × Vw × List PV) (λt=>[(0,ptV bv),(1,.slice p l.length c),(4,Ah (t.2.1:Int))]) (λt w'=>Ga B fs w' bv t.2.2.1 t.2.2.2.1 t.2.2.2.2/\Dw F t.2.2.1 w w'/\Ay w' p l/\(0<l.length->¬ t.2.2.1 (pA p).block)/\t.2.2.2.2.length<=32/\(∀ x∈t.2.2.2.2,Xv x)/\EM t.2.2.2.1/\Jm (λf b=>Gd f 0 b) fs.fs l t.1 (t.2.1:Int) t.2.2.2.1 t.2.2.2.2=R/\t.2.1<=l.length/\l.length<t.1+t.2.1) (λt=>t.1) ((l.length+1,0,F,V,[])) ⟨rfl,rfl,rfl,tT⟩ (⟨h,di,hb,hpF,G8 _,(λx hx=>by cases hx),hsn,cq,G8 _,by simp⟩) (λt w1 hR=>?_);obtain ⟨⟨f,a,F1,V1,args⟩,be⟩:=eX t;subst be;obtain ⟨j1,j2,j3,j4,j5,j6,j7,G,j9,dj⟩:=hR;simp only at j1 j2 j4 j5 j6 j7 G j9 dj;obtain ⟨f,rfl⟩:∃ n,f=n+1:=⟨f-1,oO⟩;unfold Jm at G;have bf:=λw1=>hP w1 a
  have aB:=A28 (l:=l) j9;have ay:=A27 l a
  generalize GH l a=T at bf aB ay G;obtain ⟨o,wd,nx,er⟩:=T;simp only at bf aB ay G;obtain ⟨wL,dk⟩:=eX w1;subst dk;have cF:=Iq.of j1;have aV:=j1.lt;have cG:F1 bv:=by obtain ⟨H,vp,its,hs,cs,ao,-,-⟩:=j1.mem;rw [ao];exact .inl rfl
  have dP:=(aV bv cG).2;refine AU<|A5<|A3 rfl<|A3 rfl<|DO BQ rfl rfl ((bf _ j3)) (λx w1 aN=>?_);have ct:=Kc (w1:=w1) cF (λk hk hl=>aN.1.block k hl);have cu:=Hk j3 aN.1 (λh0=>j3.lt h0);have cw:=Cr j2 aN.1;have dl:=aN.2;have dQ:=aN.1.size;have dm:=Jh.of (Q:=λw=>Dv w (Eh fs.c F1 w) x o) (dl.mono (λk hk hl=>⟨hl,λhf=>by have:=(aV k hf).2;omega,by rw [hfc];omega⟩));refine A3 rfl<|A1 (.ext rfl rfl)<|A1 (.ext rfl rfl)<|A1 (.ext rfl rfl)<|A1 (.ext rfl rfl)<|C1 JE rfl (λb5 cy cz cH aC dR=>?_);have dn:=Kc (w1:=cy) ct (λk hk hl=>aC.other k oO);have dp:=FP (w1:=cy) dm (λk hk hl=>aC.other k oO);have bg:=λh0=>cz▸cu.lt h0
  have dq:=DQ cu aC bg;have bV:=DW cz cw.size;have cI:=Dw.upd cw aC bV;have dI:¬ F1 b5:=λhq=>by have e8:=(ct).lt hq;omega
  refine AH rfl rfl cH Bb rfl rfl (λcA bW af dJ=>?_);have ap:=Kc (w1:=cA) dn (λk hk hl=>af.other k oM);have cJ:=FP (w1:=cA) dp (λk hk hl=>af.other k oM);have aD:=DQ dq af bg;have U:=Dw.upd cI af oO;refine DA rfl<|DA rfl<|Ab rfl<|Aj<|A5<|A3 rfl<|A1 (.eql rfl rfl)<|A0<|Ae rfl (λbh=>?_) (λbh=>?_)
  · have cK := dT bh
    refine C7 ?_;obtain ⟨H,vp,its,hs,cs,ao,hO,J⟩:=(ap).get.mem;have d:=hO.blk;have aO:H.inText=V1.inText:=J.inText;obtain ⟨psv,csv,esv,-⟩:=hO.os.row;obtain ⟨par,car,ear,-⟩:=hO.oa.row;have e9:hs.length=V1.saved.length:=by have:=J.sv.1;rw [B0] at this;exact this
    have ea:hs.reverse.length=hs.length:=E0;have cB:cs.length=args.length:=J.ar.1;obtain ⟨⟨ctm,fi,sk,pe,clv,fn,sz⟩,fo,sa,pa,cl,it,lo,te,li,ar,itv⟩:=H;simp only at aO esv ear;subst esv;subst ear;rw [A7 (show er=26 by assumption)] at G;refine Ak<|A3 rfl<|A1 (.nck rfl)<|A1 (.fa BW rfl F8 dD rfl)<|Ai (Af (He _) rfl d rfl)<|A1 (.lenS Fi rfl)<|A1 (.eql rfl rfl)<|A3 rfl<|B5 rfl rfl rfl (λv=>?_) (λv=>?_)
    · have cL := dT v
      refine A3 rfl<|Au v<|A1 (.nck rfl)<|Au v<|A1 (.fa BW rfl M2 dD rfl)<|Au v<|Ai (Af (Sc _) rfl d rfl)<|Au v<|A1 (.lenS O7 rfl)<|Au v<|A1 (.eql rfl rfl)<|A1 (.pkT rfl v rfl)<|A3 rfl<|B5 rfl rfl rfl (λK=>?_) (λK=>?_)
      · have cM := dT K
        refine A3 rfl<|Au K<|A1 (.nck rfl)<|Au K<|A1 (.fa BW rfl P2 dD rfl)<|Au K<|Ai (Af (g4_ _) rfl d rfl)<|Au K<|A1 (.not rfl)<|A1 (.pkT rfl K rfl)<|By BQ rfl rfl ((Dn _ _)) (λeb cC aE aF=>?_) (λec cC aE aF=>?_);have bi:=Cr U aF;obtain ⟨ae,rfl⟩:=Dl aE;exact AE (DG 22 (G.symm.trans (AF ((A2 (λhz=>by
          simp only [A4,Ad,AP] at hz
          first
            | omega
            | (rw [aO,hz.2] at ae;cases ae))).trans rfl))) (an bi))
        have cN:=Kc (w1:=cC) ap (λk hk hl=>aF.block k hl);have cO:=Cr U aF;refine A0<|BU (BK rfl ?_)
        (have dr := Ea aE
         have ds:args=[]:=CM oO;have cP:(decide ((args.length:Int)=0) && decide ((V1.saved.length:Int)=0) && !V1.inText)=true:=by
           rw [Al oO,Al oO,<- aO];exact dr
         rw [cP] at G;subst ds;exact GX V1 _ (G.symm.trans rfl) rfl ⟨rfl,F1,(cN).get,cO⟩)
      have cM:=dF K;refine Ac K<|Ac K<|Ac K<|Ac K<|A1 (.pkF rfl K rfl)<|By BQ rfl rfl ((Dn _ _)) (λed dt aG bj=>?_) (λee dt aG bj=>?_);have bk:=Cr U bj;obtain ⟨ae,rfl⟩:=Dl aG;exact AE (DG 22 (G.symm.trans (AF ((A2 (λhz=>by
        simp only [A4,Ad,AP] at hz
        first
          | omega
          | (rw [aO,hz.2] at ae;cases ae))).trans rfl))) (an bk))
      refine A0<|BU (BK rfl ?_);exact D6 (Ea aG) dD
    have cL:=dF v;refine Ac v<|Ac v<|Ac v<|Ac v<|Ac v<|A1 (.pkF rfl v rfl)<|A3 rfl<|Ac rfl<|Ac rfl<|Ac rfl<|Ac rfl<|Ac rfl<|A1 (.pkF rfl rfl rfl)<|By BQ rfl rfl ((Dn _ _)) (λef du aH bm=>?_) (λeg du aH bm=>?_);have bn:=Cr U bm;obtain ⟨ae,rfl⟩:=Dl aH;exact AE (DG 22 (G.symm.trans (AF ((A2 (λhz=>by
      simp only [A4,Ad,AP] at hz
      first
        | omega
        | (rw [aO,hz.2] at ae;cases ae))).trans rfl))) (an bn))
    refine A0<|BU (BK rfl ?_);exact D6 (Ea aH) dD
  have cK:=dF bh;refine Ap<|Aj<|A5<|A3 rfl<|A1 (.neq rfl rfl)<|A0<|Ae rfl (λbo=>?_) (λbo=>?_)
  · have cQ := Kj bo
    refine Ak<|A3 rfl<|A1 (.mkI Mc rfl)<|FE rfl (AE ?_);exact DG er (by rw [<- G,A2 (show ¬ er=26 by assumption),A7 aS]) (an U)
  have cQ:=Kk bo;have bp:er=0:=by assumption
  obtain ⟨m,rfl⟩:∃ m:Nat,nx=(m:Int):=⟨nx.toNat,by have:=(aB bp).1;omega⟩;obtain ⟨dS,dU⟩:=aB bp;rw [A2 (show ¬ er=26 by assumption),A2 (λh=>h bp)] at G;refine Ap<|A5<|A3 rfl<|Ab rfl<|Aj<|A5<|A3 rfl<|A1 (.eqs rfl rfl)<|A0<|Ae rfl (λbq=>?_) (λbq=>?_)
  · have cR := dT bq
    rw [A7 (show wd=[] by assumption)] at G;refine De (α:=Unit) (λt=>[(0,ptV bv),(1,.slice p l.length c),(4,Ah (m:Int)),(5,ptV b5)]) (λt w'=>Ga B fs w' bv F1 V1 args/\Dw F F1 w w'/\Ay w' p l/\Dv w' (Eh fs.c F1 w') x o/\Be w' b5 (pcV x).toArray 99/\args.length<32/\Jm (λf b=>Gd f 0 b) fs.fs l f (m:Int) V1 (args++[o])=R) ?_ (λt w1 hR=>?_);obtain ⟨H,vp,its,hs,cs,ao,hO,J⟩:=(ap).get.mem;have d:=hO.blk;obtain ⟨par,car,ear,-⟩:=hO.oa.row;have cB:cs.length=args.length:=J.ar.1;obtain ⟨⟨ctm,fi,sk,pe,clv,fn,sz⟩,fo,sa,pa,cl,it,lo,te,li,ar,itv⟩:=H;simp only at ear;subst ear;refine Ak<|A3 rfl<|A1 (.nck rfl)<|A1 (.fa BW rfl F8 dD rfl)<|Ai (Af (He _) rfl d rfl)<|A1 (.lenS Fi rfl)<|A1 (.bis (decide ((args.length:Int)<32)) (.lss rfl rfl) (by exact DX.2 oO))<|By BQ rfl rfl ((O6 _ _)) (λdv bt ag a6=>?_) (λeh bt ag a6=>?_);have bu:=Cr U a6;exact AE (DG dv (by rw [<- G];exact AF ag) (an bu));have cS:=Kc (w1:=bt) ap (λk hk hl=>a6.block k hl);have cT:=FP (w1:=bt) cJ (λk hk hl=>a6.block k hl);have cU:=bW.bl a6;have cV:=Hk aD a6 (λh0=>aD.lt h0);have cW:=Cr U a6;rw [AQ ag] at G;have aW:=ag;refine A0<|?_;exact ⟨(),⟨rfl,rfl,rfl,rfl,tT⟩,(cS).get,cW,cV,A4z cT,cU,(by
      unfold HG at aW
      split at aW
      · have:=dT aS;omega
      · cases aW),G⟩
    obtain ⟨k1,k2,k3,k4,X,k6,k7⟩:=hR;obtain ⟨wJ,bw⟩:=eX w1;subst bw;have dV:=k1.lt;obtain ⟨H,vp,its,hs,cs,ao,hO,J⟩:=k1.mem;have d:=hO.blk;have u:=hO.oa;obtain ⟨par,car,ear,-,-,dW,-,-,cX,-⟩:=hO.oa.row;have cB:cs.length=args.length:=J.ar.1;obtain ⟨⟨ctm,fi,sk,pe,clv,fn,sz⟩,fo,sa,pa,cl,it,lo,te,li,ar,itv⟩:=H;simp only at ear d u;subst ear;subst ao;have dX:=u.lt;have cY:=d.lt;have dY:=X.lt;have bX:B<=wJ.heap.size:=BA cr (an k2).size;have bx:=AL.refl wJ.heap.size [bv,vb (.slice par cs.length car) bv] wJ;have ad:∀ g,(Value.slice par cs.length car).ownBlock=some g->g<b5:=λg hg=>by have:=(aV g (.inr (.inr (.inr (.inr (.inr hg)))))).2;omega
    unfold maxLen at cX;refine Aj<|DD 13 rfl Ci (λw'=>w'.heap[b5]?=wJ.heap[b5]?/\True) (λei aq=>?_);have a':=Df.le bX aq;have bz:=AJ.drew u aq;have au:=d.drew aq;have av:=X.drew aq;have aI:=CI bx (QL aq);have az:=Dr (av.trans X.symm) BO;refine Aa 0 rfl (.mv rfl) az ?_;refine Aa 1 rfl (.nck rfl) az ?_;refine Aa 2 rfl (.fa BW rfl F8 dD rfl) az ?_;refine C8 4 rfl (λw' hw'=>BD rfl ((hw'.1).trans X) CO rfl Bb) az rfl ?_;refine Ef 3 rfl 6 rfl ?_ ?_;refine Ai (Af (He _) rfl au rfl)<|A0<|⟨az,?_⟩;refine Aa 5 rfl (.lenS Fi rfl) az ?_;refine Aq 6 rfl<|Cw (L:=NF) (ps:=_) ([M3 0 0 []]) Fi II JE rfl rfl rfl rfl rfl (by rfl) rfl rfl (λcD cZ aJ bY a8 dK=>?_);have b0:=BA a' a8.size;have c':=GK bz aJ a8;have d0:=Bx aJ au.lt;have d1:=au.un a8 d0;have d2:=Bx aJ av.lt;have bA:=av.un a8 d2;have bB:wJ.heap.size<=cD:=by rw [aJ];exact aI.size
    have D:=CI aI (Ik a8 bB);have dw:cD<=cZ.heap.size:=by omega
    refine A0<|⟨⟨(bA).trans (X).symm,tT⟩,?_⟩;refine Aq 7 rfl<|CV Fi Qa rfl rfl rfl c' rfl (bY).rowp oE (b0) rfl (λh=>D6 h (PA _ _)) (λej ek a3 bZ aK j=>?_);have bC:=d1.grown aK (λe=>BZ u d dD _ e rfl);have aX:=bA.grown aK (λe=>by have:=ad _ e;omega);have bD:=CI D (Ce aK (λg hg=>.inl (by have hg:(Value.slice par cs.length car).ownBlock=some g:=hg;rw [Gc hg];simp)) D.size);have b1:=BA b0 bZ.size;obtain ⟨pv,cv,evv,-⟩:=(a3).row;subst evv;have bE:=(a3).rowp.isp (by rw [A9,Ck];omega);have dx:(cs++[M3 0 0 []]).length=cs.length+1:=A9;refine A0<|?_;have b2:=Dr (aX.trans X.symm) BO;refine ⟨b2,?_⟩;refine Aa 8 rfl (.ixm Fi II rfl rfl bE cs.length rfl oO) b2 ?_;refine Aa 10 rfl (.nck rfl) b2 ?_;refine Aa 11 rfl (.fa BW rfl F8 dD rfl) b2 ?_;refine Ef 9 rfl 12 rfl ?_ ?_;refine Sy (L:=NF) (x) (cs.length) a3 oO Bb rfl rfl rfl (λel a4 aP ah b3=>?_);have dy:=(a3).lt a4 (by rw [aP];rfl);have C:(Value.slice pv (cs++[M3 0 0 []]).length cv).ownBlock=some a4:=by rw [aP];rfl
    have a7:a4∈[bv,vb (.slice par cs.length car) bv]\/wJ.heap.size<=a4:=(j a4 C).elim (λh1=>.inl (by have h1:(Value.slice par cs.length car).ownBlock=some a4:=h1;rw [Gc h1];simp)) (λh1=>.inr (BA D.size h1));have aY:a4≠bv:=λe=>(j a4 C).elim (λh1=>BZ u d dD _ h1 e) (λh1=>by have:=D.size;omega)
    have aZ:a4≠b5:=λe=>(j a4 C).elim (λh1=>by have:=ad _ h1;omega) (λh1=>by have:=D.size;omega)
    have d3:=bC.up ah;have bG:=aX.up ah;have d4:=CI bD (by exact Kt ah a7);have b':=BA b1 ah.size;refine A0<|⟨⟨(bG).trans (X).symm,tT⟩,?_⟩;refine Aq 12 rfl<|CT 43 ((FA ⟨⟨ctm,fi,sk,pe,clv,fn,sz⟩,fo,sa,pa,cl,it,lo,te,li,.slice pv (cs++[M3 0 0 []]).length cv,itv⟩).toArray) d3 F8 (λem c0 ai dL=>?_) (h1:=(b3).one);have dM:=BA b' ai.size;have d5:=I4 b3 ai (λg hg e=>by subst e;first | exact BZ u d dD _ hg rfl | (rcases j _ hg with h1 | h1 <;> first | exact BZ u d dD _ h1 rfl | omega));have d6:=bG.up ai;have d7:=CI d4 (by exact Hc ai (by simp));refine A0<|⟨⟨(d6).trans (X).symm,tT⟩,?_⟩;refine Bl kR<|C7 ?_;have a1:=N8 hO J d7 c0 d5 (λg h1=>(j g h1).imp id (BA D.size)) k4;exact ⟨(f,m,_,V1,args++[o]),⟨rfl,rfl,rfl,tT⟩,Of (f:=f) (m:=m) k2 k3 j4 a1 k6 j6 ay j7 k7 oO oO,oM⟩;refine CT 43 ((FA ⟨⟨ctm,fi,sk,pe,clv,fn,sz⟩,fo,sa,pa,cl,it,lo,te,li,.slice pv (cs++[M3 0 0 []]).length cv,itv⟩).toArray) bC F8 (λen c2 aj dN=>?_) (h1:=(a3).one);have c3:=BA b1 aj.size;have bH:=I4 a3 aj (λg hg e=>by subst e;first | exact BZ u d dD _ hg rfl | (rcases j _ hg with h1 | h1 <;> first | exact BZ u d dD _ h1 rfl | omega));have bI:=aX.up aj;have d8:=CI bD (by exact Hc aj (by simp));refine A0<|⟨⟨(bI).trans (X).symm,tT⟩,?_⟩;refine Aq 9 rfl<|Sy (L:=NF) (x) (cs.length) bH oO Bb rfl rfl rfl (λeo a5 aQ ak c4=>?_);have dz:=(bH).lt a5 (by rw [aQ];rfl);have C:(Value.slice pv (cs++[M3 0 0 []]).length cv).ownBlock=some a5:=by rw [aQ];rfl
    have a7:a5∈[bv,vb (.slice par cs.length car) bv]\/wJ.heap.size<=a5:=(j a5 C).elim (λh1=>.inl (by have h1:(Value.slice par cs.length car).ownBlock=some a5:=h1;rw [Gc h1];simp)) (λh1=>.inr (BA D.size h1));have aY:a5≠bv:=λe=>(j a5 C).elim (λh1=>BZ u d dD _ h1 e) (λh1=>by have:=D.size;omega)
    have aZ:a5≠b5:=λe=>(j a5 C).elim (λh1=>by have:=ad _ h1;omega) (λh1=>by have:=D.size;omega)
    have d9:=c2.up ak;have da:=bI.up ak;have db:=CI d8 (by exact Kt ak a7);have dO:=BA c3 ak.size;refine A0<|⟨⟨(da).trans (X).symm,tT⟩,?_⟩;refine Bl kR<|C7 ?_;have a1:=N8 hO J db d9 c4 (λg h1=>(j g h1).imp id (BA D.size)) k4;exact ⟨(f,m,_,V1,args++[o]),⟨rfl,rfl,rfl,tT⟩,Of (f:=f) (m:=m) k2 k3 j4 a1 k6 j6 ay j7 k7 oO oO,oM⟩;refine Cw (L:=NF) (ps:=_) ([M3 0 0 []]) Fi II JE rfl rfl rfl rfl rfl (by rfl) rfl rfl (λbJ c5 am bK a2 dA=>?_);have aR:=BA a' a2.size;have c6:=GK bz am a2;have c7:=Bx am au.lt;have b4:=au.un a2 c7;have c8:=Bx am av.lt;have b6:=av.un a2 c8;have bc:wJ.heap.size<=bJ:=by rw [am];exact aI.size
    have s:=CI aI (Ik a2 bc);have dg:bJ<=c5.heap.size:=by omega
    refine A0<|?_;have bL:=Dr (b6.trans X.symm) BO;refine ⟨bL,?_⟩;refine Aq 3 rfl<|Ai (Af (He _) rfl b4 rfl)<|A0<|⟨bL,?_⟩;refine Aa 5 rfl (.lenS Fi rfl) bL ?_;refine Aq 7 rfl<|CV Fi Qa rfl rfl rfl c6 rfl (bK).rowp oE (aR) rfl (λh=>D6 h (PA _ _)) (λdZ d' P bM aw i=>?_);have b7:=b4.grown aw (λe=>BZ u d dD _ e rfl);have aL:=b6.grown aw (λe=>by have:=ad _ e;omega);have b8:=CI s (Ce aw (λg hg=>.inl (by have hg:(Value.slice par cs.length car).ownBlock=some g:=hg;rw [Gc hg];simp)) s.size);have aT:=BA aR bM.size;obtain ⟨pv,cv,evv,-⟩:=(P).row;subst evv;have bE:=(P).rowp.isp (by rw [A9,Ck];omega);have dx:(cs++[M3 0 0 []]).length=cs.length+1:=A9;refine A0<|?_;have b9:=Dr (aL.trans X.symm) BO;refine ⟨b9,?_⟩;refine Aa 8 rfl (.ixm Fi II rfl rfl bE cs.length rfl oO) b9 ?_;refine Aa 10 rfl (.nck rfl) b9 ?_;refine Aa 11 rfl (.fa BW rfl F8 dD rfl) b9 ?_;refine Ef 9 rfl 12 rfl ?_ ?_;refine Sy (L:=NF) (x) (cs.length) P oO Bb rfl rfl rfl (λe0 E aA a9 aU=>?_);have dh:=(P).lt E (by rw [aA];rfl);have C:(Value.slice pv (cs++[M3 0 0 []]).length cv).ownBlock=some E:=by rw [aA];rfl
    have a7:E∈[bv,vb (.slice par cs.length car) bv]\/wJ.heap.size<=E:=(i E C).elim (λh1=>.inl (by have h1:(Value.slice par cs.length car).ownBlock=some E:=h1;rw [Gc h1];simp)) (λh1=>.inr (BA s.size h1));have aY:E≠bv:=λe=>(i E C).elim (λh1=>BZ u d dD _ h1 e) (λh1=>by have:=s.size;omega)
    have aZ:E≠b5:=λe=>(i E C).elim (λh1=>by have:=ad _ h1;omega) (λh1=>by have:=s.size;omega)
    have c9:=b7.up a9;have ba:=aL.up a9;have ca:=CI b8 (by exact Kt a9 a7);have bN:=BA aT a9.size;refine A0<|⟨⟨(ba).trans (X).symm,tT⟩,?_⟩;refine Aq 12 rfl<|CT 43 ((FA ⟨⟨ctm,fi,sk,pe,clv,fn,sz⟩,fo,sa,pa,cl,it,lo,te,li,.slice pv (cs++[M3 0 0 []]).length cv,itv⟩).toArray) c9 F8 (λe1 bO aa dB=>?_) (h1:=(aU).one);have dC:=BA bN aa.size;have cb:=I4 aU aa (λg hg e=>by subst e;first | exact BZ u d dD _ hg rfl | (rcases i _ hg with h1 | h1 <;> first | exact BZ u d dD _ h1 rfl | omega));have cc:=ba.up aa;have cd:=CI ca (by exact Hc aa (by simp));refine A0<|⟨⟨(cc).trans (X).symm,tT⟩,?_⟩;refine Bl kR<|C7 ?_;have a1:=N8 hO J cd bO cb (λg h1=>(i g h1).imp id (BA s.size)) k4;exact ⟨(f,m,_,V1,args++[o]),⟨rfl,rfl,rfl,tT⟩,Of (f:=f) (m:=m) k2 k3 j4 a1 k6 j6 ay j7 k7 oO oO,oM⟩;refine CT 43 ((FA ⟨⟨ctm,fi,sk,pe,clv,fn,sz⟩,fo,sa,pa,cl,it,lo,te,li,.slice pv (cs++[M3 0 0 []]).length cv,itv⟩).toArray) b7 F8 (λe2 bP ab dE=>?_) (h1:=(P).one);have dG:=BA aT ab.size;have cf:=I4 P ab (λg hg e=>by subst e;first | exact BZ u d dD _ hg rfl | (rcases i _ hg with h1 | h1 <;> first | exact BZ u d dD _ h1 rfl | omega));have bb:=aL.up ab;have cg:=CI b8 (by exact Hc ab (by simp));refine A0<|⟨⟨(bb).trans (X).symm,tT⟩,?_⟩;refine Aq 9 rfl<|Sy (L:=NF) (x) (cs.length) cf oO Bb rfl rfl rfl (λe3 a0 bd ax bQ=>?_);have C:(Value.slice pv (cs++[M3 0 0 []]).length cv).ownBlock=some a0:=by rw [bd];rfl
    have a7:a0∈[bv,vb (.slice par cs.length car) bv]\/wJ.heap.size<=a0:=(i a0 C).elim (λh1=>.inl (by have h1:(Value.slice par cs.length car).ownBlock=some a0:=h1;rw [Gc h1];simp)) (λh1=>.inr (BA s.size h1));have aY:a0≠bv:=λe=>(i a0 C).elim (λh1=>BZ u d dD _ h1 e) (λh1=>by have:=s.size;omega)
    have aZ:a0≠b5:=λe=>(i a0 C).elim (λh1=>by have:=ad _ h1;omega) (λh1=>by have:=s.size;omega)
    have ci:=bP.up ax;have cj:=bb.up ax;have ck:=CI cg (by exact Kt ax a7);refine A0<|⟨⟨(cj).trans (X).symm,tT⟩,?_⟩;refine Bl kR<|C7 ?_;have a1:=N8 hO J ck ci bQ (λg h1=>(i g h1).imp id (BA s.size)) k4;exact ⟨(f,m,_,V1,args++[o]),⟨rfl,rfl,rfl,tT⟩,Of (f:=f) (m:=m) k2 k3 j4 a1 k6 j6 ay j7 k7 oO oO,oM⟩
  have cR:=dF bq;rw [A2 (show ¬ wd=[] by assumption)] at G;refine Ap<|De (α:=(Nat->Prop) × Vw) (λt=>[(0,ptV bv),(1,.slice p l.length c),(4,Ah (m:Int))]) (λt w'=>Ga B fs w' bv t.1 t.2 args/\Dw F t.1 w w'/\Ay w' p l/\(0<l.length->¬ t.1 (pA p).block)/\Jm (λf b=>Gd f 0 b) fs.fs l f (m:Int) t.2 []=R/\EM t.2) ?_ (λt w1 hR=>?_);refine Ak<|A3 rfl<|A3 rfl<|WL.cx BQ rfl rfl ((Vn wd (ap).get j5 (λx hx=>(j6 x hx).1) (λx hx=>(j6 x hx).2) j7 hfc)) (λdc dd ac aM=>?_) (λe4 e5 dd ac aM=>?_);exact AE (DG dc (G.symm.trans (AF ac)) (EU (an U) aM));obtain ⟨rfl,F2,de,bR⟩:=aM;have df:=A5q hff (λx hx=>(j6 x hx).1) j7 ac;rw [AQ ac] at G;have bS:=λh0=>Dw.nf bR (j4 h0) (aD.lt h0)
  have cm:=Ay.chg aD bR j4;have cn:=Qz U bR;refine A0<|?_;exact ⟨(F2,_),⟨rfl,rfl,rfl,tT⟩,de,cn,cm,bS,G,df⟩;obtain ⟨⟨F2,V2⟩,be⟩:=eX t;subst be;obtain ⟨k1,k2,k3,k4,X,k6⟩:=hR;simp only at k1 k2 k4 X k6;obtain ⟨wJ,bw⟩:=eX w1;subst bw;obtain ⟨H,vp,its,hs,cs,ao,hO,J⟩:=k1.mem;have d:=hO.blk;obtain ⟨⟨ctm,fi,sk,pe,clv,fn,sz⟩,fo,sa,pa,cl,it,lo,te,li,ar,itv⟩:=H;subst ao;have cY:=d.lt;have bx:=AL.refl wJ.heap.size [bv] wJ;refine Ak<|A3 rfl<|A1 (.nck rfl)<|A1 (.fa BW rfl F8 dD rfl)<|CT 43 ((FA ⟨⟨ctm,fi,sk,pe,clv,fn,sz⟩,fo,sa,pa,cl,it,lo,te,li,.slice none 0 0,itv⟩).toArray) d F8 (λe6 bT bU dH=>?_);have co:=CI bx (by exact Hc bU (by simp));refine A0<|?_;have a1:=YT hO J co bT;exact ⟨(f,m,_,V2,[]),⟨rfl,rfl,rfl,tT⟩,⟨a1.1,Qz k2 a1.2,k3.chg a1.2 k4,λh0=>a1.2.nf (k4 h0) (k3.lt h0),G8 _,λy hy=>(by cases hy),k6,X,oM,oM⟩,oM⟩
end
end
section
theorem Wu (b4 b5:Nat) (w:World) :
  CallsD Tryz.prog 16 #[ptV b4,ptV b5] .returning w λe u' w'=>u'=.returning/\(∃ v,e=.returned v)/\w'=w:=by
 refine IS func16 rfl ntmps16 bL rfl<|A0<|AU<|A5<|A1 (.eqNil0 kR rfl)<|A0<|E3 rfl rfl<|Ak<|Ab rfl<|BU (BK rfl ?_)
 exact ⟨⟨_,rfl⟩,rfl⟩
theorem UU (b4 b5 B:Nat) (v:Value) (j k:Int) (w:World) (h4:Be w b4 #[v] 29) (h5:Be w b5 #[Ah j] 30) (hB1:B<=b4) (h45:b4<b5) :
  CallsD Tryz.prog 16 #[ptV b4,ptV b5] (.panicking [{ v:=.iface 30 (Ah k),recovered:=false }]) w
   λe u' w'=>u'=.panicking [{ v:=.iface 30 (Ah k),recovered:=true }]/\(∃ v,e=.returned v) /\
    Be w' b4 #[.slice none 0 0] 29/\Be w' b5 #[Ah k] 30/\Below B w w':=by
 refine IS func16 rfl ntmps16 bL rfl ?_
 have f:=Nh (B) w
 refine A0<|AU<|A5<|A1 (.eqNil kR rfl)<|A0<|E4 rfl rfl<|A5<|A1 (.tas Mc rfl)<|A1 (.ext rfl rfl)<|A1 (.ext rfl rfl)<|A0<|E3 rfl rfl<|A5<|Ab rfl<|Ak<|A3 rfl<|WL.st Mi rfl rfl rfl h4 (by exact Nat.le_of_ble_eq_true rfl) (λo c a q=>?_)
 have c:Be o b4 _ _:=c
 have a:E6 b4 _ _:=a
 have g:=h5.upd a oM
 have i:=CP f oO a
 refine WL.st GJ rfl rfl rfl g (by exact Nat.le_of_ble_eq_true rfl) (λs d b t=>?_)
 have d:Be s b5 _ _:=d
 have b:E6 b5 _ _:=b
 have l:=c.up b
 have m:=CP i oO b
 refine A0<|BU (BK rfl ?_)
 exact ⟨⟨_,rfl⟩,l,d,m⟩
theorem Ui {P:Program} {fn:Func} {f:Fr} {w:World} {a b:Tmp} {ta tb:TypeId} {pa pb:Addr} {x y:Value} (hr:fn.results=#[.cell a ta,.cell b tb]) (ha:look f a=some (.pointer (some pa))) (hb:look f b=some (.pointer (some pb)))
  (hx:(loadVar ta pa).run P w=.ok x w) (hy:(loadVar tb pb).run P w=.ok y w):En P fn f w (.tuple #[x,y]):=λtmps hh=>by
 have e1:=hh _ _ ha;have e2:=hh _ _ hb
 simp only [Ba] at e1 e2
 simp [results,hr,e1,e2,asAddr,hx,hy]
def A4C (R:Except Int Vw) (e:Ending) (w':World):Prop:=match R with
 | .ok V=>∃ p c its,e=.returned (.tuple #[.slice p its.length c,Ah 0])/\Cn JW (λg=>g<w'.heap.size) w' p its c/\(∀ x∈its,Lg (λg=>g<w'.heap.size) w' x)/\its.map JA=V.items
 | .error k=>e=.returned (.tuple #[.slice none 0 0,Ah k])
def A7j:DP:=⟨65536,0,0,655360,none,[],0,0⟩
def st1:StH:=⟨O3,MC 1,MC 1,A7j,.slice none 0 0,-1,0⟩
def A4S (fo:Value) (bp:Nat):QA:=⟨st1,fo,.slice none 0 0,bp,0,false,false,Xu,Xu,.slice none 0 0,.slice none 0 0⟩
theorem A9e:Tryz.prog.built 37 [(0,Ah 1)]=some (DV (MC 1)).toArray:=by kernel_rfl
theorem A9d:Tryz.prog.built 41 [(0,Ah 65536),(3,Ah 655360)]=some (Ex A7j).toArray:=by kernel_rfl
theorem A9c:Tryz.prog.built 68 [(0,.agg (M9 O3).toArray),(1,.agg (DV (MC 1)).toArray),(2,.agg (DV (MC 1)).toArray),(3,.agg (Ex A7j).toArray),(4,.slice none 0 0),(5,Ah (-1)),(6,Ah 0)]=some (stV st1).toArray:=by kernel_rfl
theorem A9b (p:Option Addr) (n c bp:Nat):Tryz.prog.built 74 [(0,.agg (stV st1).toArray),(1,.slice p n c),(3,ptV bp)]=some (FA (A4S (.slice p n c) bp)).toArray:=by kernel_rfl
theorem A9w  {pf:Option Addr} {fl:List LO} {cf:Nat} (hk:Be w bv (FA (A4S (.slice pf fl.length cf) bp)).toArray 74) (hp:CU B w bp 4096 Ie (.slice none 0 0)) (hbv:B<=bv) (hbp:B<=bp) (hf:Cn ftL (λk=>k<B) w pf fl cf) :
  Ga B ⟨fl,bv⟩ w bv (GG bv (A4S (.slice pf fl.length cf) bp) (.slice none 0 0)) Vp []:=by
 have a:=hp.base
 refine ⟨⟨_,.slice none 0 0,[],[],[],rfl,⟨hk,hp,AJ.nil _ _ _ _,AJ.nil _ _ _ _,AJ.nil _ _ _ _,hbv,hbp⟩,?_⟩⟩
 refine ⟨⟨rfl,rfl,rfl,rfl,Cn.nil _ _ _,⟨none,0,[],rfl,Cn.nil _ _ _,λy hy=>(by cases hy),rfl⟩,rfl,rfl⟩,⟨rfl,λi h=>D6 h (by simp)⟩,rfl,λx hx=>(by cases hx),YX.nil _ _,rfl,rfl,rfl,rfl,rfl,⟨pf,cf,rfl,hf.mono λg hg=>⟨oO,λh=>?_,by show g≠bv;omega⟩⟩,hk.lt⟩
 rcases h with h | h | h | h | h | h
 · omega
 ·
  have h:g=bp:=h
  omega
 all_goals cases h
theorem St  {b:Nat} {y:Value} {t:TypeId} {a:Addr} (hb:Be w b #[v] t) (ha:a.block=b) (hc:w.cell? a=some y):a=⟨b,0,none⟩/\y=v:=by
 obtain ⟨b',o,sp⟩:=a
 obtain rfl:b'=b:=ha
 unfold World.cell? at hc
 unfold Be at hb
 simp only [hb] at hc
 cases sp with
 | some s=>simp at hc
 | none =>
  cases o with
  | zero=>simp at hc;exact ⟨rfl,hc.symm⟩
  | succ n=>simp at hc
theorem A79  {L:Fq α} {l:List α} {b:Nat} {t:TypeId} (h:Bi L w p l) (h0:0<l.length) (hb:Be w b #[v] t) (hv:(∀ x,(L.V x)[0]?≠some v)\/1<L.m):(pA p).block≠b:=λe=>by
 have h1:=h.cells 0 h0 0 L.pos
 rw [Nat.zero_mul,Ey,Ff,A6 (by rw [L.len];exact L.pos)] at h1
 obtain ⟨ha,hy⟩:=St hb e h1
 rcases hv with hv | hv
 · exact hv l[0] (by rw [A6 (by rw [L.len];exact L.pos),hy])
 ·
  have h2:=h.cells 0 h0 1 hv
  rw [Nat.zero_mul,Ey,ha,add_lit,A6 (by rw [L.len];exact hv)] at h2
  have h3:=(St hb rfl h2).1
  simp at h3
theorem Cn.excl  {L:Fq α} {l:List α} {b:Nat} {t:TypeId} (h:Cn L Z w p l c) (hb:Be w b #[v] t) (hv:(∀ x,(L.V x)[0]?≠some v)\/1<L.m):Cn L (λg=>Z g/\g≠b) w p l c :=
 ⟨h.row,h.sl,λh0=>⟨h.inn h0,A79 h.row h0 hb hv⟩⟩
theorem Lg.excl  {x:AN} {b:Nat} {t:TypeId} (h:Lg Z w x) (hb:Be w b #[.slice none 0 0] t):Lg (λg=>Z g/\g≠b) w x :=
 ⟨h.path.excl hb (.inr dD),h.clips.excl hb (.inr dD),λy hy=>(h.all y hy).excl hb (.inr dD),h.pen.excl hb (.inl λx=>by simp [QM]),⟨h.bytes.row,h.bytes.sl,λh0=>⟨h.bytes.inn h0,λe=>by
  have h1:=h.bytes.row.cells 0 h0
  rw [Ff] at h1
  exact D6 (St hb e h1).2 (by simp)⟩⟩⟩
theorem A4x  {L:Fq α} {l:List α} (h:Jh N (λw1=>Cn L (λk=>k<N) w1 p l c) w):Cn L (λk=>k<N) w p l c:=by
 have hs:=h.size
 obtain ⟨d,e,a,b⟩:=h
 exact a.mv ⟨oO,λg hg=>⟨b g hg,hg⟩⟩
theorem Vo  {fo:Value} (hbv:B<=bv) (hbp:B<=bp) (hg:g<B):¬ GG bv (A4S fo bp) (.slice none 0 0) g:=λh=>by
 rcases h with h | h | h | h | h | h
 · omega
 ·
  have h:g=bp:=h
  omega
 all_goals cases h
theorem R2 (p:Option Addr) (l:l8_) (c:Nat) (pf:Option Addr) (fl:List LO) (cf:Nat) (w:World) (hb:Ay w p l) (hc:l.length<=c) (hl:l.length<=100000000) (hf:Cn ftL (λk=>k<w.heap.size) w pf fl cf) (hff:∀ f∈fl,0<=f.font/\f.font<=13) :
    Calls Tryz.prog 8 #[.slice p l.length c,.slice pf fl.length cf] w λe w'=>A4C (Jm (λf b=>Gd f 0 b) fl l (l.length+1) 0 Vp []) e w'/\AD w w':=by
  obtain ⟨R,hR⟩:∃ R,Jm (λf b=>Gd f 0 b) fl l (l.length+1) 0 Vp []=R:=⟨_,rfl⟩;rw [hR];have aV:=Jh.of (Q:=λw1=>Cn ftL (λk=>k<w.heap.size) w1 pf fl cf) hf;refine SA func8 rfl ntmps8 bL ?_;refine WD.seq<|Ak<|C1 zeroValue29 rfl (λb1 aW aA a3 J bd=>?_);have aL:=λq=>aA▸hb.lt q
  have aB:=DQ hb J aL;refine C1 zeroValue30 rfl (λK aX a4 a5 y be=>?_);have aY:=Bx a4 a3.lt;have aC:=a3.un y aY;have av:=λq=>a4▸aB.lt q
  have a6:=DQ aB y av;refine A0<|WD.defer rfl rfl<|WD.of ?_;refine A5<|A1 (.build rfl A9e) ?_;refine C1 zeroValue37 rfl (λaD aM A aw j b8=>?_);have aN:=Bx A aC.lt;have aO:=Bx A a5.lt;have U:=λq=>A▸a6.lt q
  refine AH rfl rfl aw F5 rfl rfl (λaE a o b9=>?_);refine A0<|Aj<|Vc<|DD 10 rfl Ci (λw'=>w'.heap[aD]?=aE.heap[aD]?/\True) (λaZ s=>?_);have a7:=a.drew s;have a8:=(DQ (DQ a6 j U) o U).drew s;have V:=Dr (a7.trans a.symm) BO;refine C8 1 rfl (λw' hw'=>Cx (L:=Gj) H5 rfl F5 ((hw'.1).trans a) (MC 1) (rfl) rfl) V rfl ?_;refine C8 2 rfl (λw' hw'=>Cx (L:=Gj) H5 rfl F5 ((hw'.1).trans a) (MC 1) (rfl) rfl) V rfl ?_;refine Aa 3 rfl (.build rfl A9d) V ?_;refine Aa 5 rfl (.mv rfl) V ?_;refine Aq 0 rfl<|As (Lv _) (λaF t=>?_);have a9:=(((aC.un j aN).up o).drew s).bl t;have aa:=(((a5.un j aO).up o).drew s).bl t;have N:=a7.bl t;have ab:=Hk a8 t (λq=>a8.lt q);have ac:=DN (Df.below (CP (uB (uB (uB (DR w) aA J) a4 y) A j) oO o) s) t;refine A0<|⟨⟨(N).trans (a).symm,tT⟩,?_⟩;refine Aa 4 rfl (.build rfl A9c) ⟨(N).trans (a).symm,tT⟩ ?_;refine Aq 6 rfl<|DO BQ rfl rfl ((A5g 4096 _ dD)) (λbp a' i=>?_);have ad:=a9.bl i.1;have ae:=aa.bl i.1;have C:=N.bl i.1;have af:=Hk ab i.1 (λq=>ab.lt q);have ag:=DN ac i.1;obtain ⟨D,ah⟩:=i.2;obtain ⟨Bz,X⟩:=eX aF.heap.size;rw [<- X] at D ah;have aP:=Jh.of (Q:=λw1=>CU Bz w1 bp 4096 Ie (.slice none 0 0)) ah;have aG:b1<Bz:=by rw [X];exact (a9).lt
  have aH:K<Bz:=by rw [X];exact (aa).lt
  have Y:w.heap.size<=Bz:=by rw [X];exact ac.size
  have bf:=ah.base;refine A0<|⟨⟨(C).trans (a).symm,tT⟩,?_⟩;refine Aa 7 rfl (.build rfl (A9b pf fl.length cf bp)) ⟨(C).trans (a).symm,tT⟩ ?_;refine Aq 8 rfl<|D5 rfl rfl (λbg P u ax d ba=>?_);have aQ:=Bx u ad.lt;have ai:=ad.un d aQ;have aR:=Bx u ae.lt;have aj:=ae.un d aR;have aT:=Bx u C.lt;have ak:=C.un d aT;have ay:=λq=>u▸af.lt q
  have am:=uB ag u d;have b0:=DW u ag.size;refine A0<|⟨⟨(ak).trans (a).symm,tT⟩,?_⟩;refine Aa 9 rfl (.as rfl) ⟨(ak).trans (a).symm,tT⟩ ?_;refine Bl kR<|A5<|A3 rfl<|A3 rfl<|WL.cx BQ rfl rfl ((A6Y p l c (A9w (B:=Bz) ax (DJ (FP (w1:=P) aP (λk hk hl=>d.other k oO))) oO D ((A4x (FP (w1:=P) (FP (w1:=a') (FP (w1:=aF) (FP (w1:=aZ) (FP (w1:=aE) (FP (w1:=aM) (FP (w1:=aX) (FP (w1:=aW) aV (λk hk hl=>J.other k oO)) (λk hk hl=>y.other k oO)) (λk hk hl=>j.other k oO)) (λk hk hl=>o.other k oM)) (λk hk hl=>(by obtain ⟨m,rfl⟩:=s;rfl))) (λk hk hl=>t.block k hl)) (λk hk hl=>i.1.block k hl)) (λk hk hl=>d.other k oO))).mono λg hg=>C6 hg Y)) (DQ af d ay) hc hl (λq=>Vo oO D (C6 (hb.lt q) Y)) A4T hff rfl)) (λb2 an E v=>?_) (λbh bi an E v=>?_);exact LL A8V (λw'=>_) (UU b1 K w.heap.size _ _ b2 _ ((ai).below v aG) ((aj).below v aH) oO oO)
    (λw' hS=>⟨_,Ui rfl rfl rfl (Bt hS.1 (OM _) rfl) (Bt hS.2.1 (GL _) rfl),by rw [<- hR,E];exact ⟨rfl,EU am (EU (Below.mono v Y) hS.2.2)⟩⟩)
  obtain ⟨rfl,F1,aU,b3⟩:=v;have T:Below Bz P an:=b3.below oO (λg hg=>Nat.le_of_not_lt λh=>Vo oO D h hg);have aI:=(ai).below T aG;have aJ:=(aj).below T aH;obtain ⟨wR,F⟩:=eX an;obtain ⟨H,vp,its,hs,cs,bj,hO,ao⟩:=aU.mem;have b4:=hO.blk;obtain ⟨⟨ctm,fi,sk,pe,clv,fn,sz⟩,fo,sa,pa,cl,it,lo,te,li,ar,itv⟩:=H;obtain ⟨pit,cit,eit,aK⟩:=Cn.own (Z:=λg=>g<wR.heap.size) hO.oi (λg hg=>F▸(hO.oi.lt g hg).2);simp only at eit;subst eit;have b5:=E;refine A0<|A5<|A3 rfl<|A1 (.nck rfl)<|A1 (.fa BW rfl Mi dD rfl)<|Ai (Af (OM _) rfl b4 rfl)<|D1 aI Mi (λbk az a0 bb=>?_);refine D1 (aJ.up a0) GJ (λG a1 a2 bc=>?_);refine A0<|B2 ?_;obtain ⟨wm,ap,aq⟩:∃ wm,E6 b1 wR wm/\E6 K wm G:=by rw [F];exact ⟨_,aS,aS⟩
  have b7:wR.heap[K]?=G.heap[K]?:=by rw [F];exact aJ.trans (a1).symm
  have m:Mv (λg=>g<wR.heap.size/\g≠b1) (λg=>g<G.heap.size) wR G:=⟨BA ap.size aq.size,λg hg=>⟨by
    rcases Nat.decEq g K with h1 | h1
    · exact (aq.other g h1).trans (ap.other g hg.2)
    · rw [h1];exact b7.symm,C6 hg.1 (BA ap.size aq.size)⟩⟩
  have au:Be wR b1 #[.slice none 0 0] 29:=F▸aI;have hA:A4C R (.returned (.tuple #[.slice pit its.length cit,Ah 0])) G:=by
    rw [<- hR,b5];rw [<- F] at aK ao;exact ⟨pit,cit,its,rfl,(aK.excl au (.inr dD)).mv m,λx hx=>(((ao.itr x hx).mv (Z1:=λg=>g<wR.heap.size) ⟨FQ _,λg hg=>⟨rfl,hg.1⟩⟩).excl au).mv m,ao.it⟩
  exact Ew.ret A8V (λw'=>_) (Wu b1 K _) (λw' hS=>by
    subst hS;exact ⟨_,Ui rfl rfl rfl (Bt (az.up a2) (OM _) rfl) (Bt a1 (GL _) rfl),hA,(CP (CP (EU am (Below.mono T Y)) oO a0) oO a2)⟩)
end
section
theorem A8S:(Tryz.prog.info? 53).map (λi=>(i.zero,i.size,i.bytes))=some (some (.agg #[.string ⟨#[]⟩,Ah 0]),2,24):=by kernel_rfl
theorem A9g (s:l8_) (n:Int):Tryz.prog.built 53 [(0,.string (bs s)),(1,Ah n)]=some (ftV ⟨s,n⟩).toArray:=by kernel_rfl
end
section
theorem F7 {n:Int} (h1:-9223372036854775808<=n) (h2:n<=9223372036854775807):(Lit.int .i64 n).wf=true:=by
 simp only [Lit.wf,A4,Ad]
 exact ⟨h1,h2⟩
theorem HQ {n:Int} (h:Am n=true):(Lit.int .i64 n).wf=true:=by
 unfold Am at h
 simp only [A4,Ad] at h
 exact F7 oO oO
theorem A7g  {x:BH} (h:BP x=true):Kq w x:=by
 unfold BP at h
 simp only [A4] at h
 exact ⟨HQ h.1,HQ h.2⟩
theorem A9A  {s:Cm} {k:Int} (h:HV s k=true):MF w s:=by
 unfold HV at h
 simp only [A4,Ad,B8,List.all_nil] at h
 obtain ⟨⟨⟨a,-⟩,b,c,d,-⟩,-⟩:=h
 have hk:1<=s.fKind/\s.fKind<=4:=by
  unfold Hn at a
  split at a
  · omega
  ·
   split at a
   · omega
   ·
    split at a
    · omega
    · omega
 exact ⟨F7 oO oO,A7g b,A7g c,A7g d⟩
theorem A6x {w:World}:∀ (l:List Cm) (k:Int),DE k l=true->∀ y∈l,MF w y
 | [],_,_,y,hy=>by cases hy
 | s::r,k,h,y,hy=>by
  unfold DE at h
  simp only [A4] at h
  rcases Ax.1 hy with rfl | hy
  · exact A9A h.1
  · exact A6x r _ h.2 y hy
theorem A2N  {l:List Cm} (h:EZ l=true):∀ y∈l,MF w y:=by
 unfold EZ at h
 simp only [A4] at h
 exact A6x l 0 h.2
theorem B02  {x:Bm} (hr:Lh Z w x) (h:Fo x=true):Hs w x:=by
 unfold Fo at h
 simp only [A4] at h
 exact ⟨hr.row,hr.sl,A2N h.2⟩
theorem A95  {x:Cj} (h:Fw x=true):N9 w x:=by
 unfold Fw Jl Jw Cy at h
 simp only [A4,BC,Ad,B3,HS,AP,SH,Aw,BT] at h
 obtain ⟨hs,⟨⟨⟨a,-⟩,b,-⟩,c,-⟩,d,-⟩:=h
 have a:0<=x.fPart_0/\x.fPart_0<=65536:=a
 have b:0<=x.fPart_1/\x.fPart_1<=65536:=b
 have c:0<=x.fPart_2/\x.fPart_2<=65536:=c
 have d:0<=x.fPart_3/\x.fPart_3<=65536:=d
 refine ⟨F7 ?_ ?_,F7 oO oO,F7 oO oO,F7 oO oO,F7 oO oO⟩
 · omega
 · omega
theorem A36  {x:DP} (hr:YV Z w x) (h:Ki x=true):Qi w x:=by
 unfold Ki at h
 simp only [A4,Ad] at h
 obtain ⟨⟨⟨⟨⟨a,b⟩,c⟩,d⟩,e⟩,f⟩:=h
 exact ⟨F7 oO oO,F7 oO oO,F7 oO oO,F7 oO oO,hr.row.ofI,hr.sl,λy hy=>(by have:=List.length_pos_of_mem hy;omega),F7 oO oO⟩
theorem A8u  {x:DP} (hr:YV Z w x) (h:KT x=true):Qi w x:=by
 unfold KT KS at h
 simp only [A4,AP,Ee,Aw,BT] at h
 obtain ⟨⟨⟨⟨⟨⟨⟨⟨⟨⟨⟨⟨f,d⟩,g⟩,i⟩,j⟩,k⟩,l⟩,e⟩,m⟩,b⟩,-⟩,c⟩,-⟩:=h
 refine ⟨HQ d,F7 oO oO,F7 oO oO,HQ e,hr.row.ofI,hr.sl,λy hy=>?_,HQ b⟩
 have a:=At.1 c y hy
 unfold IB at a
 simp only [A4] at a
 exact HQ a.2
theorem A45 (l:List Bm):ET (l.map FL)=ET l:=by
 unfold ET
 rw [B0,List.all_map]
 rfl
theorem Zu (x:AN):E8 (JA x)=E8 x:=by
 show (Fw x.fColor && ET (x.fClips.map FL) && _)=_
 rw [A45]
 rfl
theorem A3p  {x:AN} (hr:Lg Z w x) (h:E8 x=true):HY w x:=by
 unfold E8 at h
 simp only [A4] at h
 obtain ⟨⟨hc,c⟩,h⟩:=h
 unfold ET at c
 simp only [A4] at c
 have d:∀ y∈x.fClips,Hs w y:=λy hy=>B02 (hr.all y hy) (At.1 c.2 y hy)
 split at h
 ·
  next h4 =>
  simp only [A4,Ad] at h
  obtain ⟨⟨hl,hp⟩,hn⟩:=h
  unfold GW Ej at hl
  simp only [A4,Ad,B8,List.all_nil] at hl
  obtain ⟨⟨⟨⟨f1,f2⟩,-⟩,-⟩,e,f,g,i,j,k,-⟩:=hl
  exact ⟨F7 oO oO,hr.path.row,hr.path.sl,λy hy=>(by have:=List.length_pos_of_mem hy;omega),A95 hc,hr.clips.row,hr.clips.sl,d,A36 hr.pen hn,F7 oO oO,HQ e,HQ f,HQ g,HQ i,HQ j,HQ k,hr.bytes.row,hr.bytes.sl⟩
 ·
  simp only [A4] at h
  obtain ⟨b,a⟩:=h
  unfold LS OC at b
  simp only [A4,Ad] at b
  obtain ⟨⟨⟨⟨f1,e,f,g,i,j,k⟩,-⟩,-⟩,l⟩:=b
  have hk:1<=x.fKind/\x.fKind<=3/\Qi w x.fPen:=by
   split at a
   · exact ⟨oO,oO,A36 hr.pen a⟩
   ·
    split at a
    · exact ⟨oO,oO,A8u hr.pen a⟩
    · cases a
  exact ⟨F7 oO oO,hr.path.row,hr.path.sl,A2N l,A95 hc,hr.clips.row,hr.clips.sl,d,hk.2.2,F7 oO oO,F7 oO oO,F7 oO oO,F7 oO oO,F7 oO oO,F7 oO oO,F7 oO oO,hr.bytes.row,hr.bytes.sl⟩
end
section
def s21:l8_:=[48,32,48,32,49,48,32,49,48,32,114,101,32,102]
def A8Y:Except Int Vw->Bool
 | .ok V=>decide (V.items.map (λx=>x.fPath.length)=[5])
 | .error _=>false
theorem A7C:A8Y (Jm (λf b=>Gd f 0 b) [] s21 (s21.length+1) 0 Vp [])=true:=by decide +kernel
theorem A9k:∃ V,Jm (λf b=>Gd f 0 b) [] s21 (s21.length+1) 0 Vp []=.ok V/\V.items.map (λx=>x.fPath.length)=[5]:=by
 have h:=A7C
 cases hr:Jm (λf b=>Gd f 0 b) [] s21 (s21.length+1) 0 Vp [] with
 | error k=>rw [hr] at h;cases h
 | ok V=>rw [hr] at h;exact ⟨V,rfl,dT h⟩
theorem Um (p:Option Addr) (c:Nat) (w:World) (hb:Ay w p s21) (hc:s21.length<=c) :
  Calls Tryz.prog 8 #[.slice p s21.length c,.slice none 0 0] w λe w'=>∃ x:Option Addr × Nat × AN,e=.returned (.tuple #[.slice x.1 1 x.2.1,Ah 0])/\AD w w'/\Bi JW w' x.1 [x.2.2]/\x.2.2.fPath.length=5 :=
 Calls.mono (R2 p s21 c none [] 0 w hb hc dD (Cn.nil _ _ _) (λf hf=>by cases hf)) λe w' q=>by
  obtain ⟨V,hV,h5⟩:=A9k
  obtain ⟨q1,q2⟩:=q
  rw [hV] at q1
  obtain ⟨pi,ci,its,e1,e2,-,e4⟩:=q1
  rw [<- e4,List.map_map] at h5
  have hl:its.length=1:=by have:=Bk List.length h5;rw [B0] at this;exact this
  obtain ⟨x,rfl⟩:=List.length_eq_one_iff.1 hl
  exact ⟨(pi,ci,x),e1,q2,e2.row,(List.cons.inj h5).1⟩
theorem KH (w:World):C9 6 #[] w (.bool true):=by
 refine Av func6 rfl ntmps6 ?_
 have j:=DR w
 refine A5<|Ab rfl<|A5<|CF (ps:=_) BI Iy Qk rfl rfl rfl rfl rfl pR rfl (λC B k f g u=>?_)
 have l:=uB j k g
 refine A88 ([48,32,48,32,49,48,32,49,48,32,114,101,32,102]) BI Ln rfl f rfl rfl (λD hs i v=>?_)
 have m:=CP l oO i
 refine DO BQ rfl rfl ((Um _ _ _ hs dD)) (λx E d=>?_)
 have o:=DN m d.1
 obtain ⟨xp,xc,y⟩:=x
 obtain ⟨c,q⟩:=d.2
 simp only at c q
 refine A3 rfl<|A1 (.ext rfl rfl)<|A1 (.ext rfl rfl)<|DA rfl<|Ab rfl<|A5<|A3 rfl<|A1 (.eql rfl rfl)<|A3 rfl<|B5 rfl rfl rfl (λb=>?_) (λb=>?_)
 have s:=dT b
 refine A3 rfl<|Au b<|A1 (.lenS JQ rfl)<|Au b<|A1 (.eql rfl rfl)<|A1 (.pkT rfl b rfl)<|A3 rfl<|B5 rfl rfl rfl (λa=>?_) (λa=>?_)
 have t:=dT a
 refine A3 rfl<|Au a<|A1 (.ixm JQ Uy rfl rfl (c.isp (by (simp only [A8,Ag];omega))) (0) (rfl) dD)<|Au a<|A1 (.fa Db rfl HE dD rfl)<|Au a<|Ai (AS (JG _) rfl ((c.field (0) (by (simp only [A8,Ag];omega)) 1 dD).trans rfl))<|Au a<|A1 (.lenS Fk rfl)<|Au a<|A1 (.eql rfl rfl)<|A1 (.pkT rfl a rfl)<|Ab rfl<|AI ?_
 exact ⟨Bw (Bk Value.bool (Al (show (y.fPath.length:Int)=5 by omega))),o⟩
 have t:=dF a
 refine Ac a<|Ac a<|Ac a<|Ac a<|Ac a<|A1 (.pkF rfl a rfl)<|Ab rfl<|AI ?_
 first
 | exact D6 aS dD
 | (exfalso;simp_all;done)
 | (exfalso;omega)
 have s:=dF b
 refine Ac b<|Ac b<|A1 (.pkF rfl b rfl)<|A3 rfl<|Ac rfl<|Ac rfl<|Ac rfl<|Ac rfl<|Ac rfl<|Ac rfl<|A1 (.pkF rfl rfl rfl)<|Ab rfl<|AI ?_
 first
 | exact D6 aS dD
 | (exfalso;simp_all;done)
 | (exfalso;omega)
end
section
open Go.ChangeShapes Go.WideShapes Go.ChangeAt Go.RowKit
structure AC where
 kind:Int
 n:Int
 text:l8_
 kp:Option Addr
 kl:Nat
 kc:Nat
 lp:Option Addr
 ll:Nat
 lc:Nat
 dp:Option Addr
 dl:Nat
 dc:Nat
def acV (x:AC):List Value:=[Ah x.kind,Ah x.n,.string (bs x.text),.slice x.kp x.kl x.kc,.slice x.lp x.ll x.lc,.slice x.dp x.dl x.dc]
def acL:Fq AC:=⟨6,acV,dD,λ_=>rfl,λx u hu=>At.1 (show (acV x).all Value.oneCell'=true from rfl) u hu⟩
structure B0a (x:AC) (nk nl nd:Nat):Prop where
 n:-9223372036854775808<=x.n/\x.n<=9223372036854775807
 text:x.text.length<=9223372036854775807
 kl:x.kl=nk
 ll:x.ll=nl
 dl:x.dl=nd
 kc:nk<=x.kc
 lc:nl<=x.lc
 dc:nd<=x.dc
 km:x.kc<=9223372036854775807
 lm:x.lc<=9223372036854775807
 dm:x.dc<=9223372036854775807
inductive A8e (w:World) (S:Nat->Prop):AC->AV->Prop
 | mk (x:AC) (keys:List (l8_)) (list:List AV) (data:l8_) (cs:List AC) (ok:B0a x keys.length cs.length data.length) (hkl:∀ k∈keys,k.length<=9223372036854775807)
   (hk:AZ VB w x.kp keys) (hks:0<keys.length->S (pA x.kp).block) (hr:Bi acL w x.lp cs) (hrs:0<cs.length->S (pA x.lp).block)
   (hd:Ay w x.dp data) (hds:0<data.length->S (pA x.dp).block) (hlen:cs.length=list.length)
   (hsub:∀ i (h:i<cs.length) (h2:i<list.length),A8e w S cs[i] list[i]):A8e w S x (.mk x.kind x.n x.text keys list data)
structure B0D (w:World) (S:Nat->Prop) (cs:List AC) (acc:List AV):Prop where
 len:cs.length=acc.length
 sub:∀ i (h:i<cs.length) (h2:i<acc.length),A8e w S cs[i] acc[i]
end
section
def B0y (D:Int) (st:Bool) (k n:Int) (t:l8_) (ks:List (l8_)) (m:Nat) (d:l8_):Prop :=
 (k=6/\1<=D/\n=0/\t=[]/\ks=[]/\d=[]) \/
 (((k=7/\d=[])\/(k=9/\st=true/\d.length<=1048576/\[76,101,110,103,116,104] ∉ ks))/\1<=D/\n=0/\t=[]/\ks.length=m/\(∀ x∈ks,A10 x)/\ks.Nodup)
end
end Go.Proofs.YthmhfjeojkbpfaaGreatDoor
