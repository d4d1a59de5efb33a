/-
  What the claim leans on, part 4: pruned and joined by my own tool out of the texts that stand in wip/ as templates.
-/
import Derived.Test.YthmhfjeojkbpfaaGreatDoorVk3
set_option maxHeartbeats 6400000
set_option maxRecDepth 100000
namespace Go.Proofs.YthmhfjeojkbpfaaGreatDoor
open Go.RowKit
open Go.Proofs.Tryz
variable {aft:Array Edge} {ops:Array Oper} {ats:Array TypeId} {refs:Bool} {R:Ending->World->Prop} {f:Fr} {fill last:Int} {sum:Int->List UInt8->Int} {ns:List Int} {A s:List UInt8} {vs xs:List Value} {B N bp bv by' c d g i id m t t1:Nat} {F1 T Z:Nat->Prop} {x y:Operand} {p q:Option Addr} {P:Program} {pos:String} {α β:Type} {E e ta tb tx:TypeId} {v v' v1 vp z:Value} {w w1 w2:World} {S':World->Prop}
section
theorem A8C:(Tryz.prog.info? 9).map (λi=>(i.zero,i.size,i.bytes))=some (some (.string ⟨#[]⟩),1,16):=by kernel_rfl
theorem A2k (q:Option Addr) (s:List (l8_)) (c:Nat) (x:l8_) (w:World) (hb:AS UO w q s) (hl:s.length<=1000000000) :
  Calls Tryz.prog 51 #[.slice q s.length c,.string (bs x)] w λe w'=>∃ a:{ a:Int // 0<=a↔x∈s },e=.returned (.int .i64 a.1)/\w=w':=by
 refine W.e func51 rfl ntmps51 bL ?_
 refine A4<|A9 rfl<|Ah<|A4<|A2 rfl<|A0 (.lenS Qj rfl)<|A2 rfl<|WL.e<|W.b<|Cj (α:=Nat) (λt=>[(0,.slice q s.length c),(1,.string (bs x)),(7,.int .i64 (s.length:Int)),(8,.int .i64 (t:Int))]) (λt w'=>w=w'/\t<=s.length/\x ∉ s.take t) (λt=>s.length-t) (0) ⟨rfl,rfl,rfl,rfl,tT⟩ (⟨rfl,Gg _,by simp⟩) (λt m hR=>?_)
 obtain ⟨i,rfl⟩:∃ i,i=t:=⟨t,rfl⟩
 obtain ⟨rfl,hi,d⟩:=hR
 refine A4<|A0 (.lss rfl rfl)<|WL.e<|Ah<|Ac rfl (λf=>?_) (λf=>?_)
 have j:=dT f
 refine W.k<|Ah<|W.b<|A4<|A2 rfl<|A9 rfl<|A4<|A2 rfl<|A2 rfl<|A2 rfl<|A0 (.ixb Qj Lv rfl rfl (hb.isp oD) (i) (rfl) oO)<|Ag (AO (KP _) rfl (hb.cells (i) oO))<|A0 (.eqs rfl rfl)<|WL.e<|Ac rfl (λg=>?_) (λg=>?_)
 have l:=dT g
 refine A4<|A2 rfl<|A9 rfl<|Ai (AZ rfl rfl ?_)
 exact ⟨⟨(i:Int),λ_=>by rw [show x=s[i]'oO by assumption];exact AJ _,λ_=>by omega⟩,rfl,rfl⟩
 have l:=dF g
 refine W.k<|Ak<|A0 (.iis (((i+1:Nat):Int)) (.add rfl rfl (Bp oO)) oO)<|A2 rfl<|WL.e<|?_
 exact ⟨i+1,⟨rfl,rfl,rfl,rfl,tT⟩,⟨rfl,by ((try simp only) <;> omega),by
  rw [List.take_add_one,A7 oO,Option.toList_some,Ba,Am];exact λh=>h.elim d aS⟩,by ((try simp only) <;> omega)⟩
 have j:=dF f
 refine C0<|A4<|A9 rfl<|Ai (AZ rfl rfl ?_)
 exact ⟨⟨-1,λh=>CM h dD,λh=>by rw [show s.take i=s from AR oO] at d;exact CM h d⟩,rfl,rfl⟩
theorem A2m (q:Option Addr) (s:List (l8_)) (c:Nat) (x:l8_) (w:World) (hb:AS UO w q s) (hl:s.length<=1000000000) :
  Calls Tryz.prog 92 #[.slice q s.length c,.string (bs x)] w λe w'=>e=.returned (.bool (decide (x∈s)))/\w=w':=by
 refine W.e func92 rfl ntmps92 bL ?_
 refine A4<|A9 rfl<|A4<|A2 rfl<|A2 rfl<|DQ AN rfl rfl ((A2k q s c x _ hb hl)) (λa d b=>?_)
 obtain rfl:=b
 refine A0 (.geq rfl rfl)<|A9 rfl<|Ai (AZ rfl rfl ?_)
 exact ⟨EI (D5.2 a.2),rfl⟩
theorem R8 {l:l8_} {k:l8_} (ht:t<=l.length) (h:Jc l t=.ok (k,t1)):t<=t1/\t1<=l.length:=by
 have hw:=EX l t ht
 unfold Jc at h
 split at h
 · cases h
 ·
  split at h
  · cases h
  ·
   split at h
   · cases h
   · cases h;exact hw
theorem Vs {obj:Nat->MN} {l:l8_} {f:Nat} {ks:List (l8_)} {os:List PV} (hf:0<f):GT obj l f ks os t=(match l[AP false l t]? with
  | none=>.error 24
  | some c =>
   if c=62/\l.length<=AP false l t+1 then .error 24
   else if c=62/\l[AP false l t+1]?=some 62 then .ok (ks,os,AP false l t+2)
   else if c≠47 then .error 23
   else match Jc l (AP false l t+1) with
    | .error k=>.error k
    | .ok (k,t1) =>
     if k∈ks then .error 23
     else if 65535<=os.length then .error 25
     else match l[AP false l t1]? with
      | none=>.error 24
      | some _=>match obj (AP false l t1) with
       | .error k=>.error k
       | .ok (o,t')=>GT obj l (f-1) (ks++[k]) (os++[o]) t'):=by
 cases f with
 | zero=>omega
 | succ f=>rfl
theorem A26 {l:l8_} (h:Hc l t 62=true):l[t]?=some 62:=by
 obtain ⟨a,b⟩:=Q3 h
 rw [A7 a,b]
theorem VB {l:l8_} (h:Hc l t 62=false):l[t]?≠some 62:=λe=>by
 obtain ⟨h1,h2⟩:=BR.1 e
 exact U6 h h1 h2
theorem Xp (p:Option Addr) (l:l8_) (c:Nat) (refs:Bool) (D:Int) (hO:A3t p l c refs D) (hadv:∀ t o t',t<l.length->FD refs l D.toNat t=.ok (o,t')->t<t'/\t'<=l.length) (r t:Nat) (w:World) (h:PX w r p l c t refs) (hne:0<l.length->(pA p).block≠r) (hc:l.length<=c) (hl:l.length<=100000000) (ht:t<=l.length) :
  Calls Tryz.prog 63 #[.pointer (some ⟨r,0,none⟩),.int .i64 D] w (Hk 30 (Nc (GT (FD refs l D.toNat) l (l.length+1) [] [] t)) (A74 w r p l c refs) (λw'=>Bf w.heap.size r w w')):=by
 have hr:=h.1
 have hb:=h.2
 have fD:0<l.length->(pA p).block<w.heap.size:=λh0=>hb.lt h0
 obtain ⟨R,hR⟩:∃ R,R=GT (FD refs l D.toNat) l (l.length+1) [] [] t:=⟨_,rfl⟩
 rw [<- hR]
 obtain ⟨t0,fE⟩:∃ t0,t0=t:=⟨t,rfl⟩
 subst fE
 refine W.e func63 rfl ntmps63 bL ?_
 have eH:=Bf.refl (w.heap.size) r w
 refine Ah ?_
 have go:r<w.heap.size:=hr.lt
 refine Ak<|BV Jg rfl (λb1 gp c0 c2 bg g7=>?_)
 have fF:=Bg c0 hr.lt
 have aL:=hr.un bg fF
 have c3:=λh0=>c0▸hb.lt h0
 have eI:=DB hb bg c3
 have cJ:=Cq c0 eH.size
 have eJ:=BN eH (Es bg cJ)
 refine WL.e<|?_
 refine A4<|A0 (.buildL (ps:=_) GQ rfl rfl rfl pS) ?_
 refine BV Jg rfl (λP gq bu eO aN g8=>?_)
 have fG:=Bg bu aL.lt
 have fH:=aL.un aN fG
 have eP:=Bg bu c2.lt
 have eQ:=c2.un aN eP
 have ab:=λh0=>bu▸eI.lt h0
 have eR:=DB eI aN ab
 have cK:=Cq bu eJ.size
 have eS:=BN eJ (Es aN cK)
 refine Az rfl rfl eO B2 rfl rfl (λgr cL ap g3=>?_)
 have eT:=fH.up ap
 have eU:=eQ.up ap
 have eV:=DB eR ap ab
 have eW:=BN eS (Es ap oO)
 refine WL.e<|W.b ?_
 have bv:0<l.length->(pA p).block<P+1:=λh0=>by have:=fD h0;omega
 have gs:r<P:=by omega
 refine Cj (α:=Value × Value × List (l8_) × List PC × List PV × Nat × Nat) (λt=>[(0,.pointer (some ⟨r,0,none⟩)),(1,.int .i64 D),(4,.pointer (some ⟨b1,0,none⟩)),(5,.pointer (some ⟨P,0,none⟩))]) (λt w'=>PX w' r p l c t.2.2.2.2.2.1 refs/\Bf w.heap.size r w w'/\AF w' b1 (U3 0 0 []).toArray 99/\AF w' P #[.int .i64 7,.int .i64 0,.string ⟨#[]⟩,t.1,t.2.1,.slice none 0 0] 99/\AD A1l 9 (P+1) w' t.1 t.2.2.1/\AD Nb 99 (P+1) w' t.2.1 t.2.2.2.1/\(∀ g,t.1.ownBlock=some g->t.2.1.ownBlock≠some g)/\Iv w' (λk=>P<k/\t.1.ownBlock≠some k/\t.2.1.ownBlock≠some k) t.2.2.2.1 t.2.2.2.2.1/\GT (FD refs l D.toNat) l t.2.2.2.2.2.2 t.2.2.1 t.2.2.2.2.1 t.2.2.2.2.2.1=R/\l.length<t.2.2.2.2.2.2+t.2.2.2.2.2.1/\t.2.2.2.2.2.1<=l.length/\t.2.2.2.2.1.length<=65535/\t.2.2.1.length=t.2.2.2.2.1.length) (λt=>t.2.2.2.2.2.2) ((.slice none 0 0,.slice none 0 0,[],[],[],t0,l.length+1)) ⟨rfl,rfl,rfl,rfl,tT⟩ (⟨⟨eT,eV⟩,eW,eU,cL,AD.nil _ _ _ _,AD.nil _ _ _ _,λg h=>(by cases h),Iv.nil _ _,hR.symm,by ((try simp only) <;> omega),ht,Gg _,rfl⟩) (λt w1 hR=>?_)
 obtain ⟨kv,v,ks,cs,acc,t,f⟩:=t
 obtain ⟨c4,hT,eK,aL,aO,bh,bi,bj,hw,fI,c5,fJ,fK⟩:=hR
 simp only at c4 aL aO bh bi bj hw fI c5 fJ fK ⊢
 have J:=Vs (obj:=FD refs l D.toNat) (l:=l) (ks:=ks) (os:=acc) (t:=t) (f:=f) oO
 have g9:=GJ l t c5
 have gt:=bj.len
 obtain ⟨pl,cl,rfl,-⟩:=bh.row
 obtain ⟨pk,ck,rfl,-⟩:=aO.row
 refine W.b<|Ah<|A4<|A2 rfl<|Bk AN rfl rfl ((ON r p l c t refs _ ⟨c4.1,c4.2⟩ hne hl c5)) (λfL eL aq Q=>?_) (λfM eL aq Q=>?_)
 have c6:=BN hT (G2 Q hT.size)
 exact Aw (Dq fL (by rw [<- hw,J,(Jq aq).1,(Jq aq).2];rfl) c6)
 have eX:=E6 aO Q.2 oO
 have eY:=E6 bh Q.2 oO
 have eZ:=Ni (w1:=eL) bj (λk hk hl=>Q.2.block k hl (by first | omega | (have:=hk.1;omega)))
 have bk:=Q.1.1
 have e':=I4 eK Q.2 eK.lt oO
 have f0:=I4 aL Q.2 aL.lt oO
 have f1:=Q.1.2
 have f2:=BN hT (G2 Q.2 hT.size)
 have c7:=Qr aq
 rw [c7] at J
 obtain ⟨gv,fN⟩:=BR.1 c7
 obtain ⟨x0,fO⟩:∃ x0,x0=fM:=⟨_,rfl⟩
 rw [<- fO] at J fN c7 ⊢
 generalize AP false l t=s at *
 refine A9 rfl<|W.b<|ME 11 (decide ((x0.toNat:Int)=62/\(l.length:Int)<=(s:Int)+1)) ?_ (λfP a3=>?_)
 refine E2 C7 kR<|At (.mv rfl) rfl<|At (.eql rfl rfl) rfl<|At (.mv rfl) rfl<|M9 rfl rfl rfl (λi=>?_) (λi=>?_)
 have f3:=dT i
 refine At (.mv rfl) rfl<|BT rfl rfl rfl i<|At (.nck rfl) rfl<|BT rfl rfl rfl i<|At (.fa CL rfl B5 dD rfl) rfl<|BT rfl rfl rfl i<|Di (λm=>Ad (Bw _) rfl bk rfl) rfl<|BT rfl rfl rfl i<|At (.iis ((s:Int)+1) (.add rfl rfl (Bp oO)) oO) rfl<|BT rfl rfl rfl i<|At (.mv rfl) rfl<|BT rfl rfl rfl i<|At (.nck rfl) rfl<|BT rfl rfl rfl i<|At (.fa CL rfl G3 dD rfl) rfl<|BT rfl rfl rfl i<|Di (λm=>Ad (g22_ _) rfl bk rfl) rfl<|BT rfl rfl rfl i<|At (.lenS Bu rfl) rfl<|BT rfl rfl rfl i<|At (.geq rfl rfl) rfl<|At (.pkT rfl i rfl) rfl<|At (.as rfl) rfl<|Da (λgw f4=>?_)
 exact ⟨G8 (Cy rfl (by (apply AU.2;(try simp) <;> omega))),f4⟩
 have f3:=dF i
 refine Bb rfl rfl rfl i<|Bb rfl rfl rfl i<|Bb rfl rfl rfl i<|Bb rfl rfl rfl i<|Bb rfl rfl rfl i<|Bb rfl rfl rfl i<|Bb rfl rfl rfl i<|Bb rfl rfl rfl i<|Bb rfl rfl rfl i<|Bb rfl rfl rfl i<|At (.pkF rfl i rfl) rfl<|At (.as rfl) rfl<|Da (λgx f5=>?_)
 exact ⟨G8 (Cy rfl (by (apply AU.2;(try simp) <;> omega))),f5⟩
 have f6:=AD.drew eX a3
 have f7:=AD.drew eY a3
 have f8:=Ni (w1:=fP) eZ (λk hk hl=>(by obtain ⟨m,rfl⟩:=a3;rfl))
 have bl:=bk.drew a3
 have f9:=e'.drew a3
 have fb:=f0.drew a3
 have bm:=f1.drew a3
 have c8:=BN f2 (NE a3)
 refine Ac rfl (λc9=>?_) (λc9=>?_)
 have fc:=dT c9
 refine Ak<|FQ AN rfl ((CV 24 _)) (λgz fd=>?_)
 obtain rfl:=fd
 exact Aw (Dq 24 (by rw [<- hw,J];(try simp only []);rw [A6 ⟨Cr (d:=62) (show (x0.toNat:Int)=62 by omega),by omega⟩];rfl) c8)
 have fc:=dF c9
 have a4:¬ (x0=62/\l.length<=s+1):=λh=>by (have h2:(x0.toNat:Int)=62:=by rw [h.1];rfl);omega
 refine ME 28 (decide ((x0.toNat:Int)=62) && Hc l (s+1) 62) ?_ (λfQ a5=>?_)
 refine E2 C7 kR<|At (.mv rfl) rfl<|At (.eql rfl rfl) rfl<|At (.mv rfl) rfl<|M9 rfl rfl rfl (λa=>?_) (λa=>?_)
 have fe:=dT a
 refine At (.mv rfl) rfl<|BT rfl rfl rfl a<|At (.nck rfl) rfl<|BT rfl rfl rfl a<|At (.fa CL rfl G3 dD rfl) rfl<|BT rfl rfl rfl a<|Di (λm=>Ad (g22_ _) rfl bl rfl) rfl<|BT rfl rfl rfl a<|At (.mv rfl) rfl<|BT rfl rfl rfl a<|At (.nck rfl) rfl<|BT rfl rfl rfl a<|At (.fa CL rfl B5 dD rfl) rfl<|BT rfl rfl rfl a<|Di (λm=>Ad (Bw _) rfl bl rfl) rfl<|BT rfl rfl rfl a<|At (.iis (((s+1:Nat):Int)) (.add rfl rfl (Bp oO)) oO) rfl<|BT rfl rfl rfl a<|At (.ixb Bu I7 rfl rfl (bm.isp oD) (s+1) oO oO) rfl<|BT rfl rfl rfl a<|Di (λm=>AO (Ou _) rfl ((bm.drewN m).cells (s+1) oO)) rfl<|BT rfl rfl rfl a<|At (.eql rfl rfl) rfl<|At (.pkT rfl a rfl) rfl<|At (.as rfl) rfl<|Da (λgA ff=>?_)
 exact ⟨G8 (Cy rfl (by first | (rw [show decide ((x0.toNat:Int)=62)=false from Al aS];rfl) | (rw [show decide ((x0.toNat:Int)=62)=true from Aj aS,Cx];unfold Hc;rw [show decide (s+1<l.length)=true from Aj oO,Cx,getElem!_pos l (s+1) oO];rfl))),ff⟩
 have fe:=dF a
 refine Bb rfl rfl rfl a<|Bb rfl rfl rfl a<|Bb rfl rfl rfl a<|Bb rfl rfl rfl a<|Bb rfl rfl rfl a<|Bb rfl rfl rfl a<|Bb rfl rfl rfl a<|Bb rfl rfl rfl a<|Bb rfl rfl rfl a<|Bb rfl rfl rfl a<|Bb rfl rfl rfl a<|At (.pkF rfl a rfl) rfl<|At (.as rfl) rfl<|Da (λgC fg=>?_)
 exact ⟨G8 (Cy rfl (by first | (rw [show decide ((x0.toNat:Int)=62)=false from Al aS];rfl) | (rw [show decide ((x0.toNat:Int)=62)=true from Aj aS,Cx];unfold Hc;rw [show decide (s+1<l.length)=true from Aj oO,Cx,getElem!_pos l (s+1) oO];rfl))),fg⟩
 have ca:=AD.drew f6 a5
 have cb:=AD.drew f7 a5
 have cc:=Ni (w1:=fQ) f8 (λk hk hl=>(by obtain ⟨m,rfl⟩:=a5;rfl))
 have aP:=bl.drew a5
 have cd:=f9.drew a5
 have cf:=fb.drew a5
 have cg:=bm.drew a5
 have bn:=BN c8 (NE a5)
 refine Ac rfl (λfR=>?_) (λfR=>?_)
 have bo:(x0.toNat:Int)=62/\Hc l (s+1) 62=true:=by simp_all
 have gD:=(Q3 bo.2).1
 refine A4<|A2 rfl<|A0 (.nck rfl)<|A0 (.fa CL rfl B5 dD rfl)<|Ag (Ad (Bw _) rfl aP rfl)<|A0 (.iis (((s+2:Nat):Int)) (.add rfl rfl (Bp oO)) oO)<|A0 (.nck rfl)<|A0 (.fa CL rfl B5 dD rfl)<|WL.st B5 rfl rfl rfl aP oQ (λeM aQ H g4=>?_)
 have aQ:AF eM r _ _:=aQ
 have H:BF r _ _:=H
 have fh:=CO ca H oM
 have fi:=CO cb H oM
 have fj:=Ni (w1:=eM) cc (λk hk hl=>H.other k (by first | ((try simp only) <;> omega) | (have:=hk.1;((try simp only) <;> omega))))
 have fk:=cd.up H
 have fl:=cf.up H
 have fm:=Av.upd cg H hne
 have fn:=BN bn (BM H)
 refine WL.e<|A4<|Ag (BA rfl fl CB rfl B2)<|Az rfl rfl fk B2 rfl rfl (λfS cM ac g5=>?_)
 have ci:=CO fh ac oM
 have bw:=CO fi ac oM
 have cN:=Ni (w1:=fS) fj (λk hk hl=>ac.other k (by first | ((try simp only) <;> omega) | (have:=hk.1;((try simp only) <;> omega))))
 have cO:=aQ.up ac
 have cP:=DB fm ac c3
 have cQ:=BN fn (Es ac oO)
 refine WL.e<|Ai (C4 rfl rfl (Bq cM CB rfl B2)  ?_)
 exact GD (.mk 7 0 [] ks acc,s+2) _ (by rw [<- hw,J];(try simp only []);rw [A1 a4,A6 ⟨Cr (d:=62) bo.1,A26 bo.2⟩];rfl) rfl ⟨⟨7,0,[],pk,ks.length,ck,pl,cs.length,cl⟩,rfl,RR ⟨(ci).base (λg hg=>Gg _),λg hg=>by have:=(ci).lt g hg;omega⟩ ⟨(bw).base (λg hg=>Gg _),λg hg=>by have:=(bw).lt g hg;omega⟩ ((cN).mono (λk hk _=>by have:=hk.1;omega)),⟨cO,cP⟩,cQ⟩
 have ae:¬ (x0=62/\l[s+1]?=some 62):=λh=>by (have h2:(x0.toNat:Int)=62:=by rw [h.1];rfl);(have h3:=VB (l:=l) (t:=s+1) (by simp_all));exact h3 h.2
 refine A4<|A2 rfl<|A0 (.neq rfl rfl)<|A9 rfl<|Ac rfl (λbp=>?_) (λbp=>?_)
 have cR:=JY bp
 refine Ak<|FQ AN rfl ((CV 23 _)) (λga cS=>?_)
 obtain rfl:=cS
 exact Aw (Dq 23 (by rw [<- hw,J];(try simp only []);rw [A1 a4,A1 ae,A6 (Dn (d:=47) aS)];rfl) bn)
 have cR:=JZ bp
 have ah:x0=47:=Cr (d:=47) aS
 refine W.k<|A4<|A2 rfl<|A0 (.nck rfl)<|A0 (.fa CL rfl B5 dD rfl)<|Ag (Ad (Bw _) rfl aP rfl)<|A0 (.iis (((s+1:Nat):Int)) (.add rfl rfl (Bp oO)) oO)<|A0 (.nck rfl)<|A0 (.fa CL rfl B5 dD rfl)<|WL.st B5 rfl rfl rfl aP oQ (λcj aA j fT=>?_)
 have aA:AF cj r _ _:=aA
 have j:BF r _ _:=j
 have cT:=CO ca j oM
 have cU:=CO cb j oM
 have cV:=Ni (w1:=cj) cc (λk hk hl=>j.other k (by first | ((try simp only) <;> omega) | (have:=hk.1;((try simp only) <;> omega))))
 have bx:=cd.up j
 have bz:=cf.up j
 have cW:=Av.upd cg j hne
 have ar:=BN bn (BM j)
 refine WL.e<|A4<|A2 rfl<|Bk AN rfl rfl ((SZ r p l c (s+1) refs _ ⟨aA,cW⟩ hne hc hl oO)) (λfo cm aB A=>?_) (λfp cm aB A=>?_)
 have bT:=BN ar (G2 A ar.size)
 exact Aw (Dq fo (by rw [<- hw,J];(try simp only []);rw [A1 a4,A1 ae,A1 (by rw [ah];simp),aB];rfl) bT)
 have bA:=E6 cT A.2 oO
 have cX:=E6 cU A.2 oO
 have cY:=Ni (w1:=cm) cV (λk hk hl=>A.2.block k hl (by first | omega | (have:=hk.1;omega)))
 have bB:=A.1.1
 have bC:=I4 bx A.2 bx.lt oO
 have ai:=I4 bz A.2 bz.lt oO
 have bD:=A.1.2
 have au:=BN ar (G2 A.2 ar.size)
 have aj:=aB
 obtain ⟨kX,t1⟩:=fp
 have eN:=R8 oO aj
 simp only [] at *
 refine A9 rfl<|Ah<|A4<|A0 (.fa CB rfl sizeOf23 dD rfl)<|Ag (Ad (isAgg23 _) rfl ai rfl)<|A2 rfl<|WL.c1 AN rfl rfl ((A2m pk ks ck kX _ ((bA).rowp.strs) oO)) (λgb cZ=>?_)
 obtain rfl:=cZ
 refine WL.e<|Ac rfl (λfq=>?_) (λfq=>?_)
 refine Ak<|FQ AN rfl ((CV 23 _)) (λgc c'=>?_)
 obtain rfl:=c'
 exact Aw (Dq 23 (by rw [<- hw,J];(try simp only []);rw [A1 a4,A1 ae,A1 (by rw [ah];simp),aj];(try simp only []);rw [A6 (dT aS)];rfl) au)
 refine W.k<|Ah<|A4<|A0 (.fa CB rfl EO dD rfl)<|Ag (Ad (GN _) rfl ai rfl)<|A0 (.lenS EY rfl)<|A0 (.geq rfl rfl)<|WL.e<|Ac rfl (λbq=>?_) (λbq=>?_)
 have d0:=dT bq
 refine Ak<|FQ AN rfl ((CV 25 _)) (λge d1=>?_)
 obtain rfl:=d1
 exact Aw (Dq 25 (by rw [<- hw,J];(try simp only []);rw [A1 a4,A1 ae,A1 (by rw [ah];simp),aj];(try simp only []);rw [A1 (dF aS),A6 oO];rfl) au)
 have d0:=dF bq
 refine W.k<|A4<|A0 (.fa CB rfl sizeOf23 dD rfl)<|Ag (Ad (isAgg23 _) rfl ai rfl)<|A2 rfl<|Ct (ps:=_) Qj Lv z9_ rfl rfl rfl rfl rfl pR rfl (λgf d2 X cn C fU=>?_)
 have d3:=GU bA X C
 have aR:=GU cX X C
 have d4:=Ni (w1:=d2) cY (λk hk hl=>C.other k oO)
 have d5:=Bg X bB.lt
 have d6:=bB.un C d5
 have d7:=Bg X bC.lt
 have d8:=bC.un C d7
 have d9:=Bg X ai.lt
 have bE:=ai.un C d9
 have co:=λh0=>X▸bD.lt h0
 have da:=DB bD C co
 have bU:=Cq X au.size
 have db:=BN au (Es C bU)
 have fV:=Be.lit (V:=A1l) (l:=[kX]) cn (rfl)
 have fW:=(aR).lt
 refine CW Qj A8C rfl rfl rfl d3 rfl fV oE ((bE).lt) rfl (λh=>nomatch h) (λaT gg b2 a6 b3 b4=>?_)
 have dc:=d6.below a6 oO
 have dd:=d8.below a6 oO
 have de:=bE.below a6 oO
 have df:=Iu (T:=λk=>P<k/\(aT).ownBlock≠some k/\(Value.slice pl cs.length cl).ownBlock≠some k) d4 (λk hk hl=>b3.block k hl (λe=>hk.2.1 e.symm)) (λk hk hl=>⟨hk.1,λe=>by rcases b4 k e with h | h;exact hk.2.1 h;omega,hk.2.2⟩)
 have dg:=AD.same aR (λg hg=>b3.block g ((aR).lt g hg).2 (λhx=>bi g hx.symm hg))
 have dh:=GY da a6 bv
 have di:=BN db (Jo (a6.mono oO))
 have ad:∀ g,(aT).ownBlock=some g->(Value.slice pl cs.length cl).ownBlock≠some g:=λg hg=>by rcases b4 g hg with h | h;exact bi g h;exact λh2=>by have:=fW g h2;omega
 obtain ⟨af,rfl⟩:∃ af,af=aT:=⟨aT,rfl⟩
 refine A0 (.fa CB rfl sizeOf23 dD rfl)<|WL.st sizeOf23 rfl rfl (b2).one de oQ (λcq ak q fX=>?_)
 have ak:AF cq P _ _:=ak
 have q:BF P _ _:=q
 have dj:=CO b2 q oM
 have dk:=CO dg q oM
 have dl:=Ni (w1:=cq) df (λk hk hl=>q.other k (by first | ((try simp only) <;> omega) | (have:=hk.1;((try simp only) <;> omega))))
 have dm:=dc.up q
 have bG:=dd.up q
 have dn:=DB dh q ab
 have av:=BN di (Es q oO)
 refine WL.e<|A4<|A2 rfl<|Bk AN rfl rfl ((ON r p l c t1 refs _ ⟨dm,dn⟩ hne hl eN.2)) (λfr cr am B=>?_) (λgh cr am B=>?_)
 have bV:=BN av (G2 B av.size)
 exact Aw (Dq fr (by rw [<- hw,J];(try simp only []);rw [A1 a4,A1 ae,A1 (by rw [ah];simp),aj];(try simp only []);rw [A1 (dF aS),A1 oO,(Jq am).1,(Jq am).2];rfl) bV)
 have dp:=E6 dj B.2 oO
 have dq:=E6 dk B.2 oO
 have dr:=Ni (w1:=cr) dl (λk hk hl=>B.2.block k hl (by first | omega | (have:=hk.1;omega)))
 have ds:=B.1.1
 have dt:=I4 bG B.2 bG.lt oO
 have du:=I4 ak B.2 ak.lt oO
 have dv:=B.1.2
 have dw:=BN av (G2 B.2 av.size)
 have ao:=Qr am
 obtain ⟨aU,-⟩:=BR.1 ao
 have g6:=GJ l t1 eN.2
 refine WL.e<|Ma 9 rfl C7 (λfs K=>?_)
 have aw:=AD.drew dp K
 have ax:=AD.drew dq K
 have bH:=Ni (w1:=fs) dr (λk hk hl=>(by obtain ⟨m,rfl⟩:=K;rfl))
 have bI:=ds.drew K
 have ay:=dt.drew K
 have Y:=du.drew K
 have bJ:=dv.drew K
 have N:=BN dw (NE K)
 refine Bh 0 rfl (.fa CB rfl EO dD rfl) rfl<|Bh 2 rfl (.mv rfl) rfl<|Bh 3 rfl (.mv rfl) rfl<|E9 1 rfl 4 rfl ?_ ?_
 refine Ag (Ad (GN _) rfl Y rfl)<|WL.e<|Ay 4 rfl<|WL.cx AN rfl rfl ((hO r _ _ ⟨bI,bJ⟩ hne aU)) (λft ct aC aV=>?_) (λfu gi ct aC aV=>?_)
 have bW:=BN N (G2 aV N.size)
 exact Aw (Dq ft (by rw [<- hw,J];(try simp only []);rw [A1 a4,A1 ae,A1 (by rw [ah];simp),aj];(try simp only []);rw [A1 (dF aS),A1 oO,ao];(try simp only []);rw [aC];rfl) bW)
 have aM:=aC
 obtain ⟨oX,tX⟩:=fu
 obtain ⟨x1,rfl,cu,aD,U⟩:=aV
 have bK:=hadv _ oX tX aU aM
 have bM:=E6 ax U oO
 have bN:=E6 aw U oO
 have aW:=Ni (w1:=ct) bH (λk hk hl=>U.block k hl (by have:=hk.1;omega))
 have ag:=I4 ay U (ay).lt oO
 have a7:=I4 Y U (Y).lt oO
 have aE:=BN N (G2 U N.size)
 have bt:=cu.mono (T:=λk=>P<k/\af.ownBlock≠some k/\(Value.slice pl cs.length cl).ownBlock≠some k) (λk hk _=>⟨by have:=(Y).lt;omega,λe=>by have:=((aw).lt k e).2;omega,λe=>by have:=((ax).lt k e).2;omega⟩)
 have az:=aW.push bt
 have aF:=aD.1
 have aG:=aD.2
 refine WL.e<|Ay 5 rfl<|Cu (L:=Nb) (ps:=_) ([x1]) EY Il Jg rfl rfl rfl rfl rfl rD rfl rfl (λfv bO a0 cv E fY=>?_)
 have aX:=GU bN a0 E
 have dx:=GU bM a0 E
 have dy:=Ni (w1:=bO) az (λk hk hl=>E.other k oO)
 have dz:=Bg a0 aF.lt
 have dA:=aF.un E dz
 have dB:=Bg a0 ag.lt
 have dC:=ag.un E dB
 have dE:=Bg a0 a7.lt
 have bP:=a7.un E dE
 have cw:=λh0=>a0▸aG.lt h0
 have dG:=DB aG E cw
 have bX:=Cq a0 aE.size
 have dH:=BN aE (Es E bX)
 have fA:fv<=bO.heap.size:=by omega
 refine WL.e<|Ay 6 rfl ?_
 have b5:=(aX).lt
 refine CW EY Pu rfl rfl rfl dx rfl (cv).rowp oE ((bP).lt) rfl (λh=>nomatch h) (λcy gj b6 a8 b8 b9=>?_)
 have dI:=dA.below a8 oO
 have dJ:=dC.below a8 oO
 have dK:=bP.below a8 oO
 have dL:=Iu (T:=λk=>P<k/\af.ownBlock≠some k/\(cy).ownBlock≠some k) dy (λk hk hl=>b8.block k hl (λe=>hk.2.2 e.symm)) (λk hk hl=>⟨hk.1,hk.2.1,λe=>by rcases b9 k e with h | h;exact hk.2.2 h;omega⟩)
 have dM:=AD.same aX (λg hg=>b8.block g ((aX).lt g hg).2 (λhx=>ad g hg hx.symm))
 have dN:=GY dG a8 bv
 have dO:=BN dH (Jo (a8.mono oO))
 have an:∀ g,af.ownBlock=some g->(cy).ownBlock≠some g:=λg hg h2=>by rcases b9 g h2 with h | h;exact ad g hg h;have:=b5 g hg;omega
 refine WL.e<|Bh 7 rfl (.fa CB rfl EO dD rfl) rfl<|Ay 8 rfl<|WL.st EO rfl rfl (b6).one dK oQ (λcz aH u fZ=>?_)
 have aH:AF cz P _ _:=aH
 have u:BF P _ _:=u
 have dP:=CO dM u oM
 have dQ:=CO b6 u oM
 have dR:=Ni (w1:=cz) dL (λk hk hl=>u.other k (by first | ((try simp only) <;> omega) | (have:=hk.1;((try simp only) <;> omega))))
 have dS:=dI.up u
 have dU:=dJ.up u
 have dV:=DB dN u ab
 have dW:=BN dO (Es u oO)
 refine WL.e<|C3 kR ?_
 exact ⟨(_,_,ks++[kX],cs++[x1],acc++[oX],tX,f-1),⟨rfl,rfl,rfl,rfl,tT⟩,⟨⟨dS,dV⟩,dW,dU,aH,dP,dQ,an,dR,by rw [<- hw,J];(try simp only []);rw [A1 a4,A1 ae,A1 (by rw [ah];simp),aj];(try simp only []);rw [A1 (dF aS),A1 oO,ao];(try simp only []);rw [aM],by ((try simp only) <;> omega),bK.2,by simp only [A5,A8,Ae];omega,by simp only [A5,A8,Ae];omega⟩,by ((try simp only) <;> omega)⟩
 refine WL.cx AN rfl rfl ((hO r _ _ ⟨bI,bJ⟩ hne aU)) (λfw cA aI aY=>?_) (λfx gk cA aI aY=>?_)
 have bY:=BN N (G2 aY N.size)
 exact Aw (Dq fw (by rw [<- hw,J];(try simp only []);rw [A1 a4,A1 ae,A1 (by rw [ah];simp),aj];(try simp only []);rw [A1 (dF aS),A1 oO,ao];(try simp only []);rw [aI];rfl) bY)
 have aM:=aI
 obtain ⟨oX,tX⟩:=fx
 obtain ⟨x1,rfl,cu,aD,U⟩:=aY
 have bK:=hadv _ oX tX aU aM
 have bM:=E6 ax U oO
 have bN:=E6 aw U oO
 have aW:=Ni (w1:=cA) bH (λk hk hl=>U.block k hl (by have:=hk.1;omega))
 have ag:=I4 ay U (ay).lt oO
 have a7:=I4 Y U (Y).lt oO
 have aE:=BN N (G2 U N.size)
 have bt:=cu.mono (T:=λk=>P<k/\af.ownBlock≠some k/\(Value.slice pl cs.length cl).ownBlock≠some k) (λk hk _=>⟨by have:=(Y).lt;omega,λe=>by have:=((aw).lt k e).2;omega,λe=>by have:=((ax).lt k e).2;omega⟩)
 have az:=aW.push bt
 have aF:=aD.1
 have aG:=aD.2
 refine WL.e<|E9 1 rfl 5 rfl ?_ ?_
 refine Ag (Ad (GN _) rfl a7 rfl)<|WL.e<|Ay 5 rfl<|Cu (L:=Nb) (ps:=_) ([x1]) EY Il Jg rfl rfl rfl rfl rfl rD rfl rfl (λfy bQ a1 cB F f'=>?_)
 have aZ:=GU bN a1 F
 have dX:=GU bM a1 F
 have dY:=Ni (w1:=bQ) az (λk hk hl=>F.other k oO)
 have dZ:=Bg a1 aF.lt
 have d':=aF.un F dZ
 have e0:=Bg a1 ag.lt
 have e1:=ag.un F e0
 have e2:=Bg a1 a7.lt
 have bR:=a7.un F e2
 have cC:=λh0=>a1▸aG.lt h0
 have e3:=DB aG F cC
 have bZ:=Cq a1 aE.size
 have e4:=BN aE (Es F bZ)
 have fB:fy<=bQ.heap.size:=by omega
 refine WL.e<|Ay 6 rfl ?_
 have b5:=(aZ).lt
 refine CW EY Pu rfl rfl rfl dX rfl (cB).rowp oE ((bR).lt) rfl (λh=>nomatch h) (λcD gl ba a9 bb bc=>?_)
 have e5:=d'.below a9 oO
 have e6:=e1.below a9 oO
 have e7:=bR.below a9 oO
 have e8:=Iu (T:=λk=>P<k/\af.ownBlock≠some k/\(cD).ownBlock≠some k) dY (λk hk hl=>bb.block k hl (λe=>hk.2.2 e.symm)) (λk hk hl=>⟨hk.1,hk.2.1,λe=>by rcases bc k e with h | h;exact hk.2.2 h;omega⟩)
 have e9:=AD.same aZ (λg hg=>bb.block g ((aZ).lt g hg).2 (λhx=>ad g hg hx.symm))
 have ea:=GY e3 a9 bv
 have eb:=BN e4 (Jo (a9.mono oO))
 have an:∀ g,af.ownBlock=some g->(cD).ownBlock≠some g:=λg hg h2=>by rcases bc g h2 with h | h;exact ad g hg h;have:=b5 g hg;omega
 refine WL.e<|Bh 7 rfl (.fa CB rfl EO dD rfl) rfl<|Ay 8 rfl<|WL.st EO rfl rfl (ba).one e7 oQ (λcE aJ x g0=>?_)
 have aJ:AF cE P _ _:=aJ
 have x:BF P _ _:=x
 have ec:=CO e9 x oM
 have ed:=CO ba x oM
 have ee:=Ni (w1:=cE) e8 (λk hk hl=>x.other k (by first | ((try simp only) <;> omega) | (have:=hk.1;((try simp only) <;> omega))))
 have ef:=e5.up x
 have eg:=e6.up x
 have eh:=DB ea x ab
 have ei:=BN eb (Es x oO)
 refine WL.e<|C3 kR ?_
 exact ⟨(_,_,ks++[kX],cs++[x1],acc++[oX],tX,f-1),⟨rfl,rfl,rfl,rfl,tT⟩,⟨⟨ef,eh⟩,ei,eg,aJ,ec,ed,an,ee,by rw [<- hw,J];(try simp only []);rw [A1 a4,A1 ae,A1 (by rw [ah];simp),aj];(try simp only []);rw [A1 (dF aS),A1 oO,ao];(try simp only []);rw [aM],by ((try simp only) <;> omega),bK.2,by simp only [A5,A8,Ae];omega,by simp only [A5,A8,Ae];omega⟩,by ((try simp only) <;> omega)⟩
 refine Cu (L:=Nb) (ps:=_) ([x1]) EY Il Jg rfl rfl rfl rfl rfl rD rfl rfl (λfz bS a2 cF G g1=>?_)
 have a':=GU bN a2 G
 have ej:=GU bM a2 G
 have ek:=Ni (w1:=bS) az (λk hk hl=>G.other k oO)
 have el:=Bg a2 aF.lt
 have em:=aF.un G el
 have en:=Bg a2 ag.lt
 have eo:=ag.un G en
 have ep:=Bg a2 a7.lt
 have b0:=a7.un G ep
 have cG:=λh0=>a2▸aG.lt h0
 have eq:=DB aG G cG
 have b':=Cq a2 aE.size
 have er:=BN aE (Es G b')
 have fC:fz<=bS.heap.size:=by omega
 refine WL.e<|Ay 1 rfl<|Ag (Ad (GN _) rfl b0 rfl)<|WL.e<|Ay 6 rfl ?_
 have b5:=(a').lt
 refine CW EY Pu rfl rfl rfl ej rfl (cF).rowp oE ((b0).lt) rfl (λh=>nomatch h) (λcH gm bd aa be bf=>?_)
 have es:=em.below aa oO
 have et:=eo.below aa oO
 have eu:=b0.below aa oO
 have ev:=Iu (T:=λk=>P<k/\af.ownBlock≠some k/\(cH).ownBlock≠some k) ek (λk hk hl=>be.block k hl (λe=>hk.2.2 e.symm)) (λk hk hl=>⟨hk.1,hk.2.1,λe=>by rcases bf k e with h | h;exact hk.2.2 h;omega⟩)
 have ew:=AD.same a' (λg hg=>be.block g ((a').lt g hg).2 (λhx=>ad g hg hx.symm))
 have ex:=GY eq aa bv
 have ey:=BN er (Jo (aa.mono oO))
 have an:∀ g,af.ownBlock=some g->(cH).ownBlock≠some g:=λg hg h2=>by rcases bf g h2 with h | h;exact ad g hg h;have:=b5 g hg;omega
 refine WL.e<|Bh 7 rfl (.fa CB rfl EO dD rfl) rfl<|Ay 8 rfl<|WL.st EO rfl rfl (bd).one eu oQ (λcI aK y g2=>?_)
 have aK:AF cI P _ _:=aK
 have y:BF P _ _:=y
 have ez:=CO ew y oM
 have eA:=CO bd y oM
 have eB:=Ni (w1:=cI) ev (λk hk hl=>y.other k (by first | ((try simp only) <;> omega) | (have:=hk.1;((try simp only) <;> omega))))
 have eC:=es.up y
 have eD:=et.up y
 have eF:=DB ex y ab
 have eG:=BN ey (Es y oO)
 refine WL.e<|C3 kR ?_
 exact ⟨(_,_,ks++[kX],cs++[x1],acc++[oX],tX,f-1),⟨rfl,rfl,rfl,rfl,tT⟩,⟨⟨eC,eF⟩,eG,eD,aK,ez,eA,an,eB,by rw [<- hw,J];(try simp only []);rw [A1 a4,A1 ae,A1 (by rw [ah];simp),aj];(try simp only []);rw [A1 (dF aS),A1 oO,ao];(try simp only []);rw [aM],by ((try simp only) <;> omega),bK.2,by simp only [A5,A8,Ae];omega,by simp only [A5,A8,Ae];omega⟩,by ((try simp only) <;> omega)⟩
end
section
theorem Te {obj:Nat->MN} {l:l8_} (hobj:∀ t o t',t<l.length->obj t=.ok (o,t')->t<t'/\t'<=l.length):∀ (f:Nat) (acc:List PV) (t:Nat) (os:List PV) (t':Nat),t<=l.length->HU obj l f acc t=.ok (os,t')->t<t'/\t'<=l.length
 | 0,_,_,_,_,_,h=>by cases h
 | f+1,acc,t,os,t',ht,h=>by
  have hs:=GJ l t ht
  simp only [HU] at h
  cases hg:l[AP false l t]? with
  | none=>rw [hg] at h;cases h
  | some c =>
   obtain ⟨hlt,-⟩:=BR.1 hg
   rw [hg] at h
   simp only at h
   split at h
   · cases h;omega
   ·
    split at h
    · cases h
    ·
     cases ho:obj (AP false l t) with
     | error k=>rw [ho] at h;cases h
     | ok a =>
      obtain ⟨o,t1⟩:=a
      rw [ho] at h
      have h1:=hobj _ _ _ hlt ho
      have h2:=Te hobj f _ _ _ _ h1.2 h
      omega
theorem QP {obj:Nat->MN} {l:l8_} (hobj:∀ t o t',t<l.length->obj t=.ok (o,t')->t<t'/\t'<=l.length):∀ (f:Nat) (ks:List (l8_)) (acc:List PV) (t:Nat) (ks':List (l8_)) (os:List PV) (t':Nat),t<=l.length->GT obj l f ks acc t=.ok (ks',os,t')->t<t'/\t'<=l.length
 | 0,_,_,_,_,_,_,_,h=>by cases h
 | f+1,ks,acc,t,ks',os,t',ht,h=>by
  have hs:=GJ l t ht
  simp only [GT] at h
  cases hg:l[AP false l t]? with
  | none=>rw [hg] at h;cases h
  | some c =>
   obtain ⟨hlt,-⟩:=BR.1 hg
   rw [hg] at h
   simp only at h
   split at h
   · cases h
   ·
    split at h
    ·
     next hq =>
     obtain ⟨h2,-⟩:=BR.1 hq.2
     cases h;omega
    ·
     split at h
     · cases h
     ·
      cases hn:Jc l (AP false l t+1) with
      | error k=>rw [hn] at h;cases h
      | ok a =>
       obtain ⟨k,t1⟩:=a
       rw [hn] at h
       have hle:=R8 oO hn
       simp only at h
       split at h
       · cases h
       ·
        split at h
        · cases h
        ·
         have hs1:=GJ l t1 hle.2
         cases hg1:l[AP false l t1]? with
         | none=>rw [hg1] at h;cases h
         | some c1 =>
          obtain ⟨hlt1,-⟩:=BR.1 hg1
          rw [hg1] at h
          simp only at h
          cases ho:obj (AP false l t1) with
          | error k=>rw [ho] at h;cases h
          | ok a =>
           obtain ⟨o,t2⟩:=a
           rw [ho] at h
           have h1:=hobj _ _ _ hlt1 ho
           have h2:=QP hobj f _ _ _ _ _ _ h1.2 h
           omega
theorem Zv {l:l8_} {t':Nat} (ht:t<=l.length) (h:Km l t=.ok (s,t')):t<t'/\t'<=l.length:=by
 have a:=R2 l t ht
 unfold Km at h
 split at h
 · cases h
 ·
  split at h
  · cases h
  ·
   split at h
   · cases h
   · cases h;omega
theorem UA {l:l8_} (ht:t<=l.length) (h:E0 l t≠[]):t<BP l t/\BP l t<=l.length:=by
 have b:=EX l t ht
 refine ⟨?_,b.2⟩
 rcases BU t (BP l t) with a | a
 · exact a
 · exact CM (by unfold E0;rw [show BP l t-t=0 by omega,A5M]) h
theorem A23:(Lz []).2.2=false:=by kernel_rfl
theorem A1D (refs:Bool) (l:l8_) (t:Nat):(LR refs l [] t).isSome=false:=by
 unfold LR
 have:(HI [] 4096).2=false:=by rfl
 rw [this];simp
theorem QB  {l:l8_} (ht:t<=l.length):t<=Xf (LR refs l s t) t/\Xf (LR refs l s t) t<=l.length:=by
 have d:=GJ l t ht
 have a:=Ff false l t
 have b:=EX l _ a
 have e:=GJ l _ b.2
 have c:=Ff false l (BP l (AP false l t))
 have f:=EX l _ c
 unfold LR
 split
 ·
  split
  ·
   split
   ·
    show t<=BP l _/\BP l _<=l.length
    omega
   · exact ⟨FL _,ht⟩
  · exact ⟨FL _,ht⟩
 · exact ⟨FL _,ht⟩
theorem ZU  {l:l8_} (ht:t<l.length) (h:(F4 refs l t).ok=true):t<(F4 refs l t).np/\(F4 refs l t).np<=l.length:=by
  by_cases hw:E0 l t=[]
  · exfalso
    unfold F4 at h
    rw [hw,A1D,A23] at h
    simp at h
  · have a := UA oO hw
    have b:=QB (refs:=refs) (s:=E0 l t) a.2
    unfold F4
    split
    · exact a
    · split
      · exact a
      · split
        · exact a
        · split
          · exact ⟨by show t<Xf _ _;omega,b.2⟩
          · split
            · exact a
            · exact a
theorem QW (refs:Bool) (l:l8_):∀ (d t:Nat) (o:PV) (t':Nat),t<l.length->FD refs l d t=.ok (o,t')->t<t'/\t'<=l.length:=by
 have e:∀ t (o:PV) t',t<l.length->Lp l (t+1)=.ok (o,t')->t<t'/\t'<=l.length:=λt o t' ht h=>by
  unfold Lp at h
  cases hn:Jc l (t+1) with
  | error k=>rw [hn] at h;cases h
  | ok a =>
   obtain ⟨k,g⟩:=a
   rw [hn] at h
   have f:=R8 oO hn
   cases h;omega
 have b:∀ t (o:PV) t',t<l.length->IG l t=.ok (o,t')->t<t'/\t'<=l.length:=λt o t' ht h=>by
  unfold IG at h
  cases hn:Km l t with
  | error k=>rw [hn] at h;cases h
  | ok a =>
   obtain ⟨k,g⟩:=a
   rw [hn] at h
   have f:=Zv oO hn
   cases h;exact f
 have c:∀ t (o:PV) t',t<l.length->J2 (F4 refs l t)=.ok (o,t')->t<t'/\t'<=l.length:=λt o t' ht h=>by
  unfold J2 at h
  split at h
  · next hok=>have:=ZU ht hok;cases h;exact this
  · cases h
 intro d
 induction d with
 | zero =>
  intro t o t' ht h
  simp only [FD] at h
  rw [A7 ht] at h
  simp only at h
  split at h
  · exact e t o t' ht h
  ·
   split at h
   · cases h
   ·
    split at h
    · exact b t o t' ht h
    ·
     split at h
     ·
      split at h
      · cases h
      ·
       split at h
       · exact b t o t' ht h
       · cases h
     · exact c t o t' ht h
 | succ d ih =>
  intro t o t' ht h
  simp only [FD] at h
  rw [A7 ht] at h
  simp only at h
  split at h
  · exact e t o t' ht h
  ·
   split at h
   ·
    unfold Rf at h
    cases hn:HU (FD refs l d) l (l.length+1) [] (t+1) with
    | error k=>rw [hn] at h;cases h
    | ok a =>
     obtain ⟨os,g⟩:=a
     rw [hn] at h
     have:=Te ih _ _ _ _ _ oO hn
     cases h;omega
   ·
    split at h
    · exact b t o t' ht h
    ·
     split at h
     ·
      split at h
      · cases h
      ·
       split at h
       · exact b t o t' ht h
       ·
        unfold Nc at h
        cases hn:GT (FD refs l d) l (l.length+1) [] [] (t+2) with
        | error k=>rw [hn] at h;cases h
        | ok a =>
         obtain ⟨ks,os,g⟩:=a
         rw [hn] at h
         have:=QP ih _ _ _ _ _ _ _ oO hn
         cases h;omega
     · exact c t o t' ht h
theorem NX (refs:Bool) (l:l8_) (d:Int) (t:Nat) (x:UInt8) (h:l[t]?=some x):FD refs l d.toNat t =
    if x=47 then Lp l (t+1)
    else if x=91 then (if d<1 then .error 25 else Rf (HU (FD refs l (d-1).toNat) l (l.length+1) [] (t+1)))
    else if x=40 then IG l t
    else if x=60 then (if l.length<=t+1 then .error 24 else if l[t+1]?≠some 60 then IG l t else if d<1 then .error 25 else Nc (GT (FD refs l (d-1).toNat) l (l.length+1) [] [] (t+2)))
    else J2 (F4 refs l t):=by
  by_cases hd:d<1
  · rw [show d.toNat = 0 by omega, A6 hd]
    simp only [FD,h]
    rw [A6 hd]
  · rw [show d.toNat = (d - 1).toNat + 1 by omega, A1 hd]
    simp only [FD,h]
    rw [A1 hd]
theorem Pn (p:Option Addr) (l:l8_) (c:Nat) (refs:Bool) (hc:l.length<=c) (hl:l.length<=100000000) (D:Int) (hD:-9223372036854775808<D/\D<=1000000000) (hO:1<=D->A3t p l c refs (D-1)):A3t p l c refs D:=by
 intro r t w h g ht
 have hr:=h.1
 have hb:=h.2
 obtain ⟨X,hX⟩:∃ X,X=FD refs l D.toNat t:=⟨_,rfl⟩
 rw [<- hX]
 have hg:l[t]?=some l[t]:=A7 ht
 rw [NX refs l D t l[t] hg] at hX
 obtain ⟨Wd,bq⟩:∃ Wd,Wd=F4 refs l t:=⟨_,rfl⟩
 have cj:∀ w1,PX w1 r p l c t refs->Calls Tryz.prog 47 #[.pointer (some ⟨r,0,none⟩)] w1 λe w'=>e=.returned Wd.val/\PX w' r p l c Wd.np refs/\Bf w1.heap.size r w1 w':=λw1 h1=>by rw [bq];exact SX r p l c t refs w1 h1 g hc hl oO
 rw [<- bq] at hX
 refine W.e func46 rfl ntmps46 bL ?_
 have bt:=Bf.refl (w.heap.size) r w
 refine A4<|BV Jg rfl (λb1 c' ax bu ae cV=>?_)
 have ck:=Bg ax hr.lt
 have ay:=hr.un ae ck
 have f:=λh0=>ax▸hb.lt h0
 have az:=DB hb ae f
 have b6:=Cq ax bt.size
 have cl:=BN bt (Es ae b6)
 refine WL.e<|Ah<|Ah ?_
 have d0:r<b1:=by have:=hr.lt;omega
 refine E2 C7 kR<|At (.mv rfl) rfl<|At (.nck rfl) rfl<|At (.fa CL rfl G3 dD rfl) rfl<|Di (λm=>Ad (g22_ _) rfl ay rfl) rfl<|At (.mv rfl) rfl<|At (.nck rfl) rfl<|At (.fa CL rfl B5 dD rfl) rfl<|Di (λm=>Ad (Bw _) rfl ay rfl) rfl<|At (.ixb Bu I7 rfl rfl (az.isp oD) (t) (rfl) (ht)) rfl<|Di (λm=>Rd.iis ((l[t].toNat:Int)) (AO (Ou _) rfl ((az.drewN m).cells (t) (ht))) oO) rfl<|At (.as rfl) rfl<|Da (λw7 ar=>?_)
 have i:=ay.drew ar
 have G:=bu.drew ar
 have H:=az.drew ar
 have a:=BN cl (NE ar)
 refine A4<|A2 rfl<|WL.e<|W.b<|A4<|A0 (.eql rfl rfl)<|A9 rfl<|Ac rfl (λaA=>?_) (λaA=>?_)
 have bv:=dT aA
 have aB:l[t]=47:=Cr aS
 rw [A6 aB] at hX
 refine A4<|A2 rfl<|A0 (.nck rfl)<|A0 (.fa CL rfl B5 dD rfl)<|Ag (Ad (Bw _) rfl i rfl)<|A0 (.iis (((t+1:Nat):Int)) (.add rfl rfl (Bp oO)) oO)<|A0 (.nck rfl)<|A0 (.fa CL rfl B5 dD rfl)<|WL.st B5 rfl rfl rfl i oQ (λcm P j cM=>?_)
 have P:AF cm r _ _:=P
 have j:BF r _ _:=j
 have aC:=G.up j
 have bw:=Av.upd H j g
 have Q:=BN a (BM j)
 refine WL.e<|A4<|A2 rfl<|Bk AN rfl rfl ((SZ r p l c (t+1) refs _ ⟨P,bw⟩ g hc hl oO)) (λcn co U v=>?_) (λcq co U v=>?_)
 have aD:=BN Q (G2 v Q.size)
 exact Aw (Dq cn (by rw [hX];unfold Lp;rw [U]) aD)
 have bx:=v.1.1
 have bz:=I4 aC v.2 aC.lt oO
 have bA:=v.1.2
 have bB:=BN Q (G2 v.2 Q.size)
 have aa:=U
 obtain ⟨sN,tN⟩:=cq
 refine A0 (.buildL (ps:=_) GQ rfl rfl rfl pS) ?_
 refine Az rfl rfl bz B2 rfl rfl (λd1 b7 V cN=>?_)
 have bC:=bx.up V
 have bD:=DB bA V f
 have bE:=BN bB (Es V oO)
 refine WL.e<|Ai (C4 rfl rfl (Bq b7 CB rfl B2)  ?_)
 exact GD (JJ 4 0 sN,tN) _ (by rw [hX];unfold Lp;rw [aa]) rfl ⟨Lx 4 0 sN,rfl,Dj.zero _ _ _ _ _,⟨bC,bD⟩,bE⟩
 have bv:=dF aA
 have aB:l[t]≠47:=Dn (d:=47) aS
 rw [A1 aB] at hX
 refine A4<|A0 (.eql rfl rfl)<|A9 rfl<|Ac rfl (λaE=>?_) (λaE=>?_)
 have bG:=dT aE
 have aF:l[t]=91:=Cr aS
 rw [A6 aF] at hX
 refine Ah<|A4<|A2 rfl<|A0 (.lss rfl rfl)<|WL.e<|Ac rfl (λaG=>?_) (λaG=>?_)
 have bH:=dT aG
 refine Ak<|FQ AN rfl ((CV 25 _)) (λd2 bI=>?_)
 obtain rfl:=bI
 exact Aw (Dq 25 (by rw [hX,A6 oO]) a)
 have bH:=dF aG
 refine W.k<|A4<|A2 rfl<|A0 (.nck rfl)<|A0 (.fa CL rfl B5 dD rfl)<|Ag (Ad (Bw _) rfl i rfl)<|A0 (.iis (((t+1:Nat):Int)) (.add rfl rfl (Bp oO)) oO)<|A0 (.nck rfl)<|A0 (.fa CL rfl B5 dD rfl)<|WL.st B5 rfl rfl rfl i oQ (λcr Y o cO=>?_)
 have Y:AF cr r _ _:=Y
 have o:BF r _ _:=o
 have af:=G.up o
 have bJ:=Av.upd H o g
 have J:=BN a (BM o)
 refine WL.e<|A4<|A2 rfl<|A2 rfl<|A0 (.sub rfl rfl (Bp oO))<|WL.cx AN rfl rfl ((ZS p l c refs (D-1) (hO oO) (QW refs l _) r (t+1) _ ⟨Y,bJ⟩ g hl oO)) (λct cu a0 ag=>?_) (λcv d3 cu a0 ag=>?_)
 have aH:=BN J (G2 ag J.size)
 exact Aw (Dq ct (by rw [hX,A1 oO,a0]) aH)
 have aI:=a0
 obtain ⟨oX,tX⟩:=cv
 obtain ⟨x1,rfl,aJ,K,ab⟩:=ag
 have ah:=aJ.mono (T:=λk=>b1<k/\w.heap.size<=k) (λk hk _=>by have h1:=(af).lt;have h2:=J.size;omega)
 have ai:=I4 af ab (af).lt oO
 have aK:=BN J (G2 ab J.size)
 have aL:=K.1
 have aM:=K.2
 refine Az rfl rfl ai B2 rfl rfl (λcw b8 C cP=>?_)
 have bK:=Dj.same (w1:=cw) ah (λk hk hl=>C.other k (by first | ((try simp only) <;> omega) | (have:=hk.1;((try simp only) <;> omega))))
 have bM:=aL.upd C oM
 have bN:=DB aM C f
 have bO:=BN aK (Es C oO)
 refine WL.e<|Ai (C4 rfl rfl (Bq b8 CB rfl B2)  ?_)
 exact GD (oX,tX) _ (by rw [hX,A1 oO,aI]) rfl ⟨x1,rfl,(bK).mono (λk hk _=>hk.2),⟨bM,bN⟩,bO⟩
 have bG:=dF aE
 have aF:l[t]≠91:=Dn (d:=91) aS
 rw [A1 aF] at hX
 refine A4<|A0 (.eql rfl rfl)<|A9 rfl<|Ac rfl (λaN=>?_) (λaN=>?_)
 have bP:=dT aN
 have aO:l[t]=40:=Cr aS
 rw [A6 aO] at hX
 refine A4<|A2 rfl<|Bk AN rfl rfl ((SY r p l c t refs _ ⟨i,H⟩ g hc hl ht)) (λcy cz a1 x=>?_) (λcA cz a1 x=>?_)
 have aP:=BN a (G2 x a.size)
 exact Aw (Dq cy (by rw [hX];unfold IG;rw [a1]) aP)
 have bQ:=x.1.1
 have bR:=I4 G x.2 G.lt oO
 have bS:=x.1.2
 have bT:=BN a (G2 x.2 a.size)
 have aa:=a1
 obtain ⟨sN,tN⟩:=cA
 refine Az rfl rfl bR B2 rfl rfl (λd4 b9 a2 cQ=>?_)
 have bU:=bQ.up a2
 have bV:=DB bS a2 f
 have bW:=BN bT (Es a2 oO)
 refine WL.e<|Ai (C4 rfl rfl (Bq b9 CB rfl B2)  ?_)
 exact GD (JJ 5 0 sN,tN) _ (by rw [hX];unfold IG;rw [aa]) rfl ⟨Lx 5 0 sN,rfl,Dj.zero _ _ _ _ _,⟨bU,bV⟩,bW⟩
 have bP:=dF aN
 have aO:l[t]≠40:=Dn (d:=40) aS
 rw [A1 aO] at hX
 refine A4<|A0 (.eql rfl rfl)<|A9 rfl<|Ac rfl (λaQ=>?_) (λaQ=>?_)
 have bX:=dT aQ
 have aR:l[t]=60:=Cr aS
 rw [A6 aR] at hX
 refine Ah<|Ah<|E2 C7 kR<|At (.mv rfl) rfl<|At (.nck rfl) rfl<|At (.fa CL rfl B5 dD rfl) rfl<|Di (λm=>Ad (Bw _) rfl i rfl) rfl<|At (.iis ((t:Int)+1) (.add rfl rfl (Bp oO)) oO) rfl<|At (.mv rfl) rfl<|At (.nck rfl) rfl<|At (.fa CL rfl G3 dD rfl) rfl<|Di (λm=>Ad (g22_ _) rfl i rfl) rfl<|At (.lenS Bu rfl) rfl<|At (.geq rfl rfl) rfl<|Da (λd5 a3=>?_)
 have aj:=i.drew a3
 have bY:=G.drew a3
 have ak:=H.drew a3
 have aT:=BN a (NE a3)
 refine Ac rfl (λaU=>?_) (λaU=>?_)
 have bZ:=dT aU
 refine Ak<|FQ AN rfl ((CV 24 _)) (λd6 b'=>?_)
 obtain rfl:=b'
 exact Aw (Dq 24 (by rw [hX,A6 oO]) aT)
 have bZ:=dF aU
 have c0:t+1<l.length:=by omega
 have ac:l[t+1]?=some l[t+1]:=A7 c0
 refine W.k<|Ah<|Ah<|E2 C7 kR<|At (.mv rfl) rfl<|At (.nck rfl) rfl<|At (.fa CL rfl G3 dD rfl) rfl<|Di (λm=>Ad (g22_ _) rfl aj rfl) rfl<|At (.mv rfl) rfl<|At (.nck rfl) rfl<|At (.fa CL rfl B5 dD rfl) rfl<|Di (λm=>Ad (Bw _) rfl aj rfl) rfl<|At (.iis (((t+1:Nat):Int)) (.add rfl rfl (Bp oO)) oO) rfl<|At (.ixb Bu I7 rfl rfl (ak.isp oD) (t+1) oO oO) rfl<|Di (λm=>AO (Ou _) rfl ((ak.drewN m).cells (t+1) oO)) rfl<|At (.neq rfl rfl) rfl<|Da (λd7 a4=>?_)
 have am:=aj.drew a4
 have an:=bY.drew a4
 have aV:=ak.drew a4
 have y:=BN aT (NE a4)
 refine Ac rfl (λaW=>?_) (λaW=>?_)
 have c2:=JY aW
 refine A4<|A2 rfl<|Bk AN rfl rfl ((SY r p l c t refs _ ⟨am,aV⟩ g hc hl ht)) (λcB cC a5 B=>?_) (λcD cC a5 B=>?_)
 have aX:=BN y (G2 B y.size)
 exact Aw (Dq cB (by rw [hX,A1 oO,A6 (by rw [ac];exact λe=>Dn (d:=60) aS (DC e))];unfold IG;rw [a5]) aX)
 have c3:=B.1.1
 have c4:=I4 an B.2 an.lt oO
 have c5:=B.1.2
 have c6:=BN y (G2 B.2 y.size)
 have aa:=a5
 obtain ⟨sN,tN⟩:=cD
 refine Az rfl rfl c4 B2 rfl rfl (λd8 ba a6 cR=>?_)
 have c7:=c3.up a6
 have c8:=DB c5 a6 f
 have c9:=BN c6 (Es a6 oO)
 refine WL.e<|Ai (C4 rfl rfl (Bq ba CB rfl B2)  ?_)
 exact GD (JJ 5 0 sN,tN) _ (by rw [hX,A1 oO,A6 (by rw [ac];exact λe=>Dn (d:=60) aS (DC e))];unfold IG;rw [aa]) rfl ⟨Lx 5 0 sN,rfl,Dj.zero _ _ _ _ _,⟨c7,c8⟩,c9⟩
 have c2:=JZ aW
 refine W.k<|Ah<|A4<|A2 rfl<|A0 (.lss rfl rfl)<|WL.e<|Ac rfl (λaY=>?_) (λaY=>?_)
 have ca:=dT aY
 refine Ak<|FQ AN rfl ((CV 25 _)) (λd9 cb=>?_)
 obtain rfl:=cb
 exact Aw (Dq 25 (by rw [hX,A1 oO,A1 (λe=>e (by rw [ac,show l[t+1]=60 from Cr (d:=60) aS])),A6 oO]) y)
 have ca:=dF aY
 refine W.k<|A4<|A2 rfl<|A0 (.nck rfl)<|A0 (.fa CL rfl B5 dD rfl)<|Ag (Ad (Bw _) rfl am rfl)<|A0 (.iis (((t+2:Nat):Int)) (.add rfl rfl (Bp oO)) oO)<|A0 (.nck rfl)<|A0 (.fa CL rfl B5 dD rfl)<|WL.st B5 rfl rfl rfl am oQ (λcE a7 q cS=>?_)
 have a7:AF cE r _ _:=a7
 have q:BF r _ _:=q
 have ao:=an.up q
 have cc:=Av.upd aV q g
 have L:=BN y (BM q)
 refine WL.e<|A4<|A2 rfl<|A2 rfl<|A0 (.sub rfl rfl (Bp oO))<|WL.cx AN rfl rfl ((Xp p l c refs (D-1) (hO oO) (QW refs l _) r (t+2) _ ⟨a7,cc⟩ g hc hl oO)) (λcF cG a8 ap=>?_) (λcH da cG a8 ap=>?_)
 have aZ:=BN L (G2 ap L.size)
 exact Aw (Dq cF (by rw [hX,A1 oO,A1 (λe=>e (by rw [ac,show l[t+1]=60 from Cr (d:=60) aS])),A1 oO,a8]) aZ)
 have aI:=a8
 obtain ⟨oX,tX⟩:=cH
 obtain ⟨x1,rfl,aJ,K,ab⟩:=ap
 have ah:=aJ.mono (T:=λk=>b1<k/\w.heap.size<=k) (λk hk _=>by have h1:=(ao).lt;have h2:=L.size;omega)
 have ai:=I4 ao ab (ao).lt oO
 have aK:=BN L (G2 ab L.size)
 have aL:=K.1
 have aM:=K.2
 refine Az rfl rfl ai B2 rfl rfl (λcI bb E cT=>?_)
 have cd:=Dj.same (w1:=cI) ah (λk hk hl=>E.other k (by first | ((try simp only) <;> omega) | (have:=hk.1;((try simp only) <;> omega))))
 have cf:=aL.upd E oM
 have cg:=DB aM E f
 have ci:=BN aK (Es E oO)
 refine WL.e<|Ai (C4 rfl rfl (Bq bb CB rfl B2)  ?_)
 exact GD (oX,tX) _ (by rw [hX,A1 oO,A1 (λe=>e (by rw [ac,show l[t+1]=60 from Cr (d:=60) aS])),A1 oO,aI]) rfl ⟨x1,rfl,(cd).mono (λk hk _=>hk.2),⟨cf,cg⟩,ci⟩
 have bX:=dF aQ
 have aR:l[t]≠60:=Dn (d:=60) aS
 rw [A1 aR] at hX
 refine W.k<|A4<|A2 rfl<|WL.c1 AN rfl rfl ((cj _ ⟨i,H⟩)) (λdb a9=>?_)
 have a':=a9.1.1
 have b0:=I4 G a9.2 G.lt oO
 have b2:=a9.1.2
 have au:=BN a (G2 a9.2 a.size)
 refine A2 rfl<|A0 (.ext rfl rfl)<|A0 (.ext rfl rfl)<|A0 (.ext rfl rfl)<|BV Jg rfl (λcW cU F b3 s cJ=>?_)
 have bc:=Bg F a'.lt
 have bd:=a'.un s bc
 have be:=Bg F b0.lt
 have bf:=b0.un s be
 have ad:=λh0=>F▸b2.lt h0
 have bg:=DB b2 s ad
 have aw:=Cq F au.size
 have bh:=BN au (Es s aw)
 refine Az rfl rfl b3 B2 rfl rfl (λcX b4 u cK=>?_)
 have bi:=bd.up u
 have bj:=bf.up u
 have bk:=DB bg u ad
 have av:=BN bh (Es u oO)
 refine Dp rfl<|A9 rfl<|Ah<|A4<|A2 rfl<|A0 (.not rfl)<|WL.e<|Ac rfl (λaq=>?_) (λaq=>?_)
 have bl:=(nT aq)
 refine Ak<|FQ AN rfl ((CV 23 _)) (λcY bm=>?_)
 obtain rfl:=bm
 exact Aw (Dq 23 (by rw [hX];unfold J2;rw [A1 (bF aS)]) av)
 have bl:=(nF aq)
 refine W.k<|A4<|Ag (BA rfl b4 CB rfl B2)<|Az rfl rfl bj B2 rfl rfl (λcZ b5 N cL=>?_)
 have bn:=bi.up N
 have bo:=DB bk N f
 have bp:=BN av (Es N oO)
 refine WL.e<|Ai (C4 rfl rfl (Bq b5 CB rfl B2)  ?_)
 exact GD (JJ Wd.kind Wd.n [],Wd.np) _ (by rw [hX];unfold J2;rw [A6 aS]) rfl ⟨Lx Wd.kind Wd.n [],rfl,Dj.zero _ _ _ _ _,⟨bn,bo⟩,bp⟩
end
section
theorem Wr (p:Option Addr) (l:l8_) (c:Nat) (refs:Bool) (hc:l.length<=c) (hl:l.length<=100000000):∀ (n:Nat) (D:Int),D.toNat<=n->-9223372036854775808<D/\D<=1000000000->A3t p l c refs D
 | 0,D,hn,hD=>Pn p l c refs hc hl D hD λh=>by omega
 | n+1,D,hn,hD=>Pn p l c refs hc hl D hD λh=>Wr p l c refs hc hl n (D-1) oO oO
def Nv (k:Int):Prop:=k=23\/k=24\/k=25
theorem Nv.ne {k:Int} (h:Nv k):k≠0:=by unfold Nv at h;omega
theorem T7 {l:l8_} {k:Int} (h:Jc l t=.error k):Nv k:=by
 unfold Jc at h
 split at h
 · cases h;exact .inl rfl
 ·
  split at h
  · cases h;exact .inl rfl
  ·
   split at h
   · cases h;exact .inr (.inr rfl)
   · cases h
theorem Zu {l:l8_} {k:Int} (h:Km l t=.error k):Nv k:=by
 unfold Km at h
 split at h
 · cases h;exact .inr (.inl rfl)
 ·
  split at h
  · cases h;exact .inr (.inr rfl)
  ·
   split at h
   · cases h;exact .inl rfl
   · cases h
theorem Td {obj:Nat->MN} {l:l8_} (hobj:∀ t k,obj t=.error k->Nv k):∀ (f:Nat) (acc:List PV) (t:Nat) (k:Int),HU obj l f acc t=.error k->Nv k
 | 0,_,_,_,h=>by cases h;exact .inr (.inl rfl)
 | f+1,acc,t,k,h=>by
  simp only [HU] at h
  split at h
  · cases h;exact .inr (.inl rfl)
  ·
   split at h
   · cases h
   ·
    split at h
    · cases h;exact .inr (.inr rfl)
    ·
     split at h
     · next ho=>cases h;exact hobj _ _ ho
     · exact Td hobj f _ _ _ h
theorem QO {obj:Nat->MN} {l:l8_} (hobj:∀ t k,obj t=.error k->Nv k):∀ (f:Nat) (ks:List (l8_)) (acc:List PV) (t:Nat) (k:Int),GT obj l f ks acc t=.error k->Nv k
 | 0,_,_,_,_,h=>by cases h;exact .inr (.inl rfl)
 | f+1,ks,acc,t,k,h=>by
  simp only [GT] at h
  split at h
  · cases h;exact .inr (.inl rfl)
  ·
   split at h
   · cases h;exact .inr (.inl rfl)
   ·
    split at h
    · cases h
    ·
     split at h
     · cases h;exact .inl rfl
     ·
      split at h
      · next hn=>cases h;exact T7 hn
      ·
       split at h
       · cases h;exact .inl rfl
       ·
        split at h
        · cases h;exact .inr (.inr rfl)
        ·
         split at h
         · cases h;exact .inr (.inl rfl)
         ·
          split at h
          · next ho=>cases h;exact hobj _ _ ho
          · exact QO hobj f _ _ _ _ h
theorem Vy (refs:Bool) (l:l8_):∀ (d t:Nat) (k:Int),FD refs l d t=.error k->Nv k:=by
 have b:∀ t (k:Int),Lp l t=.error k->Nv k:=λt k h=>by
  unfold Lp at h
  split at h
  · next hn=>cases h;exact T7 hn
  · cases h
 have c:∀ t (k:Int),IG l t=.error k->Nv k:=λt k h=>by
  unfold IG at h
  split at h
  · next hn=>cases h;exact Zu hn
  · cases h
 have a:∀ t (k:Int),J2 (F4 refs l t)=.error k->Nv k:=λt k h=>by
  unfold J2 at h
  split at h
  · cases h
  · cases h;exact .inl rfl
 intro d
 induction d with
 | zero =>
  intro t k h
  simp only [FD] at h
  repeat' split at h
  all_goals first | exact b _ _ h | exact c _ _ h | exact a _ _ h | (cases h;first | exact .inl rfl | exact .inr (.inl rfl) | exact .inr (.inr rfl))
 | succ d ih =>
  have f:∀ t (k:Int),Rf (HU (FD refs l d) l (l.length+1) [] t)=.error k->Nv k:=λt k h=>by
   unfold Rf at h
   split at h
   · next hn=>cases h;exact Td ih _ _ _ _ hn
   · cases h
  have e:∀ t (k:Int),Nc (GT (FD refs l d) l (l.length+1) [] [] t)=.error k->Nv k:=λt k h=>by
   unfold Nc at h
   split at h
   · next hn=>cases h;exact QO ih _ _ _ _ _ hn
   · cases h
  intro t k h
  simp only [FD] at h
  repeat' split at h
  all_goals first | exact b _ _ h | exact c _ _ h | exact a _ _ h | exact f _ _ h | exact e _ _ h | (cases h;first | exact .inl rfl | exact .inr (.inl rfl) | exact .inr (.inr rfl))
def Gn (l:l8_) (a:Int):PV × l8_ × Int × Int :=
 if a<0\/(l.length:Int)<a then (JJ 0 0 [],[],0,21)
 else if h:AP false l a.toNat<l.length then
  (if DO l[AP false l a.toNat] then
   (JJ (F4 false l (AP false l a.toNat)).kind (F4 false l (AP false l a.toNat)).n [],if (F4 false l (AP false l a.toNat)).ok then [] else (F4 false l (AP false l a.toNat)).word,(F4 false l (AP false l a.toNat)).np,0)
  else match FD false l 32 (AP false l a.toNat) with
   | .ok (o,t')=>(o,[],t',0)
   | .error k=>(JJ 0 0 [],[],0,k))
 else (JJ 0 0 [],[],0,26)
def A8P (B:Nat) (R:PV × l8_ × Int × Int) (e:Ending) (w':World):Prop :=
 ∃ x:PC,e=.returned (.tuple #[.agg (pcV x).toArray,.string (bs R.2.1),.int .i64 R.2.2.1,.int .i64 R.2.2.2])/\Dj w' (λk=>B<=k) x R.1
section
variable {P:Program} {fn:Func} {f:Fr} {w:World}
theorem C9 {a b c d:Tmp} {tc td:TypeId} {pa pb pc pd:Addr} {x y u:Value} (hr:fn.results=#[.cell a ta,.cell b tb,.cell c tc,.cell d td]) (ha:look f a=some (.pointer (some pa))) (hb:look f b=some (.pointer (some pb))) (hc:look f c=some (.pointer (some pc))) (hd:look f d=some (.pointer (some pd)))
  (hx:(loadVar ta pa).run P w=.ok x w) (hy:(loadVar tb pb).run P w=.ok y w) (hz:(loadVar tc pc).run P w=.ok z w) (hu:(loadVar td pd).run P w=.ok u w):Eb P fn f w (.tuple #[x,y,z,u]):=λtmps hh=>by
 have e1:=hh _ _ ha;have e2:=hh _ _ hb;have e3:=hh _ _ hc;have e4:=hh _ _ hd
 simp only [B0] at e1 e2 e3 e4
 simp [results,hr,e1,e2,e3,e4,asAddr,hx,hy,hz,hu]
end
theorem DF (b1 b2 b3 b5:Nat) (w:World) (h:AF w b5 #[.int .i64 0] 30) :
  CallsD Tryz.prog 43 #[.pointer (some ⟨b5,0,none⟩),.pointer (some ⟨b1,0,none⟩),.pointer (some ⟨b2,0,none⟩),.pointer (some ⟨b3,0,none⟩)] .returning w λe u' w'=>u'=.returning/\(∃ v,e=.returned v)/\w'=w:=by
 refine Iw func43 rfl ntmps43 bL rfl<|WL.c1 AN rfl rfl ((A0k _ _)) (λb a=>?_)
 obtain rfl:=a
 refine WL.e<|A4<|Ag (Ad (Gs _) rfl h rfl)<|A0 (.neq rfl rfl)<|WL.e<|DS rfl rfl<|W.k<|BJ (Bt rfl ?_)
 exact ⟨⟨_,rfl⟩,rfl⟩
theorem WG (b1 b2 b3 b5 B:Nat) (c0 c1 c2 c3 c4 c5:Value) (s:l8_) (i j k:Int) (w:World) (h1:AF w b1 [c0,c1,c2,c3,c4,c5].toArray 99) (h2:AF w b2 #[.string (bs s)] 9) (h3:AF w b3 #[.int .i64 i] 3) (h5:AF w b5 #[.int .i64 j] 30) (hB1:B<=b1) (h12:b1<b2) (h23:b2<b3) (h35:b3<b5) (hk:k≠0) :
  CallsD Tryz.prog 43 #[.pointer (some ⟨b5,0,none⟩),.pointer (some ⟨b1,0,none⟩),.pointer (some ⟨b2,0,none⟩),.pointer (some ⟨b3,0,none⟩)] (.panicking [{ v:=.iface 30 (.int .i64 k),recovered:=false }]) w
   λe u' w'=>u'=.panicking [{ v:=.iface 30 (.int .i64 k),recovered:=true }]/\(∃ v,e=.returned v) /\
    AF w' b1 (U3 0 0 []).toArray 99/\AF w' b2 #[.string (bs [])] 9/\AF w' b3 #[.int .i64 0] 3/\AF w' b5 #[.int .i64 k] 30/\Below B w w':=by
 refine Iw func43 rfl ntmps43 bL rfl ?_
 have A:=EM (B) w
 refine WL.c1 AN rfl rfl ((A0l b5 B _ k _ h5 oO)) (λT C=>?_)
 obtain ⟨l,g⟩:=C
 have hb1:=(h1).upd g oO
 have hb2:=(h2).upd g oO
 have hb3:=(h3).upd g oO
 have D:=CN A oO g
 refine WL.e<|A4<|Ag (Ad (Gs _) rfl l rfl)<|A0 (.bis (true) (.neq rfl rfl) (by simp [hk]))<|WL.e<|DR rfl rfl ?_
 refine Ak<|A0 (.buildL (ps:=_) GQ rfl rfl rfl pZ) ?_
 refine Az rfl rfl hb1 B2 rfl rfl (λU m c N=>?_)
 have E:=l.upd c oM
 have F:=hb2.upd c oM
 have G:=hb3.upd c oM
 have H:=CN D oO c
 refine WL.st Lv rfl rfl rfl F oQ (λP f b Q=>?_)
 have f:AF P b2 _ _:=f
 have b:BF b2 _ _:=b
 have J:=E.up b
 have K:=m.up b
 have o:=G.up b
 have q:=CN H oO b
 refine WL.st B5 rfl rfl rfl o oQ (λL d a M=>?_)
 have d:AF L b3 _ _:=d
 have a:BF b3 _ _:=a
 have t:=J.up a
 have u:=K.up a
 have x:=f.up a
 have y:=CN q oO a
 refine WL.e<|BJ (Bt rfl ?_)
 exact ⟨⟨_,rfl⟩,u,x,d,t,y⟩
end
section
theorem Xq (p:Option Addr) (l:l8_) (c:Nat) (a:Int) (w:World) (hb:Av w p l) (hc:l.length<=c) (hl:l.length<=100000000) :
    Calls Tryz.prog 34 #[.slice p l.length c,.int .i64 a] w λe w'=>A8P w.heap.size (Gn l a) e w'/\Below w.heap.size w w':=by
  obtain ⟨R,hR⟩:∃ R,R=Gn l a:=⟨_,rfl⟩;rw [<- hR];unfold Gn at hR;obtain ⟨t,ht⟩:∃ t,t=AP false l (KF l a):=⟨_,rfl⟩;have fu:∀ w1,Av w1 p l->Calls Tryz.prog 42 #[.slice p l.length c,.int .i64 a] w1 λe w'=>e=.returned (.int .i64 (t:Int))/\w1=w':=λw1 h1=>by rw [ht];exact OO p l c a w1 h1 hl
  have hQ:t<=l.length:=by rw [ht];exact Ff _ _ _
  have fv:¬ (a<0\/(l.length:Int)<a)->AP false l a.toNat=t:=λh=>by rw [ht];unfold KF;rw [A1 h]
  obtain ⟨X,hX⟩:∃ X,X=F4 false l t:=⟨_,rfl⟩;have fw:∀ r w1,PX w1 r p l c t false->(0<l.length->(pA p).block≠r)->Calls Tryz.prog 47 #[.pointer (some ⟨r,0,none⟩)] w1 λe w'=>e=.returned X.val/\PX w' r p l c X.np false/\Bf w1.heap.size r w1 w':=λr w1 h1 h2=>by rw [hX];exact SX r p l c t false w1 h1 h2 hc hl oO
  refine RO func34 rfl ntmps34 bL ?_;have eh:=EM (w.heap.size) w;refine WD.seq<|Ak<|BV Jg rfl (λQ hT dx dy dz hx=>?_);have dA:=λh0=>dx▸hb.lt h0
  have ei:=DB hb dz dA;have ej:=uB eh dx dz;have hf:=Cq dx eh.size;refine BV z9_ rfl (λf hU d6 dB d1 hy=>?_);have fx:=Bg d6 dy.lt;have ek:=dy.un d1 fx;have d2:=λh0=>d6▸ei.lt h0
  have el:=DB ei d1 d2;have dC:=uB ej d6 d1;have hg:=Cq d6 ej.size;refine BV PG rfl (λb hz bQ d7 bM hh=>?_);have em:=Bg bQ ek.lt;have dE:=ek.un bM em;have en:=Bg bQ dB.lt;have dG:=dB.un bM en;have e7:=λh0=>bQ▸el.lt h0
  have dH:=DB el bM e7;have dI:=uB dC bQ bM;have fy:=Cq bQ dC.size;refine BV zeroValue30 rfl (λd hA bG bN b6 hi=>?_);have eo:=Bg bG dE.lt;have cA:=dE.un b6 eo;have ep:=Bg bG dG.lt;have cB:=dG.un b6 ep;have eq:=Bg bG d7.lt;have cC:=d7.un b6 eq;have e8:=λh0=>bG▸dH.lt h0
  have d3:=DB dH b6 e8;have cD:=uB dI bG b6;have fz:=Cq bG dI.size;refine WL.e<|WD.seq<|Fd 17 (decide (a<0\/(l.length:Int)<a)) ?_ ?_;refine Ak<|A2 rfl<|A0 (.lss rfl rfl)<|A2 rfl<|B1 rfl rfl rfl (λaM=>?_) (λaM=>?_)
  · have er := dF aM
    refine A2 rfl<|As aM<|A2 rfl<|As aM<|A0 (.lenS Bu rfl)<|As aM<|A0 (.gtr rfl rfl)<|A0 (.pkF rfl aM rfl)<|WL.e<|?_;exact ⟨leF rfl,rfl⟩
  have er:=dT aM;refine Aa aM<|Aa aM<|Aa aM<|A0 (.pkT rfl aM rfl)<|WL.e<|?_;exact ⟨leF rfl,rfl⟩;refine A3n rfl (λes=>?_) (λes=>?_)
  · skip
    rw [A6 aS] at hR;subst hR;refine A4<|A0 (.buildL (ps:=_) GQ rfl rfl rfl pZ) ?_;refine Az rfl rfl cA B2 rfl rfl (λhV e9 bO hj=>?_);refine WL.st Lv rfl rfl rfl (cB.up bO) oQ (λfA cE aT hm=>?_);have cE:AF fA f _ _:=cE;have aT:BF f _ _:=aT;refine WL.st B5 rfl rfl rfl ((cC.up bO).up aT) oQ (λfB cF aU hn=>?_);have cF:AF fB b _ _:=cF;have aU:BF b _ _:=aU;refine WL.st Gq rfl rfl rfl (((bN.up bO).up aT).up aU) oQ (λfC cG aV ho=>?_);have cG:AF fC d _ _:=cG;have aV:BF d _ _:=aV;have d4:=(cE.up aU).up aV;refine WL.e<|Ai ?_;exact Nu (C9 rfl rfl rfl rfl rfl (Bq (((e9.up aT).up aU).up aV) CB rfl B2) (Bi d4 (KP _) rfl) (Bi (cF.up aV) (Bw _) rfl) (Bi cG (Gs _) rfl)) ⟨⟨Lx 0 0 [],Ci rfl,Dj.zero _ _ _ _ _⟩,(CN (CN (CN (CN cD oO bO) oO aT) oO aU) oO aV)⟩
  rw [A1 aS,fv aS] at hR;refine W.k<|WD.seq<|Ak<|A2 rfl<|A2 rfl<|WL.c1 AN rfl rfl ((fu _ d3)) (λhW et=>?_);obtain rfl:=et;refine A9 rfl<|WD.seq<|A4<|A2 rfl<|A2 rfl<|A0 (.lenS Bu rfl)<|A0 (.eql rfl rfl)<|WL.e<|A3n rfl (λeu=>?_) (λeu=>?_)
  · skip
    rw [dif_neg oO] at hR;subst hR;refine A4<|A0 (.buildL (ps:=_) GQ rfl rfl rfl pZ) ?_;refine Az rfl rfl cA B2 rfl rfl (λhY ea bP hp=>?_);refine WL.st Lv rfl rfl rfl (cB.up bP) oQ (λfD cH aW hq=>?_);have cH:AF fD f _ _:=cH;have aW:BF f _ _:=aW;refine WL.st B5 rfl rfl rfl ((cC.up bP).up aW) oQ (λfE cI aX hr=>?_);have cI:AF fE b _ _:=cI;have aX:BF b _ _:=aX;have d5:=cH.up aX;refine WL.st Gq rfl rfl rfl (((bN.up bP).up aW).up aX) oQ (λfF cJ aY hs=>?_);have cJ:AF fF d _ _:=cJ;have aY:BF d _ _:=aY;refine WL.e<|Ai ?_;exact Nu (C9 rfl rfl rfl rfl rfl (Bq (((ea.up aW).up aX).up aY) CB rfl B2) (Bi (d5.up aY) (KP _) rfl) (Bi (cI.up aY) (Bw _) rfl) (Bi cJ (Gs _) rfl)) ⟨⟨Lx 0 0 [],Ci rfl,Dj.zero _ _ _ _ _⟩,(CN (CN (CN (CN cD oO bP) oO aW) oO aX) oO aY)⟩
  have cK:t<l.length:=by omega
  rw [dif_pos cK] at hR;refine W.k<|WD.defer rfl rfl<|WD.of<|A4<|A2 rfl<|A2 rfl<|?_;refine A0 (.buildL (ps:=_) A6R rfl rfl rfl pS) ?_;refine CU rfl rfl (λcX hB b2 cL aZ hu=>?_);have ev:=Bg b2 cA.lt;have bH:=cA.un aZ ev;have ew:=Bg b2 cB.lt;have bI:=cB.un aZ ew;have ex:=Bg b2 cC.lt;have bJ:=cC.un aZ ex;have ey:=Bg b2 bN.lt;have bK:=bN.un aZ ey;have eb:=λh0=>b2▸d3.lt h0
  have cM:=DB d3 aZ eb;have b3:=uB cD b2 aZ;have fG:=Cq b2 cD.size;refine A9 rfl<|Ah<|A4<|A2 rfl<|A2 rfl<|A0 (.ixb Bu I7 rfl rfl (cM.isp oD) (t) (rfl) (cK))<|Ag (AO (Ou _) rfl (cM.cells (t) (cK)))<|WL.c1 AN rfl rfl ((NN _ _)) (λhZ ez=>?_);obtain rfl:=ez;refine A0 (.not rfl)<|WL.e<|Ac rfl (λdJ=>?_) (λdJ=>?_)
  · have eA := (nT dJ)
    refine A4<|A2 rfl<|WL.cx AN rfl rfl ((Wr p l c false hc hl 32 32 dD dD cX t _ ⟨cL,cM⟩ (λh0=>by have:=hb.lt h0;omega) cK)) (λfH fI b7 b4=>?_) (λfJ h' fI b7 b4=>?_);exact Li KG (λw'=>_) (WG Q f b d w.heap.size _ _ _ _ _ _ [] _ _ fH _ (I4 bH b4 (bH).lt oO) (I4 bI b4 (bI).lt oO) (I4 bJ b4 (bJ).lt oO) (I4 bK b4 (bK).lt oO) oO oO oO oO (Vy false l _ _ _ b7).ne)
      (λw' hS=>⟨_,C9 rfl rfl rfl rfl rfl (Bq hS.1 CB rfl B2) (Bi hS.2.1 (KP _) rfl) (Bi hS.2.2.1 (Bw _) rfl) (Bi hS.2.2.2.1 (Gs _) rfl),⟨Lx 0 0 [],Ci (by rw [hR,A1 (bF (nT aS)),show FD false l 32 t=_ from b7];rfl),by rw [hR,A1 (bF (nT aS)),show FD false l 32 t=_ from b7];exact Dj.zero _ _ _ _ _⟩,(EZ b3 (Bf.below b4 b3.size oO)).trans hS.2.2.2.2⟩)
    have fK:=b7;obtain ⟨oX,tX⟩:=fJ;obtain ⟨x1,rfl,fL,eB,cY⟩:=b4;have eC:=fL.mono (T:=λk=>cX<k/\w.heap.size<=k) (λk hk _=>by have h1:=(cL).lt;have h2:=b3.size;omega);have d4:=I4 bI cY (bI).lt oO;have d5:=I4 bK cY (bK).lt oO;have fM:=eB.1;rw [A1 (bF (nT aS)),show FD false l 32 t=_ from fK] at hR;subst hR;refine Az rfl rfl (I4 bH cY (bH).lt oO) B2 rfl rfl (λfN ec a' hv=>?_);refine WL.e<|Ah<|Uu<|Ma 9 rfl C7 (λeD aK=>?_);have cN:=Dj.same (w1:=eD) (Dj.same (w1:=fN) eC (λk hk hl=>a'.other k (by first | ((try simp only) <;> omega) | (have:=hk.1;((try simp only) <;> omega))))) (λk hk hl=>(by obtain ⟨m,rfl⟩:=aK;rfl));have b8:=ec.drew aK;have cO:=(d4.up a').drew aK;have cP:=((I4 bJ cY (bJ).lt oO).up a').drew aK;have cQ:=(d5.up a').drew aK;have cR:=(fM.upd a' oM).drew aK;have cS:=CZ.below (CN (EZ b3 (Bf.below cY b3.size oO)) oO a') aK;refine Bh 1 rfl (.mv rfl) rfl<|Bh 2 rfl (.nck rfl) rfl<|Bh 3 rfl (.fa CL rfl B5 dD rfl) rfl<|E9 0 rfl 4 rfl ?_ ?_;refine Ag (BA rfl b8 CB rfl B2)<|WL.e<|E9 4 rfl 5 rfl ?_ ?_;refine Ag (Ad (Bw _) rfl cR rfl)<|WL.e<|Ay 5 rfl<|Az rfl rfl b8 B2 rfl rfl (λeF dK aN fO=>?_);refine WL.e<|Ay 6 rfl<|WL.st Lv rfl rfl rfl (cO.up aN) oQ (λdL bR x fP=>?_);have bR:AF dL f _ _:=bR;have x:BF f _ _:=x;refine WL.e<|Ay 7 rfl<|WL.st B5 rfl rfl rfl ((cP.up aN).up x) oQ (λdM bS y fQ=>?_);have bS:AF dM b _ _:=bS;have y:BF b _ _:=y;refine WL.e<|Ay 8 rfl<|WL.st Gq rfl rfl rfl (((cQ.up aN).up x).up y) oQ (λdN b9 A fR=>?_);have b9:AF dN d _ _:=b9;have A:BF d _ _:=A;have ed:=Dj.same (w1:=dN) (Dj.same (w1:=dM) (Dj.same (w1:=dL) (Dj.same (w1:=eF) cN (λk hk hl=>aN.other k (by first | ((try simp only) <;> omega) | (have:=hk.1;((try simp only) <;> omega))))) (λk hk hl=>x.other k (by first | ((try simp only) <;> omega) | (have:=hk.1;((try simp only) <;> omega))))) (λk hk hl=>y.other k (by first | ((try simp only) <;> omega) | (have:=hk.1;((try simp only) <;> omega))))) (λk hk hl=>A.other k (by first | ((try simp only) <;> omega) | (have:=hk.1;((try simp only) <;> omega))))
    refine WL.e<|C3 kR<|Ai ?_;exact Ek.ret KG (λw'=>_) (DF Q f b d _ b9) (λw' hS=>by subst hS;exact ⟨_,C9 rfl rfl rfl rfl rfl (Bq (((dK.up x).up y).up A) CB rfl B2) (Bi ((bR.up y).up A) (KP _) rfl) (Bi (bS.up A) (Bw _) rfl) (Bi b9 (Gs _) rfl),⟨x1,Ci rfl,(ed).mono (λk hk _=>hk.2)⟩,(CN (CN (CN (CN cS oO aN) oO x) oO y) oO A)⟩);refine Az rfl rfl b8 B2 rfl rfl (λeG cZ V fS=>?_);have d8:=Dj.same (w1:=eG) cN (λk hk hl=>V.other k (by first | ((try simp only) <;> omega) | (have:=hk.1;((try simp only) <;> omega))));have d9:=cO.up V;have da:=cP.up V;have db:=cQ.up V;have dc:=cR.up V;have dd:=CN cS oO V;refine WL.e<|E9 4 rfl 6 rfl ?_ ?_;refine Ag (Ad (Bw _) rfl dc rfl)<|WL.e<|Ay 6 rfl<|WL.st Lv rfl rfl rfl d9 oQ (λdO bT B fT=>?_);have bT:AF dO f _ _:=bT;have B:BF f _ _:=B;refine WL.e<|Ay 7 rfl<|WL.st B5 rfl rfl rfl (da.up B) oQ (λdP bU C fU=>?_);have bU:AF dP b _ _:=bU;have C:BF b _ _:=C;refine WL.e<|Ay 8 rfl<|WL.st Gq rfl rfl rfl ((db.up B).up C) oQ (λdQ ba D fV=>?_);have ba:AF dQ d _ _:=ba;have D:BF d _ _:=D;have ee:=Dj.same (w1:=dQ) (Dj.same (w1:=dP) (Dj.same (w1:=dO) d8 (λk hk hl=>B.other k (by first | ((try simp only) <;> omega) | (have:=hk.1;((try simp only) <;> omega))))) (λk hk hl=>C.other k (by first | ((try simp only) <;> omega) | (have:=hk.1;((try simp only) <;> omega))))) (λk hk hl=>D.other k (by first | ((try simp only) <;> omega) | (have:=hk.1;((try simp only) <;> omega))));refine WL.e<|C3 kR<|Ai ?_;exact Ek.ret KG (λw'=>_) (DF Q f b d _ ba) (λw' hS=>by subst hS;exact ⟨_,C9 rfl rfl rfl rfl rfl (Bq (((cZ.up B).up C).up D) CB rfl B2) (Bi ((bT.up C).up D) (KP _) rfl) (Bi (bU.up D) (Bw _) rfl) (Bi ba (Gs _) rfl),⟨x1,Ci rfl,(ee).mono (λk hk _=>hk.2)⟩,(CN (CN (CN dd oO B) oO C) oO D)⟩)
    refine WL.st Lv rfl rfl rfl d9 oQ (λdR bV s fW=>?_);have bV:AF dR f _ _:=bV;have s:BF f _ _:=s;refine WL.e<|Ay 4 rfl<|Ag (Ad (Bw _) rfl (dc.up s) rfl)<|WL.e<|Ay 7 rfl<|WL.st B5 rfl rfl rfl (da.up s) oQ (λdS bW E fX=>?_);have bW:AF dS b _ _:=bW;have E:BF b _ _:=E;refine WL.e<|Ay 8 rfl<|WL.st Gq rfl rfl rfl ((db.up s).up E) oQ (λdU bb F fY=>?_);have bb:AF dU d _ _:=bb;have F:BF d _ _:=F;have ef:=Dj.same (w1:=dU) (Dj.same (w1:=dS) (Dj.same (w1:=dR) d8 (λk hk hl=>s.other k (by first | ((try simp only) <;> omega) | (have:=hk.1;((try simp only) <;> omega))))) (λk hk hl=>E.other k (by first | ((try simp only) <;> omega) | (have:=hk.1;((try simp only) <;> omega))))) (λk hk hl=>F.other k (by first | ((try simp only) <;> omega) | (have:=hk.1;((try simp only) <;> omega))));refine WL.e<|C3 kR<|Ai ?_;exact Ek.ret KG (λw'=>_) (DF Q f b d _ bb) (λw' hS=>by subst hS;exact ⟨_,C9 rfl rfl rfl rfl rfl (Bq (((cZ.up s).up E).up F) CB rfl B2) (Bi ((bV.up E).up F) (KP _) rfl) (Bi (bW.up F) (Bw _) rfl) (Bi bb (Gs _) rfl),⟨x1,Ci rfl,(ef).mono (λk hk _=>hk.2)⟩,(CN (CN (CN dd oO s) oO E) oO F)⟩);refine Ag (Ad (Bw _) rfl cR rfl)<|WL.e<|Ay 0 rfl<|Ag (BA rfl b8 CB rfl B2)<|WL.e<|Ay 5 rfl<|Az rfl rfl b8 B2 rfl rfl (λeH dV aO fZ=>?_);refine WL.e<|Ay 6 rfl<|WL.st Lv rfl rfl rfl (cO.up aO) oQ (λdW bX G f'=>?_);have bX:AF dW f _ _:=bX;have G:BF f _ _:=G;refine WL.e<|Ay 7 rfl<|WL.st B5 rfl rfl rfl ((cP.up aO).up G) oQ (λdX bY H g0=>?_);have bY:AF dX b _ _:=bY;have H:BF b _ _:=H;refine WL.e<|Ay 8 rfl<|WL.st Gq rfl rfl rfl (((cQ.up aO).up G).up H) oQ (λdY bc J g1=>?_);have bc:AF dY d _ _:=bc;have J:BF d _ _:=J;have eg:=Dj.same (w1:=dY) (Dj.same (w1:=dX) (Dj.same (w1:=dW) (Dj.same (w1:=eH) cN (λk hk hl=>aO.other k (by first | ((try simp only) <;> omega) | (have:=hk.1;((try simp only) <;> omega))))) (λk hk hl=>G.other k (by first | ((try simp only) <;> omega) | (have:=hk.1;((try simp only) <;> omega))))) (λk hk hl=>H.other k (by first | ((try simp only) <;> omega) | (have:=hk.1;((try simp only) <;> omega))))) (λk hk hl=>J.other k (by first | ((try simp only) <;> omega) | (have:=hk.1;((try simp only) <;> omega))))
    refine WL.e<|C3 kR<|Ai ?_;exact Ek.ret KG (λw'=>_) (DF Q f b d _ bc) (λw' hS=>by subst hS;exact ⟨_,C9 rfl rfl rfl rfl rfl (Bq (((dV.up G).up H).up J) CB rfl B2) (Bi ((bX.up H).up J) (KP _) rfl) (Bi (bY.up J) (Bw _) rfl) (Bi bc (Gs _) rfl),⟨x1,Ci rfl,(eg).mono (λk hk _=>hk.2)⟩,(CN (CN (CN (CN cS oO aO) oO G) oO H) oO J)⟩)
  have eA:=(nF dJ);refine W.k<|A4<|A2 rfl<|WL.c1 AN rfl rfl ((fw cX _ ⟨cL,cM⟩ (λh0=>by have:=hb.lt h0;omega))) (λhC aL=>?_);rw [A6 (nF aS),<- hX] at hR;subst hR;refine A2 rfl<|A0 (.ext rfl rfl)<|A0 (.ext rfl rfl)<|A0 (.ext rfl rfl)<|Az rfl rfl (I4 bH aL.2 bH.lt oO) B2 rfl rfl (λhD dZ a0 g2=>?_);refine WL.st Lv rfl rfl rfl ((I4 bI aL.2 bI.lt oO).up a0) oQ (λeI bd u g3=>?_);have bd:AF eI f _ _:=bd;have u:BF f _ _:=u;have de:=dZ.up u;have df:=((I4 bJ aL.2 bJ.lt oO).up a0).up u;have dg:=((I4 bK aL.2 bK.lt oO).up a0).up u;have dh:=(aL.1.1.up a0).up u;have di:=DB (DB aL.1.2 a0 dA) u d2;have dj:=CN (CN (EZ b3 (Bf.below aL.2 b3.size oO)) oO a0) oO u;refine A9 rfl<|D4 (α:=Unit) (λt=>[(4,.pointer (some ⟨Q,0,none⟩)),(5,.pointer (some ⟨f,0,none⟩)),(6,.pointer (some ⟨b,0,none⟩)),(7,.pointer (some ⟨d,0,none⟩)),(8,.pointer (some ⟨cX,0,none⟩))]) (λt w'=>AF w' Q (pcV (Lx X.kind X.n [])).toArray 99/\AF w' f #[.string (bs (if X.ok then [] else X.word))] 9/\AF w' b #[.int .i64 0] 3/\AF w' d #[.int .i64 0] 30/\PX w' cX p l c X.np false/\Below w.heap.size w w') ?_ (λt w1 hR=>?_);refine A4<|A2 rfl<|WL.e<|Ac rfl (λeJ=>?_) (λeJ=>?_);refine Ak<|WL.st Lv rfl rfl rfl bd oQ (λeK bZ v g4=>?_);have bZ:AF eK f _ _:=bZ;have v:BF f _ _:=v;refine WL.e<|?_;exact ⟨(),⟨rfl,rfl,rfl,rfl,rfl,tT⟩,(de.up v),by rw [show X.ok=_ by assumption];exact bZ,(df.up v),(dg.up v),⟨(dh.up v),(DB di v d2)⟩,(CN dj oO v)⟩;refine W.k ?_;exact ⟨(),⟨rfl,rfl,rfl,rfl,rfl,tT⟩,de,by rw [show X.ok=_ by assumption];exact bd,df,dg,⟨dh,di⟩,dj⟩;obtain ⟨g5,g6,g7,g8,g9,ga⟩:=hR
  generalize (if X.ok then [] else X.word)=sX at *;refine Ah<|Uu<|Ma 10 rfl C7 (λhE b0=>?_);have g:=g5.drew b0;have i:=g6.drew b0;have j:=g7.drew b0;have o:=g8.drew b0;have U:=g9.1.drew b0;have q:=CZ.below ga b0;refine Bh 2 rfl (.mv rfl) rfl<|Bh 3 rfl (.nck rfl) rfl<|Bh 4 rfl (.fa CL rfl B5 dD rfl) rfl<|TB [0,1,5] kR rfl ⟨⟨_,rfl,?_⟩,⟨_,rfl,?_⟩,⟨_,rfl,?_⟩,tT⟩;refine Ag (BA rfl g CB rfl B2)<|WL.e<|TB [1,5,6] kR rfl ⟨⟨_,rfl,?_⟩,⟨_,rfl,?_⟩,⟨_,rfl,?_⟩,tT⟩;refine Ag (Ad (KP _) rfl i rfl)<|WL.e<|E9 5 rfl 6 rfl ?_ ?_;refine Ag (Ad (Bw _) rfl U rfl)<|WL.e<|Ay 6 rfl<|Az rfl rfl g B2 rfl rfl (λhF d' be gb=>?_);refine WL.e<|Ay 7 rfl<|WL.st Lv rfl rfl rfl (i.up be) oQ (λeL b' a1 gc=>?_);have b':AF eL f _ _:=b';have a1:BF f _ _:=a1;refine WL.e<|Ay 8 rfl<|WL.st B5 rfl rfl rfl ((j.up be).up a1) oQ (λeM c0 a2 ge=>?_);have c0:AF eM b _ _:=c0;have a2:BF b _ _:=a2;refine WL.e<|Ay 9 rfl<|WL.st Gq rfl rfl rfl (((o.up be).up a1).up a2) oQ (λeN bf a3 gf=>?_);have bf:AF eN d _ _:=bf;have a3:BF d _ _:=a3;refine WL.e<|C3 kR<|Ai ?_;exact Ek.ret KG (λw'=>_) (DF Q f b d _ bf) (λw' hS=>by subst hS;exact ⟨_,C9 rfl rfl rfl rfl rfl (Bq (((d'.up a1).up a2).up a3) CB rfl B2) (Bi ((b'.up a2).up a3) (KP _) rfl) (Bi (c0.up a3) (Bw _) rfl) (Bi bf (Gs _) rfl),⟨Lx X.kind X.n [],Ci rfl,Dj.zero _ _ _ _ _⟩,(CN (CN (CN (CN q oO be) oO a1) oO a2) oO a3)⟩);refine Az rfl rfl g B2 rfl rfl (λhG c' aP gg=>?_);have dk:=i.up aP;have dl:=j.up aP;have dm:=o.up aP;have dn:=U.up aP;have dp:=CN q oO aP;refine WL.e<|E9 5 rfl 7 rfl ?_ ?_;refine Ag (Ad (Bw _) rfl dn rfl)<|WL.e<|Ay 7 rfl<|WL.st Lv rfl rfl rfl dk oQ (λeO c2 a4 gh=>?_);have c2:AF eO f _ _:=c2;have a4:BF f _ _:=a4
  refine WL.e<|Ay 8 rfl<|WL.st B5 rfl rfl rfl (dl.up a4) oQ (λeP c3 a5 gi=>?_);have c3:AF eP b _ _:=c3;have a5:BF b _ _:=a5;refine WL.e<|Ay 9 rfl<|WL.st Gq rfl rfl rfl ((dm.up a4).up a5) oQ (λeQ bg a6 gj=>?_);have bg:AF eQ d _ _:=bg;have a6:BF d _ _:=a6;refine WL.e<|C3 kR<|Ai ?_;exact Ek.ret KG (λw'=>_) (DF Q f b d _ bg) (λw' hS=>by subst hS;exact ⟨_,C9 rfl rfl rfl rfl rfl (Bq (((c'.up a4).up a5).up a6) CB rfl B2) (Bi ((c2.up a5).up a6) (KP _) rfl) (Bi (c3.up a6) (Bw _) rfl) (Bi bg (Gs _) rfl),⟨Lx X.kind X.n [],Ci rfl,Dj.zero _ _ _ _ _⟩,(CN (CN (CN dp oO a4) oO a5) oO a6)⟩);refine WL.st Lv rfl rfl rfl dk oQ (λeR c4 K gk=>?_);have c4:AF eR f _ _:=c4;have K:BF f _ _:=K;refine WL.e<|Ay 5 rfl<|Ag (Ad (Bw _) rfl (dn.up K) rfl)<|WL.e<|Ay 8 rfl<|WL.st B5 rfl rfl rfl (dl.up K) oQ (λeS c5 a7 gl=>?_);have c5:AF eS b _ _:=c5;have a7:BF b _ _:=a7;refine WL.e<|Ay 9 rfl<|WL.st Gq rfl rfl rfl ((dm.up K).up a7) oQ (λeT bh a8 gm=>?_);have bh:AF eT d _ _:=bh;have a8:BF d _ _:=a8;refine WL.e<|C3 kR<|Ai ?_;exact Ek.ret KG (λw'=>_) (DF Q f b d _ bh) (λw' hS=>by subst hS;exact ⟨_,C9 rfl rfl rfl rfl rfl (Bq (((c'.up K).up a7).up a8) CB rfl B2) (Bi ((c4.up a7).up a8) (KP _) rfl) (Bi (c5.up a8) (Bw _) rfl) (Bi bh (Gs _) rfl),⟨Lx X.kind X.n [],Ci rfl,Dj.zero _ _ _ _ _⟩,(CN (CN (CN dp oO K) oO a7) oO a8)⟩);refine Ag (Ad (Bw _) rfl U rfl)<|WL.e<|E9 1 rfl 6 rfl ?_ ?_;refine Ag (Ad (KP _) rfl i rfl)<|WL.e<|Ay 6 rfl<|Az rfl rfl g B2 rfl rfl (λhH e0 bi go=>?_);refine WL.e<|Ay 7 rfl<|WL.st Lv rfl rfl rfl (i.up bi) oQ (λeU c6 a9 gp=>?_);have c6:AF eU f _ _:=c6;have a9:BF f _ _:=a9;refine WL.e<|Ay 8 rfl<|WL.st B5 rfl rfl rfl ((j.up bi).up a9) oQ (λeV c7 aa gq=>?_)
  have c7:AF eV b _ _:=c7;have aa:BF b _ _:=aa;refine WL.e<|Ay 9 rfl<|WL.st Gq rfl rfl rfl (((o.up bi).up a9).up aa) oQ (λeW bj ab gr=>?_);have bj:AF eW d _ _:=bj;have ab:BF d _ _:=ab;refine WL.e<|C3 kR<|Ai ?_;exact Ek.ret KG (λw'=>_) (DF Q f b d _ bj) (λw' hS=>by subst hS;exact ⟨_,C9 rfl rfl rfl rfl rfl (Bq (((e0.up a9).up aa).up ab) CB rfl B2) (Bi ((c6.up aa).up ab) (KP _) rfl) (Bi (c7.up ab) (Bw _) rfl) (Bi bj (Gs _) rfl),⟨Lx X.kind X.n [],Ci rfl,Dj.zero _ _ _ _ _⟩,(CN (CN (CN (CN q oO bi) oO a9) oO aa) oO ab)⟩);refine Az rfl rfl g B2 rfl rfl (λhI e1 bk gs=>?_);have dq:=i.up bk;refine WL.e<|Ay 1 rfl<|Ag (Ad (KP _) rfl dq rfl)<|WL.e<|Ay 7 rfl<|WL.st Lv rfl rfl rfl dq oQ (λeX c8 ac gt=>?_);have c8:AF eX f _ _:=c8;have ac:BF f _ _:=ac;refine WL.e<|Ay 8 rfl<|WL.st B5 rfl rfl rfl ((j.up bk).up ac) oQ (λeY c9 ad gv=>?_);have c9:AF eY b _ _:=c9;have ad:BF b _ _:=ad;refine WL.e<|Ay 9 rfl<|WL.st Gq rfl rfl rfl (((o.up bk).up ac).up ad) oQ (λeZ bl ae gw=>?_);have bl:AF eZ d _ _:=bl;have ae:BF d _ _:=ae;refine WL.e<|C3 kR<|Ai ?_;exact Ek.ret KG (λw'=>_) (DF Q f b d _ bl) (λw' hS=>by subst hS;exact ⟨_,C9 rfl rfl rfl rfl rfl (Bq (((e1.up ac).up ad).up ae) CB rfl B2) (Bi ((c8.up ad).up ae) (KP _) rfl) (Bi (c9.up ae) (Bw _) rfl) (Bi bl (Gs _) rfl),⟨Lx X.kind X.n [],Ci rfl,Dj.zero _ _ _ _ _⟩,(CN (CN (CN (CN q oO bk) oO ac) oO ad) oO ae)⟩);refine Az rfl rfl g B2 rfl rfl (λhJ ca aQ gx=>?_);have bm:=i.up aQ;have cT:=j.up aQ;have cU:=o.up aQ;have cV:=U.up aQ;have cW:=CN q oO aQ;refine WL.e<|E9 1 rfl 5 rfl ?_ ?_;refine Ag (Ad (KP _) rfl bm rfl)<|WL.e<|E9 5 rfl 7 rfl ?_ ?_;refine Ag (Ad (Bw _) rfl cV rfl)<|WL.e<|Ay 7 rfl<|WL.st Lv rfl rfl rfl bm oQ (λe' cb af gz=>?_)
  have cb:AF e' f _ _:=cb;have af:BF f _ _:=af;refine WL.e<|Ay 8 rfl<|WL.st B5 rfl rfl rfl (cT.up af) oQ (λf0 cc ag gA=>?_);have cc:AF f0 b _ _:=cc;have ag:BF b _ _:=ag;refine WL.e<|Ay 9 rfl<|WL.st Gq rfl rfl rfl ((cU.up af).up ag) oQ (λf1 bn ah gC=>?_);have bn:AF f1 d _ _:=bn;have ah:BF d _ _:=ah;refine WL.e<|C3 kR<|Ai ?_;exact Ek.ret KG (λw'=>_) (DF Q f b d _ bn) (λw' hS=>by subst hS;exact ⟨_,C9 rfl rfl rfl rfl rfl (Bq (((ca.up af).up ag).up ah) CB rfl B2) (Bi ((cb.up ag).up ah) (KP _) rfl) (Bi (cc.up ah) (Bw _) rfl) (Bi bn (Gs _) rfl),⟨Lx X.kind X.n [],Ci rfl,Dj.zero _ _ _ _ _⟩,(CN (CN (CN cW oO af) oO ag) oO ah)⟩);refine WL.st Lv rfl rfl rfl bm oQ (λf2 cd L gD=>?_);have cd:AF f2 f _ _:=cd;have L:BF f _ _:=L;refine WL.e<|Ay 5 rfl<|Ag (Ad (Bw _) rfl (cV.up L) rfl)<|WL.e<|Ay 8 rfl<|WL.st B5 rfl rfl rfl (cT.up L) oQ (λf3 cf ai gE=>?_);have cf:AF f3 b _ _:=cf;have ai:BF b _ _:=ai;refine WL.e<|Ay 9 rfl<|WL.st Gq rfl rfl rfl ((cU.up L).up ai) oQ (λf4 bo aj gF=>?_);have bo:AF f4 d _ _:=bo;have aj:BF d _ _:=aj;refine WL.e<|C3 kR<|Ai ?_;exact Ek.ret KG (λw'=>_) (DF Q f b d _ bo) (λw' hS=>by subst hS;exact ⟨_,C9 rfl rfl rfl rfl rfl (Bq (((ca.up L).up ai).up aj) CB rfl B2) (Bi ((cd.up ai).up aj) (KP _) rfl) (Bi (cf.up aj) (Bw _) rfl) (Bi bo (Gs _) rfl),⟨Lx X.kind X.n [],Ci rfl,Dj.zero _ _ _ _ _⟩,(CN (CN (CN cW oO L) oO ai) oO aj)⟩);refine Ag (Ad (Bw _) rfl cV rfl)<|WL.e<|Ay 1 rfl<|Ag (Ad (KP _) rfl bm rfl)<|WL.e<|Ay 7 rfl<|WL.st Lv rfl rfl rfl bm oQ (λf5 cg ak gG=>?_);have cg:AF f5 f _ _:=cg;have ak:BF f _ _:=ak;refine WL.e<|Ay 8 rfl<|WL.st B5 rfl rfl rfl (cT.up ak) oQ (λf6 ci am gH=>?_)
  have ci:AF f6 b _ _:=ci;have am:BF b _ _:=am;refine WL.e<|Ay 9 rfl<|WL.st Gq rfl rfl rfl ((cU.up ak).up am) oQ (λf7 bp an gI=>?_);have bp:AF f7 d _ _:=bp;have an:BF d _ _:=an;refine WL.e<|C3 kR<|Ai ?_;exact Ek.ret KG (λw'=>_) (DF Q f b d _ bp) (λw' hS=>by subst hS;exact ⟨_,C9 rfl rfl rfl rfl rfl (Bq (((ca.up ak).up am).up an) CB rfl B2) (Bi ((cg.up am).up an) (KP _) rfl) (Bi (ci.up an) (Bw _) rfl) (Bi bp (Gs _) rfl),⟨Lx X.kind X.n [],Ci rfl,Dj.zero _ _ _ _ _⟩,(CN (CN (CN cW oO ak) oO am) oO an)⟩);refine Ag (Ad (KP _) rfl i rfl)<|WL.e<|E9 0 rfl 5 rfl ?_ ?_;refine Ag (BA rfl g CB rfl B2)<|WL.e<|E9 5 rfl 6 rfl ?_ ?_;refine Ag (Ad (Bw _) rfl U rfl)<|WL.e<|Ay 6 rfl<|Az rfl rfl g B2 rfl rfl (λhK e2 bq gJ=>?_);refine WL.e<|Ay 7 rfl<|WL.st Lv rfl rfl rfl (i.up bq) oQ (λf8 cj ao gK=>?_);have cj:AF f8 f _ _:=cj;have ao:BF f _ _:=ao;refine WL.e<|Ay 8 rfl<|WL.st B5 rfl rfl rfl ((j.up bq).up ao) oQ (λf9 ck ap gL=>?_);have ck:AF f9 b _ _:=ck;have ap:BF b _ _:=ap;refine WL.e<|Ay 9 rfl<|WL.st Gq rfl rfl rfl (((o.up bq).up ao).up ap) oQ (λfb bt aq gM=>?_);have bt:AF fb d _ _:=bt;have aq:BF d _ _:=aq;refine WL.e<|C3 kR<|Ai ?_;exact Ek.ret KG (λw'=>_) (DF Q f b d _ bt) (λw' hS=>by subst hS;exact ⟨_,C9 rfl rfl rfl rfl rfl (Bq (((e2.up ao).up ap).up aq) CB rfl B2) (Bi ((cj.up ap).up aq) (KP _) rfl) (Bi (ck.up aq) (Bw _) rfl) (Bi bt (Gs _) rfl),⟨Lx X.kind X.n [],Ci rfl,Dj.zero _ _ _ _ _⟩,(CN (CN (CN (CN q oO bq) oO ao) oO ap) oO aq)⟩);refine Az rfl rfl g B2 rfl rfl (λhL d0 aR gN=>?_);have dr:=i.up aR;have ds:=j.up aR;have dt:=o.up aR;have du:=U.up aR;have dv:=CN q oO aR;refine WL.e<|E9 5 rfl 7 rfl ?_ ?_
  refine Ag (Ad (Bw _) rfl du rfl)<|WL.e<|Ay 7 rfl<|WL.st Lv rfl rfl rfl dr oQ (λfc cl ar gO=>?_);have cl:AF fc f _ _:=cl;have ar:BF f _ _:=ar;refine WL.e<|Ay 8 rfl<|WL.st B5 rfl rfl rfl (ds.up ar) oQ (λfd cm au gP=>?_);have cm:AF fd b _ _:=cm;have au:BF b _ _:=au;refine WL.e<|Ay 9 rfl<|WL.st Gq rfl rfl rfl ((dt.up ar).up au) oQ (λfe bu av gQ=>?_);have bu:AF fe d _ _:=bu;have av:BF d _ _:=av;refine WL.e<|C3 kR<|Ai ?_;exact Ek.ret KG (λw'=>_) (DF Q f b d _ bu) (λw' hS=>by subst hS;exact ⟨_,C9 rfl rfl rfl rfl rfl (Bq (((d0.up ar).up au).up av) CB rfl B2) (Bi ((cl.up au).up av) (KP _) rfl) (Bi (cm.up av) (Bw _) rfl) (Bi bu (Gs _) rfl),⟨Lx X.kind X.n [],Ci rfl,Dj.zero _ _ _ _ _⟩,(CN (CN (CN dv oO ar) oO au) oO av)⟩);refine WL.st Lv rfl rfl rfl dr oQ (λff cn P gR=>?_);have cn:AF ff f _ _:=cn;have P:BF f _ _:=P;refine WL.e<|Ay 5 rfl<|Ag (Ad (Bw _) rfl (du.up P) rfl)<|WL.e<|Ay 8 rfl<|WL.st B5 rfl rfl rfl (ds.up P) oQ (λfg co aw gS=>?_);have co:AF fg b _ _:=co;have aw:BF b _ _:=aw;refine WL.e<|Ay 9 rfl<|WL.st Gq rfl rfl rfl ((dt.up P).up aw) oQ (λfh bv ax gT=>?_);have bv:AF fh d _ _:=bv;have ax:BF d _ _:=ax;refine WL.e<|C3 kR<|Ai ?_;exact Ek.ret KG (λw'=>_) (DF Q f b d _ bv) (λw' hS=>by subst hS;exact ⟨_,C9 rfl rfl rfl rfl rfl (Bq (((d0.up P).up aw).up ax) CB rfl B2) (Bi ((cn.up aw).up ax) (KP _) rfl) (Bi (co.up ax) (Bw _) rfl) (Bi bv (Gs _) rfl),⟨Lx X.kind X.n [],Ci rfl,Dj.zero _ _ _ _ _⟩,(CN (CN (CN dv oO P) oO aw) oO ax)⟩);refine Ag (Ad (Bw _) rfl U rfl)<|WL.e<|Ay 0 rfl<|Ag (BA rfl g CB rfl B2)<|WL.e<|Ay 6 rfl<|Az rfl rfl g B2 rfl rfl (λhM e3 bw gU=>?_);refine WL.e<|Ay 7 rfl<|WL.st Lv rfl rfl rfl (i.up bw) oQ (λfi cq ay gV=>?_)
  have cq:AF fi f _ _:=cq;have ay:BF f _ _:=ay;refine WL.e<|Ay 8 rfl<|WL.st B5 rfl rfl rfl ((j.up bw).up ay) oQ (λfj cr az gW=>?_);have cr:AF fj b _ _:=cr;have az:BF b _ _:=az;refine WL.e<|Ay 9 rfl<|WL.st Gq rfl rfl rfl (((o.up bw).up ay).up az) oQ (λfk bx aA gX=>?_);have bx:AF fk d _ _:=bx;have aA:BF d _ _:=aA;refine WL.e<|C3 kR<|Ai ?_;exact Ek.ret KG (λw'=>_) (DF Q f b d _ bx) (λw' hS=>by subst hS;exact ⟨_,C9 rfl rfl rfl rfl rfl (Bq (((e3.up ay).up az).up aA) CB rfl B2) (Bi ((cq.up az).up aA) (KP _) rfl) (Bi (cr.up aA) (Bw _) rfl) (Bi bx (Gs _) rfl),⟨Lx X.kind X.n [],Ci rfl,Dj.zero _ _ _ _ _⟩,(CN (CN (CN (CN q oO bw) oO ay) oO az) oO aA)⟩);refine Ag (Ad (Bw _) rfl U rfl)<|WL.e<|E9 0 rfl 1 rfl ?_ ?_;refine Ag (BA rfl g CB rfl B2)<|WL.e<|E9 1 rfl 6 rfl ?_ ?_;refine Ag (Ad (KP _) rfl i rfl)<|WL.e<|Ay 6 rfl<|Az rfl rfl g B2 rfl rfl (λhN e4 bz gY=>?_);refine WL.e<|Ay 7 rfl<|WL.st Lv rfl rfl rfl (i.up bz) oQ (λfl ct aB gZ=>?_);have ct:AF fl f _ _:=ct;have aB:BF f _ _:=aB;refine WL.e<|Ay 8 rfl<|WL.st B5 rfl rfl rfl ((j.up bz).up aB) oQ (λfm cu aC g'=>?_);have cu:AF fm b _ _:=cu;have aC:BF b _ _:=aC;refine WL.e<|Ay 9 rfl<|WL.st Gq rfl rfl rfl (((o.up bz).up aB).up aC) oQ (λfn bA aD h3=>?_);have bA:AF fn d _ _:=bA;have aD:BF d _ _:=aD;refine WL.e<|C3 kR<|Ai ?_;exact Ek.ret KG (λw'=>_) (DF Q f b d _ bA) (λw' hS=>by subst hS;exact ⟨_,C9 rfl rfl rfl rfl rfl (Bq (((e4.up aB).up aC).up aD) CB rfl B2) (Bi ((ct.up aC).up aD) (KP _) rfl) (Bi (cu.up aD) (Bw _) rfl) (Bi bA (Gs _) rfl),⟨Lx X.kind X.n [],Ci rfl,Dj.zero _ _ _ _ _⟩,(CN (CN (CN (CN q oO bz) oO aB) oO aC) oO aD)⟩);refine Az rfl rfl g B2 rfl rfl (λhO e5 bB h4=>?_)
  have dw:=i.up bB;refine WL.e<|Ay 1 rfl<|Ag (Ad (KP _) rfl dw rfl)<|WL.e<|Ay 7 rfl<|WL.st Lv rfl rfl rfl dw oQ (λfo cv aE h5=>?_);have cv:AF fo f _ _:=cv;have aE:BF f _ _:=aE;refine WL.e<|Ay 8 rfl<|WL.st B5 rfl rfl rfl ((j.up bB).up aE) oQ (λfp cw aF h6=>?_);have cw:AF fp b _ _:=cw;have aF:BF b _ _:=aF;refine WL.e<|Ay 9 rfl<|WL.st Gq rfl rfl rfl (((o.up bB).up aE).up aF) oQ (λfq bC aG h7=>?_);have bC:AF fq d _ _:=bC;have aG:BF d _ _:=aG;refine WL.e<|C3 kR<|Ai ?_;exact Ek.ret KG (λw'=>_) (DF Q f b d _ bC) (λw' hS=>by subst hS;exact ⟨_,C9 rfl rfl rfl rfl rfl (Bq (((e5.up aE).up aF).up aG) CB rfl B2) (Bi ((cv.up aF).up aG) (KP _) rfl) (Bi (cw.up aG) (Bw _) rfl) (Bi bC (Gs _) rfl),⟨Lx X.kind X.n [],Ci rfl,Dj.zero _ _ _ _ _⟩,(CN (CN (CN (CN q oO bB) oO aE) oO aF) oO aG)⟩);refine Ag (Ad (KP _) rfl i rfl)<|WL.e<|Ay 0 rfl<|Ag (BA rfl g CB rfl B2)<|WL.e<|Ay 6 rfl<|Az rfl rfl g B2 rfl rfl (λhP e6 bD h8=>?_);refine WL.e<|Ay 7 rfl<|WL.st Lv rfl rfl rfl (i.up bD) oQ (λfr cy aH h9=>?_);have cy:AF fr f _ _:=cy;have aH:BF f _ _:=aH;refine WL.e<|Ay 8 rfl<|WL.st B5 rfl rfl rfl ((j.up bD).up aH) oQ (λfs cz aI ha=>?_);have cz:AF fs b _ _:=cz;have aI:BF b _ _:=aI;refine WL.e<|Ay 9 rfl<|WL.st Gq rfl rfl rfl (((o.up bD).up aH).up aI) oQ (λft bE aJ he=>?_);have bE:AF ft d _ _:=bE;have aJ:BF d _ _:=aJ;refine WL.e<|C3 kR<|Ai ?_;exact Ek.ret KG (λw'=>_) (DF Q f b d _ bE) (λw' hS=>by subst hS;exact ⟨_,C9 rfl rfl rfl rfl rfl (Bq (((e6.up aH).up aI).up aJ) CB rfl B2) (Bi ((cy.up aI).up aJ) (KP _) rfl) (Bi (cz.up aJ) (Bw _) rfl) (Bi bE (Gs _) rfl),⟨Lx X.kind X.n [],Ci rfl,Dj.zero _ _ _ _ _⟩,(CN (CN (CN (CN q oO bD) oO aH) oO aI) oO aJ)⟩)
end
section
abbrev RT {α:Type} (w:World) (res:Except Int α) (V:α->Value):Ending->World->Prop:=Cg 30 res V (λ_ w'=>Below w.heap.size w w') (λw'=>Below w.heap.size w w')
theorem KT (e:Int) (w:World):Calls Tryz.prog 81 #[.int .i64 e] w (RT w (Lq e) λ_=>.tuple #[]):=by
 refine W.e func81 rfl ntmps81 bL ?_
 have a:=EM (w.heap.size) w
 refine A4<|A2 rfl<|A0 (.neq rfl rfl)<|WL.e<|Ac rfl (λb=>?_) (λb=>?_)
 have c:=JY b
 refine Ak<|A0 (.mkI LJ rfl)<|Fo rfl (Aw ?_)
 exact Bn 22 (by unfold Lq;rw [A1 aS]) a
 have c:=JZ b
 refine W.k<|BJ (Bt rfl ?_)
 exact Cg.ok () (by unfold Lq;rw [A6 aS]) rfl a
theorem Dc (b:Bool) (w:World):Calls Tryz.prog 37 #[.bool b] w (RT w (CH b) λ_=>.tuple #[]):=by
 refine W.e func37 rfl ntmps37 bL ?_
 have a:=EM (w.heap.size) w
 refine A4<|A2 rfl<|A0 (.not rfl)<|WL.e<|Ac rfl (λc=>?_) (λc=>?_)
 refine Ak<|A0 (.mkI LJ rfl)<|Fo rfl (Aw ?_)
 exact Bn 22 (by unfold CH;rw [A1 (by simp_all)]) a
 refine W.k<|BJ (Bt rfl ?_)
 exact Cg.ok () (by unfold CH;rw [A6 (by simp_all)]) rfl a
theorem Nz (b:Bool) (w:World):Calls Tryz.prog 35 #[.bool b] w (RT w (H6 b) λ_=>.tuple #[]):=by
 refine W.e func35 rfl ntmps35 bL ?_
 have a:=EM (w.heap.size) w
 refine A4<|A2 rfl<|A0 (.not rfl)<|WL.e<|Ac rfl (λc=>?_) (λc=>?_)
 refine Ak<|A0 (.mkI LJ rfl)<|Fo rfl (Aw ?_)
 exact Bn 25 (by unfold H6;rw [A1 (by simp_all)]) a
 refine W.k<|BJ (Bt rfl ?_)
 exact Cg.ok () (by unfold H6;rw [A6 (by simp_all)]) rfl a
theorem Ax  {x:Except Int α} {f:α->Except Int β} {k:Int} (h:x=.error k):(x>>=f)=.error k:=by rw [h];rfl
theorem AG  {x:Except Int α} {f:α->Except Int β} {a:α} (h:x=.ok a):(x>>=f)=f a:=by rw [h];rfl
def Qo (e:Int):Except Int Unit:=do H6 (!decide (e=9));Lq e
theorem Ym (p:CP × Int):D6 p=(Qo p.2).map λ_=>p.1:=by
  unfold D6 Qo H6 Lq
  by_cases h0:p.2=0
  · rw [h0];rfl
  · by_cases h9 : p.2 = 9
    · rw [h9];rfl
    · rw [A1 h0, A1 h9, A6 (by simp [h9])]
      show _=Except.map _ (if p.2=0 then _ else _)
      rw [A1 h0];rfl
theorem Ix (e:Int) (w:World):Calls Tryz.prog 75 #[.int .i64 e] w (RT w (Qo e) λ_=>.tuple #[]):=by
 refine W.e func75 rfl ntmps75 bL ?_
 have a:=EM (w.heap.size) w
 refine A4<|A2 rfl<|A0 (.neq rfl rfl)<|Bk AN rfl rfl ((Nz _ _)) (λl m b c=>?_) (λs m b c=>?_)
 have i:=EZ a (Below.mono c a.size)
 exact Aw (Bn l (Ax b) i)
 have d:=DJ a c
 refine WL.e<|Ak<|A2 rfl<|Bk AN rfl rfl ((KT _ _)) (λo q f g=>?_) (λt q f g=>?_)
 have j:=EZ d (Below.mono g d.size)
 exact Aw (Bn o (by unfold Qo;rw [AG aS];exact f) j)
 have k:=DJ d g
 refine WL.e<|BJ (Bt rfl ?_)
 exact Cg.ok () (by unfold Qo;rw [AG aS];assumption) rfl k
theorem Mx {e:Int} {u:Unit} (h:Lq e=.ok u):e=0:=by
 unfold Lq at h;split at h
 · assumption
 · cases h
theorem LX  {e k:Int} {x:Except Int α} (h:Lq e=.error k):(if e=0 then x else .error 22)=.error k:=by
 unfold Lq at h;split at h
 · cases h
 · rename_i h0;rw [A1 h0];cases h;rfl
theorem Yb (a b:Int) (w:World):Calls Tryz.prog 110 #[.int .i64 a,.int .i64 b] w (RT w (IO a b) λn=>.int .i64 n):=by
 refine W.e func110 rfl ntmps110 bL ?_
 have i:=EM (w.heap.size) w
 refine A4<|A9 rfl<|A4<|A2 rfl<|A2 rfl<|WL.c1 AN rfl rfl ((YM a b _)) (λo j=>?_)
 have c:=DJ i j
 simp only [Ky]
 refine A2 rfl<|A0 (.ext rfl rfl)<|A0 (.ext rfl rfl)<|Dp rfl<|A9 rfl<|A4<|A2 rfl<|Bk AN rfl rfl ((KT _ _)) (λl m d f=>?_) (λq m d f=>?_)
 have g:=EZ c (Below.mono f c.size)
 exact Aw (Bn l (by unfold IO;exact LX d) g)
 have k:=DJ c f
 refine WL.e<|A4<|A2 rfl<|A9 rfl<|Ai (AZ rfl rfl ?_)
 exact Cg.ok _ (by unfold IO;rw [A6 (Mx aS)]) rfl k
end
section
section
variable {F:Fence} {P:Program} {n:Nat}
def A3Z (P:Program) (l:Nat) (R:Ending->World->Prop):Exit->Act->World->Prop
 | .normal,_,w=>∃ v w',(Instr.endRound l none).run P w=.ok v w'/\R (.returned v) w'
 | .panic c,a,w=>a.defers=[]/\R (.panicked c) w
 | _,_,_=>False
theorem OI {l:Nat} {f:FuncId} {tmps:Array Value} {assign body:Code} (hF:F.fn f) (hf:∃ fn,P.funcs[f]?=some fn)
  (h : assign.wpIn (F.inRound l) n P (Exit.then (fun a₁ w₁ => ∃ w₂, (Instr.beginRound l).run P w₁ = .ok () w₂ ∧ body.wpIn (F.inRound l) n P (A3Z P l R) a₁ w₂) (fun _ _ _ => False))
   { tmps:=tmps,defers:=[] } w) :
  RoundIn F n P l f tmps assign body w R:=by
 refine ⟨hF,λc cs hr=>?_⟩
 let b:Frame:={ (default:Frame) with fn:=f,kind:=.normal,roundOf:=some l }
 have hb0:Frame.round l f tmps assign body .normal=b.atR { tmps:=tmps,defers:=[] } [.code assign,.beginRound,.code body]:=by
  simp [Frame.round,Frame.atR,b]
 have hr':(F.inRound l).room ((c::cs).length+1+n):=hr
 have hF':(F.inRound l).fn b.fn:=hF
 obtain ⟨e,a₁,w₁,hq,a⟩:=h b [.beginRound,.code body] (c::cs) rfl hF' hr'
 rw [<- hb0] at a
 cases e with
 | normal =>
  obtain ⟨w₂,i,d⟩:=hq
  have j:StepsIn (Machine.fenced P (F.inRound l)) P (lone (b.atR a₁ [.beginRound,.code body]) (c::cs) w₁) (lone (b.atR a₁ [.code body]) (c::cs) w₂) :=
   .one (fenced_calm (fr:=b.atR a₁ [.beginRound,.code body]) hF' hr' rfl) (stepR_beginRound rfl i)
  obtain ⟨e₂,a₂,w₃,hq₂,harr₂⟩:=d b [] (c::cs) rfl hF' hr'
  cases e₂ with
  | normal =>
   obtain ⟨v,w₄,g,hR⟩:=hq₂
   exact ⟨.returned v,w₄,hR,(StepsIn.trans a j).trans (StepsIn.trans harr₂ (.one (fenced_calm (fr:=b.atR a₂ []) hF' hr' rfl) (stepR_round_end rfl rfl g)))⟩
  | panic chain =>
   obtain ⟨hd,hR⟩:=hq₂
   obtain ⟨todo,hs⟩:=harr₂
   have hl:({ b.atR a₂ todo with mode:=.panicking chain }:Frame).leaving P w₃ (.panicked chain):=⟨rfl,hd,hf⟩
   exact ⟨.panicked chain,w₃,hR,(StepsIn.trans a j).trans (StepsIn.trans hs (.one (fenced_leaving hF' hr' hl) (step_leave_panicked hl)))⟩
  | ret=>exact hq₂.elim
  | exit id=>exact hq₂.elim
  | goto t=>exact hq₂.elim
  | outgrown=>exact hq₂.elim
 | exit id=>exact hq.elim
 | goto t=>exact hq.elim
 | ret=>exact hq.elim
 | panic chain=>exact hq.elim
 | outgrown=>exact hq.elim
end
section
variable {P:Program} {n:Nat} {ops:Array Oper} {Q:Exit->Act->World->Prop}
theorem Sr  {l:Nat} {f:FuncId} {args:Array Value} (h:Calls P f args w R):CallsIn (Fence.wide.inRound l) m P f args w R :=
 callsIn_wide.2 h
theorem PY {l:Nat} {o:Oper} {a:Act} {next next':Act->World->Prop} (hd:∀ c,o.op≠.defer c) (hno:¬ LetsOut Q) (hn:∀ a w,next a w->next' a w)
  (h:o.wp P a w next Q\/(o.asks P a w/\LetsOut Q)):o.wpIn (Fence.wide.inRound l) n P a w next' Q:=by
 rcases h with h | ⟨-,h⟩
 ·
  refine ⟨λ_ _=>trivial,?_⟩
  rw [show (Fence.wide.inRound l).round=some l from rfl,Oper.semAt_eq _ _ _ hd]
  unfold Oper.wp at h
  cases hq:(execOp a.eval o).run P w with
  | ok r w' =>
   rw [hq] at h
   cases r with
   | value v=>exact hn _ _ h
   | skip=>exact hn _ _ h
   | defer d=>exact hn _ _ h
   | enter f args =>
    refine ⟨λhq=>(nomatch (show false=true from hq)),Sr (Calls.mono (P:=P) h λe w'' he=>?_)⟩
    cases e with
    | returned v=>exact hn _ _ he
    | panicked c=>exact he
    | outgrown=>exact he
   | row r args=>exact ⟨λhq=>(nomatch (show false=true from hq)),λc cs _=>by
     obtain ⟨v,w'',hr,hs⟩:=h c cs
     exact ⟨v,w'',hn _ _ hr,stepsIn_wide.2 hs⟩⟩
   | _=>exact h.elim
  | halt s w' =>
   rw [hq] at h
   cases s <;> first | exact h | exact h.elim
 · exact CM h hno
theorem LH {l:Nat} (hd:∀ o∈ops.toList,∀ c,o.op≠.defer c) (hno:¬ LetsOut Q):∀ (is:List Nat) (a:Act) (w:World),wpOps P ops Q is a w->wpOpsIn (Fence.wide.inRound l) n P ops Q is a w
 | [],a,w,h=>h
 | i::rest,a,w,h=>by
  have ih:=LH (l:=l) hd hno rest
  simp only [wpOps] at h
  simp only [wpOpsIn]
  cases ho:ops[i]? with
  | none=>rw [ho] at h;exact ih a w h
  | some o =>
   rw [ho] at h
   simp only at h ⊢
   have hm:o∈ops.toList:=by
    obtain ⟨hi,rfl⟩:=Bs.1 ho
    exact Array.getElem_mem_toList hi
   split at h
   ·
    rename_i hw
    rw [A6 hw]
    exact PY (hd o hm) hno ih h
   ·
    rename_i hw
    rw [A1 hw]
    exact ⟨λ_ _=>trivial,ih _ _ h⟩
theorem Nx  {l:Nat} {a:Act} (hm:P.follows .mixedOrders=true) (hd:∀ o∈ops.toList,∀ c,o.op≠.defer c) (hno:¬ LetsOut Q)
  (h:wpAny P .any ops Q ops.size (Array.replicate ops.size false) a { w with drawn:=w.drawn+1 }):(Code.region id ops true).wpIn (Fence.wide.inRound l) n P Q a w :=
 wpIn_region_draw λt=>by
  simp only [Region.schedule,hm,Bool.true_or,if_true]
  exact LH hd hno _ _ _ (wpAny_sound ops.size t _ a _ h)
theorem N1  {l:Nat} {a:Act} (hd:∀ o∈ops.toList,∀ c,o.op≠.defer c) (hno:¬ LetsOut Q)
  (h:wpOps P ops Q (List.range ops.size) a w):(Code.region id ops false).wpIn (Fence.wide.inRound l) n P Q a w :=
 wpIn_region (LH hd hno _ _ _ h)
end
end
section
section
variable {P:Program} {n:Sh} {f:Fr} {w:World} {POST:Exit->Act->World->Prop}
def NJ (fn:FuncId) (a:Act) (ps:Array Tmp) (assign body:Code) (D:Nat) (st:LoopState) (pe:Option Code):Loop:={ state:=st,pending:=pe,fn,tmps:=a.tmps,params:=ps,assign,body,defers:=D }
def UZ (fn:FuncId) (a:Act) (ps:Array Tmp) (assign body:Code) (w:World):World:=(w.alloc (.deferred (some []))).alloc (.loop (NJ fn a ps assign body w.heap.size .ready none))
theorem KQ {ops:Array Oper} {Q1 Q:Exit->Act->World->Prop} {rest:List Oper} {m:Nat} (hno:∀ a w,¬ Q1 .outgrown a w) (h1:∀ a w,Q1 .normal a w->wpListIn Fence.wide m P ops Q rest a w) (h2:∀ c a w,Q1 (.panic c) a w->Q (.panic c) a w) :
  ∀ (pre:List Oper) (a:Act) (w:World),(∀ o∈pre,∀ c,o.op≠.defer c)->wpList P ops Q1 pre a w->wpListIn Fence.wide m P ops Q (pre++rest) a w
 | [],a,w,_,h=>h1 a w h
 | o::pre,a,w,hd,h=>by
  have ih:=KQ hno h1 h2 pre
  simp only [wpList] at h
  rw [GR]
  simp only [wpListIn]
  have hd':∀ o∈pre,∀ c,o.op≠.defer c:=λx hx=>hd x (List.mem_cons_of_mem _ hx)
  split at h
  ·
   rename_i hw
   rw [A6 hw]
   rcases h with h | ⟨-,h⟩
   ·
    refine ⟨λ_ _=>trivial,?_⟩
    rw [show Fence.wide.round=none from rfl,Oper.semAt_none]
    unfold Oper.wp at h
    cases hq:(execOp a.eval o).run P w with
    | ok r w' =>
     rw [hq] at h
     cases r with
     | value v=>exact ih _ _ hd' h
     | skip=>exact ih _ _ hd' h
     | defer d=>exact ih _ _ hd' h
     | enter f args =>
      refine ⟨λhq=>(nomatch (show false=true from hq)),callsIn_wide.2 (Calls.mono (P:=P) h λe w'' he=>?_)⟩
      cases e with
      | returned v=>exact ih _ _ hd' he
      | panicked c=>exact h2 _ _ _ he
      | outgrown=>obtain ⟨a,w,hx⟩:=he;exact CM hx (hno a w)
     | row r args=>exact ⟨λhq=>(nomatch (show false=true from hq)),λc cs _=>by
       obtain ⟨v,w'',hr,hs⟩:=h c cs
       exact ⟨v,w'',ih _ _ hd' hr,stepsIn_wide.2 hs⟩⟩
     | _=>exact h.elim
    | halt s w' =>
     rw [hq] at h
     cases s <;> first | exact h2 _ _ _ h | exact h.elim
   · obtain ⟨a,w,hx⟩:=h;exact CM hx (hno a w)
  ·
   rename_i hw
   rw [A1 hw]
   exact ⟨λ_ _=>trivial,ih _ _ hd' h⟩
def YS (P:Program) (n:Sh) (ops:Array Oper) (Q:Exit->Fr->World->Prop) (d:Nat) (x y:Operand) (post:List Oper) (f:Fr) (w:World):Prop :=
 ∃ l v,D0 f x=some (.func (.yield l) #[] #[])/\D0 f y=some v/\YieldAt Fence.wide 0 P l #[v] w λe w'=>match e with
  | .returned r=>WL P n ops Q post ((d,r)::f) w'
  | .panicked c=>Q (.panic c) f w'
  | .outgrown=>False
def QY (K:Fr->World->Prop) (Q:Exit->Fr->World->Prop):Exit->Fr->World->Prop
 | .normal,f,w=>K f w
 | .panic c,f,w=>Q (.panic c) f w
 | _,_,_=>False
theorem Y3  {ty:Nat} {pre post:List Oper} {Q:Exit->Fr->World->Prop}
  (hops:ops.toList=pre++⟨some d,.call ⟨.value x,#[y],ats⟩,ty,pos,aft,none⟩::post) (hd:Nat.blt d n.n=true) (hno:∀ f w,¬ Q .outgrown f w) (hdp:∀ o∈pre,∀ c,o.op≠.defer c) (hdq:∀ o∈post,∀ c,o.op≠.defer c)
  (h:WL P n ops (QY (YS P n ops Q d x y post) Q) pre f w):W P n (.region id ops false) Q f w:=by
 unfold W
 intro a ha
 refine (wpIn_wide (n:=1)).1 (wpIn_region_list ?_)
 rw [hops]
 refine KQ (Q1:=GV n (QY (YS P n ops Q d x y post) Q)) (λa w ⟨f,_,hq⟩=>hq) ?_ ?_ pre a w hdp ((by unfold WL at h;exact h:∀ a,Lh n f a->wpList P ops (GV n (QY (YS P n ops Q d x y post) Q)) pre a w) a ha)
 ·
  rintro a w ⟨f,hf,l,v,hx,hy,fn,tm,as_,bd,b,hr⟩
  simp only [wpListIn]
  rw [A6 (by simp [Region.wanted])]
  refine ⟨λ_ _=>trivial,?_⟩
  have ex:(Oper.semAt Fence.wide.round a.eval ⟨some d,.call ⟨.value x,#[y],ats⟩,ty,pos,aft,none⟩).run P w=.ok (.round l fn tm as_ bd) w:=by
   rw [show Fence.wide.round=none from rfl,Oper.semAt_none]
   simp [execOp,resolve,invoke,hf.agr _ _ hx,hf.agr _ _ hy,b,Deferred.ofValue]
  rw [ex]
  refine ⟨λhq=>(nomatch (show false=true from hq)),hr.mono λe w' he=>?_⟩
  cases e with
  | returned r =>
   have:=KQ (P:=P) (ops:=ops) (m:=1) (Q1:=GV n Q) (Q:=GV n Q) (rest:=[]) (λa w ⟨f,_,hq⟩=>hno f w hq) (λ_ _ h=>h) (λ_ _ _ h=>h) post _ _ hdq ((by (have he:WL P n ops Q post ((d,r)::f) w':=he);(unfold WL at he);exact he:∀ a,Lh n ((d,r)::f) a->wpList P ops (GV n Q) post a w') _ (hf.put hd r))
   rwa [BK] at this
  | panicked c=>exact ⟨f,hf,he⟩
  | outgrown=>exact he.elim
 ·
  rintro c a w ⟨f,hf,hq⟩
  exact ⟨f,hf,hq⟩
def R1 (o:Oper):Bool:=match o.op with | .defer _=>false | _=>true
theorem A28 {l:List Oper} (h:l.all R1=true):∀ o∈l,∀ c,o.op≠.defer c:=λo ho c hc=>by
 have:=Au.1 h o ho
 unfold R1 at this
 rw [hc] at this
 cases this
theorem Wk (j:Nat) {ty:Nat} {Q:Exit->Fr->World->Prop} {l:List Oper}
  (hop:l[j]?=some ⟨some d,.call ⟨.value x,#[y],ats⟩,ty,pos,aft,none⟩) (hd:Nat.blt d n.n=true) (hno:∀ f w,¬ Q .outgrown f w) (hdp:(l.take j).all R1=true) (hdq:(l.drop (j+1)).all R1=true)
  (h:WL P n l.toArray (QY (YS P n l.toArray Q d x y (l.drop (j+1))) Q) (l.take j) f w):W P n (.region id l.toArray false) Q f w:=by
 obtain ⟨hj,ho⟩:=BR.1 hop
 refine Y3 (ty:=ty) (pos:=pos) (aft:=aft) (ats:=ats) (pre:=l.take j) (post:=l.drop (j+1)) ?_ hd hno (A28 hdp) (A28 hdq) h
 show l=_
 rw [<- ho,List.getElem_cons_drop,HG]
theorem Bx.slb3  {z u:Operand} {i j k:Int} (hu:P.underlying tx=some (.slice e)) (hs:∀ w,(sizeOf e).run P w=.ok 1 w) (hx:D0 f x=some (.slice p m c))
  (hi:D0 f y=some (.int .i64 i)) (hj:D0 f z=some (.int .i64 j)) (hk:D0 f u=some (.int .i64 k)) (a b:Nat) (ei:i=a) (ej:j=b) (ek:k=b) (hab:a<b) (hbc:b<=c) :
  Bx P (.slice tx x (some y) (some z) (some u)) f (.slice (p.map (·.add a)) (b-a) (b-a)):=λρ hρ d ty pos aft g w=>by
 subst ei;subst ej;subst ek
 have h1:a<=b:=by omega
 have l:¬ b=a:=by omega
 simp [execOp,Instr.sliceAt,Instr.slice,Instr.sliceBounds,run_sliceBound,hρ _ _ hx,hρ _ _ hi,hρ _ _ hj,hρ _ _ hk,B8 hu,hs,hbc,h1,l]
end
end
section
theorem A6m  {J:Nat->World->Prop} {Jp:List PanicEntry->World->Prop} (h:(∃ v,Ending.outgrown=.returned v/\J m w)\/∃ ch,Ending.outgrown=.panicked ch/\Jp ch w):False:=by
 rcases h with ⟨_,h,_⟩ | ⟨_,h,_⟩ <;> cases h
theorem XX (l bs_ bn:Nat) (p:Option Addr) (len c m:Nat) (J:Nat->World->Prop) (Jp:List PanicEntry->World->Prop) (w:World) (hlen:len=2 * m) (hc:len<=c) (hm:m<=1000000) (h0:J 0 w)
  (hJd:∀ k w1 w2,J k w1->CZ w1 w2->J k w2) (hJ:∀ k w1,J k w1->AF w1 bs_ #[.slice p len c] 39/\AF w1 bn #[.int .i64 2] 3)
  (hp:0<m->p≠none)
  (hY:∀ k w1,k<m->J k w1->YieldAt Fence.wide 0 Tryz.prog l #[.slice (p.map (·.add (2 * k))) (2 * (k+1)-2 * k) (2 * (k+1)-2 * k)] w1 λe w2=>(e=.returned (.bool true)/\J (k+1) w2)\/∃ ch,e=.panicked ch/\Jp ch w2) :
  Calls Tryz.prog 145 #[.func (.yield l) #[] #[],.pointer (some ⟨bs_,0,none⟩),.pointer (some ⟨bn,0,none⟩)] w λe w'=>(∃ v,e=.returned v/\J m w')\/∃ ch,e=.panicked ch/\Jp ch w':=by
 have hb0:=hJ 0 w h0
 refine W.e func145 rfl ntmps145 bL ?_
 refine A4<|A9 rfl<|W.b<|Cj (α:=Nat) (λt=>[(0,.func (.yield l) #[] #[]),(1,.pointer (some ⟨bs_,0,none⟩)),(2,.pointer (some ⟨bn,0,none⟩)),(4,.int .i64 ((2 * t:Nat):Int))]) (λt w'=>J t w'/\t<=m) (λt=>m-t) (0) ⟨rfl,rfl,rfl,rfl,tT⟩ (⟨h0,Gg _⟩) (λt w1 hR=>?_)
 obtain ⟨i,rfl⟩:∃ i,i=t:=⟨t,rfl⟩
 obtain ⟨hj,hi⟩:=hR
 have d:=hJ i w1 hj
 have a:=d.1
 have q:=d.2
 refine Ah<|A4<|A2 rfl<|Ag (Ad (KH _) rfl a rfl)<|A0 (.lenS Dh rfl)<|A0 (.lss rfl rfl)<|WL.e<|Ac rfl (λj=>?_) (λj=>?_)
 ·
  have s:=dT j;refine W.k<|Ah<|W.b<|Ah<|E2 C7 kR<|Di (λm=>Ad (Bw _) rfl q rfl) rfl<|Di (λm=>Ad (KH _) rfl a rfl) rfl<|At (.mv rfl) rfl<|At (.slbF Dh B5 rfl rfl  _ rfl oO) rfl<|At (.lenS Dh rfl) rfl<|At (.min2 rfl rfl) rfl<|At (.as rfl) rfl<|Da (λw2 f=>?_);have u:=a.drew f;refine Ah<|Wk 10 rfl rfl (λ_ _ h=>by (simp only [nx,inb,Jn] at h);exact A6m h) rfl rfl<|A2 rfl<|Ag (Ad (KH _) rfl u rfl)<|A2 rfl<|A2 rfl<|A2 rfl<|A0 (.add rfl rfl (Bp oO))<|A2 rfl<|A2 rfl<|A0 (.add rfl rfl (Bp oO))<|A0 (.slb3 Dh B5 rfl rfl rfl rfl (2 * i) (2 * (i+1)) oO oO oO oO oO)<|WL.e<|?_;have hy:=hY i _ oO (hJd _ _ _ hj f);refine ⟨l,_,rfl,rfl,?_⟩;obtain ⟨A,B,C,D,E,F⟩:=hy;refine ⟨A,B,C,D,E,F.mono ?_⟩;refine λe wy hh=>?_
  rcases hh with ⟨rfl,g⟩ | ⟨ch,rfl,x⟩
  rotate_left
  · simp only [nx,inb,Jn];exact (Or.inr ⟨ch,rfl,x⟩:(∃ v,Ending.panicked ch=.returned v/\J m wy)\/∃ c2,Ending.panicked ch=.panicked c2/\Jp c2 wy)
  have hb2:=hJ _ _ g;refine A0 (.not rfl)<|WL.e<|Ac rfl (λo=>?_) (λo=>?_)
  ·
   have y:=(nT o)
   contradiction
  have y:=(nF o);refine W.k<|Ak<|A2 rfl<|Ag (Ad (Bw _) rfl hb2.2 rfl)<|A0 (.iis (((2 * (i+1):Nat):Int)) (.add rfl rfl (Bp oO)) oO)<|A9 rfl ?_;exact ⟨i+1,⟨rfl,rfl,rfl,rfl,tT⟩,⟨g,by omega⟩,by omega⟩
 have s:=dF j
 refine C0<|BJ (Bt rfl ?_)
 exact .inl ⟨_,rfl,(show i=m by omega)▸hj⟩
end
section
def Ww:Fe M6:=⟨6,LF,by decide,λ_=>rfl,λx u hu=>Au.1 (show (LF x).all Value.oneCell'=true from rfl) u hu⟩
structure Zc where
 ctm:M6
 fill:C6
 stroke:C6
 pen:Dz
 clips:Value
 font:Int
 size:Int
def stV (s:Zc):List Value:=LF s.ctm++(DI s.fill++(DI s.stroke++(El s.pen++[s.clips,.int .i64 s.font,.int .i64 s.size])))
structure PW where
 s:Zc
 fonts:Value
 saved:Value
 path:Nat
 clip:Int
 inText:Bool
 lost:Bool
 text:M6
 line:M6
 args:Value
 items:Value
def Fh (h:PW):List Value:=stV h.s++([h.fonts,h.saved,.pointer (some ⟨h.path,0,none⟩),.int .i64 h.clip,.bool h.inText,.bool h.lost]++(LF h.text++(LF h.line++[h.args,h.items])))
theorem FA (a b:M6) (w:World):Calls Tryz.prog 72 #[.agg (LF a).toArray,.agg (LF b).toArray] w (RT w (LB a b) λm=>.agg (LF m).toArray):=by
 obtain ⟨r,hr⟩:∃ r,r=D8 a b:=⟨_,rfl⟩
 unfold LB
 rw [<- hr]
 refine W.e func72 rfl ntmps72 bL ?_
 have F:=EM (w.heap.size) w
 refine A4<|CU rfl rfl (λb1 ao G q N ah=>?_)
 have H:=uB F G N
 have ab:=Cq G F.size
 refine CU rfl rfl (λb3 ap s t u ai=>?_)
 have a6:=Bg s q.lt
 have J:=q.un u a6
 have K:=uB H s u
 have ac:=Cq s H.size
 refine BV PF rfl (λb7 aq j P g aj=>?_)
 have a7:=Bg j J.lt
 have L:=J.un g a7
 have Q:=Bg j t.lt
 have v:=t.un g Q
 have T:=uB K j g
 have ad:=Cq j K.size
 refine WL.e<|A4<|Ag (BA rfl L DU rfl CJ)<|Ag (BA rfl v DU rfl CJ)<|WL.c1 AN rfl rfl ((Ra a b _)) (λar f=>?_)
 have U:=L.bl f
 have V:=v.bl f
 have x:=P.bl f
 have y:=DJ T f
 rw [<- hr]
 simp only [m6R]
 refine A2 rfl<|A0 (.ext rfl rfl)<|A0 (.ext rfl rfl)<|BV PF rfl (λau ak c B k ae=>?_)
 have am:=Bg c U.lt
 have an:=Bg c V.lt
 have X:=Bg c x.lt
 have Y:=x.un k X
 have a0:=uB y c k
 have a8:=Cq c y.size
 refine Az rfl rfl B CJ rfl rfl (λav C l af=>?_)
 have a1:=Y.up l
 have i:=CN a0 oO l
 refine A9 rfl<|A4<|A2 rfl<|Bk AN rfl rfl ((KT _ _)) (λa9 aa o d=>?_) (λaw aa o d=>?_)
 have A:=EZ i (Below.mono d i.size)
 exact Aw (Bn a9 (LX o) A)
 have a2:=a1.bl d
 have a3:=C.bl d
 have a4:=DJ i d
 refine WL.e<|A4<|Ag (BA rfl a3 DU rfl CJ)<|Az rfl rfl a2 CJ rfl rfl (λax D E ag=>?_)
 have a5:=CN a4 oO E
 refine WL.e<|Ai (C4 rfl rfl (Bq D DU rfl CJ)  ?_)
 exact Cg.ok _ (by rw [A6 (Mx aS)]) rfl a5
theorem A0X (bv:Nat) (H:PW) (x y:Int) (w:World) (h:AF w bv (Fh H).toArray 74) :
  Calls Tryz.prog 108 #[.pointer (some ⟨bv,0,none⟩),.int .i64 x,.int .i64 y] w (RT w (Nl H.s.ctm x y) λp=>.agg (DH p).toArray):=by
 obtain ⟨r,hr⟩:∃ r,r=FY H.s.ctm x y:=⟨_,rfl⟩
 unfold Nl
 rw [<- hr]
 refine W.e func108 rfl ntmps108 bL ?_
 have t:=EM (w.heap.size) w
 refine A4<|BV LG rfl (λb1 a6 g B i a3=>?_)
 have Q:=Bg g h.lt
 have u:=h.un i Q
 have T:=uB t g i
 have Y:=Cq g t.size
 refine WL.e<|A4<|A2 rfl<|A0 (.nck rfl)<|A0 (.fa BL rfl Ey dD rfl)<|A0 (.fa Fb rfl IK dD rfl)<|Ag (Ck (L:=Ww) DU rfl CJ u (H.s.ctm) (rfl) rfl)<|A2 rfl<|A2 rfl<|?_
 refine A0 (.buildL (ps:=_) Ol rfl rfl rfl pS) ?_
 refine WL.c1 AN rfl rfl ((Tb H.s.ctm x y _)) (λw5 j=>?_)
 have U:=u.bl j
 have v:=B.bl j
 have A:=DJ T j
 rw [<- hr]
 simp only [ptR]
 refine A2 rfl<|A0 (.ext rfl rfl)<|A0 (.ext rfl rfl)<|BV LG rfl (λb9 a7 c C k a4=>?_)
 have a5:=Bg c U.lt
 have D:=Bg c v.lt
 have E:=v.un k D
 have F:=uB A c k
 have a0:=Cq c A.size
 refine Az rfl rfl C Ca rfl rfl (λa8 m d a1=>?_)
 have G:=E.up d
 have b:=CN F oO d
 refine A9 rfl<|A4<|A2 rfl<|Bk AN rfl rfl ((KT _ _)) (λV X f a=>?_) (λa9 X f a=>?_)
 have l:=EZ b (Below.mono a b.size)
 exact Aw (Bn V (LX f) l)
 have J:=G.bl a
 have K:=m.bl a
 have N:=DJ b a
 refine WL.e<|A4<|Ag (BA rfl K CS rfl Ca)<|Az rfl rfl J Ca rfl rfl (λaa o q a2=>?_)
 have P:=CN N oO q
 refine WL.e<|Ai (C4 rfl rfl (Bq o CS rfl Ca)  ?_)
 exact Cg.ok _ (by rw [A6 (Mx aS)]) rfl P
end
section
section
variable {P:Program} {n:Sh} {f:Fr}
theorem A6Y  {Q:Exit->Fr->World->Prop} {rest:List Oper} {ty:Nat} {t:TypeId} {kl kc:IntKind} (j:Nat)
  (ht:P.underlying t=some (.slice e)) (hi:(P.info? e).map (λi=>(i.zero,i.size,i.bytes))=some (some z,1,by')) (hby2:Nat.ble by' 1000=true)
  (hx:D0 f x=some (.int kl 0)) (hy:D0 f y=some (.int kc j)) (hj:j<=100000) (hd:Nat.blt d n.n=true)
  (k:∀ w1,Cc e w.heap.size w1 (.slice (some ⟨w.heap.size,0,none⟩) 0 j) ([]:List Value)->Below w.heap.size w w1->WL P n ops Q rest ((d,.slice (some ⟨w.heap.size,0,none⟩) 0 j)::f) w1) :
  WL P n ops Q (⟨some d,.makeSlice t x y,ty,pos,aft,none⟩::rest) f w:=by
 cases hh:P.info? e with
 | none=>rw [hh] at hi;cases hi
 | some i =>
  rw [hh] at hi;simp only [Option.map_some,Bm,CQ] at hi;obtain ⟨c,a,g⟩:=hi;have b:i.bytes<=1000:=by rw [g];simpa using hby2
  have hb1:i.bytes * j<=1000 * j:=Cm _ b;obtain ⟨w',l,m,o⟩:=run_make_own (P:=P) (w:=w) w.heap.size t e i z 1 ht hh c a kl kc j oO (by unfold maxLen;omega) (FL _);refine WL.run hd (λρ hρ=>?_) (k w' m ((EM _ _).grown o (FL _) λk hk=>by cases hk));unfold execOp;simp [hρ _ _ hx,hρ _ _ hy,l]
end
theorem A0u (n:Int) (w:World):Calls Tryz.prog 112 #[.int .i64 n] w λe w'=>e=.returned (.tuple #[.int .i64 (Ic n).1,.int .i64 (Ic n).2])/\w=w':=by
 refine W.e func112 rfl ntmps112 bL ?_
 refine A4<|Dp rfl<|A9 rfl<|Ah<|A4<|A2 rfl<|A0 (.lss rfl rfl)<|A2 rfl<|B1 rfl rfl rfl (λa=>?_) (λa=>?_)
 have c:=dF a
 refine A2 rfl<|As a<|A0 (.gtr rfl rfl)<|A0 (.pkF rfl a rfl)<|WL.e<|Ac rfl (λb=>?_) (λb=>?_)
 have d:=dT b
 refine A4<|Dp rfl<|A9 rfl<|Ai (Ex rfl rfl rfl ?_)
 first
 | exact ⟨rvE (by rw [show Ic n=(n * 65536,0) from A1 oO]),rfl⟩
 | exact ⟨rvE (by rw [show Ic n=(0,11) from A6 oO]),rfl⟩
 have d:=dF b
 refine W.k<|A4<|A2 rfl<|A0 (.mul rfl rfl (Bp oO))<|Dp rfl<|A9 rfl<|Ai (Ex rfl rfl rfl ?_)
 first
 | exact ⟨rvE (by rw [show Ic n=(n * 65536,0) from A1 oO]),rfl⟩
 | exact ⟨rvE (by rw [show Ic n=(0,11) from A6 oO]),rfl⟩
 have c:=dT a
 refine Aa a<|A0 (.pkT rfl a rfl)<|WL.e<|DR rfl rfl<|A4<|Dp rfl<|A9 rfl<|Ai (Ex rfl rfl rfl ?_)
 first
 | exact ⟨rvE (by rw [show Ic n=(n * 65536,0) from A1 oO]),rfl⟩
 | exact ⟨rvE (by rw [show Ic n=(0,11) from A6 oO]),rfl⟩
def GM (k n:Int):Int × Bool:=if k=3 then (n,Ao n) else if k=2 then ((Ic n).1,decide ((Ic n).2=0)) else (0,false)
theorem OS (o:PV):GM (N9 o) (Wv o)=Ep o:=rfl
theorem JV (x:PC) (w:World):Calls Tryz.prog 84 #[.agg (pcV x).toArray] w λe w'=>e=.returned (.tuple #[.int .i64 (GM x.kind x.n).1,.bool (GM x.kind x.n).2])/\Below w.heap.size w w':=by
 obtain ⟨k,n,t,kp,kl,kc,lp,ll,lc⟩:=x
 simp only [pcV]
 refine W.e func84 rfl ntmps84 bL ?_
 have f:=EM (w.heap.size) w
 refine A4<|CU rfl rfl (λo q g a j E=>?_)
 have d:=uB f g j
 have D:=Cq g f.size
 refine Dp rfl<|A9 rfl<|Ah<|A4<|A0 (.fa CB rfl B5 dD rfl)<|Ag (Ad (Bw _) rfl a rfl)<|WL.e<|W.b<|A4<|A0 (.eql rfl rfl)<|A9 rfl<|Ac rfl (λl=>?_) (λl=>?_)
 have s:=dT l
 refine Ah<|Dr 7 rfl C7 (λw'=>w'.heap[o]?=q.heap[o]?/\True) (λF i=>?_)
 have u:=a.drew i
 have v:=CZ.below d i
 have c:=Dm (u.trans a.symm) BG
 refine Af 0 rfl (.fa CB rfl B5 dD rfl) c rfl ?_
 refine BY 1 rfl (λw' hw'=>Ad (Bw _) rfl ((hw'.1).trans a) rfl) c rfl ?_
 refine Af 2 rfl (.fa CB rfl B5 dD rfl) c rfl ?_
 refine BY 3 rfl (λw' hw'=>Ad (Bw _) rfl ((hw'.1).trans a) rfl) c rfl ?_
 refine An 4 rfl<|WL.c1 AN rfl rfl ((IV _ _)) (λG y=>?_)
 obtain rfl:=y
 refine WL.e<|⟨c,?_⟩
 refine Af 5 rfl (.as rfl) c rfl ?_
 refine Af 6 rfl (.as rfl) c rfl ?_
 refine Bd kR<|Ai (Ex rfl rfl rfl ?_)
 exact ⟨D1 (by unfold GM;rw [A6 aS];(first | done | rfl)),v⟩
 have s:=dF l
 refine A4<|A0 (.eql rfl rfl)<|A9 rfl<|Ac rfl (λm=>?_) (λm=>?_)
 have B:=dT m
 refine A4<|A0 (.fa CB rfl B5 dD rfl)<|Ag (Ad (Bw _) rfl a rfl)<|WL.c1 AN rfl rfl ((A0u _ _)) (λH C=>?_)
 obtain rfl:=C
 refine A2 rfl<|A0 (.ext rfl rfl)<|A0 (.ext rfl rfl)<|Dp rfl<|A9 rfl<|A4<|A2 rfl<|A2 rfl<|A0 (.eql rfl rfl)<|Dp rfl<|A9 rfl<|Ai (Ex rfl rfl rfl ?_)
 exact ⟨D1 (by unfold GM;rw [A1 aS,A6 aS];(first | done | rfl)),d⟩
 have B:=dF m
 refine W.k<|A4<|Dp rfl<|A9 rfl<|Ai (Ex rfl rfl rfl ?_)
 exact ⟨D1 (by unfold GM;rw [A1 aS,A1 aS];(first | done | rfl)),d⟩
theorem DX {b:Bool} {u:Unit} (h:CH b=.ok u):b=true:=by
 unfold CH at h;split at h
 · assumption
 · cases h
theorem Db {b:Bool} {k:Int} (h:CH b=.error k):b=false/\k=22:=by
 unfold CH at h;split at h
 · cases h
 · rename_i hb;cases h;exact ⟨by simpa using hb,rfl⟩
theorem A0O  {C:Nat} {l:List Value} (h:Cc e B w v l) (hC:C<=B):Cc e C w v l:=by
 rcases h with ⟨hl,h⟩
 refine ⟨hl,?_⟩
 rcases h with h | ⟨g,cap,cur,a,b,c⟩
 · exact .inl h
 · exact .inr ⟨g,cap,cur,a,AW hC b,c⟩
theorem Cc.ltV  (h:Cc e B w v xs):∀ g,v.ownBlock=some g->B<=g/\g<w.heap.size:=λg hg=>by
 rcases h with ⟨hl,h⟩
 rcases h with ⟨rfl,-⟩ | ⟨g1,cap,cur,rfl,h2,h3,-⟩
 · cases hg
 ·
  cases hg
  exact ⟨h2,(Bs.1 h3).1⟩
theorem Cc.upd  {r:Nat} (h:Cc e B w v xs) (hu:BF r w w1) (hr:∀ g,v.ownBlock=some g->g≠r):Cc e B w1 v xs:=by
 rcases h with ⟨hl,h⟩
 refine ⟨hl,?_⟩
 rcases h with h | ⟨a,cap,cur,rfl,b,c,d⟩
 · exact .inl h
 · exact .inr ⟨a,cap,cur,rfl,b,(hu.other a (hr a rfl)).trans c,d⟩
def R0 (cs:List PC) (n:Nat):Except Int (List Int):=if cs.length=n/\cs.all (λx=>(GM x.kind x.n).2)=true then .ok (cs.map λx=>(GM x.kind x.n).1) else .error 22
theorem Wz (bv n:Nat) (H:PW) (p:Option Addr) (cs:List PC) (c:Nat) (w:World) (h:AF w bv (Fh H).toArray 74) (ha:H.args=.slice p cs.length c) (hr:Be Nb w p cs) (hn:n<=100) (hl:cs.length<=100) :
  Calls Tryz.prog 54 #[.pointer (some ⟨bv,0,none⟩),.int .i64 (n:Int)] w (Hk 30 (R0 cs n) (λl v w'=>Below w.heap.size w w'/\AD RV 3 w.heap.size w' v l) (λw'=>Below w.heap.size w w')):=by
 obtain ⟨s,fo,sa,pa,cl,it,lo,te,li,ar,its⟩:=H
 simp only at ha
 subst ha
 have ae:=hr.lt
 refine W.e func54 rfl ntmps54 bL ?_
 have N:=EM (w.heap.size) w
 refine A4<|A9 rfl<|A4<|A2 rfl<|A0 (.nck rfl)<|A0 (.fa BL rfl EO dD rfl)<|Ag (Ad (GN _) rfl h rfl)<|A0 (.lenS EY rfl)<|A2 rfl<|A0 (.eql rfl rfl)<|Bk AN rfl rfl ((Dc _ _)) (λk3 w1 F f=>?_) (λa2 w1 F f=>?_)
 have a0:=EZ N (Below.mono f N.size)
 obtain ⟨f,rfl⟩:=Db F
 exact Aw (Dq 22 (by unfold R0;rw [A1 (λhc=>by simp only [Aq] at f;exact f oO)]) a0)
 have ab:=h.bl f
 have ac:=I8 hr f (λa=>hr.lt a)
 have ad:=DJ N f
 have aD:cs.length=n:=by (have:=DX F);simp only [Ab] at this;omega
 refine WL.e<|A4<|A2 rfl<|?_
 have a1:=ad.size
 refine A6Y (n) Dh VL rfl rfl rfl oO rfl (λw7 af B=>?_)
 have aE:=ab.below B ab.lt
 have aF:=I8 ac B (λa=>ac.lt a)
 have ag:=DJ ad B
 have aN:=B.size
 refine A9 rfl<|Ah<|A4<|A2 rfl<|A0 (.nck rfl)<|A0 (.fa BL rfl EO dD rfl)<|Ag (Ad (GN _) rfl aE rfl)<|A0 (.lenS EY rfl)<|A2 rfl<|WL.e<|W.b<|Cj (α:=Value × Nat) (λt=>[(0,.pointer (some ⟨bv,0,none⟩)),(5,t.1),(23,.slice p cs.length c),(24,.int .i64 (cs.length:Int)),(25,.int .i64 (t.2:Int))]) (λt w'=>Below w.heap.size w w'/\Be Nb w' p cs/\Cc 3 w.heap.size w' t.1 (((cs.take t.2).map λx=>(GM x.kind x.n).1).map DW)/\t.2<=cs.length/\∀ j (h:j<cs.length),j<t.2->(GM cs[j].kind cs[j].n).2=true) (λt=>cs.length-t.2) ((_,0)) ⟨rfl,rfl,rfl,rfl,rfl,tT⟩ (⟨ag,aF,A0O af a1,Gg _,λj _ h=>CM h oO⟩) (λt w1 hR=>?_)
 obtain ⟨⟨sv,i⟩,aG⟩:∃ i,i=t:=⟨t,rfl⟩
 subst aG
 obtain ⟨q1,q2,q3,q4,q5⟩:=hR
 simp only at q3 q4 q5
 have ah:w.heap.size<=w1.heap.size:=q1.size
 have ai:=Cc.ltV q3
 refine A4<|A0 (.lss rfl rfl)<|WL.e<|Ah<|Ac rfl (λP=>?_) (λP=>?_)
 have aj:=dT P
 refine W.k<|Ah<|W.b<|A4<|A0 (.ixm EY Il rfl rfl (q2.isp oC) (i) (rfl) oO)<|Ag (DP CB rfl B2 q2 (i) oC rfl)<|BV Jg rfl (λaW aT C a3 m aO=>?_)
 have a4:=AW ah m.size
 have ak:=Cc.new q3 C m
 have J:=λa=>C▸q2.lt a
 have am:=Be.upd q2 m (λa=>Js (J a))
 have an:=uB q1 C m
 have aH:=Cq C q1.size
 refine Az rfl rfl a3 B2 rfl rfl (λaX K o aP=>?_)
 have a5:=AW a4 o.size
 have ao:=Cc.upd ak o ((λg hg e=>by have:=(ai g hg).2;omega))
 have Q:=Be.upd am o (λa=>Js (J a))
 have ap:=CN an oO o
 refine WL.e<|A4<|Ag (BA rfl K CB rfl B2)<|WL.c1 AN rfl rfl ((JV cs[i] _)) (λaY u=>?_)
 have a6:=AW a5 u.size
 have aq:=Cc.below ao u
 have au:=K.bl u
 have T:=I8 Q u (λa=>Q.lt a)
 have G:=DJ ap u
 refine A2 rfl<|A0 (.ext rfl rfl)<|A0 (.ext rfl rfl)<|Dp rfl<|A9 rfl<|A4<|A2 rfl<|Bk AN rfl rfl ((Dc _ _)) (λaZ aI D d=>?_) (λa' aI D d=>?_)
 have U:=EZ G (Below.mono d G.size)
 obtain ⟨aJ,rfl⟩:=Db D
 exact Aw (Dq 22 (by unfold R0;rw [A1 (λhc=>by have:=Au.1 hc.2 _ (AJ (by omega:i<cs.length));rw [aJ] at this;cases this)]) U)
 have a7:=AW a6 d.size
 have av:=Cc.below aq d
 have aw:=au.bl d
 have V:=I8 T d (λa=>T.lt a)
 have X:=DJ G d
 have aK:=DX D
 refine WL.e<|Ak<|A2 rfl<|A2 rfl<|Ct (ps:=_) Dh B5 PG rfl rfl rfl rfl rfl pR rfl (λb0 aU y a8 q aQ=>?_)
 have L:=AW a7 q.size
 have ax:=Cc.new av y q
 have aV:=Bg y aw.lt
 have a9:=λa=>y▸V.lt a
 have ay:=Be.upd V q (λa=>Js (a9 a))
 have az:=uB X y q
 have aL:=Cq y X.size
 refine ED Dh VL rfl rfl rfl ax rfl a8 rfl (by rw [BD,BD,AT];omega) (L) rfl (λb1 b2 aa E aR=>?_)
 have aA:=I8 ay E ae
 have aB:=EZ az (E.mono (FL _))
 have aS:=AW L E.size
 refine A9 rfl<|Ak<|A0 (.iis (((i+1:Nat):Int)) (.add rfl rfl (Bp oO)) oO)<|A2 rfl<|WL.e<|?_
 exact ⟨(_,i+1),⟨rfl,rfl,rfl,rfl,rfl,tT⟩,⟨aB,aA,by rw [B7 oO,BC,BC];exact aa,by ((try simp only) <;> omega),λj h hj=>by
  rcases Cb.1 hj with h2 | rfl;exact q5 j h h2;exact aK⟩,by ((try simp only) <;> omega)⟩
 have aj:=dF P
 refine C0<|A4<|A2 rfl<|A9 rfl<|Ai (AZ rfl rfl ?_)
 have aC:i=cs.length:=by omega
 subst aC
 have aM:R0 cs n=.ok (cs.map λx=>(GM x.kind x.n).1):=by
  unfold R0;rw [A6 ⟨aD,Au.2 λx hx=>by
   obtain ⟨j,hj,rfl⟩:=List.mem_iff_getElem.1 hx;exact q5 j hj hj⟩]
 have Y:=q3
 rw [AR (FL _)] at Y
 exact GD _ _ aM rfl ⟨q1,AD.ofI Y⟩
end
section
structure Df (F F1:Nat->Prop) (w w1:World):Prop where
 os:w1.os=w.os
 tape:w1.tape=w.tape
 output:w1.output=w.output
 size:w.heap.size<=w1.heap.size
 block:∀ k,k<w.heap.size->¬ F k->w1.heap[k]?=w.heap[k]?
 new:∀ g,F1 g->F g\/w.heap.size<=g
theorem Df.refl (F:Nat->Prop) (w:World):Df F F w w:=⟨rfl,rfl,rfl,FL _,λ_ _ _=>rfl,λ_ h=>.inl h⟩
theorem Df.of_below {F:Nat->Prop} (h:Below w.heap.size w w1):Df F F w w1:=⟨h.os,h.tape,h.output,h.size,λk hk _=>h.block k hk,λ_ h=>.inl h⟩
theorem Df.trans {F F1 F2:Nat->Prop} {a b c:World} (h:Df F F1 a b) (k:Df F1 F2 b c):Df F F2 a c :=
 ⟨k.os.trans h.os,k.tape.trans h.tape,k.output.trans h.output,AW h.size k.size,
  λi hi hn=>(k.block i (CE hi h.size) λhf=>by rcases h.new i hf with h1 | h1 <;> first | exact hn h1 | omega).trans (h.block i hi hn),
  λg hg=>by
   rcases k.new g hg with h1 | h1
   · exact h.new g h1
   · exact .inr (AW h.size h1)⟩
abbrev PU:=@Df.trans
theorem Df.below  {F:Nat->Prop} (h:Df F F1 w w1) (hB:B<=w.heap.size) (hF:∀ g,F g->B<=g):Below B w w1 :=
 ⟨h.os,h.tape,h.output,h.size,λk hk=>h.block k (CE hk hB) λhf=>by have:=hF k hf;omega⟩
theorem Cn  {F:Nat->Prop} {S:List Nat} (h:AB w.heap.size S w w1) (hS:∀ g∈S,F g\/w.heap.size<=g) (hn:∀ g,F1 g->F g\/w.heap.size<=g):Df F F1 w w1 :=
 ⟨h.os,h.tape,h.output,h.size,λk hk hf=>h.block k hk λhm=>by rcases hS k hm with h1 | h1 <;> first | exact hf h1 | omega,hn⟩
theorem Df.drew  {F:Nat->Prop} (h:Df F F1 w w1) (d:CZ w1 w2):Df F F1 w w2:=by obtain ⟨m,rfl⟩:=d;exact ⟨h.os,h.tape,h.output,h.size,h.block,h.new⟩
theorem Cd  {F:Nat->Prop} (h:Df F F1 w w1) (hb:Below w1.heap.size w1 w2):Df F F1 w w2:=h.trans (.of_below hb)
theorem Df.upd  {F:Nat->Prop} (h:Df F F1 w w1) (hu:BF c w1 w2) (hc:w.heap.size<=c):Df F F1 w w2 :=
 ⟨hu.os.trans h.os,hu.tape.trans h.tape,hu.output.trans h.output,AW h.size hu.size,λk hk hn=>(hu.other k oO).trans (h.block k hk hn),h.new⟩
theorem Df.nf  {F:Nat->Prop} (h:Df F F1 w w1) (hn:¬ F c) (hl:c<w.heap.size):¬ F1 c:=λhc=>(h.new c hc).elim hn (λhg=>by omega)
theorem AF.chg  {F:Nat->Prop} {cs:Array Value} {t:TypeId} (h:AF w c cs t) (hC:Df F F1 w w1) (hn:¬ F c):AF w1 c cs t:=(hC.block c h.lt hn).trans h
theorem Av.chg  {F:Nat->Prop} {l:l8_} (h:Av w p l) (hC:Df F F1 w w1) (hn:0<l.length->¬ F (pA p).block):Av w1 p l :=
 ⟨h.isp,λj hj=>by rw [World.cell?_of_block (w:=w) (by rw [Fg];exact hC.block _ (h.lt oO) (hn oO))];exact h.cells j hj⟩
end
section
theorem Vu  {L:Fe α} {L':Fe β} {e':TypeId} {B':Nat} {l:List α} {l':List β} (h:AD L e B w v l) (h':AD L' e' B' w v' l') (he:e≠e'):∀ g,v.ownBlock=some g->v'.ownBlock≠some g:=λg hg hg'=>by
 rcases h with ⟨rfl,-⟩ | ⟨g1,cap,cur,rfl,-,h1,-⟩
 · cases hg
 ·
  rcases h' with ⟨rfl,-⟩ | ⟨g2,cap',cur',rfl,-,h2,-⟩
  · cases hg'
  ·
   cases hg;cases hg'
   rw [h1] at h2
   simp only [Bm,Obj.cells.injEq] at h2
   exact he h2.2.1
def Mv (Z Z1:Nat->Prop) (w w1:World):Prop:=w.heap.size<=w1.heap.size/\∀ g,Z g->w1.heap[g]?=w.heap[g]?/\Z1 g
def E3 (c:Nat) (F:Nat->Prop) (w:World) (g:Nat):Prop:=g<w.heap.size/\¬ F g/\g≠c
structure PZ where
 fs:List LE
 c:Nat
section
variable {Z Z1:Nat->Prop} {w w1:World}
theorem E3.mv  {F:Nat->Prop} (h:Df F F1 w w1):Mv (E3 c F w) (E3 c F1 w1) w w1:=⟨h.size,λg hg=>⟨h.block g hg.1 hg.2.1,CE hg.1 h.size,h.nf hg.2.1 hg.1,hg.2.2⟩⟩
structure CC {α:Type} (L:Fe α) (Z:Nat->Prop) (w:World) (p:Option Addr) (l:List α) (c:Nat):Prop where
 row:Be L w p l
 sl:KM p l c
 inn:0<l.length->Z (pA p).block
theorem CC.mv  {L:Fe α} {l:List α} (h:CC L Z w p l c) (m:Mv Z Z1 w w1):CC L Z1 w1 p l c:=⟨h.row.same λh0=>(m.2 _ (h.inn h0)).1,h.sl,λh0=>(m.2 _ (h.inn h0)).2⟩
theorem CC.nil  (L:Fe α) (Z:Nat->Prop) (w:World):CC L Z w none [] 0:=⟨Be.nil w,KM.z,λh=>CM h (by simp)⟩
theorem CC.own  {L:Fe α} {l:List α} (h:AD L e B w v l) (hz:∀ g,v.ownBlock=some g->Z g):∃ p c,v=.slice p l.length c/\CC L Z w p l c:=by
 obtain ⟨p,c,rfl,hr,hb,hc,hn,ho,hm,hx⟩:=h.row
 refine ⟨p,c,rfl,hr,⟨hc,hm,hn,λhp=>?_⟩,λa=>hz _ (by rw [ho,hr.isp a];rfl)⟩
 subst hp
 have hl:l=[]:=by
  cases l with
  | nil=>rfl
  | cons x r=>have:=hr.isp (by simp);cases this
 exact ⟨hl,(hn hl).resolve_right (by simp)⟩
structure Sx (Z:Nat->Prop) (w:World) (p:Option Addr) (l:l8_) (c:Nat):Prop where
 row:Av w p l
 sl:KM p l c
 inn:0<l.length->Z (pA p).block
theorem Sx.mv  {l:l8_} (h:Sx Z w p l c) (m:Mv Z Z1 w w1):Sx Z1 w1 p l c :=
 ⟨⟨h.row.isp,λj hj=>by rw [World.cell?_of_block (w:=w) (by rw [Fg];exact (m.2 _ (h.inn oO)).1)];exact h.row.cells j hj⟩,h.sl,λh0=>(m.2 _ (h.inn h0)).2⟩
theorem Sx.nil (Z:Nat->Prop) (w:World):Sx Z w none [] 0:=⟨⟨λh=>CM h (by simp),λj h=>CM h (by simp)⟩,KM.z,λh=>CM h (by simp)⟩
abbrev Me (Z:Nat->Prop) (w:World) (x:Bv):Prop:=CC Fq Z w x.pfPath x.fPath x.cfPath
abbrev Y7 (Z:Nat->Prop) (w:World) (x:Dz):Prop:=CC RV Z w x.pfDash x.fDash x.cfDash
structure MZ (Z:Nat->Prop) (w:World) (x:AQ):Prop where
 path:CC Fq Z w x.pfPath x.fPath x.cfPath
 clips:CC Gk Z w x.pfClips x.fClips x.cfClips
 all:∀ y∈x.fClips,Me Z w y
 pen:Y7 Z w x.fPen
 bytes:Sx Z w x.pfBytes x.fBytes x.cfBytes
theorem MZ.mv {x:AQ} (h:MZ Z w x) (m:Mv Z Z1 w w1):MZ Z1 w1 x:=⟨h.path.mv m,h.clips.mv m,λy hy=>(h.all y hy).mv m,h.pen.mv m,h.bytes.mv m⟩
structure Wm (Z:Nat->Prop) (w:World) (h:Zc) (s:RP):Prop where
 ctm:h.ctm=s.ctm
 fill:h.fill=s.fill
 stroke:h.stroke=s.stroke
 pen:Fy h.pen=s.pen
 penr:Y7 Z w h.pen
 clips:∃ p c l,h.clips=.slice p l.length c/\CC Gk Z w p l c/\(∀ y∈l,Me Z w y)/\l.map Fn=s.clips
 font:h.font=s.font
 size:h.size=s.size
theorem Wm.mv {h:Zc} {s:RP} (q:Wm Z w h s) (m:Mv Z Z1 w w1):Wm Z1 w1 h s:=by
 obtain ⟨p,c,l,a,b,d,e⟩:=q.clips
 exact ⟨q.ctm,q.fill,q.stroke,q.pen,q.penr.mv m,⟨p,c,l,a,b.mv m,λy hy=>(d y hy).mv m,e⟩,q.font,q.size⟩
def SvR (Z:Nat->Prop) (w:World) (hs:List Zc) (ss:List RP):Prop:=hs.length=ss.length/\∀ i (h1:i<hs.length) (h2:i<ss.length),Wm Z w hs[i] ss[i]
theorem SvR.mv {hs:List Zc} {ss:List RP} (q:SvR Z w hs ss) (m:Mv Z Z1 w w1):SvR Z1 w1 hs ss:=⟨q.1,λi h1 h2=>(q.2 i h1 h2).mv m⟩
def Y9 (Z:Nat->Prop) (w:World) (cs:List PC) (args:List PV):Prop:=cs.length=args.length/\∀ i (h1:i<cs.length) (h2:i<args.length),Dj w Z cs[i] args[i]
theorem Dj.mv {x:PC} {o:PV} (h:Dj w Z x o) (m:Mv Z Z1 w w1):Dj w1 Z1 x o :=
 (h.same λk hk _=>(m.2 k hk).1).mono λk hk _=>(m.2 k hk).2
theorem Y9.mv {cs:List PC} {args:List PV} (q:Y9 Z w cs args) (m:Mv Z Z1 w w1):Y9 Z1 w1 cs args:=⟨q.1,λi h1 h2=>(q.2 i h1 h2).mv m⟩
theorem Y9.nil (Z:Nat->Prop) (w:World):Y9 Z w [] []:=⟨rfl,λi h=>CM h (by simp)⟩
end
def ftV (x:LE):List Value:=[.string (bs x.name),.int .i64 x.font]
def ftL:Fe LE:=⟨2,ftV,by decide,λ_=>rfl,λx u hu=>Au.1 (show (ftV x).all Value.oneCell'=true from rfl) u hu⟩
structure Ux where
 ctm:M6
 fill:C6
 stroke:C6
 pen:Dz
 pc:Option Addr
 nc:Nat
 cc:Nat
 font:Int
 size:Int
def Ux.h (s:Ux):Zc:=⟨s.ctm,s.fill,s.stroke,s.pen,.slice s.pc s.nc s.cc,s.font,s.size⟩
def stY:Fe Ux:=⟨25,λs=>stV s.h,by decide,λ_=>rfl,λx u hu=>Au.1 (show (stV x.h).all Value.oneCell'=true from rfl) u hu⟩
theorem Wm.cells  {h:Zc} {s:RP} (q:Wm Z w h s):∃ c:Ux,h=c.h:=by
 obtain ⟨p,c,l,a,-⟩:=q.clips
 exact ⟨⟨h.ctm,h.fill,h.stroke,h.pen,p,l.length,c,h.font,h.size⟩,by cases h;simp only at a;subst a;rfl⟩
structure Zb (B:Nat) (w:World) (bv:Nat) (H:PW) (vp:Value) (V:Vw) (its:List AQ) (hs:List Ux) (cs:List PC):Prop where
 blk:AF w bv (Fh H).toArray 74
 pth:CG B w H.path 4096 V.path vp
 oi:AD Ls 44 B w H.items its
 os:AD stY 68 B w H.saved hs.reverse
 oa:AD Nb 99 B w H.args cs
 lbv:B<=bv
 lbp:B<=H.path
structure Za (Z:Nat->Prop) (w:World) (H:PW) (fs:PZ) (V:Vw) (args:List PV) (its:List AQ) (hs:List Ux) (cs:List PC):Prop where
 st:Wm Z w H.s V.s
 sv:SvR Z w (hs.map Ux.h) V.saved
 it:its.map Jd=V.items
 itr:∀ x∈its,MZ Z w x
 ar:Y9 Z w cs args
 clip:H.clip=V.clip
 inText:H.inText=V.inText
 lost:H.lost=V.lost
 text:H.text=V.text
 line:H.line=V.line
 fonts:∃ p c,H.fonts=.slice p fs.fs.length c/\CC ftL Z w p fs.fs c
 cx:fs.c<w.heap.size
theorem Za.mv  {Z1:Nat->Prop} {H:PW} {fs:PZ} {V:Vw} {args:List PV} {its:List AQ} {hs:List Ux} {cs:List PC} (q:Za Z w H fs V args its hs cs) (m:Mv Z Z1 w w1):Za Z1 w1 H fs V args its hs cs:=by
 obtain ⟨p,c,a,b⟩:=q.fonts
 exact ⟨q.st.mv m,q.sv.mv m,q.it,λx hx=>(q.itr x hx).mv m,q.ar.mv m,q.clip,q.inText,q.lost,q.text,q.line,⟨p,c,a,b.mv m⟩,CE q.cx m.1⟩
def Gm (bv:Nat) (H:PW) (vp:Value) (g:Nat):Prop:=g=bv\/g=H.path\/vp.ownBlock=some g\/H.items.ownBlock=some g\/H.saved.ownBlock=some g\/H.args.ownBlock=some g
structure FO (B:Nat) (fs:PZ) (w:World) (bv:Nat) (F:Nat->Prop) (V:Vw) (args:List PV):Prop where
 mem:∃ H vp its hs cs,F=Gm bv H vp/\Zb B w bv H vp V its hs cs/\Za (E3 fs.c F w) w H fs V args its hs cs
theorem Zb.inn  {H:PW} {V:Vw} {its:List AQ} {hs:List Ux} {cs:List PC} (h:Zb B w bv H vp V its hs cs):∀ g,Gm bv H vp g->B<=g/\g<w.heap.size:=by
 rintro g (rfl | rfl | hg | hg | hg | hg)
 · exact ⟨h.lbv,h.blk.lt⟩
 · exact ⟨h.lbp,h.pth.blk.lt⟩
 · exact h.pth.own.lt g hg
 · exact h.oi.lt g hg
 · exact h.os.lt g hg
 · exact h.oa.lt g hg
theorem Zb.same  {H:PW} {V:Vw} {its:List AQ} {hs:List Ux} {cs:List PC} (h:Zb B w bv H vp V its hs cs) (hs':w.heap.size<=w1.heap.size) (hb:∀ g,Gm bv H vp g->w1.heap[g]?=w.heap[g]?):Zb B w1 bv H vp V its hs cs :=
 ⟨(hb _ (.inl rfl)).trans h.blk,⟨(hb _ (.inr (.inl rfl))).trans h.pth.blk,h.pth.own.same λg hg=>hb g (.inr (.inr (.inl hg))),h.pth.len,AW h.pth.base hs'⟩,
  h.oi.same λg hg=>hb g (.inr (.inr (.inr (.inl hg)))),h.os.same λg hg=>hb g (.inr (.inr (.inr (.inr (.inl hg))))),h.oa.same λg hg=>hb g (.inr (.inr (.inr (.inr (.inr hg))))),h.lbv,h.lbp⟩
section
variable {B:Nat} {fs:PZ} {w w1:World} {bv:Nat} {F F1:Nat->Prop} {V:Vw} {args:List PV}
theorem FO.lt (h:FO B fs w bv F V args):∀ g,F g->B<=g/\g<w.heap.size:=by
 obtain ⟨H,vp,its,hs,cs,rfl,hO,-⟩:=h.mem
 exact hO.inn
theorem FO.same (h:FO B fs w bv F V args) (hb:Below w.heap.size w w1):FO B fs w1 bv F V args:=by
 obtain ⟨H,vp,its,hs,cs,e,hO,hR⟩:=h.mem
 subst e
 exact ⟨H,vp,its,hs,cs,rfl,hO.same hb.size λg hg=>hb.block g (hO.inn g hg).2,hR.mv ⟨hb.size,λg hg=>⟨hb.block g hg.1,CE hg.1 hb.size,hg.2⟩⟩⟩
def Hy (N:Nat) (B:Nat) (fs:PZ) (w:World) (bv:Nat) (F:Nat->Prop) (V:Vw) (args:List PV):Prop :=
 ∃ w0:World,w0.heap.size=N/\FO B fs w0 bv F V args/\∀ k,k<N->w.heap[k]?=w0.heap[k]?
theorem Hy.same {N:Nat} (h:Hy N B fs w bv F V args) (hb:∀ k,k<N->k<w.heap.size->w1.heap[k]?=w.heap[k]?):Hy N B fs w1 bv F V args:=by
 obtain ⟨e,b,f,c⟩:=h
 refine ⟨e,b,f,λk hk=>(hb k hk ?_).trans (c k hk)⟩
 rcases BU k w.heap.size with a | a
 · exact a
 ·
  have d:=c k hk
  rw [Dw a,Gb (b▸hk)] at d
  cases d
abbrev JP:=@Hy.same
theorem Hy.of (h:FO B fs w bv F V args):Hy w.heap.size B fs w bv F V args:=⟨w,rfl,h,λ_ _=>rfl⟩
theorem Hy.get  (h:Hy N B fs w bv F V args):FO B fs w bv F V args:=by
 obtain ⟨a,rfl,j,d⟩:=h
 obtain ⟨H,vp,its,hs,cs,e,hO,hR⟩:=j.mem
 subst e
 have b:∀ k,k<a.heap.size->k<w.heap.size:=λk hk=>by
  rcases BU k w.heap.size with f | f
  · exact f
  ·
   have i:=d k hk
   rw [Dw f,Gb hk] at i
   cases i
 have c:a.heap.size<=w.heap.size:=by
  rcases Ho a.heap.size with l | l
  · omega
  · have:=b (a.heap.size-1) oO;omega
 exact ⟨H,vp,its,hs,cs,rfl,hO.same c λg hg=>d g (hO.inn g hg).2,hR.mv ⟨c,λg hg=>⟨d g hg.1,b g hg.1,hg.2⟩⟩⟩
end
end
section
theorem Bx.mkFv  {F:FuncId} {xs:List Operand} (hx:Rw f xs=some vs):Bx P (.makeFunc (.func F) #[] xs.toArray) f (.func (.func F) #[] vs.toArray):=λρ hρ d ty pos aft g w=>by
 have e:=K4 hρ _ _ hx
 have hargs:xs.toArray.map ρ=vs.toArray:=by simp [e]
 unfold execOp
 simp only [hargs,List.map_toArray,DT]
 rfl
theorem A0b (p:Option Addr) (n c:Nat) (w:World) :
  Calls Tryz.prog 107 #[.slice p n c,.int .i64 2] w λe w'=>∃ x:Nat × Nat,e=.returned (.func (.func 145) #[] #[.pointer (some ⟨x.1,0,none⟩),.pointer (some ⟨x.2,0,none⟩)])/\Below w.heap.size w w'/\AF w' x.1 #[.slice p n c] 39/\AF w' x.2 #[.int .i64 2] 3/\w.heap.size<=x.1/\w.heap.size<=x.2:=by
 refine W.e func107 rfl ntmps107 bL ?_
 have g:=EM (w.heap.size) w
 refine A4<|CU rfl rfl (λm B i a l y=>?_)
 have j:=uB g i l
 have u:=Cq i g.size
 refine CU rfl rfl (λo C b d f A=>?_)
 have q:=Bg b a.lt
 have s:=a.un f q
 have t:=uB j b f
 have v:=Cq b j.size
 refine A9 rfl<|Ah<|A4<|Ag (Ad (Bw _) rfl d rfl)<|A0 (.bis (false) (.lss rfl rfl) dD)<|WL.e<|DS rfl rfl<|W.k<|A4<|A0 (.mkFv rfl)<|A9 rfl<|Ai (AZ rfl rfl ?_)
 exact ⟨(m,o),rfl,t,s,d,by show w.heap.size<=m;omega,by show w.heap.size<=o;omega⟩
end
section
theorem OY (m:M6):∀ (k:Nat) (a b:List Int),a.length=2 * k->Dy m (a++b)=(Dy m a>>=λq=>Dy m b>>=λr=>.ok (q++r))
 | 0,a,b,h=>by
  obtain rfl:=Cz (by omega:a.length=0)
  show Dy m b=(Dy m b>>=λr=>.ok ([]++r))
  cases Dy m b <;> rfl
 | k+1,[],b,h=>by simp at h
 | k+1,[x],b,h=>by simp at h;omega
 | k+1,x::y::a,b,h=>by
  have ih:=OY m k a b (by simp at h;omega)
  show (Nl m x y>>=λp=>Dy m (a++b)>>=λq=>pure (p::q))=((Nl m x y>>=λp=>Dy m a>>=λq=>pure (p::q))>>=λq=>Dy m b>>=λr=>.ok (q++r))
  rw [ih]
  cases Nl m x y with
  | error e=>rfl
  | ok p =>
   cases Dy m a with
   | error e=>rfl
   | ok q =>
    show ((Dy m b>>=λr=>.ok (q++r))>>=λq=>pure (p::q))=(Dy m b>>=λr=>.ok (p::q++r))
    cases Dy m b <;> rfl
theorem A0d (m:M6) (x y:Int):Dy m [x,y]=(Nl m x y).map λp=>[p]:=by
 show (Nl m x y>>=λp=>Dy m []>>=λq=>pure (p::q))=_
 cases Nl m x y <;> rfl
theorem A1h {l:List Int} {k:Nat} (h:2 * k+1<l.length):l.take (2 * (k+1))=l.take (2 * k)++[l[2 * k],l[2 * k+1]]:=by
 rw [show 2 * (k+1)=2 * k+1+1 by omega,B7 oO,B7 oO,AE];rfl
theorem Ri {m:M6} {l:List Int} {k:Nat} {q:List BQ} (h:2 * k+1<l.length) (hq:Dy m (l.take (2 * k))=.ok q):Dy m (l.take (2 * (k+1)))=(Nl m l[2 * k] l[2 * k+1]).map λp=>q++[p]:=by
 rw [A1h h,OY m k _ _ (by rw [AT];omega),hq,A0d]
 cases Nl m l[2 * k] l[2 * k+1] <;> rfl
theorem A0e {m:M6} {l:List Int} {k:Nat} {q:List BQ} {e:Int} (h:2 * k+1<l.length) (hq:Dy m (l.take (2 * k))=.ok q) (he:Nl m l[2 * k] l[2 * k+1]=.error e):Dy m l=.error e:=by
 have a:l=l.take (2 * (k+1))++l.drop (2 * (k+1)):=(HG _ _).symm
 rw [a,OY m (k+1) _ _ (by rw [AT];omega),Ri h hq,he];rfl
end
section
def wpF (P:Program) (fid:FuncId) (c:Code) (Q:Exit->Act->World->Prop) (a:Act) (w:World):Prop :=
 ∀ (b:Frame) (k:List Item) (cs:List Frame),b.roundOf=none->b.fn=fid ->
  ∃ e a' w',Q e a' w'/\ArrivesIn (Machine.fenced P Fence.wide) P (lone (b.atR a (.code c::k)) cs w) b k cs e a' w'
section
variable {P:Program} {fid:FuncId} {Q:Exit->Act->World->Prop} {a:Act} {w:World}
theorem A0U {c:Code} (h:c.wp P Q a w):wpF P fid c Q a w:=λb k cs hro _=>(wpIn_wide (n:=1)).2 h b k cs hro trivial (room_wide _)
def A7e (P:Program) (fid:FuncId) (y:Code) (Q:Exit->Act->World->Prop):Exit->Act->World->Prop
 | .normal,a,w=>wpF P fid y Q a w
 | .ret,_,_=>False
 | .exit _,_,_=>False
 | .goto _,_,_=>False
 | e,a,w=>Q e a w
theorem Ya {x y:Code} (h:wpF P fid x (A7e P fid y Q) a w):wpF P fid (.seq x y) Q a w:=by
 intro b k cs d hb
 obtain ⟨e,a₁,w₁,hq,c⟩:=h b (.code y::k) cs d hb
 have f:StepsIn (Machine.fenced P Fence.wide) P (lone (b.atR a (.code (.seq x y)::k)) cs w) (lone (b.atR a (.code x::.code y::k)) cs w) :=
  .one (fenced_wide _ _) (by rw [Frame.atR_of_none d,Frame.atR_of_none d];exact step_seq)
 cases e with
 | normal =>
  obtain ⟨e₂,a₂,w₂,hq₂,harr₂⟩:=hq b k cs d hb
  exact ⟨e₂,a₂,w₂,hq₂,.of_steps (StepsIn.trans f c) harr₂⟩
 | panic ch =>
  obtain ⟨todo,hs⟩:=c
  exact ⟨.panic ch,a₁,w₁,hq,todo,StepsIn.trans f hs⟩
 | outgrown=>exact ⟨.outgrown,a₁,w₁,hq,ArrivesIn.of_steps (e:=.outgrown) f c⟩
 | exit id=>exact hq.elim
 | goto l=>exact hq.elim
 | ret=>exact hq.elim
theorem Zd {g:Operand} {ps:Array Tmp} {assign body:Code} {gf:Nat} {lb:Array Value} (hg:a.eval g=.func (.func gf) #[] lb) (eg:∀ args w,(callFunc gf args).run P w=.ok (.enter gf args) w)
  (h : Calls P gf (#[.func (.yield (w.heap.size + 1)) #[] #[]] ++ lb) (UZ fid a ps assign body w) (fun
   | .returned _,w3=>∃ w4,(Instr.endLoop (w.heap.size+1)).run P w3=.ok none w4/\Q .normal { a with defers:={ target:=.collected w.heap.size,args:=#[] }::a.defers } w4
   | .panicked c,w3=>Q (.panic c) { a with defers:={ target:=.collected w.heap.size,args:=#[] }::a.defers } w3
   | .outgrown,_=>False)) :
  wpF P fid (.rangeFunc g ps assign body) Q a w:=by
 intro b k cs o hb
 have he:(Instr.enterLoop b.fn a.tmps ps assign body b.roundOf).run P w=.ok (w.heap.size+1,[{ target:=.collected w.heap.size,args:=#[] }]) (UZ fid a ps assign body w):=by
  rw [o,hb];exact run_enterLoop_outer _ _ _ _ _
 have j:(resolve a.eval (rangeCall g (w.heap.size+1)) 0).run P (UZ fid a ps assign body w)=.ok { target:=.fn (.func gf) lb,args:=#[.func (.yield (w.heap.size+1)) #[] #[]] } (UZ fid a ps assign body w):=by
  simp only [resolve,hg]
  simp [go_sem]
 have l:(invoke (.fn (.func gf) lb) #[.func (.yield (w.heap.size+1)) #[] #[]]).run P (UZ fid a ps assign body w)=.ok (.enter gf (#[.func (.yield (w.heap.size+1)) #[] #[]]++lb)) (UZ fid a ps assign body w):=by
  simp [invoke,go_sem,eg]
 have d:=stepR_rangeFunc (P:=P) (b:=b) (a:=a) (k:=k) (cs:=cs) (w:=w) he j l
 obtain ⟨e,w₃,fr,hR,f,q,i⟩:=h (b.atR { a with defers:=[{ target:=.collected w.heap.size,args:=#[] }]++a.defers } (.inRangeFunc (w.heap.size+1)::k)::cs)
 cases e with
 | outgrown=>exact hR.elim
 | returned v =>
  obtain ⟨w₄,m,hq⟩:=hR
  refine ⟨.normal,_,w₄,hq,?_⟩
  refine .head (fenced_wide _ _) d (StepsIn.trans (stepsIn_wide.2 f) (.head (fenced_wide _ _) ?_ (.one (fenced_wide _ _) (stepR_endRangeFunc m))))
  rw [<- finish_atR_inRangeFunc _ v];exact step_leave_returned i
 | panicked chain =>
  refine ⟨.panic chain,_,w₃,hR,.inRangeFunc (w.heap.size+1)::k,.head (fenced_wide _ _) d (StepsIn.trans (stepsIn_wide.2 f) (.one (fenced_wide _ _) ?_))⟩
  rw [<- Frame.raise_atR];exact step_leave_panicked i
def A6f (Q:Exit->Act->World->Prop):Exit->Act->World->Prop
 | .normal,a,w=>Q .normal a w
 | .panic c,a,w=>Q (.panic c) a w
 | _,_,_=>False
theorem Ze  {c:Code} (h:wpF P fid c (A6f Q) a w):wpF P fid (.block id c) Q a w:=by
 intro b k cs d hb
 obtain ⟨e,a₁,w₁,hq,f⟩:=h b (.inBlock id::k) cs d hb
 have g:StepsIn (Machine.fenced P Fence.wide) P (lone (b.atR a (.code (.block id c)::k)) cs w) (lone (b.atR a (.code c::.inBlock id::k)) cs w) :=
  .one (fenced_wide _ _) (by rw [Frame.atR_of_none d,Frame.atR_of_none d];exact step_block)
 cases e with
 | normal=>exact ⟨.normal,a₁,w₁,hq,StepsIn.trans g (StepsIn.trans f (.one (fenced_wide _ _) (by rw [Frame.atR_of_none d,Frame.atR_of_none d];exact step_inBlock)))⟩
 | panic ch =>
  obtain ⟨todo,hs⟩:=f
  exact ⟨.panic ch,a₁,w₁,hq,todo,StepsIn.trans g hs⟩
 | outgrown=>exact hq.elim
 | exit id=>exact hq.elim
 | goto l=>exact hq.elim
 | ret=>exact hq.elim
def QF (n:Sh) (K:Fr->World->Prop) (POST:Exit->Act->World->Prop):Exit->Fr->World->Prop
 | .normal,f,w=>K f w
 | .panic c,f,w=>∀ a,Lh n f a->POST (.panic c) a w
 | _,_,_=>False
theorem Ow {n:Sh} {c1 c2:Code} (h:W P n c1 (QF n (λf w=>∀ a,Lh n f a->wpF P fid c2 Q a w) Q) f w):∀ a,Lh n f a->wpF P fid (.seq c1 c2) Q a w:=by
 intro a ha
 unfold W at h
 refine Ya (A0U (wp_mono (h a ha) ?_))
 rintro e a w ⟨g,hg,hq⟩
 cases e with
 | normal=>exact hq a hg
 | panic c=>exact hq a hg
 | _=>exact hq.elim
theorem Us {fn:Func} {c:Code} {args:Array Value} (hf:P.funcs[fid]?=some fn) (hb:fn.body=some c) {k:Nat} (hn:fn.ntmps=k) (hl:args.size<=k)
  (h:∀ a,Lh ⟨k,[]⟩ (L0 0 args.toList) a->wpF P fid c (bodyPostM Fence.wide 1 P fn R) a w):Calls P fid args w R:=by
 refine (callsIn_wide (n:=1)).1 ⟨trivial,λcs hr=>?_⟩
 let b:Frame:={ (default:Frame) with fn:=fid,kind:=.normal,roundOf:=none }
 have m:Lh ⟨k,[]⟩ (L0 0 args.toList) { tmps:=args++Array.replicate (fn.ntmps-args.size) undef,defers:=[] }:=by
  refine ⟨rfl,by simp [hn];omega,?_⟩
  intro i v hv
  obtain ⟨j,e,hj⟩:=JW _ _ _ _ hv
  obtain rfl:i=j:=by omega
  have o:i<args.size:=by
   rcases BU i args.size with h | h
   · exact h
   · rw [AK (by simpa using h)] at hj;cases hj
  rw [DN] at hj
  rw [B0,Array.getElem?_append_left o,hj];rfl
 have g:Frame.enter P fid args .normal=b.atR { tmps:=args++Array.replicate (fn.ntmps-args.size) undef,defers:=[] } [.code c]:=by
  simp [Frame.enter,Frame.atR,hf,hb,b]
 obtain ⟨e,a',w',hq,d⟩:=h _ m b [] cs rfl rfl
 rw [<- g] at d
 cases e with
 | normal =>
  obtain ⟨e',w'',fr',hR,hs,f,hl⟩:=leaves_stepsInM (n:=1) a'.defers .returning w' { b.atR a' [] with mode:=.returning } cs rfl rfl rfl hf rfl trivial hr hq
  exact ⟨e',w'',fr',hR,ComesIn.of_steps (StepsIn.trans d (.one (fenced_wide _ _) (stepR_end rfl))) hs,f,hl⟩
 | ret =>
  obtain ⟨todo,hs₀⟩:=d.1 rfl
  obtain ⟨e',w'',fr',hR,hs,f,hl⟩:=leaves_stepsInM (n:=1) a'.defers .returning w' { b.atR a' todo with mode:=.returning } cs rfl rfl rfl hf rfl trivial hr hq
  exact ⟨e',w'',fr',hR,ComesIn.of_steps hs₀ hs,f,hl⟩
 | panic chain =>
  obtain ⟨todo,hs₀⟩:=d
  obtain ⟨e',w'',fr',hR,hs,f,hl⟩:=leaves_stepsInM (n:=1) a'.defers (.panicking chain) w' { b.atR a' todo with mode:=.panicking chain } cs rfl rfl rfl hf rfl trivial hr hq
  exact ⟨e',w'',fr',hR,ComesIn.of_steps hs₀ hs,f,hl⟩
 | exit id=>exact hq.elim
 | goto l=>exact hq.elim
 | outgrown=>exact ⟨.outgrown,w',b,hq,d.resolve_left (by simp [b]),rfl,tT⟩
end
end
section
section
variable {P:Program} {n:Sh} {f:Fr} {w:World} {Q:Exit->Fr->World->Prop} {m lo:Nat}
theorem A29 {l:List Oper} (h:l.all R1=true):∀ o∈l.toArray.toList,∀ c,o.op≠.defer c:=by
 rw [List.toList_toArray];exact A28 h
theorem YB (hno:∀ f w,¬ Q .outgrown f w):¬ LetsOut (GV n Q):=λ⟨_,_,f,_,hq⟩=>hno f _ hq
theorem A3l  {l:List Oper} (hd:l.all R1=true) (hno:∀ f w,¬ Q .outgrown f w) (h:WL P n l.toArray Q l f w) :
  ∀ a,Lh n f a->(Code.region id l.toArray false).wpIn (Fence.wide.inRound lo) m P (GV n Q) a w:=λa ha =>
 N1 (A29 hd) (YB hno) (by
  unfold WL at h
  have h1:=h a ha
  rw [List.range_eq_range',<- Array.length_toList,wpOps_eq_wpList l.toArray.toList 0 (by simp),List.toList_toArray]
  exact h1)
theorem A3m  {l:List Oper} (hN:l.length=N) (hm:P.follows .mixedOrders=true) (S:World->Prop) (hd:l.all R1=true) (hno:∀ f w,¬ Q .outgrown f w)
  (h:∀ w1,CZ w w1->WH P n l.toArray Q S N (Array.replicate N false) f w1):∀ a,Lh n f a->(Code.region id l.toArray true).wpIn (Fence.wide.inRound lo) m P (GV n Q) a w:=λa ha =>
 Nx hm (A29 hd) (YB hno) (wpAny_of_held (S:=S) _ _ _ _ (by
  subst hN
  have h1:=h (w.drewN 1) ⟨1,rfl⟩
  unfold WH at h1
  have:=h1 a ha
  rw [show l.toArray.size=l.length by simp]
  exact this))
end
end
section
section
variable {P:Program} {fid:FuncId} {f:Fr} {a:Act} {w:World} {n D L:Nat} {Ds:List Deferred} {t:Nat} {v:Value} {assign body:Code} {R:Ending->World->Prop}
def QR (P:Program) (L:Nat) (R:Ending->World->Prop):Exit->Fr->World->Prop
 | .normal,_,w=>∃ v w',(Instr.endRound L none).run P w=.ok v w'/\R (.returned v) w'
 | .panic c,_,w=>R (.panicked c) w
 | _,_,_=>False
def QS (K:Fr->World->Prop):Exit->Fr->World->Prop
 | .normal,f,w=>K f w
 | _,_,_=>False
theorem A3E (ha:Lh ⟨n,Ds⟩ f a) (ht:Nat.blt t n=true) {fn:Func} (hf:P.funcs[fid]?=some fn) (hL:w.heap[L]?=some (.loop (NJ fid a #[t] assign body D .ready none)))
  (h : ∀ a', Lh ⟨n, []⟩ ((t, v) :: f) a' → assign.wpIn (Fence.wide.inRound L) 0 P (GV ⟨n, []⟩ (QS fun g w1 => w1.heap[L]? = some (.loop (NJ fid a #[t] assign body D .ready none)) ∧
   ∀ a2,Lh ⟨n,[]⟩ g a2->body.wpIn (Fence.wide.inRound L) 0 P (GV ⟨n,[]⟩ (QR P L R)) a2 (w1.putObj L (.loop { NJ fid a #[t] assign body D .ready none with state:=.busy })))) a' w) :
  YieldAt Fence.wide 0 P L #[v] w R:=by
 refine ⟨fid,a.tmps.setIfInBounds t v,assign,body,?_,OI trivial ⟨fn,hf⟩ ?_⟩
 ·
  have i:=run_yield (P:=P) (args:=#[v]) hL rfl
  simpa [NJ] using i
 have hr:Lh ⟨n,[]⟩ ((t,v)::f) { tmps:=a.tmps.setIfInBounds t v,defers:=[] }:=by
  have i:=ha.put (d:=t) ht v
  exact ⟨rfl,i.2.1,i.2.2⟩
 refine wpIn_mono (h _ hr) ?_
 rintro e l w1 ⟨g,hg,hq⟩
 cases e with
 | normal =>
  obtain ⟨j,hb⟩:=hq
  refine ⟨_,run_beginRound j rfl,wpIn_mono (hb l hg) ?_⟩
  rintro e a2 m ⟨o,k,b⟩
  cases e with
  | normal=>exact b
  | panic c=>exact ⟨k.1,b⟩
  | _=>exact b.elim
 | _=>exact hq.elim
end
end
section
theorem TC  {l:List Int} (h:AS DW w p l) (k:Nat) (hk:2 * k+1<l.length):AS DW w (p.map (·.add (2 * k))) [l[2 * k],l[2 * k+1]]:=by
 have hp:=h.isp oO
 rw [hp,Option.map_some]
 refine ⟨λ_=>rfl,λj hj=>?_⟩
 have a:j=0\/j=1:=by simp at hj;omega
 show w.cell? (((pA p).add (2 * k)).add j)=_
 rw [Jl]
 rcases a with rfl | rfl
 · exact h.cells (2 * k) oO
 · exact h.cells (2 * k+1) hk
end
section
def EV (w:World) (b:Nat) (o:Obj):Prop:=w.heap[b]?=some o
section
variable {w w1:World} {b:Nat} {o:Obj}
theorem EV.lt (h:EV w b o):b<w.heap.size:=(Bs.1 h).1
theorem EV.drew (h:EV w b o) (d:CZ w w1):EV w1 b o:=by obtain ⟨m,rfl⟩:=d;exact h
theorem EV.below  (h:EV w b o) (hb:Below B w w1) (hl:b<B):EV w1 b o:=(hb.block b hl).trans h
theorem EV.upd  (h:EV w b o) (hu:BF c w w1) (hn:b≠c):EV w1 b o:=(hu.other b hn).trans h
theorem EV.bl  {b:Nat} {o:Obj} (h:EV w b o) (hb:Below w.heap.size w w1):EV w1 b o:=h.below hb h.lt
theorem EV.up  {b:Nat} {o:Obj} (h:EV w b o) (hu:BF c w w1) (hne:b≠c:=by ((try simp only) <;> omega)):EV w1 b o:=h.upd hu hne
theorem EV.un  {b:Nat} {o:Obj} (h:EV w b o) (hu:BF c w w1) (hl:b<c):EV w1 b o:=h.upd hu (A8f hl)
theorem ZP (h:b<w.heap.size):EV (w.putObj b o) b o:=by
 show (w.putObj b o).heap[b]?=some o
 simp [World.putObj,h]
theorem Na:BF b w (w.putObj b o):=⟨rfl,rfl,rfl,by simp [World.putObj],λk hk=>by simp [World.putObj,Array.getElem?_setIfInBounds_ne (λe=>hk e.symm)]⟩
end
theorem A40 (fid:FuncId) (a:Act) (ps:Array Tmp) (assign body:Code) (w:World) :
  Below w.heap.size w (UZ fid a ps assign body w)/\EV (UZ fid a ps assign body w) w.heap.size (.deferred (some [])) /\
   EV (UZ fid a ps assign body w) (w.heap.size+1) (.loop (NJ fid a ps assign body w.heap.size .ready none))/\(UZ fid a ps assign body w).heap.size=w.heap.size+2:=by
 have e:(UZ fid a ps assign body w).heap=(w.heap.push (.deferred (some []))).push (.loop (NJ fid a ps assign body w.heap.size .ready none)):=rfl
 have b:(UZ fid a ps assign body w).os=w.os:=rfl
 have c:(UZ fid a ps assign body w).tape=w.tape:=rfl
 have d:(UZ fid a ps assign body w).output=w.output:=rfl
 unfold EV
 generalize UZ fid a ps assign body w=w1 at *
 generalize (Obj.loop (NJ fid a ps assign body w.heap.size .ready none))=o at *
 have hs:w1.heap.size=w.heap.size+2:=by rw [e];simp
 refine ⟨⟨b,c,d,by omega,λk hk=>?_⟩,?_,?_,hs⟩
 · rw [e,Array.getElem?_push,A1 (by simp;omega),Array.getElem?_push,A1 oO]
 · rw [e,Array.getElem?_push,A1 (by simp),Array.getElem?_push,A6 rfl]
 · rw [e,Array.getElem?_push,A6 (by simp)]
theorem A0G {P:Program} {F:Fence} {n:Sh} {m id L:Nat} {c:Code} {f:Fr} {w:World} {R:Ending->World->Prop} (h:∀ a,Lh n f a->c.wpIn F m P (GV n (QR P L R)) a w) :
  ∀ a,Lh n f a->(Code.block id c).wpIn F m P (GV n (QR P L R)) a w:=λa ha=>by
 refine wpIn_block (wpIn_mono (h a ha) ?_)
 rintro e a w ⟨f,hf,hq⟩
 cases e with
 | normal=>exact ⟨f,hf,hq⟩
 | panic ch=>exact ⟨f,hf,hq⟩
 | _=>exact hq.elim
theorem A1z  {fid gf:FuncId} {args:Array Value} {a:Act} {ps:Array Tmp} {assign body:Code} {POST:Ending->World->Prop}
  (h:∀ rec w1,rec=NJ fid a ps assign body w.heap.size .ready none->w1=UZ fid a ps assign body w->Below w.heap.size w w1->EV w1 w.heap.size (.deferred (some []))->EV w1 (w.heap.size+1) (.loop rec)->w1.heap.size=w.heap.size+2->Calls P gf args w1 POST) :
  Calls P gf args (UZ fid a ps assign body w) POST:=by
 obtain ⟨b,c,d,e⟩:=A40 fid a ps assign body w
 exact h _ _ rfl rfl b c d e
section
variable {P:Program} {fn:Func} {R:Ending->World->Prop} {D:Nat}
def A8a (P:Program) (fn:Func) (R:Ending->World->Prop) (D:Nat):Exit->Fr->World->Prop
 | .normal,f,w | .ret,f,w=>EV w D (.deferred (some []))/\∃ v,Eb P fn f (w.putObj D (.deferred none)) v/\R (.returned v) (w.putObj D (.deferred none))
 | .panic chain,_,w=>EV w D (.deferred (some []))/\R (.panicked chain) (w.putObj D (.deferred none))
 | _,_,_=>False
theorem A1J {n:Nat} {f:Fr} {c:Code} {w:World} (h:W P ⟨n,[{ target:=.collected D,args:=#[] }]⟩ c (A8a P fn R D) f w) :
  ∀ a,Lh ⟨n,[{ target:=.collected D,args:=#[] }]⟩ f a->c.wp P (bodyPostM Fence.wide 1 P fn R) a w:=λa ha=>by
 unfold W at h
 refine wp_mono (h a ha) ?_
 rintro e a1 w1 ⟨g,hg,hq⟩
 have hd:a1.defers=[{ target:=.collected D,args:=#[] }]:=hg.1
 have fin:∀ u,u≠.run->EV w1 D (.deferred (some []))->LeavesIn Fence.wide 1 P fn a1.tmps R [] u (w1.putObj D (.deferred none))->LeavesInM Fence.wide 1 P fn a1.tmps R a1.defers u w1:=λu hu h1 h2=>by
  rw [hd]
  exact ⟨hu,.inl ⟨D,_,rfl,run_takeDeferred h1,h2⟩⟩
 cases e with
 | normal=>obtain ⟨h1,v,h2,h3⟩:=hq;exact fin .returning nofun h1 ⟨v,h2 _ hg.2.2,h3⟩
 | ret=>obtain ⟨h1,v,h2,h3⟩:=hq;exact fin .returning nofun h1 ⟨v,h2 _ hg.2.2,h3⟩
 | panic ch=>exact fin (.panicking ch) nofun hq.1 hq.2
 | _=>exact hq.elim
end
end
section
theorem Dk.enter  {F:FuncId} (h:Dk P F) (args:Array Value) (w:World):(callFunc F args).run P w=.ok (.enter F args) w:=by
 obtain ⟨fn,hf,hb,hn⟩:=h
 simp [callFunc,hf,hb,hn,go_sem]
theorem A2t:(Tryz.prog.info? 57).map (λi=>(i.zero,i.size,i.bytes))=some (some (.agg (DH Fv).toArray),2,16):=by kernel_rfl
structure LdJ (bv:Nat) (H:PW) (p:Option Addr) (l:List Int) (c:Nat) (w:World) (b2 b5 x1 x2 D:Nat) (rec:Loop) (k:Nat) (w':World):Prop where
 bel:Below w.heap.size w w'
 kv:AF w' bv (Fh H).toArray 74
 row:AS DW w' p l
 k2:AF w' b2 #[.pointer (some ⟨bv,0,none⟩)] 65
 k5:∃ v q,AF w' b5 #[v] 133/\AD Ed 57 (D+2) w' v q/\Dy H.s.ctm (l.take (2 * k))=.ok q/\q.length=k
 c1:AF w' x1 #[.slice p l.length c] 39
 c2:AF w' x2 #[.int .i64 2] 3
 od:EV w' D (.deferred (some []))
 ol:EV w' (D+1) (.loop rec)
 sz:D+2<=w'.heap.size
section
variable {bv:Nat} {H:PW} {p:Option Addr} {l:List Int} {c:Nat} {w:World} {b2 b5 x1 x2 D:Nat} {rec rec2:Loop} {k:Nat} {w1 w2:World}
theorem LdJ.drew (h:LdJ bv H p l c w b2 b5 x1 x2 D rec k w1) (d:CZ w1 w2):LdJ bv H p l c w b2 b5 x1 x2 D rec k w2:=by
 obtain ⟨v,q,a,b,e,f⟩:=h.k5
 exact ⟨d.below h.bel,h.kv.drew d,h.row.drew d,h.k2.drew d,⟨v,q,a.drew d,b.drew d,e,f⟩,h.c1.drew d,h.c2.drew d,h.od.drew d,h.ol.drew d,by obtain ⟨m,rfl⟩:=d;exact h.sz⟩
theorem LdJ.put (h:LdJ bv H p l c w b2 b5 x1 x2 D rec k w1) (hw:w.heap.size<=D) (hv:bv<w.heap.size) (hr:0<l.length->(pA p).block<w.heap.size) (h2:b2<D) (h5:b5<D) (hx1:x1<D) (hx2:x2<D) :
  LdJ bv H p l c w b2 b5 x1 x2 D rec2 k (w1.putObj (D+1) (.loop rec2)):=by
 have hu:=Na (w:=w1) (b:=D+1) (o:=.loop rec2)
 obtain ⟨v,q,d,a,f,i⟩:=h.k5
 exact ⟨CN h.bel oO hu,h.kv.upd hu oO,AS.upd h.row hu (λj=>by have:=hr j;omega),h.k2.upd hu oO,⟨v,q,d.upd hu oO,a.upd hu (λg hg e=>by have:=(a.lt g hg).1;omega),f,i⟩,
  h.c1.upd hu oO,h.c2.upd hu oO,h.od.upd hu oO,ZP h.ol.lt,AW h.sz hu.size⟩
end
theorem Mh (bv:Nat) (H:PW) (p:Option Addr) (l:List Int) (c m:Nat) (w:World) (h:AF w bv (Fh H).toArray 74) (hr:AS DW w p l) (hl:l.length=2 * m) (hm:m<=100) (hc:l.length<=c) :
  Calls Tryz.prog 77 #[.pointer (some ⟨bv,0,none⟩),.slice p l.length c] w (Hk 30 (Dy H.s.ctm l) (λq v w'=>Below w.heap.size w w'/\AD Ed 57 w.heap.size w' v q) (λw'=>Below w.heap.size w w')):=by
 have U:=hr.lt
 have ah:=h.lt
 refine Us func77 rfl ntmps77 bL<|Ow<|Ak<|CU rfl rfl (λb2 w2 e2 t dS eJ=>?_)
 refine A9 rfl<|Ow<|Ak<|BV zeroValue133 rfl (λb5 w5 e5 a8 cU eK=>?_)
 refine WL.e<|?_
 intro a5 dT
 refine Ya<|Ow ?_ a5 dT
 refine Ak<|A2 rfl<|DQ AN rfl rfl (A0b p l.length c _) (λx V dU=>?_)
 refine WL.e<|?_
 obtain ⟨⟨x1,x2⟩,hx⟩:∃ y,y=x:=⟨x,rfl⟩
 subst hx
 obtain ⟨aK,b1,b3,dV,dW⟩:=dU
 simp only at b1 b3 dV dW
 intro a ha
 refine Ze<|Zd (gf:=145) (lb:=#[.pointer (some ⟨x1,0,none⟩),.pointer (some ⟨x2,0,none⟩)]) (ha.agr _ _ rfl) (Dk.enter (Iz func145 kR)) ?_
 have ez:b2<w2.heap.size:=t.lt
 have eA:b5<w5.heap.size:=a8.lt
 have d5:=b1.lt
 have d6:=b3.lt
 have eL:=aK.size
 have A8G:b2<b5:=by omega
 have eB:w.heap.size<=b2:=by omega
 refine A1z λrec wR Y eM r1 r2 r3 r4=>?_
 have dX:Below w.heap.size w w2:=CN (EM _ _) oO dS
 have dY:Below w.heap.size w w5:=CN dX oO cU
 have d7:Below w.heap.size w V:=EZ dY (aK.mono oO)
 have b4:Below w.heap.size w wR:=EZ d7 (r1.mono oO)
 have dZ:LdJ bv H p l c w b2 b5 x1 x2 V.heap.size rec 0 wR :=
  ⟨b4,h.below b4 ah,hr.below b4 (λd=>U d),((t.upd cU oO).below aK oO).below r1 oO,⟨.slice none 0 0,[],(a8.below aK oO).below r1 oO,AD.nil _ _ _ _,rfl,rfl⟩,
   b1.below r1 d5,b3.below r1 d6,r2,r3,by omega⟩
 refine (XX (V.heap.size+1) x1 x2 p l.length c m (LdJ bv H p l c w b2 b5 x1 x2 V.heap.size rec) (λch w'=>∃ k,Dy H.s.ctm l=.error k/\ch=[{ v:=.iface 30 (.int .i64 k),recovered:=false }]/\Below w.heap.size w w'/\EV w' V.heap.size (.deferred (some []))) _ hl hc oO dZ (λk w1 w2 h1 h2=>h1.drew h2) (λk w1 h1=>⟨h1.c1,h1.c2⟩) (λd=>by have:=hr.isp oO;rw [this];simp) ?_).mono ?_
 ·
  intro k w1 hk hJ;have b6:=TC hJ.row k oO;refine A3E (D:=V.heap.size) ha rfl func77 (Y▸hJ.ol) ?_
  intro a1 d';refine A3l rfl (λ_ _ h=>h) (A9 rfl ?_) a1 d';refine ⟨Y▸hJ.ol,?_⟩
  intro a2 e0;rw [<- Y];have a0:=hJ.put (rec2:={ rec with state:=.busy }) oO ah U oO oO oO oO
  generalize w1.putObj (V.heap.size+1) (.loop { rec with state:=.busy })=wB at *;have e1:=a0.bel;have t:=a0.k2;have e3:=a0.kv;have cV:=a0.ol;have cW:=a0.od;have e4:=a0.c1;have e6:=a0.c2;have cX:=a0.row;have e7:=a0.sz;have b6:=TC cX k oO;obtain ⟨v5,q,a8,b7,hq,aL⟩:=a0.k5;have ab:0 < [l[2 * k],l[2 * k+1]].length->(pA (p.map (·.add (2 * k)))).block<w.heap.size:=λd=>by
   have h1:=U oO;rw [hr.isp oO]
   show (((pA p).add (2 * k)).block)<_
   rw [Fg];omega
  have am:0 < [l[2 * k],l[2 * k+1]].length->(pA (p.map (·.add (2 * k)))).block<V.heap.size+2:=λd=>by have:=ab d;omega
  have an:0<l.length->(pA p).block<V.heap.size+2:=λd=>by have:=U d;omega
  have cY:=λe=>A0e (m:=H.s.ctm) (l:=l) (k:=k) (e:=e) oO hq
  have aH:=Ri (m:=H.s.ctm) (l:=l) (k:=k) oO hq;obtain ⟨bL,ad⟩:∃ b,b=V.heap.size+1:=⟨_,rfl⟩;obtain ⟨bD,ai⟩:∃ b,b=V.heap.size:=⟨_,rfl⟩;rw [<- ad] at cV;rw [<- ai] at cW;refine A0G ?_ a2 e0;refine A3m (N:=12) rfl C7 (λw'=>w'.heap[b2]?=wB.heap[b2]?/\AS DW w' (p.map (·.add (2 * k))) [l[2 * k],l[2 * k+1]]/\True) rfl (λ_ _ h=>h) (λw1 X=>?_) ;have b8:=CZ.le e7 X;have cZ:=AD.drew b7 X;have a3:=t.drew X;have a8:=a8.drew X;have aj:=e3.drew X;have c':=cV.drew X;have ak:=cW.drew X;have d0:=e4.drew X;have b9:=e6.drew X;have O:=b6.drew X;have ao:=cX.drew X;have a4:=CZ.below e1 X;refine BY 1 rfl (λw' hw'=>Ad (Ui _) rfl ((hw'.1).trans t) rfl) ⟨(a3).trans (t).symm,O,tT⟩ rfl ?_;refine Af 2 rfl (.mv rfl) ⟨(a3).trans (t).symm,O,tT⟩ rfl ?_;refine Af 3 rfl (.ixb Dh B5 rfl rfl (O.isp oD) (0) (rfl) (oD)) ⟨(a3).trans (t).symm,O,tT⟩ rfl ?_;refine BY 4 rfl (λw' hw'=>AO (Bw _) rfl ((hw'.2.1).cells (0) (oD))) ⟨(a3).trans (t).symm,O,tT⟩ rfl ?_;refine Af 5 rfl (.mv rfl) ⟨(a3).trans (t).symm,O,tT⟩ rfl ?_;refine Af 6 rfl (.ixb Dh B5 rfl rfl (O.isp oD) (1) (rfl) ((by first | omega | exact A0S _))) ⟨(a3).trans (t).symm,O,tT⟩ rfl ?_;refine BY 7 rfl (λw' hw'=>AO (Bw _) rfl ((hw'.2.1).cells (1) ((by first | omega | exact A0S _)))) ⟨(a3).trans (t).symm,O,tT⟩ rfl ?_;refine Ea 0 rfl 8 rfl ?_ ?_
  ·
   skip;refine Ag (Ad (isAgg133 _) rfl a8 rfl)<|WL.e<|⟨⟨(a3).trans (t).symm,O,tT⟩,?_⟩;refine An 8 rfl<|Bk AN rfl rfl ((A0X bv H l[2 * k] l[2 * k+1] _ aj)) (λeN e8 ap J=>?_) (λe9 e8 ap J=>?_)
   · skip;have ba:=EZ a4 (Below.mono J a4.size);exact .inr ⟨_,rfl,_,cY _ ap,rfl,ba,ai▸(ak).below J (ak).lt⟩
   have bK:=AW b8 J.size;have d8:=AD.below cZ J;have aI:=a3.bl J;have bb:=a8.bl J;have bc:=aj.bl J;have bd:=c'.bl J;have be:=ak.bl J;have bf:=d0.bl J;have bg:=b9.bl J;have aJ:=AS.below O J (λd=>O.lt d);have bh:=AS.below ao J (λd=>ao.lt d);have bi:=DJ a4 J;refine WL.e<|⟨⟨(aI).trans (t).symm,aJ,tT⟩,?_⟩;refine An 9 rfl<|Cu (L:=Ed) (ps:=_) ([e9]) G1 Fs LG rfl rfl rfl rfl rfl rD rfl rfl (λea d9 Q bM E eu=>?_);have aM:=AW bK E.size;have da:=GU d8 Q E;have db:=Bg Q aI.lt;have bj:=aI.un E db;have dc:=Bg Q bb.lt;have dd:=bb.un E dc;have de:=Bg Q bc.lt;have df:=bc.un E de;have dg:=Bg Q bd.lt;have dh:=bd.un E dg;have di:=Bg Q be.lt;have dj:=be.un E di;have dk:=Bg Q bf.lt;have dl:=bf.un E dk;have dm:=Bg Q bg.lt;have dn:=bg.un E dm;have bN:=λd=>Q▸aJ.lt d
   have bk:=AS.upd aJ E (λd=>Js (bN d));have bO:=λd=>Q▸bh.lt d
   have dp:=AS.upd bh E (λd=>Js (bO d));have dq:=uB bi Q E;have eb:=Cq Q bi.size;have ec:ea<=d9.heap.size:=by omega
   refine WL.e<|⟨⟨(bj).trans (t).symm,bk,tT⟩,?_⟩;refine An 10 rfl<|CW G1 A2t rfl rfl rfl da rfl (bM).rowp oE (aM) rfl (λh=>CM h (Q6 _ _)) (λeO eP aN P ev ew=>?_);have bm:=bj.below P oO;have dr:=dd.below P oO;have ds:=df.below P oO;have dt:=dh.below P oO;have du:=dj.below P oO;have dv:=dl.below P oO;have dw:=dn.below P oO;have bn:=AS.below bk P am;have dx:=AS.below dp P an;have dy:=EZ dq (P.mono (oO));have bP:=AW aM P.size;refine WL.e<|⟨⟨(bm).trans (t).symm,bn,tT⟩,?_⟩;refine An 11 rfl<|WL.st sizeOf133 rfl rfl (aN).one dr oQ (λd1 aq C ex=>?_);have aq:AF d1 b5 _ _:=aq;have C:BF b5 _ _:=C;have bQ:=AW bP C.size;have dz:=CO aN C oM;have bo:=bm.up C;have dA:=ds.up C;have bp:=dt.up C;have dB:=du.up C;have dC:=dv.up C;have dD:=dw.up C;have dE:=AS.upd bn C (λd=>by have:=ab d;omega);have dF:=AS.upd dx C (λd=>by have:=U d;omega);have dG:=CN dy oO C;refine WL.e<|⟨⟨(bo).trans (t).symm,dE,tT⟩,?_⟩;refine Bd kR ?_;have aD:LdJ bv H p l c w b2 b5 x1 x2 V.heap.size { rec with state:=.busy } (k+1) d1:=⟨dG,dA,dF,bo,⟨_,_,aq,dz,by rw [aH,ap];rfl,by rw [A5,aL];rfl⟩,dC,dD,ai▸dB,ad▸bp,bQ⟩;refine ⟨_,_,run_endRound none (ad▸bp),.inl ⟨rfl,?_⟩⟩;have a9:=aD.put (rec2:={ { rec with state:=.busy } with state:=if (none:Option Code).isNone then .ready else .done,pending:=none }) oO ah U oO oO oO oO;have aa:rec={ { rec with state:=.busy } with state:=if (none:Option Code).isNone then .ready else .done,pending:=none }:=by rw [Y];rfl
   rw [<- aa] at a9;rw [<- aa];exact a9
  refine Bk AN rfl rfl ((A0X bv H l[2 * k] l[2 * k+1] _ aj)) (λeQ ed ac K=>?_) (λd2 ed ac K=>?_)
  · skip;have bq:=EZ a4 (Below.mono K a4.size);exact .inr ⟨_,rfl,_,cY _ ac,rfl,bq,ai▸(ak).below K (ak).lt⟩
  have aO:=AW b8 K.size;have bt:=AD.below cZ K;have a6:=a3.bl K;have ae:=a8.bl K;have ar:=aj.bl K;have au:=c'.bl K;have av:=ak.bl K;have aw:=d0.bl K;have ax:=b9.bl K;have a7:=AS.below O K (λd=>O.lt d);have ay:=AS.below ao K (λd=>ao.lt d);have az:=DJ a4 K;refine WL.e<|⟨⟨(a6).trans (t).symm,a7,tT⟩,?_⟩;refine Ea 0 rfl 9 rfl ?_ ?_
  ·
   skip;refine Ag (Ad (isAgg133 _) rfl ae rfl)<|WL.e<|⟨⟨(a6).trans (t).symm,a7,tT⟩,?_⟩;refine An 9 rfl<|Cu (L:=Ed) (ps:=_) ([d2]) G1 Fs LG rfl rfl rfl rfl rfl rD rfl rfl (λee dH T bR F ey=>?_);have aP:=AW aO F.size;have dI:=GU bt T F;have dJ:=Bg T a6.lt;have bu:=a6.un F dJ;have dK:=Bg T ae.lt;have dL:=ae.un F dK;have dM:=Bg T ar.lt;have dN:=ar.un F dM;have bS:=Bg T au.lt;have bT:=au.un F bS;have bU:=Bg T av.lt;have bV:=av.un F bU;have bW:=Bg T aw.lt;have bX:=aw.un F bW;have bY:=Bg T ax.lt;have bZ:=ax.un F bY;have bw:=λd=>T▸a7.lt d
   have aQ:=AS.upd a7 F (λd=>Js (bw d));have bx:=λd=>T▸ay.lt d
   have b':=AS.upd ay F (λd=>Js (bx d));have c0:=uB az T F;have ef:=Cq T az.size;have eg:ee<=dH.heap.size:=by omega
   refine WL.e<|⟨⟨(bu).trans (t).symm,aQ,tT⟩,?_⟩;refine An 10 rfl<|CW G1 A2t rfl rfl rfl dI rfl (bR).rowp oE (aP) rfl (λh=>CM h (Q6 _ _)) (λeC eD aE A eh ei=>?_);have aR:=bu.below A oO;have c3:=dL.below A oO;have c4:=dN.below A oO;have c5:=bT.below A oO;have c6:=bV.below A oO;have c7:=bX.below A oO;have c8:=bZ.below A oO;have aS:=AS.below aQ A am;have c9:=AS.below b' A an;have ca:=EZ c0 (A.mono (oO));have bz:=AW aP A.size;refine WL.e<|⟨⟨(aR).trans (t).symm,aS,tT⟩,?_⟩;refine An 11 rfl<|WL.st sizeOf133 rfl rfl (aE).one c3 oQ (λbA af f ej=>?_);have af:AF bA b5 _ _:=af;have f:BF b5 _ _:=f;have bB:=AW bz f.size;have cb:=CO aE f oM;have aT:=aR.up f;have cc:=c4.up f;have aU:=c5.up f;have cd:=c6.up f;have cf:=c7.up f;have cg:=c8.up f;have ci:=AS.upd aS f (λd=>by have:=ab d;omega);have cj:=AS.upd c9 f (λd=>by have:=U d;omega);have ck:=CN ca oO f;refine WL.e<|⟨⟨(aT).trans (t).symm,ci,tT⟩,?_⟩;refine Bd kR ?_;have aD:LdJ bv H p l c w b2 b5 x1 x2 V.heap.size { rec with state:=.busy } (k+1) bA:=⟨ck,cc,cj,aT,⟨_,_,af,cb,by rw [aH,ac];rfl,by rw [A5,aL];rfl⟩,cf,cg,ai▸cd,ad▸aU,bB⟩;refine ⟨_,_,run_endRound none (ad▸aU),.inl ⟨rfl,?_⟩⟩;have a9:=aD.put (rec2:={ { rec with state:=.busy } with state:=if (none:Option Code).isNone then .ready else .done,pending:=none }) oO ah U oO oO oO oO;have aa:rec={ { rec with state:=.busy } with state:=if (none:Option Code).isNone then .ready else .done,pending:=none }:=by rw [Y];rfl
   rw [<- aa] at a9;rw [<- aa];exact a9
  refine Cu (L:=Ed) (ps:=_) ([d2]) G1 Fs LG rfl rfl rfl rfl rfl rD rfl rfl (λdO cl G bC u ek=>?_);have aF:=AW aO u.size;have cm:=GU bt G u;have cn:=Bg G a6.lt;have aA:=a6.un u cn;have co:=Bg G ae.lt;have aV:=ae.un u co;have cq:=Bg G ar.lt;have cr:=ar.un u cq;have ct:=Bg G au.lt;have cu:=au.un u ct;have cv:=Bg G av.lt;have cw:=av.un u cv;have cy:=Bg G aw.lt;have cz:=aw.un u cy;have cA:=Bg G ax.lt;have cB:=ax.un u cA;have bE:=λd=>G▸a7.lt d
  have aB:=AS.upd a7 u (λd=>Js (bE d));have bG:=λd=>G▸ay.lt d
  have cC:=AS.upd ay u (λd=>Js (bG d));have cD:=uB az G u;have dQ:=Cq G az.size;have dR:dO<=cl.heap.size:=by omega
  refine WL.e<|⟨⟨(aA).trans (t).symm,aB,tT⟩,?_⟩;refine An 0 rfl<|Ag (Ad (isAgg133 _) rfl aV rfl)<|WL.e<|⟨⟨(aA).trans (t).symm,aB,tT⟩,?_⟩;refine An 10 rfl<|CW G1 A2t rfl rfl rfl cm rfl (bC).rowp oE (aF) rfl (λh=>CM h (Q6 _ _)) (λeF eG aG B el em=>?_);have aW:=aA.below B oO;have cE:=aV.below B oO;have cF:=cr.below B oO;have cG:=cu.below B oO;have cH:=cw.below B oO;have cI:=cz.below B oO;have cJ:=cB.below B oO;have aX:=AS.below aB B am;have cK:=AS.below cC B an;have cL:=EZ cD (B.mono (oO));have bH:=AW aF B.size;refine WL.e<|⟨⟨(aW).trans (t).symm,aX,tT⟩,?_⟩;refine An 11 rfl<|WL.st sizeOf133 rfl rfl (aG).one cE oQ (λbI ag j en=>?_);have ag:AF bI b5 _ _:=ag;have j:BF b5 _ _:=j;have bJ:=AW bH j.size;have cM:=CO aG j oM;have aY:=aW.up j;have cN:=cF.up j;have aZ:=cG.up j;have cO:=cH.up j;have cP:=cI.up j;have cQ:=cJ.up j;have cR:=AS.upd aX j (λd=>by have:=ab d;omega);have cS:=AS.upd cK j (λd=>by have:=U d;omega);have cT:=CN cL oO j;refine WL.e<|⟨⟨(aY).trans (t).symm,cR,tT⟩,?_⟩;refine Bd kR ?_;have aD:LdJ bv H p l c w b2 b5 x1 x2 V.heap.size { rec with state:=.busy } (k+1) bI:=⟨cT,cN,cS,aY,⟨_,_,ag,cM,by rw [aH,ac];rfl,by rw [A5,aL];rfl⟩,cP,cQ,ai▸cO,ad▸aZ,bJ⟩;refine ⟨_,_,run_endRound none (ad▸aZ),.inl ⟨rfl,?_⟩⟩;have a9:=aD.put (rec2:={ { rec with state:=.busy } with state:=if (none:Option Code).isNone then .ready else .done,pending:=none }) oO ah U oO oO oO oO;have aa:rec={ { rec with state:=.busy } with state:=if (none:Option Code).isNone then .ready else .done,pending:=none }:=by rw [Y];rfl
  rw [<- aa] at a9;rw [<- aa];exact a9
 ·
  intro e w3 he;rcases he with ⟨v,rfl,hJ⟩ | ⟨ch,rfl,k,eo,rfl,ep,eq⟩
  ·
   obtain ⟨v5,q,eH,b7,hq,aL⟩:=hJ.k5;rw [<- hl,Cs] at hq;have er:rec.state≠.busy:=by rw [Y];nofun
   have es:rec.pending=none:=by rw [Y];rfl
   have a':=hJ.put (rec2:={ rec with state:=.exhausted }) oO ah U oO oO oO oO;obtain ⟨wE,d3⟩:∃ x,x=w3.putObj (V.heap.size+1) (.loop { rec with state:=.exhausted }):=⟨_,rfl⟩;rw [<- d3] at a';refine ⟨wE,by rw [d3,run_endLoop hJ.ol er,es],?_⟩;obtain ⟨v6,q6,aj,aC,d4,eI⟩:=a'.k5;rw [<- hl,Cs] at d4;have dP:=aj;refine A0U (A1J (D:=V.heap.size) (n:=22) ?_ _ ⟨by rw [ha.1],ha.2.1,λi v hi=>ha.2.2 i v hi⟩);refine Ah (Ak ?_);refine Ag (Ad (isAgg133 _) rfl dP rfl)<|A9 rfl ?_;have b0:=Na (w:=wE) (b:=V.heap.size) (o:=.deferred none);refine Ai ⟨a'.od,v6,λtmps ht=>?_,GD _ _ d4 rfl ⟨CN a'.bel oO b0,?_⟩⟩
   · rw [results_tmp rfl,ht _ _ rfl];rfl
   · exact (aC.upd b0 (λg hg e=>by have:=(aC.lt g hg).1;omega)).base (λg hg=>by have:=(aC.lt g hg).1;omega)
  ·
   have b0:=Na (w:=w3) (b:=V.heap.size) (o:=.deferred none);have et:a.defers=[]:=ha.1
   show LeavesInM Fence.wide 1 Tryz.prog _ _ _ ({ target:=.collected V.heap.size,args:=#[] }::a.defers) (.panicking _) w3
   rw [et];refine ⟨nofun,.inl ⟨_,_,rfl,run_takeDeferred eq,?_⟩⟩;unfold Hk;rw [eo];exact ⟨rfl,CN ep oO b0⟩
end
section
theorem Dj.kn  {x:PC} {o:PV} (h:Dj w Z x o):N9 o=x.kind/\Wv o=x.n/\SV o=x.text:=by
 cases h;exact ⟨rfl,rfl,rfl⟩
theorem Y9.kn  {cs:List PC} {args:List PV} (h:Y9 Z w cs args) (i:Nat) (h1:i<cs.length) (h2:i<args.length):N9 args[i]=cs[i].kind/\Wv args[i]=cs[i].n/\SV args[i]=cs[i].text:=(h.2 i h1 h2).kn
theorem Y9.nums  {cs:List PC} {args:List PV} (h:Y9 Z w cs args):(cs.map λx=>GM x.kind x.n)=args.map Ep:=by
 refine List.ext_getElem (by rw [BD,BD];exact h.1) λi a b=>?_
 rw [BD] at a b
 rw [List.getElem_map,List.getElem_map,<- OS,(h.kn i a b).1,(h.kn i a b).2.1]
theorem Y9.num  {cs:List PC} {args:List PV} (h:Y9 Z w cs args) (n:Nat):R0 cs n=Dg args n:=by
 have e:=h.nums
 have a:(cs.map λx=>(GM x.kind x.n).1)=args.map λo=>(Ep o).1:=by
  have:=Bc (List.map Prod.fst) e
  rw [List.map_map,List.map_map] at this
  exact this
 have b:cs.all (λx=>(GM x.kind x.n).2)=args.all λo=>(Ep o).2:=by
  have:=Bc (λl=>l.all Prod.snd) e
  simpa [List.all_map,Function.comp_def] using this
 unfold R0 Dg
 rw [a,b,h.1]
theorem En {B:Nat} {fs:PZ} {w w1:World} {bv:Nat} {H H1:PW} {vp:Value} {V V1:Vw} {args:List PV} {its:List AQ} {hs:List Ux} {cs:List PC} (hO:Zb B w bv H vp V its hs cs) (K:AB w.heap.size [bv] w w1)
  (hk:AF w1 bv (Fh H1).toArray 74) (hR:∀ (m:Mv (E3 fs.c (Gm bv H vp) w) (E3 fs.c (Gm bv H vp) w1) w w1),Za (E3 fs.c (Gm bv H vp) w1) w1 H1 fs V1 args its hs cs)
  (e1:H1.path=H.path:=by rfl) (e2:H1.items=H.items:=by rfl) (e3:H1.saved=H.saved:=by rfl) (e4:H1.args=H.args:=by rfl) (ep:V1.path=V.path:=by rfl) :
  ∃ F1,FO B fs w1 bv F1 V1 args/\Df (Gm bv H vp) F1 w w1:=by
 have hF:Gm bv H1 vp=Gm bv H vp:=by unfold Gm;rw [e1,e2,e3,e4]
 have hC:Df (Gm bv H vp) (Gm bv H vp) w w1:=Cn K (λg hg=>by simp only [Am] at hg;subst hg;exact .inl (.inl rfl)) (λg hg=>.inl hg)
 have hb:∀ g,Gm bv H vp g->g≠bv->w1.heap[g]?=w.heap[g]?:=λg hg hn=>K.block g (hO.inn g hg).2 (by simpa using hn)
 have a:H.path≠bv:=λe=>by
  have f:=hO.blk;have b:=hO.pth.blk
  rw [e] at b
  have d:=f.symm.trans b
  simp only [Bm,Obj.cells.injEq] at d
  exact CM d.2.1 dD
 refine ⟨Gm bv H vp,⟨H1,vp,its,hs,cs,hF.symm,⟨hk,?_,?_,?_,?_,hO.lbv,by rw [e1];exact hO.lbp⟩,hR (E3.mv hC)⟩,hC⟩
 ·
  rw [e1,ep]
  exact ⟨(hb _ (.inr (.inl rfl)) a).trans hO.pth.blk,hO.pth.own.same λg hg=>hb g (.inr (.inr (.inl hg))) (BO hO.pth.own hO.blk dD g hg),hO.pth.len,AW hO.pth.base K.size⟩
 · rw [e2];exact hO.oi.same λg hg=>hb g (.inr (.inr (.inr (.inl hg)))) (BO hO.oi hO.blk dD g hg)
 · rw [e3];exact hO.os.same λg hg=>hb g (.inr (.inr (.inr (.inr (.inl hg))))) (BO hO.os hO.blk dD g hg)
 · rw [e4];exact hO.oa.same λg hg=>hb g (.inr (.inr (.inr (.inr (.inr hg))))) (BO hO.oa hO.blk dD g hg)
section
variable {B:Nat} {fs:PZ} {w:World} {bv:Nat} {F:Nat->Prop} {V:Vw} {args:List PV}
theorem F7 (n:Nat) (h:FO B fs w bv F V args) (ha:args.length<=32) (hn:n<=100) :
  Calls Tryz.prog 54 #[.pointer (some ⟨bv,0,none⟩),.int .i64 (n:Int)] w (Hk 30 (Dg args n) (λl v w'=>Below w.heap.size w w'/\AD RV 3 w.heap.size w' v l) (λw'=>Below w.heap.size w w')):=by
 obtain ⟨H,vp,its,hs,cs,rfl,hO,hR⟩:=h.mem
 obtain ⟨p,c,e,hr,-⟩:=hO.oa.row
 rw [<- hR.ar.num]
 exact Wz bv n H p cs c w hO.blk e hr hn (by rw [hR.ar.1];omega)
theorem Ny {args:List PV} (h:∀ o,args=[o]->N9 o=2->0<=Wv o->Wv o<=2->False):J0 args=.error 22:=by
 unfold J0
 split
 ·
  next o =>
  rw [A1]
  rintro ⟨a,b,c⟩
  exact h o rfl a b c
 · rfl
theorem Mg {args:List PV} (h:args.length=1) (h1:N9 (args[0])=2) (h2:0<=Wv args[0]) (h3:Wv args[0]<=2):J0 args=.ok (Wv args[0]):=by
 match args,h with
 | [o],_=>exact A6 ⟨h1,h2,h3⟩
theorem UD (h:FO B fs w bv F V args) (ha:args.length<=32) :
  Calls Tryz.prog 67 #[.pointer (some ⟨bv,0,none⟩)] w (RT w (J0 args) λn=>.int .i64 n):=by
 obtain ⟨H,vp,its,hs,cs,rfl,hO,hR⟩:=h.mem
 have j:=hO.blk
 have a3:=hR.ar
 have ac:=hO.oa
 clear hO hR h
 obtain ⟨s,fo,sa,pa,cl,it,lo,te,li,ar,its⟩:=H
 obtain ⟨p,c,e,hr,-⟩:=ac.row
 simp only at e
 subst e
 have y:=a3.1
 have k:=a3.kn 0
 refine W.e func67 rfl ntmps67 bL ?_
 have g:=EM (w.heap.size) w
 refine A4<|A9 rfl<|A4<|A2 rfl<|A0 (.nck rfl)<|A0 (.fa BL rfl EO dD rfl)<|Ag (Ad (GN _) rfl j rfl)<|A0 (.lenS EY rfl)<|A0 (.eql rfl rfl)<|A2 rfl<|B1 rfl rfl rfl (λb=>?_) (λb=>?_)
 have ad:=dT b
 refine A2 rfl<|As b<|A0 (.nck rfl)<|As b<|A0 (.fa BL rfl EO dD rfl)<|As b<|Ag (Ad (GN _) rfl j rfl)<|As b<|A0 (.ixm EY Il rfl rfl (hr.isp oC) 0 rfl oO)<|As b<|A0 (.fa CB rfl B5 dD rfl)<|As b<|Ag (AO (Bw _) rfl ((hr.field (0) oC 0 dD).trans rfl))<|As b<|A0 (.eql rfl rfl)<|A0 (.pkT rfl b rfl)<|A2 rfl<|B1 rfl rfl rfl (λd=>?_) (λd=>?_)
 have ae:=dT d
 refine A2 rfl<|As d<|A0 (.nck rfl)<|As d<|A0 (.fa BL rfl EO dD rfl)<|As d<|Ag (Ad (GN _) rfl j rfl)<|As d<|A0 (.ixm EY Il rfl rfl (hr.isp oC) 0 rfl oO)<|As d<|A0 (.fa CB rfl B5 dD rfl)<|As d<|Ag (AO (Bw _) rfl ((hr.field (0) oC 1 dD).trans rfl))<|As d<|A0 (.geq rfl rfl)<|A0 (.pkT rfl d rfl)<|A2 rfl<|B1 rfl rfl rfl (λf=>?_) (λf=>?_)
 have af:=dT f
 refine A2 rfl<|As f<|A0 (.nck rfl)<|As f<|A0 (.fa BL rfl EO dD rfl)<|As f<|Ag (Ad (GN _) rfl j rfl)<|As f<|A0 (.ixm EY Il rfl rfl (hr.isp oC) 0 rfl oO)<|As f<|A0 (.fa CB rfl B5 dD rfl)<|As f<|Ag (AO (Bw _) rfl ((hr.field (0) oC 1 dD).trans rfl))<|As f<|A0 (.leq rfl rfl)<|A0 (.pkT rfl f rfl)<|Bk AN rfl rfl ((Dc _ _)) (λk6 w4 G E=>?_) (λa5 w4 G E=>?_)
 have a2:=EZ g (Below.mono E g.size)
 obtain ⟨l,rfl⟩:=Db G
 exact Aw (Bn 22 (Ny λo ho h1 h2 h3=>by
  subst ho;have m:cs.length=1:=y;obtain ⟨q,i,-⟩:=k oO (by simp);simp only [AX] at q i
  first
   | omega
   | (rw [Aq] at l;omega)) a2)
 have ag:=j.bl E
 have a4:=I8 hr E (λJ=>hr.lt J)
 have ah:=DJ g E
 have a:=DX G
 have m:cs.length=1:=by first | exact CM a dD | omega
 have t:args.length=1:=by omega
 have K:cs[0].kind=2:=by first | exact CM a dD | omega
 have L:0<=cs[0].n:=by first | exact CM a dD | omega
 have P:cs[0].n<=2:=by first | exact CM a dD | exact dT a
 refine WL.e<|A4<|A2 rfl<|A0 (.nck rfl)<|A0 (.fa BL rfl EO dD rfl)<|Ag (Ad (GN _) rfl ag rfl)<|A0 (.ixm EY Il rfl rfl (a4.isp oC) 0 rfl oO)<|A0 (.fa CB rfl B5 dD rfl)<|Ag (AO (Bw _) rfl ((a4.field (0) oC 1 dD).trans rfl))<|A9 rfl<|Ai (AZ rfl rfl ?_)
 obtain ⟨q,i,-⟩:=k oO oO
 exact Cg.ok _ (Mg t oO oO oO) (by rw [i]) ah
 have af:=dF f
 refine Aa f<|Aa f<|Aa f<|Aa f<|Aa f<|Aa f<|Aa f<|A0 (.pkF rfl f rfl)<|Bk AN rfl rfl ((Dc _ _)) (λal ai A u=>?_) (λam ai A u=>?_)
 have Q:=EZ g (Below.mono u g.size)
 obtain ⟨l,rfl⟩:=Db A
 exact Aw (Bn 22 (Ny λo ho h1 h2 h3=>by
  subst ho;have m:cs.length=1:=y;obtain ⟨q,i,-⟩:=k oO (by simp);simp only [AX] at q i
  first
   | omega
   | (rw [Aq] at l;omega)) Q)
 have a6:=j.bl u
 have T:=I8 hr u (λJ=>hr.lt J)
 have a7:=DJ g u
 have a:=DX A
 have m:cs.length=1:=by first | exact CM a dD | omega
 have t:args.length=1:=by omega
 have K:cs[0].kind=2:=by first | exact CM a dD | omega
 have L:0<=cs[0].n:=by first | exact CM a dD | omega
 have P:cs[0].n<=2:=by first | exact CM a dD | exact dT a
 refine WL.e<|A4<|A2 rfl<|A0 (.nck rfl)<|A0 (.fa BL rfl EO dD rfl)<|Ag (Ad (GN _) rfl a6 rfl)<|A0 (.ixm EY Il rfl rfl (T.isp oC) 0 rfl oO)<|A0 (.fa CB rfl B5 dD rfl)<|Ag (AO (Bw _) rfl ((T.field (0) oC 1 dD).trans rfl))<|A9 rfl<|Ai (AZ rfl rfl ?_)
 obtain ⟨q,i,-⟩:=k oO oO
 exact Cg.ok _ (Mg t oO oO oO) (by rw [i]) a7
 have ae:=dF d
 refine Aa d<|Aa d<|Aa d<|Aa d<|Aa d<|Aa d<|Aa d<|A0 (.pkF rfl d rfl)<|A2 rfl<|Aa rfl<|Aa rfl<|Aa rfl<|Aa rfl<|Aa rfl<|Aa rfl<|Aa rfl<|Aa rfl<|A0 (.pkF rfl rfl rfl)<|Bk AN rfl rfl ((Dc _ _)) (λan aj C v=>?_) (λao aj C v=>?_)
 have U:=EZ g (Below.mono v g.size)
 obtain ⟨l,rfl⟩:=Db C
 exact Aw (Bn 22 (Ny λo ho h1 h2 h3=>by
  subst ho;have m:cs.length=1:=y;obtain ⟨q,i,-⟩:=k oO (by simp);simp only [AX] at q i
  first
   | omega
   | (rw [Aq] at l;omega)) U)
 have a8:=j.bl v
 have X:=I8 hr v (λJ=>hr.lt J)
 have a9:=DJ g v
 have a:=DX C
 have m:cs.length=1:=by first | exact CM a dD | omega
 have t:args.length=1:=by omega
 have K:cs[0].kind=2:=by first | exact CM a dD | omega
 have L:0<=cs[0].n:=by first | exact CM a dD | omega
 have P:cs[0].n<=2:=by first | exact CM a dD | exact dT a
 refine WL.e<|A4<|A2 rfl<|A0 (.nck rfl)<|A0 (.fa BL rfl EO dD rfl)<|Ag (Ad (GN _) rfl a8 rfl)<|A0 (.ixm EY Il rfl rfl (X.isp oC) 0 rfl oO)<|A0 (.fa CB rfl B5 dD rfl)<|Ag (AO (Bw _) rfl ((X.field (0) oC 1 dD).trans rfl))<|A9 rfl<|Ai (AZ rfl rfl ?_)
 obtain ⟨q,i,-⟩:=k oO oO
 exact Cg.ok _ (Mg t oO oO oO) (by rw [i]) a9
 have ad:=dF b
 refine Aa b<|Aa b<|Aa b<|Aa b<|Aa b<|Aa b<|Aa b<|A0 (.pkF rfl b rfl)<|A2 rfl<|Aa rfl<|Aa rfl<|Aa rfl<|Aa rfl<|Aa rfl<|Aa rfl<|Aa rfl<|Aa rfl<|A0 (.pkF rfl rfl rfl)<|A2 rfl<|Aa rfl<|Aa rfl<|Aa rfl<|Aa rfl<|Aa rfl<|Aa rfl<|Aa rfl<|Aa rfl<|A0 (.pkF rfl rfl rfl)<|Bk AN rfl rfl ((Dc _ _)) (λap ak D x=>?_) (λaq ak D x=>?_)
 have a0:=EZ g (Below.mono x g.size)
 obtain ⟨l,rfl⟩:=Db D
 exact Aw (Bn 22 (Ny λo ho h1 h2 h3=>by
  subst ho;have m:cs.length=1:=y;obtain ⟨q,i,-⟩:=k oO (by simp);simp only [AX] at q i
  first
   | omega
   | (rw [Aq] at l;omega)) a0)
 have aa:=j.bl x
 have a1:=I8 hr x (λJ=>hr.lt J)
 have ab:=DJ g x
 have a:=DX D
 have m:cs.length=1:=by first | exact CM a dD | omega
 have t:args.length=1:=by omega
 have K:cs[0].kind=2:=by first | exact CM a dD | omega
 have L:0<=cs[0].n:=by first | exact CM a dD | omega
 have P:cs[0].n<=2:=by first | exact CM a dD | exact dT a
 refine WL.e<|A4<|A2 rfl<|A0 (.nck rfl)<|A0 (.fa BL rfl EO dD rfl)<|Ag (Ad (GN _) rfl aa rfl)<|A0 (.ixm EY Il rfl rfl (a1.isp oC) 0 rfl oO)<|A0 (.fa CB rfl B5 dD rfl)<|Ag (AO (Bw _) rfl ((a1.field (0) oC 1 dD).trans rfl))<|A9 rfl<|Ai (AZ rfl rfl ?_)
 obtain ⟨q,i,-⟩:=k oO oO
 exact Cg.ok _ (Mg t oO oO oO) (by rw [i]) ab
theorem A4o {l:List Int} (h:l.length=6):RV.flat l=Ww.V (m6L l):=by
 match l,h with
 | [a,b,c,d,e,f],_=>rfl
theorem Ox (h:FO B fs w bv F V args) (ha:args.length<=32) :
  Calls Tryz.prog 71 #[.pointer (some ⟨bv,0,none⟩)] w (RT w (Sd args) λm=>.agg (LF m).toArray):=by
 refine W.e func71 rfl ntmps71 bL ?_
 have g:=EM (w.heap.size) w
 refine A4<|BV PF rfl (λG E i j k x=>?_)
 have c:=uB g i k
 have v:=Cq i g.size
 refine WL.e<|A4<|A2 rfl<|WL.cx AN rfl rfl ((F7 6 (h.same c) ha oO)) (λy A a b=>?_) (λC H A a b=>?_)
 have f:=EZ c (Below.mono b c.size)
 exact Aw (Bn y (by unfold Sd;rw [a];rfl) f)
 have s:=j.bl b.1
 have t:=DJ c b.1
 obtain ⟨pn,cn,evn,u,-⟩:=b.2.row
 subst evn
 have d:=(Fl a).1
 refine A0 (.s2a DU rfl (Nat.le_of_eq d.symm))<|Ag (A72 (L:=RV) (L':=Ww) DU rfl CJ u (m6L C) (A4o d) (by rw [d];decide) rfl)<|Az rfl rfl s CJ rfl rfl (λJ l o D=>?_)
 have q:=CN t oO o
 refine WL.e<|Ai (C4 rfl rfl (Bq l DU rfl CJ)  ?_)
 exact Cg.ok _ (by unfold Sd;rw [a];rfl) rfl q
def Wa (l:List Int) (n:Int) (t:Nat):C6:=⟨n,if 0<t then Do (l.getD 0 0) else 0,if 1<t then Do (l.getD 1 0) else 0,if 2<t then Do (l.getD 2 0) else 0,if 3<t then Do (l.getD 3 0) else 0⟩
theorem A2U (l:List Int) (n:Int) (i:Nat) (hi:i<4) (hl:i<l.length):(DI (Wa l n i)).toArray.setIfInBounds (1+i) (.int .i64 (Do l[i]))=(DI (Wa l n (i+1))).toArray:=by
 have e:l[i]=l.getD i 0:=by rw [BW,A7 hl];rfl
 rw [e]
 match i,hi with
 | 0,_=>rfl
 | 1,_=>rfl
 | 2,_=>rfl
 | 3,_=>rfl
theorem A2V {l:List Int} {n:Nat} (h:l.length=n) (hn:n<=4):Wa l n n=⟨n,Do (l.getD 0 0),Do (l.getD 1 0),Do (l.getD 2 0),Do (l.getD 3 0)⟩:=by
 have z:∀ i,n<=i->Do (l.getD i 0)=0:=λi hi=>by rw [BW,AK oO];rfl
 have c:∀ i,(if i<n then Do (l.getD i 0) else 0)=Do (l.getD i 0):=λi=>by
  split
  · rfl
  · rw [z i oO]
 unfold Wa
 rw [c 0,c 1,c 2,c 3]
theorem Kl (n:Nat) (h:FO B fs w bv F V args) (ha:args.length<=32) (hn:n<=4) :
  Calls Tryz.prog 69 #[.pointer (some ⟨bv,0,none⟩),.int .i64 (n:Int)] w (RT w (EG args n) λc=>.agg (DI c).toArray):=by
 refine W.e func69 rfl ntmps69 bL ?_
 have E:=EM (w.heap.size) w
 refine A4<|BV zeroValue37 rfl (λb1 ak G m L ah=>?_)
 have H:=uB E G L
 have ad:=Cq G E.size
 refine WL.e<|A4<|A2 rfl<|?_
 refine A0 (.build (cs:=(DI (Wa [] n 0)).toArray) rfl (by rw [A7X];rfl)) ?_
 refine BV zeroValue37 rfl (λy am q N s ai=>?_)
 have a4:=Bg q m.lt
 have a5:=m.un s a4
 have a6:=uB H q s
 have ae:=Cq q H.size
 refine Az rfl rfl N EJ rfl rfl (λw7 P u aj=>?_)
 have a7:=a5.up u
 have l:=CN a6 oO u
 refine WL.e<|Ah<|A4<|A2 rfl<|A2 rfl<|WL.cx AN rfl rfl ((F7 n (h.same l) ha oO)) (λa8 a9 f d=>?_) (λg an a9 f d=>?_)
 have v:=EZ l (Below.mono d l.size)
 exact Aw (Bn a8 (by unfold EG;rw [f];rfl) v)
 have Q:=a7.bl d.1
 have T:=P.bl d.1
 have U:=DJ l d.1
 obtain ⟨pn,cn,evn,J,aa,-⟩:=d.2.row
 subst evn
 have ab:=(Fl f).1
 have K:=J.ofI
 have ao:=K.lt
 refine A0 (.lenS Dh rfl)<|A2 rfl<|WL.e<|W.b<|Cj (α:=Nat) (λt=>[(4,.pointer (some ⟨b1,0,none⟩)),(5,.pointer (some ⟨y,0,none⟩)),(12,.slice pn g.length cn),(13,.int .i64 (g.length:Int)),(14,.int .i64 (t:Int))]) (λt w'=>Below w.heap.size w w'/\AF w' b1 (DI (Wa [] 0 0)).toArray 37/\AF w' y (DI (Wa g n t)).toArray 37/\AS DW w' pn g/\t<=n) (λt=>n-t) (0) ⟨rfl,rfl,rfl,rfl,rfl,tT⟩ (⟨U,Q,T,K,Gg _⟩) (λt w1 hR=>?_)
 obtain ⟨i,rfl⟩:∃ i,i=t:=⟨t,rfl⟩
 obtain ⟨q1,q2,q3,X,q5⟩:=hR
 refine A4<|A0 (.lss rfl rfl)<|WL.e<|Ah<|Ac rfl (λx=>?_) (λx=>?_)
 have Y:=dT x
 refine W.k<|Ah<|W.b<|A4<|A2 rfl<|A0 (.ixb Dh B5 rfl rfl (X.isp oD) (i) (rfl) oO)<|Ag (AO (Bw _) rfl (X.cells (i) oO))<|Dp rfl<|A9 rfl<|Ak<|A2 rfl<|A2 rfl<|A0 (.max2 rfl rfl)<|A0 (.iis (Do g[i]) (.min2 rfl rfl) (by unfold Do;(repeat' split) <;> omega))<|A0 (.fa GH rfl sizeOf35 dD rfl)<|A0 (.ixr1 UH B5 rfl rfl (i) (rfl) (CE (show i<n by omega) hn))<|C2 (o:=1+i) ((DI (Wa g n (i+1))).toArray) B5 rfl (EC _ _ _) rfl (rfl) q3 ((by show 1+i<5;omega)) (A2U g n i oO oO) (λac j a af=>?_)
 have j:AF ac y _ _:=j
 have a:BF y _ _:=a
 have a0:=q2.upd a oM
 have a1:=AS.upd X a (λh0=>by have:=aa _ (J.isp h0);omega)
 have a2:=CN q1 oO a
 refine WL.e<|Ak<|A0 (.iis (((i+1:Nat):Int)) (.add rfl rfl (Bp oO)) oO)<|A2 rfl<|WL.e<|?_
 exact ⟨i+1,⟨rfl,rfl,rfl,rfl,rfl,tT⟩,⟨a2,a0,j,a1,by omega⟩,by omega⟩
 have Y:=dF x
 refine C0<|A4<|Ag (BA rfl q3 GH rfl EJ)<|Az rfl rfl q2 EJ rfl rfl (λap C D ag=>?_)
 have a3:=CN q1 oO D
 refine WL.e<|Ai (C4 rfl rfl (Bq C GH rfl EJ)  ?_)
 obtain rfl:i=n:=by omega
 exact Cg.ok _ (by unfold EG;rw [f];exact Bc Except.ok (A2V ab hn).symm) rfl a3
end
end
section
section
variable {P:Program} {n:Sh} {f:Fr}
theorem St  {t ty:TypeId} {i:TypeInfo} (ht:P.underlying t=some (.slice e)) (hi:P.info? e=some i) (hz:i.zero=some z) (hsize:i.size=1) (hby:i.bytes=by') (hby2:by'<=16) (hzs:z.cells.size=1)
 (hown:w.ownsRow B e 1 v m xs) {a:Addr} {u:Value} (hnews:∀ j y,[u][j]?=some y->w.cell? (a.add j)=some y) (h1:u.oneCell'=true) (hm:m<=1000000000) {w':World}
    (hr:(Builtin.append_ #[t,t] ty #[v,.slice (some a) 1 c]).run P w=.ok v' w'):∀ g,v'.ownBlock=some g->v.ownBlock=some g\/w.heap.size<=g:=by
  have s:(m+1) * by'<=(m+1) * 16:=Nat.mul_le_mul_left _ hby2
  rcases hown.2 with ⟨rfl,rfl⟩ | ⟨g,cap,cur,rfl,x,hg,A,C,l,o⟩
  · have hx : xs = [] := Cz (by simpa using hown.1)
    subst hx
    obtain ⟨D,E,b,q,-,-⟩:=run_append_own (P:=P) (w:=w) w.heap.size t ty e i z 1 by' ht hi hz hsize hby hzs dD (.slice none 0 0) 0 [] (World.ownsRow_nil w w.heap.size e 1) a 1 c [u] rfl hnews (by simpa using h1) (by unfold maxLen;omega) oO (FL _)
    have he:=hr.symm.trans b
    simp only [Result.ok.injEq] at he
    obtain ⟨rfl,rfl⟩:=he
    intro g hg
    exact .inr (q.lt g hg).1
  · by_cases hroom : m + 1 ≤ cap
    · have f : m * i.size + [u].length ≤ cur.size := by rw [hsize]; have : cur.size = cap * 1 := l; simp; omega
      have b:=run_append_room (P:=P) w t ty e i ht hi g m cap cur hg a 1 c [u] (by rw [hsize];rfl) hnews (by simpa using h1) hroom f
      have he:=hr.symm.trans b
      simp only [Result.ok.injEq] at he
      obtain ⟨rfl,rfl⟩:=he
      intro k hk
      exact .inl (by simpa [Value.ownBlock] using hk)
    · have d : ∀ j u, xs[j]? = some u → w.cell? ((⟨g, 0, none⟩ : Addr).add j) = some u := hown.cells (g := g) rfl
      have b:=run_append_grow (P:=P) w t ty e i z ht hi hz ⟨g,0,none⟩ m cap xs (by rw [hsize];exact hown.1) d a 1 c [u] (by rw [hsize];rfl) hnews oO oO (growslice_fits oO (by rw [hby];omega))
      have he:=hr.symm.trans b
      simp only [Result.ok.injEq] at he
      obtain ⟨rfl,rfl⟩:=he
      intro k hk
      simp only [Value.ownBlock,Bm] at hk
      exact .inr oO
theorem A3j  {Q:Exit->Fr->World->Prop} {rest:List Oper} {ty:Nat} {s:Operand} {t:TypeId} {u:Value} {b:Nat}
    (ht:P.underlying t=some (.slice e)) (hi:(P.info? e).map (λi=>(i.zero,i.size,i.bytes))=some (some z,1,by')) (hby2:Nat.ble by' 16=true) (hzs:z.cells.size=1)
    (hs:D0 f s=some v) (hown:Cc e B w v xs) (hx:D0 f x=some (.slice (some ⟨b,0,none⟩) 1 c)) (hb:AF w b #[u] tb) (h1:u.oneCell'=true)
    (hn:xs.length<=1000000000) (hB:B<=w.heap.size) (hd:Nat.blt d n.n=true)
    (k:∀ v' w',Cc e B w' v' (xs++[u])->Below B w w'->w.grownBy w' v.ownBlock->(∀ g,v'.ownBlock=some g->v.ownBlock=some g\/w.heap.size<=g)->WL P n ops Q rest ((d,v')::f) w') :
    WL P n ops Q (⟨some d,.call ⟨.builtin .append,#[s,x],#[t,t]⟩,ty,pos,aft,none⟩::rest) f w:=by
  cases hh:P.info? e with
  | none=>rw [hh] at hi;cases hi
  | some i =>
    rw [hh] at hi;simp only [Option.map_some,Bm,CQ] at hi;obtain ⟨hz,a,o⟩:=hi;have m:by'<=16:=by simpa using hby2
    have l:∀ j y,[u][j]?=some y->w.cell? ((⟨b,0,none⟩:Addr).add j)=some y:=λj y hj=>by
      have C:j=0:=by
        rcases Ho j with h | h
        · exact h
        · rw [AK (by simp;omega)] at hj;cases hj
      subst C;simp only [List.getElem?_cons_zero,Bm] at hj;subst hj;rw [EU,hb.cell 0];rfl
    have G:(xs.length+1) * by'<=(xs.length+1) * 16:=Nat.mul_le_mul_left _ m
    obtain ⟨v',w',q,D,A,-⟩:=run_append_own (P:=P) (w:=w) B t ty e i z 1 by' ht hh hz a o hzs dD v xs.length xs hown ⟨b,0,none⟩ 1 c [u] rfl l (by simpa using h1) (by unfold maxLen;omega) oO hB
    have E:=St (P:=P) ht hh hz a o m hzs hown l h1 hn q;refine WL.run hd (w':=w') (v:=v') (λρ hρ=>?_) (k v' w' ?_ ((EM _ _).grown A hB λk hk=>(hown.lt k hk).1) A E)
    · unfold execOp
      simp only [resolve,invoke,builtin,BB,CX,B6,List.map_toArray,Co,DT,hρ _ _ hs,hρ _ _ hx,q]
    · have F : (xs ++ [u]).length = xs.length + 1 := by simp
      unfold Cc;rw [F];exact D
end
end
section
abbrev VwE (B:Nat) (fs:PZ) (bv:Nat) (F:Nat->Prop) (w:World) (res:Except Int Vw) (args:List PV):Ending->World->Prop :=
 Hk 30 res (λV1 v w'=>v=.tuple #[]/\∃ F1,FO B fs w' bv F1 V1 args/\Df F F1 w w') (λw'=>Below B w w')
theorem Dj.list  {x:PC} {o:PV} (h:Dj w Z x o):∃ cs,AD Nb 99 0 w (.slice x.lp x.ll x.lc) cs/\x.ll=cs.length/\Be Nb w x.lp cs/\(0<cs.length->Z (pA x.lp).block)/\Y9 Z w cs (N8 o):=by
 cases h with
 | mk x keys list cs hk hr hlen hsub =>
  obtain ⟨ho,hz⟩:=hr
  obtain ⟨p,c,e,a,-,-,-,b,-⟩:=ho.row
  simp only [Value.slice.injEq] at e
  obtain ⟨rfl,d,rfl⟩:=e
  exact ⟨cs,ho,d,a,λf=>hz _ (by rw [b,a.isp f];rfl),hlen,hsub⟩
theorem Vk:∀ {l:List PV},(∀ j (h:j<l.length),(Ep l[j]).2=true/\0<=(Ep l[j]).1)->PK l=.ok (l.map λo=>(Ep o).1)
 | [],_=>rfl
 | o::r,h=>by
  have h0:=h 0 (by simp)
  simp only [AX] at h0
  have ih:=Vk (l:=r) λj hj=>by have:=h (j+1) (by simpa using hj);simpa using this
  show (CH ((Ep o).2 && decide ((Ep o).1 ≥ 0))>>=λ_=>PK r>>=λl=>pure ((Ep o).1::l))=_
  rw [h0.1,Aj h0.2,ih];rfl
theorem U2:∀ {l:List PV} (j:Nat) (h:j<l.length),((Ep l[j]).2 && decide ((Ep l[j]).1 ≥ 0))=false->PK l=.error 22
 | o::r,0,_,h=>by
  simp only [AX] at h
  show (CH ((Ep o).2 && decide ((Ep o).1 ≥ 0))>>=λ_=>PK r>>=λl=>pure ((Ep o).1::l))=_
  rw [h];rfl
 | o::r,j+1,hj,h=>by
  have ih:=U2 (l:=r) j (by simpa using hj) (by simpa using h)
  show (CH ((Ep o).2 && decide ((Ep o).1 ≥ 0))>>=λ_=>PK r>>=λl=>pure ((Ep o).1::l))=_
  rw [ih]
  cases hw:CH ((Ep o).2 && decide ((Ep o).1 ≥ 0)) with
  | error k=>rw [(Db hw).2];rfl
  | ok u=>rfl
theorem YU {V:Vw} {args:List PV} (h:∀ a b,args=[a,b]->N9 a=6->False):Oe V args=.error 22:=by
 unfold Oe
 split
 ·
  next a b =>
  have:N9 a≠6:=λe=>h a b rfl e
  rw [Al this];rfl
 · rfl
def A8o (p:Dz) (l:List Int) (ph:Int):Dz:={ p with pfDash:=none,fDash:=l,cfDash:=0,fPhase:=ph }
theorem A6K {V:Vw} {args:List PV} (h:args.length=2) (h6:N9 args[0]=6) :
  Oe V args=(do
   CH ((Ep args[1]).2 && decide ((Ep args[1]).1 ≥ 0))
   let l <- PK (N8 args[0])
   CH (decide (l.length<=11) && (decide (l.length=0) || decide (FM l > 0)))
   return { V with s:={ V.s with pen:=A8o V.s.pen l (Ep args[1]).1 } }):=by
 match args,h with
 | [a,b],_ =>
  have h6:N9 a=6:=h6
  show (CH (decide (N9 a=6))>>=λ_=>_)=_
  rw [Aj h6];rfl
theorem OE (l:List Int) (x:Int):FM (l++[x])=FM l+x:=by unfold FM;rw [List.foldl_append];rfl
theorem A4g {o:PV} (h:(Ep o).2=true):(Ep o).1<=2147483647:=(MW (Mw h)).2
def IQ (cs:List PC) (i:Nat):List Int:=(cs.take i).map λx=>(GM x.kind x.n).1
theorem Nh {cs:List PC} (h:i<cs.length):IQ cs (i+1)=IQ cs i++[(GM cs[i].kind cs[i].n).1]:=by
 unfold IQ;rw [B7 h,BC];rfl
theorem T5 {cs:List PC} (h:i<=cs.length):(IQ cs i).length=i:=by unfold IQ;rw [BD,AT];omega
theorem Yx {k n:Int} (h:(GM k n).2=true):(GM k n).1<=2147483647:=A4g (o:=.mk k n [] [] []) h
theorem Yl {cs:List PC}:∀ {i:Nat},i<=cs.length->(∀ j (h:j<cs.length),j<i->(GM cs[j].kind cs[j].n).2=true/\0<=(GM cs[j].kind cs[j].n).1)->0<=FM (IQ cs i)/\FM (IQ cs i)<=2147483647 * i
 | 0,_,_=>by unfold IQ;rw [A5M];decide
 | i+1,h,hj=>by
  have ih:=Yl (i:=i) oO λj h1 h2=>hj j h1 oO
  have h1:=hj i oO oO
  have h2:=Yx h1.1
  rw [Nh oO,OE]
  omega
section
variable {B:Nat} {fs:PZ} {w:World} {bv:Nat} {F:Nat->Prop} {V:Vw} {args:List PV}
theorem FO.base (h:FO B fs w bv F V args):B<=bv/\B<=w.heap.size:=by
 obtain ⟨H,vp,its,hs,cs,rfl,hO,-⟩:=h.mem
 exact ⟨hO.lbv,hO.pth.base⟩
theorem A3H (h:FO B fs w bv F V args) (ha:args.length<=32) (hb:∀ a∈args,(N8 a).length<=65535) :
  Calls Tryz.prog 68 #[.pointer (some ⟨bv,0,none⟩)] w (VwE B fs bv F w (Oe V args) args):=by
 obtain ⟨cq,cr⟩:=h.base
 obtain ⟨H,vp,its,hs,cs,rfl,hO,hR⟩:=h.mem
 have a4:=hO.blk
 have aL:=hR.ar
 have ct:=hO.oa
 obtain ⟨s,fo,sa,pa,cl,it,lo,te,li,ar,itv⟩:=H
 obtain ⟨p,c,e,hr,-⟩:=ct.row
 simp only at e
 subst e
 have aM:=aL.1
 have ax:=aL.kn
 have d3:=hr.lt
 have cX:=a4.lt
 have K:∀ w1,AB w.heap.size [bv] w w1->Below B w w1:=λw1 hK=>hK.below cr (by simpa using cq)
 refine W.e func68 rfl ntmps68 bL ?_
 have aE:=AB.refl w.heap.size ([bv]) w
 refine D4 (α:=Unit) (λt=>[(0,.pointer (some ⟨bv,0,none⟩))]) (λt w'=>AB w.heap.size [bv] w w'/\AF w' bv (Fh ⟨s,fo,sa,pa,cl,it,lo,te,li,.slice p cs.length c,itv⟩).toArray 74/\Be Nb w' p cs/\∃ a5:cs.length=2,cs[0].kind=6) ?_ (λt w1 hR=>?_)
 refine Ak<|A2 rfl<|A0 (.nck rfl)<|A0 (.fa BL rfl EO dD rfl)<|Ag (Ad (GN _) rfl a4 rfl)<|A0 (.lenS EY rfl)<|A0 (.eql rfl rfl)<|A2 rfl<|B1 rfl rfl rfl (λu=>?_) (λu=>?_)
 have cu:=dT u
 refine A2 rfl<|As u<|A0 (.nck rfl)<|As u<|A0 (.fa BL rfl EO dD rfl)<|As u<|Ag (Ad (GN _) rfl a4 rfl)<|As u<|A0 (.ixm EY Il rfl rfl (hr.isp oC) 0 rfl oO)<|As u<|A0 (.fa CB rfl B5 dD rfl)<|As u<|Ag (AO (Bw _) rfl ((hr.field (0) oC 0 dD).trans rfl))<|As u<|A0 (.eql rfl rfl)<|A0 (.pkT rfl u rfl)<|Bk AN rfl rfl ((Dc _ _)) (λk4 w2 aB d=>?_) (λa3 w2 aB d=>?_)
 have b6:=kB aE d
 obtain ⟨v,rfl⟩:=Db aB
 exact Aw (Dq 22 (YU λa b ho h6=>by
  subst ho;have a5:cs.length=2:=aM;obtain ⟨q1,q2,-⟩:=ax 0 oO (by simp);simp only [AX] at q1 q2
  first
   | omega
   | (rw [Aq] at v;omega)) (K _ b6))
 have cv:=a4.bl d
 have cw:=I8 hr d (λf=>hr.lt f)
 have cy:=kB aE d
 have d:=DX aB
 have a5:cs.length=2:=by first | exact CM d dD | omega
 have aF:cs[0].kind=6:=by first | exact CM d dD | exact dT d
 refine WL.e<|?_
 exact ⟨(),⟨rfl,tT⟩,cy,cv,cw,a5,aF⟩
 have cu:=dF u
 refine Aa u<|Aa u<|Aa u<|Aa u<|Aa u<|Aa u<|Aa u<|A0 (.pkF rfl u rfl)<|Bk AN rfl rfl ((Dc _ _)) (λd4 w8 aC ay=>?_) (λa9 w8 aC ay=>?_)
 have b7:=kB aE ay
 obtain ⟨v,rfl⟩:=Db aC
 exact Aw (Dq 22 (YU λa b ho h6=>by
  subst ho;have a5:cs.length=2:=aM;obtain ⟨q1,q2,-⟩:=ax 0 oO (by simp);simp only [AX] at q1 q2
  first
   | omega
   | (rw [Aq] at v;omega)) (K _ b7))
 have bw:=a4.bl ay
 have bx:=I8 hr ay (λf=>hr.lt f)
 have bz:=kB aE ay
 have d:=DX aC
 have a5:cs.length=2:=by first | exact CM d dD | omega
 have aF:cs[0].kind=6:=by first | exact CM d dD | exact dT d
 refine WL.e<|?_
 exact ⟨(),⟨rfl,tT⟩,bz,bw,bx,a5,aF⟩
 obtain ⟨j1,j2,j3,a5,aF⟩:=hR
 have cz:args.length=2:=by omega
 have hD:=A6K (V:=V) cz (by have:=(ax 0 oO oO).1;omega)
 have cA:GM cs[1].kind cs[1].n=Ep args[1]:=by rw [<- OS,(ax 1 oO oO).1,(ax 1 oO oO).2.1]
 generalize Ep args[1]=ph at *
 obtain ⟨ph,phB⟩:=ph
 simp only at hD
 refine A4<|A2 rfl<|A0 (.nck rfl)<|A0 (.fa BL rfl EO dD rfl)<|Ag (Ad (GN _) rfl j2 rfl)<|A0 (.ixm EY Il rfl rfl (j3.isp oC) 1 rfl oO)<|Ag (DP CB rfl B2 j3 (1) oC rfl)<|WL.c1 AN rfl rfl ((JV cs[1] _)) (λd5 aD=>?_)
 have aN:=j2.bl aD
 have af:=I8 j3 aD (λf=>j3.lt f)
 have ag:=kB j1 aD
 rw [cA]
 refine A2 rfl<|A0 (.ext rfl rfl)<|A0 (.ext rfl rfl)<|Dp rfl<|A9 rfl<|D4 (α:=Unit) (λt=>[(0,.pointer (some ⟨bv,0,none⟩)),(2,.int .i64 ph)]) (λt w'=>AB w.heap.size [bv] w w'/\AF w' bv (Fh ⟨s,fo,sa,pa,cl,it,lo,te,li,.slice p cs.length c,itv⟩).toArray 74/\Be Nb w' p cs/\phB=true/\0<=ph) ?_ (λt w1 hR=>?_)
 refine Ak<|A2 rfl<|A2 rfl<|B1 rfl rfl rfl (λaz=>?_) (λaz=>?_)
 refine A2 rfl<|As az<|A0 (.geq rfl rfl)<|A0 (.pkT rfl az rfl)<|Bk AN rfl rfl ((Dc _ _)) (λd6 cB ah a6=>?_) (λd7 cB ah a6=>?_)
 have aO:=kB ag a6
 obtain ⟨v,rfl⟩:=Db ah
 exact Aw (Dq 22 (by rw [hD];exact Ax (by first | (rw [show (phB && decide (ph ≥ 0))=false by simp_all];rfl))) (K _ aO))
 have bA:=aN.bl a6
 have bB:=I8 af a6 (λf=>af.lt f)
 have bC:=kB ag a6
 refine WL.e<|?_
 have d:=DX ah
 have P:phB=true:=by first | exact CM d dD | assumption
 have Q:0<=ph:=by first | exact CM d dD | exact dT d
 exact ⟨(),⟨rfl,rfl,tT⟩,bC,bA,bB,P,Q⟩
 refine Aa az<|A0 (.pkF rfl az rfl)<|Bk AN rfl rfl ((Dc _ _)) (λd8 cC ai a7=>?_) (λd9 cC ai a7=>?_)
 have aP:=kB ag a7
 obtain ⟨v,rfl⟩:=Db ai
 exact Aw (Dq 22 (by rw [hD];exact Ax (by first | (rw [show (phB && decide (ph ≥ 0))=false by simp_all];rfl))) (K _ aP))
 have bD:=aN.bl a7
 have bE:=I8 af a7 (λf=>af.lt f)
 have bG:=kB ag a7
 refine WL.e<|?_
 have d:=DX ai
 have P:phB=true:=by first | exact CM d dD | assumption
 have Q:0<=ph:=by first | exact CM d dD | exact dT d
 exact ⟨(),⟨rfl,rfl,tT⟩,bG,bD,bE,P,Q⟩
 obtain ⟨j4,j5,j6,P,Q⟩:=hR
 obtain ⟨ce,da,db,bu,aQ,x⟩:=(aL.2 0 oO oO).list
 have bH:=rk_ bu j4 (λf=>⟨(aQ f).1,λhm=>(aQ f).2.1 (.inl (by simpa using hm))⟩)
 have bI:=bu.lt
 have cY:0<ce.length->(pA cs[0].lp).block≠bv:=λf e=>(aQ f).2.1 (.inl e)
 have dc:ce.length<=65535:=by have:=x.1;have:=hb _ (AJ (by omega:0<args.length));omega
 rw [P,Aj Q,AG (show CH (true && true)=.ok () from rfl)] at hD
 refine A4<|A9 rfl<|A4<|A9 rfl<|Ah<|A4<|A2 rfl<|A0 (.nck rfl)<|A0 (.fa BL rfl EO dD rfl)<|Ag (Ad (GN _) rfl j5 rfl)<|A0 (.ixm EY Il rfl rfl (j6.isp oC) 0 rfl oO)<|A0 (.fa CB rfl EO dD rfl)<|Ag (AO (GN _) rfl ((j6.field (0) oC 4 dD).trans rfl))<|A0 (.lenS EY rfl)<|A2 rfl<|WL.e<|W.b<|Cj (α:=Value × Nat) (λt=>[(0,.pointer (some ⟨bv,0,none⟩)),(2,.int .i64 ph),(4,t.1),(5,.int .i64 (FM (IQ ce t.2))),(49,.slice cs[0].lp cs[0].ll cs[0].lc),(50,.int .i64 (cs[0].ll:Int)),(51,.int .i64 (t.2:Int))]) (λt w'=>AB w.heap.size [bv] w w'/\AF w' bv (Fh ⟨s,fo,sa,pa,cl,it,lo,te,li,.slice p cs.length c,itv⟩).toArray 74/\Be Nb w' cs[0].lp ce/\Cc 3 w.heap.size w' t.1 ((IQ ce t.2).map DW)/\t.2<=ce.length/\∀ j (h:j<ce.length),j<t.2->(GM ce[j].kind ce[j].n).2=true/\0<=(GM ce[j].kind ce[j].n).1) (λt=>ce.length-t.2) ((_,0)) ⟨rfl,rfl,rfl,rfl,rfl,rfl,rfl,tT⟩ (⟨j4,j5,bH,Cc.nil _ _ _,Gg _,λj _ h=>CM h oO⟩) (λt w1 hR=>?_)
 obtain ⟨⟨sv,i⟩,cD⟩:∃ i,i=t:=⟨t,rfl⟩
 subst cD
 obtain ⟨q1,q2,q3,q4,q5,q6⟩:=hR
 simp only at q4 q5 q6
 have aj:w.heap.size<=w1.heap.size:=q1.size
 have bJ:=Cc.ltV q4
 have bK:=Yl q5 q6
 refine A4<|A0 (.lss rfl rfl)<|WL.e<|Ah<|Ac rfl (λaR=>?_) (λaR=>?_)
 have bM:=dT aR
 refine W.k<|Ah<|W.b<|A4<|A0 (.ixm EY Il rfl rfl (q3.isp oC) (i) (rfl) oO)<|Ag (DP CB rfl B2 q3 (i) oC rfl)<|BV Jg rfl (λdd cZ ak b8 T cP=>?_)
 have b9:=AW aj T.size
 have bN:=Cc.new q4 ak T
 have bO:=Bg ak q2.lt
 have bP:=q2.un T bO
 have aG:=λf=>ak▸q3.lt f
 have bQ:=Be.upd q3 T (λf=>Js (aG f))
 have aS:=Cq ak q1.size
 have bR:=DA q1 (Hf T aS)
 refine Az rfl rfl b8 B2 rfl rfl (λde ba X cQ=>?_)
 have bb:=AW b9 X.size
 have bS:=Cc.upd bN X ((λg hg e=>by have:=(bJ g hg);omega))
 have bT:=bP.up X
 have aT:=Be.upd bQ X (λf=>Js (aG f))
 have bU:=kU bR X
 refine WL.e<|A4<|Ag (BA rfl ba CB rfl B2)<|WL.c1 AN rfl rfl ((JV ce[i] _)) (λdf a8=>?_)
 have aH:=AW bb a8.size
 have aU:=Cc.below bS a8
 have aV:=bT.bl a8
 have am:=I8 aT a8 (λf=>aT.lt f)
 have an:=kB bU a8
 refine A2 rfl<|A0 (.ext rfl rfl)<|A0 (.ext rfl rfl)<|Dp rfl<|A9 rfl<|D4 (α:=Unit) (λt=>[(0,.pointer (some ⟨bv,0,none⟩)),(2,.int .i64 ph),(4,sv),(5,.int .i64 (FM (IQ ce i))),(8,.int .i64 (GM ce[i].kind ce[i].n).1),(49,.slice cs[0].lp cs[0].ll cs[0].lc),(50,.int .i64 (cs[0].ll:Int)),(51,.int .i64 (i:Int))]) (λt w'=>AB w.heap.size [bv] w w'/\AF w' bv (Fh ⟨s,fo,sa,pa,cl,it,lo,te,li,.slice p cs.length c,itv⟩).toArray 74/\Be Nb w' cs[0].lp ce/\Cc 3 w.heap.size w' sv ((IQ ce i).map DW)/\(GM ce[i].kind ce[i].n).2=true/\0<=(GM ce[i].kind ce[i].n).1) ?_ (λt w1 hR=>?_)
 refine Ak<|A2 rfl<|A2 rfl<|B1 rfl rfl rfl (λaA=>?_) (λaA=>?_)
 refine A2 rfl<|As aA<|A0 (.geq rfl rfl)<|A0 (.pkT rfl aA rfl)<|Bk AN rfl rfl ((Dc _ _)) (λdg cE ao G=>?_) (λdh cE ao G=>?_)
 have aW:=kB an G
 obtain ⟨v,rfl⟩:=Db ao
 have E:i<(N8 args[0]).length:=by have:=x.1;omega
 have aX:Ep (N8 args[0])[i]=GM ce[i].kind ce[i].n:=by rw [<- OS,(x.kn i oO E).1,(x.kn i oO E).2.1]
 exact Aw (Dq 22 (by rw [hD];exact Ax (U2 i E (by rw [aX];simp_all))) (K _ aW))
 have cR:=AW aH G.size
 have bV:=Cc.below aU G
 have bW:=aV.bl G
 have bX:=I8 am G (λf=>am.lt f)
 have bY:=kB an G
 refine WL.e<|?_
 have d:=DX ao
 have P:(GM ce[i].kind ce[i].n).2=true:=by first | exact CM d dD | assumption
 have Q:0<=(GM ce[i].kind ce[i].n).1:=by first | exact CM d dD | exact dT d
 exact ⟨(),⟨rfl,rfl,rfl,rfl,rfl,rfl,rfl,rfl,tT⟩,bY,bW,bX,bV,P,Q⟩
 refine Aa aA<|A0 (.pkF rfl aA rfl)<|Bk AN rfl rfl ((Dc _ _)) (λdi cF ap J=>?_) (λdj cF ap J=>?_)
 have aY:=kB an J
 obtain ⟨v,rfl⟩:=Db ap
 have E:i<(N8 args[0]).length:=by have:=x.1;omega
 have aX:Ep (N8 args[0])[i]=GM ce[i].kind ce[i].n:=by rw [<- OS,(x.kn i oO E).1,(x.kn i oO E).2.1]
 exact Aw (Dq 22 (by rw [hD];exact Ax (U2 i E (by rw [aX];simp_all))) (K _ aY))
 have cS:=AW aH J.size
 have bZ:=Cc.below aU J
 have b':=aV.bl J
 have c0:=I8 am J (λf=>am.lt f)
 have c2:=kB an J
 refine WL.e<|?_
 have d:=DX ap
 have P:(GM ce[i].kind ce[i].n).2=true:=by first | exact CM d dD | assumption
 have Q:0<=(GM ce[i].kind ce[i].n).1:=by first | exact CM d dD | exact dT d
 exact ⟨(),⟨rfl,rfl,rfl,rfl,rfl,rfl,rfl,rfl,tT⟩,c2,b',c0,bZ,P,Q⟩
 obtain ⟨n1,n2,n3,n4,n5,n6⟩:=hR
 have bc:w.heap.size<=w1.heap.size:=n1.size
 have c4:=Cc.ltV n4
 have c':=Yx n5
 refine A4<|A2 rfl<|A2 rfl<|Ct (ps:=_) Dh B5 PG rfl rfl rfl rfl rfl pR rfl (λdk d0 aq bd a0 cT=>?_)
 have aI:=AW bc a0.size
 have c5:=Cc.new n4 aq a0
 have c6:=Bg aq n2.lt
 have c7:=n2.un a0 c6
 have be:=λf=>aq▸n3.lt f
 have c8:=Be.upd n3 a0 (λf=>Js (be f))
 have aZ:=Cq aq n1.size
 have a':=DA n1 (Hf a0 aZ)
 refine A3j Dh VL rfl rfl rfl c5 rfl bd rfl (by rw [BD,T5 q5];omega) (aI) rfl (λdl dm bf au bg cU=>?_)
 have c9:=c7.below au oO
 have ca:=I8 c8 au bI
 have cb:=DA a' (C1 bg (λg hg=>.inr (c4 g hg).1) a'.size)
 have cV:=AW aI au.size
 refine A9 rfl<|Ak<|A2 rfl<|A2 rfl<|A0 (.iis (FM (IQ ce (i+1))) (.add rfl rfl (Bp oO)) (by rw [Nh oO,OE]))<|A9 rfl<|Ak<|A0 (.iis (((i+1:Nat):Int)) (.add rfl rfl (Bp oO)) oO)<|A2 rfl<|WL.e<|?_
 exact ⟨(_,i+1),⟨rfl,rfl,rfl,rfl,rfl,rfl,rfl,tT⟩,⟨cb,c9,ca,by rw [Nh oO,BC];exact bf,by ((try simp only) <;> omega),λj h hj=>by
  rcases Cb.1 hj with h2 | rfl;exact q6 j h h2;exact ⟨n5,n6⟩⟩,by ((try simp only) <;> omega)⟩
 have bM:=dF aR
 have E:i=ce.length:=by omega
 have hq4L:(IQ ce i)=(N8 args[0]).map λo=>(Ep o).1:=by
  have:=Bc (List.map Prod.fst) x.nums;rw [List.map_map,List.map_map] at this;subst E;unfold IQ;rw [Cs];exact this
 have hP:=Vk (l:=N8 args[0]) (λj hj=>by
  have b0:j<ce.length:=by have:=x.1;omega
  rw [show Ep (N8 args[0])[j]=GM ce[j].kind ce[j].n by rw [<- OS,(x.kn j b0 hj).1,(x.kn j b0 hj).2.1]];exact q6 j b0 oO)
 rw [<- hq4L] at hP
 rw [AG hP] at hD
 obtain ⟨L,hL⟩:∃ L,L=IQ ce i:=⟨_,rfl⟩
 have dn:L.length=ce.length:=by rw [hL,T5 q5];exact E
 have dp:FM L=FM (IQ ce i):=by rw [hL]
 rw [<- hL] at hD bK q4
 obtain ⟨po,co,cc,dq,-⟩:=(AD.ofI q4).row
 subst cc
 refine C0<|D4 (α:=Unit) (λt=>[(0,.pointer (some ⟨bv,0,none⟩)),(2,.int .i64 ph),(4,.slice po L.length co)]) (λt w'=>AB w.heap.size [bv] w w'/\AF w' bv (Fh ⟨s,fo,sa,pa,cl,it,lo,te,li,.slice p cs.length c,itv⟩).toArray 74/\AD RV 3 w.heap.size w' (.slice po L.length co) L/\(decide (L.length<=11) && (decide (L.length=0) || decide (FM L > 0)))=true) ?_ (λt w1 hR=>?_)
 refine Ak<|A2 rfl<|A0 (.lenS Dh rfl)<|A0 (.leq rfl rfl)<|A2 rfl<|B1 rfl rfl rfl (λq=>?_) (λq=>?_)
 have cd:=dT q
 refine A2 rfl<|As q<|A0 (.lenS Dh rfl)<|As q<|A0 (.eql rfl rfl)<|As q<|A2 rfl<|B1 rfl rfl rfl (λaa=>?_) (λaa=>?_)
 have cf:=dF aa
 refine A2 rfl<|As aa<|A0 (.gtr rfl rfl)<|As q<|A0 (.pkF rfl aa rfl)<|A0 (.pkT rfl q rfl)<|Bk AN rfl rfl ((Dc _ _)) (λdr cG av a1=>?_) (λds cG av a1=>?_)
 have b1:=kB q1 a1
 obtain ⟨v,rfl⟩:=Db av
 exact Aw (Dq 22 (by rw [hD];exact Ax (by
  have hx:¬ (decide (L.length<=11) && (decide (L.length=0) || decide (FM L > 0)))=true:=λhh=>by
   simp only [A3,Bo,Ab] at hh
   (simp only [Aq] at v;omega)
  rw [Ka.2 hx];rfl)) (K _ b1))
 have cW:=AW aj a1.size
 have cg:=Cc.below q4 a1
 have ci:=q2.bl a1
 have cj:=kB q1 a1
 have ab:(decide (L.length<=11) && (decide (L.length=0) || decide (FM L > 0)))=true:=by
  have f:=DX av
  (simp only [A3,Bo,Ab] at f ⊢;omega)
 refine WL.e<|?_
 exact ⟨(),⟨rfl,rfl,rfl,tT⟩,cj,ci,AD.ofI cg,ab⟩
 have cf:=dT aa
 refine Aa aa<|As q<|A0 (.pkT rfl aa rfl)<|A0 (.pkT rfl q rfl)<|Bk AN rfl rfl ((Dc _ _)) (λdt cH aw a2=>?_) (λdu cH aw a2=>?_)
 have b2:=kB q1 a2
 obtain ⟨v,rfl⟩:=Db aw
 exact Aw (Dq 22 (by rw [hD];exact Ax (by
  have hx:¬ (decide (L.length<=11) && (decide (L.length=0) || decide (FM L > 0)))=true:=λhh=>by
   simp only [A3,Bo,Ab] at hh;exact CM v dD
  rw [Ka.2 hx];rfl)) (K _ b2))
 have cI:=AW aj a2.size
 have ck:=Cc.below q4 a2
 have bh:=q2.bl a2
 have bi:=kB q1 a2
 have ab:(decide (L.length<=11) && (decide (L.length=0) || decide (FM L > 0)))=true:=by
  have f:=DX aw
  (simp only [A3,Bo,Ab] at f ⊢;omega)
 refine WL.e<|?_
 exact ⟨(),⟨rfl,rfl,rfl,tT⟩,bi,bh,AD.ofI ck,ab⟩
 have cd:=dF q
 refine Aa q<|Aa q<|Aa q<|FN<|FN<|Aa q<|A0 (.pkF rfl q rfl)<|Bk AN rfl rfl ((Dc _ _)) (λd1 cm ac D=>?_) (λd2 cm ac D=>?_)
 have aK:=kB q1 D
 obtain ⟨v,rfl⟩:=Db ac
 exact Aw (Dq 22 (by rw [hD];exact Ax (by
  have hx:¬ (decide (L.length<=11) && (decide (L.length=0) || decide (FM L > 0)))=true:=λhh=>by
   simp only [A3,Bo,Ab] at hh
   omega
  rw [Ka.2 hx];rfl)) (K _ aK))
 have cJ:=AW aj D.size
 have bj:=Cc.below q4 D
 have bk:=q2.bl D
 have bm:=kB q1 D
 have ab:(decide (L.length<=11) && (decide (L.length=0) || decide (FM L > 0)))=true:=by
  have f:=DX ac;exact CM f dD
 refine WL.e<|?_
 exact ⟨(),⟨rfl,rfl,rfl,tT⟩,bm,bk,AD.ofI bj,ab⟩
 obtain ⟨m1,m2,m3,ab⟩:=hR
 have b3:=m3.lt
 have bn:w.heap.size<=w1.heap.size:=m1.size
 rw [ab,AG (show CH true=.ok () from rfl)] at hD
 refine Ak<|A2 rfl<|A2 rfl<|A2 rfl<|A2 rfl<|A0 (.nck rfl)<|A0 (.fa BL rfl Ey dD rfl)<|A0 (.fa Fb rfl MJ dD rfl)<|A0 (.fa CT rfl Hu dD rfl)<|C2 (o:=20) ((Fh ⟨{ s with pen:={ s.pen with pfDash:=po,fDash:=L,cfDash:=co } },fo,sa,pa,cl,it,lo,te,li,.slice p cs.length c,itv⟩).toArray) Hu rfl (rfl) rfl (rfl) m2 bL (rfl) (λcn ad y cK=>?_)
 have ad:AF cn bv _ _:=ad
 have y:BF bv _ _:=y
 have b4:=AW bn y.size
 have bo:=Ia m3 y ((λg hg e=>by have:=(b3 g hg);have:=a4.lt;omega))
 have bp:=kU m1 y
 refine A0 (.nck rfl)<|A0 (.fa BL rfl Ey dD rfl)<|A0 (.fa Fb rfl MJ dD rfl)<|A0 (.fa CT rfl B5 dD rfl)<|C2 (o:=21) ((Fh ⟨{ s with pen:={ s.pen with pfDash:=po,fDash:=L,cfDash:=co,fPhase:=ph } },fo,sa,pa,cl,it,lo,te,li,.slice p cs.length c,itv⟩).toArray) B5 rfl (rfl) rfl (rfl) ad bL (rfl) (λb5 ae C cL=>?_)
 have ae:AF b5 bv _ _:=ae
 have C:BF bv _ _:=C
 have cM:=AW b4 C.size
 have bq:=Ia bo C ((λg hg e=>by have:=(b3 g hg);have:=a4.lt;omega))
 have bt:=kU bp C
 refine WL.e<|BJ (Bt rfl ?_)
 have aJ:=bq
 refine GD _ _ hD rfl ⟨rfl,En hO bt ae (λm=>?_)⟩
 have hz:∀ g,(Value.slice po L.length co).ownBlock=some g->E3 fs.c (Gm bv _ vp) b5 g:=λg hg=>⟨(aJ.lt g hg).2,λhf=>by have:=(hO.inn g hf).2;have:=(aJ.lt g hg).1;omega,by have:=hR.cx;have:=(aJ.lt g hg).1;omega⟩
 obtain ⟨p3,c3,e3,cN⟩:=CC.own aJ hz
 cases e3
 have hq:=hR.mv m
 have cO:=hq.st.pen
 exact { hq with st:={ hq.st with pen:=(by rw [<- cO];rfl),penr:=cN } }
end
end
section
theorem Tm {l:List Int} {n:Nat} (h:l.length=n) (hi:i<n):l.getD i 0=l[i]'oO:=by
 rw [BW,A7 oO];rfl
section
variable {B:Nat} {fs:PZ} {w:World} {bv:Nat} {F:Nat->Prop} {V:Vw} {args:List PV}
theorem A3F (op:l8_) (h:FO B fs w bv F V args) (ha:args.length<=32) (hb:∀ a∈args,(N8 a).length<=65535) :
  Calls Tryz.prog 48 #[.pointer (some ⟨bv,0,none⟩),.string (bs op)] w (VwE B fs bv F w (HD V args op) args):=by
 obtain ⟨az,aA⟩:=h.base
 have h0:=h
 obtain ⟨H,vp,its,hs,cs,rfl,hO,hR⟩:=h.mem
 have N:=hO.blk
 obtain ⟨s,fo,sa,pa,cl,it,lo,te,li,ar,itv⟩:=H
 have a':=N.lt
 have i:∀ w1,AB w.heap.size [bv] w w1->Below B w w1:=λw1 hK=>hK.below aA (by simpa using az)
 refine W.e func48 rfl ntmps48 bL ?_
 have c:=AB.refl w.heap.size ([bv]) w
 refine A4<|A2 rfl<|WL.e<|W.b<|A4<|A0 (.eqs rfl rfl)<|A9 rfl<|Ac rfl (λh1=>?_) (λh1=>?_)
 have aB:=dT h1
 have hD:HD V args op=(do let l <- Dg args 1;CH (decide (l.getD 0 0 ≥ 0));return { V with s:={ V.s with pen:={ V.s.pen with fWidth:=l.getD 0 0 } } }):=A6 aS
 refine A4<|A2 rfl<|WL.cx AN rfl rfl ((F7 1 h0 ha oO)) (λk4 w2 j P=>?_) (λa3 x5 w2 j P=>?_)
 have ac:=kB c P
 exact Aw (Dq k4 (by rw [hD,Ax j]) (i _ ac))
 have aC:=N.bl P.1
 have ae:=kB c P.1
 obtain ⟨pn,cn,evn,a0,-⟩:=P.2.row
 subst evn
 have a1:=(Fl j).1
 have Q:=a0.ofI
 rw [AG j,Tm a1 dD] at hD
 obtain ⟨n0,T⟩:∃ n,n=a3[0]:=⟨_,rfl⟩
 rw [<- T] at hD
 refine A0 (.ixb Dh B5 rfl rfl (Q.isp oD) (0) (rfl) oO)<|Ag (Rd.iis (n0) (AO (Bw _) rfl (Q.cells (0) oO)) (by exact T.symm))<|A9 rfl<|A4<|A2 rfl<|A0 (.geq rfl rfl)<|Bk AN rfl rfl ((Dc _ _)) (λaD w8 U Y=>?_) (λa9 w8 U Y=>?_)
 have ad:=kB ae Y
 exact Aw (Dq aD (by rw [hD];exact Ax U) (i _ ad))
 have af:=aC.bl Y
 have ag:=kB ae Y
 rw [AG U] at hD
 refine WL.e<|Ak<|A2 rfl<|A2 rfl<|A0 (.nck rfl)<|A0 (.fa BL rfl Ey dD rfl)<|A0 (.fa Fb rfl MJ dD rfl)<|A0 (.fa CT rfl B5 dD rfl)<|C2 (o:=16) ((Fh ⟨{ s with pen:={ s.pen with fWidth:=n0 } },fo,sa,pa,cl,it,lo,te,li,ar,itv⟩).toArray) B5 rfl (rfl) rfl (rfl) af bL (rfl) (λaE k q aW=>?_)
 have k:AF aE bv _ _:=k
 have q:BF bv _ _:=q
 have ah:=kU ag q
 refine WL.e<|BJ (Bt rfl ?_)
 refine GD _ _ hD rfl ⟨rfl,En hO ah k (λm=>?_)⟩
 have hq:=hR.mv m
 have f:=hq.st.pen
 exact { hq with st:={ hq.st with pen:=(by rw [<- f];rfl),penr:=hq.st.penr } }
 have aB:=dF h1
 refine A4<|A0 (.eqs rfl rfl)<|A9 rfl<|Ac rfl (λa2=>?_) (λa2=>?_)
 have ai:=dT a2
 have hD:HD V args op=(do let n <- J0 args;return { V with s:={ V.s with pen:={ V.s.pen with fCap:=n } } }):=by unfold HD;rw [A1 aS,A6 aS]
 refine Ak<|A2 rfl<|A2 rfl<|Bk AN rfl rfl ((UD h0 ha)) (λaF aG t u=>?_) (λaH aG t u=>?_)
 have a4:=kB c u
 exact Aw (Dq aF (by rw [hD,Ax t]) (i _ a4))
 have aj:=N.bl u
 have ak:=kB c u
 rw [AG t] at hD
 refine A0 (.nck rfl)<|A0 (.fa BL rfl Ey dD rfl)<|A0 (.fa Fb rfl MJ dD rfl)<|A0 (.fa CT rfl B5 dD rfl)<|C2 (o:=17) ((Fh ⟨{ s with pen:={ s.pen with fCap:=aH } },fo,sa,pa,cl,it,lo,te,li,ar,itv⟩).toArray) B5 rfl (rfl) rfl (rfl) aj bL (rfl) (λaI v x aX=>?_)
 have v:AF aI bv _ _:=v
 have x:BF bv _ _:=x
 have al:=kU ak x
 refine WL.e<|BJ (Bt rfl ?_)
 refine GD _ _ hD rfl ⟨rfl,En hO al v (λm=>?_)⟩
 have hq:=hR.mv m
 have f:=hq.st.pen
 exact { hq with st:={ hq.st with pen:=(by rw [<- f];rfl),penr:=hq.st.penr } }
 have ai:=dF a2
 refine A4<|A0 (.eqs rfl rfl)<|A9 rfl<|Ac rfl (λa5=>?_) (λa5=>?_)
 have am:=dT a5
 have hD:HD V args op=(do let n <- J0 args;return { V with s:={ V.s with pen:={ V.s.pen with fJoin:=n } } }):=by unfold HD;rw [A1 aS,A1 aS,A6 aS]
 refine Ak<|A2 rfl<|A2 rfl<|Bk AN rfl rfl ((UD h0 ha)) (λaJ aK y A=>?_) (λaL aK y A=>?_)
 have a6:=kB c A
 exact Aw (Dq aJ (by rw [hD,Ax y]) (i _ a6))
 have an:=N.bl A
 have ao:=kB c A
 rw [AG y] at hD
 refine A0 (.nck rfl)<|A0 (.fa BL rfl Ey dD rfl)<|A0 (.fa Fb rfl MJ dD rfl)<|A0 (.fa CT rfl B5 dD rfl)<|C2 (o:=18) ((Fh ⟨{ s with pen:={ s.pen with fJoin:=aL } },fo,sa,pa,cl,it,lo,te,li,ar,itv⟩).toArray) B5 rfl (rfl) rfl (rfl) an bL (rfl) (λaM C D aY=>?_)
 have C:AF aM bv _ _:=C
 have D:BF bv _ _:=D
 have ap:=kU ao D
 refine WL.e<|BJ (Bt rfl ?_)
 refine GD _ _ hD rfl ⟨rfl,En hO ap C (λm=>?_)⟩
 have hq:=hR.mv m
 have f:=hq.st.pen
 exact { hq with st:={ hq.st with pen:=(by rw [<- f];rfl),penr:=hq.st.penr } }
 have am:=dF a5
 refine A4<|A0 (.eqs rfl rfl)<|A9 rfl<|Ac rfl (λa7=>?_) (λa7=>?_)
 have aq:=dT a7
 have hD:HD V args op=(do let l <- Dg args 1;CH (decide (l.getD 0 0 ≥ 65536));return { V with s:={ V.s with pen:={ V.s.pen with fMiter:=l.getD 0 0 } } }):=by unfold HD;rw [A1 aS,A1 aS,A1 aS,A6 aS]
 refine A4<|A2 rfl<|WL.cx AN rfl rfl ((F7 1 h0 ha oO)) (λaN aO d g=>?_) (λaP b0 aO d g=>?_)
 have a8:=kB c g
 exact Aw (Dq aN (by rw [hD,Ax d]) (i _ a8))
 have au:=N.bl g.1
 have aa:=kB c g.1
 obtain ⟨pn,cn,evn,a0,-⟩:=g.2.row
 subst evn
 have a1:=(Fl d).1
 have Q:=a0.ofI
 rw [AG d,Tm a1 dD] at hD
 obtain ⟨n0,T⟩:∃ n,n=aP[0]:=⟨_,rfl⟩
 rw [<- T] at hD
 refine A0 (.ixb Dh B5 rfl rfl (Q.isp oD) (0) (rfl) oO)<|Ag (Rd.iis (n0) (AO (Bw _) rfl (Q.cells (0) oO)) (by exact T.symm))<|A9 rfl<|A4<|A2 rfl<|A0 (.geq rfl rfl)<|Bk AN rfl rfl ((Dc _ _)) (λaQ aR E G=>?_) (λb1 aR E G=>?_)
 have ab:=kB aa G
 exact Aw (Dq aQ (by rw [hD];exact Ax E) (i _ ab))
 have av:=au.bl G
 have aw:=kB aa G
 rw [AG E] at hD
 refine WL.e<|Ak<|A2 rfl<|A2 rfl<|A0 (.nck rfl)<|A0 (.fa BL rfl Ey dD rfl)<|A0 (.fa Fb rfl MJ dD rfl)<|A0 (.fa CT rfl B5 dD rfl)<|C2 (o:=19) ((Fh ⟨{ s with pen:={ s.pen with fMiter:=n0 } },fo,sa,pa,cl,it,lo,te,li,ar,itv⟩).toArray) B5 rfl (rfl) rfl (rfl) av bL (rfl) (λaT J K aZ=>?_)
 have J:AF aT bv _ _:=J
 have K:BF bv _ _:=K
 have ax:=kU aw K
 refine WL.e<|BJ (Bt rfl ?_)
 refine GD _ _ hD rfl ⟨rfl,En hO ax J (λm=>?_)⟩
 have hq:=hR.mv m
 have f:=hq.st.pen
 exact { hq with st:={ hq.st with pen:=(by rw [<- f];rfl),penr:=hq.st.penr } }
 have aq:=dF a7
 have hD:HD V args op=Oe V args:=by unfold HD;rw [A1 aS,A1 aS,A1 aS,A1 aS]
 refine Ak<|A2 rfl<|WL.cx AN rfl rfl ((A3H h0 ha hb)) (λaU aV L X=>?_) (λb2 b3 aV L X=>?_)
 exact Aw (Dq aU (hD.trans L) X)
 obtain ⟨rfl,hF⟩:=X
 have ay:=hD.trans L
 refine WL.e<|BJ (Bt rfl ?_)
 exact GD _ _ ay rfl ⟨rfl,hF⟩
theorem Zh (op:l8_) (h:FO B fs w bv F V args) (ha:args.length<=32) :
  Calls Tryz.prog 49 #[.pointer (some ⟨bv,0,none⟩),.string (bs op)] w (VwE B fs bv F w (Eg V args op) args):=by
 obtain ⟨aq,au⟩:=h.base
 have U:=h
 obtain ⟨H,vp,its,hs,cs,rfl,hO,hR⟩:=h.mem
 have d:=hO.blk
 obtain ⟨s,fo,sa,pa,cl,it,lo,te,li,ar,itv⟩:=H
 have a':=d.lt
 have f:∀ w1,AB w.heap.size [bv] w w1->Below B w w1:=λw1 hK=>hK.below au (by simpa using aq)
 refine W.e func49 rfl ntmps49 bL ?_
 have a:=AB.refl w.heap.size ([bv]) w
 refine A4<|A2 rfl<|WL.e<|W.b<|A4<|A0 (.eqs rfl rfl)<|A9 rfl<|Ac rfl (λh1=>?_) (λh1=>?_)
 have av:=dT h1
 have hD:Eg V args op=(do let c <- EG args 1;return { V with s:={ V.s with fill:=c } }):=A6 aS
 refine Ak<|A2 rfl<|A2 rfl<|Bk AN rfl rfl ((Kl 1 U ha oO)) (λk4 w2 P T=>?_) (λa3 w2 P T=>?_)
 have a7:=kB a T
 exact Aw (Dq k4 (by rw [hD,Ax P]) (f _ a7))
 have aw:=d.bl T
 have ax:=kB a T
 rw [AG P] at hD
 refine A0 (.nck rfl)<|A0 (.fa BL rfl Ey dD rfl)<|A0 (.fa Fb rfl JH dD rfl)<|Eh (o:=6) ((Fh ⟨{ s with fill:=a3 },fo,sa,pa,cl,it,lo,te,li,ar,itv⟩).toArray) rfl (rfl) rfl aw EJ rfl bL (rfl) (λw7 Q R b0=>?_)
 have Q:AF w7 bv _ _:=Q
 have R:BF bv _ _:=R
 have ay:=kU ax R
 refine WL.e<|BJ (Bt rfl ?_)
 refine GD _ _ hD rfl ⟨rfl,En hO ay Q (λm=>?_)⟩
 have hq:=hR.mv m
 exact { hq with st:={ hq.st with fill:=rfl } }
 have av:=dF h1
 refine A4<|A0 (.eqs rfl rfl)<|A9 rfl<|Ac rfl (λh9=>?_) (λh9=>?_)
 have az:=dT h9
 have hD:Eg V args op=(do let c <- EG args 3;return { V with s:={ V.s with fill:=c } }):=by unfold Eg;rw [A1 aS,A6 aS]
 refine Ak<|A2 rfl<|A2 rfl<|Bk AN rfl rfl ((Kl 3 U ha oO)) (λaA aB g i=>?_) (λaC aB g i=>?_)
 have X:=kB a i
 exact Aw (Dq aA (by rw [hD,Ax g]) (f _ X))
 have a8:=d.bl i
 have a9:=kB a i
 rw [AG g] at hD
 refine A0 (.nck rfl)<|A0 (.fa BL rfl Ey dD rfl)<|A0 (.fa Fb rfl JH dD rfl)<|Eh (o:=6) ((Fh ⟨{ s with fill:=aC },fo,sa,pa,cl,it,lo,te,li,ar,itv⟩).toArray) rfl (rfl) rfl a8 EJ rfl bL (rfl) (λaD j k aV=>?_)
 have j:AF aD bv _ _:=j
 have k:BF bv _ _:=k
 have aa:=kU a9 k
 refine WL.e<|BJ (Bt rfl ?_)
 refine GD _ _ hD rfl ⟨rfl,En hO aa j (λm=>?_)⟩
 have hq:=hR.mv m
 exact { hq with st:={ hq.st with fill:=rfl } }
 have az:=dF h9
 refine A4<|A0 (.eqs rfl rfl)<|A9 rfl<|Ac rfl (λY=>?_) (λY=>?_)
 have ab:=dT Y
 have hD:Eg V args op=(do let c <- EG args 4;return { V with s:={ V.s with fill:=c } }):=by unfold Eg;rw [A1 aS,A1 aS,A6 aS]
 refine Ak<|A2 rfl<|A2 rfl<|Bk AN rfl rfl ((Kl 4 U ha oO)) (λaE aF l q=>?_) (λaG aF l q=>?_)
 have a0:=kB a q
 exact Aw (Dq aE (by rw [hD,Ax l]) (f _ a0))
 have ac:=d.bl q
 have ad:=kB a q
 rw [AG l] at hD
 refine A0 (.nck rfl)<|A0 (.fa BL rfl Ey dD rfl)<|A0 (.fa Fb rfl JH dD rfl)<|Eh (o:=6) ((Fh ⟨{ s with fill:=aG },fo,sa,pa,cl,it,lo,te,li,ar,itv⟩).toArray) rfl (rfl) rfl ac EJ rfl bL (rfl) (λaH t u aW=>?_)
 have t:AF aH bv _ _:=t
 have u:BF bv _ _:=u
 have ae:=kU ad u
 refine WL.e<|BJ (Bt rfl ?_)
 refine GD _ _ hD rfl ⟨rfl,En hO ae t (λm=>?_)⟩
 have hq:=hR.mv m
 exact { hq with st:={ hq.st with fill:=rfl } }
 have ab:=dF Y
 refine A4<|A0 (.eqs rfl rfl)<|A9 rfl<|Ac rfl (λa1=>?_) (λa1=>?_)
 have af:=dT a1
 have hD:Eg V args op=(do let c <- EG args 1;return { V with s:={ V.s with stroke:=c } }):=by unfold Eg;rw [A1 aS,A1 aS,A1 aS,A6 aS]
 refine Ak<|A2 rfl<|A2 rfl<|Bk AN rfl rfl ((Kl 1 U ha oO)) (λaI aJ v x=>?_) (λaK aJ v x=>?_)
 have a2:=kB a x
 exact Aw (Dq aI (by rw [hD,Ax v]) (f _ a2))
 have ag:=d.bl x
 have ah:=kB a x
 rw [AG v] at hD
 refine A0 (.nck rfl)<|A0 (.fa BL rfl Ey dD rfl)<|A0 (.fa Fb rfl JH dD rfl)<|Eh (o:=11) ((Fh ⟨{ s with stroke:=aK },fo,sa,pa,cl,it,lo,te,li,ar,itv⟩).toArray) rfl (rfl) rfl ag EJ rfl bL (rfl) (λaL y A aX=>?_)
 have y:AF aL bv _ _:=y
 have A:BF bv _ _:=A
 have ai:=kU ah A
 refine WL.e<|BJ (Bt rfl ?_)
 refine GD _ _ hD rfl ⟨rfl,En hO ai y (λm=>?_)⟩
 have hq:=hR.mv m
 exact { hq with st:={ hq.st with stroke:=rfl } }
 have af:=dF a1
 refine A4<|A0 (.eqs rfl rfl)<|A9 rfl<|Ac rfl (λa4=>?_) (λa4=>?_)
 have aj:=dT a4
 have hD:Eg V args op=(do let c <- EG args 3;return { V with s:={ V.s with stroke:=c } }):=by unfold Eg;rw [A1 aS,A1 aS,A1 aS,A1 aS,A6 aS]
 refine Ak<|A2 rfl<|A2 rfl<|Bk AN rfl rfl ((Kl 3 U ha oO)) (λaM aN C D=>?_) (λaO aN C D=>?_)
 have a5:=kB a D
 exact Aw (Dq aM (by rw [hD,Ax C]) (f _ a5))
 have ak:=d.bl D
 have al:=kB a D
 rw [AG C] at hD
 refine A0 (.nck rfl)<|A0 (.fa BL rfl Ey dD rfl)<|A0 (.fa Fb rfl JH dD rfl)<|Eh (o:=11) ((Fh ⟨{ s with stroke:=aO },fo,sa,pa,cl,it,lo,te,li,ar,itv⟩).toArray) rfl (rfl) rfl ak EJ rfl bL (rfl) (λaP E G aY=>?_)
 have E:AF aP bv _ _:=E
 have G:BF bv _ _:=G
 have am:=kU al G
 refine WL.e<|BJ (Bt rfl ?_)
 refine GD _ _ hD rfl ⟨rfl,En hO am E (λm=>?_)⟩
 have hq:=hR.mv m
 exact { hq with st:={ hq.st with stroke:=rfl } }
 have aj:=dF a4
 have hD:Eg V args op=(do let c <- EG args 4;return { V with s:={ V.s with stroke:=c } }):=by unfold Eg;rw [A1 aS,A1 aS,A1 aS,A1 aS,A1 aS]
 refine Ak<|A2 rfl<|A2 rfl<|Bk AN rfl rfl ((Kl 4 U ha oO)) (λaQ aR J K=>?_) (λaT aR J K=>?_)
 have a6:=kB a K
 exact Aw (Dq aQ (by rw [hD,Ax J]) (f _ a6))
 have an:=d.bl K
 have ao:=kB a K
 rw [AG J] at hD
 refine A0 (.nck rfl)<|A0 (.fa BL rfl Ey dD rfl)<|A0 (.fa Fb rfl JH dD rfl)<|Eh (o:=11) ((Fh ⟨{ s with stroke:=aT },fo,sa,pa,cl,it,lo,te,li,ar,itv⟩).toArray) rfl (rfl) rfl an EJ rfl bL (rfl) (λaU L N aZ=>?_)
 have L:AF aU bv _ _:=L
 have N:BF bv _ _:=N
 have ap:=kU ao N
 refine WL.e<|BJ (Bt rfl ?_)
 refine GD _ _ hD rfl ⟨rfl,En hO ap L (λm=>?_)⟩
 have hq:=hR.mv m
 exact { hq with st:={ hq.st with stroke:=rfl } }
end
end
section
def NC (w:World) (g:Nat) (t:TypeId):Prop:=∃ cs,w.heap[g]?=some (.cells cs t (0,0))
theorem NC.uniq  {t t':TypeId} (h:NC w g t) (h':NC w g t'):t=t':=by
 obtain ⟨cs,h⟩:=h
 obtain ⟨cs',h'⟩:=h'
 rw [h] at h'
 simp only [Bm,Obj.cells.injEq] at h'
 exact h'.2.1
theorem AF.ty  {b:Nat} {cs:Array Value} {t:TypeId} (h:AF w b cs t):NC w b t:=⟨cs,h⟩
theorem AD.ty  {L:Fe α} {l:List α} (h:AD L e B w v l):∀ g,v.ownBlock=some g->NC w g e:=λg hg=>by
 rcases h with ⟨rfl,-⟩ | ⟨g1,cap,cur,rfl,-,h1,-⟩
 · cases hg
 · cases hg;exact ⟨cur,h1⟩
theorem AD.tyv  {L:Fe α} {t:TypeId} {l:List α} {b:Nat} (h:AD L e B w v l) (hb:NC w b t):∃ t'∈[t,e],NC w (vb v b) t':=by
 unfold vb
 cases hv:v.ownBlock with
 | none=>exact ⟨t,by simp,hb⟩
 | some g=>exact ⟨e,by simp,h.ty g hv⟩
section
variable {B:Nat} {w w1:World} {bv:Nat} {H:PW} {vp:Value} {V:Vw} {its:List AQ} {hs:List Ux} {cs:List PC}
theorem Zb.rest (hO:Zb B w bv H vp V its hs cs) {S:List Nat} (K:AB w.heap.size S w w1) (ts:List TypeId) (hS:∀ g∈S,∃ t∈ts,NC w g t) :
  (74 ∉ ts → AF w1 bv (Fh H).toArray 74) ∧ (97 ∉ ts → 94 ∉ ts → CG B w1 H.path 4096 V.path vp) ∧ (44 ∉ ts → AD Ls 44 B w1 H.items its) ∧
   (68 ∉ ts->AD stY 68 B w1 H.saved hs.reverse)/\(99 ∉ ts->AD Nb 99 B w1 H.args cs):=by
 have key:∀ g t,NC w g t->t ∉ ts->w1.heap[g]?=w.heap[g]?:=λg t a b=>by
  obtain ⟨c,d⟩:=a
  refine K.block g (Bs.1 d).1 λhm=>?_
  obtain ⟨t',e,f⟩:=hS g hm
  exact b (NC.uniq ⟨c,d⟩ f▸e)
 refine ⟨λh=>(key _ _ hO.blk.ty h).trans hO.blk,λa b=>⟨(key _ _ hO.pth.blk.ty a).trans hO.pth.blk,hO.pth.own.same λg hg=>key g _ (hO.pth.own.ty g hg) b,hO.pth.len,AW hO.pth.base K.size⟩,
  λh=>hO.oi.same λg hg=>key g _ (hO.oi.ty g hg) h,λh=>hO.os.same λg hg=>key g _ (hO.os.ty g hg) h,λh=>hO.oa.same λg hg=>key g _ (hO.oa.ty g hg) h⟩
end
theorem Kc  {L:Fe α} {t:TypeId} {l:List α} {b:Nat} (h:AD L e B w v l) (hb:NC w b t):∀ g∈[b,vb v b],∃ t'∈[t,e],NC w g t':=λg hg=>by
 simp only [Ar,AA,C8] at hg
 rcases hg with rfl | rfl
 · exact ⟨t,by simp,hb⟩
 · exact h.tyv hb
theorem Ll {F:Nat->Prop} (h:∀ g,v.ownBlock=some g->F g) (hb:F bv:=by exact .inl rfl):∀ g∈[bv,vb v bv],F g\/N<=g:=λg hg=>by
 simp only [Ar,AA,C8] at hg
 rcases hg with rfl | rfl
 · exact .inl hb
 ·
  unfold vb
  cases hv:v.ownBlock with
  | none=>exact .inl hb
  | some g=>exact .inl (h g hv)
theorem FR  {b:Nat} (h:v.ownBlock=some g):vb v b=g:=by unfold vb;rw [h];rfl
theorem Yc (v:Value) (b:Nat):vb v b=b\/v.ownBlock=some (vb v b):=by
 unfold vb
 cases v.ownBlock with
 | none=>exact .inl rfl
 | some g=>exact .inr rfl
theorem SvR.cons  {h:Zc} {hs:List Zc} {s:RP} {ss:List RP} (q:SvR Z w hs ss) (q0:Wm Z w h s):SvR Z w (h::hs) (s::ss):=by
 refine ⟨by simp [q.1],λi a b=>?_⟩
 cases i with
 | zero=>exact q0
 | succ i=>exact q.2 i (by simpa using a) (by simpa using b)
theorem SvR.head {Z:Nat->Prop} {w:World} {h:Zc} {hs:List Zc} {s:RP} {ss:List RP} (q:SvR Z w (h::hs) (s::ss)):Wm Z w h s/\SvR Z w hs ss :=
 ⟨q.2 0 (by simp) (by simp),by simpa using q.1,λi h1 h2=>q.2 (i+1) (by simpa using h1) (by simpa using h2)⟩
def A46 (V:Vw):Except Int Vw:=match V.saved with
 | []=>.error 22
 | s::r=>.ok { V with s:=s,saved:=r }
theorem A1m {V:Vw} {args:List PV}:FT V args [113]=(Dg args 0>>=λ_=>H6 (decide (V.saved.length<32))>>=λ_=>.ok { V with saved:=V.s::V.saved }):=by
 unfold FT;rw [A6 rfl];rfl
theorem A1n {V:Vw} {args:List PV}:FT V args [81]=(Dg args 0>>=λ_=>A46 V):=by
 unfold FT A46;rw [A1 dD,A6 rfl];cases V.saved <;> rfl
theorem Zz {V:Vw} {args:List PV} {op:l8_} (h1:¬ op=[113]) (h2:¬ op=[81]):FT V args op=(Sd args>>=λm=>LB m V.s.ctm>>=λc=>.ok { V with s:={ V.s with ctm:=c } }):=by
 unfold FT;rw [A1 h1,A1 h2];rfl
section
variable {B:Nat} {fs:PZ} {w:World} {bv:Nat} {F:Nat->Prop} {V:Vw} {args:List PV}
theorem Pd  {H:PW} {its:List AQ} {hs:List Ux} {cs:List PC} {sc:Ux} (hO:Zb B w bv H vp V its hs cs) (hR:Za (E3 fs.c (Gm bv H vp) w) w H fs V args its hs cs) (K:AB w.heap.size [bv,vb H.saved bv] w w1)
  (hk:AF w1 bv (Fh { H with saved:=v1 }).toArray 74) (ho:AD stY 68 B w1 v1 (hs.reverse++[sc])) (hn:∀ g,v1.ownBlock=some g->H.saved.ownBlock=some g\/w.heap.size<=g) (hsc:H.s=sc.h:=by rfl) :
  ∃ F1,FO B fs w1 bv F1 { V with saved:=V.s::V.saved } args/\Df (Gm bv H vp) F1 w w1:=by
 obtain ⟨-,b,d,-,e⟩:=hO.rest K _ (Kc hO.os hO.blk.ty)
 have hC:Df (Gm bv H vp) (Gm bv { H with saved:=v1 } vp) w w1:=Cn K (Ll (λg hg=>.inr (.inr (.inr (.inr (.inl hg)))))) (λg hg=>by
  rcases hg with a | a | a | a | a | a
  · exact .inl (.inl a)
  · exact .inl (.inr (.inl a))
  · exact .inl (.inr (.inr (.inl a)))
  · exact .inl (.inr (.inr (.inr (.inl a))))
  · exact (hn g a).imp (λh=>.inr (.inr (.inr (.inr (.inl h))))) id
  · exact .inl (.inr (.inr (.inr (.inr (.inr a))))))
 have hq:=hR.mv (E3.mv (c:=fs.c) hC)
 refine ⟨_,⟨_,vp,its,sc::hs,cs,rfl,⟨hk,b dD dD,d dD,by rw [List.reverse_cons];exact ho,e dD,hO.lbv,hO.lbp⟩,?_⟩,hC⟩
 exact { hq with sv:=hq.sv.cons (hsc▸hq.st) }
theorem A2s:(Tryz.prog.info? 68).map (λi=>(i.zero,i.size,i.bytes))=some (some (.agg (stV ⟨Wx,M8 0,M8 0,JK,.slice none 0 0,0,0⟩).toArray),25,232):=by kernel_rfl
theorem Zf (op:l8_) (h:FO B fs w bv F V args) (ha:args.length<=32) :
  Calls Tryz.prog 52 #[.pointer (some ⟨bv,0,none⟩),.string (bs op)] w (VwE B fs bv F w (FT V args op) args):=by
 obtain ⟨ad,cB⟩:=h.base
 have h0:=h
 obtain ⟨H,vp,its,hs,cs,rfl,hO,hR⟩:=h.mem
 have f:=hO.blk
 have i:=hO.os
 obtain ⟨s,fo,sa,pa,cl,it,lo,te,li,ar,itv⟩:=H
 obtain ⟨sc,cC⟩:=hR.st.cells
 obtain ⟨ps,cps,esa,cD,-,eg,-,-,dl,-⟩:=i.row
 unfold maxLen at dl
 simp only at cC esa
 subst cC
 subst esa
 have e8:=f.lt
 have cF:=i.lt
 have au:=cB
 have aJ:=Hy.of h0
 have e9:=f.lt
 have dm:=hR.sv
 have ea:hs.reverse.length=hs.length:=DM
 have bp:Gd 25 ps cps 0=ps:=by
  unfold Gd
  split
  rfl;cases ps with
  | none=>rfl
  | some a=>rw [Option.map_some,Nat.zero_mul,EU]
 have eh:hs.length=V.saved.length:=by have:=dm.1;rw [BD] at this;exact this
 have a6:∀ w1,AB w.heap.size [bv,vb (.slice ps hs.reverse.length cps) bv] w w1->Below B w w1:=λw1 hK=>hK.below cB (λk hk=>by
  simp only [Ar,AA,C8] at hk;rcases hk with rfl | rfl;exact ad;rcases Yc (.slice ps hs.reverse.length cps) bv with d | d;rw [d];exact ad;exact (cF _ d).1)
 refine W.e func52 rfl ntmps52 bL ?_
 have aF:=AB.refl w.heap.size ([bv,vb (.slice ps hs.reverse.length cps) bv]) w
 refine A4<|A2 rfl<|WL.e<|W.b<|A4<|A0 (.eqs rfl rfl)<|A9 rfl<|Ac rfl (λd=>?_) (λd=>?_)
 have dn:=dT d
 have bq:op=[113]:=by assumption
 have hD:=A1m (V:=V) (args:=args)
 rw [<- bq] at hD
 refine A4<|A2 rfl<|WL.cx AN rfl rfl ((F7 0 (aJ).get ha oO)) (λk4 w2 aK aq=>?_) (λa3 x5 w2 aK aq=>?_)
 have bW:=kB aF aq
 exact Aw (Dq k4 (by rw [hD,Ax aK]) (a6 _ bW))
 have cG:=AW au aq.1.size
 have dp:=AD.below i aq.1
 have cE:=f.bl aq.1
 have bt:=kB aF aq.1
 rw [AG aK] at hD
 refine WL.e<|A4<|A2 rfl<|A0 (.nck rfl)<|A0 (.fa BL rfl Lw dD rfl)<|Ag (Ad (Rq _) rfl cE rfl)<|A0 (.lenS NB rfl)<|A0 (.bis (decide (V.saved.length<32)) (.lss rfl rfl) (by exact D5.2 (by rw [DM];omega)))<|Bk AN rfl rfl ((Nz _ _)) (λdq dr a8 a4=>?_) (λei dr a8 a4=>?_)
 have bu:=kB bt a4
 exact Aw (Dq dq (by rw [hD];exact Ax a8) (a6 _ bu))
 have bX:=AW cG a4.size
 have cH:=AD.below dp a4
 have cI:=cE.bl a4
 have cJ:=kB bt a4
 rw [AG a8] at hD
 have aL:=a8
 unfold H6 at aL
 have eb:V.saved.length<32:=by
  split at aL;exact dT aS;cases aL
 refine WL.e<|Dr 14 rfl C7 (λw'=>True/\True) (λej av=>?_)
 have aw:=CZ.le bX av
 have aM:=AD.drew cH av
 have q:=cI.drew av
 have a5:=DA cJ (Q8 av)
 refine Af 0 rfl (.mv rfl) ⟨trivial,tT⟩ rfl ?_
 refine Af 1 rfl (.mv rfl) ⟨trivial,tT⟩ rfl ?_
 refine Af 2 rfl (.nck rfl) ⟨trivial,tT⟩ rfl ?_
 refine Af 3 rfl (.fa BL rfl Lw dD rfl) ⟨trivial,tT⟩ rfl ?_
 refine Af 5 rfl (.mv rfl) ⟨trivial,tT⟩ rfl ?_
 refine Af 6 rfl (.nck rfl) ⟨trivial,tT⟩ rfl ?_
 refine Af 7 rfl (.fa BL rfl Ey dD rfl) ⟨trivial,tT⟩ rfl ?_
 refine Ea 4 rfl 8 rfl ?_ ?_
 refine Ag (Ad (Rq _) rfl q rfl)<|WL.e<|⟨⟨trivial,tT⟩,?_⟩
 refine An 8 rfl<|Ag (Ck (L:=stY) Fb rfl Pt q (sc) (rfl) rfl)<|WL.e<|⟨⟨trivial,tT⟩,?_⟩
 refine An 9 rfl<|Cu (L:=stY) (ps:=_) ([sc]) NB Ey zeroValue68 rfl rfl rfl rfl rfl rD rfl rfl (λds cK aN bY a9 d'=>?_)
 have aY:=AW aw a9.size
 have cL:=GU aM aN a9
 have cM:=Bg aN q.lt
 have cN:=q.un a9 cM
 have bw:=Cq aN a5.size
 have aO:=DA a5 (Hf a9 bw)
 have dt:ds<=cK.heap.size:=by omega
 refine WL.e<|⟨⟨trivial,tT⟩,?_⟩
 refine An 10 rfl<|CW NB A2s rfl rfl rfl cL rfl (bY).rowp (by simp only [A8,Ae,DM];omega) (aY) rfl (λh=>CM h (Q6 _ _)) (λdu ek aZ bZ a' b0=>?_)
 have cO:=cN.grown a' (λe=>BO i f dD _ e rfl)
 have cP:=DA aO (C1 a' (λg hg=>.inl (by have hg:(Value.slice ps hs.reverse.length cps).ownBlock=some g:=hg;rw [FR hg];simp)) aO.size)
 have b':=AW aY bZ.size
 refine WL.e<|⟨⟨trivial,tT⟩,?_⟩
 refine Af 11 rfl (.nck rfl) ⟨trivial,tT⟩ rfl ?_
 refine Af 12 rfl (.fa BL rfl Lw dD rfl) ⟨trivial,tT⟩ rfl ?_
 refine An 13 rfl<|C2 (o:=26) ((Fh ⟨sc.h,fo,du,pa,cl,it,lo,te,li,ar,itv⟩).toArray) Lw rfl (rfl) rfl ((aZ).one) cO bL (rfl) (λdv ax U e0=>?_)
 have ax:AF dv bv _ _:=ax
 have U:BF bv _ _:=U
 have e1:=AW b' U.size
 have cQ:=Ia aZ U (λg hg e=>by subst e;first | exact BO i f dD _ hg rfl | (rcases b0 _ hg with d | d <;> first | exact BO i f dD _ d rfl | omega))
 have cR:=kU cP U
 refine WL.e<|⟨⟨trivial,tT⟩,?_⟩
 refine Bd kR<|BJ (Bt rfl ?_)
 exact GD _ _ hD rfl ⟨rfl,Pd hO hR cR ax cQ (λg d=>(b0 g d).imp id (AW aO.size))⟩
 refine Ag (Ck (L:=stY) Fb rfl Pt q (sc) (rfl) rfl)<|WL.e<|⟨⟨trivial,tT⟩,?_⟩
 refine Ea 4 rfl 9 rfl ?_ ?_
 refine Ag (Ad (Rq _) rfl q rfl)<|WL.e<|⟨⟨trivial,tT⟩,?_⟩
 refine An 9 rfl<|Cu (L:=stY) (ps:=_) ([sc]) NB Ey zeroValue68 rfl rfl rfl rfl rfl rD rfl rfl (λdw cS aP c0 aa e2=>?_)
 have b1:=AW aw aa.size
 have cT:=GU aM aP aa
 have cU:=Bg aP q.lt
 have cV:=q.un aa cU
 have bx:=Cq aP a5.size
 have aQ:=DA a5 (Hf aa bx)
 have dx:dw<=cS.heap.size:=by omega
 refine WL.e<|⟨⟨trivial,tT⟩,?_⟩
 refine An 10 rfl<|CW NB A2s rfl rfl rfl cT rfl (c0).rowp (by simp only [A8,Ae,DM];omega) (b1) rfl (λh=>CM h (Q6 _ _)) (λdy el b2 c2 b3 b4=>?_)
 have cW:=cV.grown b3 (λe=>BO i f dD _ e rfl)
 have cX:=DA aQ (C1 b3 (λg hg=>.inl (by have hg:(Value.slice ps hs.reverse.length cps).ownBlock=some g:=hg;rw [FR hg];simp)) aQ.size)
 have c3:=AW b1 c2.size
 refine WL.e<|⟨⟨trivial,tT⟩,?_⟩
 refine Af 11 rfl (.nck rfl) ⟨trivial,tT⟩ rfl ?_
 refine Af 12 rfl (.fa BL rfl Lw dD rfl) ⟨trivial,tT⟩ rfl ?_
 refine An 13 rfl<|C2 (o:=26) ((Fh ⟨sc.h,fo,dy,pa,cl,it,lo,te,li,ar,itv⟩).toArray) Lw rfl (rfl) rfl ((b2).one) cW bL (rfl) (λdz ay X e3=>?_)
 have ay:AF dz bv _ _:=ay
 have X:BF bv _ _:=X
 have e4:=AW c3 X.size
 have cY:=Ia b2 X (λg hg e=>by subst e;first | exact BO i f dD _ hg rfl | (rcases b4 _ hg with d | d <;> first | exact BO i f dD _ d rfl | omega))
 have cZ:=kU cX X
 refine WL.e<|⟨⟨trivial,tT⟩,?_⟩
 refine Bd kR<|BJ (Bt rfl ?_)
 exact GD _ _ hD rfl ⟨rfl,Pd hO hR cZ ay cY (λg d=>(b4 g d).imp id (AW aQ.size))⟩
 refine Cu (L:=stY) (ps:=_) ([sc]) NB Ey zeroValue68 rfl rfl rfl rfl rfl rD rfl rfl (λdA c' aR c4 ab e5=>?_)
 have b5:=AW aw ab.size
 have d0:=GU aM aR ab
 have d1:=Bg aR q.lt
 have bz:=q.un ab d1
 have bA:=Cq aR a5.size
 have aT:=DA a5 (Hf ab bA)
 have dB:dA<=c'.heap.size:=by omega
 refine WL.e<|⟨⟨trivial,tT⟩,?_⟩
 refine An 4 rfl<|Ag (Ad (Rq _) rfl bz rfl)<|WL.e<|⟨⟨trivial,tT⟩,?_⟩
 refine An 10 rfl<|CW NB A2s rfl rfl rfl d0 rfl (c4).rowp (by simp only [A8,Ae,DM];omega) (b5) rfl (λh=>CM h (Q6 _ _)) (λdC em b6 c5 b7 b8=>?_)
 have d2:=bz.grown b7 (λe=>BO i f dD _ e rfl)
 have d3:=DA aT (C1 b7 (λg hg=>.inl (by have hg:(Value.slice ps hs.reverse.length cps).ownBlock=some g:=hg;rw [FR hg];simp)) aT.size)
 have c6:=AW b5 c5.size
 refine WL.e<|⟨⟨trivial,tT⟩,?_⟩
 refine Af 11 rfl (.nck rfl) ⟨trivial,tT⟩ rfl ?_
 refine Af 12 rfl (.fa BL rfl Lw dD rfl) ⟨trivial,tT⟩ rfl ?_
 refine An 13 rfl<|C2 (o:=26) ((Fh ⟨sc.h,fo,dC,pa,cl,it,lo,te,li,ar,itv⟩).toArray) Lw rfl (rfl) rfl ((b6).one) d2 bL (rfl) (λdE az Y e6=>?_)
 have az:AF dE bv _ _:=az
 have Y:BF bv _ _:=Y
 have e7:=AW c6 Y.size
 have d4:=Ia b6 Y (λg hg e=>by subst e;first | exact BO i f dD _ hg rfl | (rcases b8 _ hg with d | d <;> first | exact BO i f dD _ d rfl | omega))
 have d5:=kU d3 Y
 refine WL.e<|⟨⟨trivial,tT⟩,?_⟩
 refine Bd kR<|BJ (Bt rfl ?_)
 exact GD _ _ hD rfl ⟨rfl,Pd hO hR d5 az d4 (λg d=>(b8 g d).imp id (AW aT.size))⟩
 have dn:=dF d
 refine A4<|A0 (.eqs rfl rfl)<|A9 rfl<|Ac rfl (λbB=>?_) (λbB=>?_)
 have d6:=dT bB
 have bq:op=[81]:=by assumption
 have hD:=A1n (V:=V) (args:=args)
 rw [<- bq] at hD
 refine A4<|A2 rfl<|WL.cx AN rfl rfl ((F7 0 (aJ).get ha oO)) (λdG dH aA Q=>?_) (λen eo dH aA Q=>?_)
 have bC:=kB aF Q
 exact Aw (Dq dG (by rw [hD,Ax aA]) (a6 _ bC))
 have c7:=AW au Q.1.size
 have d7:=AD.below i Q.1
 have bD:=f.bl Q.1
 have bE:=I8 cD Q.1 (λh0=>cD.lt h0)
 have bG:=kB aF Q.1
 rw [AG aA] at hD
 refine WL.e<|A4<|A2 rfl<|A0 (.nck rfl)<|A0 (.fa BL rfl Lw dD rfl)<|Ag (Ad (Rq _) rfl bD rfl)<|A0 (.iis ((hs.length:Int)) (.lenS NB rfl) (by rw [DM]))<|A9 rfl<|A4<|A2 rfl<|A0 (.gtr rfl rfl)<|Bk AN rfl rfl ((Dc _ _)) (λep dI aB T=>?_) (λeq dI aB T=>?_)
 have bH:=kB bG T
 obtain ⟨dJ,rfl⟩:=Db aB
 have dK:V.saved=[]:=Cz (by (have:=dF dJ);omega)
 exact Aw (Dq 22 (by rw [hD];unfold A46;rw [dK]) (a6 _ bH))
 have bI:=AW c7 T.size
 have d8:=AD.below d7 T
 have c8:=bD.bl T
 have c9:=I8 bE T (λh0=>bE.lt h0)
 have ca:=kB bG T
 have er:=dT (DX aB)
 obtain ⟨d,c,rfl⟩:∃ a l,hs=a::l:=List.exists_cons_of_length_pos oO
 obtain ⟨s1,dL,b9⟩:∃ a l,V.saved=a::l:=List.exists_cons_of_length_pos oO
 have bJ:(d::c).reverse[c.length]'(by simp)=d:=by simp
 have ec:(d::c).length=c.length+1:=rfl
 have es:(d::c).reverse.length=c.length+1:=by simp
 have aU:FT V args op=.ok { V with s:=s1,saved:=dL }:=by rw [hD];unfold A46;rw [b9]
 refine WL.e<|Dr 23 rfl C7 (λw'=>True/\True) (λed a0=>?_)
 have ae:=CZ.le bI a0
 have aC:=AD.drew d8 a0
 have j:=c8.drew a0
 have a1:=c9.drew a0
 have aD:=DA ca (Q8 a0)
 refine Af 0 rfl (.mv rfl) ⟨trivial,tT⟩ rfl ?_
 refine Af 1 rfl (.mv rfl) ⟨trivial,tT⟩ rfl ?_
 refine Af 2 rfl (.mv rfl) ⟨trivial,tT⟩ rfl ?_
 refine Af 3 rfl (.nck rfl) ⟨trivial,tT⟩ rfl ?_
 refine Af 4 rfl (.fa BL rfl Lw dD rfl) ⟨trivial,tT⟩ rfl ?_
 refine Af 6 rfl (.mv rfl) ⟨trivial,tT⟩ rfl ?_
 refine Af 7 rfl (.sub rfl rfl (Bp oO)) ⟨trivial,tT⟩ rfl ?_
 refine Af 10 rfl (.mv rfl) ⟨trivial,tT⟩ rfl ?_
 refine Af 11 rfl (.nck rfl) ⟨trivial,tT⟩ rfl ?_
 refine Af 12 rfl (.fa BL rfl Lw dD rfl) ⟨trivial,tT⟩ rfl ?_
 refine Af 14 rfl (.mv rfl) ⟨trivial,tT⟩ rfl ?_
 refine Af 15 rfl (.sub rfl rfl (Bp oO)) ⟨trivial,tT⟩ rfl ?_
 refine Ea 5 rfl 13 rfl ?_ ?_
 refine Ag (Ad (Rq _) rfl j rfl)<|WL.e<|⟨⟨trivial,tT⟩,?_⟩
 refine Af 8 rfl (.ixm NB Ey rfl rfl (a1.isp oC) (c.length) oO oO) ⟨trivial,tT⟩ rfl ?_
 refine Ea 9 rfl 13 rfl ?_ ?_
 refine Ag (DP Fb rfl Pt a1 (c.length) oC rfl)<|WL.e<|⟨⟨trivial,tT⟩,?_⟩
 refine An 13 rfl<|Ag (Ad (Rq _) rfl j rfl)<|WL.e<|⟨⟨trivial,tT⟩,?_⟩
 refine Af 16 rfl (.slmT NB Ey rfl rfl  (c.length) oO oO) ⟨trivial,tT⟩ rfl ?_
 refine Af 17 rfl (.nck rfl) ⟨trivial,tT⟩ rfl ?_
 refine Af 18 rfl (.fa BL rfl Ey dD rfl) ⟨trivial,tT⟩ rfl ?_
 refine An 19 rfl<|Eh (o:=0) ((Fh ⟨d.h,fo,.slice ps (d::c).reverse.length cps,pa,cl,it,lo,te,li,ar,itv⟩).toArray) rfl (rfl) rfl j Pt rfl bL (by rw [bJ];rfl) (λd9 af t dM=>?_)
 have af:AF d9 bv _ _:=af
 have t:BF bv _ _:=t
 have bK:=AW ae t.size
 have cb:=Ia aC t (λg hg e=>by subst e;first | exact BO i f dD _ hg rfl | (rcases HF _ hg with d | d <;> first | exact BO i f dD _ d rfl | omega))
 have cc:=kU aD t
 refine WL.e<|⟨⟨trivial,tT⟩,?_⟩
 refine Af 20 rfl (.nck rfl) ⟨trivial,tT⟩ rfl ?_
 refine Af 21 rfl (.fa BL rfl Lw dD rfl) ⟨trivial,tT⟩ rfl ?_
 refine An 22 rfl<|C2 (o:=26) ((Fh ⟨d.h,fo,.slice ps c.length cps,pa,cl,it,lo,te,li,ar,itv⟩).toArray) Lw rfl (rfl) rfl (rfl) af bL (by rw [bp];rfl) (λaV ag u dN=>?_)
 have ag:AF aV bv _ _:=ag
 have u:BF bv _ _:=u
 have dO:=AW bK u.size
 have cd:=Ia cb u (λg hg e=>by subst e;first | exact BO i f dD _ hg rfl | (rcases HF _ hg with d | d <;> first | exact BO i f dD _ d rfl | omega))
 have ba:=kU cc u
 refine WL.e<|⟨⟨trivial,tT⟩,?_⟩
 refine Bd kR<|BJ (Bt rfl ?_)
 have hS:=Kc i f.ty
 obtain ⟨-,r2,r3,r4,r5⟩:=hO.rest ba _ hS
 have ah:AD stY 68 B aV (.slice ps c.length cps) c.reverse:=by
  have h2:=(cd).cutc c.length (by rw [DM];exact Nat.le_succ _)
  rwa [show ((d::c).reverse).take c.length=c.reverse by rw [List.reverse_cons,List.take_append_of_le_length (by simp),AR (by simp)]] at h2
 have hC:Df (Gm bv ⟨sc.h,fo,.slice ps (d::c).reverse.length cps,pa,cl,it,lo,te,li,ar,itv⟩ vp) (Gm bv ⟨d.h,fo,.slice ps c.length cps,pa,cl,it,lo,te,li,ar,itv⟩ vp) w aV:=Cn ba (Ll (λg hg=>.inr (.inr (.inr (.inr (.inl hg)))))) (λg hg=>.inl (by unfold Gm at hg ⊢;cases ps <;> exact hg))
 refine GD _ _ aU rfl ⟨rfl,_,⟨_,vp,its,c,cs,rfl,⟨ag,r2 dD dD,r3 dD,ah,r5 dD,ad,hO.lbp⟩,?_⟩,hC⟩
 have hq:=hR.mv (E3.mv hC)
 have a7:=hq.sv
 rw [Co,b9] at a7
 obtain ⟨aG,aH⟩:=a7.head
 exact { hq with st:=aG,sv:=aH }
 refine Ag (Ad (Rq _) rfl j rfl)<|WL.e<|⟨⟨trivial,tT⟩,?_⟩
 refine Af 16 rfl (.slmT NB Ey rfl rfl  (c.length) oO oO) ⟨trivial,tT⟩ rfl ?_
 refine An 9 rfl<|Ag (DP Fb rfl Pt a1 (c.length) oC rfl)<|WL.e<|⟨⟨trivial,tT⟩,?_⟩
 refine Af 17 rfl (.nck rfl) ⟨trivial,tT⟩ rfl ?_
 refine Af 18 rfl (.fa BL rfl Ey dD rfl) ⟨trivial,tT⟩ rfl ?_
 refine An 19 rfl<|Eh (o:=0) ((Fh ⟨d.h,fo,.slice ps (d::c).reverse.length cps,pa,cl,it,lo,te,li,ar,itv⟩).toArray) rfl (rfl) rfl j Pt rfl bL (by rw [bJ];rfl) (λda ai v dP=>?_)
 have ai:AF da bv _ _:=ai
 have v:BF bv _ _:=v
 have bM:=AW ae v.size
 have cf:=Ia aC v (λg hg e=>by subst e;first | exact BO i f dD _ hg rfl | (rcases HF _ hg with d | d <;> first | exact BO i f dD _ d rfl | omega))
 have cg:=kU aD v
 refine WL.e<|⟨⟨trivial,tT⟩,?_⟩
 refine Af 20 rfl (.nck rfl) ⟨trivial,tT⟩ rfl ?_
 refine Af 21 rfl (.fa BL rfl Lw dD rfl) ⟨trivial,tT⟩ rfl ?_
 refine An 22 rfl<|C2 (o:=26) ((Fh ⟨d.h,fo,.slice ps c.length cps,pa,cl,it,lo,te,li,ar,itv⟩).toArray) Lw rfl (rfl) rfl (rfl) ai bL (by rw [bp];rfl) (λaW aj x dQ=>?_)
 have aj:AF aW bv _ _:=aj
 have x:BF bv _ _:=x
 have dR:=AW bM x.size
 have ci:=Ia cf x (λg hg e=>by subst e;first | exact BO i f dD _ hg rfl | (rcases HF _ hg with d | d <;> first | exact BO i f dD _ d rfl | omega))
 have bb:=kU cg x
 refine WL.e<|⟨⟨trivial,tT⟩,?_⟩
 refine Bd kR<|BJ (Bt rfl ?_)
 have hS:=Kc i f.ty
 obtain ⟨-,r2,r3,r4,r5⟩:=hO.rest bb _ hS
 have ah:AD stY 68 B aW (.slice ps c.length cps) c.reverse:=by
  have h2:=(ci).cutc c.length (by rw [DM];exact Nat.le_succ _)
  rwa [show ((d::c).reverse).take c.length=c.reverse by rw [List.reverse_cons,List.take_append_of_le_length (by simp),AR (by simp)]] at h2
 have hC:Df (Gm bv ⟨sc.h,fo,.slice ps (d::c).reverse.length cps,pa,cl,it,lo,te,li,ar,itv⟩ vp) (Gm bv ⟨d.h,fo,.slice ps c.length cps,pa,cl,it,lo,te,li,ar,itv⟩ vp) w aW:=Cn bb (Ll (λg hg=>.inr (.inr (.inr (.inr (.inl hg)))))) (λg hg=>.inl (by unfold Gm at hg ⊢;cases ps <;> exact hg))
 refine GD _ _ aU rfl ⟨rfl,_,⟨_,vp,its,c,cs,rfl,⟨aj,r2 dD dD,r3 dD,ah,r5 dD,ad,hO.lbp⟩,?_⟩,hC⟩
 have hq:=hR.mv (E3.mv hC)
 have a7:=hq.sv
 rw [Co,b9] at a7
 obtain ⟨aG,aH⟩:=a7.head
 exact { hq with st:=aG,sv:=aH }
 refine Ag (Ad (Rq _) rfl j rfl)<|WL.e<|⟨⟨trivial,tT⟩,?_⟩
 refine Af 16 rfl (.slmT NB Ey rfl rfl  (c.length) oO oO) ⟨trivial,tT⟩ rfl ?_
 refine An 5 rfl<|Ag (Ad (Rq _) rfl j rfl)<|WL.e<|⟨⟨trivial,tT⟩,?_⟩
 refine Af 8 rfl (.ixm NB Ey rfl rfl (a1.isp oC) (c.length) oO oO) ⟨trivial,tT⟩ rfl ?_
 refine An 9 rfl<|Ag (DP Fb rfl Pt a1 (c.length) oC rfl)<|WL.e<|⟨⟨trivial,tT⟩,?_⟩
 refine Af 17 rfl (.nck rfl) ⟨trivial,tT⟩ rfl ?_
 refine Af 18 rfl (.fa BL rfl Ey dD rfl) ⟨trivial,tT⟩ rfl ?_
 refine An 19 rfl<|Eh (o:=0) ((Fh ⟨d.h,fo,.slice ps (d::c).reverse.length cps,pa,cl,it,lo,te,li,ar,itv⟩).toArray) rfl (rfl) rfl j Pt rfl bL (by rw [bJ];rfl) (λdb ak y dS=>?_)
 have ak:AF db bv _ _:=ak
 have y:BF bv _ _:=y
 have bN:=AW ae y.size
 have cj:=Ia aC y (λg hg e=>by subst e;first | exact BO i f dD _ hg rfl | (rcases HF _ hg with d | d <;> first | exact BO i f dD _ d rfl | omega))
 have ck:=kU aD y
 refine WL.e<|⟨⟨trivial,tT⟩,?_⟩
 refine Af 20 rfl (.nck rfl) ⟨trivial,tT⟩ rfl ?_
 refine Af 21 rfl (.fa BL rfl Lw dD rfl) ⟨trivial,tT⟩ rfl ?_
 refine An 22 rfl<|C2 (o:=26) ((Fh ⟨d.h,fo,.slice ps c.length cps,pa,cl,it,lo,te,li,ar,itv⟩).toArray) Lw rfl (rfl) rfl (rfl) ak bL (by rw [bp];rfl) (λaX al A dU=>?_)
 have al:AF aX bv _ _:=al
 have A:BF bv _ _:=A
 have dV:=AW bN A.size
 have cm:=Ia cj A (λg hg e=>by subst e;first | exact BO i f dD _ hg rfl | (rcases HF _ hg with d | d <;> first | exact BO i f dD _ d rfl | omega))
 have bc:=kU ck A
 refine WL.e<|⟨⟨trivial,tT⟩,?_⟩
 refine Bd kR<|BJ (Bt rfl ?_)
 have hS:=Kc i f.ty
 obtain ⟨-,r2,r3,r4,r5⟩:=hO.rest bc _ hS
 have ah:AD stY 68 B aX (.slice ps c.length cps) c.reverse:=by
  have h2:=(cm).cutc c.length (by rw [DM];exact Nat.le_succ _)
  rwa [show ((d::c).reverse).take c.length=c.reverse by rw [List.reverse_cons,List.take_append_of_le_length (by simp),AR (by simp)]] at h2
 have hC:Df (Gm bv ⟨sc.h,fo,.slice ps (d::c).reverse.length cps,pa,cl,it,lo,te,li,ar,itv⟩ vp) (Gm bv ⟨d.h,fo,.slice ps c.length cps,pa,cl,it,lo,te,li,ar,itv⟩ vp) w aX:=Cn bc (Ll (λg hg=>.inr (.inr (.inr (.inr (.inl hg)))))) (λg hg=>.inl (by unfold Gm at hg ⊢;cases ps <;> exact hg))
 refine GD _ _ aU rfl ⟨rfl,_,⟨_,vp,its,c,cs,rfl,⟨al,r2 dD dD,r3 dD,ah,r5 dD,ad,hO.lbp⟩,?_⟩,hC⟩
 have hq:=hR.mv (E3.mv hC)
 have a7:=hq.sv
 rw [Co,b9] at a7
 obtain ⟨aG,aH⟩:=a7.head
 exact { hq with st:=aG,sv:=aH }
 have d6:=dF bB
 have hD:=Zz (V:=V) (args:=args) (op:=op) aS aS
 refine Dr 13 rfl C7 (λw'=>True/\True) (λdc a2=>?_)
 have aI:=CZ.le au a2
 have bd:=AD.drew i a2
 have be:=JP (w1:=dc) aJ (λk hk hl=>(by obtain ⟨m,rfl⟩:=a2;rfl))
 have aE:=f.drew a2
 have ac:=DA aF (Q8 a2)
 refine Af 0 rfl (.mv rfl) ⟨trivial,tT⟩ rfl ?_
 refine Af 1 rfl (.mv rfl) ⟨trivial,tT⟩ rfl ?_
 refine Af 3 rfl (.mv rfl) ⟨trivial,tT⟩ rfl ?_
 refine Af 4 rfl (.nck rfl) ⟨trivial,tT⟩ rfl ?_
 refine Af 5 rfl (.fa BL rfl Ey dD rfl) ⟨trivial,tT⟩ rfl ?_
 refine Af 6 rfl (.fa Fb rfl IK dD rfl) ⟨trivial,tT⟩ rfl ?_
 refine Ea 2 rfl 7 rfl ?_ ?_
 refine Bk AN rfl rfl ((Ox (be).get ha)) (λdd de am J=>?_) (λee de am J=>?_)
 have bk:=kB ac J
 exact Aw (Dq dd (by rw [hD,Ax am]) (a6 _ bk))
 have bO:=AW aI J.size
 have cn:=AD.below bd J
 have bf:=aE.bl J
 have bg:=kB ac J
 rw [AG am] at hD
 refine WL.e<|⟨⟨trivial,tT⟩,?_⟩
 refine An 7 rfl<|Ag (Ck (L:=Ww) DU rfl CJ bf (sc.h.ctm) (rfl) rfl)<|WL.e<|⟨⟨trivial,tT⟩,?_⟩
 refine An 8 rfl<|Bk AN rfl rfl ((FA _ _ _)) (λdf dg C K=>?_) (λbP dg C K=>?_)
 have bm:=kB bg K
 exact Aw (Dq df (by rw [show sc.h.ctm=V.s.ctm from hR.st.ctm] at C;rw [hD];exact Ax C) (a6 _ bm))
 have bQ:=AW bO K.size
 have co:=AD.below cn K
 have cq:=bf.bl K
 have cr:=kB bg K
 rw [show sc.h.ctm=V.s.ctm from hR.st.ctm] at C
 rw [AG C] at hD
 refine WL.e<|⟨⟨trivial,tT⟩,?_⟩
 refine Af 9 rfl (.nck rfl) ⟨trivial,tT⟩ rfl ?_
 refine Af 10 rfl (.fa BL rfl Ey dD rfl) ⟨trivial,tT⟩ rfl ?_
 refine Af 11 rfl (.fa Fb rfl IK dD rfl) ⟨trivial,tT⟩ rfl ?_
 refine An 12 rfl<|Eh (o:=0) ((Fh ⟨{ sc.h with ctm:=bP },fo,.slice ps hs.reverse.length cps,pa,cl,it,lo,te,li,ar,itv⟩).toArray) rfl (rfl) rfl cq CJ rfl bL (rfl) (λbR an D dW=>?_)
 have an:AF bR bv _ _:=an
 have D:BF bv _ _:=D
 have dX:=AW bQ D.size
 have ct:=Ia co D (λg hg e=>by subst e;first | exact BO i f dD _ hg rfl | (rcases HF _ hg with d | d <;> first | exact BO i f dD _ d rfl | omega))
 have bh:=kU cr D
 refine WL.e<|⟨⟨trivial,tT⟩,?_⟩
 refine Bd kR<|BJ (Bt rfl ?_)
 have hS:=Kc i f.ty
 obtain ⟨-,r2,r3,-,r5⟩:=hO.rest bh _ hS
 have hC:Df (Gm bv ⟨sc.h,fo,.slice ps hs.reverse.length cps,pa,cl,it,lo,te,li,ar,itv⟩ vp) (Gm bv ⟨{ sc.h with ctm:=bP },fo,.slice ps hs.reverse.length cps,pa,cl,it,lo,te,li,ar,itv⟩ vp) w bR:=Cn bh (Ll (λg hg=>.inr (.inr (.inr (.inr (.inl hg)))))) (λg hg=>.inl hg)
 refine GD _ _ hD rfl ⟨rfl,_,⟨_,vp,its,hs,cs,rfl,⟨an,r2 dD dD,r3 dD,ct,r5 dD,ad,hO.lbp⟩,?_⟩,hC⟩
 have hq:=hR.mv (E3.mv hC)
 exact { hq with st:={ hq.st with ctm:=rfl } }
 refine Ag (Ck (L:=Ww) DU rfl CJ aE (sc.h.ctm) (rfl) rfl)<|WL.e<|⟨⟨trivial,tT⟩,?_⟩
 refine An 2 rfl<|Bk AN rfl rfl ((Ox (be).get ha)) (λdh di ao N=>?_) (λef di ao N=>?_)
 have bn:=kB ac N
 exact Aw (Dq dh (by rw [hD,Ax ao]) (a6 _ bn))
 have bS:=AW aI N.size
 have cu:=AD.below bd N
 have cv:=aE.bl N
 have bi:=kB ac N
 rw [AG ao] at hD
 refine WL.e<|⟨⟨trivial,tT⟩,?_⟩
 refine An 8 rfl<|Bk AN rfl rfl ((FA _ _ _)) (λdj dk E P=>?_) (λbT dk E P=>?_)
 have bo:=kB bi P
 exact Aw (Dq dj (by rw [show sc.h.ctm=V.s.ctm from hR.st.ctm] at E;rw [hD];exact Ax E) (a6 _ bo))
 have bU:=AW bS P.size
 have cw:=AD.below cu P
 have cy:=cv.bl P
 have cz:=kB bi P
 rw [show sc.h.ctm=V.s.ctm from hR.st.ctm] at E
 rw [AG E] at hD
 refine WL.e<|⟨⟨trivial,tT⟩,?_⟩
 refine Af 9 rfl (.nck rfl) ⟨trivial,tT⟩ rfl ?_
 refine Af 10 rfl (.fa BL rfl Ey dD rfl) ⟨trivial,tT⟩ rfl ?_
 refine Af 11 rfl (.fa Fb rfl IK dD rfl) ⟨trivial,tT⟩ rfl ?_
 refine An 12 rfl<|Eh (o:=0) ((Fh ⟨{ sc.h with ctm:=bT },fo,.slice ps hs.reverse.length cps,pa,cl,it,lo,te,li,ar,itv⟩).toArray) rfl (rfl) rfl cy CJ rfl bL (rfl) (λbV ap G dY=>?_)
 have ap:AF bV bv _ _:=ap
 have G:BF bv _ _:=G
 have dZ:=AW bU G.size
 have cA:=Ia cw G (λg hg e=>by subst e;first | exact BO i f dD _ hg rfl | (rcases HF _ hg with d | d <;> first | exact BO i f dD _ d rfl | omega))
 have bj:=kU cz G
 refine WL.e<|⟨⟨trivial,tT⟩,?_⟩
 refine Bd kR<|BJ (Bt rfl ?_)
 have hS:=Kc i f.ty
 obtain ⟨-,r2,r3,-,r5⟩:=hO.rest bj _ hS
 have hC:Df (Gm bv ⟨sc.h,fo,.slice ps hs.reverse.length cps,pa,cl,it,lo,te,li,ar,itv⟩ vp) (Gm bv ⟨{ sc.h with ctm:=bT },fo,.slice ps hs.reverse.length cps,pa,cl,it,lo,te,li,ar,itv⟩ vp) w bV:=Cn bj (Ll (λg hg=>.inr (.inr (.inr (.inr (.inl hg)))))) (λg hg=>.inl hg)
 refine GD _ _ hD rfl ⟨rfl,_,⟨_,vp,its,hs,cs,rfl,⟨ap,r2 dD dD,r3 dD,cA,r5 dD,ad,hO.lbp⟩,?_⟩,hC⟩
 have hq:=hR.mv (E3.mv hC)
 exact { hq with st:={ hq.st with ctm:=rfl } }
end
end
end Go.Proofs.YthmhfjeojkbpfaaGreatDoor
