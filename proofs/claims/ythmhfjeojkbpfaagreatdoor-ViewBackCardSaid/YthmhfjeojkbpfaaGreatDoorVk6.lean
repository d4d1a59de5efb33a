/-
  What the claim leans on, part 6: pruned and joined by my own tool out of the texts that stand in wip/ as templates.
-/
import Derived.Test.YthmhfjeojkbpfaaGreatDoorVk5
set_option maxHeartbeats 6400000
set_option maxRecDepth 100000
namespace Go.Proofs.YthmhfjeojkbpfaaGreatDoor
open Go.RowKit
open Go.Proofs.Tryz
variable {aft:Array Edge} {ops:Array Oper} {ats:Array TypeId} {refs:Bool} {R:Ending->World->Prop} {f:Fr} {fill last:Int} {sum:Int->List UInt8->Int} {ns:List Int} {A s:List UInt8} {vs xs:List Value} {B N bp bv by' c d g i id m t t1:Nat} {F1 T Z:Nat->Prop} {x y:Operand} {p q:Option Addr} {P:Program} {pos:String} {α β:Type} {E e ta tb tx:TypeId} {v v' v1 vp z:Value} {w w1 w2:World} {S':World->Prop}
section
theorem Pv {x:l8_}:∀ {s:List (l8_)} {i:Nat} (h:i<s.length),s[i]=x->x ∉ s.take i->s.idxOf x=i
 | a::r,0,_,h1,_=>by
  have h1:a=x:=h1
  rw [h1,List.idxOf_cons_self]
 | a::r,i+1,h,h1,h2=>by
  rw [List.take_succ_cons,Ar,not_or] at h2
  rw [List.idxOf_cons,show (a == x)=false from by simpa using λe:a=x=>h2.1 e.symm,cond_false,Pv (Nat.lt_of_succ_lt_succ h) (by simpa using h1) h2.2]
def A0i (s:List (l8_)) (x:l8_):Int:=if x∈s then (s.idxOf x:Int) else -1
theorem A2l (q:Option Addr) (s:List (l8_)) (c:Nat) (x:l8_) (w:World) (hb:AS UO w q s) (hl:s.length<=1000000000) :
  Calls Tryz.prog 51 #[.slice q s.length c,.string (bs x)] w λe w'=>e=.returned (.int .i64 (A0i s x))/\w=w':=by
 refine W.e func51 rfl ntmps51 bL ?_
 refine A4<|A9 rfl<|Ah<|A4<|A2 rfl<|A0 (.lenS Qj rfl)<|A2 rfl<|WL.e<|W.b<|Cj (α:=Nat) (λt=>[(0,.slice q s.length c),(1,.string (bs x)),(7,.int .i64 (s.length:Int)),(8,.int .i64 (t:Int))]) (λt w'=>w=w'/\t<=s.length/\x ∉ s.take t) (λt=>s.length-t) (0) ⟨rfl,rfl,rfl,rfl,tT⟩ (⟨rfl,Gg _,by simp⟩) (λt l hR=>?_)
 obtain ⟨i,rfl⟩:∃ i,i=t:=⟨t,rfl⟩
 obtain ⟨rfl,hi,a⟩:=hR
 refine A4<|A0 (.lss rfl rfl)<|WL.e<|Ah<|Ac rfl (λd=>?_) (λd=>?_)
 have g:=dT d
 refine W.k<|Ah<|W.b<|A4<|A2 rfl<|A9 rfl<|A4<|A2 rfl<|A2 rfl<|A2 rfl<|A0 (.ixb Qj Lv rfl rfl (hb.isp oD) (i) (rfl) oO)<|Ag (AO (KP _) rfl (hb.cells (i) oO))<|A0 (.eqs rfl rfl)<|WL.e<|Ac rfl (λf=>?_) (λf=>?_)
 have j:=dT f
 refine A4<|A2 rfl<|A9 rfl<|Ai (AZ rfl rfl ?_)
 exact ⟨D1 (by
  have hx:x=s[i]'oO:=by assumption
  unfold A0i;rw [A6 (hx▸AJ _),Pv oO hx.symm a]),rfl⟩
 have j:=dF f
 refine W.k<|Ak<|A0 (.iis (((i+1:Nat):Int)) (.add rfl rfl (Bp oO)) oO)<|A2 rfl<|WL.e<|?_
 exact ⟨i+1,⟨rfl,rfl,rfl,rfl,tT⟩,⟨rfl,by ((try simp only) <;> omega),by
  rw [List.take_add_one,A7 oO,Option.toList_some,Ba,Am];exact λh=>h.elim a aS⟩,by ((try simp only) <;> omega)⟩
 have g:=dF d
 refine C0<|A4<|A9 rfl<|Ai (AZ rfl rfl ?_)
 exact ⟨D1 (by
  rw [show s.take i=s from AR oO] at a;unfold A0i;rw [A1 a]),rfl⟩
theorem A1S  {fs:List LE} {v:Vw} {args:List PV} {op:l8_} (h:op∈GB):Ly sum fs v args op=HD v args op:=A6 h
theorem A1U  {fs:List LE} {v:Vw} {args:List PV} {op:l8_} (h0:op ∉ GB) (h:op∈GE):Ly sum fs v args op=Eg v args op:=(A1 h0).trans (A6 h)
theorem A1R  {fs:List LE} {v:Vw} {args:List PV} {op:l8_} (h0:op ∉ GB) (h1:op ∉ GE) (h:op∈GS):Ly sum fs v args op=Jv sum fs v args op:=(A1 h0).trans ((A1 h1).trans (A6 h))
theorem A7r  {fs:List LE} {v:Vw} {args:List PV} {op:l8_} (h0:op ∉ GB) (h1:op ∉ GE) (h2:op ∉ GS) (h:op ∉ F6):Ly sum fs v args op=.error 23:=(A1 h0).trans ((A1 h1).trans ((A1 h2).trans (A6 h)))
def opW (v:Vw) (args:List PV) (op:l8_):Except Int Vw :=
 if F6.idxOf op<3 then FT v args op
 else if F6.idxOf op<10 then Gj v args op
 else if op=[87]\/op=[87,42] then (Dg args 0>>=λ_=>.ok { v with clip:=op.length })
 else J3 v args op
theorem A1T  {fs:List LE} {v:Vw} {args:List PV} {op:l8_} (h0:op ∉ GB) (h1:op ∉ GE) (h2:op ∉ GS) (h:op∈F6):Ly sum fs v args op=(CH (!v.inText)>>=λ_=>opW v args op):=(A1 h0).trans ((A1 h1).trans ((A1 h2).trans (A1 (λhn=>hn h))))
section
variable {B:Nat} {fs:PZ} {w w1:World} {bv:Nat} {F:Nat->Prop} {V:Vw} {args:List PV}
theorem UE (op:l8_) (h:FO B fs w bv F V args) (ha:args.length<=32) (hb:∀ a∈args,(SV a).length<=65535) (hbl:∀ a∈args,(N8 a).length<=65535) (hsn:Ez V) (hfc:fs.c=bv) :
  Calls Tryz.prog 36 #[.pointer (some ⟨bv,0,none⟩),.string (bs op)] w (VwE B fs bv F w (Ly (λf b=>FS f 0 b) fs.fs V args op) args):=by
 obtain ⟨b6,b7⟩:=h.base
 have h0:=h
 have J:=Hy.of h0
 obtain ⟨H,vp,its,hs,cs,rfl,hO,hR⟩:=h.mem
 have ae:=hO.blk
 have af:H.inText=V.inText:=hR.inText
 obtain ⟨s,fo,sa,pa,cl,it,lo,te,li,ar,itv⟩:=H
 simp only at af
 have bz:=ae.lt
 have x:∀ w1,AB w.heap.size [bv] w w1->Below B w w1:=λw1 hK=>hK.below b7 (by simpa using b6)
 obtain ⟨R,v⟩:∃ R,Ly (λf b=>FS f 0 b) fs.fs V args op=R:=⟨_,rfl⟩
 rw [v]
 refine W.e func36 rfl ntmps36 bL ?_
 have A:=AB.refl w.heap.size ([bv]) w
 refine Ah<|A4<|A2 rfl<|WL.e<|W.b<|D4 (α:=Bool) (λt=>[(0,.pointer (some ⟨bv,0,none⟩)),(1,.string (bs op)),(6,.string (bs op)),(7,.bool t)]) (λt w'=>w=w'/\t=decide (op∈GB)) ?_ (λt w1 hR=>?_)
 refine A4<|A0 (.eqs rfl rfl)<|A9 rfl<|Ac rfl (λy=>?_) (λy=>?_)
 have b8:=dT y
 refine W.k ?_
 exact ⟨_,⟨rfl,rfl,rfl,rfl,tT⟩,rfl,by simp_all [GB]⟩
 have b8:=dF y
 refine A4<|A0 (.eqs rfl rfl)<|A9 rfl<|Ac rfl (λC=>?_) (λC=>?_)
 have b9:=dT C
 refine W.k ?_
 exact ⟨_,⟨rfl,rfl,rfl,rfl,tT⟩,rfl,by simp_all [GB]⟩
 have b9:=dF C
 refine A4<|A0 (.eqs rfl rfl)<|A9 rfl<|Ac rfl (λG=>?_) (λG=>?_)
 have ba:=dT G
 refine W.k ?_
 exact ⟨_,⟨rfl,rfl,rfl,rfl,tT⟩,rfl,by simp_all [GB]⟩
 have ba:=dF G
 refine A4<|A0 (.eqs rfl rfl)<|A9 rfl<|Ac rfl (λK=>?_) (λK=>?_)
 have bb:=dT K
 refine W.k ?_
 exact ⟨_,⟨rfl,rfl,rfl,rfl,tT⟩,rfl,by simp_all [GB]⟩
 have bb:=dF K
 refine Ak<|A0 (.eqs rfl rfl)<|A9 rfl ?_
 exact ⟨_,⟨rfl,rfl,rfl,rfl,tT⟩,rfl,by simp_all [GB]⟩
 obtain ⟨rfl,rfl⟩:=hR
 refine Ac rfl (λh5=>?_) (λh5=>?_)
 have bc:=dT h5
 refine Ah ?_
 have y:op∈GB:=by assumption
 refine Ak<|A2 rfl<|A2 rfl<|WL.cx AN rfl rfl ((A3F op (J).get ha hbl)) (λk8 w6 a6 ag=>?_) (λa7 x9 w6 a6 ag=>?_)
 exact Aw (Dq k8 (v.symm.trans ((A1S y).trans a6)) (EZ (x _ A) ag))
 have j:R=_:=v.symm.trans ((A1S y).trans a6)
 obtain ⟨rfl,F9,q,d⟩:=ag
 have i:=PU (Cn A (λg hg=>.inl (.inl (Am.1 hg))) (λg hg=>.inl hg)) d
 refine WL.e<|Ai (Bt rfl  ?_)
 exact GD _ _ j rfl ⟨rfl,F9,q,i⟩
 have bc:=dF h5
 have y:op ∉ GB:=by assumption
 refine D4 (α:=Bool) (λt=>[(0,.pointer (some ⟨bv,0,none⟩)),(1,.string (bs op)),(6,.string (bs op)),(16,.bool t)]) (λt w'=>w=w'/\t=decide (op∈GE)) ?_ (λt w1 hR=>?_)
 refine A4<|A0 (.eqs rfl rfl)<|A9 rfl<|Ac rfl (λah=>?_) (λah=>?_)
 have aH:=dT ah
 refine W.k ?_
 exact ⟨_,⟨rfl,rfl,rfl,rfl,tT⟩,rfl,by simp_all [GE]⟩
 have aH:=dF ah
 refine A4<|A0 (.eqs rfl rfl)<|A9 rfl<|Ac rfl (λai=>?_) (λai=>?_)
 have aI:=dT ai
 refine W.k ?_
 exact ⟨_,⟨rfl,rfl,rfl,rfl,tT⟩,rfl,by simp_all [GE]⟩
 have aI:=dF ai
 refine A4<|A0 (.eqs rfl rfl)<|A9 rfl<|Ac rfl (λaj=>?_) (λaj=>?_)
 have aJ:=dT aj
 refine W.k ?_
 exact ⟨_,⟨rfl,rfl,rfl,rfl,tT⟩,rfl,by simp_all [GE]⟩
 have aJ:=dF aj
 refine A4<|A0 (.eqs rfl rfl)<|A9 rfl<|Ac rfl (λak=>?_) (λak=>?_)
 have aK:=dT ak
 refine W.k ?_
 exact ⟨_,⟨rfl,rfl,rfl,rfl,tT⟩,rfl,by simp_all [GE]⟩
 have aK:=dF ak
 refine A4<|A0 (.eqs rfl rfl)<|A9 rfl<|Ac rfl (λal=>?_) (λal=>?_)
 have aL:=dT al
 refine W.k ?_
 exact ⟨_,⟨rfl,rfl,rfl,rfl,tT⟩,rfl,by simp_all [GE]⟩
 have aL:=dF al
 refine Ak<|A0 (.eqs rfl rfl)<|A9 rfl ?_
 exact ⟨_,⟨rfl,rfl,rfl,rfl,tT⟩,rfl,by simp_all [GE]⟩
 obtain ⟨rfl,rfl⟩:=hR
 refine Ac rfl (λam=>?_) (λam=>?_)
 have aM:=dT am
 refine Ah ?_
 have C:op∈GE:=by assumption
 refine Ak<|A2 rfl<|A2 rfl<|WL.cx AN rfl rfl ((Zh op (J).get ha)) (λbd be L a8=>?_) (λbA bB be L a8=>?_)
 exact Aw (Dq bd (v.symm.trans ((A1U y C).trans L)) (EZ (x _ A) a8))
 have j:R=_:=v.symm.trans ((A1U y C).trans L)
 obtain ⟨rfl,F9,q,d⟩:=a8
 have i:=PU (Cn A (λg hg=>.inl (.inl (Am.1 hg))) (λg hg=>.inl hg)) d
 refine WL.e<|Ai (Bt rfl  ?_)
 exact GD _ _ j rfl ⟨rfl,F9,q,i⟩
 have aM:=dF am
 have C:op ∉ GE:=by assumption
 refine D4 (α:=Bool) (λt=>[(0,.pointer (some ⟨bv,0,none⟩)),(1,.string (bs op)),(26,.bool t)]) (λt w'=>w=w'/\t=decide (op∈GS)) ?_ (λt w1 hR=>?_)
 refine A4<|A0 (.eqs rfl rfl)<|A9 rfl<|Ac rfl (λan=>?_) (λan=>?_)
 have aN:=dT an
 refine W.k ?_
 exact ⟨_,⟨rfl,rfl,rfl,tT⟩,rfl,by simp_all [GS]⟩
 have aN:=dF an
 refine A4<|A0 (.eqs rfl rfl)<|A9 rfl<|Ac rfl (λao=>?_) (λao=>?_)
 have aO:=dT ao
 refine W.k ?_
 exact ⟨_,⟨rfl,rfl,rfl,tT⟩,rfl,by simp_all [GS]⟩
 have aO:=dF ao
 refine A4<|A0 (.eqs rfl rfl)<|A9 rfl<|Ac rfl (λap=>?_) (λap=>?_)
 have aP:=dT ap
 refine W.k ?_
 exact ⟨_,⟨rfl,rfl,rfl,tT⟩,rfl,by simp_all [GS]⟩
 have aP:=dF ap
 refine A4<|A0 (.eqs rfl rfl)<|A9 rfl<|Ac rfl (λaq=>?_) (λaq=>?_)
 have aQ:=dT aq
 refine W.k ?_
 exact ⟨_,⟨rfl,rfl,rfl,tT⟩,rfl,by simp_all [GS]⟩
 have aQ:=dF aq
 refine A4<|A0 (.eqs rfl rfl)<|A9 rfl<|Ac rfl (λau=>?_) (λau=>?_)
 have aR:=dT au
 refine W.k ?_
 exact ⟨_,⟨rfl,rfl,rfl,tT⟩,rfl,by simp_all [GS]⟩
 have aR:=dF au
 refine Ak<|A0 (.eqs rfl rfl)<|A9 rfl ?_
 exact ⟨_,⟨rfl,rfl,rfl,tT⟩,rfl,by simp_all [GS]⟩
 obtain ⟨rfl,rfl⟩:=hR
 refine Ac rfl (λav=>?_) (λav=>?_)
 have aT:=dT av
 refine Ah ?_
 have G:op∈GS:=by assumption
 refine Ak<|A2 rfl<|A2 rfl<|WL.cx AN rfl rfl ((A0V op (J).get ha hb hsn hfc)) (λbf bg P a9=>?_) (λbC bD bg P a9=>?_)
 exact Aw (Dq bf (v.symm.trans ((A1R y C G).trans P)) (EZ (x _ A) a9))
 have j:R=_:=v.symm.trans ((A1R y C G).trans P)
 obtain ⟨rfl,F9,q,d⟩:=a9
 have i:=PU (Cn A (λg hg=>.inl (.inl (Am.1 hg))) (λg hg=>.inl hg)) d
 refine WL.e<|Ai (Bt rfl  ?_)
 exact GD _ _ j rfl ⟨rfl,F9,q,i⟩
 have aT:=dF av
 refine W.k<|Ah ?_
 have G:op ∉ GS:=by assumption
 refine Ak<|Ct (ps:=_) Qj Lv z9_ rfl rfl rfl rfl rfl pR rfl (λbE aU aw aF Q bw=>?_)
 have aV:=JP (w1:=aU) J (λk hk hl=>Q.other k oO)
 have aW:=Bg aw ae.lt
 have ax:=ae.un Q aW
 have ay:=Cq aw A.size
 have aa:=DA A (Hf Q ay)
 have bh:=AS.lit (V:=UO) (l:=[[113],[81],[99,109],[109],[108],[99],[118],[121],[104],[114,101],[83],[115],[102],[70],[102,42],[66],[66,42],[98],[98,42],[110],[87],[87,42]]) aF (rfl)
 refine A9 rfl<|A4<|A2 rfl<|A2 rfl<|WL.c1 AN rfl rfl ((A2l _ F6 _ op _ bh dD)) (λbG aX=>?_)
 obtain rfl:=aX
 refine A9 rfl<|Ah<|A4<|A2 rfl<|A0 (.lss rfl rfl)<|WL.e<|Ac rfl (λaz=>?_) (λaz=>?_)
 have aY:=dT az
 have K:op ∉ F6:=λhm=>by
  have h9:A0i F6 op=(F6.idxOf op:Int):=A6 hm
  omega
 refine Ak<|A0 (.mkI LJ rfl)<|Fo rfl (Aw ?_)
 exact Dq 23 (v.symm.trans (A7r y C G K)) (x _ aa)
 have aY:=dF az
 have K:op∈F6:=by
  apply Classical.byContradiction
  intro hm;have h9:A0i F6 op=-1:=A1 hm
  omega
 have h9:A0i F6 op=(F6.idxOf op:Int):=A6 K
 refine W.k<|A4<|A2 rfl<|A0 (.nck rfl)<|A0 (.fa BL rfl Ot dD rfl)<|Ag (Ad (g4_ _) rfl ax rfl)<|A0 (.not rfl)<|Bk AN rfl rfl ((Dc _ _)) (λbi aG T D=>?_) (λbH aG T D=>?_)
 have aA:=kB aa D
 exact Aw (Dq bi (by rw [<- v,A1T y C G K,<- af];exact Ax T) (x _ aA))
 have U:=JP (w1:=aG) aV (λk hk hl=>D.block k hl)
 have aZ:=ax.bl D
 have u:=kB aa D
 have hE:R=opW V args op:=v.symm.trans ((A1T y C G K).trans (by rw [<- af];exact AG T))
 refine WL.e<|W.b<|A4<|A2 rfl<|A0 (.lss rfl rfl)<|A9 rfl<|Ac rfl (λaB=>?_) (λaB=>?_)
 have a':=dT aB
 have hD:=hE.trans (A6 oO)
 refine Ak<|A2 rfl<|A2 rfl<|WL.cx AN rfl rfl ((Zf op (U).get ha)) (λbj bk X ab=>?_) (λbI bJ bk X ab=>?_)
 exact Aw (Dq bj (hD.trans X) (EZ (x _ u) ab))
 have j:R=_:=hD.trans X
 obtain ⟨rfl,F9,q,d⟩:=ab
 have i:=PU (Cn u (λg hg=>.inl (.inl (Am.1 hg))) (λg hg=>.inl hg)) d
 refine WL.e<|BJ (Bt rfl ?_)
 exact GD _ _ j rfl ⟨rfl,F9,q,i⟩
 have a':=dF aB
 refine A4<|A2 rfl<|A0 (.lss rfl rfl)<|A9 rfl<|Ac rfl (λaC=>?_) (λaC=>?_)
 have b0:=dT aC
 have hD:=hE.trans ((A1 oO).trans (A6 oO))
 refine Ak<|A2 rfl<|A2 rfl<|WL.cx AN rfl rfl ((A3G op (U).get ha)) (λbm bn a0 ac=>?_) (λbK bM bn a0 ac=>?_)
 exact Aw (Dq bm (hD.trans a0) (EZ (x _ u) ac))
 have j:R=_:=hD.trans a0
 obtain ⟨rfl,F9,q,d⟩:=ac
 have i:=PU (Cn u (λg hg=>.inl (.inl (Am.1 hg))) (λg hg=>.inl hg)) d
 refine WL.e<|BJ (Bt rfl ?_)
 exact GD _ _ j rfl ⟨rfl,F9,q,i⟩
 have b0:=dF aC
 refine Fd 64 (decide (op=[87]\/op=[87,42])) ?_ ?_
 refine Ak<|A2 rfl<|A0 (.eqs rfl rfl)<|A2 rfl<|B1 rfl rfl rfl (λE=>?_) (λE=>?_)
 have b1:=dF E
 refine A2 rfl<|As E<|A0 (.eqs rfl rfl)<|A0 (.pkF rfl E rfl)<|A9 rfl ?_
 exact ⟨G8 (Cy rfl (by first | (simp_all;done))),rfl⟩
 have b1:=dT E
 refine Aa E<|A0 (.pkT rfl E rfl)<|A9 rfl ?_
 exact ⟨G8 (Cy rfl (by first | (simp_all;done))),rfl⟩
 refine Ac rfl (λaD=>?_) (λaD=>?_)
 have b2:=dT aD
 have hD:=hE.trans ((A1 oO).trans ((A1 oO).trans (A6 (dT aS))))
 refine A4<|A2 rfl<|WL.cx AN rfl rfl ((F7 0 (U).get ha oO)) (λbo bp a1 a2=>?_) (λbN bO bp a1 a2=>?_)
 have aE:=kB u a2
 exact Aw (Dq bo (by rw [hD,Ax a1]) (x _ aE))
 have b3:=aZ.bl a2.1
 have b4:=kB u a2.1
 rw [AG a1] at hD
 refine WL.e<|Ak<|A2 rfl<|A2 rfl<|A0 (.len Ju rfl)<|A0 (.nck rfl)<|A0 (.fa BL rfl B5 dD rfl)<|C2 (o:=28) ((Fh ⟨s,fo,sa,pa,(op.length:Int),it,lo,te,li,ar,itv⟩).toArray) B5 rfl (rfl) rfl (rfl) b3 bL (rfl) (λbq a3 a4 bx=>?_)
 have a3:AF bq bv _ _:=a3
 have a4:BF bv _ _:=a4
 have b5:=kU b4 a4
 refine WL.e<|BJ (Bt rfl ?_)
 exact GD _ _ hD rfl ⟨rfl,En hO b5 a3 (λm=>{ hR.mv m with clip:=rfl })⟩
 have b2:=dF aD
 have hD:=hE.trans ((A1 oO).trans ((A1 oO).trans (A1 (dF aS))))
 refine Ak<|A2 rfl<|A2 rfl<|WL.cx AN rfl rfl ((A0W op (U).get ha hsn)) (λbt bu a5 ad=>?_) (λbP bQ bu a5 ad=>?_)
 exact Aw (Dq bt (hD.trans a5) (EZ (x _ u) ad))
 have j:R=_:=hD.trans a5
 obtain ⟨rfl,F9,q,d⟩:=ad
 have i:=PU (Cn u (λg hg=>.inl (.inl (Am.1 hg))) (λg hg=>.inl hg)) d
 refine WL.e<|BJ (Bt rfl ?_)
 exact GD _ _ j rfl ⟨rfl,F9,q,i⟩
end
end
section
theorem A1L  {l:l8_} (ht:t<=l.length):(F4 refs l t).np<=l.length:=by
 have a:=EX l t ht
 have b:=QB (refs:=refs) (s:=E0 l t) a.2
 unfold F4
 repeat' split
 all_goals first | exact a.2 | exact b.2
end
section
theorem A17 {l:l8_} {a:Nat} (ha:a<=l.length) (h:(Gn l a).2.2.2=0):(a:Int)<(Gn l a).2.2.1/\(Gn l a).2.2.1<=(l.length:Int):=by
 unfold Gn at h ⊢
 rw [A1 oO] at h ⊢
 have d:=GJ l a ha
 rw [show (a:Int).toNat=a from rfl] at h ⊢
 split at h
 ·
  next hlt =>
  rw [dif_pos hlt]
  split at h
  ·
   next hreg =>
   rw [A6 hreg]
   have b:E0 l (AP false l a)≠[]:=by
    rw [UB,Ap hlt,List.takeWhile_cons,A6 hreg]
    exact Q6 _ _
   have c:=UA oO b
   have e:=QB (refs:=false) (s:=E0 l (AP false l a)) c.2
   have f:AP false l a<(F4 false l (AP false l a)).np:=by
    unfold F4
    repeat' split
    all_goals first | exact c.1 | (show AP false l a<Xf _ _;omega)
   have g:=A1L (refs:=false) (l:=l) (t:=AP false l a) oO
   show (a:Int)<((F4 false l (AP false l a)).np:Int)/\((F4 false l (AP false l a)).np:Int)<=l.length
   omega
  ·
   next hreg =>
   rw [A1 hreg]
   cases ho:FD false l 32 (AP false l a) with
   | ok q =>
    obtain ⟨o,t'⟩:=q
    have:=QW false l 32 _ _ _ hlt ho
    show (a:Int)<(t':Int)/\(t':Int)<=l.length
    omega
   | error k =>
    rw [ho] at h
    exact CM h (Vy false l _ _ _ ho).ne
 · cases h
end
section
theorem Zo {l:l8_} {t:JM} (h:Lu l=.ok (t,s)):t.text.length<=65535:=by
 have hn:∀ {k:Int} {l:l8_} {t:JM} {r:l8_},IR k l=.ok (t,r)->t.text.length<=65535:=λh=>by
  obtain ⟨-,rfl,a⟩:=KC h
  exact AW a dD
 have ht:∀ {o:Option (l8_ × l8_)} {t:JM} {r:l8_},Hz o=.ok (t,r)->t.text.length<=65535:=λh=>by
  obtain ⟨_,-,rfl,a⟩:=Ml h
  exact a
 unfold Lu at h
 split at h
 · cases h;exact Gg _
 ·
  split at h
  · exact ht h
  ·
   split at h
   · cases h
   ·
    split at h
    ·
     unfold Ld at h
     split at h
     ·
      split at h
      · cases h;exact (show (2:Nat)<=65535 by decide)
      ·
       split at h
       · exact ht h
       · cases h
     ·
      split at h
      · exact ht h
      · cases h
    ·
     split at h
     · cases h;exact Gg _
     ·
      split at h
      · cases h;exact Gg _
      ·
       split at h
       · cases h;exact (show (1:Nat)<=65535 by decide)
       ·
        split at h
        ·
         unfold LM at h
         split at h
         ·
          split at h
          · exact hn h
          · exact hn h
         · exact hn h
        ·
         unfold Sz at h
         simp only at h
         split at h
         · cases h
         ·
          split at h
          · cases h;exact Gg _
          · exact hn h
theorem Zt {l:l8_} (h:Km l t=.ok (s,t1)):s.length<=65535:=by
 have hx:(Gh l t).s.length<=65535:=by
  unfold Gh
  split
  · exact Gg _
  ·
   cases hk:Lu (l.drop (t:Int).toNat) with
   | error e=>exact Gg _
   | ok r=>exact Zo (s:=r.2) hk
 unfold Km at h
 repeat' split at h
 all_goals first | (cases h;done) | (cases h;exact hx)
theorem A07 {l:l8_} (h:Jc l t=.ok (s,t1)):s.length<=65535:=by
 unfold Jc at h
 split at h
 · cases h
 ·
  split at h
  · cases h
  ·
   split at h
   · cases h
   · cases h;omega
theorem Tc {obj:Nat->MN} {l:l8_}:∀ (f:Nat) (acc:List PV) (t:Nat) {os:List PV} {t1:Nat},acc.length<=65535->HU obj l f acc t=.ok (os,t1)->os.length<=65535
 | 0,_,_,_,_,_,h=>by cases h
 | f+1,acc,t,os,t1,ha,h=>by
  unfold HU at h
  split at h
  · cases h
  ·
   split at h
   · cases h;exact ha
   ·
    split at h
    · cases h
    ·
     split at h
     · cases h
     · exact Tc f _ _ oF h
theorem QN {obj:Nat->MN} {l:l8_}:∀ (f:Nat) (ks:List (l8_)) (acc:List PV) (t:Nat) {ks1:List (l8_)} {os:List PV} {t1:Nat},acc.length<=65535->GT obj l f ks acc t=.ok (ks1,os,t1)->os.length<=65535
 | 0,_,_,_,_,_,_,_,h=>by cases h
 | f+1,ks,acc,t,ks1,os,t1,ha,h=>by
  unfold GT at h
  split at h
  · cases h
  ·
   split at h
   · cases h
   ·
    split at h
    · cases h;exact ha
    ·
     split at h
     · cases h
     ·
      split at h
      · cases h
      ·
       split at h
       · cases h
       ·
        split at h
        · cases h
        ·
         split at h
         · cases h
         ·
          split at h
          · cases h
          · exact QN f _ _ _ oF h
def Wy (o:PV):Prop:=(SV o).length<=65535/\(N8 o).length<=65535
theorem Wy.zero (k n:Int):Wy (JJ k n []):=⟨Gg _,Gg _⟩
theorem OC {l:l8_} {o:PV} (h:IG l t=.ok (o,t1)):Wy o:=by
 unfold IG at h
 split at h
 · cases h
 · next s t' hk=>cases h;exact ⟨Zt hk,Gg _⟩
theorem T8 {l:l8_} {o:PV} (h:Lp l t=.ok (o,t1)):Wy o:=by
 unfold Lp at h
 split at h
 · cases h
 · next s t' hk=>cases h;exact ⟨A07 hk,Gg _⟩
theorem QM {X:WR} {o:PV} (h:J2 X=.ok (o,t1)):Wy o:=by
 unfold J2 at h
 split at h
 · cases h;exact Wy.zero _ _
 · cases h
theorem A21  {l:l8_} {o:PV} (h:FD refs l d t=.ok (o,t1)):Wy o:=by
 cases d with
 | zero =>
  unfold FD at h
  split at h
  · cases h
  ·
   repeat' split at h
   all_goals first | (cases h;done) | exact T8 h | exact OC h | exact QM h
 | succ d =>
  unfold FD at h
  split at h
  · cases h
  ·
   split at h
   · exact T8 h
   ·
    split at h
    ·
     unfold Rf at h
     split at h
     · cases h
     · next os t' hk=>cases h;exact ⟨Gg _,Tc _ _ _ (Gg _) hk⟩
    ·
     split at h
     · exact OC h
     ·
      split at h
      ·
       split at h
       · cases h
       ·
        split at h
        · exact OC h
        ·
         unfold Nc at h
         split at h
         · cases h
         · next ks os t' hk=>cases h;exact ⟨Gg _,QN _ _ _ _ (Gg _) hk⟩
      · exact QM h
theorem A16 (l:l8_) (a:Int):Wy (Gn l a).1:=by
 unfold Gn
 split
 · exact Wy.zero _ _
 ·
  split
  ·
   split
   · exact Wy.zero _ _
   ·
    split
    · next o t' hk=>exact A21 hk
    · exact Wy.zero _ _
  · exact Wy.zero _ _
def JI (sum:Int->l8_->Int) (fs:List LE) (l:l8_):Nat->Int->Vw->List PV->Except Int Vw
 | 0,_,_,_=>.error 0
 | f+1,a,v,args =>
  if (Gn l a).2.2.2=26 then (CH (decide ((args.length:Int)=0) && decide ((v.saved.length:Int)=0) && !v.inText)>>=λ_=>.ok v)
  else if (Gn l a).2.2.2≠0 then .error (Gn l a).2.2.2
  else if (Gn l a).2.1=[] then (H6 (decide ((args.length:Int)<32))>>=λ_=>JI sum fs l f (Gn l a).2.2.1 v (args++[(Gn l a).1]))
  else (Ly sum fs v args (Gn l a).2.1>>=λv1=>JI sum fs l f (Gn l a).2.2.1 v1 [])
end
section
theorem Fp  {S:List Nat} (h:BF g w w1) (hg:g∈S\/N<=g):AB N S w w1:=hg.elim (Tf h) (Hf h)
theorem A3s  {F:Nat->Prop} {x:PC} {o:PV} (h:K5 N (λw=>Dj w (E3 c F w) x o) w):Dj w (E3 c F w) x o:=by
 obtain ⟨e,a,b,d⟩:=h
 exact b.mv (Uy a d)
section
variable {B:Nat} {fs:PZ} {w w1:World} {bv:Nat} {F:Nat->Prop} {V:Vw} {args:List PV}
theorem FO.push {H:PW} {its:List AQ} {hs:List Ux} {cs:List PC} {x:PC} {o:PV} (hO:Zb B w bv H vp V its hs cs) (hR:Za (E3 fs.c (Gm bv H vp) w) w H fs V args its hs cs) (K:AB w.heap.size [bv,vb H.args bv] w w1)
    (hk:AF w1 bv (Fh { H with args:=v1 }).toArray 74) (ho:AD Nb 99 B w1 v1 (cs++[x])) (hn:∀ g,v1.ownBlock=some g->H.args.ownBlock=some g\/w.heap.size<=g) (hp:Dj w (E3 fs.c (Gm bv H vp) w) x o) :
    FO B fs w1 bv (Gm bv { H with args:=v1 } vp) V (args++[o])/\Df (Gm bv H vp) (Gm bv { H with args:=v1 } vp) w w1:=by
  obtain ⟨-,f,j,k,-⟩:=hO.rest K _ (Kc hO.oa hO.blk.ty)
  have hC:Df (Gm bv H vp) (Gm bv { H with args:=v1 } vp) w w1:=Cn K (Ll (λg hg=>.inr (.inr (.inr (.inr (.inr hg)))))) (λg hg=>by
    rcases hg with a | a | a | a | a | a
    · exact .inl (.inl a)
    · exact .inl (.inr (.inl a))
    · exact .inl (.inr (.inr (.inl a)))
    · exact .inl (.inr (.inr (.inr (.inl a))))
    · exact .inl (.inr (.inr (.inr (.inr (.inl a)))))
    · exact (hn g a).imp (λh=>.inr (.inr (.inr (.inr (.inr h))))) id)
  have hq:=hR.mv (E3.mv (c:=fs.c) hC)
  have d:=hp.mv (E3.mv (c:=fs.c) hC)
  have ha:=hq.ar
  refine ⟨⟨_,vp,its,hs,cs++[x],rfl,⟨hk,f dD dD,j dD,k dD,ho,hO.lbv,hO.lbp⟩,?_⟩,hC⟩
  exact { hq with ar:=⟨by rw [A5,A5,ha.1];rfl,λi a m=>by
    rcases BU i cs.length with b | b
    · have e : i < args.length := ha.1 ▸ b
      rw [Gt b,Gt e]
      exact ha.2 i b e
    · have l : i = cs.length := by rw [A5] at a; simp only [A8, Ae] at a; omega
      subst l
      rw [Ga (FL _),Ga (Nat.le_of_eq ha.1.symm)]
      simp only [ha.1,K8,AX]
      exact d⟩ }
theorem MF {H:PW} {its:List AQ} {hs:List Ux} {cs:List PC} {x z:PC} {o:PV} {pv:Option Addr} {cv:Nat} (hO:Zb B w bv H vp V its hs cs) (hR:Za (E3 fs.c (Gm bv H vp) w) w H fs V args its hs cs) (K:AB w.heap.size [bv,vb H.args bv] w w1)
  (hk:AF w1 bv (Fh { H with args:=.slice pv (cs++[z]).length cv }).toArray 74) (ho:AD Nb 99 B w1 (.slice pv (cs++[z]).length cv) ((cs++[z]).set cs.length x)) (hn:∀ g,(Value.slice pv (cs++[z]).length cv).ownBlock=some g->H.args.ownBlock=some g\/w.heap.size<=g) (hp:Dj w (E3 fs.c (Gm bv H vp) w) x o) :
  FO B fs w1 bv (Gm bv { H with args:=.slice pv (cs++[z]).length cv } vp) V (args++[o])/\Df (Gm bv H vp) (Gm bv { H with args:=.slice pv (cs++[z]).length cv } vp) w w1 :=
 FO.push hO hR K hk (by rwa [List.set_append_right _ _ (FL _),K8,List.set_cons_zero] at ho) hn hp
theorem NH  {F0 F2:Nat->Prop} {w0 wJ:World} {l:l8_} {R:Except Int Vw} {f:Nat} {o:PV} (k2:Df F0 F1 w0 wJ) (k3:Av wJ p l) (j4:0<l.length->¬ F1 (pA p).block) (hpu:FO B fs w2 bv F2 V (args++[o])/\Df F1 F2 wJ w2)
  (k6:args.length<32) (j6:∀ x∈args,Wy x) (hbd:Wy o) (j7:Ez V) (k7:JI (λf b=>FS f 0 b) fs.fs l f (m:Int) V (args++[o])=R) (h1:m<=l.length) (h2:l.length<f+m) :
  FO B fs w2 bv F2 V (args++[o])/\Df F0 F2 w0 w2/\Av w2 p l/\(0<l.length->¬ F2 (pA p).block)/\(args++[o]).length<=32/\(∀ x∈args++[o],Wy x)/\Ez V/\JI (λf b=>FS f 0 b) fs.fs l f (m:Int) V (args++[o])=R/\m<=l.length/\l.length<f+m :=
 ⟨hpu.1,PU k2 hpu.2,k3.chg hpu.2 j4,λh0=>hpu.2.nf (j4 h0) (k3.lt h0),by rw [A5,CD];omega,λy hy=>(Ba.1 hy).elim (j6 y) (λh=>by rw [Am.1 h];exact hbd),j7,k7,h1,h2⟩
theorem Y4 {H:PW} {its:List AQ} {hs:List Ux} {cs:List PC} (hO:Zb B w bv H vp V its hs cs) (hR:Za (E3 fs.c (Gm bv H vp) w) w H fs V args its hs cs) (K:AB w.heap.size [bv] w w1)
  (hk:AF w1 bv (Fh { H with args:=.slice none 0 0 }).toArray 74) :
  FO B fs w1 bv (Gm bv { H with args:=.slice none 0 0 } vp) V []/\Df (Gm bv H vp) (Gm bv { H with args:=.slice none 0 0 } vp) w w1:=by
 obtain ⟨-,b,d,e,-⟩:=hO.rest K [74] (λg hg=>⟨_,Am.2 rfl,by rw [Am.1 hg];exact hO.blk.ty⟩)
 have hC:Df (Gm bv H vp) (Gm bv { H with args:=.slice none 0 0 } vp) w w1:=Cn K (λg hg=>.inl (.inl (Am.1 hg))) (λg hg=>by
  rcases hg with a | a | a | a | a | a
  · exact .inl (.inl a)
  · exact .inl (.inr (.inl a))
  · exact .inl (.inr (.inr (.inl a)))
  · exact .inl (.inr (.inr (.inr (.inl a))))
  · exact .inl (.inr (.inr (.inr (.inr (.inl a)))))
  · cases a)
 have hq:=hR.mv (E3.mv (c:=fs.c) hC)
 exact ⟨⟨_,vp,its,hs,[],rfl,⟨hk,b dD dD,d dD,e dD,AD.nil _ _ _ _,hO.lbv,hO.lbp⟩,{ hq with ar:=Y9.nil _ _ }⟩,hC⟩
theorem A5P (p:Option Addr) (l:l8_) (c:Nat) (h:FO B fs w bv F V []) (hb:Av w p l) (hc:l.length<=c) (hl:l.length<=100000000) (hpF:0<l.length->¬ F (pA p).block) (hsn:Ez V) (hff:∀ f∈fs.fs,0<=f.font/\f.font<=13) (hfc:fs.c=bv) :
    Calls Tryz.prog 19 #[.pointer (some ⟨bv,0,none⟩),.slice p l.length c] w (VwE B fs bv F w (JI (λf b=>FS f 0 b) fs.fs l (l.length+1) 0 V []) []):=by
  obtain ⟨R,cw⟩:∃ R,JI (λf b=>FS f 0 b) fs.fs l (l.length+1) 0 V []=R:=⟨_,rfl⟩;rw [cw];obtain ⟨ef,cy⟩:=h.base;have cI:=h.lt;have ap:∀ {F1:Nat->Prop} {w1:World},Df F F1 w w1->Below B w w1:=λh=>h.below cy (λg hg=>(cI g hg).1)
  have d':=Hy.of h;have hP:∀ (w1:World) (a:Nat),Av w1 p l->Calls Tryz.prog 34 #[.slice p l.length c,.int .i64 (a:Int)] w1 λe w'=>∃ x:PC,e=.returned (.tuple #[.agg (pcV x).toArray,.string (bs (Gn l a).2.1),.int .i64 (Gn l a).2.2.1,.int .i64 (Gn l a).2.2.2])/\Below w1.heap.size w1 w'/\Dj w' (λk=>w1.heap.size<=k) x (Gn l a).1:=λw1 a d =>
    Calls.mono (Xq p l c a w1 d hc hl) λe w' q=>by
      obtain ⟨⟨x,d,h2⟩,h3⟩:=q;exact ⟨x,d,h3,h2⟩
  refine W.e func19 rfl ntmps19 bL ?_;have dq:=Df.refl F w;refine Ah<|A4<|A9 rfl<|W.b<|Cj (α:=Nat × Nat × (Nat->Prop) × Vw × List PV) (λt=>[(0,.pointer (some ⟨bv,0,none⟩)),(1,.slice p l.length c),(4,.int .i64 (t.2.1:Int))]) (λt w'=>FO B fs w' bv t.2.2.1 t.2.2.2.1 t.2.2.2.2/\Df F t.2.2.1 w w'/\Av w' p l/\(0<l.length->¬ t.2.2.1 (pA p).block)/\t.2.2.2.2.length<=32/\(∀ x∈t.2.2.2.2,Wy x)/\Ez t.2.2.2.1/\JI (λf b=>FS f 0 b) fs.fs l t.1 (t.2.1:Int) t.2.2.2.1 t.2.2.2.2=R/\t.2.1<=l.length/\l.length<t.1+t.2.1) (λt=>t.1) ((l.length+1,0,F,V,[])) ⟨rfl,rfl,rfl,tT⟩ (⟨h,dq,hb,hpF,Gg _,(λx hx=>by cases hx),hsn,cw,Gg _,by simp⟩) (λt w1 hR=>?_);obtain ⟨⟨f,a,F1,V1,args⟩,bo⟩:∃ u,u=t:=⟨t,rfl⟩;subst bo;obtain ⟨j1,j2,j3,j4,j5,j6,j7,j8,j9,dr⟩:=hR;simp only at j1 j2 j4 j5 j6 j7 j8 j9 dr;obtain ⟨f,rfl⟩:∃ n,f=n+1:=⟨f-1,by omega⟩;unfold JI at j8;have bp:=λw1=>hP w1 a
  have aG:=A17 (l:=l) j9;have aC:=A16 l a
  generalize Gn l a=T at bp aG aC j8;obtain ⟨o,wd,nx,er⟩:=T;simp only at bp aG aC j8;obtain ⟨wL,ds⟩:∃ u,u=w1:=⟨_,rfl⟩;subst ds;have cJ:=Hy.of j1;have b1:=j1.lt;have cK:F1 bv:=by obtain ⟨H,vp,its,hs,cs,aq,-,-⟩:=j1.mem;rw [aq];exact .inl rfl
  have e0:=(b1 bv cK).2;refine W.b<|A4<|A2 rfl<|A2 rfl<|DQ AN rfl rfl ((bp _ j3)) (λx w1 aV=>?_);have cz:=JP (w1:=w1) cJ (λk hk hl=>aV.1.block k hl);have cA:=GY j3 aV.1 (λh0=>j3.lt h0);have cB:=Cd j2 aV.1;have dt:=aV.2;have e1:=aV.1.size;have du:=K5.of (Q:=λw=>Dj w (E3 fs.c F1 w) x o) (dt.mono (λk hk hl=>⟨hl,λhf=>by have:=(b1 k hf).2;omega,by rw [hfc];omega⟩));refine A2 rfl<|A0 (.ext rfl rfl)<|A0 (.ext rfl rfl)<|A0 (.ext rfl rfl)<|A0 (.ext rfl rfl)<|BV Jg rfl (λb5 cC cD cL aH e2=>?_);have dv:=JP (w1:=cC) cz (λk hk hl=>aH.other k oO);have dw:=Hn (w1:=cC) du (λk hk hl=>aH.other k oO);have bq:=λh0=>cD▸cA.lt h0
  have dx:=DB cA aH bq;have c2:=Cq cD cB.size;have cM:=Df.upd cB aH c2;have c3:¬ F1 b5:=λhq=>by have eg:=(cz).lt hq;omega
  refine Az rfl rfl cL B2 rfl rfl (λcE b7 am dS=>?_);have au:=JP (w1:=cE) dv (λk hk hl=>am.other k (by first | ((try simp only) <;> omega) | (have:=hk.1;((try simp only) <;> omega))));have cN:=Hn (w1:=cE) dw (λk hk hl=>am.other k (by first | ((try simp only) <;> omega) | (have:=hk.1;((try simp only) <;> omega))));have aI:=DB dx am bq;have a7:=Df.upd cM am oO;refine Dp rfl<|Dp rfl<|A9 rfl<|Ah<|A4<|A2 rfl<|A0 (.eql rfl rfl)<|WL.e<|Ac rfl (λbt=>?_) (λbt=>?_)
  · have cO := dT bt
    refine C0 ?_;obtain ⟨H,vp,its,hs,cs,aq,hO,a2⟩:=(au).get.mem;have i:=hO.blk;have aW:H.inText=V1.inText:=a2.inText;obtain ⟨psv,csv,esv,-⟩:=hO.os.row;obtain ⟨par,car,ear,-⟩:=hO.oa.row;have eh:hs.length=V1.saved.length:=by have:=a2.sv.1;rw [BD] at this;exact this
    have ei:hs.reverse.length=hs.length:=DM;have cF:cs.length=args.length:=a2.ar.1;obtain ⟨⟨ctm,fi,sk,pe,clv,fn,sz⟩,fo,sa,pa,cl,it,lo,te,li,ar,itv⟩:=H;simp only at aW esv ear;subst esv;subst ear;rw [A6 (show er=26 by assumption)] at j8;refine Ak<|A2 rfl<|A0 (.nck rfl)<|A0 (.fa BL rfl EO dD rfl)<|Ag (Ad (GN _) rfl i rfl)<|A0 (.lenS EY rfl)<|A0 (.eql rfl rfl)<|A2 rfl<|B1 rfl rfl rfl (λJ=>?_) (λJ=>?_)
    · have cP := dT J
      refine A2 rfl<|As J<|A0 (.nck rfl)<|As J<|A0 (.fa BL rfl Lw dD rfl)<|As J<|Ag (Ad (Rq _) rfl i rfl)<|As J<|A0 (.lenS NB rfl)<|As J<|A0 (.eql rfl rfl)<|A0 (.pkT rfl J rfl)<|A2 rfl<|B1 rfl rfl rfl (λa3=>?_) (λa3=>?_)
      · have cQ := dT a3
        refine A2 rfl<|As a3<|A0 (.nck rfl)<|As a3<|A0 (.fa BL rfl Ot dD rfl)<|As a3<|Ag (Ad (g4_ _) rfl i rfl)<|As a3<|A0 (.not rfl)<|A0 (.pkT rfl a3 rfl)<|Bk AN rfl rfl ((Dc _ _)) (λej cG aJ aK=>?_) (λek cG aJ aK=>?_);have bu:=Cd a7 aK;obtain ⟨ak,rfl⟩:=Db aJ;exact Aw (Dq 22 (j8.symm.trans (Ax ((A1 (λhz=>by
          simp only [A3,Ab,AH] at hz
          first
            | omega
            | (rw [aW,hz.2] at ak;cases ak))).trans rfl))) (ap bu))
        have cR:=JP (w1:=cG) au (λk hk hl=>aK.block k hl);have cS:=Cd a7 aK;refine WL.e<|BJ (Bt rfl ?_)
        (have dy := DX aJ
         have dz:args=[]:=Cz oO;have cT:(decide ((args.length:Int)=0) && decide ((V1.saved.length:Int)=0) && !V1.inText)=true:=by
           rw [Aj oO,Aj oO,<- aW];exact dy
         rw [cT] at j8;subst dz;exact GD V1 _ (j8.symm.trans rfl) rfl ⟨rfl,F1,(cR).get,cS⟩)
      have cQ:=dF a3;refine Aa a3<|Aa a3<|Aa a3<|Aa a3<|A0 (.pkF rfl a3 rfl)<|Bk AN rfl rfl ((Dc _ _)) (λel dA aL bw=>?_) (λem dA aL bw=>?_);have bx:=Cd a7 bw;obtain ⟨ak,rfl⟩:=Db aL;exact Aw (Dq 22 (j8.symm.trans (Ax ((A1 (λhz=>by
        simp only [A3,Ab,AH] at hz
        first
          | omega
          | (rw [aW,hz.2] at ak;cases ak))).trans rfl))) (ap bx))
      refine WL.e<|BJ (Bt rfl ?_);exact CM (DX aL) dD
    have cP:=dF J;refine Aa J<|Aa J<|Aa J<|Aa J<|Aa J<|A0 (.pkF rfl J rfl)<|A2 rfl<|Aa rfl<|Aa rfl<|Aa rfl<|Aa rfl<|Aa rfl<|A0 (.pkF rfl rfl rfl)<|Bk AN rfl rfl ((Dc _ _)) (λen dB aM bz=>?_) (λeo dB aM bz=>?_);have bA:=Cd a7 bz;obtain ⟨ak,rfl⟩:=Db aM;exact Aw (Dq 22 (j8.symm.trans (Ax ((A1 (λhz=>by
      simp only [A3,Ab,AH] at hz
      first
        | omega
        | (rw [aW,hz.2] at ak;cases ak))).trans rfl))) (ap bA))
    refine WL.e<|BJ (Bt rfl ?_);exact CM (DX aM) dD
  have cO:=dF bt;refine W.k<|Ah<|A4<|A2 rfl<|A0 (.neq rfl rfl)<|WL.e<|Ac rfl (λbB=>?_) (λbB=>?_)
  · have cU := JY bB
    refine Ak<|A2 rfl<|A0 (.mkI LJ rfl)<|Fo rfl (Aw ?_);exact Dq er (by rw [<- j8,A1 (show ¬ er=26 by assumption),A6 aS]) (ap a7)
  have cU:=JZ bB;have bC:er=0:=by assumption
  obtain ⟨m,rfl⟩:∃ m:Nat,nx=(m:Int):=⟨nx.toNat,by have:=(aG bC).1;omega⟩;obtain ⟨e3,e4⟩:=aG bC;rw [A1 (show ¬ er=26 by assumption),A1 (λh=>h bC)] at j8;refine W.k<|A4<|A2 rfl<|A9 rfl<|Ah<|A4<|A2 rfl<|A0 (.eqs rfl rfl)<|WL.e<|Ac rfl (λbD=>?_) (λbD=>?_)
  · have cV := dT bD
    rw [A6 (show wd=[] by assumption)] at j8;refine D4 (α:=Unit) (λt=>[(0,.pointer (some ⟨bv,0,none⟩)),(1,.slice p l.length c),(4,.int .i64 (m:Int)),(5,.pointer (some ⟨b5,0,none⟩))]) (λt w'=>FO B fs w' bv F1 V1 args/\Df F F1 w w'/\Av w' p l/\Dj w' (E3 fs.c F1 w') x o/\AF w' b5 (pcV x).toArray 99/\args.length<32/\JI (λf b=>FS f 0 b) fs.fs l f (m:Int) V1 (args++[o])=R) ?_ (λt w1 hR=>?_);obtain ⟨H,vp,its,hs,cs,aq,hO,a2⟩:=(au).get.mem;have i:=hO.blk;obtain ⟨par,car,ear,-⟩:=hO.oa.row;have cF:cs.length=args.length:=a2.ar.1;obtain ⟨⟨ctm,fi,sk,pe,clv,fn,sz⟩,fo,sa,pa,cl,it,lo,te,li,ar,itv⟩:=H;simp only at ear;subst ear;refine Ak<|A2 rfl<|A0 (.nck rfl)<|A0 (.fa BL rfl EO dD rfl)<|Ag (Ad (GN _) rfl i rfl)<|A0 (.lenS EY rfl)<|A0 (.bis (decide ((args.length:Int)<32)) (.lss rfl rfl) (by exact D5.2 oO))<|Bk AN rfl rfl ((Nz _ _)) (λdC bE an ag=>?_) (λep bE an ag=>?_);have bG:=Cd a7 ag;exact Aw (Dq dC (by rw [<- j8];exact Ax an) (ap bG));have cW:=JP (w1:=bE) au (λk hk hl=>ag.block k hl);have cX:=Hn (w1:=bE) cN (λk hk hl=>ag.block k hl);have cY:=b7.bl ag;have cZ:=GY aI ag (λh0=>aI.lt h0);have c':=Cd a7 ag;rw [AG an] at j8;have b2:=an;refine WL.e<|?_;exact ⟨(),⟨rfl,rfl,rfl,rfl,tT⟩,(cW).get,c',cZ,A3s cX,cY,(by
      unfold H6 at b2
      split at b2
      · have:=dT aS;omega
      · cases b2),j8⟩
    obtain ⟨k1,k2,k3,k4,k5,k6,k7⟩:=hR;obtain ⟨wJ,bH⟩:∃ u,u=w1:=⟨_,rfl⟩;subst bH;have e5:=k1.lt;obtain ⟨H,vp,its,hs,cs,aq,hO,a2⟩:=k1.mem;have i:=hO.blk;have C:=hO.oa;obtain ⟨par,car,ear,-,-,e6,-,-,d0,-⟩:=hO.oa.row;have cF:cs.length=args.length:=a2.ar.1;obtain ⟨⟨ctm,fi,sk,pe,clv,fn,sz⟩,fo,sa,pa,cl,it,lo,te,li,ar,itv⟩:=H;simp only at ear i C;subst ear;subst aq;have e7:=C.lt;have d1:=i.lt;have e8:=k5.lt;have c4:B<=wJ.heap.size:=AW cy (ap k2).size;have bI:=AB.refl wJ.heap.size [bv,vb (.slice par cs.length car) bv] wJ;have aj:∀ g,(Value.slice par cs.length car).ownBlock=some g->g<b5:=λg hg=>by have:=(b1 g (.inr (.inr (.inr (.inr (.inr hg)))))).2;omega
    unfold maxLen at d0;refine Ah<|Dr 13 rfl C7 (λw'=>w'.heap[b5]?=wJ.heap[b5]?/\True) (λeq av=>?_);have b8:=CZ.le c4 av;have bJ:=AD.drew C av;have aw:=i.drew av;have ax:=k5.drew av;have aN:=DA bI (Q8 av);have aD:=Dm (ax.trans k5.symm) BG;refine Af 0 rfl (.mv rfl) aD rfl ?_;refine Af 1 rfl (.nck rfl) aD rfl ?_;refine Af 2 rfl (.fa BL rfl EO dD rfl) aD rfl ?_;refine BY 4 rfl (λw' hw'=>BA rfl ((hw'.1).trans k5) CB rfl B2) aD rfl ?_;refine Ea 3 rfl 6 rfl ?_ ?_;refine Ag (Ad (GN _) rfl aw rfl)<|WL.e<|⟨aD,?_⟩;refine Af 5 rfl (.lenS EY rfl) aD rfl ?_;refine An 6 rfl<|Cu (L:=Nb) (ps:=_) ([Lx 0 0 []]) EY Il Jg rfl rfl rfl rfl rfl rD rfl rfl (λcH d2 aO c5 ah dU=>?_);have b9:=AW b8 ah.size;have d3:=GU bJ aO ah;have d4:=Bg aO aw.lt;have d5:=aw.un ah d4;have d6:=Bg aO ax.lt;have bK:=ax.un ah d6;have bM:wJ.heap.size<=cH:=by rw [aO];exact aN.size
    have X:=DA aN (Hf ah bM);have dE:cH<=d2.heap.size:=by omega
    refine WL.e<|⟨⟨(bK).trans (k5).symm,tT⟩,?_⟩;refine An 7 rfl<|CW EY Pu rfl rfl rfl d3 rfl (c5).rowp oE (b9) rfl (λh=>CM h (Q6 _ _)) (λes et ab c6 aP s=>?_);have bN:=d5.grown aP (λe=>BO C i dD _ e rfl);have b3:=bK.grown aP (λe=>by have:=aj _ e;omega);have bO:=DA X (C1 aP (λg hg=>.inl (by have hg:(Value.slice par cs.length car).ownBlock=some g:=hg;rw [FR hg];simp)) X.size);have ba:=AW b9 c6.size;obtain ⟨pv,cv,evv,-⟩:=(ab).row;subst evv;have bP:=(ab).rowp.isp (by rw [A5,CD];omega);have dG:(cs++[Lx 0 0 []]).length=cs.length+1:=A5;refine WL.e<|?_;have bb:=Dm (b3.trans k5.symm) BG;refine ⟨bb,?_⟩;refine Af 8 rfl (.ixm EY Il rfl rfl bP cs.length rfl oO) bb rfl ?_;refine Af 10 rfl (.nck rfl) bb rfl ?_;refine Af 11 rfl (.fa BL rfl EO dD rfl) bb rfl ?_;refine Ea 9 rfl 12 rfl ?_ ?_;refine RM (L:=Nb) (x) (cs.length) ab oO B2 rfl rfl rfl (λeu ae aX ac bc=>?_);have dH:=(ab).lt ae (by rw [aX];rfl);have K:(Value.slice pv (cs++[Lx 0 0 []]).length cv).ownBlock=some ae:=by rw [aX];rfl
    have G:ae∈[bv,vb (.slice par cs.length car) bv]\/wJ.heap.size<=ae:=(s ae K).elim (λd=>.inl (by have d:(Value.slice par cs.length car).ownBlock=some ae:=d;rw [FR d];simp)) (λd=>.inr (AW X.size d));have b4:ae≠bv:=λe=>(s ae K).elim (λd=>BO C i dD _ d e) (λd=>by have:=X.size;omega)
    have b6:ae≠b5:=λe=>(s ae K).elim (λd=>by have:=aj _ d;omega) (λd=>by have:=X.size;omega)
    have d7:=bN.up ac;have bQ:=b3.up ac;have d8:=DA bO (by first | exact Hf ac oO | exact Fp ac G | exact Tf ac (by simp));have c7:=AW ba ac.size;refine WL.e<|⟨⟨(bQ).trans (k5).symm,tT⟩,?_⟩;refine An 12 rfl<|C2 (o:=43) ((Fh ⟨⟨ctm,fi,sk,pe,clv,fn,sz⟩,fo,sa,pa,cl,it,lo,te,li,.slice pv (cs++[Lx 0 0 []]).length cv,itv⟩).toArray) EO rfl (rfl) rfl ((bc).one) d7 bL (rfl) (λdI aQ P dV=>?_);have aQ:AF dI bv _ _:=aQ;have P:BF bv _ _:=P;have dW:=AW c7 P.size;have d9:=Ia bc P (λg hg e=>by subst e;first | exact BO C i dD _ hg rfl | (rcases s _ hg with d | d <;> first | exact BO C i dD _ d rfl | omega));have da:=bQ.up P;have db:=DA d8 (by first | exact Hf P oO | exact Fp P G | exact Tf P (by simp));refine WL.e<|⟨⟨(da).trans (k5).symm,tT⟩,?_⟩;refine Bd kR<|C0 ?_;have a8:=MF hO a2 db aQ d9 (λg d=>(s g d).imp id (AW X.size)) k4;exact ⟨(f,m,_,V1,args++[o]),⟨rfl,rfl,rfl,tT⟩,NH (f:=f) (m:=m) k2 k3 j4 a8 k6 j6 aC j7 k7 oO oO,by ((try simp only) <;> omega)⟩;refine C2 (o:=43) ((Fh ⟨⟨ctm,fi,sk,pe,clv,fn,sz⟩,fo,sa,pa,cl,it,lo,te,li,.slice pv (cs++[Lx 0 0 []]).length cv,itv⟩).toArray) EO rfl (rfl) rfl ((ab).one) bN bL (rfl) (λdJ aR U dX=>?_);have aR:AF dJ bv _ _:=aR;have U:BF bv _ _:=U;have c8:=AW ba U.size;have bR:=Ia ab U (λg hg e=>by subst e;first | exact BO C i dD _ hg rfl | (rcases s _ hg with d | d <;> first | exact BO C i dD _ d rfl | omega));have bS:=b3.up U;have dc:=DA bO (by first | exact Hf U oO | exact Fp U G | exact Tf U (by simp));refine WL.e<|⟨⟨(bS).trans (k5).symm,tT⟩,?_⟩;refine An 9 rfl<|RM (L:=Nb) (x) (cs.length) bR oO B2 rfl rfl rfl (λev af aY ad c9=>?_);have dK:=(bR).lt af (by rw [aY];rfl);have K:(Value.slice pv (cs++[Lx 0 0 []]).length cv).ownBlock=some af:=by rw [aY];rfl
    have G:af∈[bv,vb (.slice par cs.length car) bv]\/wJ.heap.size<=af:=(s af K).elim (λd=>.inl (by have d:(Value.slice par cs.length car).ownBlock=some af:=d;rw [FR d];simp)) (λd=>.inr (AW X.size d));have b4:af≠bv:=λe=>(s af K).elim (λd=>BO C i dD _ d e) (λd=>by have:=X.size;omega)
    have b6:af≠b5:=λe=>(s af K).elim (λd=>by have:=aj _ d;omega) (λd=>by have:=X.size;omega)
    have dd:=aR.up ad;have de:=bS.up ad;have df:=DA dc (by first | exact Hf ad oO | exact Fp ad G | exact Tf ad (by simp));have dY:=AW c8 ad.size;refine WL.e<|⟨⟨(de).trans (k5).symm,tT⟩,?_⟩;refine Bd kR<|C0 ?_;have a8:=MF hO a2 df dd c9 (λg d=>(s g d).imp id (AW X.size)) k4;exact ⟨(f,m,_,V1,args++[o]),⟨rfl,rfl,rfl,tT⟩,NH (f:=f) (m:=m) k2 k3 j4 a8 k6 j6 aC j7 k7 oO oO,by ((try simp only) <;> omega)⟩;refine Cu (L:=Nb) (ps:=_) ([Lx 0 0 []]) EY Il Jg rfl rfl rfl rfl rfl rD rfl rfl (λbT ca ao bU a9 dL=>?_);have aZ:=AW b8 a9.size;have cb:=GU bJ ao a9;have cc:=Bg ao aw.lt;have bd:=aw.un a9 cc;have cd:=Bg ao ax.lt;have be:=ax.un a9 cd;have bn:wJ.heap.size<=bT:=by rw [ao];exact aN.size
    have v:=DA aN (Hf a9 bn);have dm:bT<=ca.heap.size:=by omega
    refine WL.e<|?_;have bV:=Dm (be.trans k5.symm) BG;refine ⟨bV,?_⟩;refine An 3 rfl<|Ag (Ad (GN _) rfl bd rfl)<|WL.e<|⟨bV,?_⟩;refine Af 5 rfl (.lenS EY rfl) bV rfl ?_;refine An 7 rfl<|CW EY Pu rfl rfl rfl cb rfl (bU).rowp oE (aZ) rfl (λh=>CM h (Q6 _ _)) (λe9 ea a4 bW ay j=>?_);have bf:=bd.grown ay (λe=>BO C i dD _ e rfl);have aT:=be.grown ay (λe=>by have:=aj _ e;omega);have bg:=DA v (C1 ay (λg hg=>.inl (by have hg:(Value.slice par cs.length car).ownBlock=some g:=hg;rw [FR hg];simp)) v.size);have a':=AW aZ bW.size;obtain ⟨pv,cv,evv,-⟩:=(a4).row;subst evv;have bP:=(a4).rowp.isp (by rw [A5,CD];omega);have dG:(cs++[Lx 0 0 []]).length=cs.length+1:=A5;refine WL.e<|?_;have bh:=Dm (aT.trans k5.symm) BG;refine ⟨bh,?_⟩;refine Af 8 rfl (.ixm EY Il rfl rfl bP cs.length rfl oO) bh rfl ?_;refine Af 10 rfl (.nck rfl) bh rfl ?_;refine Af 11 rfl (.fa BL rfl EO dD rfl) bh rfl ?_;refine Ea 9 rfl 12 rfl ?_ ?_;refine RM (L:=Nb) (x) (cs.length) a4 oO B2 rfl rfl rfl (λeb a0 aE a5 b0=>?_);have dn:=(a4).lt a0 (by rw [aE];rfl);have K:(Value.slice pv (cs++[Lx 0 0 []]).length cv).ownBlock=some a0:=by rw [aE];rfl
    have G:a0∈[bv,vb (.slice par cs.length car) bv]\/wJ.heap.size<=a0:=(j a0 K).elim (λd=>.inl (by have d:(Value.slice par cs.length car).ownBlock=some a0:=d;rw [FR d];simp)) (λd=>.inr (AW v.size d));have b4:a0≠bv:=λe=>(j a0 K).elim (λd=>BO C i dD _ d e) (λd=>by have:=v.size;omega)
    have b6:a0≠b5:=λe=>(j a0 K).elim (λd=>by have:=aj _ d;omega) (λd=>by have:=v.size;omega)
    have cf:=bf.up a5;have bi:=aT.up a5;have cg:=DA bg (by first | exact Hf a5 oO | exact Fp a5 G | exact Tf a5 (by simp));have bX:=AW a' a5.size;refine WL.e<|⟨⟨(bi).trans (k5).symm,tT⟩,?_⟩;refine An 12 rfl<|C2 (o:=43) ((Fh ⟨⟨ctm,fi,sk,pe,clv,fn,sz⟩,fo,sa,pa,cl,it,lo,te,li,.slice pv (cs++[Lx 0 0 []]).length cv,itv⟩).toArray) EO rfl (rfl) rfl ((b0).one) cf bL (rfl) (λdg az D dM=>?_);have az:AF dg bv _ _:=az;have D:BF bv _ _:=D;have dN:=AW bX D.size;have ci:=Ia b0 D (λg hg e=>by subst e;first | exact BO C i dD _ hg rfl | (rcases j _ hg with d | d <;> first | exact BO C i dD _ d rfl | omega));have cj:=bi.up D;have ck:=DA cg (by first | exact Hf D oO | exact Fp D G | exact Tf D (by simp));refine WL.e<|⟨⟨(cj).trans (k5).symm,tT⟩,?_⟩;refine Bd kR<|C0 ?_;have a8:=MF hO a2 ck az ci (λg d=>(j g d).imp id (AW v.size)) k4;exact ⟨(f,m,_,V1,args++[o]),⟨rfl,rfl,rfl,tT⟩,NH (f:=f) (m:=m) k2 k3 j4 a8 k6 j6 aC j7 k7 oO oO,by ((try simp only) <;> omega)⟩;refine C2 (o:=43) ((Fh ⟨⟨ctm,fi,sk,pe,clv,fn,sz⟩,fo,sa,pa,cl,it,lo,te,li,.slice pv (cs++[Lx 0 0 []]).length cv,itv⟩).toArray) EO rfl (rfl) rfl ((a4).one) bf bL (rfl) (λdh aA E dO=>?_);have aA:AF dh bv _ _:=aA;have E:BF bv _ _:=E;have bY:=AW a' E.size;have bj:=Ia a4 E (λg hg e=>by subst e;first | exact BO C i dD _ hg rfl | (rcases j _ hg with d | d <;> first | exact BO C i dD _ d rfl | omega));have bk:=aT.up E;have cm:=DA bg (by first | exact Hf E oO | exact Fp E G | exact Tf E (by simp));refine WL.e<|⟨⟨(bk).trans (k5).symm,tT⟩,?_⟩;refine An 9 rfl<|RM (L:=Nb) (x) (cs.length) bj oO B2 rfl rfl rfl (λec a1 aF a6 bZ=>?_);have dp:=(bj).lt a1 (by rw [aF];rfl);have K:(Value.slice pv (cs++[Lx 0 0 []]).length cv).ownBlock=some a1:=by rw [aF];rfl
    have G:a1∈[bv,vb (.slice par cs.length car) bv]\/wJ.heap.size<=a1:=(j a1 K).elim (λd=>.inl (by have d:(Value.slice par cs.length car).ownBlock=some a1:=d;rw [FR d];simp)) (λd=>.inr (AW v.size d));have b4:a1≠bv:=λe=>(j a1 K).elim (λd=>BO C i dD _ d e) (λd=>by have:=v.size;omega)
    have b6:a1≠b5:=λe=>(j a1 K).elim (λd=>by have:=aj _ d;omega) (λd=>by have:=v.size;omega)
    have cn:=aA.up a6;have co:=bk.up a6;have cq:=DA cm (by first | exact Hf a6 oO | exact Fp a6 G | exact Tf a6 (by simp));have dP:=AW bY a6.size;refine WL.e<|⟨⟨(co).trans (k5).symm,tT⟩,?_⟩;refine Bd kR<|C0 ?_;have a8:=MF hO a2 cq cn bZ (λg d=>(j g d).imp id (AW v.size)) k4;exact ⟨(f,m,_,V1,args++[o]),⟨rfl,rfl,rfl,tT⟩,NH (f:=f) (m:=m) k2 k3 j4 a8 k6 j6 aC j7 k7 oO oO,by ((try simp only) <;> omega)⟩
  have cV:=dF bD;rw [A1 (show ¬ wd=[] by assumption)] at j8;refine W.k<|D4 (α:=(Nat->Prop) × Vw) (λt=>[(0,.pointer (some ⟨bv,0,none⟩)),(1,.slice p l.length c),(4,.int .i64 (m:Int))]) (λt w'=>FO B fs w' bv t.1 t.2 args/\Df F t.1 w w'/\Av w' p l/\(0<l.length->¬ t.1 (pA p).block)/\JI (λf b=>FS f 0 b) fs.fs l f (m:Int) t.2 []=R/\Ez t.2) ?_ (λt w1 hR=>?_);refine Ak<|A2 rfl<|A2 rfl<|WL.cx AN rfl rfl ((UE wd (au).get j5 (λx hx=>(j6 x hx).1) (λx hx=>(j6 x hx).2) j7 hfc)) (λdi dj ai aU=>?_) (λed ee dj ai aU=>?_);exact Aw (Dq di (j8.symm.trans (Ax ai)) (EZ (ap a7) aU));obtain ⟨rfl,F2,b',bm⟩:=aU;have dZ:=Hy.of b';have dk:=A4e hff (λx hx=>(j6 x hx).1) j7 ai;rw [AG ai] at j8;have dQ:=Df.nf bm c3 b7.lt;have c0:=λh0=>Df.nf bm (j4 h0) (aI.lt h0)
  have cr:=Av.chg aI bm j4;have ct:=PU a7 bm;refine WL.e<|?_;exact ⟨(F2,_),⟨rfl,rfl,rfl,tT⟩,b',ct,cr,c0,j8,dk⟩;obtain ⟨⟨F2,V2⟩,bo⟩:∃ u,u=t:=⟨t,rfl⟩;subst bo;obtain ⟨k1,k2,k3,k4,k5,k6⟩:=hR;simp only at k1 k2 k4 k5 k6;obtain ⟨wJ,bH⟩:∃ u,u=w1:=⟨_,rfl⟩;subst bH;obtain ⟨H,vp,its,hs,cs,aq,hO,a2⟩:=k1.mem;have i:=hO.blk;obtain ⟨⟨ctm,fi,sk,pe,clv,fn,sz⟩,fo,sa,pa,cl,it,lo,te,li,ar,itv⟩:=H;subst aq;have d1:=i.lt;have bI:=AB.refl wJ.heap.size [bv] wJ;refine Ak<|A2 rfl<|A0 (.nck rfl)<|A0 (.fa BL rfl EO dD rfl)<|C2 (o:=43) ((Fh ⟨⟨ctm,fi,sk,pe,clv,fn,sz⟩,fo,sa,pa,cl,it,lo,te,li,.slice none 0 0,itv⟩).toArray) EO rfl (rfl) rfl (rfl) i bL (rfl) (λdl aB aa dR=>?_);have aB:AF dl bv _ _:=aB;have aa:BF bv _ _:=aa;have cu:=DA bI (by first | exact Hf aa oO | exact Fp aa G | exact Tf aa (by simp));refine WL.e<|?_;have a8:=Y4 hO a2 cu aB;exact ⟨(f,m,_,V2,[]),⟨rfl,rfl,rfl,tT⟩,⟨a8.1,PU k2 a8.2,k3.chg a8.2 k4,λh0=>a8.2.nf (k4 h0) (k3.lt h0),Gg _,λy hy=>(by cases hy),k6,k5,by ((try simp only) <;> omega),by ((try simp only) <;> omega)⟩,by ((try simp only) <;> omega)⟩
end
end
section
theorem VJ (b4 b5:Nat) (w:World) :
  CallsD Tryz.prog 16 #[.pointer (some ⟨b4,0,none⟩),.pointer (some ⟨b5,0,none⟩)] .returning w λe u' w'=>u'=.returning/\(∃ v,e=.returned v)/\w'=w:=by
 refine Iw func16 rfl ntmps16 bL rfl<|WL.e<|W.b<|A4<|A0 (.eqNil0 kR rfl)<|WL.e<|DR rfl rfl<|Ak<|A9 rfl<|BJ (Bt rfl ?_)
 exact ⟨⟨_,rfl⟩,rfl⟩
theorem Ud (b4 b5 B:Nat) (v:Value) (j k:Int) (w:World) (h4:AF w b4 #[v] 29) (h5:AF w b5 #[.int .i64 j] 30) (hB1:B<=b4) (h45:b4<b5) :
  CallsD Tryz.prog 16 #[.pointer (some ⟨b4,0,none⟩),.pointer (some ⟨b5,0,none⟩)] (.panicking [{ v:=.iface 30 (.int .i64 k),recovered:=false }]) w
   λe u' w'=>u'=.panicking [{ v:=.iface 30 (.int .i64 k),recovered:=true }]/\(∃ v,e=.returned v) /\
    AF w' b4 #[.slice none 0 0] 29/\AF w' b5 #[.int .i64 k] 30/\Below B w w':=by
 refine Iw func16 rfl ntmps16 bL rfl ?_
 have g:=EM (B) w
 refine WL.e<|W.b<|A4<|A0 (.eqNil kR rfl)<|WL.e<|DS rfl rfl<|A4<|A0 (.tas LJ rfl)<|A0 (.ext rfl rfl)<|A0 (.ext rfl rfl)<|WL.e<|DR rfl rfl<|A4<|A9 rfl<|Ak<|A2 rfl<|WL.st MK rfl rfl rfl h4 oQ (λq d a s=>?_)
 have d:AF q b4 _ _:=d
 have a:BF b4 _ _:=a
 have i:=h5.upd a oM
 have l:=CN g oO a
 refine WL.st Gq rfl rfl rfl i oQ (λt f c u=>?_)
 have f:AF t b5 _ _:=f
 have c:BF b5 _ _:=c
 have m:=d.up c
 have o:=CN l oO c
 refine WL.e<|BJ (Bt rfl ?_)
 exact ⟨⟨_,rfl⟩,m,f,o⟩
theorem TD {P:Program} {fn:Func} {f:Fr} {w:World} {a b:Tmp} {ta tb:TypeId} {pa pb:Addr} {x y:Value} (hr:fn.results=#[.cell a ta,.cell b tb]) (ha:look f a=some (.pointer (some pa))) (hb:look f b=some (.pointer (some pb)))
  (hx:(loadVar ta pa).run P w=.ok x w) (hy:(loadVar tb pb).run P w=.ok y w):Eb P fn f w (.tuple #[x,y]):=λtmps hh=>by
 have e1:=hh _ _ ha;have e2:=hh _ _ hb
 simp only [B0] at e1 e2
 simp [results,hr,e1,e2,asAddr,hx,hy]
def A3v (R:Except Int Vw) (e:Ending) (w':World):Prop:=match R with
 | .ok V=>∃ p c its,e=.returned (.tuple #[.slice p its.length c,.int .i64 0])/\CC Ls (λg=>g<w'.heap.size) w' p its c/\(∀ x∈its,MZ (λg=>g<w'.heap.size) w' x)/\its.map Jd=V.items
 | .error k=>e=.returned (.tuple #[.slice none 0 0,.int .i64 k])
def A69:Dz:=⟨65536,0,0,655360,none,[],0,0⟩
def st1:Zc:=⟨Nw,M8 1,M8 1,A69,.slice none 0 0,-1,0⟩
def A3I (fo:Value) (bp:Nat):PW:=⟨st1,fo,.slice none 0 0,bp,0,false,false,Wx,Wx,.slice none 0 0,.slice none 0 0⟩
theorem A81:Tryz.prog.built 37 [(0,.int .i64 1)]=some (DI (M8 1)).toArray:=by kernel_rfl
theorem A80:Tryz.prog.built 41 [(0,.int .i64 65536),(3,.int .i64 655360)]=some (El A69).toArray:=by kernel_rfl
theorem A7Z:Tryz.prog.built 68 [(0,.agg (LF Nw).toArray),(1,.agg (DI (M8 1)).toArray),(2,.agg (DI (M8 1)).toArray),(3,.agg (El A69).toArray),(4,.slice none 0 0),(5,.int .i64 (-1)),(6,.int .i64 0)]=some (stV st1).toArray:=by kernel_rfl
theorem A7Y (p:Option Addr) (n c bp:Nat):Tryz.prog.built 74 [(0,.agg (stV st1).toArray),(1,.slice p n c),(3,.pointer (some ⟨bp,0,none⟩))]=some (Fh (A3I (.slice p n c) bp)).toArray:=by kernel_rfl
theorem A8g  {pf:Option Addr} {fl:List LE} {cf:Nat} (hk:AF w bv (Fh (A3I (.slice pf fl.length cf) bp)).toArray 74) (hp:CG B w bp 4096 I9 (.slice none 0 0)) (hbv:B<=bv) (hbp:B<=bp) (hf:CC ftL (λk=>k<B) w pf fl cf) :
  FO B ⟨fl,bv⟩ w bv (Gm bv (A3I (.slice pf fl.length cf) bp) (.slice none 0 0)) Zj []:=by
 have a:=hp.base
 refine ⟨⟨_,.slice none 0 0,[],[],[],rfl,⟨hk,hp,AD.nil _ _ _ _,AD.nil _ _ _ _,AD.nil _ _ _ _,hbv,hbp⟩,?_⟩⟩
 refine ⟨⟨rfl,rfl,rfl,rfl,CC.nil _ _ _,⟨none,0,[],rfl,CC.nil _ _ _,λy hy=>(by cases hy),rfl⟩,rfl,rfl⟩,⟨rfl,λi h=>CM h (by simp)⟩,rfl,λx hx=>(by cases hx),Y9.nil _ _,rfl,rfl,rfl,rfl,rfl,⟨pf,cf,rfl,hf.mono λg hg=>⟨by omega,λh=>?_,by show g≠bv;omega⟩⟩,hk.lt⟩
 rcases h with h | h | h | h | h | h
 · omega
 ·
  have h:g=bp:=h
  omega
 all_goals cases h
theorem RI  {b:Nat} {y:Value} {t:TypeId} {a:Addr} (hb:AF w b #[v] t) (ha:a.block=b) (hc:w.cell? a=some y):a=⟨b,0,none⟩/\y=v:=by
 obtain ⟨b',o,sp⟩:=a
 obtain rfl:b'=b:=ha
 unfold World.cell? at hc
 unfold AF at hb
 simp only [hb] at hc
 cases sp with
 | some s=>simp at hc
 | none =>
  cases o with
  | zero=>simp at hc;exact ⟨rfl,hc.symm⟩
  | succ n=>simp at hc
theorem A61  {L:Fe α} {l:List α} {b:Nat} {t:TypeId} (h:Be L w p l) (h0:0<l.length) (hb:AF w b #[v] t) (hv:(∀ x,(L.V x)[0]?≠some v)\/1<L.m):(pA p).block≠b:=λe=>by
 have h1:=h.cells 0 h0 0 L.pos
 rw [Nat.zero_mul,EF,EU,A7 (by rw [L.len];exact L.pos)] at h1
 obtain ⟨ha,hy⟩:=RI hb e h1
 rcases hv with hv | hv
 · exact hv l[0] (by rw [A7 (by rw [L.len];exact L.pos),hy])
 ·
  have h2:=h.cells 0 h0 1 hv
  rw [Nat.zero_mul,EF,ha,EC,A7 (by rw [L.len];exact hv)] at h2
  have h3:=(RI hb rfl h2).1
  simp at h3
theorem CC.excl  {L:Fe α} {l:List α} {b:Nat} {t:TypeId} (h:CC L Z w p l c) (hb:AF w b #[v] t) (hv:(∀ x,(L.V x)[0]?≠some v)\/1<L.m):CC L (λg=>Z g/\g≠b) w p l c :=
 ⟨h.row,h.sl,λh0=>⟨h.inn h0,A61 h.row h0 hb hv⟩⟩
theorem MZ.excl  {x:AQ} {b:Nat} {t:TypeId} (h:MZ Z w x) (hb:AF w b #[.slice none 0 0] t):MZ (λg=>Z g/\g≠b) w x :=
 ⟨h.path.excl hb (.inr dD),h.clips.excl hb (.inr dD),λy hy=>(h.all y hy).excl hb (.inr dD),h.pen.excl hb (.inl λx=>by simp [RV]),⟨h.bytes.row,h.bytes.sl,λh0=>⟨h.bytes.inn h0,λe=>by
  have h1:=h.bytes.row.cells 0 h0
  rw [EU] at h1
  exact CM (RI hb e h1).2 (by simp)⟩⟩⟩
theorem A3q  {L:Fe α} {l:List α} (h:K5 N (λw1=>CC L (λk=>k<N) w1 p l c) w):CC L (λk=>k<N) w p l c:=by
 have hs:=h.size
 obtain ⟨d,e,a,b⟩:=h
 exact a.mv ⟨by omega,λg hg=>⟨b g hg,hg⟩⟩
theorem UF  {fo:Value} (hbv:B<=bv) (hbp:B<=bp) (hg:g<B):¬ Gm bv (A3I fo bp) (.slice none 0 0) g:=λh=>by
 rcases h with h | h | h | h | h | h
 · omega
 ·
  have h:g=bp:=h
  omega
 all_goals cases h
theorem Qh (p:Option Addr) (l:l8_) (c:Nat) (pf:Option Addr) (fl:List LE) (cf:Nat) (w:World) (hb:Av w p l) (hc:l.length<=c) (hl:l.length<=100000000) (hf:CC ftL (λk=>k<w.heap.size) w pf fl cf) (hff:∀ f∈fl,0<=f.font/\f.font<=13) :
    Calls Tryz.prog 8 #[.slice p l.length c,.slice pf fl.length cf] w λe w'=>A3v (JI (λf b=>FS f 0 b) fl l (l.length+1) 0 Zj []) e w'/\Below w.heap.size w w':=by
  obtain ⟨R,hR⟩:∃ R,JI (λf b=>FS f 0 b) fl l (l.length+1) 0 Zj []=R:=⟨_,rfl⟩;rw [hR];have aZ:=K5.of (Q:=λw1=>CC ftL (λk=>k<w.heap.size) w1 pf fl cf) hf;refine RO func8 rfl ntmps8 bL ?_;have aE:=EM (w.heap.size) w;refine WD.seq<|Ak<|BV zeroValue29 rfl (λU a' a7 a8 X bm=>?_);have aQ:=λq=>a7▸hb.lt q
  have aF:=DB hb X aQ;have aG:=uB aE a7 X;have be:=Cq a7 aE.size;refine BV zeroValue30 rfl (λG b0 a2 a9 J bn=>?_);have b2:=Bg a2 a8.lt;have aH:=a8.un J b2;have aA:=λq=>a2▸aF.lt q
  have aa:=DB aF J aA;have ab:=uB aG a2 J;have bf:=Cq a2 aG.size;refine WL.e<|WD.defer rfl rfl<|WD.of ?_;refine A4<|A0 (.build rfl A81) ?_;refine BV zeroValue37 rfl (λaI aR D aB j bg=>?_);have aS:=Bg D aH.lt;have aT:=Bg D a9.lt;have a3:=λq=>D▸aa.lt q
  have b3:=Cq D ab.size;refine Az rfl rfl aB EJ rfl rfl (λaJ a o bh=>?_);refine WL.e<|Ah<|Uu<|Dr 10 rfl C7 (λw'=>w'.heap[aI]?=aJ.heap[aI]?/\True) (λb4 s=>?_);have ac:=a.drew s;have ad:=(DB (DB aa j a3) o a3).drew s;have a4:=Dm (ac.trans a.symm) BG;refine BY 1 rfl (λw' hw'=>Ck (L:=FX) GH rfl EJ ((hw'.1).trans a) (M8 1) (rfl) rfl) a4 rfl ?_;refine BY 2 rfl (λw' hw'=>Ck (L:=FX) GH rfl EJ ((hw'.1).trans a) (M8 1) (rfl) rfl) a4 rfl ?_;refine Af 3 rfl (.build rfl A80) a4 rfl ?_;refine Af 5 rfl (.mv rfl) a4 rfl ?_;refine An 0 rfl<|WL.c1 AN rfl rfl ((L4 _)) (λaK t=>?_);have ae:=(((aH.un j aS).up o).drew s).bl t;have af:=(((a9.un j aT).up o).drew s).bl t;have Y:=ac.bl t;have ag:=GY ad t (λq=>ad.lt q);have ah:=DJ (CZ.below (CN (uB ab D j) oO o) s) t;refine WL.e<|⟨⟨(Y).trans (a).symm,tT⟩,?_⟩;refine Af 4 rfl (.build rfl A7Z) ⟨(Y).trans (a).symm,tT⟩ rfl ?_;refine An 6 rfl<|DQ AN rfl rfl ((A45 4096 _ dD)) (λbp b5 i=>?_);have ai:=ae.bl i.1;have aj:=af.bl i.1;have K:=Y.bl i.1;have ak:=GY ag i.1 (λq=>ag.lt q);have am:=DJ ah i.1;obtain ⟨N,an⟩:=i.2;obtain ⟨Bz,a5⟩:∃ B,B=aK.heap.size:=⟨_,rfl⟩;rw [<- a5] at N an;have aU:=K5.of (Q:=λw1=>CG Bz w1 bp 4096 I9 (.slice none 0 0)) an;have aL:U<Bz:=by rw [a5];exact (ae).lt
  have aM:G<Bz:=by rw [a5];exact (af).lt
  have a6:w.heap.size<=Bz:=by rw [a5];exact ah.size
  have bo:=an.base;refine WL.e<|⟨⟨(K).trans (a).symm,tT⟩,?_⟩;refine Af 7 rfl (.build rfl (A7Y pf fl.length cf bp)) ⟨(K).trans (a).symm,tT⟩ rfl ?_;refine An 8 rfl<|CU rfl rfl (λbq a0 v aC d bi=>?_);have aV:=Bg v ai.lt;have ao:=ai.un d aV;have aW:=Bg v aj.lt;have ap:=aj.un d aW;have aX:=Bg v K.lt;have aq:=K.un d aX;have aD:=λq=>v▸ak.lt q
  have au:=uB am v d;have b7:=Cq v am.size;refine WL.e<|⟨⟨(aq).trans (a).symm,tT⟩,?_⟩;refine Af 9 rfl (.as rfl) ⟨(aq).trans (a).symm,tT⟩ rfl ?_;refine Bd kR<|A4<|A2 rfl<|A2 rfl<|WL.cx AN rfl rfl ((A5P p l c (A8g (B:=Bz) aC (Du (Hn (w1:=a0) aU (λk hk hl=>d.other k oO))) oO N ((A3q (Hn (w1:=a0) (Hn (w1:=b5) (Hn (w1:=aK) (Hn (w1:=b4) (Hn (w1:=aJ) (Hn (w1:=aR) (Hn (w1:=b0) (Hn (w1:=a') aZ (λk hk hl=>X.other k oO)) (λk hk hl=>J.other k oO)) (λk hk hl=>j.other k oO)) (λk hk hl=>o.other k (by first | ((try simp only) <;> omega) | (have:=hk.1;((try simp only) <;> omega))))) (λk hk hl=>(by obtain ⟨m,rfl⟩:=s;rfl))) (λk hk hl=>t.block k hl)) (λk hk hl=>i.1.block k hl)) (λk hk hl=>d.other k oO))).mono λg hg=>CE hg a6)) (DB ak d aD) hc hl (λq=>UF oO N (CE (hb.lt q) a6)) A3J hff rfl)) (λb8 av P E=>?_) (λbt bu av P E=>?_);exact Li A7H (λw'=>_) (Ud U G w.heap.size _ _ b8 _ ((ao).below E aL) ((ap).below E aM) oO oO)
    (λw' hS=>⟨_,TD rfl rfl rfl (Bi hS.1 (P3 _) rfl) (Bi hS.2.1 (Gs _) rfl),by rw [<- hR,P];exact ⟨rfl,EZ au (EZ (Below.mono E a6) hS.2.2)⟩⟩)
  obtain ⟨rfl,F1,aY,b9⟩:=E;have a1:Below Bz a0 av:=b9.below oO (λg hg=>Nat.le_of_not_lt λh=>UF oO N h hg);have aN:=(ao).below a1 aL;have aO:=(ap).below a1 aM;obtain ⟨wR,V⟩:∃ u,u=av:=⟨_,rfl⟩;obtain ⟨H,vp,its,hs,cs,bv,hO,aw⟩:=aY.mem;have ba:=hO.blk;obtain ⟨⟨ctm,fi,sk,pe,clv,fn,sz⟩,fo,sa,pa,cl,it,lo,te,li,ar,itv⟩:=H;obtain ⟨pit,cit,eit,aP⟩:=CC.own (Z:=λg=>g<wR.heap.size) hO.oi (λg hg=>V▸(hO.oi.lt g hg).2);simp only at eit;subst eit;have bb:=P;refine WL.e<|A4<|A2 rfl<|A0 (.nck rfl)<|A0 (.fa BL rfl MK dD rfl)<|Ag (Ad (P3 _) rfl ba rfl)<|WL.st MK rfl rfl rfl aN oQ (λbc T y bj=>?_);have T:AF bc U _ _:=T;have y:BF U _ _:=y;refine WL.st Gq rfl rfl rfl (aO.up y) oQ (λF A C bk=>?_);have A:AF F G _ _:=A;have C:BF G _ _:=C;refine WL.e<|Ai ?_;obtain ⟨wm,ax,ay⟩:∃ wm,BF U wR wm/\BF G wm F:=by rw [V];exact ⟨_,by assumption,by assumption⟩
  have bd:wR.heap[G]?=F.heap[G]?:=by rw [V];exact aO.trans (A).symm
  have m:Mv (λg=>g<wR.heap.size/\g≠U) (λg=>g<F.heap.size) wR F:=⟨AW ax.size ay.size,λg hg=>⟨by
    rcases Nat.decEq g G with h1 | h1
    · exact (ay.other g h1).trans (ax.other g hg.2)
    · rw [h1];exact bd.symm,CE hg.1 (AW ax.size ay.size)⟩⟩
  have az:AF wR U #[.slice none 0 0] 29:=V▸aN;have hA:A3v R (.returned (.tuple #[.slice pit its.length cit,.int .i64 0])) F:=by
    rw [<- hR,bb];rw [<- V] at aP aw;exact ⟨pit,cit,its,rfl,(aP.excl az (.inr dD)).mv m,λx hx=>(((aw.itr x hx).mv (Z1:=λg=>g<wR.heap.size) ⟨FL _,λg hg=>⟨rfl,hg.1⟩⟩).excl az).mv m,aw.it⟩
  exact Ek.ret A7H (λw'=>_) (VJ U G _) (λw' hS=>by
    subst hS;exact ⟨_,TD rfl rfl rfl (Bi (T.up C) (P3 _) rfl) (Bi A (Gs _) rfl),hA,(CN (CN (EZ au (Below.mono a1 a6)) oO y) oO C)⟩)
end
section
theorem A7E:(Tryz.prog.info? 53).map (λi=>(i.zero,i.size,i.bytes))=some (some (.agg #[.string ⟨#[]⟩,.int .i64 0]),2,24):=by kernel_rfl
theorem A83 (s:l8_) (n:Int):Tryz.prog.built 53 [(0,.string (bs s)),(1,.int .i64 n)]=some (ftV ⟨s,n⟩).toArray:=by kernel_rfl
end
section
theorem EN {n:Int} (h1:-9223372036854775808<=n) (h2:n<=9223372036854775807):(Lit.int .i64 n).wf=true:=by
 simp only [Lit.wf,A3,Ab]
 exact ⟨h1,h2⟩
theorem Hl {n:Int} (h:Ao n=true):(Lit.int .i64 n).wf=true:=by
 unfold Ao at h
 simp only [A3,Ab] at h
 exact EN oO oO
theorem A67  {x:BQ} (h:C5 x=true):K6 w x:=by
 unfold C5 at h
 simp only [A3] at h
 exact ⟨Hl h.1,Hl h.2⟩
theorem A8k  {s:CK} {k:Int} (h:Ij s k=true):Mb w s:=by
 unfold Ij at h
 simp only [A3,Ab,Cw,List.all_nil] at h
 obtain ⟨⟨⟨a,-⟩,b,c,d,-⟩,-⟩:=h
 have hk:1<=s.fKind/\s.fKind<=4:=by
  unfold HL at a
  split at a
  · omega
  ·
   split at a
   · omega
   ·
    split at a
    · omega
    · omega
 exact ⟨EN oO oO,A67 b,A67 c,A67 d⟩
theorem A5j {w:World}:∀ (l:List CK) (k:Int),E4 k l=true->∀ y∈l,Mb w y
 | [],_,_,y,hy=>by cases hy
 | s::r,k,h,y,hy=>by
  unfold E4 at h
  simp only [A3] at h
  rcases Ar.1 hy with rfl | hy
  · exact A8k h.1
  · exact A5j r _ h.2 y hy
theorem A1M  {l:List CK} (h:Fk l=true):∀ y∈l,Mb w y:=by
 unfold Fk at h
 simp only [A3] at h
 exact A5j l 0 h.2
theorem A8L  {x:Bv} (hr:Me Z w x) (h:G5 x=true):GX w x:=by
 unfold G5 at h
 simp only [A3] at h
 exact ⟨hr.row,hr.sl,A1M h.2⟩
theorem A7S  {x:C6} (h:Fc x=true):MG w x:=by
 unfold Fc J1 J9 Cl at h
 simp only [A3,Bo,Ab,AX,Hq,AH,A8T,Aq,BI] at h
 obtain ⟨hs,⟨⟨⟨a,-⟩,b,-⟩,c,-⟩,d,-⟩:=h
 have a:0<=x.fPart_0/\x.fPart_0<=65536:=a
 have b:0<=x.fPart_1/\x.fPart_1<=65536:=b
 have c:0<=x.fPart_2/\x.fPart_2<=65536:=c
 have d:0<=x.fPart_3/\x.fPart_3<=65536:=d
 refine ⟨EN ?_ ?_,EN oO oO,EN oO oO,EN oO oO,EN oO oO⟩
 · omega
 · omega
theorem A25  {x:Dz} (hr:Y7 Z w x) (h:JX x=true):PB w x:=by
 unfold JX at h
 simp only [A3,Ab] at h
 obtain ⟨⟨⟨⟨⟨a,b⟩,c⟩,d⟩,e⟩,f⟩:=h
 exact ⟨EN oO oO,EN oO oO,EN oO oO,EN oO oO,hr.row.ofI,hr.sl,λy hy=>(by have:=List.length_pos_of_mem hy;omega),EN oO oO⟩
theorem A7j  {x:Dz} (hr:Y7 Z w x) (h:Kw x=true):PB w x:=by
 unfold Kw Kv at h
 simp only [A3,AH,E1,Aq,BI] at h
 obtain ⟨⟨⟨⟨⟨⟨⟨⟨⟨⟨⟨⟨f,d⟩,g⟩,i⟩,j⟩,k⟩,l⟩,e⟩,m⟩,b⟩,-⟩,c⟩,-⟩:=h
 refine ⟨Hl d,EN oO oO,EN oO oO,Hl e,hr.row.ofI,hr.sl,λy hy=>?_,Hl b⟩
 have a:=Au.1 c y hy
 unfold Id at a
 simp only [A3] at a
 exact Hl a.2
theorem A32 (l:List Bv):EQ (l.map Fn)=EQ l:=by
 unfold EQ
 rw [BD,List.all_map]
 rfl
theorem YG (x:AQ):Et (Jd x)=Et x:=by
 show (Fc x.fColor && EQ (x.fClips.map Fn) && _)=_
 rw [A32]
 rfl
theorem A6r  {x:AQ} (hr:MZ Z w x) (h:Et x=true):I3 w x:=by
 unfold Et at h
 simp only [A3] at h
 obtain ⟨⟨hc,c⟩,h⟩:=h
 unfold EQ at c
 simp only [A3] at c
 have d:∀ y∈x.fClips,GX w y:=λy hy=>A8L (hr.all y hy) (Au.1 c.2 y hy)
 split at h
 ·
  next h4 =>
  simp only [A3,Ab] at h
  obtain ⟨⟨hl,hp⟩,hn⟩:=h
  unfold He E8 at hl
  simp only [A3,Ab,Cw,List.all_nil] at hl
  obtain ⟨⟨⟨⟨f1,f2⟩,-⟩,-⟩,e,f,g,i,j,k,-⟩:=hl
  exact ⟨EN oO oO,hr.path.row,hr.path.sl,λy hy=>(by have:=List.length_pos_of_mem hy;omega),A7S hc,hr.clips.row,hr.clips.sl,d,A25 hr.pen hn,EN oO oO,Hl e,Hl f,Hl g,Hl i,Hl j,Hl k,hr.bytes.row,hr.bytes.sl⟩
 ·
  simp only [A3] at h
  obtain ⟨b,a⟩:=h
  unfold LP OW at b
  simp only [A3,Ab] at b
  obtain ⟨⟨⟨⟨f1,e,f,g,i,j,k⟩,-⟩,-⟩,l⟩:=b
  have hk:1<=x.fKind/\x.fKind<=3/\PB w x.fPen:=by
   split at a
   · exact ⟨by omega,by omega,A25 hr.pen a⟩
   ·
    split at a
    · exact ⟨by omega,by omega,A7j hr.pen a⟩
    · cases a
  exact ⟨EN oO oO,hr.path.row,hr.path.sl,A1M l,A7S hc,hr.clips.row,hr.clips.sl,d,hk.2.2,EN oO oO,EN oO oO,EN oO oO,EN oO oO,EN oO oO,EN oO oO,EN oO oO,hr.bytes.row,hr.bytes.sl⟩
end
section
def s21:l8_:=[48,32,48,32,49,48,32,49,48,32,114,101,32,102]
def A7K:Except Int Vw->Bool
 | .ok V=>decide (V.items.map (λx=>x.fPath.length)=[5])
 | .error _=>false
theorem A6w:A7K (JI (λf b=>FS f 0 b) [] s21 (s21.length+1) 0 Zj [])=true:=by decide +kernel
theorem A86:∃ V,JI (λf b=>FS f 0 b) [] s21 (s21.length+1) 0 Zj []=.ok V/\V.items.map (λx=>x.fPath.length)=[5]:=by
 have h:=A6w
 cases hr:JI (λf b=>FS f 0 b) [] s21 (s21.length+1) 0 Zj [] with
 | error k=>rw [hr] at h;cases h
 | ok V=>rw [hr] at h;exact ⟨V,rfl,dT h⟩
theorem TI (p:Option Addr) (c:Nat) (w:World) (hb:Av w p s21) (hc:s21.length<=c) :
  Calls Tryz.prog 8 #[.slice p s21.length c,.slice none 0 0] w λe w'=>∃ x:Option Addr × Nat × AQ,e=.returned (.tuple #[.slice x.1 1 x.2.1,.int .i64 0])/\Below w.heap.size w w'/\Be Ls w' x.1 [x.2.2]/\x.2.2.fPath.length=5 :=
 Calls.mono (Qh p s21 c none [] 0 w hb hc dD (CC.nil _ _ _) (λf hf=>by cases hf)) λe w' q=>by
  obtain ⟨V,hV,h5⟩:=A86
  obtain ⟨q1,q2⟩:=q
  rw [hV] at q1
  obtain ⟨pi,ci,its,e1,e2,-,e4⟩:=q1
  rw [<- e4,List.map_map] at h5
  have hl:its.length=1:=by have:=Bc List.length h5;rw [BD] at this;exact this
  obtain ⟨x,rfl⟩:=List.length_eq_one_iff.1 hl
  exact ⟨(pi,ci,x),e1,q2,e2.row,(List.cons.inj h5).1⟩
theorem Ki (w:World):Calls Tryz.prog 6 #[] w λe w'=>e=.returned (.bool true)/\Below w.heap.size w w':=by
 refine W.e func6 rfl ntmps6 bL ?_
 have d:=EM (w.heap.size) w
 refine A4<|A9 rfl<|A4<|Ct (ps:=_) Bu I7 PE rfl rfl rfl rfl rfl pR rfl (λD C f i j v=>?_)
 have l:=uB d f j
 have u:=Cq f d.size
 refine A6Z ([48,32,48,32,49,48,32,49,48,32,114,101,32,102]) Bu Lk rfl i rfl rfl (λE hs k y=>?_)
 have m:=CN l oO k
 refine DQ AN rfl rfl ((TI _ _ _ hs dD)) (λx F g=>?_)
 have o:=DJ m g.1
 obtain ⟨xp,xc,B⟩:=x
 obtain ⟨c,q⟩:=g.2
 simp only at c q
 refine A2 rfl<|A0 (.ext rfl rfl)<|A0 (.ext rfl rfl)<|Dp rfl<|A9 rfl<|A4<|A2 rfl<|A0 (.eql rfl rfl)<|A2 rfl<|B1 rfl rfl rfl (λb=>?_) (λb=>?_)
 have s:=dT b
 refine A2 rfl<|As b<|A0 (.lenS KU rfl)<|As b<|A0 (.eql rfl rfl)<|A0 (.pkT rfl b rfl)<|A2 rfl<|B1 rfl rfl rfl (λa=>?_) (λa=>?_)
 have t:=dT a
 refine A2 rfl<|As a<|A0 (.ixm KU X8 rfl rfl (c.isp oC) (0) (rfl) dD)<|As a<|A0 (.fa Dx rfl IL dD rfl)<|As a<|Ag (AO (JL _) rfl ((c.field (0) oC 1 dD).trans rfl))<|As a<|A0 (.lenS Fj rfl)<|As a<|A0 (.eql rfl rfl)<|A0 (.pkT rfl a rfl)<|A9 rfl<|Ai (AZ rfl rfl ?_)
 exact ⟨Bl (Bc Value.bool (Aj (show (B.fPath.length:Int)=5 by omega))),o⟩
 have t:=dF a
 refine Aa a<|Aa a<|Aa a<|Aa a<|Aa a<|A0 (.pkF rfl a rfl)<|A9 rfl<|Ai (AZ rfl rfl ?_)
 first
 | exact CM aS dD
 | (exfalso;simp_all;done)
 | (exfalso;omega)
 have s:=dF b
 refine Aa b<|Aa b<|A0 (.pkF rfl b rfl)<|A2 rfl<|Aa rfl<|Aa rfl<|Aa rfl<|Aa rfl<|Aa rfl<|Aa rfl<|A0 (.pkF rfl rfl rfl)<|A9 rfl<|Ai (AZ rfl rfl ?_)
 first
 | exact CM aS dD
 | (exfalso;simp_all;done)
 | (exfalso;omega)
end
section
theorem ZJ (d:Nat) (o r:l8_):Dd d o (41::r)=if d=1 then some (o,r) else Dd (d-1) (o++[41]) r:=by rw [Dd.eq_def];rfl
theorem SO (d:Nat) (o r:l8_) (e:UInt8):Dd d o (92::e::r)=Dd d (o++(IW e r).1) (IW e r).2:=by rw [Dd.eq_def];rfl
theorem TV (d:Nat) (o r:l8_) (c:UInt8) (h1:c≠40) (h2:c≠41) (h3:c≠92) (h4:c≠13):Dd d o (c::r)=Dd d (o++[c]) r:=by
 rw [Dd.eq_def];simp only;rw [A1 h1,A1 h2,A1 h3,A1 h4]
theorem A3P (r:l8_):Lu (40::r)=Hz (Dd 1 [] r):=rfl
def OR (c:UInt8):l8_:=[92,ch (48+(c.toNat:Int) / 64),ch (48+(c.toNat:Int) / 8 % 8),ch (48+(c.toNat:Int) % 8)]
theorem A2J:∀ (c:UInt8) (r:l8_),IW (ch (48+(c.toNat:Int) / 64)) (ch (48+(c.toNat:Int) / 8 % 8)::ch (48+(c.toNat:Int) % 8)::r)=([c],r):=by
 intro c r
 have hc:c.toNat<256:=Ce c
 have d:((ch (48+(c.toNat:Int) / 64)).toNat:Int)=48+(c.toNat:Int) / 64:=JD _ oO oO
 have f:((ch (48+(c.toNat:Int) / 8 % 8)).toNat:Int)=48+(c.toNat:Int) / 8 % 8:=JD _ oO oO
 have g:((ch (48+(c.toNat:Int) % 8)).toNat:Int)=48+(c.toNat:Int) % 8:=JD _ oO oO
 rw [Um _ oO oO]
 have a:PL (ch (48+(c.toNat:Int) / 8 % 8))=true:=by simp only [PL,A3,Ab];omega
 have b:PL (ch (48+(c.toNat:Int) % 8))=true:=by simp only [PL,A3,Ab];omega
 simp only [Ng,a,b,if_true]
 have e:((8 * (8 * ((ch (48+(c.toNat:Int) / 64)).toNat-48)+((ch (48+(c.toNat:Int) / 8 % 8)).toNat-48))+((ch (48+(c.toNat:Int) % 8)).toNat-48)) % 256:Nat)=c.toNat:=by omega
 rw [e]
 simp only [CQ,and_true,DE]
 exact UInt8.toNat_inj.1 (by have:=JD (c.toNat:Int) oO oO;omega)
def Ej:l8_:=[48,49,50,51,52,53,54,55,56,57,97,98,99,100,101,102,65,66,67,68,69,70]
end
section
def G0:List Nat->Nat
 | []=>0
 | x::r=>x * 10 ^ r.length+G0 r
theorem A3K (d:List Nat) (h:∀ x∈d,x<10):G0 d<10 ^ d.length:=by
 induction d with
 | nil=>simp [G0]
 | cons x r ih =>
  have a:=ih λy hy=>h y (by simp [hy])
  have b:=h x (by simp)
  rw [G0,A8,Nat.pow_succ]
  have c:x * 10 ^ r.length<=9 * 10 ^ r.length:=Cm _ oO
  omega
theorem Pe (a b:List Nat):G0 (a++b)=G0 a * 10 ^ b.length+G0 b:=by
 induction a with
 | nil=>simp [G0]
 | cons x r ih =>
  rw [GR,G0,G0,ih,A5,Nat.pow_add,Nat.add_mul,Nat.mul_assoc,Nat.add_assoc]
theorem Qi (k:Nat):G0 (List.replicate k 0)=0:=by
 induction k with
 | zero=>rfl
 | succ k ih=>rw [List.replicate_succ,G0,ih];simp
theorem YT (d:List Nat):G0 (J5 d).1+(J5 d).2 * 10 ^ d.length=2 * G0 d:=by
 induction d with
 | nil=>rfl
 | cons x r ih =>
  have hl:=Q9 r
  simp only [J5,G0,hl,A8,Nat.pow_succ]
  have a:(2 * x+(J5 r).2) % 10+10 * ((2 * x+(J5 r).2) / 10)=2 * x+(J5 r).2:=Nat.mod_add_div _ _
  have b:((2 * x+(J5 r).2) % 10) * 10 ^ r.length+(2 * x+(J5 r).2) / 10 * (10 ^ r.length * 10)=(2 * x+(J5 r).2) * 10 ^ r.length:=by
   conv=>rhs;rw [<- a,Nat.add_mul]
   rw [Nat.mul_comm (10 ^ r.length) 10,<- Nat.mul_assoc,Nat.mul_comm _ 10]
  have c:(2 * x+(J5 r).2) * 10 ^ r.length=2 * (x * 10 ^ r.length)+(J5 r).2 * 10 ^ r.length:=by rw [Nat.add_mul,Nat.mul_assoc]
  omega
theorem Xa (k:Nat):∀ (n:Int) (d:List Nat),(FV k n d).2.length=d.length:=by
 induction k with
 | zero=>intro n d;rfl
 | succ k ih=>intro n d;rw [FV,ih,Q9]
theorem X9 (k:Nat):∀ (n:Nat) (d:List Nat),∃ m:Nat,(FV k (n:Int) d).1=(m:Int)/\m * 10 ^ d.length+G0 (FV k (n:Int) d).2=2 ^ k * (n * 10 ^ d.length+G0 d):=by
 induction k with
 | zero=>intro n d;exact ⟨n,rfl,by simp [FV]⟩
 | succ k ih =>
  intro n d
  obtain ⟨m,b,a⟩:=ih (2 * n+(J5 d).2) (J5 d).1
  rw [Q9] at a
  have hv:=YT d
  have hc:((2 * n+(J5 d).2:Nat):Int)=2 * (n:Int)+((J5 d).2:Int):=by omega
  rw [FV,<- hc]
  refine ⟨m,b,a.trans ?_⟩
  rw [Nat.pow_succ,Nat.mul_assoc]
  congr 1
  rw [Nat.add_mul,Nat.mul_assoc]
  omega
theorem R3 (l:l8_):D2 l=G0 (Bj l):=by
 have key:∀ (l:l8_) (n:Nat),l.foldl (λn c=>10 * n+(c.toNat-48)) n=n * 10 ^ l.length+G0 (Bj l):=by
  intro l
  induction l with
  | nil=>intro n;simp [Bj,G0]
  | cons c r ih =>
   intro n
   have hl:(Bj r).length=r.length:=EP r
   have hd:Bj (c::r)=(c.toNat-48)::Bj r:=rfl
   rw [DD,ih,hd,G0,hl,A8,Nat.pow_succ,Nat.add_mul,Nat.mul_comm 10 n,Nat.mul_assoc,Nat.mul_comm 10 (10 ^ r.length),Nat.add_assoc]
 have:=key l 0
 rw [Nat.zero_mul,EF] at this
 exact this
theorem Xh (W R:l8_) (N f:Nat) (hW:∀ c∈W,BS c=true) (hN:D2 W=N) (hN5:N<=99999) (hR:∀ c∈R,BS c=true) (hv:G0 (Bj R) * 65536=f * 10 ^ R.length) :
  Xi W R=some ((N * 65536+f:Nat):Int):=by
 have ht:¬ 5<(W.dropWhile (· == 48)).length:=λh=>by have:=(Zm W hW).1 h;omega
 unfold Xi
 rw [A1 ht,R4,hN]
 obtain ⟨m,k,j⟩:=X9 16 N (Bj R)
 have hd:=S2 16 (N:Int) (Bj R) (Px R hR)
 have hl:=Xa 16 (N:Int) (Bj R)
 have d:=A3K _ hd
 rw [EP] at j hl
 rw [hl] at d
 have g:=YT (FV 16 (N:Int) (Bj R)).2
 rw [hl] at g
 generalize (FV 16 (N:Int) (Bj R)).2=D at *
 generalize hP:10 ^ R.length=P at *
 have i:0<P:=by rw [<- hP];exact Nat.pow_pos dD
 have e:m * P+G0 D=(N * 65536+f) * P:=by
  rw [j,Nat.add_mul,<- hv]
  have:(2:Nat) ^ 16=65536:=by decide
  rw [this,Nat.mul_add,<- Nat.mul_assoc,Nat.mul_comm 65536 N,Nat.mul_comm 65536 (G0 _)]
 have hm:m=N * 65536+f:=by
  have a:(m * P+G0 D) / P=m:=by rw [Nat.mul_comm,Nat.mul_add_div i,Nat.div_eq_of_lt d];rfl
  have b:((N * 65536+f) * P) / P=N * 65536+f:=Nat.mul_div_cancel _ i
  rw [<- a,e,b]
 have hD:G0 D=0:=by rw [hm] at e;omega
 have hc:(J5 D).2=0:=by
  rw [hD] at g
  rcases Ho (J5 D).2 with h | h
  · exact h
  · have:=Cm P h;omega
 rw [k,hc,hm,Int.natCast_zero,Int.add_zero]
theorem Rk (k:Nat) (h:k<10):BS (ch (48+(k:Int)))=true/\(ch (48+(k:Int))).toNat=48+k:=by
 have e:(ch (48+(k:Int))).toNat=48+k:=by
  unfold ch
  rw [show (48+(k:Int)).toNat=48+k by omega,UInt8.toNat_ofNat']
  omega
 exact ⟨by unfold BS;rw [e,Aj (show 48<=48+k by omega),Aj (show 48+k<=57 by omega)];rfl,e⟩
theorem A0q (k:Nat):∀ f:Nat,k<=16->f<65536->2 ^ (16-k) ∣ f->(∀ c∈Hi k f,BS c=true)/\G0 (Bj (Hi k f)) * 65536=f * 10 ^ (Hi k f).length:=by
 induction k with
 | zero =>
  intro f _ hf hd
  obtain ⟨c,hc⟩:=hd
  have:f=0:=by simp at hc;omega
  subst this
  exact ⟨by simp [Hi],by simp [Hi,Bj,G0]⟩
 | succ k ih =>
  intro f hk hf hd
  rw [Hi]
  split
  · next h=>subst h;exact ⟨by simp,by simp [Bj,G0]⟩
  ·
   have b:2 ^ (16-k) ∣ f * 10:=by
    have e:16-k=(16-(k+1))+1:=by omega
    rw [e,Nat.pow_succ]
    exact Nat.mul_dvd_mul hd ⟨5,rfl⟩
   have d:2 ^ (16-k) ∣ 65536:=by
    rw [show (65536:Nat)=2 ^ 16 from rfl]
    exact Nat.pow_dvd_pow 2 oO
   obtain ⟨g,i⟩:=ih (f * 10 % 65536) oO oO ((Nat.dvd_mod_iff d).2 b)
   obtain ⟨c1,j⟩:=Rk (f * 10 / 65536) oO
   refine ⟨λc hc=>?_,?_⟩
   ·
    rcases Ar.1 hc with rfl | hc
    · exact c1
    · exact g c hc
   ·
    have a:Bj (ch (48+((f * 10 / 65536:Nat):Int))::Hi k (f * 10 % 65536))=(f * 10 / 65536)::Bj (Hi k (f * 10 % 65536)):=by
     show (_-48)::_=_
     rw [j];congr 1;omega
    rw [a,G0,EP,A8,Nat.pow_succ]
    generalize G0 (Bj (Hi k (f * 10 % 65536)))=V at *
    generalize 10 ^ (Hi k (f * 10 % 65536)).length=P at *
    have hm:=Nat.mod_add_div (f * 10) 65536
    generalize f * 10 % 65536=r at *
    generalize f * 10 / 65536=q at *
    rw [Nat.add_mul,i,Nat.mul_comm P 10,<- Nat.mul_assoc,<- hm,Nat.add_mul,Nat.mul_right_comm,Nat.mul_comm q 65536]
    omega
theorem A0p (f:Nat) (h:f<65536):(∀ c∈IU f,BS c=true)/\G0 (Bj (IU f)) * 65536=f * 10 ^ (IU f).length :=
 A0q 16 f oO h (by simp)
theorem Py (n:Nat):(∀ c∈DY n,BS c=true)/\D2 (DY n)=n/\DY n≠[]:=by
  induction n using Nat.strongRecOn with
  | _ n ih =>
    by_cases h:n<10
    · rw [JA n h]
      obtain ⟨c1,a⟩:=Rk n h
      exact ⟨by simpa using c1,by simp [D2,a],by simp⟩
    · rw [Rx n oO]
      obtain ⟨b,d,e⟩:=ih (n / 10) oO
      obtain ⟨c1,a⟩:=Rk (n % 10) oO
      refine ⟨λc hc=>?_,?_,by simp⟩
      · rcases Ba.1 hc with hc | hc
        · exact b c hc
        · rw [Am.1 hc];exact c1
      · rw [R5,d,a];omega
theorem Lt (a b:l8_):Bj (a++b)=Bj a++Bj b:=by simp [Bj]
theorem M3 (k:Nat):Bj (List.replicate k 48)=List.replicate k 0:=by simp [Bj]
theorem Zk (R:l8_) (f k:Nat) (h:G0 (Bj R) * 65536=f * 10 ^ R.length):G0 (Bj (R++List.replicate k 48)) * 65536=f * 10 ^ (R++List.replicate k 48).length:=by
 rw [Lt,M3,Pe,Qi,Nat.add_zero,A5,HH,HH,Nat.pow_add,<- Nat.mul_assoc,<- h,Nat.mul_right_comm]
theorem VC (k:Nat) (W:l8_):D2 (List.replicate k 48++W)=D2 W:=by
 rw [R3,R3,Lt,M3,Pe,Qi,Nat.zero_mul,EF]
theorem Tp (k:Nat) (c:UInt8) (h:c∈List.replicate k (48:UInt8)):BS c=true:=by
 rw [List.mem_replicate] at h;rw [h.2];rfl
def S0 (m:Option Bool):l8_:=match m with | none=>[] | some true=>[45] | some false=>[43]
def neg (m:Option Bool):Bool:=match m with | some true=>true | _=>false
theorem Ph (m:Option Bool) (l:l8_) (h:∀ c r,l=c::r->BS c=true):AL (S0 m++l)=(neg m,l):=by
 match m with
 | some true=>rfl
 | some false=>rfl
 | none =>
  cases l with
  | nil=>rfl
  | cons c r=>exact US c r (h c r rfl)
theorem A2x (W X:l8_) (hW:∀ c∈W,BS c=true) (h0:W≠[]):∀ c r,W++X=c::r->BS c=true:=by
 intro c r e
 cases W with
 | nil=>exact CM rfl h0
 | cons d W =>
  simp only [GR,DE] at e
  rw [<- e.1];exact hW d (by simp)
theorem A24 (W:l8_) (hW:∀ c∈W,BS c=true):46 ∉ W:=λh=>CM (hW 46 h) dD
theorem A2i (W R:l8_) (hW:∀ c∈W,BS c=true) (hR:∀ c∈R,BS c=true) (h0:W≠[]):HT (W++46::R)=true:=by
 have hl:0<W.length:=List.length_pos_iff.2 h0
 unfold HT
 rw [La R W (A24 W hW)]
 simp only [A3,Au,Ab]
 exact ⟨⟨hW,hR⟩,by omega⟩
theorem Xt (m:Option Bool) (W R:l8_) (N f:Nat) (hW:∀ c∈W,BS c=true) (h0:W≠[]) (hR:∀ c∈R,BS c=true) (hN:D2 W=N) (hN5:N<=99999)
  (hv:G0 (Bj R) * 65536=f * 10 ^ R.length) (hfit:Ao (if neg m then -((N * 65536+f:Nat):Int) else ((N * 65536+f:Nat):Int))=true) :
  LT (S0 m++(W++46::R))=(if neg m then -((N * 65536+f:Nat):Int) else ((N * 65536+f:Nat):Int),true):=by
 rw [ZX,Ph m _ (A2x W _ hW h0)]
 simp only
 rw [A2i W R hW hR h0,A6 rfl,La R W (A24 W hW)]
 simp only
 rw [Xh W R N f hW hN hN5 hR hv]
 unfold WT
 simp only [hfit,if_true]
theorem ZB (n:Int):LO n=S0 (if n<0 then some true else none):=by unfold LO S0;split <;> rfl
theorem A6n (n:Int):(if neg (if n<0 then some true else none) then -((n.natAbs / 65536 * 65536+n.natAbs % 65536:Nat):Int) else ((n.natAbs / 65536 * 65536+n.natAbs % 65536:Nat):Int))=n:=by
 have h:n.natAbs / 65536 * 65536+n.natAbs % 65536=n.natAbs:=by omega
 rw [h]
 by_cases hn:n<0
 · rw [A6 hn];simp only [neg,if_true];omega
 · rw [A1 hn];simp only [neg,By,if_false];omega
theorem QC (n:Int):∃ R,NL n=S0 (if n<0 then some true else none)++(If n++46::R)/\R≠[]/\R.length<=16/\(∀ c∈R,BS c=true)/\G0 (Bj R) * 65536=(n.natAbs % 65536) * 10 ^ R.length:=by
  obtain ⟨a,b⟩:=A0p (n.natAbs % 65536) oO
  unfold NL
  rw [ZB]
  by_cases h0:Ln n=[]
  · refine ⟨[48], by rw [A6 h0]; simp, by simp, by simp, by simp; decide, ?_⟩
    rw [(OJ n).1 h0];simp [Bj,G0]
  · refine ⟨Ln n,by rw [A1 h0];simp,h0,My _,a,b⟩
theorem KS (n:Int) (h1:-2147483648<=n) (h2:n<=2147483647):(∀ c∈If n,BS c=true)/\If n≠[]/\D2 (If n)=n.natAbs / 65536/\n.natAbs / 65536<=99999/\(If n).length<=5:=by
 obtain ⟨a,b,c⟩:=Py (n.natAbs / 65536)
 exact ⟨a,c,b,by omega,M4 4 _ oO⟩
theorem Xs (m:Option Bool) (n:Int) (a k:Nat) (h1:-2147483648<=n) (h2:n<=2147483647) (R:l8_) (hR:∀ c∈R,BS c=true) (hv:G0 (Bj R) * 65536=(n.natAbs % 65536) * 10 ^ R.length) (hm:neg m=decide (n<0)) :
  LT (S0 m++((List.replicate a 48++If n)++46::(R++List.replicate k 48)))=(n,true):=by
 obtain ⟨b,d,e,f,g⟩:=KS n h1 h2
 have hn:(if neg m then -((n.natAbs / 65536 * 65536+n.natAbs % 65536:Nat):Int) else ((n.natAbs / 65536 * 65536+n.natAbs % 65536:Nat):Int))=n:=by
  have:=A6n n
  rw [hm]
  by_cases h:n<0
  · rw [A6 h] at this;rw [Aj h];exact this
  · rw [A1 h] at this;rw [Al h];exact this
 rw [Xt m _ _ (n.natAbs / 65536) (n.natAbs % 65536) (λc hc=>(Ba.1 hc).elim (Tp a c) (b c)) (by simp [d]) (λc hc=>(Ba.1 hc).elim (hR c) (Tp k c)) (by rw [VC,e]) f (Zk R _ k hv) (by rw [hn];exact Mz h1 h2),hn]
end
section
inductive AV where
 | mk (kind n:Int) (text:l8_) (keys:List (l8_)) (list:List AV) (data:l8_)
def AV.kind:AV->Int | .mk k _ _ _ _ _=>k
def AV.n:AV->Int | .mk _ n _ _ _ _=>n
def AV.text:AV->l8_ | .mk _ _ t _ _ _=>t
def A8e:AV->List (l8_) | .mk _ _ _ ks _ _=>ks
def AV.list:AV->List AV | .mk _ _ _ _ l _=>l
def AV.data:AV->l8_ | .mk _ _ _ _ _ d=>d
mutual
/-- an object without its data -/
def pvO:AV->PV
 | .mk k n t ks l _=>.mk k n t ks (pvL l)
def pvL:List AV->List PV
 | []=>[]
 | o::r=>pvO o::pvL r
end
def KA (c:UInt8):Bool:=decide (c.toNat<33) || decide (126<c.toNat) || c == 35 || Nq c
def Xy (c:UInt8):l8_:=if KA c then [35,Ej[c.toNat / 16]!,Ej[c.toNat % 16]!] else [c]
def nmT (s:l8_):l8_:=47::s.flatMap Xy
def Wu (c:UInt8):l8_:=if c=40\/c=41\/c=92 then [92,c] else if c.toNat<32\/126<c.toNat then OR c else [c]
def PI (s:l8_):l8_:=40::(s.flatMap Wu++[41])
def A7f (d:l8_):l8_:=[32,47,76,101,110,103,116,104,32]++E5 (d.length:Int)++[32,62,62,10,115,116,114,101,97,109,10]++d++[10,101,110,100,115,116,114,101,97,109]
mutual
/-- an object as it is written -/
def prO:AV->l8_
 | .mk k n t ks l d =>
  if k=0 then [110,117,108,108]
  else if k=1 then (if n=1 then [116,114,117,101] else [102,97,108,115,101])
  else if k=2 then E5 n
  else if k=3 then NL (norm n)
  else if k=4 then nmT t
  else if k=5 then PI t
  else if k=8 then E5 n++[32,48,32,82]
  else if k=6 then 91::((prB l).drop 1++[93])
  else 60::60::(prP ks l++(if k=7 then [32,62,62] else A7f d))
/-- objects,each with a blank ahead -/
def prB:List AV->l8_
 | []=>[]
 | o::r=>32::(prO o++prB r)
/-- names and objects,each with a blank ahead -/
def prP:List (l8_)->List AV->l8_
 | k::ks,o::r=>32::(nmT k++32::(prO o++prP ks r))
 | _,_=>[]
end
def A06 (s:l8_):Prop:=s≠[]/\0 ∉ s/\s.length<=127
inductive Snd:Int->Bool->AV->Prop
 | null (D:Int) (st:Bool):Snd D st (.mk 0 0 [] [] [] [])
 | bool (D:Int) (st:Bool) (n:Int) (h:n=0\/n=1):Snd D st (.mk 1 n [] [] [] [])
 | num (D:Int) (st:Bool) (k n:Int) (hk:k=2\/k=3) (h:Ao n=true):Snd D st (.mk k n [] [] [] [])
 | name (D:Int) (st:Bool) (t:l8_) (h:A06 t):Snd D st (.mk 4 0 t [] [] [])
 | text (D:Int) (st:Bool) (t:l8_) (h:t.length<=65535):Snd D st (.mk 5 0 t [] [] [])
 | ref (D:Int) (st:Bool) (n:Int) (h:1<=n/\n<=4096):Snd D st (.mk 8 n [] [] [] [])
 | arr (D:Int) (st:Bool) (l:List AV) (hD:1<=D) (hl:l.length<=65535) (h:∀ o∈l,Snd (D-1) false o):Snd D st (.mk 6 0 [] [] l [])
 | dict (D:Int) (st:Bool) (k:Int) (ks:List (l8_)) (l:List AV) (d:l8_) (hk:(k=7/\d=[])\/(k=9/\st=true/\d.length<=1048576/\[76,101,110,103,116,104] ∉ ks)) (hD:1<=D) (hl:l.length<=65535) (hkl:ks.length=l.length)
   (hn:∀ x∈ks,A06 x) (hnd:ks.Nodup) (h:∀ o∈l,Snd (D-1) false o):Snd D st (.mk k 0 [] ks l d)
mutual
/-- how many lists are within one another -/
def dpO:AV->Nat
 | .mk k _ _ _ l _=>if k=6\/k=7 then dpL l+1 else 0
def dpL:List AV->Nat
 | []=>0
 | o::r=>max (dpO o) (dpL r)
end
theorem Yf (c:UInt8):(Wu c).length<=4:=by unfold Wu OR;split <;> (try split) <;> simp
theorem flat_len {f:UInt8->l8_} {k:Nat} (hf:∀ c,(f c).length<=k):∀ s:l8_,(s.flatMap f).length<=k * s.length
 | []=>by simp
 | c::s=>by
  have h1:=hf c;have h2:=flat_len hf s
  rw [CR,A5,A8,Nat.mul_add,Nat.mul_one];omega
theorem Fm (n:Int) (h:-9223372036854775808<=n) (h':n<=9223372036854775807):(E5 n).length<=21:=by
 have:=KJ n h h'
 rwa [BE] at this
theorem MA {n:Int} (h:Ao n=true):-2147483648<=n/\n<=2147483647:=by simpa [Ao] using h
theorem OU {n:Int} (h:Ao n=true):norm n=n:=by unfold norm;rw [A6 h]
end
section
def Uz (r:l8_):Prop:=∀ c r',r=c::r'->DO c=false
theorem Uz.cons {c:UInt8} {r:l8_} (h:DO c=false):Uz (c::r):=λc' r' e=>by cases e;exact h
theorem A10  {r:l8_} (hA:∀ x∈A,DO x=true) (hr:Uz r):(A++r).takeWhile DO=A:=by
 induction A with
 | nil =>
  cases r with
  | nil=>rfl
  | cons c r=>rw [CF,List.takeWhile_cons,hr c r rfl];rfl
 | cons a A ih=>rw [GR,List.takeWhile_cons,hA a (by simp),A6 rfl,ih λx hx=>hA x (by simp [hx])]
section
variable {l:l8_} {t:Nat}
theorem TG  {r:l8_} (ht:t<=l.length) (h:l.drop t=A++r) (hA:∀ x∈A,DO x=true) (hr:Uz r):E0 l t=A/\BP l t=l.length-r.length/\l.drop (BP l t)=r:=by
 have a:E0 l t=A:=by rw [UB,h,A10 hA hr]
 have hl:=Bc List.length h
 rw [B4,A5] at hl
 have b:BP l t=t+A.length:=by unfold BP;rw [h,A10 hA hr]
 refine ⟨a,by omega,?_⟩
 rw [b,<- K9,h,List.drop_left]
theorem TO {x:l8_} (h:DV false (l.drop t)=x):AP false l t=l.length-x.length/\l.drop (AP false l t)=x:=⟨by unfold AP;rw [h],by rw [Pg,h]⟩
end
theorem KV {c:UInt8} {r:l8_} (h:Er c=false) (h37:c≠37):DV false (c::r)=c::r:=by simp [DV,h,h37]
theorem II (r:l8_):DV false (32::r)=DV false r:=by simp [DV,Er]
theorem RK {q:UInt8->Prop} [DecidablePred q] (key:∀ n:Fin 256,q (UInt8.ofNat n.1)) (c:UInt8):q c:=by
 have h:=key ⟨c.toNat,Ce c⟩
 have e:UInt8.ofNat (⟨c.toNat,Ce c⟩:Fin 256).1=c:=UInt8.ofNat_toNat
 rw [e] at h
 exact h
theorem A4j (c:UInt8):∀ x∈Xy c,DO x=true:=RK (q:=λc=>∀ x∈Xy c,DO x=true) (by decide +kernel) c
theorem A4k (c:UInt8):(KA c=true->Xy c=[35,Ej[c.toNat / 16]!,Ej[c.toNat % 16]!]/\Ee Ej[c.toNat / 16]!<16/\Ee Ej[c.toNat % 16]!<16/\ch ((16 * Ee Ej[c.toNat / 16]!+Ee Ej[c.toNat % 16]! : Nat):Int)=c)/\(KA c=false->Xy c=[c]/\c≠35) :=
 RK (q:=λc=>(KA c=true->Xy c=[35,Ej[c.toNat / 16]!,Ej[c.toNat % 16]!]/\Ee Ej[c.toNat / 16]!<16/\Ee Ej[c.toNat % 16]!<16/\ch ((16 * Ee Ej[c.toNat / 16]!+Ee Ej[c.toNat % 16]! : Nat):Int)=c)/\(KA c=false->Xy c=[c]/\c≠35)) (by decide +kernel) c
theorem Tt:∀ s:l8_,MM (s.flatMap Xy)=some s
 | []=>rfl
 | c::s=>by
  have ih:=Tt s
  have hd:=A4k c
  rw [CR]
  cases hn:KA c with
  | true =>
   obtain ⟨h1,h2,h3,h4⟩:=hd.1 hn
   rw [h1]
   show MM (35::Ej[c.toNat / 16]! :: Ej[c.toNat % 16]! :: s.flatMap Xy)=_
   rw [KI,A6 rfl]
   simp only
   rw [A6 ⟨h2,h3⟩,ih,h4];rfl
  | false =>
   obtain ⟨h1,h2⟩:=hd.2 hn
   rw [h1]
   show MM (c::s.flatMap Xy)=_
   rw [KI,A1 h2,ih];rfl
theorem A2a (s:l8_):∀ x∈s.flatMap Xy,DO x=true:=λx hx=>by
 obtain ⟨c,-,hc⟩:=List.mem_flatMap.1 hx
 exact A4j c x hc
theorem A2b {l:l8_} {r:l8_} (ht:t<=l.length) (h:l.drop t=s.flatMap Xy++r) (hs:A06 s) (hr:Uz r):Jc l t=.ok (s,l.length-r.length):=by
 obtain ⟨a,b,-⟩:=TG ht h (A2a s) hr
 unfold Jc
 rw [a,Tt]
 simp only
 rw [A1 (λh=>h.elim hs.1 hs.2.1),A1 (by have:=hs.2.2;omega),b]
theorem TU (c:UInt8) (o r:l8_):Dd 1 o (Wu c++r)=Dd 1 (o++[c]) r:=by
 unfold Wu
 split
 ·
  next h =>
  show Dd 1 o (92::c::r)=_
  rw [SO]
  have he:IW c r=([c],r):=by rcases h with rfl | rfl | rfl <;> rfl
  rw [he]
 ·
  next h =>
  split
  ·
   show Dd 1 o (92::ch (48+(c.toNat:Int) / 64)::ch (48+(c.toNat:Int) / 8 % 8)::ch (48+(c.toNat:Int) % 8)::r)=_
   rw [SO,A2J]
  ·
   next h2 =>
   exact TV _ _ _ _ (λe=>h (.inl e)) (λe=>h (.inr (.inl e))) (λe=>h (.inr (.inr e))) (λe=>by subst e;exact h2 (.inl dD))
theorem Pj:∀ (s o r:l8_),Dd 1 o (s.flatMap Wu++r)=Dd 1 (o++s) r
 | [],o,r=>by simp
 | c::s,o,r=>by rw [CR,AE,TU,Pj s];simp
theorem A1f {l:l8_} {r:l8_} (ht:t<=l.length) (h:l.drop t=PI s++r) (hs:s.length<=65535):Km l t=.ok (s,l.length-r.length):=by
 have hl:=Bc List.length h
 have hN:Gh l (t:Int)=⟨6,0,s,((l.length-r.length:Nat):Int),0⟩:=by
  unfold Gh
  rw [A1 oO]
  rw [show (t:Int).toNat=t from rfl,h,show PI s++r=40::(s.flatMap Wu++(41::r)) by simp [PI],A3P,Pj,ZJ,A6 rfl]
  simp only [Hz,CF]
  rw [A1 oO]
  rfl
 unfold Km
 rw [hN]
 simp
theorem M5 (n:Int) (h:Ao n=true):∃ m:Option Bool,∃ W:l8_,E5 n=S0 m++W/\neg m=decide (n<0)/\(∀ c∈W,BS c=true)/\W≠[]/\D2 W=n.natAbs/\W.length<=10:=by
 have hf:=MA h
 obtain ⟨a,b,c⟩:=Py n.natAbs
 have hl:=M4 9 n.natAbs oO
 unfold E5
 by_cases hn:n<0
 · exact ⟨some true,DY n.natAbs,by rw [A6 hn];rfl,by rw [Aj hn];rfl,a,c,b,by omega⟩
 · exact ⟨none,DY n.natAbs,by rw [A1 hn];rfl,by rw [Al hn];rfl,a,c,b,by omega⟩
theorem Un (c:UInt8) (h:BS c=true):DO c=true:=RK (q:=λc=>BS c=true->DO c=true) (by decide +kernel) c h
theorem Yn (m:Option Bool):∀ x∈S0 m,DO x=true:=by
 match m with
 | none=>exact λx hx=>by cases hx
 | some true=>exact λx hx=>by simp [S0] at hx;subst hx;decide
 | some false=>exact λx hx=>by simp [S0] at hx;subst hx;decide
theorem Yo (m:Option Bool) {x:UInt8} (h1:x≠45) (h2:x≠43):x ∉ S0 m:=by
 match m with
 | none=>exact λh=>by cases h
 | some true=>simp [S0];exact h1
 | some false=>simp [S0];exact h2
theorem YR (n:Int) (h:Ao n=true):∀ x∈E5 n,DO x=true:=by
 obtain ⟨m,W,e,-,hW,-⟩:=M5 n h
 rw [e]
 exact λx hx=>(Ba.1 hx).elim (Yn m x) λhx=>Un x (hW x hx)
theorem A4T (n:Int) (h:Ao n=true):Gv (E5 n)=Ih n:=by
 obtain ⟨m,W,e,hm,hW,d,hv,hl⟩:=M5 n h
 have hf:=MA h
 have hs:(S0 m).length<=1:=by match m with
  | none=>simp [S0]
  | some true=>simp [S0]
  | some false=>simp [S0]
 have hr:JU (E5 n)=false:=by
  unfold JU
  rw [Up 35 _ (by rw [e];exact λhx=>(Ba.1 hx).elim (Yo m dD dD) λhx=>CM (hW 35 hx) dD)]
  rfl
 rw [TL _ (by rw [e,A5];omega) hr]
 have hw:Gu (E5 n)=(n,true):=by
  unfold Gu
  rw [e,Ph m W λc r hc=>hW c (by rw [hc];simp)]
  simp only
  have f:(W.isEmpty || !W.all BS)=false:=by
   rw [Au.2 hW]
   cases W with
   | nil=>exact CM rfl d
   | cons a b=>rfl
  rw [f]
  simp only [By,if_false]
  rw [UY,hv,hm]
  have g:(min n.natAbs 1099511627776)=n.natAbs:=by omega
  rw [g]
  have i:(if decide (n<0)=true then -(n.natAbs:Int) else (n.natAbs:Int))=n:=by
   by_cases hn:n<0
   · rw [Aj hn,A6 rfl];omega
   · rw [Al hn,A1 dD];omega
  rw [i]
  simp [hf]
 rw [hw];rfl
theorem A2Q (n:Int) (h:Ao n=true):(E5 n).contains 46=false:=by
 obtain ⟨m,W,e,-,hW,-⟩:=M5 n h
 cases hc:(E5 n).contains 46 with
 | false=>rfl
 | true =>
  rw [List.contains_iff_mem,e] at hc
  exact CM hc λhx=>(Ba.1 hx).elim (Yo m dD dD) λhx=>CM (hW 46 hx) dD
theorem A6H (n:Int) (h:Ao n=true):(E5 n).all Pm=true:=by
 obtain ⟨m,W,e,-,hW,-⟩:=M5 n h
 rw [Au,e]
 intro x hx
 rcases Ba.1 hx with hx | hx
 ·
  match m with
  | none=>cases hx
  | some true=>simp [S0] at hx;subst hx;decide
  | some false=>simp [S0] at hx;subst hx;decide
 · unfold Pm;rw [hW x hx];rfl
theorem VA (n:Int) (h:Ao n=true):Lz (E5 n)=(2,n,true):=by
 unfold Lz
 rw [A2Q n h,A4T n h,A6H n h]
 rfl
theorem Xg (n:Int) (h:Ao n=true):KZ (NL n)=(n,true)/\(NL n).contains 46=true/\(∀ x∈NL n,DO x=true):=by
 have hf:=MA h
 obtain ⟨a,b,c,d,f⟩:=KS n hf.1 hf.2
 obtain ⟨R,e,g,rl,hR,hv⟩:=QC n
 have hm:neg (if n<0 then some true else none)=decide (n<0):=by split <;> simp_all [neg]
 refine ⟨?_,?_,?_⟩
 ·
  unfold KZ
  have hs:(S0 (if n<0 then some true else none)).length<=1:=by split <;> simp [S0]
  rw [A1 (by rw [e];simp only [A5,A8];omega),e]
  have:=Xs (if n<0 then some true else none) n 0 0 hf.1 hf.2 R hR hv hm
  simpa using this
 · rw [List.contains_iff_mem,e];simp
 ·
  rw [e]
  intro x hx
  rcases Ba.1 hx with hx | hx
  · exact Yn _ x hx
  ·
   rcases Ba.1 hx with hx | hx
   · exact Un x (a x hx)
   ·
    rcases Ar.1 hx with rfl | hx
    · decide
    · exact Un x (hR x hx)
theorem Od (n:Int) (h:Ao n=true):∃ c r,E5 n=c::r/\(BS c=true\/c=45\/c=43):=by
 obtain ⟨m,W,e,-,hW,b,-⟩:=M5 n h
 cases W with
 | nil=>exact CM rfl b
 | cons a W =>
  match m with
  | none=>exact ⟨a,W,e,.inl (hW a (by simp))⟩
  | some true=>exact ⟨45,a::W,e,.inr (.inl rfl)⟩
  | some false=>exact ⟨43,a::W,e,.inr (.inr rfl)⟩
theorem ZO (n:Int) (h:Ao n=true):∃ c r,NL n=c::r/\(BS c=true\/c=45\/c=43):=by
 have hf:=MA h
 obtain ⟨b,d,-⟩:=KS n hf.1 hf.2
 obtain ⟨R,e,-⟩:=QC n
 by_cases hn:n<0
 · rw [A6 hn] at e;exact ⟨45,_,e,.inr (.inl rfl)⟩
 ·
  rw [A1 hn] at e
  cases hw:If n with
  | nil=>exact CM hw d
  | cons a W=>rw [hw] at e;exact ⟨a,_,e,.inl (b a (by rw [hw];simp))⟩
end
section
def A2G (x:l8_):l8_:=(DV false x).takeWhile DO
def A6S (x:l8_):l8_:=(DV false x).dropWhile DO
def NoR (k:Int) (r:l8_):Prop:=k=2->¬ (A2G r=[48]/\A2G (A6S r)=[82])
section
variable {l:l8_} {t:Nat}
theorem K1 {c:UInt8} {r:l8_} (h:l.drop t=c::r):l[t]?=some c/\t<l.length/\l.drop (t+1)=r:=by
 have a:(l.drop t)[0]?=some c:=by rw [h];rfl
 rw [List.getElem?_drop] at a
 refine ⟨a,(BR.1 a).1,?_⟩
 rw [<- K9,h];rfl
end
def VN (c:UInt8):Bool:=!Er c && !(c == 37) && !(c == 93) && !(c == 62) && !(c == 82)
theorem LW {c:UInt8} (h:BS c=true\/c=45\/c=43):VN c=true/\c≠47/\c≠91/\c≠40/\c≠60/\c≠110/\c≠116/\c≠102:=by
 have key:∀ c:UInt8,(BS c=true\/c=45\/c=43)->VN c=true/\c≠47/\c≠91/\c≠40/\c≠60/\c≠110/\c≠116/\c≠102 :=
  RK (q:=λc=>(BS c=true\/c=45\/c=43)->VN c=true/\c≠47/\c≠91/\c≠40/\c≠60/\c≠110/\c≠116/\c≠102) (by decide +kernel)
 exact key c h
theorem Uf {c:UInt8} (h:VN c=true):Er c=false/\c≠37/\c≠93/\c≠62/\c≠82:=by
 simp only [VN,A3,AH,DL] at h
 exact ⟨h.1.1.1.1,h.1.1.1.2,h.1.1.2,h.1.2,h.2⟩
def A99 (o:AV):Prop:=∀ (l:l8_) (t:Nat) (rest:l8_) (d:Nat),t<=l.length->l.drop t=prO o++rest->Uz rest->NoR o.kind rest->FD true l d t=if dpO o<=d then .ok (pvO o,l.length-rest.length) else .error 25
theorem SK  {l r:l8_} (ht:t<=l.length) (h:l.drop t=A++r):l.drop (l.length-r.length)=r/\l.length-r.length<=l.length/\r.length<=l.length:=by
 have hl:=Bc List.length h
 rw [B4,A5] at hl
 refine ⟨?_,by omega,by omega⟩
 rw [show l.length-r.length=t+A.length by omega,<- K9,h,List.drop_left]
end
section
structure RX (l:l8_) (a:Nat) (x:l8_):Prop where
 le:a<=l.length
 at_:DV false (l.drop a)=x
 len:x.length<=l.length-a
theorem RX.of {l:l8_} {a:Nat} {x:l8_} (ha:a<=l.length) (h:DV false (l.drop a)=x):RX l a x :=
 ⟨ha,h,by have:=GI (l.drop a) false;rw [h,B4] at this;exact this⟩
theorem RX.skip {l:l8_} {a:Nat} {x:l8_} (h:RX l a x):AP false l a=l.length-x.length/\l.drop (AP false l a)=x:=TO h.at_
theorem Wq  {l r x:l8_} (ht:t<=l.length) (h:l.drop t=A++r) (hx:DV false r=x):RX l (l.length-r.length) x:=by
 obtain ⟨a,b,-⟩:=SK ht h
 exact .of b (by rw [a,hx])
theorem Ko (r:l8_):DV false (10::r)=DV false r:=by simp [DV,Er]
def Hd (x:l8_):Prop:=DV false x=x
theorem Hd.cons {c:UInt8} {r:l8_} (h:Er c=false) (h37:c≠37):Hd (c::r):=KV h h37
theorem Hd.app  {r:l8_} (h:∃ c q,A=c::q/\Er c=false/\c≠37):Hd (A++r):=by
 obtain ⟨c,q,rfl,a,b⟩:=h
 exact .cons a b
theorem Tz (r:l8_):Uz (32::r):=.cons dD
theorem TA (r:l8_):Uz (10::r):=.cons dD
theorem A7U (r:l8_):Uz (93::r):=.cons dD
theorem Yg {l:l8_} {a:Nat} {rest:l8_} (h:RX l a (A++rest)) (hA:∀ x∈A,DO x=true) (h0:A≠[]) (hr:Uz rest) :
  ∃ W,W=F4 false l (AP false l a)/\E0 l (AP false l a)=A/\BP l (AP false l a)=l.length-rest.length /\
   Gn l (a:Int)=(JJ W.kind W.n [],if W.ok then [] else W.word,(W.np:Int),0):=by
 obtain ⟨j,b⟩:=h.skip
 have d:=Ff false l a
 obtain ⟨f,g,k⟩:=TG d b hA hr
 refine ⟨_,rfl,f,g,?_⟩
 cases A with
 | nil=>exact CM rfl h0
 | cons c q =>
  obtain ⟨i,e,-⟩:=K1 (show l.drop (AP false l a)=c::(q++rest) from b)
  have hc:l[AP false l a]=c:=by
   have:=i
   rw [A7 e] at this
   exact DC this
  unfold Gn
  rw [A1 (by have:=h.le;omega)]
  simp only [Int.toNat_natCast]
  rw [dif_pos e,hc,A6 (hA c (by simp))]
theorem A1E (l s:l8_) (t:Nat):LR false l s t=none:=by unfold LR;simp
theorem QK (l:l8_) (t:Nat) (k n:Int) (s:l8_) (hs:E0 l t=s) (hh:∃ c r,s=c::r/\(BS c=true\/c=45\/c=43)) (hn:Lz s=(k,n,true)):F4 false l t=⟨k,n,s,true,BP l t⟩:=by
 obtain ⟨c,r,e,hc⟩:=hh
 have hq:=LW hc
 unfold F4
 rw [hs,A1 (by rw [e];intro h;exact hq.2.2.2.2.2.1 (List.cons.inj h).1),A1 (by rw [e];intro h;exact hq.2.2.2.2.2.2.1 (List.cons.inj h).1),A1 (by rw [e];intro h;exact hq.2.2.2.2.2.2.2 (List.cons.inj h).1),A1E,hn]
 simp
theorem Yh {l:l8_} {a:Nat} {rest:l8_} {k n:Int} (h:RX l a (A++rest)) (hA:∀ x∈A,DO x=true) (hh:∃ c r,A=c::r/\(BS c=true\/c=45\/c=43)) (hr:Uz rest) (hn:Lz A=(k,n,true)) :
  Gn l (a:Int)=(JJ k n [],[],((l.length-rest.length:Nat):Int),0):=by
 obtain ⟨c,r,e,hc⟩:=hh
 obtain ⟨W,hW,b,d,ht⟩:=Yg h hA (by rw [e];simp) hr
 rw [ht,hW,QK l _ k n A b ⟨c,r,e,hc⟩ hn,d];rfl
theorem A5R {l:l8_} {a:Nat} {rest:l8_} (h:RX l a (A++rest)) (hA:∀ x∈A,DO x=true) (h0:A≠[]) (hr:Uz rest) (hn:(Lz A).2.2=false) (h1:A≠[110,117,108,108]) (h2:A≠[116,114,117,101]) (h3:A≠[102,97,108,115,101]) :
  Gn l (a:Int)=(JJ 0 0 [],A,((l.length-rest.length:Nat):Int),0):=by
 obtain ⟨W,hW,b,c,ht⟩:=Yg h hA h0 hr
 have:W=⟨0,0,A,false,l.length-rest.length⟩:=by
  rw [hW]
  unfold F4
  rw [b,A1 h1,A1 h2,A1 h3,A1E,hn,c]
  simp
 rw [ht,this];rfl
theorem TM {l:l8_} {a:Nat} {c:UInt8} {r:l8_} {o:PV} {t':Nat} (h:RX l a (c::r)) (hc:DO c=false) (ho:FD false l 32 (AP false l a)=.ok (o,t')):Gn l (a:Int)=(o,[],(t':Int),0):=by
 obtain ⟨g,e⟩:=h.skip
 obtain ⟨f,b,-⟩:=K1 e
 have d:l[AP false l a]=c:=by
  have:=f
  rw [A7 b] at this
  exact DC this
 unfold Gn
 rw [A1 (by have:=h.le;omega)]
 simp only [Int.toNat_natCast]
 rw [dif_pos b,d,hc,ho];rfl
theorem A3N {l:l8_} {a:Nat} (h:RX l a []):Gn l (a:Int)=(JJ 0 0 [],[],0,26):=by
 obtain ⟨b,-⟩:=h.skip
 unfold Gn
 rw [A1 (by have:=h.le;omega)]
 simp only [Int.toNat_natCast]
 rw [dif_neg (by rw [b];simp)]
theorem A12 {l:l8_} {a:Nat} {rest:l8_} (h:RX l a (PI s++rest)) (hs:s.length<=65535):Gn l (a:Int)=(JJ 5 0 s,[],((l.length-rest.length:Nat):Int),0):=by
 obtain ⟨f,b⟩:=h.skip
 have d:=Ff false l a
 refine TM (c:=40) (r:=(s.flatMap Wu++[41])++rest) (by have h':=h;unfold PI at h';exact h') dD ?_
 obtain ⟨e,-,-⟩:=K1 (show l.drop (AP false l a)=40::((s.flatMap Wu++[41])++rest) from b)
 have:=NX false l (32:Int) (AP false l a) 40 e
 rw [A1 dD,A1 dD,A6 rfl] at this
 rw [show (32:Nat)=(32:Int).toNat from rfl,this]
 unfold IG
 rw [A1f d b hs]
theorem A13 {l:l8_} {a:Nat} {rest:l8_} (h:RX l a (47::(s.flatMap Xy++rest))) (hs:A06 s) (hr:Uz rest):Gn l (a:Int)=(JJ 4 0 s,[],((l.length-rest.length:Nat):Int),0):=by
 obtain ⟨f,b⟩:=h.skip
 refine TM (c:=47) (r:=s.flatMap Xy++rest) h dD ?_
 obtain ⟨d,g,e⟩:=K1 b
 have:=NX false l (32:Int) (AP false l a) 47 d
 rw [A6 rfl] at this
 rw [show (32:Nat)=(32:Int).toNat from rfl,this]
 unfold Lp
 rw [A2b oO e hs hr]
theorem Vh (n:Int) (h:n.natAbs % 65536=0):DG n=E5 (n / 65536):=by
 unfold DG
 rw [A6 ((OJ n).2 h),BK]
 unfold LO If E5
 by_cases hn:n<0
 · rw [A6 hn,A6 oO,show (n / 65536).natAbs=n.natAbs / 65536 by omega];rfl
 · rw [A1 hn,A1 oO,show (n / 65536).natAbs=n.natAbs / 65536 by omega];rfl
theorem Xn (n:Int) (h:n.natAbs % 65536≠0):DG n=NL n:=by
 have a:Ln n≠[]:=λe=>h ((OJ n).1 e)
 unfold DG NL
 rw [A1 a,A1 a]
def Gf (n:Int):PV:=if n.natAbs % 65536=0 then JJ 2 (n / 65536) [] else JJ 3 n []
theorem A6l (m:Int):Ep (JJ 2 m [])=((Ic m).1,decide ((Ic m).2=0)):=by unfold Ep;rw [A1 (by simp [JJ,N9]),A6 (by simp [JJ,N9])];rfl
theorem A6k (m:Int):Ep (JJ 3 m [])=(m,Ao m):=by simp [Ep,JJ,N9,Wv]
theorem NZ {n:Int} (h:Ao n=true):Ep (Gf n)=(n,true):=by
 obtain ⟨a,b⟩:=MA h
 unfold Gf
 split
 ·
  rw [A6l]
  unfold Ic
  rw [A1 oO]
  simp only [CQ,decide_true,and_true]
  omega
 · rw [A6k,h]
theorem IN {n:Int} (h:Ao n=true):(∀ x∈DG n,DO x=true)/\(∃ c r,DG n=c::r/\(BS c=true\/c=45\/c=43))/\∃ k m,Lz (DG n)=(k,m,true)/\JJ k m []=Gf n:=by
  obtain ⟨e,f⟩:=MA h
  by_cases hn:n.natAbs % 65536=0
  · have hf : Ao (n / 65536) = true := by simp [Ao]; omega
    rw [Vh n hn]
    exact ⟨YR _ hf,Od _ hf,2,n / 65536,VA _ hf,by unfold Gf;rw [A6 hn]⟩
  · rw [Xn n hn]
    obtain ⟨a,b,d⟩:=Xg n h
    exact ⟨d,ZO n h,3,n,by unfold Lz;rw [b,a];rfl,by unfold Gf;rw [A1 hn]⟩
theorem QJ {n:Int} (h:Ao n=true) (r:l8_):Hd (DG n++r):=by
 obtain ⟨-,⟨c,q,e,hc⟩,-⟩:=IN h
 have:=Uf (LW hc).1
 exact .app ⟨c,q,e,this.1,this.2.1⟩
theorem Zn {l:l8_} {a:Nat} {n:Int} {rest:l8_} (h:RX l a (DG n++rest)) (hf:Ao n=true) (hr:Uz rest):Gn l (a:Int)=(Gf n,[],((l.length-rest.length:Nat):Int),0):=by
 obtain ⟨b,c,k,m,d,e⟩:=IN hf
 rw [Yh h b c hr d,e]
theorem Yi {l:l8_} {a:Nat} {n:Int} {rest:l8_} (h:RX l a (E5 n++rest)) (hf:Ao n=true) (hr:Uz rest):Gn l (a:Int)=(JJ 2 n [],[],((l.length-rest.length:Nat):Int),0) :=
 Yh h (YR n hf) (Od n hf) hr (VA n hf)
theorem A6I {n:Int} (h:Ao n=true) (r:l8_):Hd (E5 n++r):=by
 obtain ⟨c,q,e,hc⟩:=Od n h
 have:=Uf (LW hc).1
 exact .app ⟨c,q,e,this.1,this.2.1⟩
def Em:List Int->l8_
 | []=>[]
 | n::r=>32::(DG n++Em r)
theorem A04 {l:l8_} {n:Int} {rest:l8_} (ht:t<=l.length) (h:l.drop t=DG n++rest) (hf:Ao n=true) (hr:Uz rest):FD false l d t=.ok (Gf n,l.length-rest.length):=by
 obtain ⟨a,⟨c,r,e,hc⟩,k,m,b,f⟩:=IN hf
 obtain ⟨g,i,-⟩:=TG ht h a hr
 have hq:=LW hc
 have j:=(K1 (show l.drop t=c::(r++rest) by rw [h,e];rfl)).1
 have:=NX false l (d:Int) t c j
 rw [Int.toNat_natCast,A1 hq.2.1,A1 hq.2.2.1,A1 hq.2.2.2.1,A1 hq.2.2.2.2.1] at this
 rw [this]
 rw [QK l t k m _ g ⟨c,r,e,hc⟩ b,i]
 simp [J2,f]
theorem A3a (r:List Int) (x:l8_):Uz (Em r++93::x):=by
 cases r with
 | nil=>exact A7U _
 | cons n r=>exact Tz _
theorem Re (l:l8_) (d:Nat) (rest:l8_):∀ (r:List Int) (acc:List PV) (t f:Nat),(∀ n∈r,Ao n=true)->t<=l.length->DV false (l.drop t)=(Em r).drop 1++93::rest->r.length<f->acc.length+r.length<=65535 ->
  HU (FD false l d) l f acc t=.ok (acc++r.map Gf,l.length-rest.length)
 | [],acc,t,f,_,ht,h,hf,_=>by
  obtain ⟨f,rfl⟩:∃ g,f=g+1:=⟨f-1,by omega⟩
  obtain ⟨e1,e2⟩:=TO h
  obtain ⟨g1,g2,g3⟩:=K1 (show l.drop (AP false l t)=93::rest from e2)
  unfold HU
  rw [g1]
  have h3:=Bc List.length g3
  rw [B4] at h3
  simp only [if_true,DT,BK]
  rw [show AP false l t+1=l.length-rest.length by omega]
 | n::r,acc,t,f,hr,ht,h,hf,hl=>by
  obtain ⟨f,rfl⟩:∃ g,f=g+1:=⟨f-1,by simp at hf;omega⟩
  have hn:=hr n (by simp)
  have h':DV false (l.drop t)=DG n++(Em r++93::rest):=by rw [h];simp [Em]
  obtain ⟨e1,e2⟩:=TO h'
  have a:=Ff false l t
  obtain ⟨-,⟨c,q,ec,hc⟩,-⟩:=IN hn
  have hq:=LW hc
  have hh:=Uf hq.1
  obtain ⟨g1,g2,-⟩:=K1 (show l.drop (AP false l t)=c::(q++(Em r++93::rest)) by rw [e2,ec];rfl)
  have ho:=A04 (d:=d) a e2 hn (A3a r rest)
  obtain ⟨b,e,i⟩:=SK a e2
  have ih:=Re l d rest r (acc++[Gf n]) (l.length-(Em r++93::rest).length) f (λm hm=>hr m (by simp [hm])) e (by
   rw [b]
   cases r with
   | nil=>exact KV dD dD
   | cons m r =>
    show DV false (32::(DG m++Em r++93::rest))=_
    rw [II,AE]
    have:=QJ (hr m (by simp)) (Em r++93::rest)
    unfold Hd at this
    rw [this];simp [Em]) (by simp only [A8] at hf;omega) (by simp only [A5,A8,Ae] at hl ⊢;omega)
  unfold HU
  rw [g1]
  simp only
  rw [A1 hh.2.2.1,ho]
  simp only
  rw [A1 (by simp only [A8] at hl;omega),ih]
  simp
theorem Tu:∀ r:List Int,r.length<=(Em r).length
 | []=>FL _
 | n::r=>by have:=Tu r;simp only [Em,A8,A5];omega
theorem A14 {l:l8_} {a:Nat} {r:List Int} {rest:l8_} (h:RX l a (91::((Em r).drop 1++93::rest))) (hr:∀ n∈r,Ao n=true) (hl:r.length<=65535):Gn l (a:Int)=(.mk 6 0 [] [] (r.map Gf),[],((l.length-rest.length:Nat):Int),0):=by
 obtain ⟨g,d⟩:=h.skip
 refine TM h dD ?_
 obtain ⟨e,i,c⟩:=K1 d
 have:=NX false l (32:Int) (AP false l a) 91 e
 rw [A1 dD,A6 rfl,A1 dD] at this
 rw [show (32:Nat)=(32:Int).toNat from rfl,this]
 have b:=Bc List.length c
 have f:=Tu r
 simp only [B4,A5,A8] at b
 rw [Re l ((32:Int)-1).toNat rest r [] _ _ hr oO (by
  rw [c]
  cases r with
  | nil=>exact KV dD dD
  | cons n r =>
   rw [show (Em (n::r)).drop 1++93::rest=DG n++(Em r++93::rest) by simp [Em]]
   exact QJ (hr n (by simp)) _) oO (by simpa using hl)]
 rfl
end
section
section
variable {sum:Int->l8_->Int} {fs:List LE} {l:l8_}
def DZ (sum:Int->l8_->Int) (fs:List LE) (l:l8_) (v:Vw) (args:List PV) (x:l8_) (v':Vw) (args':List PV) (y:l8_):Prop :=
 ∀ (a f:Nat),RX l a x->x.length<f->∃ (a' f':Nat),RX l a' y/\y.length<f'/\JI sum fs l f (a:Int) v args=JI sum fs l f' (a':Int) v' args'
theorem DZ.refl (v:Vw) (args:List PV) (x:l8_):DZ sum fs l v args x v args x:=λa f h hf=>⟨a,f,h,hf,rfl⟩
theorem DZ.trans {v v1 v2:Vw} {a a1 a2:List PV} {x x1 x2:l8_} (h:DZ sum fs l v a x v1 a1 x1) (h2:DZ sum fs l v1 a1 x1 v2 a2 x2):DZ sum fs l v a x v2 a2 x2:=λp f hp hf=>by
 obtain ⟨p1,f1,h1,h3,h4⟩:=h p f hp hf
 obtain ⟨p2,f2,h5,h6,h7⟩:=h2 p1 f1 h1 h3
 exact ⟨p2,f2,h5,h6,h4.trans h7⟩
theorem P0 {v:Vw} {args:List PV} {r y:l8_} {o:PV} (ht:∀ a:Nat,RX l a (A++r)->Gn l (a:Int)=(o,[],((l.length-r.length:Nat):Int),0)) (hA:A≠[]) (hy:DV false r=y) (hn:args.length<32) :
  DZ sum fs l v args (A++r) v (args++[o]) y:=λa f hp hf=>by
 obtain ⟨f,rfl⟩:∃ g,f=g+1:=⟨f-1,by omega⟩
 have hq:=Wq (Ff false l a) hp.skip.2 hy
 have hl:=GI r false
 rw [hy] at hl
 have hA1:0<A.length:=List.length_pos_iff.2 hA
 rw [A5] at hf
 refine ⟨_,f,hq,by omega,?_⟩
 conv=>lhs;unfold JI
 rw [ht a hp]
 simp only
 rw [A1 dD,A1 dD,A6 BG]
 unfold H6
 rw [A6 (Aj oO)]
 rfl
def KO (A:l8_):Prop:=(∀ x∈A,DO x=true)/\A≠[]/\(Lz A).2.2=false/\A≠[110,117,108,108]/\A≠[116,114,117,101]/\A≠[102,97,108,115,101]
theorem KO.hd  (h:KO A) (r:l8_):Hd (A++r):=by
 cases hA:A with
 | nil=>exact CM hA h.2.1
 | cons c q =>
  have hc:=h.1 c (by rw [hA];simp)
  unfold DO at hc
  simp only [A3,AH] at hc
  exact .cons hc.1 (λe=>by rw [e] at hc;exact CM hc.2 dD)
theorem Rp {v v':Vw} {args:List PV} {r y:l8_} (hA:KO A) (hr:Uz r) (hy:DV false r=y) (ho:Ly sum fs v args A=.ok v'):DZ sum fs l v args (A++r) v' [] y:=λa f hp hf=>by
 obtain ⟨h1,h2,h3,h4,h5,h6⟩:=hA
 obtain ⟨f,rfl⟩:∃ g,f=g+1:=⟨f-1,by omega⟩
 have hq:=Wq (Ff false l a) hp.skip.2 hy
 have hl:=GI r false
 rw [hy] at hl
 have hA1:0<A.length:=List.length_pos_iff.2 h2
 rw [A5] at hf
 refine ⟨_,f,hq,by omega,?_⟩
 conv=>lhs;unfold JI
 rw [A5R hp h1 h2 hr h3 h4 h5 h6]
 simp only
 rw [A1 dD,A1 dD,A1 h2,ho]
 rfl
theorem A6v {v:Vw} {a f:Nat} (h:RX l a []) (hf:0<f) (hs:v.saved=[]) (hi:v.inText=false):JI sum fs l f (a:Int) v []=.ok v:=by
 obtain ⟨f,rfl⟩:∃ g,f=g+1:=⟨f-1,by omega⟩
 unfold JI
 rw [A3N h]
 simp only
 rw [A6 BG,hs,hi]
 rfl
def F5 (ns:List Int):l8_:=ns.flatMap λn=>DG n++[32]
theorem QZ (n:Int) (ns:List Int) (y:l8_):F5 (n::ns)++y=DG n++32::(F5 ns++y):=by simp [F5]
theorem QX (ns:List Int) (hf:∀ n∈ns,Ao n=true) {y:l8_} (hy:Hd y):Hd (F5 ns++y):=by
 cases ns with
 | nil=>exact hy
 | cons n ns=>rw [QZ];exact QJ (hf n (by simp)) _
theorem Uh {v:Vw}:∀ (ns:List Int) (args:List PV) {y:l8_},(∀ n∈ns,Ao n=true)->Hd y->args.length+ns.length<=32->DZ sum fs l v args (F5 ns++y) v (args++ns.map Gf) y
 | [],args,y,_,_,_=>by simpa [F5] using DZ.refl v args y
 | n::ns,args,y,hf,hy,hn=>by
  have hf':∀ m∈ns,Ao m=true:=λm hm=>hf m (by simp [hm])
  have hp:=IN (hf n (by simp))
  rw [QZ]
  rw [A8] at hn
  have h1:DZ sum fs l v args (DG n++32::(F5 ns++y)) v (args++[Gf n]) (F5 ns++y) :=
   P0 (λa h=>Zn h (hf n (by simp)) (Tz _)) (by obtain ⟨-,⟨c,q,e,-⟩,-⟩:=hp;rw [e];simp) (by rw [II];exact QX ns hf' hy) oO
  have h2:=Uh (v:=v) ns (args++[Gf n]) hf' hy oF
  rw [AE] at h2
  exact h1.trans h2
theorem NY (ns:List Int) (hf:∀ n∈ns,Ao n=true):Dg (ns.map Gf) ns.length=.ok ns:=by
 unfold Dg
 rw [A6 ⟨BD ..,Au.2 λo ho=>by
  obtain ⟨n,hn,rfl⟩:=IE.1 ho
  rw [NZ (hf n hn)]⟩,List.map_map]
 congr 1
 conv=>rhs;rw [<- List.map_id ns]
 refine List.map_congr_left λn hn=>?_
 show (Ep (Gf n)).1=n
 rw [NZ (hf n hn)]
def D3 (ns:List Int) (A:l8_):l8_:=F5 ns++(A++[10])
theorem O8 {v v':Vw} {y:l8_} (hf:∀ n∈ns,Ao n=true) (hn:ns.length<=32) (hA:KO A) (hy:Hd y) (ho:Ly sum fs v (ns.map Gf) A=.ok v'):DZ sum fs l v [] (D3 ns A++y) v' [] y:=by
 have a:=Uh (sum:=sum) (fs:=fs) (l:=l) (v:=v) ns [] (y:=A++10::y) hf (hA.hd _) (by simpa using hn)
 rw [show D3 ns A++y=F5 ns++(A++10::y) by simp [D3]]
 exact a.trans (Rp hA (TA _) (by rw [Ko];exact hy) ho)
theorem Rg  (hf:∀ n∈ns,Ao n=true) (hA:KO A) (y:l8_):Hd (D3 ns A++y):=by
 rw [show D3 ns A++y=F5 ns++(A++10::y) by simp [D3]]
 exact QX ns hf (hA.hd _)
end
def Ir (dx dy:Int) (p:BQ):BQ:=⟨p.fX+dx,p.fY+dy⟩
theorem ZZ (n:Int):Lo (n * 65536) 65536=n:=by
 unfold Lo
 rw [Int.mul_tmod_left,Int.mul_tdiv_cancel n dD]
 simp
theorem mul_one {n:Int} (h:Ao n=true):Fz n 65536=(n,0)/\Fz 65536 n=(n,0):=by
 have a:Ao 65536=true:=by decide
 unfold Fz
 rw [h,a,Int.mul_comm 65536 n,ZZ]
 unfold LI
 rw [h]
 exact ⟨rfl,rfl⟩
theorem mul_zero {n:Int} (h:Ao n=true):Fz n 0=(0,0)/\Fz 0 n=(0,0):=by
 have a:Ao 0=true:=by decide
 unfold Fz
 rw [h,a,Int.mul_zero,Int.zero_mul]
 decide
theorem add_zero {n:Int} (h:Ao n=true):Lf 0 n=(n,0)/\Lf n 0=(n,0):=by
 have a:Ao 0=true:=by decide
 unfold Lf
 rw [h,a,Int.zero_add,Int.add_zero]
 unfold LI
 rw [h]
 exact ⟨rfl,rfl⟩
theorem Wj {a b:Int} (ha:Ao a=true) (hb:Ao b=true):Lf a b=if Ao (a+b)=true then (a+b,0) else (0,18):=by
 unfold Lf
 rw [ha,hb];rfl
theorem Ie:Ao 0=true:=by decide
theorem A5g {x y dx:Int} (hx:Ao x=true) (hy:Ao y=true) (hd:Ao dx=true):Kd 0 65536 x 0 y [dx]=if Ao (x+dx)=true then (x+dx,0) else (0,18):=by
 unfold Kd
 rw [(mul_one hx).2,(mul_zero hy).2]
 simp only [Kn]
 rw [(add_zero hx).1]
 simp only
 rw [A6 BG,(add_zero hx).2]
 simp only
 rw [A6 BG,Wj hx hd]
 split <;> simp [EH,Kn]
theorem UI {x y dy e:Int} (hx:Ao x=true) (hy:Ao y=true) (hd:Ao dy=true):Kd e 0 x 65536 y [dy]=if Ao (y+dy)=true then (y+dy,e) else (0,EH e 18):=by
 unfold Kd
 rw [(mul_zero hx).2,(mul_one hy).2]
 simp only [Kn]
 rw [(add_zero Ie).1]
 simp only
 rw [A6 BG,(add_zero hy).1]
 simp only
 rw [A6 BG,Wj hy hd]
 split <;> simp [EH] <;> split <;> simp_all
theorem A6p {dx dy x y:Int} (hdx:Ao dx=true) (hdy:Ao dy=true) (hx:Ao x=true) (hy:Ao y=true):Nl (Jj dx dy) x y=if C5 (Ir dx dy ⟨x,y⟩)=true then .ok (Ir dx dy ⟨x,y⟩) else .error 22:=by
 unfold Nl FY Jj
 simp only
 rw [A5g hx hy hdx]
 unfold C5 Ir
 simp only
 by_cases h1:Ao (x+dx)=true
 ·
  rw [A6 h1]
  simp only
  rw [UI hx hy hdy,h1]
  by_cases h2:Ao (y+dy)=true
  · rw [A6 h2,h2];simp [Io]
  ·
   rw [A1 h2]
   have a:Ao (y+dy)=false:=by simpa using h2
   rw [a];simp [Io,EH]
 ·
  rw [A1 h1]
  have b:Ao (x+dx)=false:=by simpa using h1
  simp only
  rw [UI hx hy hdy,b]
  split <;> simp [Io,EH]
end
section
def Hj (ps:List BQ):List Int:=ps.flatMap λp=>[p.fX,p.fY]
theorem YD {dx dy:Int} (hdx:Ao dx=true) (hdy:Ao dy=true):∀ ps:List BQ,(∀ p∈ps,C5 p=true)->Dy (Jj dx dy) (Hj ps)=if (ps.all λp=>C5 (Ir dx dy p))=true then .ok (ps.map (Ir dx dy)) else .error 22
 | [],_=>rfl
 | p::ps,h=>by
  have hp:=h p (by simp)
  unfold C5 at hp
  rw [A3] at hp
  have ih:=YD hdx hdy ps λq hq=>h q (by simp [hq])
  show Dy (Jj dx dy) (p.fX::p.fY::Hj ps)=_
  unfold Dy
  rw [A6p hdx hdy hp.1 hp.2,ih]
  show _=if ((C5 (Ir dx dy p)) && ps.all λp=>C5 (Ir dx dy p))=true then _ else _
  generalize C5 (Ir dx dy p)=b1
  generalize (ps.all λp=>C5 (Ir dx dy p))=b2
  cases b1 <;> cases b2 <;> rfl
def FB (s:CK):List BQ:=if s.fKind=1\/s.fKind=2 then [s.fP_0] else if s.fKind=3 then [s.fP_0,s.fP_1,s.fP_2] else []
def I6 (s:CK):l8_:=if s.fKind=1 then [109] else if s.fKind=2 then [108] else if s.fKind=3 then [99] else [104]
def mvS (dx dy:Int) (s:CK):CK:=if s.fKind=1\/s.fKind=2 then { s with fP_0:=Ir dx dy s.fP_0 } else if s.fKind=3 then ⟨s.fKind,Ir dx dy s.fP_0,Ir dx dy s.fP_1,Ir dx dy s.fP_2⟩ else s
def okS (dx dy:Int) (s:CK):Bool:=(FB s).all λp=>C5 (Ir dx dy p)
theorem A2d (dx dy:Int) (s:CK):(mvS dx dy s).fKind=s.fKind:=by unfold mvS;split;rfl;split <;> rfl
theorem XE (l:List CK) (s:CK):Ib (l++[s])=s.fKind:=by simp [Ib]
theorem A8p:KO [109]:=⟨by decide,by decide,by decide +kernel,by decide,by decide,by decide⟩
theorem A8q:KO [108]:=⟨by decide,by decide,by decide +kernel,by decide,by decide,by decide⟩
theorem A8v:KO [99]:=⟨by decide,by decide,by decide +kernel,by decide,by decide,by decide⟩
theorem A8t:KO [104]:=⟨by decide,by decide,by decide +kernel,by decide,by decide,by decide⟩
theorem UV (s:CK):KO (I6 s):=by
 unfold I6
 split
 · exact A8p
 ·
  split
  · exact A8q
  ·
   split
   · exact A8v
   · exact A8t
theorem Qe {p:BQ} (h:JN p=true):p=Fv:=by
 unfold JN at h
 simp only [A3,Ab] at h
 cases p
 simp only at h
 unfold Fv
 rw [h.1,h.2]
structure Y5 (s:CK) (last:Int):Prop where
 kind:s.fKind=1\/s.fKind=2\/s.fKind=3\/s.fKind=4
 fol:if s.fKind=1 then last≠1 else last≠0/\last≠4
 f0:C5 s.fP_0=true
 f1:C5 s.fP_1=true
 f2:C5 s.fP_2=true
 z12:s.fKind≠3->s.fP_1=Fv/\s.fP_2=Fv
 z0:s.fKind=4->s.fP_0=Fv
theorem A1u {s:CK} (h:Ij s last=true):Y5 s last:=by
 unfold Ij at h
 simp only [A3,Ab] at h
 obtain ⟨⟨⟨c,b⟩,d⟩,a⟩:=h
 have hk:s.fKind=1\/s.fKind=2\/s.fKind=3\/s.fKind=4:=by
  unfold HL at c
  split at c
  · omega
  ·
   split at c
   · omega
   · split at c <;> omega
 simp only [Cw,List.all_nil,A3,Bool.and_true] at d
 refine ⟨hk,?_,d.1,d.2.1,d.2.2,λhn=>?_,λhn=>?_⟩
 ·
  unfold Sj at b
  split
  · rename_i h;rw [A6 h] at b;exact dT b
  · rename_i h;rw [A1 h,A3] at b;exact ⟨dT b.1,dT b.2⟩
 ·
  have:([s.fP_1,s.fP_2]:List BQ).all JN=true:=by
   rcases hk with hk | hk | hk | hk
   · rw [hk] at a;exact a
   · rw [hk] at a;exact a
   · exact CM hk hn
   ·
    rw [hk] at a
    have a:([s.fP_0,s.fP_1,s.fP_2]:List BQ).all JN=true:=a
    rw [Cw,A3] at a;exact a.2
  simp only [Cw,List.all_nil,A3,Bool.and_true] at this
  exact ⟨Qe this.1,Qe this.2⟩
 ·
  rw [hn] at a
  have a:([s.fP_0,s.fP_1,s.fP_2]:List BQ).all JN=true:=a
  rw [Cw,A3] at a
  exact Qe a.1
section
variable {sum:Int->l8_->Int} {fs:List LE} {l:l8_} {dx dy:Int}
theorem Iy  (a:α) (f:α->Except Int β):((Except.ok a:Except Int α)>>=f)=f a:=rfl
theorem NV {v:Vw} {args:List PV} (hi:v.inText=false) (hA:A=[109]\/A=[108]\/A=[99]\/A=[104]):Ly sum fs v args A=Gj v args A:=by
  unfold Ly
  rcases hA with rfl | rfl | rfl | rfl <;>
  · rw [A1 dD, A1 dD, A1 dD, A1 dD, hi]
    rw [show CH (!false)=Except.ok () from rfl]
    rw [Iy,A1 dD,A6 dD]
theorem P5 {ps:List BQ} (h:∀ p∈ps,C5 p=true):∀ n∈Hj ps,Ao n=true:=λn hn=>by
 obtain ⟨p,hp,hn⟩:=List.mem_flatMap.1 hn
 have:=h p hp
 unfold C5 at this
 rw [A3] at this
 simp only [Ar,AA,C8] at hn
 rcases hn with rfl | rfl
 · exact this.1
 · exact this.2
theorem A4w {ps:List BQ} (hdx:Ao dx=true) (hdy:Ao dy=true) (hf:∀ p∈ps,C5 p=true) (h:(ps.all λp=>C5 (Ir dx dy p))=true):Dy (Jj dx dy) (Hj ps)=.ok (ps.map (Ir dx dy)):=by
 rw [YD hdx hdy ps hf,A6 h]
theorem A5W {v:Vw} {s:CK} (hdx:Ao dx=true) (hdy:Ao dy=true) (hi:v.inText=false) (hm:v.s.ctm=Jj dx dy) (hs:Y5 s (Ib v.path.list)) (hl:v.path.list.length+1<=4096) (ho:okS dx dy s=true) :
    ∃ p,p.list=v.path.list++[mvS dx dy s]/\Ly sum fs v ((Hj (FB s)).map Gf) (I6 s)=.ok (Kp v p):=by
  have i:∀ p∈FB s,C5 p=true:=by
    unfold FB
    split
    · intro p hp;rw [Am.1 hp];exact hs.f0
    · split
      · intro p hp
        simp only [Ar,AA,C8] at hp
        rcases hp with rfl | rfl | rfl
        · exact hs.f0
        · exact hs.f1
        · exact hs.f2
      · intro p hp;cases hp
  have c:=NY (Hj (FB s)) (P5 i)
  have e:=A4w hdx hdy i ho
  obtain ⟨k,a,f,d⟩:=s
  obtain ⟨hk,b,-,-,-,hz,j⟩:=hs
  simp only at hk b hz j
  unfold okS at ho
  rcases hk with rfl | rfl | rfl | rfl
  · have g : C5 (Ir dx dy a) = true := by simpa [FB] using ho
    obtain ⟨rfl,rfl⟩:=hz dD
    rw [A6 rfl] at b
    refine ⟨⟨v.path.list++[Gp 1 (Ir dx dy a)],Ir dx dy a,Ir dx dy a⟩,rfl,?_⟩
    rw [show I6 ⟨1,a,Fv,Fv⟩=[109] from rfl,NV hi (.inl rfl)]
    unfold Gj
    rw [A6 rfl,hm]
    rw [show FB ⟨1,a,Fv,Fv⟩=[a] from rfl] at c e ⊢
    rw [show (2:Nat)=(Hj [a]).length from rfl,c]
    show (Dy _ _>>=_)=_
    rw [e]
    show (D6 (GC 4096 v.path (Ir dx dy a))>>=_)=_
    have hp:GC 4096 v.path (Ir dx dy a)=(⟨v.path.list++[Gp 1 (Ir dx dy a)],Ir dx dy a,Ir dx dy a⟩,0):=by
      unfold GC
      have hq:G4 4096 v.path (Ir dx dy a) [Gp 1 (Ir dx dy a)]=(⟨v.path.list++[Gp 1 (Ir dx dy a)],v.path.start,Ir dx dy a⟩,0):=by
        unfold G4
        rw [A1 oE]
      rw [g,A1 dD,A1 b,hq]
      rfl
    rw [hp];rfl
  · have g : C5 (Ir dx dy a) = true := by simpa [FB] using ho
    obtain ⟨rfl,rfl⟩:=hz dD
    rw [A1 dD] at b
    refine ⟨⟨v.path.list++[Gp 2 (Ir dx dy a)],v.path.start,Ir dx dy a⟩,rfl,?_⟩
    rw [show I6 ⟨2,a,Fv,Fv⟩=[108] from rfl,NV hi (.inr (.inl rfl))]
    unfold Gj
    rw [A1 dD,A6 rfl,hm]
    rw [show FB ⟨2,a,Fv,Fv⟩=[a] from rfl] at c e ⊢
    rw [show (2:Nat)=(Hj [a]).length from rfl,c]
    show (Dy _ _>>=_)=_
    rw [e]
    show (D6 (Fa 4096 v.path (Ir dx dy a))>>=_)=_
    have hp:Fa 4096 v.path (Ir dx dy a)=(⟨v.path.list++[Gp 2 (Ir dx dy a)],v.path.start,Ir dx dy a⟩,0):=by
      unfold Fa Fw
      rw [g,A1 dD,A1 b.1,A1 b.2]
      unfold G4
      rw [A1 oE]
    rw [hp];rfl
  · have ho : C5 (Ir dx dy a) = true ∧ C5 (Ir dx dy f) = true ∧ C5 (Ir dx dy d) = true := by simpa [FB] using ho
    rw [A1 dD] at b
    refine ⟨⟨v.path.list++[⟨3,Ir dx dy a,Ir dx dy f,Ir dx dy d⟩],v.path.start,Ir dx dy d⟩,rfl,?_⟩
    rw [show I6 ⟨3,a,f,d⟩=[99] from rfl,NV hi (.inr (.inr (.inl rfl)))]
    unfold Gj
    rw [A1 dD,A1 dD,A6 rfl,hm]
    rw [show FB ⟨3,a,f,d⟩=[a,f,d] from rfl] at c e ⊢
    rw [show (6:Nat)=(Hj [a,f,d]).length from rfl,c]
    show (Dy _ _>>=_)=_
    rw [e]
    show (D6 (HR 4096 v.path (Ir dx dy a) (Ir dx dy f) (Ir dx dy d))>>=_)=_
    have hp:HR 4096 v.path (Ir dx dy a) (Ir dx dy f) (Ir dx dy d)=(⟨v.path.list++[⟨3,Ir dx dy a,Ir dx dy f,Ir dx dy d⟩],v.path.start,Ir dx dy d⟩,0):=by
      unfold HR Fw
      rw [ho.1,ho.2.1,ho.2.2,A1 dD,A1 b.1,A1 b.2]
      unfold G4
      rw [A1 oE]
    rw [hp];rfl
  · obtain ⟨rfl, rfl⟩ := hz dD
    obtain rfl:=j rfl
    rw [A1 dD] at b
    refine ⟨⟨v.path.list++[Gp 4 Fv],v.path.start,v.path.start⟩,rfl,?_⟩
    rw [show I6 ⟨4,Fv,Fv,Fv⟩=[104] from rfl,NV hi (.inr (.inr (.inr rfl)))]
    unfold Gj
    rw [A1 dD,A1 dD,A1 dD,A1 dD,A1 dD,A6 rfl]
    rw [show FB ⟨4,Fv,Fv,Fv⟩=[] from rfl] at c ⊢
    rw [show (0:Nat)=(Hj []).length from rfl,c]
    show Ns v=_
    unfold Ns
    have hp:Ge 4096 v.path=(⟨v.path.list++[Gp 4 Fv],v.path.start,v.path.start⟩,0):=by
      unfold Ge
      rw [A1 oO]
      unfold G4
      rw [A1 oE]
    rw [hp];rfl
def N4 (s:CK):l8_:=D3 (Hj (FB s)) (I6 s)
def EB (l:List CK):l8_:=l.flatMap N4
theorem Jx {s:CK} (hs:Y5 s last):(∀ n∈Hj (FB s),Ao n=true)/\(Hj (FB s)).length<=32:=by
  unfold FB
  split
  · exact ⟨P5 (λp hp=>by rw [Am.1 hp];exact hs.f0),by simp [Hj]⟩
  · split
    · refine ⟨P5 (fun p hp => ?_), by simp [Hj]⟩
      simp only [Ar,AA,C8] at hp
      rcases hp with rfl | rfl | rfl
      · exact hs.f0
      · exact hs.f1
      · exact hs.f2
    · exact ⟨λn hn=>(by cases hn),by simp [Hj]⟩
theorem Vq (ls:List CK) (h:E4 last ls=true) {y:l8_} (hy:Hd y):Hd (EB ls++y):=by
 cases ls with
 | nil=>exact hy
 | cons s ls =>
  unfold E4 at h
  rw [A3] at h
  rw [show EB (s::ls)++y=D3 (Hj (FB s)) (I6 s)++(EB ls++y) by simp [EB,N4]]
  exact Rg (Jx (A1u h.1)).1 (UV s) _
theorem Ug (hdx:Ao dx=true) (hdy:Ao dy=true):∀ (ls:List CK) (v:Vw) {y:l8_},v.inText=false->v.s.ctm=Jj dx dy->E4 (Ib v.path.list) ls=true->v.path.list.length+ls.length<=4096->Hd y->(ls.all (okS dx dy))=true ->
  ∃ p,p.list=v.path.list++ls.map (mvS dx dy)/\DZ sum fs l v [] (EB ls++y) (Kp v p) [] y
 | [],v,y,_,_,_,_,_,_=>⟨v.path,by simp,by simpa [EB,Kp] using DZ.refl v [] y⟩
 | s::ls,v,y,hi,hm,hs,hl,hy,ho=>by
  unfold E4 at hs
  rw [A3] at hs
  rw [Cw,A3] at ho
  rw [A8] at hl
  have hk:=A1u hs.1
  obtain ⟨p,hp,h1⟩:=A5W (sum:=sum) (fs:=fs) hdx hdy hi hm hk oO ho.1
  obtain ⟨q,hq,h2⟩:=Ug hdx hdy ls (Kp v p) (y:=y) hi hm (by
   show E4 (Ib p.list) ls=true
   rw [hp,XE,A2d];exact hs.2) (by
   show p.list.length+ls.length<=4096
   rw [hp,A5];simp only [A8,Ae];omega) hy ho.2
  refine ⟨q,by rw [hq];show p.list++_=_;rw [hp];simp,?_⟩
  rw [show EB (s::ls)++y=D3 (Hj (FB s)) (I6 s)++(EB ls++y) by simp [EB,N4]]
  exact (O8 (Jx hk).1 (Jx hk).2 (UV s) (Vq ls hs.2 hy) h1).trans h2
end
end
section
def LD (t:l8_):Prop:=∀ y,Hd y->Hd (t++y)
theorem LD.nil:LD []:=λ_ h=>h
theorem LD.app {a b:l8_} (ha:LD a) (hb:LD b):LD (a++b):=λy h=>by rw [AE];exact ha _ (hb y h)
theorem LD.ite {c:Prop} [Decidable c] {a b:l8_} (ha:c->LD a) (hb:¬ c->LD b):LD (if c then a else b):=by
 split
 · exact ha ‹_›
 · exact hb ‹_›
theorem LD.line  (hf:∀ n∈ns,Ao n=true) (hA:KO A):LD (D3 ns A):=λy _=>Rg hf hA y
theorem LD.op  (hA:KO A) (b:l8_):LD (A++b):=λy _=>by rw [AE];exact hA.hd _
theorem LD.path {ls:List CK} (h:E4 last ls=true):LD (EB ls):=λy hy=>Vq ls h hy
theorem Hd.nil:Hd []:=rfl
theorem A7k:KO [119]:=⟨by decide,by decide,by decide +kernel,by decide,by decide,by decide⟩
theorem A8y:KO [74]:=⟨by decide,by decide,by decide +kernel,by decide,by decide,by decide⟩
theorem A8s:KO [106]:=⟨by decide,by decide,by decide +kernel,by decide,by decide,by decide⟩
theorem A6e:KO [77]:=⟨by decide,by decide,by decide +kernel,by decide,by decide,by decide⟩
theorem A6c:KO [100]:=⟨by decide,by decide,by decide +kernel,by decide,by decide,by decide⟩
theorem A8u:KO [103]:=⟨by decide,by decide,by decide +kernel,by decide,by decide,by decide⟩
theorem A7l:KO [114,103]:=⟨by decide,by decide,by decide +kernel,by decide,by decide,by decide⟩
theorem A8r:KO [107]:=⟨by decide,by decide,by decide +kernel,by decide,by decide,by decide⟩
theorem A8z:KO [71]:=⟨by decide,by decide,by decide +kernel,by decide,by decide,by decide⟩
theorem A7w:KO [82,71]:=⟨by decide,by decide,by decide +kernel,by decide,by decide,by decide⟩
theorem A8x:KO [75]:=⟨by decide,by decide,by decide +kernel,by decide,by decide,by decide⟩
theorem A6b:KO [113]:=⟨by decide,by decide,by decide +kernel,by decide,by decide,by decide⟩
theorem A6d:KO [81]:=⟨by decide,by decide,by decide +kernel,by decide,by decide,by decide⟩
theorem A8w:KO [87]:=⟨by decide,by decide,by decide +kernel,by decide,by decide,by decide⟩
theorem A7u:KO [87,42]:=⟨by decide,by decide,by decide +kernel,by decide,by decide,by decide⟩
theorem A7s:KO [110]:=⟨by decide,by decide,by decide +kernel,by decide,by decide,by decide⟩
theorem A7t:KO [102]:=⟨by decide,by decide,by decide +kernel,by decide,by decide,by decide⟩
theorem A5n:KO [102,42]:=⟨by decide,by decide,by decide +kernel,by decide,by decide,by decide⟩
theorem A7v:KO [83]:=⟨by decide,by decide,by decide +kernel,by decide,by decide,by decide⟩
theorem A7x:KO [66,84]:=⟨by decide,by decide,by decide +kernel,by decide,by decide,by decide⟩
theorem A5r:KO [69,84]:=⟨by decide,by decide,by decide +kernel,by decide,by decide,by decide⟩
theorem A5q:KO [84,102]:=⟨by decide,by decide,by decide +kernel,by decide,by decide,by decide⟩
theorem A5o:KO [84,109]:=⟨by decide,by decide,by decide +kernel,by decide,by decide,by decide⟩
theorem A5p:KO [84,106]:=⟨by decide,by decide,by decide +kernel,by decide,by decide,by decide⟩
section
variable {sum:Int->l8_->Int} {fs:List LE} {l:l8_}
theorem K2 {v v':Vw} {y:l8_} (hA:KO A) (hy:Hd y) (ho:Ly sum fs v [] A=.ok v'):DZ sum fs l v [] (A++10::y) v' [] y:=Rp hA (TA _) (by rw [Ko];exact hy) ho
theorem A0n {v v':Vw} {y:l8_} (hA:KO A) (hy:Hd y) (ho:Ly sum fs v [] A=.ok v'):DZ sum fs l v [] (A++32::y) v' [] y:=Rp hA (Tz _) (by rw [II];exact hy) ho
def setPen (v:Vw) (p:Dz):Vw:={ v with s:={ v.s with pen:=p } }
theorem UT (v:Vw):setPen v v.s.pen=v:=rfl
theorem LU {v:Vw} {args:List PV} (hA:A∈GB):Ly sum fs v args A=HD v args A:=by unfold Ly;rw [A6 hA]
theorem Vz {n:Int} (h:Ao n=true):Dg [Gf n] 1=.ok [n]:=NY [n] (λm hm=>by rw [Am.1 hm];exact h)
theorem A7m {v:Vw} {n:Int} (h:Ao n=true) (h0:0<=n):Ly sum fs v [Gf n] [119]=.ok (setPen v { v.s.pen with fWidth:=n }):=by
 rw [LU dD]
 unfold HD
 rw [A6 rfl,Vz h,Iy]
 show (CH (decide (n ≥ 0))>>=_)=_
 unfold CH
 rw [A6 (Aj h0)]
 rfl
theorem A7p {v:Vw} {n:Int} (h:Ao n=true) (h0:65536<=n):Ly sum fs v [Gf n] [77]=.ok (setPen v { v.s.pen with fMiter:=n }):=by
 rw [LU dD]
 unfold HD
 rw [A1 dD,A1 dD,A1 dD,A6 rfl,Vz h,Iy]
 show (CH (decide (n ≥ 65536))>>=_)=_
 unfold CH
 rw [A6 (Aj h0)]
 rfl
theorem SC {n:Int} (h:0<=n/\n<=2):J0 [JJ 2 n []]=.ok n:=by
 unfold J0
 exact A6 ⟨rfl,h.1,h.2⟩
theorem A7q {v:Vw} {n:Int} (h:0<=n/\n<=2):Ly sum fs v [JJ 2 n []] [74]=.ok (setPen v { v.s.pen with fCap:=n }):=by
 rw [LU dD]
 unfold HD
 rw [A1 dD,A6 rfl,SC h,Iy]
 rfl
theorem A7n {v:Vw} {n:Int} (h:0<=n/\n<=2):Ly sum fs v [JJ 2 n []] [106]=.ok (setPen v { v.s.pen with fJoin:=n }):=by
 rw [LU dD]
 unfold HD
 rw [A1 dD,A1 dD,A6 rfl,SC h,Iy]
 rfl
theorem Vj:∀ (ns:List Int),(∀ n∈ns,Ao n=true/\0<=n)->PK (ns.map Gf)=.ok ns
 | [],_=>rfl
 | n::ns,h=>by
  have hn:=h n (by simp)
  have ih:=Vj ns λm hm=>h m (by simp [hm])
  rw [Co]
  unfold PK
  rw [NZ hn.1]
  unfold CH
  rw [A6 (by simp only [Cx];exact Aj hn.2),Iy,ih];rfl
theorem A7o {v:Vw} {ph:Int} (h:∀ n∈ns,Ao n=true/\0<=n) (h1:Ao ph=true) (h2:0<=ph) (h3:ns.length<=11) (h4:ns.length=0\/0<FM ns) :
  Ly sum fs v [.mk 6 0 [] [] (ns.map Gf),Gf ph] [100]=.ok (setPen v { v.s.pen with pfDash:=none,fDash:=ns,cfDash:=0,fPhase:=ph }):=by
 rw [LU dD]
 unfold HD
 rw [A1 dD,A1 dD,A1 dD,A1 dD]
 unfold Oe
 simp only
 rw [NZ h1,show N9 (PV.mk 6 0 [] [] (ns.map Gf))=6 from rfl,show N8 (PV.mk 6 0 [] [] (ns.map Gf))=ns.map Gf from rfl,Vj ns h]
 unfold CH
 rw [A6 (Aj rfl),Iy,A6 (by simp only [Cx];exact Aj h2),Iy,Iy,A6 (by
  rw [A3,Bo,Ab,Ab,Ab]
  exact ⟨h3,h4⟩),Iy]
 rfl
def D7 (old p:Int) (f:Int->l8_):l8_:=if p≠old then f p else []
def Ef (p:Dz):l8_:=91::((Em p.fDash).drop 1++93::32::D3 [p.fPhase] [100])
def De (n:Int) (A:l8_):l8_:=E5 n++32::(A++[10])
def ML (old p:Dz):l8_ :=
 D7 old.fWidth p.fWidth (λn=>D3 [n] [119])++D7 old.fCap p.fCap (λn=>De n [74])++D7 old.fJoin p.fJoin (λn=>De n [106])++D7 old.fMiter p.fMiter (λn=>D3 [n] [77]) ++
  (if p.fPhase≠old.fPhase\/p.fDash≠old.fDash then Ef p else [])
theorem Lc {n:Int} (h:Ao n=true) (A:l8_):LD (De n A):=λy _=>by
 unfold De
 rw [AE]
 exact A6I h _
theorem Pz (p:Dz):LD (Ef p):=λy _=>Hd.cons dD dD
theorem A2A {v v':Vw} {n:Int} {y:l8_} (h:Ao n=true) (hA:KO A) (hy:Hd y) (ho:Ly sum fs v [JJ 2 n []] A=.ok v'):DZ sum fs l v [] (De n A++y) v' [] y:=by
 obtain ⟨c,r,e,-⟩:=Od n h
 have b:DZ sum fs l v [] (E5 n++32::(A++10::y)) v ([]++[JJ 2 n []]) (A++10::y) :=
  P0 (λa hp=>Yi hp h (Tz _)) (by rw [e];simp) (by rw [II];exact hA.hd _) (by simp)
 rw [show De n A++y=E5 n++32::(A++10::y) by simp [De]]
 exact b.trans (Rp hA (TA _) (by rw [Ko];exact hy) ho)
theorem A4I {v:Vw} {p:Dz} {y:l8_} (hy:Hd y) (h:∀ n∈p.fDash,Ao n=true/\0<=n) (h1:Ao p.fPhase=true) (h2:0<=p.fPhase) (h3:p.fDash.length<=11) (h4:p.fDash.length=0\/0<FM p.fDash) :
  DZ sum fs l v [] (Ef p++y) (setPen v { v.s.pen with pfDash:=none,fDash:=p.fDash,cfDash:=0,fPhase:=p.fPhase }) [] y:=by
 have hn:Hd (F5 [p.fPhase]++([100]++10::y)):=QX _ (λm hm=>by rw [Am.1 hm];exact h1) (A6c.hd _)
 have b:DZ sum fs l v [] ((91::((Em p.fDash).drop 1++[93]))++32::(F5 [p.fPhase]++([100]++10::y))) v ([]++[.mk 6 0 [] [] (p.fDash.map Gf)]) (F5 [p.fPhase]++([100]++10::y)) :=
  P0 (λa hp=>A14 (by simpa using hp) (λn hn=>(h n hn).1) oO) (by simp) (by rw [II];exact hn) (by simp)
 have c:=Uh (sum:=sum) (fs:=fs) (l:=l) (v:=v) [p.fPhase] [.mk 6 0 [] [] (p.fDash.map Gf)] (y:=[100]++10::y) (λm hm=>by rw [Am.1 hm];exact h1) (A6c.hd _) (by simp)
 rw [show Ef p++y=(91::((Em p.fDash).drop 1++[93]))++32::(F5 [p.fPhase]++([100]++10::y)) by simp [Ef,D3]]
 exact (b.trans c).trans (Rp A6c (TA _) (by rw [Ko];exact hy) (A7o h h1 h2 h3 h4))
structure LC (p:Dz):Prop where
 w:Ao p.fWidth=true/\0<=p.fWidth
 c:0<=p.fCap/\p.fCap<=2
 j:0<=p.fJoin/\p.fJoin<=2
 m:Ao p.fMiter=true/\65536<=p.fMiter
 ph:Ao p.fPhase=true/\0<=p.fPhase
 d:∀ n∈p.fDash,Ao n=true/\0<=n
 dl:p.fDash.length<=11
 ds:p.fDash.length=0\/0<FM p.fDash
theorem A1j (ns:List Int) (a:Int):ns.foldl (· + ·) a=a+ns.foldl (· + ·) 0:=by
 induction ns generalizing a with
 | nil=>simp
 | cons n ns ih=>rw [DD,DD,ih,ih (0+n)];omega
theorem SJ (n:Int) (ns:List Int):FM (n::ns)=n+FM ns:=by
 unfold FM
 rw [DD,A1j];omega
theorem A1i:∀ ns:List Int,(∀ n∈ns,0<=n)->0<=FM ns
 | [],_=>Int.le_refl _
 | n::ns,h=>by
  have:=A1i ns λm hm=>h m (by simp [hm])
  have:=h n (by simp)
  rw [SJ];omega
theorem Yk:∀ ns:List Int,(∀ n∈ns,0<=n)->(ns.any λn=>decide (0<n))=true->0<FM ns
 | [],_,h=>by cases h
 | n::ns,h,ha=>by
  have h0:=A1i ns λm hm=>h m (by simp [hm])
  have h1:=h n (by simp)
  rw [List.any_cons,Bo] at ha
  rw [SJ]
  rcases ha with ha | ha
  · have:=dT ha;omega
  · have:=Yk ns (λm hm=>h m (by simp [hm])) ha;omega
theorem A8n {p:Dz} (h:Kw p=true):LC p:=by
 unfold Kw Kv at h
 simp only [A3,AH,E1,Aq,BI,Bo] at h
 obtain ⟨⟨⟨⟨⟨⟨⟨⟨⟨⟨⟨⟨g,d⟩,i⟩,j⟩,k⟩,l⟩,m⟩,e⟩,o⟩,b⟩,f⟩,c⟩,a⟩:=h
 have hd:∀ n∈p.fDash,Ao n=true/\0<=n:=λn hn=>by
  have:=Au.1 c n hn
  unfold Id at this
  rw [A3,Ab] at this
  exact ⟨this.2,this.1⟩
 refine ⟨⟨d,by omega⟩,⟨by omega,by omega⟩,⟨by omega,by omega⟩,⟨e,by omega⟩,⟨b,by omega⟩,hd,by omega,?_⟩
 rcases a with a | a
 · exact .inl (by rw [List.isEmpty_iff.1 a];rfl)
 · exact .inr (Yk _ (λn hn=>(hd n hn).2) a)
theorem Is {n:Int} (h:0<=n/\n<=2):Ao n=true:=by simp [Ao];omega
theorem Yu {old p:Dz} (h:LC p):LD (ML old p):=by
 have d:∀ {a b:Int} {f:Int->l8_},LD (f b)->LD (D7 a b f):=λhf=>by
  unfold D7
  exact .ite (λ_=>hf) (λ_=>.nil)
 unfold ML
 exact (((((d (.line (λm hm=>by rw [Am.1 hm];exact h.w.1) A7k)).app (d (Lc (Is h.c) _))).app (d (Lc (Is h.j) _))).app (d (.line (λm hm=>by rw [Am.1 hm];exact h.m.1) A6e))).app (.ite (λ_=>Pz p) (λ_=>.nil)))
theorem A6t {v:Vw} {old p:Dz} {y:l8_} (h:LC p) (hv:Fy v.s.pen=Fy old) (hy:Hd y):∃ q,Fy q=Fy p/\DZ sum fs l v [] (ML old p++y) (setPen v q) [] y:=by
  obtain ⟨E,D,C,x,A,t,B,d,F⟩:∃ E D C x A t B d,v.s.pen=⟨E,D,C,x,A,t,B,d⟩:=⟨_,_,_,_,_,_,_,_,rfl⟩
  obtain ⟨V,c1,X,Y,R,Z,T,U⟩:=old
  obtain ⟨g,i,j,e,u,o,w,c⟩:=p
  rw [F] at hv
  simp only [Fy,Dz.mk.injEq] at hv
  obtain ⟨rfl,rfl,rfl,rfl,-,rfl,-,rfl⟩:=hv
  have hs:∀ {n:Int} {m:Int},m∈[n]->Ao n=true->Ao m=true:=λhm hn=>by rw [Am.1 hm];exact hn
  have k:=h
  obtain ⟨kw,kc,kj,km,kph,kd,kdl,kds⟩:=h
  simp only at kw kc kj km kph kd kdl kds
  have G:∀ {a b:Int} {f:Int->l8_},LD (f b)->LD (D7 a b f):=λhf=>by
    unfold D7
    exact .ite (λ_=>hf) (λ_=>.nil)
  have J:LD (if c≠d\/o≠t then Ef ⟨g,i,j,e,u,o,w,c⟩ else []):=.ite (λ_=>Pz _) (λ_=>.nil)
  have K:=(G (a:=x) (b:=e) (f:=λn=>D3 [n] [77]) (.line (λm hm=>hs hm km.1) A6e)).app J
  have L:=(G (a:=C) (b:=j) (f:=λn=>De n [106]) (Lc (Is kj) _)).app K
  have M:=(G (a:=D) (b:=i) (f:=λn=>De n [74]) (Lc (Is kc) _)).app L
  have N:DZ sum fs l v [] (D7 E g (λn=>D3 [n] [119])++(((D7 D i (λn=>De n [74]))++((D7 C j (λn=>De n [106]))++((D7 x e (λn=>D3 [n] [77]))++(if c≠d\/o≠t then Ef ⟨g,i,j,e,u,o,w,c⟩ else []))))++y)) (setPen v ⟨g,D,C,x,A,t,B,d⟩) [] (((D7 D i (λn=>De n [74]))++((D7 C j (λn=>De n [106]))++((D7 x e (λn=>D3 [n] [77]))++(if c≠d\/o≠t then Ef ⟨g,i,j,e,u,o,w,c⟩ else []))))++y):=by
    unfold D7
    by_cases hw:g≠E
    · rw [A6 hw]
      have:=O8 (sum:=sum) (fs:=fs) (l:=l) (v:=v) (ns:=[g]) (λm hm=>hs hm kw.1) (by simp) A7k (M y hy) (A7m kw.1 kw.2)
      rw [F] at this
      exact this
    · obtain rfl : g = E := by omega
      rw [A1 hw,CF,<- F,UT]
      exact DZ.refl _ _ _
  have O:DZ sum fs l (setPen v ⟨g,D,C,x,A,t,B,d⟩) [] (D7 D i (λn=>De n [74])++(((D7 C j (λn=>De n [106]))++((D7 x e (λn=>D3 [n] [77]))++(if c≠d\/o≠t then Ef ⟨g,i,j,e,u,o,w,c⟩ else [])))++y)) (setPen v ⟨g,i,C,x,A,t,B,d⟩) [] (((D7 C j (λn=>De n [106]))++((D7 x e (λn=>D3 [n] [77]))++(if c≠d\/o≠t then Ef ⟨g,i,j,e,u,o,w,c⟩ else [])))++y):=by
    unfold D7
    by_cases hw:i≠D
    · rw [A6 hw]
      exact A2A (Is kc) A8y (L y hy) (A7q kc)
    · obtain rfl : i = D := by omega
      rw [A1 hw,CF]
      exact DZ.refl _ _ _
  have P:DZ sum fs l (setPen v ⟨g,i,C,x,A,t,B,d⟩) [] (D7 C j (λn=>De n [106])++(((D7 x e (λn=>D3 [n] [77]))++(if c≠d\/o≠t then Ef ⟨g,i,j,e,u,o,w,c⟩ else []))++y)) (setPen v ⟨g,i,j,x,A,t,B,d⟩) [] (((D7 x e (λn=>D3 [n] [77]))++(if c≠d\/o≠t then Ef ⟨g,i,j,e,u,o,w,c⟩ else []))++y):=by
    unfold D7
    by_cases hw:j≠C
    · rw [A6 hw]
      exact A2A (Is kj) A8s (K y hy) (A7n kj)
    · obtain rfl : j = C := by omega
      rw [A1 hw,CF]
      exact DZ.refl _ _ _
  have Q:DZ sum fs l (setPen v ⟨g,i,j,x,A,t,B,d⟩) [] (D7 x e (λn=>D3 [n] [77])++((if c≠d\/o≠t then Ef ⟨g,i,j,e,u,o,w,c⟩ else [])++y)) (setPen v ⟨g,i,j,e,A,t,B,d⟩) [] ((if c≠d\/o≠t then Ef ⟨g,i,j,e,u,o,w,c⟩ else [])++y):=by
    unfold D7
    by_cases hw:e≠x
    · rw [A6 hw]
      exact O8 (ns:=[e]) (λm hm=>hs hm km.1) (by simp) A6e (J y hy) (A7p km.1 km.2)
    · obtain rfl : e = x := by omega
      rw [A1 hw,CF]
      exact DZ.refl _ _ _
  have H:∃ q,Fy q=Fy ⟨g,i,j,e,u,o,w,c⟩/\DZ sum fs l (setPen v ⟨g,i,j,e,A,t,B,d⟩) [] ((if c≠d\/o≠t then Ef ⟨g,i,j,e,u,o,w,c⟩ else [])++y) (setPen v q) [] y:=by
    by_cases hw:c≠d\/o≠t
    · rw [A6 hw]
      exact ⟨⟨g,i,j,e,none,o,0,c⟩,rfl,A4I (p:=⟨g,i,j,e,u,o,w,c⟩) hy kd kph.1 kph.2 kdl kds⟩
    · rw [A1 hw, CF]
      obtain ⟨rfl,rfl⟩:c=d/\o=t:=by
        rw [not_or] at hw
        exact ⟨Classical.not_not.1 hw.1,Classical.not_not.1 hw.2⟩
      exact ⟨⟨g,i,j,e,A,o,B,c⟩,rfl,DZ.refl _ _ _⟩
  obtain ⟨q,hq,H⟩:=H
  refine ⟨q,hq,?_⟩
  have:=(((N.trans (by rw [AE];exact O)).trans (by rw [AE];exact P)).trans (by rw [AE];exact Q)).trans H
  unfold ML
  simp only [AE] at this ⊢
  exact this
end
end
section
instance A7R:DecidableEq C6:=λa b=>decidable_of_iff (a.fSpace=b.fSpace/\a.fPart_0=b.fPart_0/\a.fPart_1=b.fPart_1/\a.fPart_2=b.fPart_2/\a.fPart_3=b.fPart_3) (by cases a;cases b;simp)
def Ys (a b:BQ):Bool:=decide (a.fX=b.fX) && decide (a.fY=b.fY)
def ZC (a b:CK):Bool:=decide (a.fKind=b.fKind) && (Ys a.fP_0 b.fP_0 && Ys a.fP_1 b.fP_1 && Ys a.fP_2 b.fP_2)
def Kk {α:Type} (f:α->α->Bool):List α->List α->Bool
 | [],[]=>true
 | a::r,b::s=>f a b && Kk f r s
 | _,_=>false
def clB (a b:Bv):Bool:=decide (a.fEvenOdd=b.fEvenOdd) && Kk ZC a.fPath b.fPath
def A30 (a b:List Bv):Bool:=Kk clB a b
theorem Xm {a b:BQ}:Ys a b=true↔a=b:=by
 unfold Ys
 rw [A3,Ab,Ab]
 cases a;cases b;simp
theorem A1r {a b:CK}:ZC a b=true↔a=b:=by
 unfold ZC
 rw [A3,A3,A3,Ab,Xm,Xm,Xm]
 cases a;cases b;simp [and_assoc]
theorem Qc {α β:Type} {f:α->α->Bool} {g:α->β} (h:∀ a b,f a b=true↔g a=g b):∀ a b:List α,Kk f a b=true↔a.map g=b.map g
 | [],[]=>by simp [Kk]
 | [],b::s=>by simp [Kk]
 | a::r,[]=>by simp [Kk]
 | a::r,b::s=>by
  unfold Kk
  rw [A3,h,Qc h r s]
  simp
theorem A6M {a b:Bv}:clB a b=true↔Fn a=Fn b:=by
 unfold clB Fn
 rw [A3,Ab,Qc (f:=ZC) (g:=id) (λa b=>A1r)]
 cases a;cases b;simp [and_comm]
theorem YZ {a b:List Bv}:A30 a b=true↔a.map Fn=b.map Fn:=Qc (f:=clB) (g:=Fn) (λ_ _=>A6M) a b
def J6 (c:C6):List Int:=(Cl c).take c.fSpace.toNat
def KK (big:Bool) (n:Int):l8_:=if n=1 then (if big then [71] else [103]) else if n=3 then (if big then [82,71] else [114,103]) else (if big then [75] else [107])
def Oh (big:Bool) (c:C6):l8_:=D3 (J6 c) (KK big c.fSpace)
def A1t (big:Bool) (v:Vw) (c:C6):Vw:=if big then { v with s:={ v.s with stroke:=c } } else { v with s:={ v.s with fill:=c } }
theorem Wb (big:Bool) (n:Int):KO (KK big n):=by
 unfold KK
 cases big
 ·
  split
  · exact A8u
  ·
   split
   · exact A7l
   · exact A8r
 ·
  split
  · exact A8z
  ·
   split
   · exact A7w
   · exact A8x
structure Sw (c:C6):Prop where
 sp:(c.fSpace=1/\c.fPart_1=0/\c.fPart_2=0/\c.fPart_3=0)\/(c.fSpace=3/\c.fPart_3=0)\/c.fSpace=4
 p0:0<=c.fPart_0/\c.fPart_0<=65536
 p1:0<=c.fPart_1/\c.fPart_1<=65536
 p2:0<=c.fPart_2/\c.fPart_2<=65536
 p3:0<=c.fPart_3/\c.fPart_3<=65536
theorem A8K {c:C6} (h:Fc c=true):Sw c:=by
 unfold Fc J1 J9 Cl at h
 simp only [A3,Bo,Ab,AX,Hq,AH,A8T,Aq,BI] at h
 obtain ⟨hs,⟨⟨⟨e,j⟩,f,a⟩,g,b⟩,i,d⟩:=h
 have a:(1:Int)<c.fSpace\/c.fPart_1=0:=a
 have b:(2:Int)<c.fSpace\/c.fPart_2=0:=b
 have d:(3:Int)<c.fSpace\/c.fPart_3=0:=d
 refine ⟨?_,e,f,g,i⟩
 omega
theorem NQ {x:Int} (h:0<=x/\x<=65536):Do x=x:=by unfold Do;omega
theorem A4O {x:Int} (h:0<=x/\x<=65536):Ao x=true:=by simp [Ao];omega
theorem Iq {c:C6} (h:Sw c):(∀ n∈J6 c,Ao n=true)/\(J6 c).length<=32:=by
 refine ⟨λn hn=>?_,by unfold J6 Cl;rw [AT];simp only [A8,Ae];omega⟩
 have:=Dv hn
 unfold Cl at this
 simp only [Ar,AA,C8] at this
 rcases this with rfl | rfl | rfl | rfl
 · exact A4O h.p0
 · exact A4O h.p1
 · exact A4O h.p2
 · exact A4O h.p3
section
variable {sum:Int->l8_->Int} {fs:List LE} {l:l8_} {dx dy:Int}
theorem Kz {v:Vw} {args:List PV} (hA:A∈GE):Ly sum fs v args A=Eg v args A:=by
 unfold Ly
 rw [A1 (λh=>?_),A6 hA]
 unfold GE at hA
 unfold GB at h
 simp only [Ar,AA,C8] at hA h
 rcases hA with rfl | rfl | rfl | rfl | rfl | rfl <;> revert h <;> decide
theorem A4d {v:Vw} {c:C6} (big:Bool) (h:Sw c):Ly sum fs v ((J6 c).map Gf) (KK big c.fSpace)=.ok (A1t big v c):=by
  have hn:=NY (J6 c) (Iq h).1
  obtain ⟨hs,g,i,j,k⟩:=h
  obtain ⟨n,a,b,d,e⟩:=c
  simp only at hs g i j k
  have f:=NQ g
  have l:=NQ i
  have m:=NQ j
  have o:=NQ k
  have qz:Do 0=0:=by decide
  rcases hs with ⟨rfl,rfl,rfl,rfl⟩ | ⟨rfl,rfl⟩ | rfl
  · rw [show J6 ⟨1, a, 0, 0, 0⟩ = [a] from rfl] at hn ⊢
    have hn:Dg ([a].map Gf) 1=.ok [a]:=hn
    have hw:EG ([a].map Gf) 1=.ok ⟨1,a,0,0,0⟩:=by
      unfold EG
      rw [hn,Iy]
      show Except.ok (⟨1,Do a,Do 0,Do 0,Do 0⟩:C6)=_
      rw [f,qz]
    cases big
    · rw [show KK false 1 = [103] from rfl, Kz dD]
      unfold Eg
      rw [A6 rfl,hw];rfl
    · rw [show KK true 1 = [71] from rfl, Kz dD]
      unfold Eg
      rw [A1 dD,A1 dD,A1 dD,A6 rfl,hw];rfl
  · rw [show J6 ⟨3, a, b, d, 0⟩ = [a, b, d] from rfl] at hn ⊢
    have hn:Dg ([a,b,d].map Gf) 3=.ok [a,b,d]:=hn
    have hw:EG ([a,b,d].map Gf) 3=.ok ⟨3,a,b,d,0⟩:=by
      unfold EG
      rw [hn,Iy]
      show Except.ok (⟨3,Do a,Do b,Do d,Do 0⟩:C6)=_
      rw [f,l,m,qz]
    cases big
    · rw [show KK false 3 = [114, 103] from rfl, Kz dD]
      unfold Eg
      rw [A1 dD,A6 rfl,hw];rfl
    · rw [show KK true 3 = [82, 71] from rfl, Kz dD]
      unfold Eg
      rw [A1 dD,A1 dD,A1 dD,A1 dD,A6 rfl,hw];rfl
  · rw [show J6 ⟨4, a, b, d, e⟩ = [a, b, d, e] from rfl] at hn ⊢
    have hn:Dg ([a,b,d,e].map Gf) 4=.ok [a,b,d,e]:=hn
    have hw:EG ([a,b,d,e].map Gf) 4=.ok ⟨4,a,b,d,e⟩:=by
      unfold EG
      rw [hn,Iy]
      show Except.ok (⟨4,Do a,Do b,Do d,Do e⟩:C6)=_
      rw [f,l,m,o]
    cases big
    · rw [show KK false 4 = [107] from rfl, Kz dD]
      unfold Eg
      rw [A1 dD,A1 dD,A6 rfl,hw];rfl
    · rw [show KK true 4 = [75] from rfl, Kz dD]
      unfold Eg
      rw [A1 dD,A1 dD,A1 dD,A1 dD,A1 dD,hw];rfl
theorem A2z {v:Vw} {c:C6} {y:l8_} (big:Bool) (h:Sw c) (hy:Hd y):DZ sum fs l v [] (Oh big c++y) (A1t big v c) [] y :=
 O8 (Iq h).1 (Iq h).2 (Wb big _) hy (A4d big h)
theorem YY (big:Bool) {c:C6} (h:Sw c):LD (Oh big c):=.line (Iq h).1 (Wb big _)
def RU (dx dy:Int) (c:Bv):Bv:=⟨none,c.fPath.map (mvS dx dy),0,c.fEvenOdd⟩
def Yw (dx dy:Int) (c:Bv):Bool:=c.fPath.all (okS dx dy)
def GF (c:Bv):l8_:=EB c.fPath++(if c.fEvenOdd then [87,42,32,110,10] else [87,32,110,10])
theorem A1W {v:Vw} {args:List PV} (hi:v.inText=false) (hA:A=[87]\/A=[87,42]):Ly sum fs v args A=(Dg args 0>>=λ_=>.ok { v with clip:=A.length }):=by
  unfold Ly
  rcases hA with rfl | rfl <;>
  · rw [A1 dD, A1 dD, A1 dD, A1 dD, hi]
    rw [show CH (!false)=Except.ok () from rfl]
    rw [Iy,A1 dD,A1 dD,A6 dD]
    rfl
theorem Mu {v:Vw} {args:List PV} (hi:v.inText=false) (hA:A=[110]\/A=[102]\/A=[102,42]\/A=[83]):Ly sum fs v args A=J3 v args A:=by
  unfold Ly
  rcases hA with rfl | rfl | rfl | rfl <;>
  · rw [A1 dD, A1 dD, A1 dD, A1 dD, hi]
    rw [show CH (!false)=Except.ok () from rfl]
    rw [Iy,A1 dD,A1 dD,A1 dD]
theorem HS:Dg [] 0=.ok []:=rfl
theorem A4J {v:Vw} {c:Bv} {y:l8_} (hdx:Ao dx=true) (hdy:Ao dy=true) (hi:v.inText=false) (hm:v.s.ctm=Jj dx dy) (hp:v.path.list=[]) (hc:G5 c=true) (hl:v.s.clips.length<16) (hy:Hd y) (ho:Yw dx dy c=true) :
  DZ sum fs l v [] (GF c++y) { v with s:={ v.s with clips:=v.s.clips++[RU dx dy c] },clip:=0,path:=I9 } [] y:=by
 unfold G5 Fk at hc
 rw [A3,A3,Ab,AH] at hc
 obtain ⟨d,j,k⟩:=hc
 have f:c.fPath≠[]:=λe=>by rw [e] at d;cases d
 have b:=List.length_pos_iff.2 f
 have hg:Ib v.path.list=0:=by rw [hp];rfl
 have key:∀ (A:l8_) (n:Nat),(A=[87]\/A=[87,42])->A.length=n->decide ((n:Int)=2)=c.fEvenOdd->KO A->DZ sum fs l v [] (EB c.fPath++(A++32::([110]++10::y))) { v with s:={ v.s with clips:=v.s.clips++[RU dx dy c] },clip:=0,path:=I9 } [] y:=λA n hA hn he hO=>by
  obtain ⟨p,a,m⟩:=Ug (sum:=sum) (fs:=fs) (l:=l) hdx hdy c.fPath v (y:=A++32::([110]++10::y)) hi hm (by rw [hg];exact k) (by rw [hp];simpa using j) (hO.hd _) ho
  rw [hp,CF] at a
  have o:DZ sum fs l (Kp v p) [] (A++32::([110]++10::y)) { v with path:=p,clip:=(n:Int) } [] ([110]++10::y):=by
   refine A0n hO (A7s.hd _) ?_
   rw [A1W (v:=Kp v p) hi hA,HS,Iy,hn];rfl
  have q:DZ sum fs l { v with path:=p,clip:=(n:Int) } [] ([110]++10::y) { v with s:={ v.s with clips:=v.s.clips++[RU dx dy c] },clip:=0,path:=I9 } [] y:=by
   refine K2 A7s hy ?_
   rw [Mu (v:={ v with path:=p,clip:=(n:Int) }) hi (.inl rfl)]
   unfold J3
   rw [HS,Iy]
   unfold IC
   rw [A1 dD,Iy,A1 dD,A1 dD,A1 dD,A1 dD,A1 dD]
   unfold DK
   rw [show M2 { v with path:=p,clip:=(n:Int) } 0=.ok { v with path:=p,clip:=(n:Int) } from A1 (λh=>CM h.2 dD),Iy,
    show Jh { v with path:=p,clip:=(n:Int) } { v with path:=p,clip:=(n:Int) } false=.ok { v with path:=p,clip:=(n:Int) } from A1 (λh=>CM h.2 dD),Iy]
   have g:FG { v with path:=p,clip:=(n:Int) }=.ok (v.s.clips++[RU dx dy c]):=by
    unfold FG
    have i:(n:Int) > 0:=by rcases hA with rfl | rfl <;> (rw [<- hn];decide)
    rw [A6 (show ({ v with path:=p,clip:=(n:Int) }:Vw).clip > 0 from i)]
    show (CH (decide (p.list.length > 0))>>=_)=_
    unfold CH
    rw [A6 (Aj (by rw [a,BD];exact b)),Iy]
    show (H6 (decide (v.s.clips.length<16))>>=_)=_
    unfold H6
    rw [A6 (Aj hl),Iy]
    show Except.ok (v.s.clips++[(⟨none,p.list,0,decide ((n:Int)=2)⟩:Bv)])=_
    rw [a,he];rfl
   rw [g,Iy]
   rfl
  exact (m.trans o).trans q
 unfold GF
 cases he:c.fEvenOdd with
 | true =>
  rw [A6 rfl,AE]
  exact key [87,42] 2 (.inr rfl) rfl (by rw [he];rfl) A7u
 | false =>
  rw [A1 dD,AE]
  exact key [87] 1 (.inl rfl) rfl (by rw [he];rfl) A8w
theorem A33 {c:Bv} (hc:G5 c=true):LD (GF c):=by
 unfold G5 Fk at hc
 rw [A3,A3] at hc
 unfold GF
 refine (LD.path hc.2.2).app (.ite (λ_ y _=>Hd.cons dD dD) (λ_ y _=>Hd.cons dD dD))
theorem A1V {v:Vw} {args:List PV} (hi:v.inText=false) (hA:A=[113]\/A=[81]\/A=[99,109]):Ly sum fs v args A=FT v args A:=by
  unfold Ly
  rcases hA with rfl | rfl | rfl <;>
  · rw [A1 dD, A1 dD, A1 dD, A1 dD, hi]
    rw [show CH (!false)=Except.ok () from rfl]
    rw [Iy,A6 dD]
theorem A8H {v:Vw} {y:l8_} (hi:v.inText=false) (hs:v.saved.length<32) (hy:Hd y):DZ sum fs l v [] ([113,10]++y) { v with saved:=v.s::v.saved } [] y:=by
 refine K2 (A:=[113]) A6b hy ?_
 rw [A1V hi (.inl rfl)]
 unfold FT
 rw [A6 rfl,HS,Iy]
 unfold H6
 rw [A6 (Aj hs)]
 rfl
theorem A7I {v:Vw} {s:RP} {r:List RP} {y:l8_} (hi:v.inText=false) (hs:v.saved=s::r) (hy:Hd y):DZ sum fs l v [] ([81,10]++y) { v with s:=s,saved:=r } [] y:=by
 refine K2 (A:=[81]) A6d hy ?_
 rw [A1V hi (.inr (.inl rfl))]
 unfold FT
 rw [A1 dD,A6 rfl,HS,Iy,hs]
 rfl
theorem ZH:Ik Nw=(65536,0):=by decide +kernel
theorem A1x (dx dy:Int):KX (Jj dx dy)=.ok 65536:=by
 have h:Ik (Jj dx dy)=(65536,0):=(show Ik (Jj dx dy)=Ik Nw from rfl).trans ZH
 unfold KX
 rw [h];rfl
theorem OA {n:Int} (h:Ao n=true):Gw 65536 n=.ok n:=by
 unfold Gw
 rw [(mul_one h).1];rfl
theorem Qk:∀ ns:List Int,(∀ n∈ns,Ao n=true)->Hs 65536 ns=.ok ns
 | [],_=>rfl
 | n::ns,h=>by
  unfold Hs
  rw [OA (h n (by simp)),Iy,Qk ns λm hm=>h m (by simp [hm])];rfl
theorem ZF {s:RP} (hm:s.ctm=Jj dx dy) (h:LC s.pen):HM s=.ok (Fy s.pen):=by
 unfold HM
 rw [hm,A1x,Iy,OA h.w.1,Iy,OA h.ph.1,Iy,Qk _ (λn hn=>(h.d n hn).1),Iy,A1 (λhc=>by rcases h.ds with a | a <;> omega)]
 rfl
def A6T (v:Vw) (it:AQ):Vw:={ v with items:=v.items++[it],clip:=0,path:=I9 }
theorem XY {v:Vw} {it:AQ} (h:v.items.length<4096):Fu v it=.ok { v with items:=v.items++[it] }:=by
 unfold Fu H6
 rw [A6 (Aj h)];rfl
theorem A4G {v:Vw} {k:Int} {y:l8_} (hk:k=1\/k=2) (hi:v.inText=false) (hc:v.clip=0) (hp:v.path.list≠[]) (hn:v.items.length<4096) (hy:Hd y) :
  DZ sum fs l v [] ((if k=1 then [102,10] else [102,42,10])++y) (A6T v (Fx k v.path.list v.s.fill JK v.s.clips)) [] y:=by
 have b:=List.length_pos_iff.2 hp
 have d:FG v=.ok v.s.clips:=A1 (by rw [hc];decide)
 have a:∀ k:Int,k > 0->DK v k false=.ok (A6T v (Fx k v.path.list v.s.fill JK v.s.clips)):=λk hk=>by
  unfold DK
  rw [show M2 v k=Fu v (Fx k v.path.list v.s.fill JK v.s.clips) from A6 ⟨b,hk⟩,XY hn,Iy,
   show ∀ c:Vw,Jh v c false=.ok c from λc=>A1 (λh=>CM h.2 dD),Iy,d,Iy]
  rfl
 rcases hk with rfl | rfl
 ·
  refine K2 (A:=[102]) A7t hy ?_
  rw [Mu hi (.inr (.inl rfl))]
  unfold J3 IC
  rw [HS,Iy,A1 dD,Iy,A1 dD,A6 dD,a 1 dD]
 ·
  refine K2 (A:=[102,42]) A5n hy ?_
  rw [Mu hi (.inr (.inr (.inl rfl)))]
  unfold J3 IC
  rw [HS,Iy,A1 dD,Iy,A1 dD,A1 dD,A6 dD,a 2 dD]
theorem A0m {v:Vw} {y:l8_} (hi:v.inText=false) (hc:v.clip=0) (hp:v.path.list≠[]) (hm:v.s.ctm=Jj dx dy) (hk:LC v.s.pen) (hn:v.items.length<4096) (hy:Hd y) :
  DZ sum fs l v [] ([83,10]++y) (A6T v (Fx 3 v.path.list v.s.stroke (Fy v.s.pen) v.s.clips)) [] y:=by
 have a:=List.length_pos_iff.2 hp
 have b:FG v=.ok v.s.clips:=A1 (by rw [hc];decide)
 refine K2 (A:=[83]) A7v hy ?_
 rw [Mu hi (.inr (.inr (.inr rfl)))]
 unfold J3 IC
 rw [HS,Iy,A1 dD,Iy,A6 dD]
 unfold DK
 rw [show M2 v 0=.ok v from A1 (λh=>CM h.2 dD),Iy,
  show Jh v v true=(HM v.s>>=λp=>Fu v (Fx 3 v.path.list v.s.stroke p v.s.clips)) from A6 ⟨a,rfl⟩,ZF hm hk,Iy,XY hn,Iy,b,Iy]
 rfl
theorem VQ {n:Int} (h:0<=n/\n<=13):A06 (70::E5 n)/\(70::E5 n).flatMap Xy=70::E5 n:=by
 obtain ⟨a,b⟩:=h
 obtain rfl | rfl | rfl | rfl | rfl | rfl | rfl | rfl | rfl | rfl | rfl | rfl | rfl | rfl:n=0\/n=1\/n=2\/n=3\/n=4\/n=5\/n=6\/n=7\/n=8\/n=9\/n=10\/n=11\/n=12\/n=13:=by omega
 all_goals exact ⟨⟨by decide,by decide +kernel,by decide +kernel⟩,by decide +kernel⟩
def JR (x:AQ):l8_ :=
 [66,84,10]++((47::70::E5 x.fFont)++(32::49::32::84::102::10::(D3 (E8 x) [84,109]++(PI x.fBytes++[32,84,106,10,69,84,10]))))
theorem NU {v:Vw} {args:List PV} (hA:A∈GS):Ly sum fs v args A=Jv sum fs v args A:=by
 have a:A ∉ GB:=by unfold GS at hA;simp only [Ar,AA,C8] at hA;rcases hA with rfl | rfl | rfl | rfl | rfl | rfl <;> decide
 have b:A ∉ GE:=by unfold GS at hA;simp only [Ar,AA,C8] at hA;rcases hA with rfl | rfl | rfl | rfl | rfl | rfl <;> decide
 unfold Ly
 rw [A1 a,A1 b,A6 hA]
theorem Mk {v:Vw} {args:List PV} (hi:v.inText=true) (hA:A≠[66,84]):Jv sum fs v args A=(if A=[69,84] then (Dg args 0>>=λ_=>.ok { v with inText:=false }) else if A=[84,102] then ID fs v args
  else if A=[84,109] then (Sd args>>=λm=>.ok { v with line:=m,text:=m,lost:=false }) else if A=[84,100] then (Dg args 2>>=λn=>LB (Jj (n.getD 0 0) (n.getD 1 0)) v.line>>=λm=>.ok { v with line:=m,text:=m,lost:=false }) else FE sum v args):=by
 unfold Jv
 rw [show CH (decide (v.inText=true↔A≠[66,84]))=.ok () from A6 (Aj ⟨λ_=>hA,λ_=>hi⟩),Iy,A1 hA]
 rfl
theorem W2 {a b:Int} (ha:Ao a=true) (hb:Ao b=true):Ip (Jj dx dy) a b=((a,b),0):=by
 unfold Ip Jj
 simp only
 have c:Kd 0 65536 a 0 b []=(a,0):=by
  unfold Kd
  rw [(mul_one ha).2,(mul_zero hb).2]
  simp only [Kn]
  rw [(add_zero ha).1]
  simp only
  rw [A6 BG,(add_zero ha).2]
  rfl
 have d:Kd 0 0 a 65536 b []=(b,0):=by
  unfold Kd
  rw [(mul_zero ha).2,(mul_one hb).2]
  simp only [Kn]
  rw [(add_zero Ie).1]
  simp only
  rw [A6 BG,(add_zero hb).1]
  rfl
 rw [c]
 simp only
 rw [d]
 rfl
theorem A3f {a b:Int} (hdx:Ao dx=true) (hdy:Ao dy=true) (ha:Ao a=true) (hb:Ao b=true):(Ao (a+dx)=true/\Ao (b+dy)=true->FY (Jj dx dy) a b=((a+dx,b+dy),0))/\(¬ (Ao (a+dx)=true/\Ao (b+dy)=true)->(FY (Jj dx dy) a b).2≠0):=by
 unfold FY Jj
 simp only
 rw [A5g ha hb hdx]
 refine ⟨λh=>?_,λh=>?_⟩
 ·
  rw [A6 h.1]
  simp only
  rw [UI ha hb hdy,A6 h.2]
  rfl
 ·
  by_cases h1:Ao (a+dx)=true
  ·
   rw [A6 h1]
   simp only
   rw [UI ha hb hdy,A1 (λc=>h ⟨h1,c⟩)]
   simp [Io,EH]
  ·
   rw [A1 h1]
   simp only
   rw [UI ha hb hdy]
   split <;> simp [Io,EH]
structure A75 (m:M6):Prop where
 a:Ao m.a=true
 b:Ao m.b=true
 c:Ao m.c=true
 d:Ao m.d=true
 e:Ao m.e=true
 f:Ao m.f=true
theorem A6O {m:M6} (hdx:Ao dx=true) (hdy:Ao dy=true) (h:A75 m):(Ao (m.e+dx)=true/\Ao (m.f+dy)=true->LB m (Jj dx dy)=.ok ⟨m.a,m.b,m.c,m.d,m.e+dx,m.f+dy⟩)/\(¬ (Ao (m.e+dx)=true/\Ao (m.f+dy)=true)->LB m (Jj dx dy)=.error 22):=by
 obtain ⟨g,i⟩:=A3f hdx hdy h.e h.f
 have hc:D8 m (Jj dx dy)=if (FY (Jj dx dy) m.e m.f).2≠0 then (Wx,(FY (Jj dx dy) m.e m.f).2) else (⟨m.a,m.b,m.c,m.d,(FY (Jj dx dy) m.e m.f).1.1,(FY (Jj dx dy) m.e m.f).1.2⟩,0):=by
  unfold D8
  rw [W2 h.a h.b,W2 h.c h.d]
  simp only
  rw [A1 (by simp),A1 (by simp)]
 unfold LB
 rw [hc]
 refine ⟨λhf=>?_,λhf=>?_⟩
 · rw [g hf];rfl
 ·
  have:=i hf
  rw [A6 this]
  exact A1 this
theorem A36 {m:M6} (h:A75 m):LB (m6S 65536 65536) m=.ok m:=by
 have two:∀ {a c more:Int},Ao a=true->Ao c=true->Ao more=true->∀ e,Kd e a 0 c 0 [more]=(more,e):=λha hc hm e=>by
  unfold Kd
  rw [(mul_zero ha).1,(mul_zero hc).1]
  simp only [Kn]
  rw [(add_zero Ie).1]
  simp only
  rw [A6 BG,(add_zero Ie).1]
  simp only
  rw [A6 BG,(add_zero hm).1]
  by_cases he:e=0 <;> simp [EH,he]
 have g:∀ {a c:Int},Ao a=true->Ao c=true->Kd 0 a 65536 c 0 []=(a,0):=λha hc=>by
  unfold Kd
  rw [(mul_one ha).1,(mul_zero hc).1]
  simp only [Kn]
  rw [(add_zero ha).1]
  simp only
  rw [A6 BG,(add_zero ha).2]
  rfl
 have i:∀ {a c:Int},Ao a=true->Ao c=true->Kd 0 a 0 c 65536 []=(c,0):=λha hc=>by
  unfold Kd
  rw [(mul_zero ha).1,(mul_one hc).1]
  simp only [Kn]
  rw [(add_zero Ie).1]
  simp only
  rw [A6 BG,(add_zero hc).1]
  rfl
 have j:Ip m 65536 0=((m.a,m.b),0):=by
  unfold Ip
  simp only
  rw [g h.a h.c]
  simp only
  rw [g h.b h.d];rfl
 have k:Ip m 0 65536=((m.c,m.d),0):=by
  unfold Ip
  simp only
  rw [i h.a h.c]
  simp only
  rw [i h.b h.d];rfl
 have l:FY m 0 0=((m.e,m.f),0):=by
  unfold FY
  simp only
  rw [two h.a h.c h.e]
  simp only
  rw [two h.b h.d h.f];rfl
 unfold LB D8 m6S
 simp only
 rw [j]
 simp only
 rw [k]
 simp only
 rw [l]
 rfl
end
end
section
def mvI (dx dy:Int) (x:AQ):AQ:=⟨x.fKind,none,x.fPath.map (mvS dx dy),0,x.fColor,none,x.fClips.map (RU dx dy),0,Fy x.fPen,x.fFont,x.fMatrix_0,x.fMatrix_1,x.fMatrix_2,x.fMatrix_3,if x.fKind=4 then x.fMatrix_4+dx else x.fMatrix_4,if x.fKind=4 then x.fMatrix_5+dy else x.fMatrix_5,none,x.fBytes,0⟩
def okI (dx dy:Int) (x:AQ):Bool:=x.fPath.all (okS dx dy) && x.fClips.all (Yw dx dy) && (!decide (x.fKind=4) || (Ao (x.fMatrix_4+dx) && Ao (x.fMatrix_5+dy)))
structure A3o (x:AQ):Prop where
 font:0<=x.fFont/\x.fFont<=13
 bytes:x.fBytes≠[]/\x.fBytes.length<=65535
 mat:∀ n∈E8 x,Ao n=true
 path:x.fPath=[]
 pen:Fy x.fPen=JK
structure A8R (x:AQ):Prop where
 kind:x.fKind=1\/x.fKind=2\/x.fKind=3
 font:x.fFont=0
 mat:x.fMatrix_0=0/\x.fMatrix_1=0/\x.fMatrix_2=0/\x.fMatrix_3=0/\x.fMatrix_4=0/\x.fMatrix_5=0
 bytes:x.fBytes=[]
 path:x.fPath≠[]
 len:x.fPath.length<=4096
 segs:E4 0 x.fPath=true
 pen:x.fKind=3->LC x.fPen
 none:x.fKind≠3->Fy x.fPen=JK
structure K7 (x:AQ):Prop where
 col:Sw x.fColor
 cl:x.fClips.length<=16
 clips:∀ c∈x.fClips,G5 c=true
 txt:x.fKind=4->A3o x
 pnt:x.fKind≠4->A8R x
theorem T6 {p:Dz} (h:JX p=true):Fy p=JK:=by
 unfold JX at h
 simp only [A3,Ab] at h
 obtain ⟨⟨⟨⟨⟨a,b⟩,e⟩,f⟩,i⟩,g⟩:=h
 obtain ⟨w,c,j,m,pd,d,cd,ph⟩:=p
 simp only at a b e f i g
 have:d=[]:=Cp.1 oO
 subst a b e f g this
 rfl
theorem A2r {x:AQ} (h:Et x=true):K7 x:=by
  unfold Et EQ at h
  rw [A3,A3,A3,Ab] at h
  obtain ⟨⟨o,q,d⟩,b⟩:=h
  refine ⟨A8K o,by omega,λc hc=>Au.1 d c hc,λhk=>?_,λhk=>?_⟩
  · rw [A6 hk] at b
    unfold He at b
    simp only [A3,Ab] at b
    obtain ⟨⟨⟨⟨⟨⟨f,g⟩,i⟩,k⟩,j⟩,l⟩,a⟩:=b
    exact ⟨⟨f,g⟩,⟨λe=>by rw [e] at i;simp at i,by omega⟩,λn hn=>Au.1 j n hn,Cp.1 oO,T6 a⟩
  · rw [A1 hk] at b
    unfold LP OW Fk at b
    simp only [A3,Ab,AH,Aq] at b
    obtain ⟨⟨⟨⟨⟨f,g⟩,i⟩,k⟩,j,l⟩,a⟩:=b
    have m:x.fKind=1\/x.fKind=2\/x.fKind=3:=by
      split at a
      · omega
      · split at a
        · omega
        · cases a
    refine ⟨m,f,g,Cp.1 oO,λe=>k (by rw [e];rfl),j,l,λd=>?_,λd=>?_⟩
    · rw [A1 oO, A6 d] at a
      exact A8n a
    · rw [A6 oO] at a
      exact T6 a
section
variable {sum:Int->l8_->Int} {fs:List LE} {l:l8_} {dx dy:Int}
def IS (x:AQ):M6:=⟨x.fMatrix_0,x.fMatrix_1,x.fMatrix_2,x.fMatrix_3,x.fMatrix_4,x.fMatrix_5⟩
theorem VE {x:AQ} (h:∀ n∈E8 x,Ao n=true):A75 (IS x):=by
 unfold E8 at h
 exact ⟨h _ (by simp [IS]),h _ (by simp [IS]),h _ (by simp [IS]),h _ (by simp [IS]),h _ (by simp [IS]),h _ (by simp [IS])⟩
def RS (fs:List LE) (n:Int):Prop:=∃ f,fs.find? (λf=>decide (f.name=70::E5 n))=some f/\f.font=n
theorem UL (x:AQ) (y:l8_):Hd (PI x.fBytes++([32,84,106,10,69,84,10]++y)):=Hd.cons dD dD
theorem A2y {v:Vw} {x:AQ} {y:l8_} (hi:v.inText=false) (hx:A3o x) (hft:RS fs x.fFont) :
  ∃ v1,v1={ v with s:={ v.s with font:=x.fFont,size:=65536 },inText:=true,lost:=false,text:=IS x,line:=IS x } /\
   DZ sum fs l v [] (JR x++y) v1 [JJ 5 0 x.fBytes] ([84,106]++10::([69,84]++10::y)):=by
 obtain ⟨f,b,c⟩:=hft
 obtain ⟨d,g⟩:=VQ hx.font
 have hL:∀ n∈E8 x,Ao n=true:=hx.mat
 have i:Hd (D3 (E8 x) [84,109]++(PI x.fBytes++([32,84,106,10,69,84,10]++y))):=Rg hL A5o _
 have j:DZ sum fs l v [] ([66,84]++10::((47::70::E5 x.fFont)++(32::([49]++32::([84,102]++10::(D3 (E8 x) [84,109]++(PI x.fBytes++([32,84,106,10,69,84,10]++y)))))))) { v with inText:=true,lost:=false,text:=Nw,line:=Nw } [] ((47::70::E5 x.fFont)++(32::([49]++32::([84,102]++10::(D3 (E8 x) [84,109]++(PI x.fBytes++([32,84,106,10,69,84,10]++y))))))):=by
  refine K2 A7x (Hd.cons dD dD) ?_
  rw [NU dD]
  unfold Jv
  rw [hi,show CH (decide (false=true↔([66,84]:l8_)≠[66,84]))=.ok () from rfl,Iy,A6 rfl,HS,Iy]
  rfl
 have k:DZ sum fs l { v with inText:=true,lost:=false,text:=Nw,line:=Nw } [] ((47::70::E5 x.fFont)++(32::([49]++32::([84,102]++10::(D3 (E8 x) [84,109]++(PI x.fBytes++([32,84,106,10,69,84,10]++y))))))) { v with inText:=true,lost:=false,text:=Nw,line:=Nw } ([]++[JJ 4 0 (70::E5 x.fFont)]) ([49]++32::([84,102]++10::(D3 (E8 x) [84,109]++(PI x.fBytes++([32,84,106,10,69,84,10]++y))))):=by
  refine P0 (λa hp=>?_) (by simp) (by rw [II];exact KV dD dD) (by simp)
  exact A13 (s:=70::E5 x.fFont) (by rw [g];exact hp) d (Tz _)
 have m:DZ sum fs l { v with inText:=true,lost:=false,text:=Nw,line:=Nw } ([]++[JJ 4 0 (70::E5 x.fFont)]) ([49]++32::([84,102]++10::(D3 (E8 x) [84,109]++(PI x.fBytes++([32,84,106,10,69,84,10]++y))))) { v with inText:=true,lost:=false,text:=Nw,line:=Nw } ([]++[JJ 4 0 (70::E5 x.fFont)]++[JJ 2 1 []]) ([84,102]++10::(D3 (E8 x) [84,109]++(PI x.fBytes++([32,84,106,10,69,84,10]++y)))):=by
  refine P0 (λa hp=>?_) (by simp) (by rw [II];exact A5q.hd _) (by simp)
  have e:E5 1=[49]:=by decide +kernel
  exact Yi (n:=1) (by rw [e];exact hp) dD (Tz _)
 have o:DZ sum fs l { v with inText:=true,lost:=false,text:=Nw,line:=Nw } ([]++[JJ 4 0 (70::E5 x.fFont)]++[JJ 2 1 []]) ([84,102]++10::(D3 (E8 x) [84,109]++(PI x.fBytes++([32,84,106,10,69,84,10]++y)))) { v with s:={ v.s with font:=x.fFont,size:=65536 },inText:=true,lost:=false,text:=Nw,line:=Nw } [] (D3 (E8 x) [84,109]++(PI x.fBytes++([32,84,106,10,69,84,10]++y))):=by
  refine Rp A5q (TA _) (by rw [Ko];exact i) ?_
  rw [NU dD,Mk rfl dD,A1 dD,A6 rfl]
  unfold ID
  show (CH true>>=λ_=>CH true>>=λ_=>_)=_
  rw [show CH true=.ok () from rfl,Iy,Iy]
  show (match fs.find? (λf=>decide (f.name=70::E5 x.fFont)) with | none=>_ | some f=>_)=_
  rw [b]
  show Except.ok _=_
  rw [c];rfl
 have q:DZ sum fs l { v with s:={ v.s with font:=x.fFont,size:=65536 },inText:=true,lost:=false,text:=Nw,line:=Nw } [] (D3 (E8 x) [84,109]++(PI x.fBytes++([32,84,106,10,69,84,10]++y))) { v with s:={ v.s with font:=x.fFont,size:=65536 },inText:=true,lost:=false,text:=IS x,line:=IS x } [] (PI x.fBytes++([32,84,106,10,69,84,10]++y)):=by
  refine O8 hL (by simp [E8]) A5o (UL x y) ?_
  rw [NU dD,Mk rfl dD,A1 dD,A1 dD,A6 rfl]
  have hm:Sd ((E8 x).map Gf)=.ok (IS x):=by
   unfold Sd
   rw [show Dg ((E8 x).map Gf) 6=.ok (E8 x) from NY (E8 x) hL]
   rfl
  rw [hm]
  rfl
 have t:DZ sum fs l { v with s:={ v.s with font:=x.fFont,size:=65536 },inText:=true,lost:=false,text:=IS x,line:=IS x } [] (PI x.fBytes++([32,84,106,10,69,84,10]++y)) { v with s:={ v.s with font:=x.fFont,size:=65536 },inText:=true,lost:=false,text:=IS x,line:=IS x } ([]++[JJ 5 0 x.fBytes]) ([84,106]++10::([69,84]++10::y)) :=
  P0 (λa hp=>A12 hp hx.bytes.2) (by simp [PI]) ((II _).trans (A5p.hd _)) (by simp)
 refine ⟨_,rfl,?_⟩
 have:=((((j.trans k).trans m).trans o).trans q).trans t
 rw [show JR x++y=[66,84]++10::((47::70::E5 x.fFont)++(32::([49]++32::([84,102]++10::(D3 (E8 x) [84,109]++(PI x.fBytes++([32,84,106,10,69,84,10]++y))))))) by simp [JR]]
 exact this
theorem XD {v:Vw} {x:AQ} (hi:v.inText=true):Ly sum fs v [JJ 5 0 x.fBytes] [84,106]=FE sum v [JJ 5 0 x.fBytes]:=by
 rw [NU dD,Mk hi dD,A1 dD,A1 dD,A1 dD,A1 dD]
theorem Ua {v:Vw} {x:AQ} (hx:A3o x) (hf:v.s.font=x.fFont) (hl:v.lost=false):FE sum v [JJ 5 0 x.fBytes]=Qu sum v x.fBytes:=by
 unfold FE
 show (CH (true && decide (v.s.font ≥ 0) && !v.lost)>>=λ_=>if x.fBytes=[] then _ else _)=_
 rw [hf,hl,Aj (show x.fFont ≥ 0 from hx.font.1),show CH (true && true && !false)=.ok () from rfl,Iy,A1 hx.bytes.1]
 rfl
theorem A4E {v:Vw} {x:AQ} {y:l8_} (hdx:Ao dx=true) (hdy:Ao dy=true) (hi:v.inText=false) (hm:v.s.ctm=Jj dx dy) (hx:A3o x) (hft:RS fs x.fFont) (hn:v.items.length<4096) (hy:Hd y) (ho:Ao (x.fMatrix_4+dx)=true/\Ao (x.fMatrix_5+dy)=true) :
  ∃ v',DZ sum fs l v [] (JR x++y) v' [] y/\v'.inText=false/\v'.clip=v.clip/\v'.path=v.path/\v'.saved=v.saved/\v'.s={ v.s with font:=x.fFont,size:=65536 } /\
   v'.items=v.items++[HX v.s.fill v.s.clips x.fFont ⟨x.fMatrix_0,x.fMatrix_1,x.fMatrix_2,x.fMatrix_3,x.fMatrix_4+dx,x.fMatrix_5+dy⟩ x.fBytes]:=by
 obtain ⟨a,b,i⟩:=A2y (sum:=sum) (l:=l) (v:=v) (x:=x) (y:=y) hi hx hft
 have hM:=VE hx.mat
 have e:Qu sum a x.fBytes=.ok { { a with items:=a.items++[HX v.s.fill v.s.clips x.fFont ⟨x.fMatrix_0,x.fMatrix_1,x.fMatrix_2,x.fMatrix_3,x.fMatrix_4+dx,x.fMatrix_5+dy⟩ x.fBytes] } with lost:=(KE sum a x.fBytes).2,text:=(KE sum a x.fBytes).1 }:=by
  unfold Qu
  rw [show a.s.size=65536 by rw [b],show a.text=IS x by rw [b],A36 hM,Iy,show a.s.ctm=Jj dx dy by rw [b];exact hm,(A6O hdx hdy hM).1 ho,Iy,XY (by rw [b];exact hn),Iy]
  subst b
  rfl
 have f:DZ sum fs l a [JJ 5 0 x.fBytes] ([84,106]++10::([69,84]++10::y)) { { a with items:=a.items++[HX v.s.fill v.s.clips x.fFont ⟨x.fMatrix_0,x.fMatrix_1,x.fMatrix_2,x.fMatrix_3,x.fMatrix_4+dx,x.fMatrix_5+dy⟩ x.fBytes] } with lost:=(KE sum a x.fBytes).2,text:=(KE sum a x.fBytes).1 } [] ([69,84]++10::y):=by
  refine Rp A5p (TA _) (by rw [Ko];exact A5r.hd _) ?_
  rw [XD (by rw [b]),Ua hx (by rw [b]) (by rw [b]),e]
 have g:a.inText=true:=by rw [b]
 obtain ⟨c,d⟩:∃ c,c=({ { a with items:=a.items++[HX v.s.fill v.s.clips x.fFont ⟨x.fMatrix_0,x.fMatrix_1,x.fMatrix_2,x.fMatrix_3,x.fMatrix_4+dx,x.fMatrix_5+dy⟩ x.fBytes] } with lost:=(KE sum a x.fBytes).2,text:=(KE sum a x.fBytes).1 }:Vw):=⟨_,rfl⟩
 rw [<- d] at f
 have j:DZ sum fs l c [] ([69,84]++10::y) { c with inText:=false } [] y:=K2 A5r hy (by
  rw [NU dD,Mk (v:=c) (by rw [d];exact g) dD,A6 rfl,HS,Iy])
 refine ⟨_,(i.trans f).trans j,rfl,?_,?_,?_,?_,?_⟩
 all_goals (subst d b;rfl)
structure RW where
 fill:C6
 stroke:C6
 pen:Dz
structure PD where
 so:RW
 outer:RW
 clips:List Bv
def so0:RW:=⟨M8 1,M8 1,Zj.s.pen⟩
def Hw:PD:=⟨so0,so0,[]⟩
def qB (st:PD) (x:AQ):Bool:=decide (x.fClips.length<st.clips.length) || !A30 st.clips (x.fClips.take st.clips.length)
def nC (st:PD) (x:AQ):Nat:=if qB st x then 0 else st.clips.length
def GP (st:PD) (x:AQ):RW:=if qB st x then st.outer else st.so
def gB (st:PD) (x:AQ):Bool:=decide (nC st x=0) && !x.fClips.isEmpty
def kW (so:RW) (x:AQ):l8_:=if x.fKind=3 then (if x.fColor≠so.stroke then Oh true x.fColor else [])++ML so.pen x.fPen else (if x.fColor≠so.fill then Oh false x.fColor else [])
def TN (so:RW) (x:AQ):RW:=if x.fKind=3 then { so with stroke:=x.fColor,pen:=x.fPen } else { so with fill:=x.fColor }
def oW (x:AQ):l8_:=if x.fKind=1 then [102,10] else if x.fKind=2 then [102,42,10] else if x.fKind=3 then [83,10] else JR x
def O5 (st:PD) (x:AQ):l8_ :=
 (if qB st x then [81,10] else [])++((if gB st x then [113,10] else [])++((x.fClips.drop (nC st x)).flatMap GF++(kW (GP st x) x++(EB x.fPath++oW x))))
def Pb (st:PD) (x:AQ):PD:=⟨TN (GP st x) x,if gB st x then GP st x else st.outer,x.fClips⟩
def FP:PD->List AQ->l8_
 | st,[]=>if st.clips.isEmpty then [] else [81,10]
 | st,x::r=>O5 st x++FP (Pb st x) r
structure SoM (s:RP) (so:RW):Prop where
 fill:s.fill=so.fill
 stroke:s.stroke=so.stroke
 pen:Fy s.pen=Fy so.pen
structure VI (dx dy:Int) (st:PD) (its:List AQ) (v:Vw):Prop where
 inText:v.inText=false
 clip:v.clip=0
 path:v.path.list=[]
 ctm:v.s.ctm=Jj dx dy
 so:SoM v.s st.so
 clips:v.s.clips=st.clips.map (RU dx dy)
 cok:∀ c∈st.clips,Yw dx dy c=true
 saved:(st.clips=[]/\v.saved=[])\/(st.clips≠[]/\∃ s0,v.saved=[s0]/\SoM s0 st.outer/\s0.clips=[]/\s0.ctm=Jj dx dy)
 items:v.items=its
theorem A7A {a b:Bv} (h:Fn a=Fn b):RU dx dy a=RU dx dy b/\Yw dx dy a=Yw dx dy b:=by
 unfold Fn at h
 simp only [Bv.mk.injEq] at h
 unfold RU Yw
 rw [h.2.1,h.2.2.2]
 exact ⟨rfl,rfl⟩
theorem Yz:∀ {a b:List Bv},a.map Fn=b.map Fn->a.map (RU dx dy)=b.map (RU dx dy)/\((∀ c∈a,Yw dx dy c=true)->∀ c∈b,Yw dx dy c=true)
 | [],[],_=>⟨rfl,λh=>h⟩
 | [],b::s,h=>by cases h
 | a::r,[],h=>by cases h
 | a::r,b::s,h=>by
  rw [Co,Co,DE] at h
  obtain ⟨e1,e2⟩:=A7A (dx:=dx) (dy:=dy) h.1
  obtain ⟨i1,i2⟩:=Yz h.2
  refine ⟨by rw [Co,Co,e1,i1],λhc c hm=>?_⟩
  rcases Ar.1 hm with rfl | hm
  · rw [<- e2];exact hc a (by simp)
  · exact i2 (λc hc'=>hc c (by simp [hc'])) c hm
end
end
section
section
variable {sum:Int->l8_->Int} {fs:List LE} {l:l8_} {dx dy:Int}
theorem Oi:∀ cs:List Bv,(∀ c∈cs,G5 c=true)->LD (cs.flatMap GF)
 | [],_=>.nil
 | c::cs,h=>by
  rw [CR]
  exact (A33 (h c (by simp))).app (Oi cs λd hd=>h d (by simp [hd]))
theorem VO (hdx:Ao dx=true) (hdy:Ao dy=true):∀ (cs:List Bv) (v:Vw) {y:l8_},v.inText=false->v.clip=0->v.path.list=[]->v.s.ctm=Jj dx dy->(∀ c∈cs,G5 c=true)->v.s.clips.length+cs.length<=16->(∀ c∈cs,Yw dx dy c=true)->Hd y ->
  ∃ v',DZ sum fs l v [] (cs.flatMap GF++y) v' [] y/\v'.inText=false/\v'.clip=0/\v'.path.list=[]/\v'.saved=v.saved/\v'.items=v.items/\v'.s={ v.s with clips:=v.s.clips++cs.map (RU dx dy) }
 | [],v,y,hi,hc,hp,_,_,_,_,_=>⟨v,DZ.refl _ _ _,hi,hc,hp,rfl,rfl,by rw [DT,BK]⟩
 | c::cs,v,y,hi,hc,hp,hm,hk,hl,ho,hy=>by
  rw [A8] at hl
  have g1:=A4J (sum:=sum) (fs:=fs) (l:=l) (v:=v) (c:=c) (y:=cs.flatMap GF++y) hdx hdy hi hm hp (hk c (by simp)) oO (Oi cs (λd hd=>hk d (by simp [hd])) y hy) (ho c (by simp))
  obtain ⟨v',g2,e1,e2,e3,e4,e5,e6⟩:=VO hdx hdy cs { v with s:={ v.s with clips:=v.s.clips++[RU dx dy c] },clip:=0,path:=I9 } (y:=y) hi rfl rfl hm (λd hd=>hk d (by simp [hd])) (by
   show (v.s.clips++[RU dx dy c]).length+cs.length<=16
   rw [A5,CD];omega) (λd hd=>ho d (by simp [hd])) hy
  refine ⟨v',?_,e1,e2,e3,e4,e5,?_⟩
  · rw [CR,AE];exact g1.trans g2
  ·
   rw [e6]
   show ({ v.s with clips:=v.s.clips++[RU dx dy c]++cs.map (RU dx dy) }:RP)=_
   rw [AE];rfl
structure VM (dx dy:Int) (so outer:RW) (cl all:List Bv) (its:List AQ) (v:Vw):Prop where
 inText:v.inText=false
 clip:v.clip=0
 path:v.path.list=[]
 ctm:v.s.ctm=Jj dx dy
 so:SoM v.s so
 clips:v.s.clips=cl.map (RU dx dy)
 saved:(all=[]/\v.saved=[])\/(all≠[]/\∃ s0,v.saved=[s0]/\SoM s0 outer/\s0.clips=[]/\s0.ctm=Jj dx dy)
 items:v.items=its
theorem A64 {st:PD} {x:AQ} (h:qB st x=true):st.clips≠[]:=λe=>by
 unfold qB at h
 rw [e] at h
 simp [A30,Kk] at h
theorem A5k {st:PD} {x:AQ} (h:qB st x=false):st.clips.length<=x.fClips.length/\st.clips.map Fn=(x.fClips.take st.clips.length).map Fn:=by
 unfold qB at h
 rw [E1,Aq,BI] at h
 exact ⟨by omega,YZ.1 h.2⟩
theorem A6s {st:PD} {its:List AQ} {v:Vw} {x:AQ} {z:l8_} (h:VI dx dy st its v) (hz:Hd z) :
    ∃ vb,DZ sum fs l v [] ((if qB st x then [81,10] else [])++((if gB st x then [113,10] else [])++z)) vb [] z /\
      VM dx dy (GP st x) (if gB st x then GP st x else st.outer) (x.fClips.take (nC st x)) x.fClips its vb/\(∀ c∈x.fClips.take (nC st x),Yw dx dy c=true):=by
  have u:Hd ((if gB st x then [113,10] else [])++z):=by
    split
    · exact A6b.hd (10::z)
    · exact hz
  have hQ:∃ va,DZ sum fs l v [] ((if qB st x then [81,10] else [])++((if gB st x then [113,10] else [])++z)) va [] ((if gB st x then [113,10] else [])++z) /\
      va.inText=false/\va.clip=0/\va.path.list=[]/\va.s.ctm=Jj dx dy/\SoM va.s (GP st x)/\va.s.clips=(x.fClips.take (nC st x)).map (RU dx dy)/\va.items=its/\(∀ c∈x.fClips.take (nC st x),Yw dx dy c=true) /\
      ((nC st x=0/\va.saved=[])\/(nC st x≠0/\x.fClips≠[]/\∃ b,va.saved=[b]/\SoM b st.outer/\b.clips=[]/\b.ctm=Jj dx dy)):=by
    cases hq:qB st x with
    | true =>
      have f:=A64 hq
      rcases h.saved with ⟨e,-⟩ | ⟨-,b,a,j,D,E⟩
      · exact CM e f
      · have hn : nC st x = 0 := by unfold nC; rw [hq]; rfl
        have hs:GP st x=st.outer:=by unfold GP;rw [hq];rfl
        refine ⟨{ v with s:=b,saved:=[] },A7I h.inText a u,h.inText,h.clip,h.path,E,hs▸j,?_,h.items,?_,.inl ⟨hn,rfl⟩⟩
        · rw [hn];exact D
        · rw [hn];intro c hc;cases hc
    | false =>
      obtain ⟨i,he⟩:=A5k hq
      have hn:nC st x=st.clips.length:=by unfold nC;rw [hq];rfl
      have hs:GP st x=st.so:=by unfold GP;rw [hq];rfl
      obtain ⟨F,G⟩:=Yz (dx:=dx) (dy:=dy) he
      refine ⟨v,DZ.refl _ _ _,h.inText,h.clip,h.path,h.ctm,hs▸h.so,by rw [hn,h.clips,F],h.items,hn▸G h.cok,?_⟩
      rcases h.saved with ⟨e,a⟩ | ⟨e,a⟩
      · exact .inl ⟨by rw [hn,e];rfl,a⟩
      · refine .inr ⟨by rw [hn]; exact fun k => e (Cp.1 k), fun k => ?_, a⟩
        rw [k] at i
        exact e (Cp.1 (by simpa using i))
  obtain ⟨va,g,m,w,y,o,q,t,A,B,C⟩:=hQ
  cases hg:gB st x with
  | true =>
    have hg':=hg
    unfold gB at hg'
    rw [A3,Ab,AH] at hg'
    have f:x.fClips≠[]:=λe=>by rw [e] at hg';cases hg'.2
    rcases C with ⟨d,a⟩ | ⟨d,-⟩
    · rw [hg] at g
      refine ⟨{ va with saved:=va.s::va.saved },g.trans (A8H m (by rw [a];decide) hz),⟨m,w,y,o,q,t,.inr ⟨f,va.s,by rw [a],q,by rw [t,d];rfl,o⟩,A⟩,B⟩
    · exact CM hg'.1 d
  | false =>
    rw [hg] at g
    refine ⟨va,g,⟨m,w,y,o,q,t,?_,A⟩,B⟩
    rcases C with ⟨d,a⟩ | ⟨d,j,a⟩
    · left
      refine ⟨?_,a⟩
      have hg':=hg
      unfold gB at hg'
      rw [Aj d,Cx,BI] at hg'
      exact List.isEmpty_iff.1 hg'
    · exact .inr ⟨j,a⟩
theorem A2o {so:RW} {x:AQ} (hx:K7 x):LD (kW so x):=by
 unfold kW
 refine .ite (λhk=>?_) (λ_=>.ite (λ_=>YY _ hx.col) (λ_=>.nil))
 exact (LD.ite (λ_=>YY _ hx.col) (λ_=>.nil)).app (Yu ((hx.pnt oO).pen hk))
theorem A6u {so outer:RW} {its:List AQ} {v:Vw} {x:AQ} {n:Nat} {z:l8_} (hdx:Ao dx=true) (hdy:Ao dy=true) (h:VM dx dy so outer (x.fClips.take n) x.fClips its v) (hx:K7 x) (hz:Hd z) (ho:∀ c∈x.fClips,Yw dx dy c=true) :
  ∃ vd,DZ sum fs l v [] ((x.fClips.drop n).flatMap GF++(kW so x++z)) vd [] z/\VM dx dy (TN so x) outer x.fClips x.fClips its vd:=by
 have F:=hx.cl
 have k:v.s.clips.length+(x.fClips.drop n).length<=16:=by
  rw [h.clips,BD,AT,B4];omega
 obtain ⟨a,B,m,o,t,C,D,u⟩:=VO (sum:=sum) (fs:=fs) (l:=l) hdx hdy (x.fClips.drop n) v (y:=kW so x++z) h.inText h.clip h.path h.ctm (λc hc=>hx.clips c (Eu hc)) k (λc hc=>ho c (Eu hc)) (A2o hx z hz)
 have e:a.s.clips=x.fClips.map (RU dx dy):=by
  rw [u]
  show v.s.clips++_=_
  rw [h.clips,<- BC,HG]
 have f:a.s.ctm=Jj dx dy:=by rw [u];exact h.ctm
 have b:SoM a.s so:=by rw [u];exact ⟨h.so.fill,h.so.stroke,h.so.pen⟩
 have g:(x.fClips=[]/\a.saved=[])\/(x.fClips≠[]/\∃ s0,a.saved=[s0]/\SoM s0 outer/\s0.clips=[]/\s0.ctm=Jj dx dy):=by rw [C];exact h.saved
 have i:a.items=its:=by rw [D];exact h.items
 have key:∃ vd,DZ sum fs l a [] (kW so x++z) vd [] z/\VM dx dy (TN so x) outer x.fClips x.fClips its vd:=by
  unfold kW TN
  by_cases hk:x.fKind=3
  ·
   rw [A6 hk,A6 hk]
   have hp:=(hx.pnt oO).pen hk
   have w:=Yu (old:=so.pen) hp z hz
   have gc:∃ d,DZ sum fs l a [] ((if x.fColor≠so.stroke then Oh true x.fColor else [])++(ML so.pen x.fPen++z)) d [] (ML so.pen x.fPen++z)/\d={ a with s:={ a.s with stroke:=x.fColor } }:=by
    by_cases hc:x.fColor≠so.stroke
    ·
     rw [A6 hc]
     exact ⟨_,A2z true hx.col w,rfl⟩
    ·
     rw [A1 hc]
     refine ⟨a,DZ.refl _ _ _,?_⟩
     have:a.s.stroke=x.fColor:=b.stroke.trans (Classical.not_not.1 hc).symm
     rw [<- this]
   obtain ⟨d,gc,j⟩:=gc
   have A:Fy d.s.pen=Fy so.pen:=by rw [j];exact b.pen
   obtain ⟨q,hq,gp⟩:=A6t (sum:=sum) (fs:=fs) (l:=l) (v:=d) (old:=so.pen) (p:=x.fPen) (y:=z) hp A hz
   refine ⟨setPen d q,?_,?_⟩
   · rw [AE];exact gc.trans gp
   ·
    subst j
    exact ⟨m,o,t,f,⟨b.fill,rfl,hq⟩,e,g,i⟩
  ·
   rw [A1 hk,A1 hk]
   by_cases hc:x.fColor≠so.fill
   ·
    rw [A6 hc]
    exact ⟨_,A2z false hx.col hz,⟨m,o,t,f,⟨rfl,b.stroke,b.pen⟩,e,g,i⟩⟩
   ·
    rw [A1 hc]
    exact ⟨a,DZ.refl _ _ _,⟨m,o,t,f,⟨b.fill.trans (Classical.not_not.1 hc).symm,b.stroke,b.pen⟩,e,g,i⟩⟩
 obtain ⟨vd,E,hv⟩:=key
 exact ⟨vd,B.trans E,hv⟩
theorem A22 (x:AQ):LD (oW x):=by
 unfold oW
 refine .ite (λ_ y _=>A7t.hd _) (λ_=>.ite (λ_ y _=>A5n.hd _) (λ_=>.ite (λ_ y _=>A7v.hd _) (λ_ y _=>?_)))
 exact Hd.cons dD dD
theorem Yv {x:AQ} (hx:K7 x):LD (EB x.fPath):=by
 by_cases hk:x.fKind=4
 · rw [(hx.txt hk).path];exact .nil
 · exact .path (hx.pnt hk).segs
theorem A4H {so outer:RW} {its:List AQ} {v:Vw} {x:AQ} {z:l8_} (hdx:Ao dx=true) (hdy:Ao dy=true) (h:VM dx dy (TN so x) outer x.fClips x.fClips its v) (hx:K7 x) (hft:x.fKind=4->RS fs x.fFont) (hn:its.length<4096) (hz:Hd z) (ho:okI dx dy x=true) :
    ∃ v',DZ sum fs l v [] (EB x.fPath++(oW x++z)) v' [] z/\VI dx dy ⟨TN so x,outer,x.fClips⟩ (its++[mvI dx dy x]) v':=by
  unfold okI at ho
  rw [A3,A3] at ho
  obtain ⟨⟨E,F⟩,u⟩:=ho
  have f:∀ c∈x.fClips,Yw dx dy c=true:=Au.1 F
  by_cases hk:x.fKind=4
  · have ht := hx.txt hk
    rw [Aj hk,Bool.not_true,Bool.false_or,A3] at u
    obtain ⟨v',g,O,P,Q,R,C,T⟩:=A4E (sum:=sum) (l:=l) (v:=v) (x:=x) (y:=z) hdx hdy h.inText h.ctm ht (hft hk) (by rw [h.items];exact hn) hz u
    have eo:oW x=JR x:=by unfold oW;rw [A1 oO,A1 oO,A1 oO]
    rw [ht.path,eo]
    refine ⟨v',g,⟨O,P.trans h.clip,by rw [Q];exact h.path,by rw [C];exact h.ctm,by rw [C];exact ⟨h.so.fill,h.so.stroke,h.so.pen⟩,by rw [C];exact h.clips,f,by rw [R];exact h.saved,?_⟩⟩
    rw [T,h.items]
    congr 1
    have hf:v.s.fill=x.fColor:=by rw [h.so.fill];unfold TN;rw [A1 oO]
    unfold mvI HX
    rw [hf,h.clips,A6 hk,A6 hk,hk,ht.path,ht.pen]
    rfl
  · have hp := hx.pnt hk
    obtain ⟨p,i,t⟩:=Ug (sum:=sum) (fs:=fs) (l:=l) hdx hdy x.fPath v (y:=oW x++z) h.inText h.ctm (by rw [h.path];exact hp.segs) (by rw [h.path];simpa using hp.len) (A22 x z hz) E
    rw [h.path,CF] at i
    have o:p.list≠[]:=λe=>by
      rw [i] at e
      exact hp.path (List.map_eq_nil_iff.1 e)
    obtain ⟨G,H,J,K,L,M⟩:=hp.mat
    by_cases hk3:x.fKind=3
    · have hs : v.s.stroke = x.fColor := by rw [h.so.stroke]; unfold TN; rw [A6 hk3]
      have A:Fy v.s.pen=Fy x.fPen:=by have:=h.so.pen;unfold TN at this;rw [A6 hk3] at this;exact this
      have N:LC v.s.pen:=by
        have q:=hp.pen hk3
        have e:∀ {a b:Dz},Fy a=Fy b->LC b->LC a:=λ{a b} e q=>by
          unfold Fy at e
          simp only [Dz.mk.injEq] at e
          obtain ⟨f1,f2,f3,f4,-,f5,-,f6⟩:=e
          exact ⟨by rw [f1];exact q.w,by rw [f2];exact q.c,by rw [f3];exact q.j,by rw [f4];exact q.m,by rw [f6];exact q.ph,by rw [f5];exact q.d,by rw [f5];exact q.dl,by rw [f5];exact q.ds⟩
        exact e A q
      have D:=A0m (sum:=sum) (fs:=fs) (l:=l) (v:=Kp v p) (y:=z) h.inText h.clip o h.ctm N (by show v.items.length<4096;rw [h.items];exact hn) hz
      have eo:oW x=[83,10]:=by unfold oW;rw [A1 oO,A1 oO,A6 hk3]
      rw [eo] at t ⊢
      refine ⟨_,t.trans D,⟨h.inText,rfl,rfl,h.ctm,h.so,h.clips,f,h.saved,?_⟩⟩
      show v.items++[Fx 3 p.list v.s.stroke (Fy v.s.pen) v.s.clips]=_
      rw [h.items,i,hs,A,h.clips]
      unfold Fx mvI
      rw [A1 hk,A1 hk,hk3,hp.font,G,H,J,K,L,M,hp.bytes]
    · have B : x.fKind = 1 ∨ x.fKind = 2 := by rcases hp.kind with h | h | h; exact .inl h; exact .inr h; exact CM h hk3
      have hf:v.s.fill=x.fColor:=by rw [h.so.fill];unfold TN;rw [A1 hk3]
      have D:=A4G (sum:=sum) (fs:=fs) (l:=l) (v:=Kp v p) (k:=x.fKind) (y:=z) B h.inText h.clip o (by show v.items.length<4096;rw [h.items];exact hn) hz
      have eo:oW x=if x.fKind=1 then [102,10] else [102,42,10]:=by unfold oW;rcases B with e | e <;> rw [e] <;> rfl
      rw [eo] at t ⊢
      refine ⟨_,t.trans D,⟨h.inText,rfl,rfl,h.ctm,h.so,h.clips,f,h.saved,?_⟩⟩
      show v.items++[Fx x.fKind p.list v.s.fill JK v.s.clips]=_
      rw [h.items,i,hf,h.clips]
      unfold Fx mvI
      rw [A1 hk,A1 hk,hp.font,G,H,J,K,L,M,hp.bytes,hp.none hk3]
theorem A4F {st:PD} {its:List AQ} {v:Vw} {x:AQ} {z:l8_} (hdx:Ao dx=true) (hdy:Ao dy=true) (h:VI dx dy st its v) (hx:K7 x) (hft:x.fKind=4->RS fs x.fFont) (hn:its.length<4096) (hz:Hd z) (ho:okI dx dy x=true) :
  ∃ v',DZ sum fs l v [] (O5 st x++z) v' [] z/\VI dx dy (Pb st x) (its++[mvI dx dy x]) v':=by
 have ho':=ho
 unfold okI at ho'
 rw [A3,A3] at ho'
 have a:Hd (EB x.fPath++(oW x++z)):=Yv hx _ (A22 x z hz)
 have b:Hd ((x.fClips.drop (nC st x)).flatMap GF++(kW (GP st x) x++(EB x.fPath++(oW x++z)))):=Oi _ (λc hc=>hx.clips c (Eu hc)) _ (A2o hx _ a)
 obtain ⟨vb,d,e,-⟩:=A6s (sum:=sum) (fs:=fs) (l:=l) (x:=x) h b
 obtain ⟨vd,f,g⟩:=A6u (sum:=sum) (fs:=fs) (l:=l) hdx hdy e hx a (Au.1 ho'.1.2)
 obtain ⟨v',i,j⟩:=A4H (sum:=sum) (fs:=fs) (l:=l) hdx hdy g hx hft hn hz ho
 refine ⟨v',?_,j⟩
 have:=(d.trans f).trans i
 unfold O5
 simp only [AE] at this ⊢
 exact this
theorem A2q {st:PD} {x:AQ} (hx:K7 x):LD (O5 st x):=by
 unfold O5
 refine (LD.ite (λ_=>LD.op A6d [10]) (λ_=>.nil)).app ((LD.ite (λ_=>LD.op A6b [10]) (λ_=>.nil)).app ((Oi _ (λc hc=>hx.clips c (Eu hc))).app ((A2o hx).app ((Yv hx).app (A22 x)))))
theorem RE:∀ (xs:List AQ) (st:PD),(∀ x∈xs,K7 x)->Hd (FP st xs)
 | [],st,_=>by
  unfold FP
  split
  · exact Hd.nil
  · exact A6d.hd [10]
 | x::xs,st,h=>by
  unfold FP
  exact A2q (h x (by simp)) _ (RE xs _ λy hy=>h y (by simp [hy]))
theorem YL (hdx:Ao dx=true) (hdy:Ao dy=true):∀ (xs:List AQ) (st:PD) (its:List AQ) (v:Vw),VI dx dy st its v->(∀ x∈xs,K7 x)->(∀ x∈xs,x.fKind=4->RS fs x.fFont)->its.length+xs.length<=4096->xs.all (okI dx dy)=true ->
    ∃ v',DZ sum fs l v [] (FP st xs) v' [] []/\v'.saved=[]/\v'.inText=false/\v'.items=its++xs.map (mvI dx dy)
  | [],st,its,v,h,_,_,_,_=>by
    unfold FP
    rcases h.saved with ⟨e,e1⟩ | ⟨e,s0,e1,-⟩
    · rw [e]
      exact ⟨v,DZ.refl _ _ _,e1,h.inText,by rw [h.items];simp⟩
    · rw [A1 (by rw [List.isEmpty_iff]; exact e)]
      exact ⟨_,A7I (y:=[]) h.inText e1 Hd.nil,rfl,h.inText,by rw [DT,BK];exact h.items⟩
  | x::xs,st,its,v,h,hx,hf,hn,ho=>by
    rw [Cw,A3] at ho
    rw [A8] at hn
    obtain ⟨v1,g1,h1⟩:=A4F (sum:=sum) (fs:=fs) (l:=l) hdx hdy h (hx x (by simp)) (hf x (by simp)) oO (RE xs (Pb st x) λy hy=>hx y (by simp [hy])) ho.1
    obtain ⟨v2,g2,e1,e2,e3⟩:=YL hdx hdy xs (Pb st x) _ v1 h1 (λy hy=>hx y (by simp [hy])) (λy hy=>hf y (by simp [hy])) (by rw [A5,CD];omega) ho.2
    exact ⟨v2,g1.trans g2,e1,e2,by rw [e3];simp⟩
end
theorem vi0:VI 0 0 Hw [] Zj:=⟨rfl,rfl,rfl,rfl,⟨rfl,rfl,rfl⟩,rfl,λc hc=>(by cases hc),.inl ⟨rfl,rfl⟩,rfl⟩
theorem Oj (p:BQ):Ir 0 0 p=p:=by unfold Ir;rw [Int.add_zero,Int.add_zero]
theorem VD (s:CK):mvS 0 0 s=s:=by
 unfold mvS
 rw [Oj,Oj,Oj]
 split
 · rfl
 · split <;> rfl
theorem A1Z {s:CK} (h:Y5 s last):okS 0 0 s=true:=by
 unfold okS FB
 refine Au.2 λp hp=>?_
 rw [Oj]
 split at hp
 · rw [Am.1 hp];exact h.f0
 ·
  split at hp
  ·
   simp only [Ar,AA,C8] at hp
   rcases hp with rfl | rfl | rfl
   · exact h.f0
   · exact h.f1
   · exact h.f2
  · cases hp
theorem LV:∀ (ls:List CK) (last:Int),E4 last ls=true->ls.all (okS 0 0)=true
 | [],_,_=>rfl
 | s::ls,last,h=>by
  unfold E4 at h
  rw [A3] at h
  rw [Cw,A1Z (A1u h.1),LV ls _ h.2];rfl
theorem A20 {x:AQ} (h:K7 x):okI 0 0 x=true:=by
 have hc:x.fClips.all (Yw 0 0)=true:=Au.2 λc hc=>by
  have:=h.clips c hc
  unfold G5 Fk at this
  rw [A3,A3] at this
  exact LV _ 0 this.2.2
 unfold okI
 rw [hc,Bool.and_true]
 by_cases hk:x.fKind=4
 ·
  have ht:=h.txt hk
  have hm:=VE ht.mat
  rw [ht.path,Int.add_zero,Int.add_zero,show Ao x.fMatrix_4=true from hm.e,show Ao x.fMatrix_5=true from hm.f]
  simp
 · rw [LV _ 0 (h.pnt hk).segs,Al hk];rfl
theorem A2f (c:Bv):RU 0 0 c=Fn c:=by
 unfold RU Fn
 rw [show mvS 0 0=id from funext VD,List.map_id]
theorem A2e (x:AQ):mvI 0 0 x=Jd x:=by
 unfold mvI Jd
 rw [show mvS 0 0=id from funext VD,List.map_id,show RU 0 0=Fn from funext A2f,Int.add_zero,Int.add_zero]
 simp only [ite_self]
theorem A0C  {fs:List LE} {xs:List AQ} (hx:∀ x∈xs,Et x=true) (hf:∀ x∈xs,x.fKind=4->RS fs x.fFont) (hn:xs.length<=4096) :
  ∃ V,JI sum fs (FP Hw xs) ((FP Hw xs).length+1) 0 Zj []=.ok V/\V.items=xs.map Jd:=by
 have hk:∀ x∈xs,K7 x:=λx h=>A2r (hx x h)
 obtain ⟨v,g,c,d,e⟩:=YL (sum:=sum) (fs:=fs) (l:=FP Hw xs) Ie Ie xs Hw [] Zj vi0 hk hf (by simpa using hn) (Au.2 λx h=>A20 (hk x h))
 obtain ⟨a,f,hp,b,he⟩:=g 0 ((FP Hw xs).length+1) (.of (Gg _) (RE xs Hw hk)) (A0S _)
 refine ⟨v,he.trans (A6v hp b c d),?_⟩
 rw [e,CF]
 exact List.map_congr_left λx _=>A2e x
end
section
theorem A8I:Tryz.prog.eqGuardType Tryz.prog.depth 94=false:=by kernel_rfl
theorem A6y:Tryz.prog.eqGuardType Tryz.prog.depth 37=false:=by kernel_rfl
theorem PJ  (w:World) (d:Nat) (t e:TypeId) (n k:Nat) (cs ds:Array Value) (b:Nat->Bool) (ht:P.underlying t=some (.array n e)) (hsz:∀ w,(sizeOf e).run P w=.ok k w)
  (hp:∀ i,i<n->∃ v u,(part e cs (i * k)).run P w=.ok v w/\(part e ds (i * k)).run P w=.ok u w/\(Op.equalIn (d+1) e v u).run P w=.ok (b i) w) :
  (Op.equalIn (d+2) t (.agg cs) (.agg ds)).run P w=.ok ((List.range' 0 n 1).all b) w:=by
 rw [Op.equalIn]
 simp only [BB,B8 ht,B6,hsz,Std.Legacy.Range.forIn_eq_forIn_range',Std.Legacy.Range.size,Nat.sub_zero,Nat.add_sub_cancel,Nat.div_one]
 have hl:∀ i∈List.range' 0 n 1,i<n:=λi hi=>by simpa using (List.mem_range'_1.1 hi).2
 generalize List.range' 0 n 1=l at hl ⊢
 induction l with
 | nil=>simp
 | cons i l ih =>
  obtain ⟨v,u,pv,pu,pe⟩:=hp i (hl i (by simp))
  simp only [List.forIn_cons,BB,pv,pu,pe,B6,Cw]
  cases hb:b i with
  | false=>simp
  | true =>
   simp only [Bool.not_true,By,if_false,CX,B6,Cx]
   exact ih λj hj=>hl j (by simp [hj])
theorem A4Q (x y:BQ) (d:Nat) (w:World):(Op.equalIn (d+3) 57 (.agg (DH x).toArray) (.agg (DH y).toArray)).run Tryz.prog w=.ok (Ys x y) w:=by
 unfold DH Ys
 by_cases h1:x.fX=y.fX
 · by_cases h2:x.fY=y.fY <;> simp only [h1,h2] <;> go_simp
 · simp only [h1] ;go_simp
def Xl (s:CK):List Value:=DH s.fP_0++DH s.fP_1++DH s.fP_2
theorem Vr (x:CK) (i:Nat) (h:i<3) (w:World):(part 57 (Xl x).toArray (i * 2)).run Tryz.prog w=.ok (.agg (DH ([x.fP_0,x.fP_1,x.fP_2].getD i ⟨0,0⟩)).toArray) w:=by
 obtain rfl | rfl | rfl:i=0\/i=1\/i=2:=by omega
 all_goals (unfold part;go_simp;rfl)
theorem A2P (x y:CK) (w:World):(Op.equalIn 9999 92 (.agg (Xl x).toArray) (.agg (Xl y).toArray)).run Tryz.prog w=.ok (Ys x.fP_0 y.fP_0 && (Ys x.fP_1 y.fP_1 && (Ys x.fP_2 y.fP_2 && true))) w :=
 PJ w 9997 92 57 3 2 _ _ (λi=>Ys ([x.fP_0,x.fP_1,x.fP_2].getD i ⟨0,0⟩) ([y.fP_0,y.fP_1,y.fP_2].getD i ⟨0,0⟩)) MH Fs λi hi=>⟨_,_,Vr x i hi w,Vr y i hi w,A4Q _ _ 9995 w⟩
theorem A7y (x y:CK) (w:World):(binOp .neq 94 (.agg (JG x).toArray) (.agg (JG y).toArray)).run Tryz.prog w=.ok (.bool (!ZC x y)) w:=by
 have h:=A2P x y
 unfold Xl DH at h
 simp only [GR,CF,Bool.and_true,Bool.and_assoc] at h
 unfold JG DH ZC
 by_cases hk:x.fKind=y.fKind
 ·
  simp only [hk]
  go_simp
  clear h
  generalize Ys x.fP_0 y.fP_0=a
  generalize Ys x.fP_1 y.fP_1=b
  generalize Ys x.fP_2 y.fP_2=c
  cases a <;> cases b <;> cases c <;> simp
 ·
  simp only [hk]
  go_simp
theorem A5t (x y:C6) (w:World):(binOp .neq 37 (.agg (DI x).toArray) (.agg (DI y).toArray)).run Tryz.prog w=.ok (.bool (!decide (x=y))) w:=by
 have h:=GK w 9997 35 3 4 UH JQ B5 (Cl x) (Cl y) rfl rfl
 unfold Cl at h
 simp only [Co,DT,Jz] at h
 have hd:decide (x=y)=(decide (x.fSpace=y.fSpace) && ([x.fPart_0,x.fPart_1,x.fPart_2,x.fPart_3] == [y.fPart_0,y.fPart_1,y.fPart_2,y.fPart_3])):=by
  cases x;cases y
  simp only [C6.mk.injEq]
  rw [AU]
  simp
 rw [hd]
 unfold DI
 by_cases hk:x.fSpace=y.fSpace
 ·
  simp only [hk]
  go_simp
  clear h hd
  by_cases h0:x.fPart_0=y.fPart_0 <;> by_cases h1:x.fPart_1=y.fPart_1 <;> by_cases h2:x.fPart_2=y.fPart_2 <;> by_cases h3:x.fPart_3=y.fPart_3 <;> simp [h0,h1,h2,h3]
 ·
  simp only [hk]
  go_simp
theorem A7P (x y:C6) (h:x=y) (w:World):(binOp .eql 37 (.agg (DI x).toArray) (.agg (DI y).toArray)).run Tryz.prog w=.ok (.bool (decide True)) w:=by
 subst h
 have h:=GK w 9997 35 3 4 UH JQ B5 (Cl x) (Cl x) rfl rfl
 rw [beq_self_eq_true] at h
 unfold Cl at h
 simp only [Co,DT,Jz] at h
 unfold DI
 go_simp
theorem A7O (a0 a1 a2 a3 a4 a5:Int) (w:World):(binOp .eql 42 (.agg #[.int .i64 a0,.int .i64 a1,.int .i64 a2,.int .i64 a3,.int .i64 a4,.int .i64 a5]) (.agg #[.int .i64 a0,.int .i64 a1,.int .i64 a2,.int .i64 a3,.int .i64 a4,.int .i64 a5])).run Tryz.prog w=.ok (.bool (decide True)) w:=by
 have h:=GK w 9998 42 3 6 DU JQ B5 [a0,a1,a2,a3,a4,a5] [a0,a1,a2,a3,a4,a5] rfl rfl
 rw [beq_self_eq_true] at h
 simp only [Co,DT,Jz] at h
 go_simp
end
section
theorem ZM (p q:Option Addr) (l:l8_) (c d:Nat) (w:World) (ha:Av w p l) (hb:Av w q l) (hl:l.length<=9223372036854775807) :
  Calls Tryz.prog 41 #[.slice p l.length c,.slice q l.length d] w λe w'=>e=.returned (.bool true)/\Below w.heap.size w w':=by
 have o:0<l.length->(pA p).block<w.heap.size:=λf=>ha.lt f
 have u:0<l.length->(pA q).block<w.heap.size:=λf=>hb.lt f
 refine W.e func41 rfl ntmps41 bL ?_
 have v:=EM (w.heap.size) w
 refine A4<|A9 rfl<|Ah<|A4<|A2 rfl<|A0 (.lenS Bu rfl)<|A2 rfl<|A0 (.lenS Bu rfl)<|A0 (.neq rfl rfl)<|WL.e<|Ac rfl (λg=>?_) (λg=>?_)
 have x:=JY g
 omega
 have x:=JZ g
 refine W.k<|Ah<|A4<|A9 rfl<|W.b<|Cj (α:=Nat) (λt=>[(0,.slice p l.length c),(1,.slice q l.length d),(5,.int .i64 (t:Int))]) (λt w'=>Below w.heap.size w w'/\t<=l.length) (λt=>l.length-t) (0) ⟨rfl,rfl,rfl,tT⟩ (⟨v,Gg _⟩) (λt D hR=>?_)
 obtain ⟨s,rfl⟩:∃ s,s=t:=⟨t,rfl⟩
 obtain ⟨hT,hs⟩:=hR
 have a:=ha.below hT o
 have hb1:=hb.below hT u
 refine Ah<|A4<|A2 rfl<|A2 rfl<|A0 (.lenS Bu rfl)<|A0 (.lss rfl rfl)<|WL.e<|Ac rfl (λi=>?_) (λi=>?_)
 have y:=dT i
 refine W.k<|Ah<|W.b<|Ah<|E2 C7 kR<|At (.mv rfl) rfl<|At (.mv rfl) rfl<|At (.ixb Bu I7 rfl rfl (a.isp oD) (s) oO oO) rfl<|Di (λm=>AO (Ou _) rfl ((a.drewN m).cells (s) oO)) rfl<|At (.mv rfl) rfl<|At (.mv rfl) rfl<|At (.ixb Bu I7 rfl rfl (hb1.isp oD) (s) oO oO) rfl<|Di (λm=>AO (Ou _) rfl ((hb1.drewN m).cells (s) oO)) rfl<|At (.neq rfl rfl) rfl<|Da (λE A=>?_)
 have B:=CZ.below hT A
 refine Ac rfl (λj=>?_) (λj=>?_)
 have C:=JY j
 exact CM rfl aS
 have C:=JZ j
 refine W.k<|Ak<|A2 rfl<|A0 (.iis (((s+1:Nat):Int)) (.add rfl rfl (Bp oO)) oO)<|A9 rfl ?_
 exact ⟨s+1,⟨rfl,rfl,rfl,tT⟩,⟨B,by ((try simp only) <;> omega)⟩,by ((try simp only) <;> omega)⟩
 have y:=dF i
 refine C0<|A4<|A9 rfl<|Ai (AZ rfl rfl ?_)
 exact ⟨rfl,hT⟩
theorem ZN  {l l2:l8_} (he:l=l2) (ha:Av w p l) (hb:Av w q l2) (hl:l.length<=9223372036854775807) :
  Calls Tryz.prog 41 #[.slice p l.length c,.slice q l2.length d] w λe w'=>e=.returned (.bool true)/\Below w.heap.size w w':=by
 subst he;exact ZM p q l c d w ha hb hl
theorem A6x  {f:α->β} {l m:List α} (h:l.map f=m.map f):l.length=m.length:=by
 have:=Bc List.length h
 simpa using this
theorem A7N  {f:α->β} {l m:List α} (h:l.map f=m.map f) (hi:i<l.length) (hj:i<m.length):f l[i]=f m[i]:=by
 have:=Bc (·[i]?) h
 simpa [List.getElem?_map,hi,hj] using this
theorem Wi {α:Type} {f:α->α->Bool}:∀ {a b:List α},Kk f a b=true->a.length=b.length
 | [],[],_=>rfl
 | [],b::s,h=>by cases h
 | a::r,[],h=>by cases h
 | a::r,b::s,h=>by
  unfold Kk at h
  rw [A3] at h
  simp [Wi h.2]
theorem Z8  {f:α->α->Bool} {a b:List α} (h:a.length≠b.length):Kk f a b=false:=by
 cases he:Kk f a b with
 | false=>rfl
 | true=>exact CM (Wi he) h
theorem KL  {f:α->α->Bool} {a b:List α} (h1:i<a.length) (h2:i<b.length):Kk f (a.drop i) (b.drop i)=(f a[i] b[i] && Kk f (a.drop (i+1)) (b.drop (i+1))):=by
 rw [Ap h1,Ap h2];rfl
theorem MR (p q:Option Addr) (l l2:List CK) (c d:Nat) (w:World) (ha:Be Fq w p l) (hb:Be Fq w q l2) (hl:l.length<=9223372036854775807) :
  Calls Tryz.prog 39 #[.slice p l.length c,.slice q l2.length d] w λe w'=>e=.returned (.bool (Kk ZC l l2))/\CZ w w':=by
 have B:0<l.length->(pA p).block<w.heap.size:=λj=>ha.lt j
 have C:0<l2.length->(pA q).block<w.heap.size:=λj=>hb.lt j
 refine W.e func39 rfl ntmps39 bL ?_
 refine A4<|A9 rfl<|Ah<|A4<|A2 rfl<|A0 (.lenS Fj rfl)<|A2 rfl<|A0 (.lenS Fj rfl)<|A0 (.neq rfl rfl)<|WL.e<|Ac rfl (λo=>?_) (λo=>?_)
 have v:=JY o
 refine A4<|A9 rfl<|Ai (AZ rfl rfl ?_)
 exact ⟨Bl (Bc Value.bool (Z8 (show l.length≠l2.length by omega)).symm),by first | exact hT | exact CZ.refl _⟩
 have v:=JZ o
 have x:l.length=l2.length:=by omega
 refine W.k<|Ah<|A4<|A9 rfl<|W.b<|Cj (α:=Nat) (λt=>[(0,.slice p l.length c),(1,.slice q l2.length d),(5,.int .i64 (t:Int))]) (λt w'=>CZ w w'/\t<=l.length/\Kk ZC (l.drop t) (l2.drop t)=Kk ZC l l2) (λt=>l.length-t) (0) ⟨rfl,rfl,rfl,tT⟩ (⟨CZ.refl _,Gg _,rfl⟩) (λt D hR=>?_)
 obtain ⟨s,rfl⟩:∃ s,s=t:=⟨t,rfl⟩
 obtain ⟨hT,hs,hA⟩:=hR
 have f:=ha.drew hT
 have hb1:=hb.drew hT
 refine Ah<|A4<|A2 rfl<|A2 rfl<|A0 (.lenS Fj rfl)<|A0 (.lss rfl rfl)<|WL.e<|Ac rfl (λu=>?_) (λu=>?_)
 have y:=dT u
 have a:s<l.length:=by omega
 have g:s<l2.length:=by omega
 refine W.k<|Ah<|W.b<|Ah<|E2 C7 kR<|At (.mv rfl) rfl<|At (.mv rfl) rfl<|At (.ixm Fj Kq rfl rfl (f.isp oC) (s) (rfl) oO) rfl<|Di (λm=>DP JF rfl K0 (f.drewN m) (s) oC rfl) rfl<|At (.mv rfl) rfl<|At (.mv rfl) rfl<|At (.ixm Fj Kq rfl rfl (hb1.isp oC) (s) (rfl) oO) rfl<|Di (λm=>DP JF rfl K0 (hb1.drewN m) (s) oC rfl) rfl<|At (.bis (!ZC l[s] l2[s]) (.neAgg rfl rfl A8I (A7y _ _)) (by rfl)) rfl<|Da (λE i=>?_)
 refine Ac rfl (λA=>?_) (λA=>?_)
 refine A4<|A9 rfl<|Ai (AZ rfl rfl ?_)
 exact ⟨Bl (Bc Value.bool (show false=_ by rw [<- hA,KL a g,show ZC l[s] l2[s]=false by simp_all];rfl)),hT.trans i⟩
 refine W.k<|Ak<|A2 rfl<|A0 (.iis (((s+1:Nat):Int)) (.add rfl rfl (Bp oO)) oO)<|A9 rfl ?_
 exact ⟨s+1,⟨rfl,rfl,rfl,tT⟩,⟨hT.trans i,by ((try simp only) <;> omega),by rw [<- hA,KL a g,show ZC l[s] l2[s]=true by simp_all];rfl⟩,by ((try simp only) <;> omega)⟩
 have y:=dF u
 have a:s=l.length:=by omega
 refine C0<|A4<|A9 rfl<|Ai (AZ rfl rfl ?_)
 exact ⟨Bl (Bc Value.bool (show true=_ by rw [<- hA,a,F3,x,F3];rfl)),by first | exact hT | exact hT.trans DREW⟩
theorem LQ (p q:Option Addr) (l l2:List Bv) (c d:Nat) (w:World) (ha:Be Gk w p l) (hb:Be Gk w q l2) (hal:∀ x∈l,GX w x) (hbl:∀ x∈l2,GX w x) (hl:l.length<=9223372036854775807) :
  Calls Tryz.prog 25 #[.slice p l.length c,.slice q l2.length d] w λe w'=>e=.returned (.bool (A30 l l2))/\CZ w w':=by
 have J:0<l.length->(pA p).block<w.heap.size:=λu=>ha.lt u
 have K:0<l2.length->(pA q).block<w.heap.size:=λu=>hb.lt u
 unfold A30
 refine W.e func25 rfl ntmps25 bL ?_
 refine A4<|A9 rfl<|Ah<|A4<|A2 rfl<|A0 (.lenS Fi rfl)<|A2 rfl<|A0 (.lenS Fi rfl)<|A0 (.neq rfl rfl)<|WL.e<|Ac rfl (λv=>?_) (λv=>?_)
 have B:=JY v
 refine A4<|A9 rfl<|Ai (AZ rfl rfl ?_)
 exact ⟨Bl (Bc Value.bool (Z8 (show l.length≠l2.length by omega)).symm),by first | exact hT | exact CZ.refl _⟩
 have B:=JZ v
 have C:l.length=l2.length:=by omega
 refine W.k<|Ah<|A4<|A9 rfl<|W.b<|Cj (α:=Nat) (λt=>[(0,.slice p l.length c),(1,.slice q l2.length d),(5,.int .i64 (t:Int))]) (λt w'=>CZ w w'/\t<=l.length/\Kk clB (l.drop t) (l2.drop t)=Kk clB l l2) (λt=>l.length-t) (0) ⟨rfl,rfl,rfl,tT⟩ (⟨CZ.refl _,Gg _,rfl⟩) (λt L hR=>?_)
 obtain ⟨s,rfl⟩:∃ s,s=t:=⟨t,rfl⟩
 obtain ⟨hT,hs,hA⟩:=hR
 have g:=ha.drew hT
 have hb1:=hb.drew hT
 refine Ah<|A4<|A2 rfl<|A2 rfl<|A0 (.lenS Fi rfl)<|A0 (.lss rfl rfl)<|WL.e<|Ac rfl (λy=>?_) (λy=>?_)
 have D:=dT y
 have f:s<l.length:=by omega
 have i:s<l2.length:=by omega
 have j:=hal _ (AJ f)
 have E:=hbl _ (AJ i)
 refine W.k<|Ah<|W.b<|Ah<|E2 C7 kR<|At (.mv rfl) rfl<|At (.mv rfl) rfl<|At (.ixm Fi Kr rfl rfl (g.isp oC) (s) (rfl) oO) rfl<|At (.fa PH rfl Ot dD rfl) rfl<|Di (λm=>AO (g4_ _) rfl (((g.drewN m).field (s) oC 1 dD).trans rfl)) rfl<|At (.mv rfl) rfl<|At (.mv rfl) rfl<|At (.ixm Fi Kr rfl rfl (hb1.isp oC) (s) (rfl) oO) rfl<|At (.fa PH rfl Ot dD rfl) rfl<|Di (λm=>AO (g4_ _) rfl (((hb1.drewN m).field (s) oC 1 dD).trans rfl)) rfl<|At (.neb u4_ rfl rfl) rfl<|At (.mv rfl) rfl<|M9 rfl rfl rfl (λa=>?_) (λa=>?_)
 have F:=JZ a
 refine At (.mv rfl) rfl<|BT rfl rfl rfl a<|At (.mv rfl) rfl<|BT rfl rfl rfl a<|At (.ixm Fi Kr rfl rfl (g.isp oC) (s) (rfl) oO) rfl<|BT rfl rfl rfl a<|At (.fa PH rfl IL dD rfl) rfl<|BT rfl rfl rfl a<|Di (λm=>AO (JL _) rfl (((g.drewN m).field (s) oC 0 dD).trans rfl)) rfl<|BT rfl rfl rfl a<|At (.mv rfl) rfl<|BT rfl rfl rfl a<|At (.mv rfl) rfl<|BT rfl rfl rfl a<|At (.ixm Fi Kr rfl rfl (hb1.isp oC) (s) (rfl) oO) rfl<|BT rfl rfl rfl a<|At (.fa PH rfl IL dD rfl) rfl<|BT rfl rfl rfl a<|Di (λm=>AO (JL _) rfl (((hb1.drewN m).field (s) oC 0 dD).trans rfl)) rfl<|BT rfl rfl rfl a<|WQ.c1 AN rfl rfl (λm=>((MR _ _ _ _ _ _ _ (j.drew (hT.trans ⟨m,rfl⟩)).row_fPath (E.drew (hT.trans ⟨m,rfl⟩)).row_fPath j.sl_fPath.len).mono λe w' h=>⟨h.1,CZ.trans ⟨m,rfl⟩ h.2⟩))<|BT rfl rfl rfl a<|At (.not rfl) rfl<|At (.pkF rfl a rfl) rfl<|Da (λN o=>?_)
 refine Ac rfl (λA=>?_) (λA=>?_)
 have G:=(nT A)
 refine A4<|A9 rfl<|Ai (AZ rfl rfl ?_)
 exact ⟨Bl (Bc Value.bool (show false=_ by rw [<- hA,KL f i,show clB l[s] l2[s]=false by unfold clB;simp_all];rfl)),hT.trans o⟩
 have G:=(nF A)
 refine W.k<|Ak<|A2 rfl<|A0 (.iis (((s+1:Nat):Int)) (.add rfl rfl (Bp oO)) oO)<|A9 rfl ?_
 exact ⟨s+1,⟨rfl,rfl,rfl,tT⟩,⟨hT.trans o,by ((try simp only) <;> omega),by rw [<- hA,KL f i,show clB l[s] l2[s]=true by unfold clB;simp_all];rfl⟩,by ((try simp only) <;> omega)⟩
 have F:=JY a
 refine Bb rfl rfl rfl a<|Bb rfl rfl rfl a<|Bb rfl rfl rfl a<|Bb rfl rfl rfl a<|Bb rfl rfl rfl a<|Bb rfl rfl rfl a<|Bb rfl rfl rfl a<|Bb rfl rfl rfl a<|Bb rfl rfl rfl a<|Bb rfl rfl rfl a<|Bb rfl rfl rfl a<|At (.pkT rfl a rfl) rfl<|Da (λP H=>?_)
 refine DR rfl rfl<|A4<|A9 rfl<|Ai (AZ rfl rfl ?_)
 exact ⟨Bl (Bc Value.bool (show false=_ by rw [<- hA,KL f i,show clB l[s] l2[s]=false by unfold clB;simp_all];rfl)),hT.trans H⟩
 have D:=dF y
 have f:s=l.length:=by omega
 refine C0<|A4<|A9 rfl<|Ai (AZ rfl rfl ?_)
 exact ⟨Bl (Bc Value.bool (show true=_ by rw [<- hA,f,F3,C,F3];rfl)),by first | exact hT | exact hT.trans DREW⟩
end
section
theorem MS (n:Int) (w:World) (h:Ao n=false) :
  Calls Tryz.prog 40 #[.int .i64 n] w λe w'=>e=.returned (.string (bs [48]))/\Below w.heap.size w w':=by
 go_enter func40,ntmps40
 go_wp2_with (go_at_call 15;refine (H7 _ _).mono ?_;rintro e a ⟨rfl,rfl⟩)
 go_ret
 exact ⟨rfl,EM _ _⟩
theorem RC (n:Int) (h:0<=n):E5 n=DY n.toNat:=by
 unfold E5;rw [A1 oO];congr 1;omega
theorem SW (n m:Int) (hm:m=(n.natAbs:Int)):DG n=LO n++E5 (m / 65536)++(if 0<m % 65536 then [46] else [])++IU (m % 65536).toNat:=by
  subst hm
  rw [RC _ oO]
  have a:((n.natAbs:Int) / 65536).toNat=n.natAbs / 65536:=by omega
  have b:((n.natAbs:Int) % 65536).toNat=n.natAbs % 65536:=by omega
  rw [a,b]
  unfold DG If Ln
  by_cases h0:n.natAbs % 65536=0
  · have hc : ¬ (0 : Int) < (n.natAbs : Int) % 65536 := by omega
    simp [hc,h0,L7]
  · have hc : (0 : Int) < (n.natAbs : Int) % 65536 := by omega
    simp [hc,VP _ (show 0<n.natAbs % 65536 by omega) oO]
theorem A6P:(⟨#[]⟩:ByteArray)=bs []:=rfl
theorem A38 (c:UInt8):(⟨#[c]⟩:ByteArray)=bs [c]:=rfl
theorem S7 (n:Int) (w:World) (h:0<=n) (h':n<=2147483647) :
    Calls Tryz.prog 40 #[.int .i64 n] w λe w'=>e=.returned (.string (bs (DG n)))/\Below w.heap.size w w':=by
  have hf:=Mz (n:=n) oO h'
  have hd:=KJ (n / 65536) oO oO
  have hP:=SW n n oO
  rw [LO,A1 oO] at hP
  by_cases hr:0<n % 65536
  all_goals
    first | rw [A6 hr] at hP | rw [A1 hr] at hP
    have HP:=Ev hP;clear hP
    go_enter func40,ntmps40
    go_wp2_with first | (go_at_call 15;refine (H7 _ _).mono ?_;rintro e c ⟨rfl,rfl⟩) | (go_at_call 12;go_must (refine (Ji _ _ oO oO).mono ?_);rintro e c ⟨rfl,hb1⟩)
    go_loopw [3,4] (λs r wr=>∃ (t:l8_) (m:Nat),s=.string (bs t)/\r=.int .i64 m/\m<65536/\Below w.heap.size w wr/\t.length+(IU m).length<=60/\DG n=t++IU m) (λ_ r _=>(IU (intOf r).toNat).length)
    case atStart =>
      have hl:=My (n % 65536).toNat
      rw [BE] at hd
      refine ⟨_,(n % 65536).toNat,?_,by go_num,by omega,hb1,?_,HP.out⟩
      · simp [A6P,A38,FH]
      · simp;omega
    case round =>
      obtain ⟨t,m,rfl,rfl,hm,hb,i,hp⟩:=hrel
      have Hp:=Ev hp;clear hp HP
      by_cases hm0:0<m
      · have b := Nm m hm0 hm
        have Hst:=Ev b;clear b
        have d:=Bc List.length Hst.out
        simp only [A8] at d
        have l:(bs t).size<=60:=by rw [BE];omega
        have o:=KJ ((m:Int) * 10 / 65536) oO oO
        clear hd hb1
        have f:=hb.size
        go_wp2_with (go_at_call 12;go_must (refine (Ji _ _ oO oO).mono ?_);rintro e c ⟨rfl,hb1⟩)
        have g:E5 ((m:Int) * 10 / 65536)=[ch (48+((m * 10 / 65536:Nat):Int))]:=by
          rw [RC _ oO,JA _ oO,Int.toNat_of_nonneg oO,Int.natCast_ediv,Int.natCast_mul];rfl
        refine ⟨⟨t++E5 ((m:Int) * 10 / 65536),m * 10 % 65536,by rw [FH],by go_num,by omega,hb.trans (hb1.mono f),?_,?_⟩,?_⟩
        · rw [g];simp;omega
        · rw [Hp.out,Hst.out,g];simp
        · have j : ((m : Int) * 10 % 65536).toNat = m * 10 % 65536 := by omega
          have k:((m:Int)).toNat=m:=by omega
          simp only [intOf,j,k];omega
      · have a : m = 0 := by omega
        have Hm:=Ev a;clear a
        go_wp2
        go_ret
        exact ⟨Yr (by rw [Hp.out,Hm.out,L7,BK]),hb⟩
theorem S8 (k:Int) (w:World) (h:0<k) (h':k<=2147483648) :
    Calls Tryz.prog 40 #[.int .i64 (-k)] w λe w'=>e=.returned (.string (bs (DG (-k))))/\Below w.heap.size w w':=by
  have hf:=Mz (n:=-k) oO oO
  have hd:=KJ (k / 65536) oO oO
  have hP:=SW (-k) k oO
  rw [LO,A6 oO] at hP
  by_cases hr:0<k % 65536
  all_goals
    first | rw [A6 hr] at hP | rw [A1 hr] at hP
    have HP:=Ev hP;clear hP
    go_enter func40,ntmps40
    go_wp2_with first | (go_at_call 15;refine (H7 _ _).mono ?_;rintro e c ⟨rfl,rfl⟩) | (go_at_call 12;go_must (refine (Ji _ _ oO oO).mono ?_);rintro e c ⟨rfl,hb1⟩)
    go_loopw [3,4] (λs r wr=>∃ (t:l8_) (m:Nat),s=.string (bs t)/\r=.int .i64 m/\m<65536/\Below w.heap.size w wr/\t.length+(IU m).length<=60/\DG (-k)=t++IU m) (λ_ r _=>(IU (intOf r).toNat).length)
    case atStart =>
      have hl:=My (k % 65536).toNat
      rw [BE] at hd
      refine ⟨_,(k % 65536).toNat,?_,by go_num,by omega,hb1,?_,HP.out⟩
      · simp [A38,FH]
      · simp;omega
    case round =>
      obtain ⟨t,m,rfl,rfl,hm,hb,i,hp⟩:=hrel
      have Hp:=Ev hp;clear hp HP
      by_cases hm0:0<m
      · have b := Nm m hm0 hm
        have Hst:=Ev b;clear b
        have d:=Bc List.length Hst.out
        simp only [A8] at d
        have o:(bs t).size<=60:=by rw [BE];omega
        have q:=KJ ((m:Int) * 10 / 65536) oO oO
        clear hd hb1
        have f:=hb.size
        go_wp2_with (go_at_call 12;go_must (refine (Ji _ _ oO oO).mono ?_);rintro e c ⟨rfl,hb1⟩)
        have g:E5 ((m:Int) * 10 / 65536)=[ch (48+((m * 10 / 65536:Nat):Int))]:=by
          rw [RC _ oO,JA _ oO,Int.toNat_of_nonneg oO,Int.natCast_ediv,Int.natCast_mul];rfl
        refine ⟨⟨t++E5 ((m:Int) * 10 / 65536),m * 10 % 65536,by rw [FH],by go_num,by omega,hb.trans (hb1.mono f),?_,?_⟩,?_⟩
        · rw [g];simp;omega
        · rw [Hp.out,Hst.out,g];simp
        · have j : ((m : Int) * 10 % 65536).toNat = m * 10 % 65536 := by omega
          have l:((m:Int)).toNat=m:=by omega
          simp only [intOf,j,l];omega
      · have a : m = 0 := by omega
        have Hm:=Ev a;clear a
        go_wp2
        go_ret
        exact ⟨Yr (by rw [Hp.out,Hm.out,L7,BK]),hb⟩
theorem SQ (n:Int) (w:World) :
    Calls Tryz.prog 40 #[.int .i64 n] w λe w'=>e=.returned (.string (bs (DG (norm n))))/\Below w.heap.size w w':=by
  have a:DG 0=[48]:=by
    have hz:Ln 0=[]:=rfl
    have hd:DY 0=[48]:=by rw [JA 0 oO];rfl
    simp [DG,LO,If,hz,hd]
  unfold norm
  by_cases h1:n < -2147483648
  · rw [Oa h1];simp only [By,if_false,a];exact MS n w (Oa h1)
  · by_cases h2 : 2147483647 < n
    · rw [VV h2];simp only [By,if_false,a];exact MS n w (VV h2)
    · rw [Mz oO oO]
      by_cases h3:n<0
      · have h := S8 (-n) w oO oO
        rw [Int.neg_neg] at h;exact h
      · exact S7 n w oO oO
theorem Vi (n:Int):(bs (DG (norm n))).size<=60:=by
 have a:=WP (norm n)
 have b:=UC (norm n) (A4h n) (A4i n)
 have c:=Xc (norm n)
 rw [BE] at *
 unfold DG
 split <;> simp <;> omega
end
end Go.Proofs.YthmhfjeojkbpfaaGreatDoor
