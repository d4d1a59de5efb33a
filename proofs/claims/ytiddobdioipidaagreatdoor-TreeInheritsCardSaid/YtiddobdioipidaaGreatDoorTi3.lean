/-
  What the claim leans on, part 3: pruned and joined by my own tool out of the texts that stand in wip/ as templates.
-/
import Derived.Test.YtiddobdioipidaaGreatDoorTi2
set_option maxHeartbeats 6400000
set_option maxRecDepth 100000
namespace Go.Proofs.YtiddobdioipidaaGreatDoor
open Go.RowKit
open Go.Proofs.Tryz
variable {pa pb:Addr} {aft:Array Edge} {ops:Array Oper} {ats:Array TypeId} {args cs:Array Value} {st:Bool} {Q:Exit->Fr->World->Prop} {f:Fr} {F:FuncId} {D a:Int} {ks:List (List UInt8)} {ns:List Int} {A d l s:List UInt8} {vs xs:List Value} {B M N bf c i id j wk:Nat} {S T:Nat->Prop} {x y:Operand} {dp kp lp p:Option Addr} {P:Program} {pos:String} {α ι:Type} {E e ta tb tx ty:TypeId} {u v z:Value} {w w' w1:World} {S':World->Prop}
section
theorem VR (r:Nat) (p:Option Addr) (l:l8_) (c n:Nat) (w:World) (h:Iq w r p l c n) (hne:0<l.length->(pA p).block≠r) (hc:l.length<=c) (hl:l.length<=100000000) (ht:n<=l.length) :
  Calls Tryz.prog 157 #[ptV r] w (Cf 35 (Mv (l.drop n)) (λa=>a.1.val) (A2a w r p l c) (λw'=>Bh w.heap.size r w w')):=by
 have hr:=h.1
 have hb:=h.2
 refine Ar func157 rfl ntmps157 ?_
 have cM:=Bh.refl (w.heap.size) r w
 refine A4<|Bj HJ rfl (λb1 eN b7 b8 aE ez=>?_)
 have dM:=Bl b7 hr.lt
 have dN:=hr.un aE dM
 have d:=λh0=>b7▸hb.lt h0
 have dO:=Ce hb aE d
 have bK:=CF b7 cM.size
 have cN:=BC cM (DJ aE bK)
 refine A0<|A4<|A3 rfl<|Ao (YB r p l c n _ ⟨dN,dO⟩ hne hl ht) (λw7 aI=>?_)
 have cO:=aI.1.1
 have dP:=Gn b8 aI.2 b8.lt oO
 have b9:=aI.1.2
 have cS:=BC cN (EX aI.2 cN.size)
 have cP:=HM false l n
 have eO:=Ec false l n
 generalize B4 false l n=s at *
 refine A0<|Ad<|A4<|A3 rfl<|Ao (Ln r p l c s _ ⟨cO,b9⟩) (λeP ae=>?_)
 have af:=cO.drew ae
 have ba:=dP.drew ae
 have ag:=b9.drew ae
 have bb:=BC cS (Mf ae)
 refine A1 (.not rfl)<|A0<|Ai rfl (λbc=>?_) (λbc=>?_)
 have cT:=(nT bc)
 refine A4<|A1 (.buildL (ps:=_) I6 rfl rfl rfl pZ) ?_
 refine Ax rfl rfl ba BL rfl rfl (λeQ bL ah ei=>?_)
 have cU:=af.up ah
 have cV:=Ce ag ah d
 have cW:=BC bb (DJ ah oO)
 refine A0<|AT (BI rfl rfl (Be bL DX rfl BL)  ?_)
 exact Cf.ok (⟨0,0,[]⟩,[]) (A01 cP (by simp_all)) rfl ⟨s,by rw [Bv (by simp_all)],oO,⟨cU,cV⟩,cW⟩
 have cT:=(nF bc)
 have bd:s<l.length:=by simp_all
 have hT:=A2J cP bd
 obtain ⟨x,hx⟩:=eX (l[s]'bd)
 rw [<- hx] at hT
 have cQ:=F6 l s oO
 refine Ap<|Ad<|Ad<|DH BR kR<|WQ.p (.mv rfl) rfl<|WQ.p (.nck rfl) rfl<|WQ.p (.fa Dj rfl D8 dD rfl) rfl<|Db (λm=>Ae (g22_ _) rfl af rfl) rfl<|WQ.p (.mv rfl) rfl<|WQ.p (.nck rfl) rfl<|WQ.p (.fa Dj rfl Bw dD rfl) rfl<|Db (λm=>Ae (BZ _) rfl af rfl) rfl<|WQ.p (.ixb B1 EA rfl rfl (ag.isp oO) (s) oO oO) rfl<|Db (λm=>Rd.iis ((x.toNat:Int)) (Bq (Iz _) rfl ((ag.drewN m).cells (s) oO)) (by rw [hx])) rfl<|WQ.p (.as rfl) rfl<|CX (λeR ai=>?_)
 have b:=af.drew ai
 have i:=ba.drew ai
 have j:=ag.drew ai
 have f:=BC bb (Mf ai)
 refine A4<|A3 rfl<|A0<|AO<|A4<|A1 (.eql rfl rfl)<|A9 rfl<|Ai rfl (λbe=>?_) (λbe=>?_)
 have cX:=dT be
 refine A4<|A3 rfl<|A1 (.nck rfl)<|A1 (.fa Dj rfl Bw dD rfl)<|Ah (Ae (BZ _) rfl b rfl)<|A1 (.iis (((s+1:Nat):Int)) (.add rfl rfl (Ba oO)) oO)<|A1 (.nck rfl)<|A1 (.fa Dj rfl Bw dD rfl)<|Br Bw rfl rfl rfl b (by exact Nat.le_of_ble_eq_true rfl) (λdQ aj C ej=>?_)
 have aj:B0 dQ r _ _:=aj
 have C:CK r _ _:=C
 have bf:=i.up C
 have cY:=Ag.upd j C hne
 have ak:=BC f (Bp C)
 refine A0<|A4<|A3 rfl<|C1 BK rfl rfl ((VU r p l c (s+1) _ ⟨aj,cY⟩ hne hc hl oO)) (λdR dS am k=>?_) (λdU dS am k=>?_)
 have bg:=BC ak (EX k ak.size)
 exact Bt (BB dR (by rw [hT,show x=40 from Co aS,A06];exact am) bg)
 obtain ⟨kr,a3,a4,k⟩:=k
 have cZ:=k.1.1
 have c':=Gn bf k.2 bf.lt oO
 have d0:=k.1.2
 have d1:=BC ak (EX k.2 ak.size)
 have D:=am
 obtain ⟨a0,aJ⟩:=eX dU
 refine Ax rfl rfl c' BL rfl rfl (λeS bM an ek=>?_)
 have d2:=cZ.up an
 have d3:=Ce d0 an d
 have d4:=BC d1 (DJ an oO)
 refine A0<|AT (BI rfl rfl (Be bM DX rfl BL)  ?_)
 exact Cf.ok _ (by rw [hT,show x=40 from Co aS,A06];exact D) rfl ⟨_,a3,a4,⟨d2,d3⟩,d4⟩
 have cX:=dF be
 refine A4<|A1 (.eql rfl rfl)<|A9 rfl<|Ai rfl (λbh=>?_) (λbh=>?_)
 have d5:=dT bh
 refine Am<|A1 (.mkI Kr rfl)<|Fd rfl (Bt ?_)
 exact BB 14 (by rw [hT,show x=41 from Co aS,A4M]) f
 have d5:=dF bh
 refine Ad<|A4<|A1 (.eql rfl rfl)<|A9 rfl<|Ai rfl (λaK=>?_) (λaK=>?_)
 have d6:=dT aK
 refine Ap<|BQ rfl aK<|A4<|A3 rfl<|A1 (.nck rfl)<|A1 (.fa Dj rfl Bw dD rfl)<|Ah (Ae (BZ _) rfl b rfl)<|A1 (.iis (((s+1:Nat):Int)) (.add rfl rfl (Ba oO)) oO)<|A1 (.nck rfl)<|A1 (.fa Dj rfl Bw dD rfl)<|Br Bw rfl rfl rfl b (by exact Nat.le_of_ble_eq_true rfl) (λdV ao E el=>?_)
 have ao:B0 dV r _ _:=ao
 have E:CK r _ _:=E
 have bi:=i.up E
 have d7:=Ag.upd j E hne
 have ap:=BC f (Bp E)
 refine A0<|A4<|A3 rfl<|A3 rfl<|C1 BK rfl rfl ((PJ r p l c (s+1) x _ ⟨ao,d7⟩ hne hc hl oO (by rintro rfl;first | exact De (show (0:Int)=60 by assumption) dD | exact De (show (0:Int)=62 by assumption) dD))) (λdW dX aq o=>?_) (λdY dX aq o=>?_)
 have bj:=BC ap (EX o ap.size)
 exact Bt (BB dW (by rw [hT,show x=60 from Co aS,A04,<- show x=60 from Co aS];exact aq) bj)
 obtain ⟨kr,a3,a4,o⟩:=o
 have d8:=o.1.1
 have d9:=Gn bi o.2 bi.lt oO
 have da:=o.1.2
 have db:=BC ap (EX o.2 ap.size)
 have D:=aq
 obtain ⟨a0,aJ⟩:=eX dY
 refine Ax rfl rfl d9 BL rfl rfl (λeT bN ar em=>?_)
 have dc:=d8.up ar
 have dd:=Ce da ar d
 have de:=BC db (DJ ar oO)
 refine A0<|AT (BI rfl rfl (Be bN DX rfl BL)  ?_)
 exact Cf.ok _ (by rw [hT,show x=60 from Co aS,A04,<- show x=60 from Co aS];exact D) rfl ⟨_,a3,a4,⟨dc,dd⟩,de⟩
 have d6:=dF aK
 refine Am<|A1 (.eql rfl rfl)<|A9 rfl<|Ai rfl (λbk=>?_) (λbk=>?_)
 have df:=dT bk
 refine A4<|A3 rfl<|A1 (.nck rfl)<|A1 (.fa Dj rfl Bw dD rfl)<|Ah (Ae (BZ _) rfl b rfl)<|A1 (.iis (((s+1:Nat):Int)) (.add rfl rfl (Ba oO)) oO)<|A1 (.nck rfl)<|A1 (.fa Dj rfl Bw dD rfl)<|Br Bw rfl rfl rfl b (by exact Nat.le_of_ble_eq_true rfl) (λdZ au F en=>?_)
 have au:B0 dZ r _ _:=au
 have F:CK r _ _:=F
 have bm:=i.up F
 have dg:=Ag.upd j F hne
 have av:=BC f (Bp F)
 refine A0<|A4<|A3 rfl<|A3 rfl<|C1 BK rfl rfl ((PJ r p l c (s+1) x _ ⟨au,dg⟩ hne hc hl oO (by rintro rfl;first | exact De (show (0:Int)=60 by assumption) dD | exact De (show (0:Int)=62 by assumption) dD))) (λd' e0 aw q=>?_) (λe1 e0 aw q=>?_)
 have bn:=BC av (EX q av.size)
 exact Bt (BB d' (by rw [hT,show x=62 from Co aS,A03,<- show x=62 from Co aS];exact aw) bn)
 obtain ⟨kr,a3,a4,q⟩:=q
 have dh:=q.1.1
 have di:=Gn bm q.2 bm.lt oO
 have dj:=q.1.2
 have dk:=BC av (EX q.2 av.size)
 have D:=aw
 obtain ⟨a0,aJ⟩:=eX e1
 refine Ax rfl rfl di BL rfl rfl (λeU bO ax eo=>?_)
 have dl:=dh.up ax
 have dm:=Ce dj ax d
 have dn:=BC dk (DJ ax oO)
 refine A0<|AT (BI rfl rfl (Be bO DX rfl BL)  ?_)
 exact Cf.ok _ (by rw [hT,show x=62 from Co aS,A03,<- show x=62 from Co aS];exact D) rfl ⟨_,a3,a4,⟨dl,dm⟩,dn⟩
 have df:=dF bk
 refine Ad<|A4<|A1 (.eql rfl rfl)<|A9 rfl<|Ai rfl (λaL=>?_) (λaL=>?_)
 have dp:=dT aL
 refine Ap<|BQ rfl aL<|A4<|A3 rfl<|A1 (.nck rfl)<|A1 (.fa Dj rfl Bw dD rfl)<|Ah (Ae (BZ _) rfl b rfl)<|A1 (.iis (((s+1:Nat):Int)) (.add rfl rfl (Ba oO)) oO)<|A1 (.nck rfl)<|A1 (.fa Dj rfl Bw dD rfl)<|Br Bw rfl rfl rfl b (by exact Nat.le_of_ble_eq_true rfl) (λe2 ay G ep=>?_)
 have ay:B0 e2 r _ _:=ay
 have G:CK r _ _:=G
 have bo:=i.up G
 have dq:=Ag.upd j G hne
 have dr:=BC f (Bp G)
 refine A0<|Ad<|A4<|A3 rfl<|A1 (.eql rfl rfl)<|A0<|Ai rfl (λbp=>?_) (λbp=>?_)
 have ds:=dT bp
 refine A4<|A1 (.buildL (ps:=_) I6 rfl rfl rfl pS) ?_
 refine Ax rfl rfl bo BL rfl rfl (λeV bP az eq=>?_)
 have dt:=ay.up az
 have du:=Ce dq az d
 have dv:=BC dr (DJ az oO)
 refine A0<|AT (BI rfl rfl (Be bP DX rfl BL)  ?_)
 exact Cf.ok (⟨7,0,[]⟩,l.drop (s+1)) (by rw [hT,show x=123 from Co aS,A2M]) rfl ⟨_,rfl,oO,⟨dt,du⟩,dv⟩
 have ds:=dF bp
 refine Ap<|A4<|A1 (.buildL (ps:=_) I6 rfl rfl rfl pS) ?_
 refine Ax rfl rfl bo BL rfl rfl (λeW bQ er es=>?_)
 refine A0<|AT (BI rfl rfl (Be bQ DX rfl BL)  ?_)
 (exfalso;omega)
 have dp:=dF aL
 refine Am<|A1 (.eql rfl rfl)<|A9 rfl<|Ai rfl (λbq=>?_) (λbq=>?_)
 have dw:=dT bq
 refine A4<|A3 rfl<|A1 (.nck rfl)<|A1 (.fa Dj rfl Bw dD rfl)<|Ah (Ae (BZ _) rfl b rfl)<|A1 (.iis (((s+1:Nat):Int)) (.add rfl rfl (Ba oO)) oO)<|A1 (.nck rfl)<|A1 (.fa Dj rfl Bw dD rfl)<|Br Bw rfl rfl rfl b (by exact Nat.le_of_ble_eq_true rfl) (λe3 aA H et=>?_)
 have aA:B0 e3 r _ _:=aA
 have H:CK r _ _:=H
 have bt:=i.up H
 have dx:=Ag.upd j H hne
 have dy:=BC f (Bp H)
 refine A0<|Ad<|A4<|A3 rfl<|A1 (.eql rfl rfl)<|A0<|Ai rfl (λbu=>?_) (λbu=>?_)
 have dz:=dT bu
 refine A4<|A1 (.buildL (ps:=_) I6 rfl rfl rfl pS) ?_
 refine Ax rfl rfl bt BL rfl rfl (λeY bR eu ev=>?_)
 refine A0<|AT (BI rfl rfl (Be bR DX rfl BL)  ?_)
 (exfalso;omega)
 have dz:=dF bu
 refine Ap<|A4<|A1 (.buildL (ps:=_) I6 rfl rfl rfl pS) ?_
 refine Ax rfl rfl bt BL rfl rfl (λeA bv a5 e4=>?_)
 have bS:=aA.up a5
 have bT:=Ce dx a5 d
 have bU:=BC dy (DJ a5 oO)
 refine A0<|AT (BI rfl rfl (Be bv DX rfl BL)  ?_)
 exact Cf.ok (⟨8,0,[]⟩,l.drop (s+1)) (by rw [hT,show x=125 from Co aS,A2L]) rfl ⟨_,rfl,oO,⟨bS,bT⟩,bU⟩
 have dw:=dF bq
 refine Ad<|A4<|A1 (.eql rfl rfl)<|A9 rfl<|Ai rfl (λaB=>?_) (λaB=>?_)
 have bV:=dT aB
 refine Ap<|BQ rfl aB<|A4<|A3 rfl<|A1 (.nck rfl)<|A1 (.fa Dj rfl Bw dD rfl)<|Ah (Ae (BZ _) rfl b rfl)<|A1 (.iis (((s+1:Nat):Int)) (.add rfl rfl (Ba oO)) oO)<|A1 (.nck rfl)<|A1 (.fa Dj rfl Bw dD rfl)<|Br Bw rfl rfl rfl b (by exact Nat.le_of_ble_eq_true rfl) (λdA J t e5=>?_)
 have J:B0 dA r _ _:=J
 have t:CK r _ _:=t
 have aM:=i.up t
 have aN:=Ag.upd j t hne
 have aO:=BC f (Bp t)
 refine A0<|A4<|A3 rfl<|Cs (ps:=_) B1 EA Mt rfl rfl rfl rfl rfl pR rfl (λeB ew U bw K e6=>?_)
 have bW:=Bl U J.lt
 have bX:=J.un K bW
 have bY:=Bl U aM.lt
 have bZ:=aM.un K bY
 have bz:=λh0=>U▸aN.lt h0
 have b':=Ce aN K bz
 have b2:=CF U aO.size
 have c0:=BC aO (DJ K b2)
 refine Ah (Fm (l:=[x]) B1 FK Gk rfl (Ag.one bw rfl))<|?_
 refine A1 (.buildL (ps:=_) I6 rfl rfl rfl pS) ?_
 refine Ax rfl rfl bZ BL rfl rfl (λeC bA a6 e7=>?_)
 have c2:=bX.up a6
 have c3:=Ce b' a6 d
 have c4:=BC c0 (DJ a6 oO)
 refine A0<|AT (BI rfl rfl (Be bA DX rfl BL)  ?_)
 exact Cf.ok (⟨3,0,[x]⟩,l.drop (s+1)) (by rw [hT,show x=91 from Co aS,A4L]) rfl ⟨_,rfl,oO,⟨c2,c3⟩,c4⟩
 have bV:=dF aB
 refine Am<|A1 (.eql rfl rfl)<|A9 rfl<|Ai rfl (λaF=>?_) (λaF=>?_)
 have c5:=dT aF
 refine A4<|A3 rfl<|A1 (.nck rfl)<|A1 (.fa Dj rfl Bw dD rfl)<|Ah (Ae (BZ _) rfl b rfl)<|A1 (.iis (((s+1:Nat):Int)) (.add rfl rfl (Ba oO)) oO)<|A1 (.nck rfl)<|A1 (.fa Dj rfl Bw dD rfl)<|Br Bw rfl rfl rfl b (by exact Nat.le_of_ble_eq_true rfl) (λdB L u e8=>?_)
 have L:B0 dB r _ _:=L
 have u:CK r _ _:=u
 have aP:=i.up u
 have aQ:=Ag.upd j u hne
 have aR:=BC f (Bp u)
 refine A0<|A4<|A3 rfl<|Cs (ps:=_) B1 EA Mt rfl rfl rfl rfl rfl pR rfl (λeD ex V bB N e9=>?_)
 have c6:=Bl V L.lt
 have c7:=L.un N c6
 have c8:=Bl V aP.lt
 have c9:=aP.un N c8
 have bC:=λh0=>V▸aQ.lt h0
 have ca:=Ce aQ N bC
 have b3:=CF V aR.size
 have cb:=BC aR (DJ N b3)
 refine Ah (Fm (l:=[x]) B1 FK Gk rfl (Ag.one bB rfl))<|?_
 refine A1 (.buildL (ps:=_) I6 rfl rfl rfl pS) ?_
 refine Ax rfl rfl c9 BL rfl rfl (λeF bD a7 ea=>?_)
 have cc:=c7.up a7
 have cd:=Ce ca a7 d
 have cf:=BC cb (DJ a7 oO)
 refine A0<|AT (BI rfl rfl (Be bD DX rfl BL)  ?_)
 exact Cf.ok (⟨3,0,[x]⟩,l.drop (s+1)) (by rw [hT,show x=93 from Co aS,A4K]) rfl ⟨_,rfl,oO,⟨cc,cd⟩,cf⟩
 have c5:=dF aF
 refine A4<|A1 (.eql rfl rfl)<|A9 rfl<|Ai rfl (λaG=>?_) (λaG=>?_)
 have cg:=dT aG
 refine A4<|A3 rfl<|A1 (.nck rfl)<|A1 (.fa Dj rfl Bw dD rfl)<|Ah (Ae (BZ _) rfl b rfl)<|A1 (.iis (((s+1:Nat):Int)) (.add rfl rfl (Ba oO)) oO)<|A1 (.nck rfl)<|A1 (.fa Dj rfl Bw dD rfl)<|Br Bw rfl rfl rfl b (by exact Nat.le_of_ble_eq_true rfl) (λdC a8 v eb=>?_)
 have a8:B0 dC r _ _:=a8
 have v:CK r _ _:=v
 have aT:=i.up v
 have ci:=Ag.upd j v hne
 have X:=BC f (Bp v)
 refine A0<|A4<|A3 rfl<|C1 BK rfl rfl ((VT r p l c (s+1) _ ⟨a8,ci⟩ hne hc hl oO)) (λdE dG a9 g=>?_) (λdH dG a9 g=>?_)
 have b4:=BC X (EX g X.size)
 exact Bt (BB dE (by rw [hT,show x=47 from Co aS,A05];exact a9) b4)
 obtain ⟨kr,a3,a4,g⟩:=g
 have cj:=g.1.1
 have ck:=Gn aT g.2 aT.lt oO
 have cl:=g.1.2
 have cm:=BC X (EX g.2 X.size)
 have D:=a9
 obtain ⟨a0,aJ⟩:=eX dH
 refine Ax rfl rfl ck BL rfl rfl (λeG bE aa ec=>?_)
 have cn:=cj.up aa
 have co:=Ce cl aa d
 have cq:=BC cm (DJ aa oO)
 refine A0<|AT (BI rfl rfl (Be bE DX rfl BL)  ?_)
 exact Cf.ok _ (by rw [hT,show x=47 from Co aS,A05];exact D) rfl ⟨_,a3,a4,⟨cn,co⟩,cq⟩
 have cg:=dF aG
 refine Ap<|A4<|A3 rfl<|Ao (NN r p l c s _ ⟨b,j⟩ hne hc hl oO) (λeH Y=>?_)
 have cr:=Y.1.1
 have ct:=Gn i Y.2 i.lt oO
 have aU:=Y.1.2
 have aV:=BC f (EX Y.2 f.size)
 refine A9 rfl<|Ad ?_
 obtain ⟨T,cR⟩:=eX (FO ((l.drop s).takeWhile Da))
 have hX:Mv (l.drop n)=if T.e≠0 then .error T.e else if T.ok then .ok (⟨T.kind,T.n,[]⟩,l.drop (BA l s)) else Id 3 (l.drop s):=by rw [hT,Yt _ oO oO oO oO oO oO oO oO oO,hx,<- Aw bd,<- Li,cR];rfl
 have ed:∀ w,Cb 160 #[.string (bs ((l.drop s).takeWhile Da))] w T.val:=λw=>by rw [cR];exact SD _ w
 refine Am<|A3 rfl<|Ao (ed _) (λeI a1=>?_)
 have aW:=cr.bl a1
 have aX:=ct.bl a1
 have aY:=DL aU a1 (λh0=>aU.lt h0)
 have aZ:=BC aV (EX (Fo a1) aV.size)
 refine A3 rfl<|A1 (.ext rfl rfl)<|A1 (.ext rfl rfl)<|A1 (.ext rfl rfl)<|Bj HJ rfl (λeJ ey a2 bG P ee=>?_)
 have cu:=Bl a2 aW.lt
 have cv:=aW.un P cu
 have cw:=Bl a2 aX.lt
 have cy:=aX.un P cw
 have aD:=λh0=>a2▸aY.lt h0
 have cz:=Ce aY P aD
 have b5:=CF a2 aZ.size
 have cA:=BC aZ (DJ P b5)
 refine Ax rfl rfl bG BL rfl rfl (λeK bH Q ef=>?_)
 have a':=cv.up Q
 have b0:=cy.up Q
 have aC:=Ce cz Q aD
 have y:=BC cA (DJ Q oO)
 refine Ct rfl<|A9 rfl<|Ad<|AO<|A4<|A3 rfl<|A1 (.neq rfl rfl)<|A9 rfl<|Ai rfl (λaH=>?_) (λaH=>?_)
 have cB:=ndT aH
 refine Am<|A3 rfl<|A1 (.mkI Kr rfl)<|Fd rfl (Bt ?_)
 exact BB T.e (by rw [hX,A7 aS]) y
 have cB:=ndF aH
 refine A4<|A3 rfl<|A9 rfl<|Ai rfl (λdI=>?_) (λdI=>?_)
 refine A4<|Ah (Bk rfl bH DX rfl BL)<|Ax rfl rfl b0 BL rfl rfl (λeL bI ab eg=>?_)
 have cC:=a'.up ab
 have cD:=Ce aC ab d
 have cE:=BC y (DJ ab oO)
 refine A0<|AT (BI rfl rfl (Be bI DX rfl BL)  ?_)
 exact Cf.ok (⟨T.kind,T.n,[]⟩,l.drop (BA l s)) (by rw [hX,A2 (λh=>h aS),A7 aS]) rfl ⟨_,rfl,cQ.2,⟨cC,cD⟩,cE⟩
 refine Ap<|A4<|A3 rfl<|C1 BK rfl rfl ((NO 3 _ _ (by have:=Po l s;omega))) (λdJ dK ac B=>?_) (λdL dK ac B=>?_)
 have b6:=BC y (EX (Fo B) y.size)
 exact Bt (BB dJ (by rw [hX,A2 (λh=>h aS),A2 (bF aS)];exact O2 ac) b6)
 have cF:=a'.bl B
 have cG:=b0.bl B
 have cH:=DL aC B (λh0=>aC.lt h0)
 have cI:=BC y (EX (Fo B) y.size)
 obtain ⟨a0,aJ⟩:=eX dL
 have D:=ac
 refine Ax rfl rfl cG BL rfl rfl (λeM bJ ad eh=>?_)
 have cJ:=cF.up ad
 have cK:=Ce cH ad d
 have cL:=BC cI (DJ ad oO)
 refine A0<|AT (BI rfl rfl (Be bJ DX rfl BL)  ?_)
 exact Cf.ok (_,l.drop (BA l s)) (by rw [hX,A2 (λh=>h aS),A2 (bF aS),Qi D,Li]) rfl ⟨_,rfl,cQ.2,⟨cJ,cK⟩,cL⟩
end
section
set_option maxRecDepth 4000
theorem Mx (b1 b2 b5:Nat) (w:World) :
  CallsD Tryz.prog 156 #[ptV b1,ptV b2,ptV b5] .returning w λe u' w'=>u'=.returning/\(∃ v,e=.returned v)/\w'=w:=by
 refine Eo func156 rfl ntmps156 bL rfl<|A9 rfl<|A4<|A3 rfl<|A1 (.neNil0 kR rfl)<|A0<|Aq rfl rfl<|Ap<|Cx (Cd rfl ?_)
 exact ⟨⟨_,rfl⟩,rfl⟩
theorem U3 (b1 b2 b5 B:Nat) (x y:Int) (z:ByteArray) (i j k:Int) (w:World) (h1:B0 w b1 #[Af x,Af y,.string z] 196) (h2:B0 w b2 #[Af i] 3) (h5:B0 w b5 #[Af j] 35) (hB1:B<=b1) (h12:b1<b2) (h25:b2<b5) :
  CallsD Tryz.prog 156 #[ptV b1,ptV b2,ptV b5] (.panicking [{ v:=.iface 35 (Af k),recovered:=false }]) w
   λe u' w'=>u'=.panicking [{ v:=.iface 35 (Af k),recovered:=true }]/\(∃ v,e=.returned v) /\
    B0 w' b1 #[Af 0,Af 0,.string ⟨#[]⟩] 196/\B0 w' b2 #[Af 0] 3/\B0 w' b5 #[Af k] 35/\Below B w w':=by
 refine Eo func156 rfl ntmps156 bL rfl ?_
 have o:=Gb (B) w
 refine A9 rfl<|A4<|A3 rfl<|A1 (.neNil kR rfl)<|A0<|BQ rfl rfl<|A4<|A3 rfl<|A1 (.tas Kr rfl)<|A3 rfl<|A1 (.ext rfl rfl)<|A1 (.ext rfl rfl)<|Ct rfl<|A9 rfl<|Ad<|A4<|A3 rfl<|A1 (.not rfl)<|A0<|Aq rfl rfl ?_
 refine Ap<|Am<|A1 (.buildL (ps:=_) I6 rfl rfl rfl pZ) ?_
 refine A3 rfl<|Ax rfl rfl h1 BL rfl rfl (λK g c E=>?_)
 have q:=h2.upd c oM
 have s:=h5.upd c oM
 have t:=BU o oO c
 refine Br Bw rfl rfl rfl q (by exact Nat.le_of_ble_eq_true rfl) (λF d a G=>?_)
 have d:B0 F b2 _ _:=d
 have a:CK b2 _ _:=a
 have u:=g.up a
 have C:=s.up a
 have D:=BU t oO a
 refine Br EJ rfl rfl rfl C (by exact Nat.le_of_ble_eq_true rfl) (λH f b J=>?_)
 have f:B0 H b5 _ _:=f
 have b:CK b5 _ _:=b
 have h:=u.up b
 have l:=d.up b
 have m:=BU D oO b
 refine A0<|Cx (Cd rfl ?_)
 exact ⟨⟨_,rfl⟩,h,l,f,m⟩
theorem YC (a:Int) (p:Option Addr) (l:l8_) (c:Nat) (w:World) (hb:Ag w p l) (hc:l.length<=c) (hl:l.length<=100000000) :
    Calls Tryz.prog 132 #[.slice p l.length c,Af a] w λe w'=>e=.returned (G0 l a).val/\AL w w':=by
  refine GQ func132 rfl ntmps132 bL ?_;refine WD.seq<|Am<|Bj HJ rfl (λb1 b9 ar a2 a3 b0=>?_);have ax:=λt=>ar▸hb.lt t
  have au:=Ce hb a3 ax;refine Bj Yj rfl (λb5 ba a4 a5 P b2=>?_);have aG:=Bl a4 a2.lt;have av:=a2.un P aG;have ay:=λt=>a4▸au.lt t
  have aw:=Ce au P ay;refine Bj SN rfl (λa1 b3 u v g aP=>?_);have az:=Bl u av.lt;have Q:=av.un g az;have aA:=Bl u a5.lt;have T:=a5.un g aA;have ad:=λt=>u▸aw.lt t
  have a6:=Ce aw g ad;have a7:=uB (uB (uB (CN w) ar a3) a4 P) u g;refine A0<|WD.seq<|FT 15 (decide (a<0\/(l.length:Int)<a)) ?_ ?_;refine Am<|A3 rfl<|A1 (.lss rfl rfl)<|A3 rfl<|Ck rfl rfl rfl (λd=>?_) (λd=>?_)
  · have aB := dF d
    refine A3 rfl<|Az d<|A3 rfl<|Az d<|A1 (.lenS B1 rfl)<|Az d<|A1 (.gtr rfl rfl)<|A1 (.pkF rfl d rfl)<|A0<|?_;exact ⟨Gy (DM rfl (by (apply AY.2;(try simp only [AE,CO,BO,AF,Bo,C5,Dp,false_iff,iff_false,true_iff,iff_true]);omega))),rfl⟩
  have aB:=dT d;refine Bc d<|Bc d<|Bc d<|A1 (.pkT rfl d rfl)<|A0<|?_;exact ⟨Gy (DM rfl (by (apply AY.2;(try simp only [AE,CO,BO,AF,Bo,C5,Dp,false_iff,iff_false,true_iff,iff_true]);omega))),rfl⟩;refine A28 rfl (λaC=>?_) (λaC=>?_)
  · skip
    refine A4<|A1 (.buildL (ps:=_) I6 rfl rfl rfl pZ) ?_;refine Ax rfl rfl Q BL rfl rfl (λbb ae x aQ=>?_);refine Cn (T.up x) Bw (λbc af y aR=>?_);refine Cn ((v.up x).up y) EJ (λbd ag A aS=>?_);refine A0<|AT ?_;exact FV (CY rfl rfl rfl rfl (Be ((ae.up y).up A) DX rfl BL) (B5 (af.up A) (BZ _) rfl) (B5 ag (Ed _) rfl)) ⟨AU (by unfold G0;rw [A7 oO];(first | done | rfl)),(BU (BU (BU a7 oO x) oO y) oO A)⟩
  obtain ⟨n,rfl⟩:=Int.eq_ofNat_of_zero_le (a:=a) oO;have hN:G0 l (n:Int)=Z3 l (Mv (l.drop n)):=by unfold G0;rw [A2 oO];rfl
  refine Ap<|WD.defer rfl rfl<|Nz<|A4<|A3 rfl<|A3 rfl<|?_;refine A1 (.buildL (ps:=_) A5q rfl rfl rfl pS) ?_;refine WL.box rfl rfl (λaH b4 j ah f aT=>?_);have aD:=Bl j Q.lt;have B:=Q.un f aD;have aE:=Bl j T.lt;have C:=T.un f aE;have aF:=Bl j v.lt;have D:=v.un f aF;have ai:=λt=>j▸a6.lt t
  have E:=uB a7 j f;refine A9 rfl<|A4<|A3 rfl<|C1 BK rfl rfl ((VR aH p l c n _ ⟨ah,(Ce a6 f ai)⟩ (λt=>by have:=hb.lt t;omega) hc hl oO)) (λaI aJ F b=>?_) (λaK aJ F b=>?_);exact GR XP (λw'=>_) (U3 b1 b5 a1 w.heap.size _ _ _ _ _ aI _ (Gn B b B.lt oO) (Gn C b C.lt oO) (Gn D b D.lt oO) oO oO oO)
    (λw' hS=>⟨_,CY rfl rfl rfl rfl (Be hS.1 DX rfl BL) (B5 hS.2.1 (BZ _) rfl) (B5 hS.2.2.1 (Ed _) rfl),AU (by rw [hN,F];(first | done | rfl)),(Ej E (Bh.below b E.size oO)).trans hS.2.2.2⟩)
  obtain ⟨kr,aL,a8,b⟩:=b;have a9:=F;obtain ⟨t0,rest⟩:=aK;obtain rfl:rest=l.drop kr:=aL;refine Ax rfl rfl (Gn B b.2 B.lt oO) BL rfl rfl (λbe aj h aU=>?_);refine A0<|Ad<|Lb<|Fe 8 rfl BR (λbf k=>?_);have m:=aj.drew k;have U:=((Gn C b.2 C.lt oO).up h).drew k;have V:=((Gn D b.2 D.lt oO).up h).drew k;have X:=(b.1.1.up h).drew k;have a0:=C6.below (BU (Ej E (Bh.below b.2 E.size oO)) oO h) k;refine AI 1 rfl (.mv rfl) rfl<|AI 2 rfl (.nck rfl) rfl<|AI 3 rfl (.fa Dj rfl Bw dD rfl) rfl<|CG 0 rfl 4 rfl ?_ ?_;refine Ah (Bk rfl m DX rfl BL)<|A0<|CG 4 rfl 5 rfl ?_ ?_;refine Ah (Ae (BZ _) rfl X rfl)<|A0<|Av 5 rfl<|Ax rfl rfl m BL rfl rfl (λbg ak G aV=>?_);refine A0<|Av 6 rfl<|Cn (U.up G) Bw (λbh am H aW=>?_);refine A0<|Av 7 rfl<|Cn ((V.up G).up H) EJ (λbi an J aX=>?_);refine A0<|Bn kR<|AT ?_;exact D1.ret XP (λw'=>_) (Mx b1 b5 a1 _)
    (λw' hS=>by subst hS;exact ⟨_,CY rfl rfl rfl rfl (Be ((ak.up H).up J) DX rfl BL) (B5 (am.up J) (BZ _) rfl) (B5 an (Ed _) rfl),AU (by rw [hN,a9,O0 _ _ _ a8];(first | done | rfl)),(BU (BU (BU a0 oO G) oO H) oO J)⟩)
  refine Ax rfl rfl m BL rfl rfl (λbj ao i aY=>?_);refine A0<|Av 4 rfl<|Ah (Ae (BZ _) rfl (X.up i) rfl)<|A0<|Av 6 rfl<|Cn (U.up i) Bw (λbk ap K aZ=>?_);refine A0<|Av 7 rfl<|Cn ((V.up i).up K) EJ (λbl aq L a'=>?_);refine A0<|Bn kR<|AT ?_;exact D1.ret XP (λw'=>_) (Mx b1 b5 a1 _)
    (λw' hS=>by subst hS;exact ⟨_,CY rfl rfl rfl rfl (Be ((ao.up K).up L) DX rfl BL) (B5 (ap.up L) (BZ _) rfl) (B5 aq (Ed _) rfl),AU (by rw [hN,a9,O0 _ _ _ a8];(first | done | rfl)),(BU (BU (BU a0 oO i) oO K) oO L)⟩)
  refine Ah (Ae (BZ _) rfl X rfl)<|A0<|Av 0 rfl<|Ah (Bk rfl m DX rfl BL)<|A0<|Av 5 rfl<|Ax rfl rfl m BL rfl rfl (λb6 aa o aM=>?_);refine A0<|Av 6 rfl<|Cn (U.up o) Bw (λb7 ab q aN=>?_);refine A0<|Av 7 rfl<|Cn ((V.up o).up q) EJ (λb8 ac s aO=>?_);refine A0<|Bn kR<|AT ?_;exact D1.ret XP (λw'=>_) (Mx b1 b5 a1 _)
    (λw' hS=>by subst hS;exact ⟨_,CY rfl rfl rfl rfl (Be ((aa.up q).up s) DX rfl BL) (B5 (ab.up s) (BZ _) rfl) (B5 ac (Ed _) rfl),AU (by rw [hN,a9,O0 _ _ _ a8];(first | done | rfl)),(BU (BU (BU a0 oO o) oO q) oO s)⟩)
end
section
section
variable {P:Program} {f:Fr} {x y:Operand} {tx ty:TypeId} {a b r:Int} {k:IntKind}
theorem BG.shr6 (hx:CM f x=some (.int .u8 a)) (hr:a.fdiv 64=r):BG P (.binOp .shr tx x (.const (.int .u64 6)) ty) f (.int .u8 r):=λρ hρ d ty' pos aft g w=>by
 have h4:ρ (.const (.int .u64 6))=.int .u64 6:=hρ _ _ rfl
 have e:(Op.shift .shr .u8 a .u64 6).run P w=.ok (.int .u8 r) w:=by
  subst hr;rfl
 simp [execOp,hρ _ _ hx,h4,eqGuard,binOp,e]
theorem BG.and (hx:CM f x=some (.int k a)) (hy:CM f y=some (.int k b)) (hr:bits .and k a b=r):BG P (.binOp .and tx x y ty) f (.int k r):=λρ hρ d ty' pos aft g w=>by
 simp [execOp,hρ _ _ hx,hρ _ _ hy,eqGuard,binOp,intBits_and,hr]
end
def A0Y (c:UInt8):UInt8:=c ||| ((32:UInt8) * ((c >>> (6:UInt8)) &&& (1:UInt8)))
theorem A3j (c:UInt8):(c.toNat:Int).fdiv 64=((c >>> (6:UInt8)).toNat:Int):=by
 have key:∀ n:Fin 256,((UInt8.ofNat n.1).toNat:Int).fdiv 64=(((UInt8.ofNat n.1) >>> (6:UInt8)).toNat:Int):=by decide +kernel
 have h:=key ⟨c.toNat,Cg c⟩
 have e:UInt8.ofNat (⟨c.toNat,Cg c⟩:Fin 256).1=c:=UInt8.ofNat_toNat
 rw [e] at h
 exact h
theorem A3m (c:UInt8):bits .and .u8 ((c >>> (6:UInt8)).toNat:Int) 1=(((c >>> (6:UInt8)) &&& (1:UInt8)).toNat:Int):=by
 have key:∀ n:Fin 256,bits .and .u8 (((UInt8.ofNat n.1) >>> (6:UInt8)).toNat:Int) 1=((((UInt8.ofNat n.1) >>> (6:UInt8)) &&& (1:UInt8)).toNat:Int):=by decide +kernel
 have h:=key ⟨c.toNat,Cg c⟩
 have e:UInt8.ofNat (⟨c.toNat,Cg c⟩:Fin 256).1=c:=UInt8.ofNat_toNat
 rw [e] at h
 exact h
theorem A3k (c:UInt8):IntKind.u8.wrap (32 * (((c >>> (6:UInt8)) &&& (1:UInt8)).toNat:Int))=(((32:UInt8) * ((c >>> (6:UInt8)) &&& (1:UInt8))).toNat:Int):=by
 have key:∀ n:Fin 256,IntKind.u8.wrap (32 * ((((UInt8.ofNat n.1) >>> (6:UInt8)) &&& (1:UInt8)).toNat:Int))=(((32:UInt8) * (((UInt8.ofNat n.1) >>> (6:UInt8)) &&& (1:UInt8))).toNat:Int):=by decide +kernel
 have h:=key ⟨c.toNat,Cg c⟩
 have e:UInt8.ofNat (⟨c.toNat,Cg c⟩:Fin 256).1=c:=UInt8.ofNat_toNat
 rw [e] at h
 exact h
theorem A55 (c:UInt8):bits .or .u8 (c.toNat:Int) (((32:UInt8) * ((c >>> (6:UInt8)) &&& (1:UInt8))).toNat:Int)=((A0Y c).toNat:Int):=by
 have key:∀ n:Fin 256,bits .or .u8 ((UInt8.ofNat n.1).toNat:Int) (((32:UInt8) * (((UInt8.ofNat n.1) >>> (6:UInt8)) &&& (1:UInt8))).toNat:Int)=((A0Y (UInt8.ofNat n.1)).toNat:Int):=by decide +kernel
 have h:=key ⟨c.toNat,Cg c⟩
 have e:UInt8.ofNat (⟨c.toNat,Cg c⟩:Fin 256).1=c:=UInt8.ofNat_toNat
 rw [e] at h
 exact h
theorem A3l (c:UInt8):Lib.indexByte [48,49,50,51,52,53,54,55,56,57,97,98,99,100,101,102] (A0Y c)=MR c:=by
 have key:∀ n:Fin 256,Lib.indexByte [48,49,50,51,52,53,54,55,56,57,97,98,99,100,101,102] (A0Y (UInt8.ofNat n.1))=MR (UInt8.ofNat n.1):=by decide +kernel
 have h:=key ⟨c.toNat,Cg c⟩
 have e:UInt8.ofNat (⟨c.toNat,Cg c⟩:Fin 256).1=c:=UInt8.ofNat_toNat
 rw [e] at h
 exact h
theorem IJ (c:UInt8) (w:World):Calls Tryz.prog 129 #[.int .u8 (c.toNat:Int)] w λe w'=>e=.returned (Af (MR c))/\w=w':=by
 refine Ar func129 rfl ntmps129<|A4<|A9 rfl<|A4<|A3 rfl<|A3 rfl<|A1 (.shr6 rfl (A3j c))<|A1 (.and rfl rfl (A3m c))<|A1 (.mul rfl rfl (A3k c))<|A1 (.or rfl rfl (A55 c))<|Ao (KO [48,49,50,51,52,53,54,55,56,57,97,98,99,100,101,102] (A0Y c) _) (λb a=>?_)
 obtain rfl:=a
 refine A9 rfl<|AW ?_
 exact ⟨DS (A3l c),rfl⟩
theorem Y0 (c:UInt8) (w:World) (m:Nat):Calls Tryz.prog 129 #[.int .u8 (c.toNat:Int)] (w.drewN m) λe w'=>e=.returned (Af (MR c))/\∃ k,w'=w.drewN k :=
 (IJ c (w.drewN m)).mono λe w' h=>⟨h.1,m,h.2.symm⟩
theorem JE (c:UInt8) (r:l8_):Mb (c::r)=if c=35 then (match r with | a::b::r'=>if DY a<16/\DY b<16 then (Mb r').map (ch ((16 * DY a+DY b:Nat):Int)::·) else none | _=>none) else (Mb r).map (c::·):=by
 match r with
 | []=>by_cases h:c=35 <;> simp [Mb,h]
 | [a]=>by_cases h:c=35 <;> simp [Mb,h]
 | a::b::r'=>by_cases h:c=35 <;> simp [Mb,h]
def P0 (acc s:l8_):Option (l8_):=(Mb s).map (acc++·)
theorem A1G (acc:l8_):P0 acc []=some acc:=by simp [P0,Mb]
theorem X4 (acc s:l8_) (i:Nat) (h:i<s.length) (hc:s[i]≠35):P0 acc (s.drop i)=P0 (acc++[s[i]]) (s.drop (i+1)):=by
 unfold P0
 rw [Aw h,JE,A2 hc,Option.map_map]
 congr 1
 funext x
 simp
theorem X3 (acc s:l8_) (i:Nat) (h:i<s.length) (hc:s[i]=35) (h2:s.length<=i+2):P0 acc (s.drop i)=none:=by
 unfold P0
 rw [Aw h,JE,A7 hc]
 have hl:(s.drop (i+1)).length<=1:=by rw [Au];omega
 match s.drop (i+1),hl with
 | [],_=>rfl
 | [a],_=>rfl
theorem Og (acc s:l8_) (i:Nat) (h:i+2<s.length) (hc:s[i]=35):P0 acc (s.drop i)=if DY s[i+1]<16/\DY s[i+2]<16 then P0 (acc++[ch ((16 * DY s[i+1]+DY s[i+2]:Nat):Int)]) (s.drop (i+3)) else none:=by
 unfold P0
 rw [Aw (show i<s.length by omega),JE,A7 hc,Aw (show i+1<s.length by omega),Aw (show i+1+1<s.length by omega)]
 simp only
 split
 ·
  rw [Option.map_map]
  congr 1
  funext x
  simp
 · rfl
theorem A3n (q:Option Addr) (s:l8_) (c:Nat) (x:UInt8) (w:World) (hb:Ag w q s) (hl:s.length<=1000000000) :
  Calls Tryz.prog 155 #[.slice q s.length c,.int .u8 (x.toNat:Int)] w λe w'=>(∃ a:Int,e=.returned (Af a)/\(0<=a↔x∈s))/\w=w':=by
 refine Ar func155 rfl ntmps155<|A4<|A9 rfl<|Ad<|A4<|A3 rfl<|A1 (.lenS B1 rfl)<|A3 rfl<|A0<|AO<|BM (α:=Nat) (λt=>[(0,.slice q s.length c),(1,.int .u8 (x.toNat:Int)),(7,Af (s.length:Int)),(8,Af (t:Int))]) (λt w'=>w=w'/\t<=s.length/\x ∉ s.take t) (λt=>s.length-t) (0) ⟨rfl,rfl,rfl,rfl,tT⟩ (⟨rfl,FI _,by simp⟩) (λt k hR=>?_)
 obtain ⟨i,rfl⟩:=eX t
 obtain ⟨rfl,hi,b⟩:=hR
 refine A4<|A1 (.lss rfl rfl)<|A0<|Ad<|Ai rfl (λd=>?_) (λd=>?_)
 have g:=dT d
 refine Ap<|Ad<|AO<|A4<|A3 rfl<|A9 rfl<|A4<|A3 rfl<|A3 rfl<|A3 rfl<|A1 (.ixb B1 EA rfl rfl (hb.isp oO) (i) (rfl) oO)<|Ah (Bq (Iz _) rfl (hb.cells (i) oO))<|A1 (.eql rfl rfl)<|A0<|Ai rfl (λf=>?_) (λf=>?_)
 have j:=dT f
 refine A4<|A3 rfl<|A9 rfl<|AW ?_
 exact ⟨⟨_,rfl,λ_=>by rw [show x=s[i]'oO from Co aS];exact AA _,λ_=>by omega⟩,rfl⟩
 have j:=dF f
 refine Ap<|Am<|A1 (.iis (((i+1:Nat):Int)) (.add rfl rfl (Ba oO)) oO)<|A3 rfl<|A0<|?_
 exact ⟨i+1,⟨rfl,rfl,rfl,rfl,tT⟩,⟨rfl,oM,by
  rw [List.take_add_one,Aj oO,Option.toList_some,B9,B8];exact λh=>h.elim b (Df aS)⟩,oM⟩
 have g:=dF d
 refine BF<|A4<|A9 rfl<|AW ?_
 exact ⟨⟨_,rfl,λh=>De h dD,λh=>by rw [show s.take i=s from An oO] at b;exact De h b⟩,rfl⟩
theorem A3o (q:Option Addr) (s:l8_) (c:Nat) (x:UInt8) (w:World) (hb:Ag w q s) (hl:s.length<=1000000000) :
  Calls Tryz.prog 130 #[.slice q s.length c,.int .u8 (x.toNat:Int)] w λe w'=>e=.returned (.bool (decide (x∈s)))/\w=w':=by
 have hI:∀ b,Ag b q s->Calls Tryz.prog 155 #[.slice q s.length c,.int .u8 (x.toNat:Int)] b λe w'=>∃ a:{ a:Int // 0<=a↔x∈s },e=.returned (Af a.1)/\b=w':=λb f =>
  (A3n q s c x b f hl).mono λe w' ⟨⟨a,g,h⟩,i⟩=>⟨⟨a,h⟩,g,i⟩
 refine Ar func130 rfl ntmps130<|A4<|A9 rfl<|A4<|A3 rfl<|A3 rfl<|Bf BK rfl rfl ((hI _ hb)) (λa b d=>?_)
 obtain rfl:=d
 refine A1 (.geq rfl rfl)<|A9 rfl<|AW ?_
 exact ⟨CH (HI.2 a.2),rfl⟩
theorem S8 (r:Nat) (p:Option Addr) (l:l8_) (c t:Nat) (refs:Bool) (w:World) (h:P2 w r p l c t refs) (hne:0<l.length->(pA p).block≠r) (hc:l.length<=c) (hl:l.length<=100000000) (ht:t<=l.length) :
  Calls Tryz.prog 105 #[ptV r] w (Cf 35 (J8 l t) (λa=>.string (bs a.1)) (λa w'=>P2 w' r p l c a.2 refs/\Bh w.heap.size r w w') (λw'=>Bh w.heap.size r w w')):=by
 have hr:=h.1
 have hb:=h.2
 obtain ⟨X,hX⟩:=eX (J8 l t)
 rw [<- hX]
 unfold J8 at hX
 have aN:=F6 l t ht
 have aO:=RO l t
 have Q:∀ J,Ag J p l->∀ m,Calls Tryz.prog 50 #[.slice p l.length c,Af (t:Int)] (J.drewN m) λe w'=>e=.returned (.tuple #[.string (bs (Dr l t)),Af (BA l t:Int)])/\∃ k,w'=J.drewN k:=λJ h1 m=>SO p l c t J h1 hc ht hl m
 generalize Dr l t=s at hX aO Q
 generalize BA l t=t1 at hX aN Q
 obtain ⟨D,hD⟩:=eX (Mb s)
 rw [<- hD] at hX
 refine Ar func105 rfl ntmps105 ?_
 have aP:=Bh.refl (w.heap.size) r w
 refine A4<|A9 rfl<|Ad ?_
 have b8:r<w.heap.size:=hr.lt
 have ad:0<l.length->(pA p).block<w.heap.size:=λK=>hb.lt K
 refine DH BR kR<|WQ.p (.mv rfl) rfl<|WQ.p (.nck rfl) rfl<|WQ.p (.fa CC rfl D8 dD rfl) rfl<|Db (λm=>Ae (g22_ _) rfl hr rfl) rfl<|WQ.p (.mv rfl) rfl<|WQ.p (.nck rfl) rfl<|WQ.p (.fa CC rfl Bw dD rfl) rfl<|Db (λm=>Ae (BZ _) rfl hr rfl) rfl<|Jc BK rfl rfl (λm=>(Q _ hb m))<|WQ.p (.mv rfl) rfl<|WQ.p (.ext rfl rfl) rfl<|WQ.p (.ext rfl rfl) rfl<|WQ.p (.as rfl) rfl<|WQ.p (.as rfl) rfl<|CX (λJ T=>?_)
 have aQ:=hr.drew T
 have aR:=hb.drew T
 have aT:=BC aP (Mf T)
 refine A4<|A3 rfl<|A3 rfl<|A1 (.nck rfl)<|A1 (.fa CC rfl Bw dD rfl)<|Br Bw rfl rfl rfl aQ (by exact Nat.le_of_ble_eq_true rfl) (λw5 L A b5=>?_)
 have L:B0 w5 r _ _:=L
 have A:CK r _ _:=A
 have aU:=Ag.upd aR A hne
 have aV:=BC aT (Bp A)
 refine A0<|A4<|A9 rfl<|Ad<|A4<|A9 rfl<|AO<|BM (α:=Value × l8_ × Nat) (λt=>[(0,ptV r),(3,.string (bs s)),(5,t.1),(6,Af (t.2.2:Int))]) (λt w'=>P2 w' r p l c t1 refs/\Bh w.heap.size r w w'/\CP 5 w.heap.size w' t.1 (AQ t.2.1)/\P0 t.2.1 (s.drop t.2.2)=D/\t.2.1.length<=t.2.2/\t.2.2<=s.length) (λt=>s.length-t.2.2) ((.slice none 0 0,[],0)) ⟨rfl,rfl,rfl,rfl,tT⟩ (⟨⟨L,aU⟩,aV,CP.nil _ _ _,by rw [hD,Ms];simp [P0],FI _,FI _⟩) (λt J hR=>?_)
 obtain ⟨v,o,i⟩:=t
 obtain ⟨g,hT,B,hw,aW,hi⟩:=hR
 simp only at g hT B hw aW hi ⊢
 refine Ad<|A4<|A3 rfl<|A3 rfl<|A1 (.len Gk rfl)<|A1 (.lss rfl rfl)<|A0<|Ai rfl (λh8=>?_) (λh8=>?_)
 have aX:=dT h8
 refine Ap<|Ad<|AO<|A4<|A3 rfl<|A3 rfl<|A1 (.ix Gk rfl rfl (i) (rfl) oO)<|A9 rfl<|Ad<|A4<|A3 rfl<|A1 (.eql rfl rfl)<|A0<|Ai rfl (λh9=>?_) (λh9=>?_)
 have aY:=dT h9
 have y:s[i]'oO=35:=Co aS
 refine Ad<|A4<|A3 rfl<|A1 (.add rfl rfl (Ba oO))<|A3 rfl<|A1 (.len Gk rfl)<|A1 (.geq rfl rfl)<|A3 rfl<|Ck rfl rfl rfl (λb=>?_) (λb=>?_)
 have ag:=dF b
 refine A3 rfl<|Az b<|A3 rfl<|Az b<|A1 (.iis (((i+1:Nat):Int)) (.add rfl rfl (Ba oO)) oO)<|Az b<|A1 (.ix Gk rfl rfl (i+1) (rfl) oO)<|Az b<|Ao (IJ _ _) (λb9 ah=>?_)
 obtain rfl:=ah
 have ba:=IQ (s[i+1]'oO)
 refine Az b<|A1 (.lss rfl rfl)<|A1 (.pkF rfl b rfl)<|A3 rfl<|Ck rfl rfl rfl (λf=>?_) (λf=>?_)
 have ai:=dF f
 refine A3 rfl<|Az f<|A3 rfl<|Az f<|A1 (.iis (((i+2:Nat):Int)) (.add rfl rfl (Ba oO)) oO)<|Az f<|A1 (.ix Gk rfl rfl (i+2) (rfl) oO)<|Az f<|Ao (IJ _ _) (λbb aj=>?_)
 obtain rfl:=aj
 have aZ:=IQ (s[i+2]'oO)
 refine Az f<|A1 (.lss rfl rfl)<|A1 (.pkF rfl f rfl)<|A0<|Ai rfl (λU=>?_) (λU=>?_)
 have ak:=dT U
 refine Am<|Fh BK rfl ((CS 23 _)) (λbc al=>?_)
 obtain rfl:=al
 exact Bt (BB 23 (by rw [hX,<- hw,Og _ _ _ oO y,A2 oO]) hT)
 have ak:=dF U
 refine Ap<|Ad<|DH BR kR<|WQ.p (.mv rfl) rfl<|WQ.p (.mv rfl) rfl<|WQ.p (.iis (((i+1:Nat):Int)) (.add rfl rfl (Ba oO)) oO) rfl<|WQ.p (.ix Gk rfl rfl (i+1) (rfl) oO) rfl<|Jc BK rfl rfl (λm=>(Y0 (s[i+1]'oO) _ m))<|WQ.p (.iis (((DY (s[i+1]'oO):Nat):Int) * 16) (.shl4 rfl _ (Ba oO)) oO) rfl<|WQ.p (.mv rfl) rfl<|WQ.p (.mv rfl) rfl<|WQ.p (.iis (((i+2:Nat):Int)) (.add rfl rfl (Ba oO)) oO) rfl<|WQ.p (.ix Gk rfl rfl (i+2) (rfl) oO) rfl<|Jc BK rfl rfl (λm=>(Y0 (s[i+2]'oO) _ m))<|WQ.p (.or rfl rfl (show bits .or .i64 (((DY (s[i+1]'oO):Nat):Int) * 16) (MR (s[i+2]'oO))=((DY (s[i+1]'oO):Nat):Int) * 16+((DY (s[i+2]'oO):Nat):Int) by rw [(aZ.resolve_left (λh=>by have:=h.1;omega)).1];exact A4a _ _ oO oO)) rfl<|WQ.p (.cvt Mu FK rfl (Pu oO)) rfl<|WQ.p (.as rfl) rfl<|CX (λbd C=>?_)
 have am:=CP.drew B C
 have V:=g.1.drew C
 have a0:=g.2.drew C
 have a1:=BC hT (Mf C)
 refine Am<|A3 rfl<|A1 (.add rfl rfl (Ba oO))<|A9 rfl<|Am<|A3 rfl<|A3 rfl<|Cs (ps:=_) B1 EA Mt rfl rfl rfl rfl rfl pR rfl (λbe b6 E a7 j b1=>?_)
 have an:=DC am E j
 have ao:=Bl E V.lt
 have ap:=V.un j ao
 have a8:=λK=>E▸a0.lt K
 have aq:=Ce a0 j a8
 have a2:=CF E a1.size
 have a3:=BC a1 (DJ j a2)
 refine Ew B1 IN rfl rfl rfl an rfl a7 rfl (by rw [Cl];omega) (a3.size) rfl (λbf bg a9 F b2=>?_)
 have ar:=ap.below F oO
 have au:=DL aq F ad
 have av:=BC a3 (Fo (F.mono (DP _)))
 have aw:=Ea a9 (ch ((16 * DY (s[i+1]'oO)+DY (s[i+2]'oO):Nat):Int)) (by rw [IS _ oO oO];omega)
 refine A9 rfl<|Am<|A3 rfl<|A1 (.add rfl rfl (Ba oO))<|A9 rfl ?_
 exact ⟨(_,o++[_],i+3),⟨rfl,rfl,rfl,O4 rfl oM,tT⟩,⟨⟨ar,au⟩,av,aw,by rw [<- hw,Og _ _ _ oO y,A7 oO],oF,oM⟩,oM⟩
 have ai:=dT f
 refine Bc f<|Bc f<|Bc f<|Bc f<|Bc f<|A1 (.pkT rfl f rfl)<|A0<|BQ rfl rfl<|Am<|Fh BK rfl ((CS 23 _)) (λbh ax=>?_)
 obtain rfl:=ax
 exact Bt (BB 23 (by rw [hX,<- hw,Og _ _ _ oO y,A2 oO]) hT)
 have ag:=dT b
 refine Bc b<|Bc b<|Bc b<|Bc b<|Bc b<|A1 (.pkT rfl b rfl)<|A3 rfl<|Bc rfl<|Bc rfl<|Bc rfl<|Bc rfl<|Bc rfl<|Bc rfl<|A1 (.pkT rfl rfl rfl)<|A0<|BQ rfl rfl<|Am<|Fh BK rfl ((CS 23 _)) (λbi ay=>?_)
 obtain rfl:=ay
 exact Bt (BB 23 (by rw [hX,<- hw,X3 _ _ _ oO y oO]) hT)
 have aY:=dF h9
 have y:s[i]'oO≠35:=Df (d:=35) aS
 refine Ap<|Am<|A3 rfl<|A3 rfl<|Cs (ps:=_) B1 EA Mt rfl rfl rfl rfl rfl pR rfl (λa' b7 G aa u b3=>?_)
 have az:=DC B G u
 have aA:r<a':=by rw [G];exact g.1.lt
 have aB:=g.1.un u aA
 have ab:=λK=>G▸g.2.lt K
 have aC:=Ag.upd g.2 u (λK=>CR (ab K))
 have a4:=CF G hT.size
 have a5:=BC hT (DJ u a4)
 refine Ew B1 IN rfl rfl rfl az rfl aa rfl (by rw [Cl];omega) (a5.size) rfl (λbj bk ac H b4=>?_)
 have aD:=aB.below H oO
 have aE:=DL aC H ad
 have aF:=BC a5 (Fo (H.mono (DP _)))
 have aG:=Ea ac (s[i]'oO) (rfl)
 refine A9 rfl<|Am<|A3 rfl<|A1 (.add rfl rfl (Ba oO))<|A9 rfl ?_
 exact ⟨(_,o++[_],i+1),⟨rfl,rfl,rfl,O4 rfl oM,tT⟩,⟨⟨aD,aE⟩,aF,aG,by rw [<- hw,X4 _ _ _ oO y],oF,oM⟩,oM⟩
 have aX:=dF h8
 refine BF<|Ad<|AO<|Ad ?_
 obtain ⟨q,cq,rfl,ae,bl⟩:=CP.bytes B
 have P:D=some o:=by rw [<- hw,show i=s.length by omega,JJ,A1G]
 refine Am<|A3 rfl<|A1 (.lenS B1 rfl)<|A1 (.eql rfl rfl)<|A3 rfl<|Ck rfl rfl rfl (λx=>?_) (λx=>?_)
 have aH:=dF x
 refine A3 rfl<|Az x<|Ao (A3o q o cq 0 _ ae oO) (λbm aI=>?_)
 obtain rfl:=aI
 refine A1 (.pkF rfl x rfl)<|A9 rfl<|Ai rfl (λb0=>?_) (λb0=>?_)
 refine Am<|Fh BK rfl ((CS 23 _)) (λbn aJ=>?_)
 obtain rfl:=aJ
 exact Bt (BB 23 (by rw [hX,P];simp only [];rw [A7 (.inr (dT aS))]) hT)
 refine Ad ?_
 have af:¬ (o=[]\/0∈o):=λh=>h.elim (λh=>by rw [h] at *;simp_all) (λh=>by simp_all)
 refine Am<|A3 rfl<|A1 (.lenS B1 rfl)<|A1 (.gtr rfl rfl)<|A9 rfl<|Ai rfl (λa6=>?_) (λa6=>?_)
 have aK:=dT a6
 refine Am<|Fh BK rfl ((CS 25 _)) (λbo aL=>?_)
 obtain rfl:=aL
 exact Bt (BB 25 (by rw [hX,P];simp only [];rw [A2 af,A7 oO]) hT)
 have aK:=dF a6
 refine Ap<|A4<|A3 rfl<|Ah (Fm (l:=o) B1 FK Gk rfl (ae))<|A9 rfl<|AW ?_
 exact Cf.ok (o,t1) (by rw [hX,P];simp only [];rw [A2 af,A2 oO]) rfl ⟨⟨g.1,g.2⟩,hT⟩
 have aH:=dT x
 refine Bc x<|A1 (.pkT rfl x rfl)<|A9 rfl<|BQ rfl rfl<|Am<|Fh BK rfl ((CS 23 _)) (λbp aM=>?_)
 obtain rfl:=aM
 exact Bt (BB 23 (by rw [hX,P];simp only [];rw [A7 (.inl (EM.1 oO))]) hT)
end
section
theorem Vi (l:l8_) (i:Nat) (h:i<l.length):(l.drop i).all Ia=(Ia l[i] && (l.drop (i+1)).all Ia):=by
 rw [Aw h,List.all_cons]
theorem Ni {c:UInt8} (h:c=62\/(CV c=false/\MR c<0)):Ia c=false:=by
 rcases h with rfl | ⟨a,d⟩
 · rfl
 ·
  unfold Ia
  rcases IQ c with b | b
  · rw [a,AJ oO];simp
  · omega
theorem Lu {c:UInt8} (h:c≠62) (h2:CV c=true\/¬ MR c<0):Ia c=true:=by
 unfold Ia
 rw [bne_iff_ne.2 h,E3]
 rcases h2 with h2 | h2
 · rw [h2];rfl
 ·
  rcases IQ c with a | a
  · omega
  · rw [AP a.2];simp
theorem YV (r:Nat) (p:Option Addr) (l:l8_) (c t:Nat) (refs:Bool) (w:World) (h:P2 w r p l c t refs) (hl:l.length<=100000000) (ht:t<l.length) :
  Cb 133 #[ptV r] w (.bool (OC l t)):=by
 have hr:=h.1
 have hb:=h.2
 have hg:l[t]?=some l[t]:=Aj ht
 refine Ar func133 rfl ntmps133 ?_
 have a1:=CN w
 refine A4<|A9 rfl<|A4<|A9 rfl<|Ad<|Ad<|DH BR kR<|WQ.p (.mv rfl) rfl<|WQ.p (.nck rfl) rfl<|WQ.p (.fa CC rfl D8 dD rfl) rfl<|Db (λm=>Ae (g22_ _) rfl hr rfl) rfl<|WQ.p (.mv rfl) rfl<|WQ.p (.nck rfl) rfl<|WQ.p (.fa CC rfl Bw dD rfl) rfl<|Db (λm=>Ae (BZ _) rfl hr rfl) rfl<|WQ.p (.ixb B1 EA rfl rfl (hb.isp oO) (t) (rfl) (ht)) rfl<|Db (λm=>Bq (Iz _) rfl ((hb.drewN m).cells (t) (ht))) rfl<|WQ.p (.eql rfl rfl) rfl<|CX (λw1 v=>?_)
 have u:=hr.drew v
 have D:=hb.drew v
 have E:=C6.below a1 v
 refine Ai rfl (λF=>?_) (λF=>?_)
 have a2:=dT F
 refine Am<|A9 rfl<|Ad<|A4<|A3 rfl<|A1 (.nck rfl)<|A1 (.fa CC rfl Bw dD rfl)<|Ah (Ae (BZ _) rfl u rfl)<|A1 (.iis (((t+1:Nat):Int)) (.add rfl rfl (Ba oO)) oO)<|A9 rfl<|AO ?_
 obtain ⟨T0,x⟩:=eX t
 subst x
 refine BM (α:=Nat × Int) (λt=>[(0,ptV r),(3,.int .u8 t.2),(4,Af (t.1:Int))]) (λt w'=>AL w w'/\P2 w' r p l c T0 refs/\T0+1<=t.1/\t.1<=l.length/\((t.2=62/\l[T0]?=some 60/\(l.drop (T0+1)).all Ia=(l.drop t.1).all Ia)\/(t.2=41/\l[T0]?≠some 60))) (λt=>l.length-t.1) ((T0+1,_)) ⟨rfl,rfl,rfl,tT⟩ (⟨E,⟨u,D⟩,DP _,ht,by exact .inl ⟨rfl,by rw [hg,show l[T0]=60 from Co aS],rfl⟩⟩) (λt w1 hR=>?_)
 obtain ⟨i,z⟩:=t
 obtain ⟨hT,a,y,hi,hz⟩:=hR
 simp only at y hi hz ⊢
 refine Ad<|FT 32 (decide (i<l.length/\z=62)) ?_ ?_
 refine Am<|A3 rfl<|A3 rfl<|A1 (.nck rfl)<|A1 (.fa CC rfl D8 dD rfl)<|Ah (Ae (g22_ _) rfl a.1 rfl)<|A1 (.lenS B1 rfl)<|A1 (.lss rfl rfl)<|A3 rfl<|Ck rfl rfl rfl (λs=>?_) (λs=>?_)
 have a3:=dT s
 refine A3 rfl<|Az s<|A1 (.eql rfl rfl)<|A1 (.pkT rfl s rfl)<|A0<|?_
 exact ⟨Gy (DM rfl (by (apply AY.2;(try simp) <;> omega))),rfl⟩
 have a3:=dF s
 refine Bc s<|A1 (.pkF rfl s rfl)<|A0<|?_
 exact ⟨Gy (DM rfl (by (apply AY.2;(try simp) <;> omega))),rfl⟩
 refine Ai rfl (λG=>?_) (λG=>?_)
 have a4:=dT G
 have b:l[T0]?=some 60/\(l.drop (T0+1)).all Ia=(l.drop i).all Ia:=by rcases hz with h | h;exact h.2;omega
 have j:=Vi l i oO
 refine Ap<|Ad<|AO<|A4<|A3 rfl<|A1 (.nck rfl)<|A1 (.fa CC rfl D8 dD rfl)<|Ah (Ae (g22_ _) rfl a.1 rfl)<|A3 rfl<|A1 (.ixb B1 EA rfl rfl (a.2.isp oO) (i) (rfl) oO)<|Ah (Bq (Iz _) rfl (a.2.cells (i) oO))<|A9 rfl<|A4<|A3 rfl<|A1 (.eql rfl rfl)<|A3 rfl<|Ck rfl rfl rfl (λg=>?_) (λg=>?_)
 have a5:=dF g
 refine A3 rfl<|Az g<|Ao (JR _ _) (λw9 a6=>?_)
 obtain rfl:=a6
 refine Az g<|A1 (.not rfl)<|Az g<|A3 rfl<|Ck rfl rfl rfl (λk=>?_) (λk=>?_)
 have H:=(nT k)
 refine A3 rfl<|GX rfl rfl rfl (by rw [(nT k)] <;> rfl)<|Ao (IJ _ _) (λa7 J=>?_)
 obtain rfl:=J
 refine GX rfl rfl rfl (by rw [(nT k)] <;> rfl)<|A1 (.lss rfl rfl)<|Az g<|A1 (.pkT rfl (by rw [(nT k)] <;> rfl) rfl)<|A1 (.pkF rfl g rfl)<|A0<|Ai rfl (λA=>?_) (λA=>?_)
 have K:=dT A
 refine A4<|A9 rfl<|AW ?_
 exact ⟨CH (by unfold OC;rw [A7 b.1,b.2,j,Ni (.inr ⟨aS,aS⟩)];rfl),hT⟩
 have K:=dF A
 refine Ap<|Am<|A3 rfl<|A1 (.iis (((i+1:Nat):Int)) (.add rfl rfl (Ba oO)) oO)<|A9 rfl ?_
 exact ⟨(i+1,z),⟨rfl,rfl,rfl,tT⟩,⟨hT,⟨a.1,a.2⟩,oM,oM,.inl ⟨oO,b.1,by rw [b.2,j,Lu (Df (d:=62) aS) (.inr aS),E3]⟩⟩,oM⟩
 have H:=(nF k)
 refine Ie rfl rfl rfl (by rw [(nF k)] <;> rfl)<|Ie rfl rfl rfl (by rw [(nF k)] <;> rfl)<|Az g<|A1 (.pkF rfl (by rw [(nF k)] <;> rfl) rfl)<|A1 (.pkF rfl g rfl)<|A0<|Aq rfl rfl<|Ap<|Am<|A3 rfl<|A1 (.iis (((i+1:Nat):Int)) (.add rfl rfl (Ba oO)) oO)<|A9 rfl ?_
 exact ⟨(i+1,z),⟨rfl,rfl,rfl,tT⟩,⟨hT,⟨a.1,a.2⟩,oM,oM,.inl ⟨oO,b.1,by rw [b.2,j,Lu (Df (d:=62) aS) (.inl aS),E3]⟩⟩,oM⟩
 have a5:=dT g
 refine Bc g<|Bc g<|Bc g<|RI<|RI<|RI<|Bc g<|A1 (.pkT rfl g rfl)<|A0<|BQ rfl rfl<|A4<|A9 rfl<|AW ?_
 exact ⟨CH (by unfold OC;rw [A7 b.1,b.2,j,Ni (.inl (Co (d:=62) aS))];rfl),hT⟩
 have a4:=dF G
 refine BF<|A4<|A9 rfl<|AW ?_
 exact ⟨CH (by
  unfold OC;rcases hz with h | h;rw [A7 h.2.1,h.2.2,Bv oO];rfl;rw [A2 h.2]),hT⟩
 have a2:=dF F
 refine Ap<|Ad<|A4<|A3 rfl<|A1 (.nck rfl)<|A1 (.fa CC rfl Bw dD rfl)<|Ah (Ae (BZ _) rfl u rfl)<|A1 (.iis (((t+1:Nat):Int)) (.add rfl rfl (Ba oO)) oO)<|A9 rfl<|AO ?_
 obtain ⟨T0,x⟩:=eX t
 subst x
 refine BM (α:=Nat × Int) (λt=>[(0,ptV r),(3,.int .u8 t.2),(4,Af (t.1:Int))]) (λt w'=>AL w w'/\P2 w' r p l c T0 refs/\T0+1<=t.1/\t.1<=l.length/\((t.2=62/\l[T0]?=some 60/\(l.drop (T0+1)).all Ia=(l.drop t.1).all Ia)\/(t.2=41/\l[T0]?≠some 60))) (λt=>l.length-t.1) ((T0+1,_)) ⟨rfl,rfl,rfl,tT⟩ (⟨E,⟨u,D⟩,DP _,ht,by exact .inr ⟨rfl,by rw [hg];exact λh=>De (C3 h) (Df (d:=60) aS)⟩⟩) (λt w1 hR=>?_)
 obtain ⟨i,z⟩:=t
 obtain ⟨hT,a,y,hi,hz⟩:=hR
 simp only at y hi hz ⊢
 refine Ad<|FT 32 (decide (i<l.length/\z=62)) ?_ ?_
 refine Am<|A3 rfl<|A3 rfl<|A1 (.nck rfl)<|A1 (.fa CC rfl D8 dD rfl)<|Ah (Ae (g22_ _) rfl a.1 rfl)<|A1 (.lenS B1 rfl)<|A1 (.lss rfl rfl)<|A3 rfl<|Ck rfl rfl rfl (λq=>?_) (λq=>?_)
 have L:=dT q
 refine A3 rfl<|Az q<|A1 (.eql rfl rfl)<|A1 (.pkT rfl q rfl)<|A0<|?_
 exact ⟨Gy (DM rfl (by (apply AY.2;(try simp) <;> omega))),rfl⟩
 have L:=dF q
 refine Bc q<|A1 (.pkF rfl q rfl)<|A0<|?_
 exact ⟨Gy (DM rfl (by (apply AY.2;(try simp) <;> omega))),rfl⟩
 refine Ai rfl (λB=>?_) (λB=>?_)
 have P:=dT B
 have b:l[T0]?=some 60/\(l.drop (T0+1)).all Ia=(l.drop i).all Ia:=by rcases hz with h | h;exact h.2;omega
 have j:=Vi l i oO
 refine Ap<|Ad<|AO<|A4<|A3 rfl<|A1 (.nck rfl)<|A1 (.fa CC rfl D8 dD rfl)<|Ah (Ae (g22_ _) rfl a.1 rfl)<|A3 rfl<|A1 (.ixb B1 EA rfl rfl (a.2.isp oO) (i) (rfl) oO)<|Ah (Bq (Iz _) rfl (a.2.cells (i) oO))<|A9 rfl<|A4<|A3 rfl<|A1 (.eql rfl rfl)<|A3 rfl<|Ck rfl rfl rfl (λf=>?_) (λf=>?_)
 have Q:=dF f
 refine A3 rfl<|Az f<|Ao (JR _ _) (λa8 T=>?_)
 obtain rfl:=T
 refine Az f<|A1 (.not rfl)<|Az f<|A3 rfl<|Ck rfl rfl rfl (λo=>?_) (λo=>?_)
 have V:=(nT o)
 refine A3 rfl<|GX rfl rfl rfl (by rw [(nT o)] <;> rfl)<|Ao (IJ _ _) (λa9 X=>?_)
 obtain rfl:=X
 refine GX rfl rfl rfl (by rw [(nT o)] <;> rfl)<|A1 (.lss rfl rfl)<|Az f<|A1 (.pkT rfl (by rw [(nT o)] <;> rfl) rfl)<|A1 (.pkF rfl f rfl)<|A0<|Ai rfl (λC=>?_) (λC=>?_)
 have a0:=dT C
 refine A4<|A9 rfl<|AW ?_
 exact ⟨CH (by unfold OC;rw [A7 b.1,b.2,j,Ni (.inr ⟨aS,aS⟩)];rfl),hT⟩
 have a0:=dF C
 refine Ap<|Am<|A3 rfl<|A1 (.iis (((i+1:Nat):Int)) (.add rfl rfl (Ba oO)) oO)<|A9 rfl ?_
 exact ⟨(i+1,z),⟨rfl,rfl,rfl,tT⟩,⟨hT,⟨a.1,a.2⟩,oM,oM,.inl ⟨oO,b.1,by rw [b.2,j,Lu (Df (d:=62) aS) (.inr aS),E3]⟩⟩,oM⟩
 have V:=(nF o)
 refine Ie rfl rfl rfl (by rw [(nF o)] <;> rfl)<|Ie rfl rfl rfl (by rw [(nF o)] <;> rfl)<|Az f<|A1 (.pkF rfl (by rw [(nF o)] <;> rfl) rfl)<|A1 (.pkF rfl f rfl)<|A0<|Aq rfl rfl<|Ap<|Am<|A3 rfl<|A1 (.iis (((i+1:Nat):Int)) (.add rfl rfl (Ba oO)) oO)<|A9 rfl ?_
 exact ⟨(i+1,z),⟨rfl,rfl,rfl,tT⟩,⟨hT,⟨a.1,a.2⟩,oM,oM,.inl ⟨oO,b.1,by rw [b.2,j,Lu (Df (d:=62) aS) (.inl aS),E3]⟩⟩,oM⟩
 have Q:=dT f
 refine Bc f<|Bc f<|Bc f<|RI<|RI<|RI<|Bc f<|A1 (.pkT rfl f rfl)<|A0<|BQ rfl rfl<|A4<|A9 rfl<|AW ?_
 exact ⟨CH (by unfold OC;rw [A7 b.1,b.2,j,Ni (.inl (Co (d:=62) aS))];rfl),hT⟩
 have P:=dF B
 refine BF<|A4<|A9 rfl<|AW ?_
 exact ⟨CH (by
  unfold OC;rcases hz with h | h;rw [A7 h.2.1,h.2.2,Bv oO];rfl;rw [A2 h.2]),hT⟩
theorem S7 (r:Nat) (p:Option Addr) (l:l8_) (c t:Nat) (refs:Bool) (w:World) (h:P2 w r p l c t refs) (hne:0<l.length->(pA p).block≠r) (hc:l.length<=c) (hl:l.length<=100000000) (ht:t<l.length) :
  Calls Tryz.prog 108 #[ptV r] w (Cf 35 (Ku l t) (λa=>.agg (Rn 5 0 a.1).toArray) (λa w'=>P2 w' r p l c a.2 refs/\Bh w.heap.size r w w') (λw'=>Bh w.heap.size r w w')):=by
 have hr:=h.1
 have hb:=h.2
 obtain ⟨X,hX⟩:=eX (Ku l t)
 rw [<- hX]
 unfold Ku at hX
 have hN:∀ w1,Ag w1 p l->Calls Tryz.prog 132 #[.slice p l.length c,Af (t:Int)] w1 λe w'=>e=.returned (G0 l t).val/\AL w1 w':=λw1 h1=>YC t p l c w1 h1 hc hl
 have bg:=Qd l t oO
 generalize G0 l t=N at hX hN bg
 refine Ar func108 rfl ntmps108 ?_
 have cH:=Bh.refl (w.heap.size) r w
 refine A4<|Bj Cz rfl (λb1 ev aN cJ aq e6=>?_)
 have dH:=Bl aN hr.lt
 have dI:=hr.un aq dH
 have ar:=λb=>aN▸hb.lt b
 have dJ:=Ce hb aq ar
 have bh:=CF aN cH.size
 have dK:=BC cH (DJ aq bh)
 refine A0<|?_
 obtain ⟨t0,y⟩:=eX t
 refine If (α:=Nat) (λt=>[(0,ptV r),(2,ptV b1),(3,ptV t),(4,Af N.at'),(5,Af N.e)]) (λt w'=>Bh w.heap.size r w w'/\B0 w' r #[.slice p l.length c,Af (t0:Int),.bool refs] 133/\Ag w' p l/\B0 w' b1 (Rn 0 0 []).toArray 27/\B0 w' t #[Af N.k,Af N.n,.string (bs N.s)] 196/\b1<t) ?_ (λt w1 hR=>?_)
 refine Fe 17 rfl BR (λw7 aB=>?_)
 have g:=dI.drew aB
 have q:=cJ.drew aB
 have d:=dJ.drew aB
 have f:=BC dK (Mf aB)
 refine AI 0 rfl (.mv rfl) rfl<|AI 1 rfl (.nck rfl) rfl<|AI 2 rfl (.fa CC rfl D8 dD rfl) rfl<|AI 4 rfl (.mv rfl) rfl<|AI 5 rfl (.nck rfl) rfl<|AI 6 rfl (.fa CC rfl Bw dD rfl) rfl<|SK [3,7,13] kR rfl ⟨⟨_,rfl,?_⟩,⟨_,rfl,?_⟩,⟨_,rfl,?_⟩,tT⟩
 refine Ah (Ae (g22_ _) rfl g rfl)<|A0<|CG 7 rfl 13 rfl ?_ ?_
 refine Ah (Ae (BZ _) rfl g rfl)<|A0<|CG 8 rfl 13 rfl ?_ ?_
 refine Ao (hN _ d) (λew af=>?_)
 have aO:=g.bl af
 have aP:=q.bl af
 have aQ:=DL d af (λb=>d.lt b)
 have aR:=BC f (EX (Fo af) f.size)
 refine A0<|AI 9 rfl (.mv rfl) rfl<|AI 10 rfl (.ext rfl rfl) rfl<|AI 11 rfl (.ext rfl rfl) rfl<|AI 12 rfl (.ext rfl rfl) rfl<|Av 13 rfl<|Bj HJ rfl (λex e7 ag bi P dW=>?_)
 have cK:=Bl ag aO.lt
 have cL:=aO.un P cK
 have cM:=Bl ag aP.lt
 have cN:=aP.un P cM
 have aC:=λb=>ag▸aQ.lt b
 have cO:=Ce aQ P aC
 have aT:=CF ag aR.size
 have cP:=BC aR (DJ P aT)
 refine A0<|Av 14 rfl<|Ax rfl rfl bi BL rfl rfl (λey bj Q dX=>?_)
 have cQ:=cL.up Q
 have cR:=cN.up Q
 have cS:=Ce cO Q aC
 have cT:=BC cP (DJ Q oO)
 refine A0<|AI 15 rfl (.as rfl) rfl<|AI 16 rfl (.as rfl) rfl<|Bn kR ?_
 exact ⟨_,⟨rfl,rfl,rfl,rfl,rfl,tT⟩,cT,by rw [y];exact cQ,cS,cR,bj,oO⟩
 refine Bj HJ rfl (λez e8 ah bk T dY=>?_)
 have cU:=Bl ah g.lt
 have cV:=g.un T cU
 have cW:=Bl ah q.lt
 have cX:=q.un T cW
 have aD:=λb=>ah▸d.lt b
 have au:=Ce d T aD
 have aU:=CF ah f.size
 have aV:=BC f (DJ T aU)
 refine A0<|Av 8 rfl<|Ao (hN _ au) (λeA a7=>?_)
 have cY:=cV.bl a7
 have cZ:=cX.bl a7
 have c':=bk.bl a7
 have d0:=DL au a7 (λb=>au.lt b)
 have d1:=BC aV (EX (Fo a7) aV.size)
 refine A0<|AI 9 rfl (.mv rfl) rfl<|AI 10 rfl (.ext rfl rfl) rfl<|AI 11 rfl (.ext rfl rfl) rfl<|AI 12 rfl (.ext rfl rfl) rfl<|Av 14 rfl<|Ax rfl rfl c' BL rfl rfl (λeB bm U dZ=>?_)
 have d2:=cY.up U
 have d3:=cZ.up U
 have d4:=Ce d0 U aD
 have d5:=BC d1 (DJ U oO)
 refine A0<|AI 15 rfl (.as rfl) rfl<|AI 16 rfl (.as rfl) rfl<|Bn kR ?_
 exact ⟨_,⟨rfl,rfl,rfl,rfl,rfl,tT⟩,d5,by rw [y];exact d2,d4,d3,bm,oO⟩
 refine Bj HJ rfl (λeC e9 ai bn V d'=>?_)
 have d6:=Bl ai g.lt
 have aW:=g.un V d6
 have d7:=Bl ai q.lt
 have d8:=q.un V d7
 have aE:=λb=>ai▸d.lt b
 have av:=Ce d V aE
 have aX:=CF ai f.size
 have aY:=BC f (DJ V aX)
 refine A0<|Av 7 rfl<|Ah (Ae (BZ _) rfl aW rfl)<|A0<|Av 8 rfl<|Ao (hN _ av) (λeD a8=>?_)
 have d9:=aW.bl a8
 have da:=d8.bl a8
 have db:=bn.bl a8
 have dc:=DL av a8 (λb=>av.lt b)
 have dd:=BC aY (EX (Fo a8) aY.size)
 refine A0<|AI 9 rfl (.mv rfl) rfl<|AI 10 rfl (.ext rfl rfl) rfl<|AI 11 rfl (.ext rfl rfl) rfl<|AI 12 rfl (.ext rfl rfl) rfl<|Av 14 rfl<|Ax rfl rfl db BL rfl rfl (λeF bo a0 e0=>?_)
 have de:=d9.up a0
 have df:=da.up a0
 have dg:=Ce dc a0 aE
 have dh:=BC dd (DJ a0 oO)
 refine A0<|AI 15 rfl (.as rfl) rfl<|AI 16 rfl (.as rfl) rfl<|Bn kR ?_
 exact ⟨_,⟨rfl,rfl,rfl,rfl,rfl,tT⟩,dh,by rw [y];exact de,dg,df,bo,oO⟩
 refine Ah (Ae (BZ _) rfl g rfl)<|A0<|CG 3 rfl 13 rfl ?_ ?_
 refine Ah (Ae (g22_ _) rfl g rfl)<|A0<|CG 8 rfl 13 rfl ?_ ?_
 refine Ao (hN _ d) (λeG aj=>?_)
 have aZ:=g.bl aj
 have a':=q.bl aj
 have b0:=DL d aj (λb=>d.lt b)
 have b2:=BC f (EX (Fo aj) f.size)
 refine A0<|AI 9 rfl (.mv rfl) rfl<|AI 10 rfl (.ext rfl rfl) rfl<|AI 11 rfl (.ext rfl rfl) rfl<|AI 12 rfl (.ext rfl rfl) rfl<|Av 13 rfl<|Bj HJ rfl (λeH ea ak bp a1 e1=>?_)
 have di:=Bl ak aZ.lt
 have dj:=aZ.un a1 di
 have dk:=Bl ak a'.lt
 have dl:=a'.un a1 dk
 have aF:=λb=>ak▸b0.lt b
 have dm:=Ce b0 a1 aF
 have b4:=CF ak b2.size
 have dn:=BC b2 (DJ a1 b4)
 refine A0<|Av 14 rfl<|Ax rfl rfl bp BL rfl rfl (λeI bq a2 e2=>?_)
 have dp:=dj.up a2
 have dq:=dl.up a2
 have dr:=Ce dm a2 aF
 have ds:=BC dn (DJ a2 oO)
 refine A0<|AI 15 rfl (.as rfl) rfl<|AI 16 rfl (.as rfl) rfl<|Bn kR ?_
 exact ⟨_,⟨rfl,rfl,rfl,rfl,rfl,tT⟩,ds,by rw [y];exact dp,dr,dq,bq,oO⟩
 refine Bj HJ rfl (λeJ eb am bt a3 e3=>?_)
 have dt:=Bl am g.lt
 have du:=g.un a3 dt
 have dv:=Bl am q.lt
 have dw:=q.un a3 dv
 have aG:=λb=>am▸d.lt b
 have aw:=Ce d a3 aG
 have b5:=CF am f.size
 have b6:=BC f (DJ a3 b5)
 refine A0<|Av 8 rfl<|Ao (hN _ aw) (λeK a9=>?_)
 have dx:=du.bl a9
 have dy:=dw.bl a9
 have dz:=bt.bl a9
 have dA:=DL aw a9 (λb=>aw.lt b)
 have dB:=BC b6 (EX (Fo a9) b6.size)
 refine A0<|AI 9 rfl (.mv rfl) rfl<|AI 10 rfl (.ext rfl rfl) rfl<|AI 11 rfl (.ext rfl rfl) rfl<|AI 12 rfl (.ext rfl rfl) rfl<|Av 14 rfl<|Ax rfl rfl dz BL rfl rfl (λec b7 A dL=>?_)
 have bu:=dx.up A
 have bv:=dy.up A
 have bw:=Ce dA A aG
 have bz:=BC dB (DJ A oO)
 refine A0<|AI 15 rfl (.as rfl) rfl<|AI 16 rfl (.as rfl) rfl<|Bn kR ?_
 exact ⟨_,⟨rfl,rfl,rfl,rfl,rfl,tT⟩,bz,by rw [y];exact bu,bw,bv,b7,oO⟩
 refine Bj HJ rfl (λed e4 a4 b8 B dM=>?_)
 have bA:=Bl a4 g.lt
 have aH:=g.un B bA
 have bB:=Bl a4 q.lt
 have bC:=q.un B bB
 have ao:=λb=>a4▸d.lt b
 have an:=Ce d B ao
 have aL:=CF a4 f.size
 have aI:=BC f (DJ B aL)
 refine A0<|Av 3 rfl<|Ah (Ae (g22_ _) rfl aH rfl)<|A0<|Av 8 rfl<|Ao (hN _ an) (λee C=>?_)
 have bD:=aH.bl C
 have bE:=bC.bl C
 have bG:=b8.bl C
 have bH:=DL an C (λb=>an.lt b)
 have bI:=BC aI (EX (Fo C) aI.size)
 refine A0<|AI 9 rfl (.mv rfl) rfl<|AI 10 rfl (.ext rfl rfl) rfl<|AI 11 rfl (.ext rfl rfl) rfl<|AI 12 rfl (.ext rfl rfl) rfl<|Av 14 rfl<|Ax rfl rfl bG BL rfl rfl (λef b9 D dN=>?_)
 have bJ:=bD.up D
 have bK:=bE.up D
 have bL:=Ce bH D ao
 have bM:=BC bI (DJ D oO)
 refine A0<|AI 15 rfl (.as rfl) rfl<|AI 16 rfl (.as rfl) rfl<|Bn kR ?_
 exact ⟨_,⟨rfl,rfl,rfl,rfl,rfl,tT⟩,bM,by rw [y];exact bJ,bL,bK,b9,oO⟩
 refine Bj HJ rfl (λeg e5 a5 ap E dO=>?_)
 have bN:=Bl a5 g.lt
 have u:=g.un E bN
 have bO:=Bl a5 q.lt
 have aJ:=q.un E bO
 have aa:=λb=>a5▸d.lt b
 have v:=Ce d E aa
 have aM:=CF a5 f.size
 have a6:=BC f (DJ E aM)
 refine A0<|CG 3 rfl 7 rfl ?_ ?_
 refine Ah (Ae (g22_ _) rfl u rfl)<|A0<|Av 7 rfl<|Ah (Ae (BZ _) rfl u rfl)<|A0<|Av 8 rfl<|Ao (hN _ v) (λeh F=>?_)
 have bP:=u.bl F
 have bQ:=aJ.bl F
 have bR:=ap.bl F
 have bS:=DL v F (λb=>v.lt b)
 have bT:=BC a6 (EX (Fo F) a6.size)
 refine A0<|AI 9 rfl (.mv rfl) rfl<|AI 10 rfl (.ext rfl rfl) rfl<|AI 11 rfl (.ext rfl rfl) rfl<|AI 12 rfl (.ext rfl rfl) rfl<|Av 14 rfl<|Ax rfl rfl bR BL rfl rfl (λei ba G dP=>?_)
 have bU:=bP.up G
 have bV:=bQ.up G
 have bW:=Ce bS G aa
 have bX:=BC bT (DJ G oO)
 refine A0<|AI 15 rfl (.as rfl) rfl<|AI 16 rfl (.as rfl) rfl<|Bn kR ?_
 exact ⟨_,⟨rfl,rfl,rfl,rfl,rfl,tT⟩,bX,by rw [y];exact bU,bW,bV,ba,oO⟩
 refine Ah (Ae (BZ _) rfl u rfl)<|A0<|Av 3 rfl<|Ah (Ae (g22_ _) rfl u rfl)<|A0<|Av 8 rfl<|Ao (hN _ v) (λej H=>?_)
 have bY:=u.bl H
 have bZ:=aJ.bl H
 have b':=ap.bl H
 have c0:=DL v H (λb=>v.lt b)
 have c2:=BC a6 (EX (Fo H) a6.size)
 refine A0<|AI 9 rfl (.mv rfl) rfl<|AI 10 rfl (.ext rfl rfl) rfl<|AI 11 rfl (.ext rfl rfl) rfl<|AI 12 rfl (.ext rfl rfl) rfl<|Av 14 rfl<|Ax rfl rfl b' BL rfl rfl (λek bb J dQ=>?_)
 have c3:=bY.up J
 have c4:=bZ.up J
 have c5:=Ce c0 J aa
 have c6:=BC c2 (DJ J oO)
 refine A0<|AI 15 rfl (.as rfl) rfl<|AI 16 rfl (.as rfl) rfl<|Bn kR ?_
 exact ⟨_,⟨rfl,rfl,rfl,rfl,rfl,tT⟩,c6,by rw [y];exact c3,c5,c4,bb,oO⟩
 obtain ⟨b3,rfl⟩:=eX t
 subst y
 obtain ⟨hT,bc,hb2,cI,bd,eL⟩:=hR
 refine Ad<|AO<|A4<|A3 rfl<|A1 (.eql rfl rfl)<|A3 rfl<|Ck rfl rfl rfl (λx=>?_) (λx=>?_)
 have c7:=dT x
 refine A3 rfl<|Az x<|Ao (YV r p l c t0 refs _ ⟨bc,hb2⟩ hl ht) (λel K=>?_)
 have c8:=bc.bl K
 have c9:=cI.bl K
 have aK:=bd.bl K
 have ca:=DL hb2 K (λb=>hb2.lt b)
 have L:=BC hT (EX (Fo K) hT.size)
 refine A1 (.pkT rfl x rfl)<|A9 rfl<|Ai rfl (λdC=>?_) (λdC=>?_)
 refine Am<|Fh BK rfl ((CS 24 _)) (λem cb=>?_)
 obtain rfl:=cb
 exact Bt (BB 24 (by rw [hX,A7 ⟨aS,aS⟩]) L)
 refine A4<|A3 rfl<|A1 (.eql rfl rfl)<|A9 rfl<|Ai rfl (λax=>?_) (λax=>?_)
 have cc:=dT ax
 refine Am<|Fh BK rfl ((CS 25 _)) (λen cd=>?_)
 obtain rfl:=cd
 exact Bt (BB 25 (by rw [hX,A2 (by rintro ⟨h1,h2⟩;simp_all),A7 aS]) L)
 have cc:=dF ax
 refine A4<|A3 rfl<|A1 (.neq rfl rfl)<|A3 rfl<|Ck rfl rfl rfl (λm=>?_) (λm=>?_)
 have cf:=ndF m
 refine A1 (.fa DX rfl Bw dD rfl)<|Az m<|Ah (Ae (BZ _) rfl aK rfl)<|Az m<|A1 (.neq rfl rfl)<|A1 (.pkF rfl m rfl)<|A9 rfl<|Ai rfl (λay=>?_) (λay=>?_)
 have cg:=ndT ay
 refine Am<|Fh BK rfl ((CS 23 _)) (λeo ci=>?_)
 obtain rfl:=ci
 exact Bt (BB 23 (by rw [hX,A2 (by rintro ⟨h1,h2⟩;simp_all),A2 aS,A7 (.inr aS)]) L)
 have cg:=ndF ay
 refine Ap<|A4<|A3 rfl<|A1 (.iis (((N.at'.toNat:Nat):Int)) (.mv rfl) oO)<|A1 (.nck rfl)<|A1 (.fa CC rfl Bw dD rfl)<|Br Bw rfl rfl rfl c8 (by exact Nat.le_of_ble_eq_true rfl) (λdE ab i dR=>?_)
 have ab:B0 dE r _ _:=ab
 have i:CK r _ _:=i
 have cj:=c9.up i
 have ck:=aK.up i
 have cl:=Ag.upd ca i hne
 have cm:=BC L (Bp i)
 refine A0<|A4<|A1 (.fa DX rfl FH dD rfl)<|Ah (Ae (FX _) rfl ck rfl)<|?_
 refine A1 (.buildL (ps:=_) Er rfl rfl rfl pS) ?_
 refine Ax rfl rfl cj Al rfl rfl (λep be ac dS=>?_)
 have cn:=ab.up ac
 have co:=Ce cl ac ar
 have cq:=BC cm (DJ ac oO)
 refine A0<|AT (BI rfl rfl (Be be Ay rfl Al)  ?_)
 exact Cf.ok (N.s,N.at'.toNat) (by rw [hX,A2 (by rintro ⟨h1,h2⟩;simp_all),A2 aS,A2 oO]) rfl ⟨⟨cn,co⟩,cq⟩
 have cf:=ndT m
 refine Bc m<|Bc m<|A1 (.pkT rfl m rfl)<|A9 rfl<|BQ rfl rfl<|Am<|Fh BK rfl ((CS 23 _)) (λeq cr=>?_)
 obtain rfl:=cr
 exact Bt (BB 23 (by rw [hX,A2 (by rintro ⟨h1,h2⟩;simp_all),A2 aS,A7 (.inl aS)]) L)
 have c7:=dF x
 refine Bc x<|A1 (.pkF rfl x rfl)<|A9 rfl<|Aq rfl rfl<|A4<|A3 rfl<|A1 (.eql rfl rfl)<|A9 rfl<|Ai rfl (λaz=>?_) (λaz=>?_)
 have ct:=dT az
 refine Am<|Fh BK rfl ((CS 25 _)) (λer cu=>?_)
 obtain rfl:=cu
 exact Bt (BB 25 (by rw [hX,A2 (by rintro ⟨h1,h2⟩;simp_all),A7 aS]) hT)
 have ct:=dF az
 refine A4<|A3 rfl<|A1 (.neq rfl rfl)<|A3 rfl<|Ck rfl rfl rfl (λo=>?_) (λo=>?_)
 have cv:=ndF o
 refine A1 (.fa DX rfl Bw dD rfl)<|Az o<|Ah (Ae (BZ _) rfl bd rfl)<|Az o<|A1 (.neq rfl rfl)<|A1 (.pkF rfl o rfl)<|A9 rfl<|Ai rfl (λaA=>?_) (λaA=>?_)
 have cw:=ndT aA
 refine Am<|Fh BK rfl ((CS 23 _)) (λes cy=>?_)
 obtain rfl:=cy
 exact Bt (BB 23 (by rw [hX,A2 (by rintro ⟨h1,h2⟩;simp_all),A2 aS,A7 (.inr aS)]) hT)
 have cw:=ndF aA
 refine Ap<|A4<|A3 rfl<|A1 (.iis (((N.at'.toNat:Nat):Int)) (.mv rfl) oO)<|A1 (.nck rfl)<|A1 (.fa CC rfl Bw dD rfl)<|Br Bw rfl rfl rfl bc (by exact Nat.le_of_ble_eq_true rfl) (λdG ad j dU=>?_)
 have ad:B0 dG r _ _:=ad
 have j:CK r _ _:=j
 have cz:=cI.up j
 have cA:=bd.up j
 have cB:=Ag.upd hb2 j hne
 have cC:=BC hT (Bp j)
 refine A0<|A4<|A1 (.fa DX rfl FH dD rfl)<|Ah (Ae (FX _) rfl cA rfl)<|?_
 refine A1 (.buildL (ps:=_) Er rfl rfl rfl pS) ?_
 refine Ax rfl rfl cz Al rfl rfl (λet bf ae dV=>?_)
 have cD:=ad.up ae
 have cE:=Ce cB ae ar
 have cF:=BC cC (DJ ae oO)
 refine A0<|AT (BI rfl rfl (Be bf Ay rfl Al)  ?_)
 exact Cf.ok (N.s,N.at'.toNat) (by rw [hX,A2 (by rintro ⟨h1,h2⟩;simp_all),A2 aS,A2 oO]) rfl ⟨⟨cD,cE⟩,cF⟩
 have cv:=ndT o
 refine Bc o<|Bc o<|A1 (.pkT rfl o rfl)<|A9 rfl<|BQ rfl rfl<|Am<|Fh BK rfl ((CS 23 _)) (λeu cG=>?_)
 obtain rfl:=cG
 exact Bt (BB 23 (by rw [hX,A2 (by rintro ⟨h1,h2⟩;simp_all),A2 aS,A7 (.inl aS)]) hT)
def RW (l:l8_) (t:Nat):Except Int UInt8:=match l[B4 false l t]? with | none=>.error 24 | some x=>.ok x
theorem NX (r:Nat) (p:Option Addr) (l:l8_) (c t:Nat) (refs:Bool) (w:World) (h:P2 w r p l c t refs) (hne:0<l.length->(pA p).block≠r) (hl:l.length<=100000000) (ht:t<=l.length) :
  Calls Tryz.prog 131 #[ptV r] w (Cf 35 (RW l t) (λx=>.int .u8 (x.toNat:Int)) (λ_ w'=>P2 w' r p l c (B4 false l t) refs/\Bh w.heap.size r w w') (λw'=>Bh w.heap.size r w w')):=by
 have hr:=h.1
 have hb:=h.2
 unfold RW
 obtain ⟨s,hs⟩:=eX (B4 false l t)
 rw [<- hs]
 have hS:∀ A,Ag A p l->Calls Tryz.prog 53 #[.slice p l.length c,Af (t:Int)] A λe w'=>e=.returned (Af (s:Int))/\A=w':=λA h1=>(Ju p l c t A h1 hl).mono λe w' h=>⟨by rw [h.1,KR l t ht,hs],h.2⟩
 refine Ar func131 rfl ntmps131 ?_
 have a0:=Bh.refl (w.heap.size) r w
 refine A4<|A9 rfl<|Ad<|Fe 13 rfl BR (λA B=>?_)
 have f:=hr.drew B
 have y:=hb.drew B
 have H:=BC a0 (Mf B)
 refine AI 0 rfl (.mv rfl) rfl<|AI 1 rfl (.mv rfl) rfl<|AI 2 rfl (.nck rfl) rfl<|AI 3 rfl (.fa CC rfl D8 dD rfl) rfl<|AI 5 rfl (.mv rfl) rfl<|AI 6 rfl (.nck rfl) rfl<|AI 7 rfl (.fa CC rfl Bw dD rfl) rfl<|CG 4 rfl 8 rfl ?_ ?_
 refine Ah (Ae (g22_ _) rfl f rfl)<|A0<|Av 8 rfl<|Ah (Ae (BZ _) rfl f rfl)<|A0<|Av 9 rfl<|Ao (hS _ y) (λw5 a1=>?_)
 obtain rfl:=a1
 refine A0<|AI 10 rfl (.nck rfl) rfl<|AI 11 rfl (.fa CC rfl Bw dD rfl) rfl<|Av 12 rfl<|Br Bw rfl rfl rfl f (by exact Nat.le_of_ble_eq_true rfl) (λw6 d g a6=>?_)
 have d:B0 w6 r _ _:=d
 have g:CK r _ _:=g
 have a2:=Ag.upd y g hne
 have a3:=BC H (Bp g)
 refine A0<|Bn kR<|Ad<|Ad<|DH BR kR<|WQ.p (.mv rfl) rfl<|WQ.p (.nck rfl) rfl<|WQ.p (.fa CC rfl Bw dD rfl) rfl<|Db (λm=>Ae (BZ _) rfl d rfl) rfl<|WQ.p (.mv rfl) rfl<|WQ.p (.nck rfl) rfl<|WQ.p (.fa CC rfl D8 dD rfl) rfl<|Db (λm=>Ae (g22_ _) rfl d rfl) rfl<|WQ.p (.lenS B1 rfl) rfl<|WQ.p (.geq rfl rfl) rfl<|CX (λw9 C=>?_)
 have i:=d.drew C
 have j:=a2.drew C
 have D:=BC a3 (Mf C)
 refine Ai rfl (λE=>?_) (λE=>?_)
 have J:=dT E
 refine Am<|Fh BK rfl ((CS 24 _)) (λa7 K=>?_)
 obtain rfl:=K
 exact Bt (BB 24 (by rw [AZ oO]) D)
 have J:=dF E
 refine Ap<|Ad<|DH BR kR<|WQ.p (.mv rfl) rfl<|WQ.p (.nck rfl) rfl<|WQ.p (.fa CC rfl D8 dD rfl) rfl<|Db (λm=>Ae (g22_ _) rfl i rfl) rfl<|WQ.p (.mv rfl) rfl<|WQ.p (.nck rfl) rfl<|WQ.p (.fa CC rfl Bw dD rfl) rfl<|Db (λm=>Ae (BZ _) rfl i rfl) rfl<|WQ.p (.ixb B1 EA rfl rfl (j.isp oO) (s) (rfl) oO) rfl<|Db (λm=>Bq (Iz _) rfl ((j.drewN m).cells (s) oO)) rfl<|WQ.p (.as rfl) rfl<|CX (λa8 k=>?_)
 have L:=i.drew k
 have M:=j.drew k
 have N:=BC D (Mf k)
 refine AW ?_
 exact Cf.ok (l[s]'oO) (by rw [Aj oO]) rfl ⟨⟨L,M⟩,N⟩
 refine Ah (Ae (BZ _) rfl f rfl)<|A0<|Av 4 rfl<|Ah (Ae (g22_ _) rfl f rfl)<|A0<|Av 9 rfl<|Ao (hS _ y) (λa9 O=>?_)
 obtain rfl:=O
 refine A0<|AI 10 rfl (.nck rfl) rfl<|AI 11 rfl (.fa CC rfl Bw dD rfl) rfl<|Av 12 rfl<|Br Bw rfl rfl rfl f (by exact Nat.le_of_ble_eq_true rfl) (λa4 a b a5=>?_)
 have a:B0 a4 r _ _:=a
 have b:CK r _ _:=b
 have P:=Ag.upd y b hne
 have Q:=BC H (Bp b)
 refine A0<|Bn kR<|Ad<|Ad<|DH BR kR<|WQ.p (.mv rfl) rfl<|WQ.p (.nck rfl) rfl<|WQ.p (.fa CC rfl Bw dD rfl) rfl<|Db (λm=>Ae (BZ _) rfl a rfl) rfl<|WQ.p (.mv rfl) rfl<|WQ.p (.nck rfl) rfl<|WQ.p (.fa CC rfl D8 dD rfl) rfl<|Db (λm=>Ae (g22_ _) rfl a rfl) rfl<|WQ.p (.lenS B1 rfl) rfl<|WQ.p (.geq rfl rfl) rfl<|CX (λaa o=>?_)
 have q:=a.drew o
 have u:=P.drew o
 have F:=BC Q (Mf o)
 refine Ai rfl (λG=>?_) (λG=>?_)
 have T:=dT G
 refine Am<|Fh BK rfl ((CS 24 _)) (λab U=>?_)
 obtain rfl:=U
 exact Bt (BB 24 (by rw [AZ oO]) F)
 have T:=dF G
 refine Ap<|Ad<|DH BR kR<|WQ.p (.mv rfl) rfl<|WQ.p (.nck rfl) rfl<|WQ.p (.fa CC rfl D8 dD rfl) rfl<|Db (λm=>Ae (g22_ _) rfl q rfl) rfl<|WQ.p (.mv rfl) rfl<|WQ.p (.nck rfl) rfl<|WQ.p (.fa CC rfl Bw dD rfl) rfl<|Db (λm=>Ae (BZ _) rfl q rfl) rfl<|WQ.p (.ixb B1 EA rfl rfl (u.isp oO) (s) (rfl) oO) rfl<|Db (λm=>Bq (Iz _) rfl ((u.drewN m).cells (s) oO)) rfl<|WQ.p (.as rfl) rfl<|CX (λac v=>?_)
 have V:=q.drew v
 have X:=u.drew v
 have Y:=BC F (Mf v)
 refine AW ?_
 exact Cf.ok (l[s]'oO) (by rw [Aj oO]) rfl ⟨⟨V,X⟩,Y⟩
end
section
structure Gx (w:World) (S:Nat->Prop) (cs:List PC) (acc:List PV):Prop where
 len:cs.length=acc.length
 sub:∀ i (h:i<cs.length) (h2:i<acc.length),BP w S cs[i] acc[i]
theorem Gx.nil (w:World) (S:Nat->Prop):Gx w S [] []:=⟨rfl,λi h=>by simp at h⟩
theorem Gx.same {w w1:World} {S:Nat->Prop} {cs:List PC} {acc:List PV} (h:Gx w S cs acc) (hb:∀ k,S k->k<w.heap.size->w1.heap[k]?=w.heap[k]?):Gx w1 S cs acc:=⟨h.len,λi h1 h2=>(h.sub i h1 h2).same hb⟩
abbrev Gw:=@Gx.same
theorem Gx.mono  {cs:List PC} {acc:List PV} (h:Gx w S cs acc) (hST:∀ k,S k->k<w.heap.size->T k):Gx w T cs acc:=⟨h.len,λi h1 h2=>(h.sub i h1 h2).mono hST⟩
theorem Hy  {cs:List PC} {acc:List PV} (h:Gx w S cs acc) (hb:∀ k,S k->k<w.heap.size->w1.heap[k]?=w.heap[k]?) (hT:∀ k,S k->k<w.heap.size->T k):Gx w1 T cs acc :=
 ((h.mono (T:=λk=>S k/\k<w.heap.size) (λk hk hl=>⟨hk,hl⟩)).same (λk hk _=>hb k hk.1 hk.2)).mono (λk hk _=>hT k hk.1 hk.2)
theorem Gx.push  {cs:List PC} {acc:List PV} {x:PC} {o:PV} (h:Gx w S cs acc) (hx:BP w S x o):Gx w S (cs++[x]) (acc++[o]) :=
  ⟨by simp [h.len], fun i h1 h2 => by
    have hl:=h.len
    rcases Bu i cs.length with h3 | h3
    · rw [D7 h3, D7 oO]
      exact h.sub i h3 oO
    · obtain rfl : i = cs.length := by simp at h1; omega
      rw [CB (DP _),CB oO]
      simpa [hl] using hx⟩
theorem QS  {k n:Int} {kl kc lc:Nat} {keys:List (l8_)} {cs:List PC} {acc:List PV} (hk:E5 S w (.slice kp kl kc) keys) (hr:SL S w (.slice lp cs.length lc) cs) (h:Gx w S cs acc) :
  BP w S ⟨k,n,s,kp,kl,kc,lp,cs.length,lc⟩ (.mk k n s keys acc):=BP.mk ⟨k,n,s,kp,kl,kc,lp,cs.length,lc⟩ keys acc cs hk hr h.len h.sub
theorem EZ:(Tryz.prog.info? 27).map (λi=>(i.zero,i.size,i.bytes))=some (some (.agg (Rn 0 0 []).toArray),6,104):=by kernel_rfl
def A5C (w:World) (r:Nat) (p:Option Addr) (l:l8_) (c:Nat) (refs:Bool) (a:PV × Nat) (v:Value) (w':World):Prop :=
 ∃ x:PC,v=.agg (Wo x).toArray/\BP w' (λk=>w.heap.size<=k) x a.1/\P2 w' r p l c a.2 refs/\Bh w.heap.size r w w'
def A2i (p:Option Addr) (l:l8_) (c:Nat) (refs:Bool) (D:Int):Prop :=
 ∀ (r t:Nat) (w:World),P2 w r p l c t refs->(0<l.length->(pA p).block≠r)->t<l.length ->
  Calls Tryz.prog 79 #[ptV r,Af D] w (GZ 35 (ES refs l D.toNat t) (A5C w r p l c refs) (λw'=>Bh w.heap.size r w w'))
theorem PH  {t:Nat} {x:UInt8} (h:RW l t=.ok x):l[B4 false l t]?=some x:=by
 unfold RW at h
 split at h
 · cases h
 · next h1=>rw [h1];cases h;rfl
theorem Iv  {t:Nat} {k:Int} (h:RW l t=.error k):l[B4 false l t]?=none/\k=24:=by
 unfold RW at h
 split at h
 · next h1=>cases h;exact ⟨h1,rfl⟩
 · cases h
theorem Gr (l:l8_) (t:Nat) (ht:t<=l.length):t<=B4 false l t:=by
 unfold B4
 have a:=Iu (l.drop t) false
 rw [Au] at a
 omega
theorem MJ {obj:Nat->NB} {f:Nat} {acc:List PV} {t:Nat} (hf:0<f):IM obj l f acc t=(match l[B4 false l t]? with
  | none=>.error 24
  | some c=>if c=93 then .ok (acc,B4 false l t+1) else if 65535<=acc.length then .error 25 else match obj (B4 false l t) with | .error k=>.error k | .ok (o,t')=>IM obj l (f-1) (acc++[o]) t'):=by
 cases f with
 | zero=>omega
 | succ f=>rfl
theorem YW (p:Option Addr) (l:l8_) (c:Nat) (refs:Bool) (D:Int) (hO:A2i p l c refs D) (hadv:∀ t o t',t<l.length->ES refs l D.toNat t=.ok (o,t')->t<t'/\t'<=l.length) (r t:Nat) (w:World) (h:P2 w r p l c t refs) (hne:0<l.length->(pA p).block≠r) (hl:l.length<=100000000) (ht:t<=l.length) :
  Calls Tryz.prog 107 #[ptV r,Af D] w (GZ 35 (Qm (IM (ES refs l D.toNat) l (l.length+1) [] t)) (A5C w r p l c refs) (λw'=>Bh w.heap.size r w w')):=by
 have hr:=h.1
 have hb:=h.2
 have d8:0<l.length->(pA p).block<w.heap.size:=λX=>hb.lt X
 obtain ⟨R,hR⟩:=eX (IM (ES refs l D.toNat) l (l.length+1) [] t)
 rw [<- hR]
 obtain ⟨t0,d9⟩:=eX t
 subst d9
 refine Ar func107 rfl ntmps107 ?_
 have c3:=Bh.refl (w.heap.size) r w
 refine A4<|Bj Cz rfl (λb1 dM aG aH am dI=>?_)
 have da:=Bl aG hr.lt
 have a9:=hr.un am da
 have aI:=λX=>aG▸hb.lt X
 have c4:=Ce hb am aI
 have bf:=CF aG c3.size
 have c5:=BC c3 (DJ am bf)
 refine A0<|?_
 refine A4<|A1 (.buildL (ps:=_) Er rfl rfl rfl pS) ?_
 refine Bj Cz rfl (λA dN ax ca ab dJ=>?_)
 have db:=Bl ax a9.lt
 have dc:=a9.un ab db
 have cb:=Bl ax aH.lt
 have cc:=aH.un ab cb
 have Q:=λX=>ax▸c4.lt X
 have cd:=Ce c4 ab Q
 have bg:=CF ax c5.size
 have cf:=BC c5 (DJ ab bg)
 refine Ax rfl rfl ca Al rfl rfl (λdO bh a0 dB=>?_)
 have cg:=dc.up a0
 have ci:=cc.up a0
 have cj:=Ce cd a0 Q
 have ck:=BC cf (DJ a0 oO)
 refine A0<|Ad<|AO ?_
 have aJ:0<l.length->(pA p).block<A+1:=λX=>by have:=d8 X;omega
 have dP:r<A:=by omega
 refine BM (α:=Value × List PC × List PV × Nat × Nat) (λt=>[(0,ptV r),(1,Af D),(4,ptV b1),(5,ptV A)]) (λt w'=>P2 w' r p l c t.2.2.2.1 refs/\Bh w.heap.size r w w'/\B0 w' b1 (Rn 0 0 []).toArray 27/\B0 w' A #[Af 6,Af 0,.string ⟨#[]⟩,.slice none 0 0,t.1,.slice none 0 0] 27/\AD KE 27 (A+1) w' t.1 t.2.1/\Gx w' (λk=>A<k/\t.1.ownBlock≠some k) t.2.1 t.2.2.1/\IM (ES refs l D.toNat) l t.2.2.2.2 t.2.2.1 t.2.2.2.1=R/\l.length<t.2.2.2.2+t.2.2.2.1/\t.2.2.2.1<=l.length/\t.2.2.1.length<=65535) (λt=>t.2.2.2.2) ((.slice none 0 0,[],[],t0,l.length+1)) ⟨rfl,rfl,rfl,rfl,tT⟩ (⟨⟨cg,cj⟩,ck,ci,bh,AD.nil _ _ _ _,Gx.nil _ _,hR.symm,oM,ht,by simp⟩) (λt w1 hR=>?_)
 obtain ⟨v,cs,acc,t,f⟩:=t
 obtain ⟨aK,hT,c6,a9,an,ao,hw,dd,aL,de⟩:=hR
 simp only at aK a9 an ao hw dd aL de ⊢
 have J:=MJ (obj:=ES refs l D.toNat) (l:=l) (acc:=acc) (t:=t) (f:=f) oO
 have dK:=Gr l t aL
 have dQ:=ao.len
 obtain ⟨pl,cl,rfl,-⟩:=an.row
 refine Ad<|A4<|A3 rfl<|C1 BK rfl rfl ((NX r p l c t refs _ ⟨aK.1,aK.2⟩ hne hl aL)) (λdf c7 a1 u=>?_) (λdg c7 a1 u=>?_)
 have aM:=BC hT (EX u hT.size)
 exact Bt (GN df (by rw [<- hw,J,(Iv a1).1,(Iv a1).2];rfl) aM)
 have aN:=DR an u.2 oO
 have aO:=Gw (w1:=c7) ao (λk hk hl=>u.2.block k hl oO)
 have ap:=u.1.1
 have aP:=Gn c6 u.2 c6.lt oO
 have aq:=Gn a9 u.2 a9.lt oO
 have aQ:=u.1.2
 have ar:=BC hT (EX u.2 hT.size)
 have aR:=PH a1
 rw [aR] at J
 obtain ⟨ay,dh⟩:=C8.1 aR
 obtain ⟨x0,di⟩:=eX dg
 rw [<- di] at J dh aR ⊢
 generalize B4 false l t=s at *
 refine A1 (.neq rfl rfl)<|A0<|Ai rfl (λaT=>?_) (λaT=>?_)
 have cm:=ndT aT
 refine Ap<|AO<|Ad<|A4<|A1 (.fa Ay rfl Cr dD rfl)<|Ah (Ae (Dv _) rfl aq rfl)<|A1 (.lenS C2 rfl)<|A1 (.geq rfl rfl)<|A0<|Ai rfl (λaU=>?_) (λaU=>?_)
 have cn:=dT aU
 refine Am<|Fh BK rfl ((CS 25 _)) (λdR co=>?_)
 obtain rfl:=co
 exact Bt (GN 25 (by rw [<- hw,J];simp only [];rw [A2 (Df (d:=93) aS),A7 oO];rfl) ar)
 have cn:=dF aU
 refine Ap<|Fe 9 rfl BR (λdj K=>?_)
 have ac:=AD.drew aN K
 have aV:=Gw (w1:=dj) aO (λk hk hl=>(by obtain ⟨m,rfl⟩:=K;rfl))
 have aW:=ap.drew K
 have ad:=aP.drew K
 have N:=aq.drew K
 have aX:=aQ.drew K
 have B:=BC ar (Mf K)
 refine AI 0 rfl (.fa Ay rfl Cr dD rfl) rfl<|AI 2 rfl (.mv rfl) rfl<|AI 3 rfl (.mv rfl) rfl<|CG 1 rfl 4 rfl ?_ ?_
 refine Ah (Ae (Dv _) rfl N rfl)<|A0<|Av 4 rfl<|Eg BK rfl rfl ((hO r s _ ⟨aW,aX⟩ hne ay)) (λdk dl ae au=>?_) (λdm dS dl ae au=>?_)
 have aY:=BC B (EX au B.size)
 exact Bt (GN dk (by rw [<- hw,J];simp only [];rw [A2 (Df (d:=93) aS),A2 oO,ae];rfl) aY)
 have aa:=ae
 obtain ⟨oX,tX⟩:=dm
 obtain ⟨x1,rfl,aZ,a3,C⟩:=au
 have az:=hadv s oX tX ay aa
 have aA:=DR ac C oO
 have af:=Gw aV (λk hk hl=>C.block k hl (by have:=hk.1;omega))
 have P:=Gn ad C (ad).lt oO
 have E:=Gn N C (N).lt oO
 have a4:=BC B (EX C B.size)
 have av:=aZ.mono (T:=λk=>A<k/\(Value.slice pl cs.length cl).ownBlock≠some k) (λk hk _=>⟨by have:=(N).lt;omega,λe=>by have:=((ac).lt k e).2;omega⟩)
 have a2:=af.push av
 have a5:=a3.1
 have a6:=a3.2
 refine A0<|Av 5 rfl<|Cq (L:=KE) (ps:=_) ([x1]) C2 CU Cz rfl rfl rfl rfl rfl (by rfl) rfl rfl (λdn a' Y bi x dC=>?_)
 have cq:=Fs aA Y x
 have cr:=Gw (w1:=a') a2 (λk hk hl=>x.other k oO)
 have ct:=Bl Y a5.lt
 have cu:=a5.un x ct
 have cv:=Bl Y P.lt
 have cw:=P.un x cv
 have cy:=Bl Y E.lt
 have b0:=E.un x cy
 have bj:=λX=>Y▸a6.lt X
 have cz:=Ce a6 x bj
 have b2:=CF Y a4.size
 have cA:=BC a4 (DJ x b2)
 have dp:dn<=a'.heap.size:=by omega
 refine A0<|Av 6 rfl<|BS C2 EZ rfl rfl rfl cq rfl (bi).rowp oE ((b0).lt) rfl (λh=>nomatch h) (λdq dU aB U bk bl=>?_)
 have cB:=cu.below U oO
 have cC:=cw.below U oO
 have cD:=b0.below U oO
 have cE:=Hy (T:=λk=>A<k/\(dq).ownBlock≠some k) cr (λk hk hl=>bk.block k hl (λe=>hk.2 e.symm)) (λk hk hl=>⟨hk.1,λe=>by rcases bl k e with h | h;exact hk.2 h;omega⟩)
 have cF:=DL cz U aJ
 have cG:=BC cA (Fo (U.mono oO))
 refine A0<|AI 7 rfl (.fa Ay rfl Cr dD rfl) rfl<|Av 8 rfl<|Br Cr rfl rfl (aB).one cD (by exact Nat.le_of_ble_eq_true rfl) (λc8 ag j dE=>?_)
 have ag:B0 c8 A _ _:=ag
 have j:CK A _ _:=j
 have cH:=Bx aB j oM
 have cI:=Gw (w1:=c8) cE (λk hk hl=>j.other k oM)
 have cJ:=cB.up j
 have cK:=cC.up j
 have cL:=Ce cF j Q
 have cM:=BC cG (DJ j oO)
 refine A0<|Bn kR ?_
 exact ⟨(_,cs++[x1],acc++[oX],tX,f-1),⟨rfl,rfl,rfl,rfl,tT⟩,⟨⟨cJ,cL⟩,cM,cK,ag,cH,cI,by rw [<- hw,J];simp only [];rw [A2 (Df (d:=93) aS),A2 oO,aa],oM,az.2,oF⟩,oM⟩
 refine Eg BK rfl rfl ((hO r s _ ⟨aW,aX⟩ hne ay)) (λdr ds ah aw=>?_) (λdt dV ds ah aw=>?_)
 have b3:=BC B (EX aw B.size)
 exact Bt (GN dr (by rw [<- hw,J];simp only [];rw [A2 (Df (d:=93) aS),A2 oO,ah];rfl) b3)
 have aa:=ah
 obtain ⟨oX,tX⟩:=dt
 obtain ⟨x1,rfl,aZ,a3,C⟩:=aw
 have az:=hadv s oX tX ay aa
 have aA:=DR ac C oO
 have af:=Gw aV (λk hk hl=>C.block k hl (by have:=hk.1;omega))
 have P:=Gn ad C (ad).lt oO
 have E:=Gn N C (N).lt oO
 have a4:=BC B (EX C B.size)
 have av:=aZ.mono (T:=λk=>A<k/\(Value.slice pl cs.length cl).ownBlock≠some k) (λk hk _=>⟨by have:=(N).lt;omega,λe=>by have:=((ac).lt k e).2;omega⟩)
 have a2:=af.push av
 have a5:=a3.1
 have a6:=a3.2
 refine A0<|CG 1 rfl 5 rfl ?_ ?_
 refine Ah (Ae (Dv _) rfl E rfl)<|A0<|Av 5 rfl<|Cq (L:=KE) (ps:=_) ([x1]) C2 CU Cz rfl rfl rfl rfl rfl (by rfl) rfl rfl (λdu b4 Z bm y dG=>?_)
 have cN:=Fs aA Z y
 have cO:=Gw (w1:=b4) a2 (λk hk hl=>y.other k oO)
 have cP:=Bl Z a5.lt
 have cQ:=a5.un y cP
 have cR:=Bl Z P.lt
 have cS:=P.un y cR
 have cT:=Bl Z E.lt
 have b5:=E.un y cT
 have bn:=λX=>Z▸a6.lt X
 have cU:=Ce a6 y bn
 have b6:=CF Z a4.size
 have cV:=BC a4 (DJ y b6)
 have dv:du<=b4.heap.size:=by omega
 refine A0<|Av 6 rfl<|BS C2 EZ rfl rfl rfl cN rfl (bm).rowp oE ((b5).lt) rfl (λh=>nomatch h) (λdw dW aC V bo bp=>?_)
 have cW:=cQ.below V oO
 have cX:=cS.below V oO
 have cY:=b5.below V oO
 have cZ:=Hy (T:=λk=>A<k/\(dw).ownBlock≠some k) cO (λk hk hl=>bo.block k hl (λe=>hk.2 e.symm)) (λk hk hl=>⟨hk.1,λe=>by rcases bp k e with h | h;exact hk.2 h;omega⟩)
 have c':=DL cU V aJ
 have d0:=BC cV (Fo (V.mono oO))
 refine A0<|AI 7 rfl (.fa Ay rfl Cr dD rfl) rfl<|Av 8 rfl<|Br Cr rfl rfl (aC).one cY (by exact Nat.le_of_ble_eq_true rfl) (λc9 ai q dH=>?_)
 have ai:B0 c9 A _ _:=ai
 have q:CK A _ _:=q
 have d1:=Bx aC q oM
 have d2:=Gw (w1:=c9) cZ (λk hk hl=>q.other k oM)
 have d3:=cW.up q
 have bq:=cX.up q
 have bt:=Ce c' q Q
 have bu:=BC d0 (DJ q oO)
 refine A0<|Bn kR ?_
 exact ⟨(_,cs++[x1],acc++[oX],tX,f-1),⟨rfl,rfl,rfl,rfl,tT⟩,⟨⟨d3,bt⟩,bu,bq,ai,d1,d2,by rw [<- hw,J];simp only [];rw [A2 (Df (d:=93) aS),A2 oO,aa],oM,az.2,oF⟩,oM⟩
 refine Cq (L:=KE) (ps:=_) ([x1]) C2 CU Cz rfl rfl rfl rfl rfl (by rfl) rfl rfl (λd4 aD H b8 i dx=>?_)
 have bv:=Fs aA H i
 have bw:=Gw (w1:=aD) a2 (λk hk hl=>i.other k oO)
 have bz:=Bl H a5.lt
 have bA:=a5.un i bz
 have bB:=Bl H P.lt
 have bC:=P.un i bB
 have bD:=Bl H E.lt
 have aj:=E.un i bD
 have b9:=λX=>H▸a6.lt X
 have bE:=Ce a6 i b9
 have aF:=CF H a4.size
 have bG:=BC a4 (DJ i aF)
 have d7:d4<=aD.heap.size:=by omega
 refine A0<|Av 1 rfl<|Ah (Ae (Dv _) rfl aj rfl)<|A0<|Av 6 rfl<|BS C2 EZ rfl rfl rfl bv rfl (b8).rowp oE ((aj).lt) rfl (λh=>nomatch h) (λd5 dL ak F ba bb=>?_)
 have bH:=bA.below F oO
 have bI:=bC.below F oO
 have bJ:=aj.below F oO
 have bK:=Hy (T:=λk=>A<k/\(d5).ownBlock≠some k) bw (λk hk hl=>ba.block k hl (λe=>hk.2 e.symm)) (λk hk hl=>⟨hk.1,λe=>by rcases bb k e with h | h;exact hk.2 h;omega⟩)
 have bL:=DL bE F aJ
 have bM:=BC bG (Fo (F.mono oO))
 refine A0<|AI 7 rfl (.fa Ay rfl Cr dD rfl) rfl<|Av 8 rfl<|Br Cr rfl rfl (ak).one bJ (by exact Nat.le_of_ble_eq_true rfl) (λbc a7 a dy=>?_)
 have a7:B0 bc A _ _:=a7
 have a:CK A _ _:=a
 have bN:=Bx ak a oM
 have bO:=Gw (w1:=bc) bK (λk hk hl=>a.other k oM)
 have bP:=bH.up a
 have bQ:=bI.up a
 have bR:=Ce bL a Q
 have bS:=BC bM (DJ a oO)
 refine A0<|Bn kR ?_
 exact ⟨(_,cs++[x1],acc++[oX],tX,f-1),⟨rfl,rfl,rfl,rfl,tT⟩,⟨⟨bP,bR⟩,bS,bQ,a7,bN,bO,by rw [<- hw,J];simp only [];rw [A2 (Df (d:=93) aS),A2 oO,aa],oM,az.2,oF⟩,oM⟩
 have cm:=ndF aT
 refine BF<|A4<|A3 rfl<|A1 (.nck rfl)<|A1 (.fa CC rfl Bw dD rfl)<|Ah (Ae (BZ _) rfl ap rfl)<|A1 (.iis (((s+1:Nat):Int)) (.add rfl rfl (Ba oO)) oO)<|A1 (.nck rfl)<|A1 (.fa CC rfl Bw dD rfl)<|Br Bw rfl rfl rfl ap (by exact Nat.le_of_ble_eq_true rfl) (λbd a8 b dz=>?_)
 have a8:B0 bd r _ _:=a8
 have b:CK r _ _:=b
 have bT:=Bx aN b oM
 have bU:=Gw (w1:=bd) aO (λk hk hl=>b.other k oM)
 have bV:=aP.up b
 have bW:=aq.up b
 have bX:=Ag.upd aQ b hne
 have bY:=BC ar (Bp b)
 refine A0<|A4<|Ah (Bk rfl bW Ay rfl Al)<|Ax rfl rfl bV Al rfl rfl (λd6 be G dA=>?_)
 have aE:=Bx bT G oM
 have bZ:=Gw (w1:=d6) bU (λk hk hl=>G.other k oM)
 have b':=a8.up G
 have c0:=Ce bX G aI
 have c2:=BC bY (DJ G oO)
 refine A0<|AT (BI rfl rfl (Be be Ay rfl Al)  ?_)
 exact JC (.mk 6 0 [] [] acc,s+1) _ (by rw [<- hw,J];simp only [];rw [A7 (Co (d:=93) aS)];rfl) rfl ⟨⟨6,0,[],none,0,0,pl,cs.length,cl⟩,rfl,QS ⟨AD.nil _ _ _ _,λg h=>by cases h⟩ ⟨(aE).base (λg hg=>FI _),λg hg=>by have:=(aE).lt g hg;omega⟩ ((bZ).mono (λk hk _=>by have:=hk.1;omega)),⟨b',c0⟩,c2⟩
end
section
theorem Ma:(Tryz.prog.info? 9).map (λi=>(i.zero,i.size,i.bytes))=some (some (.string ⟨#[]⟩),1,16):=by kernel_rfl
theorem A10 (q:Option Addr) (s:List (l8_)) (c:Nat) (x:l8_) (w:World) (hb:B3 G7 w q s) (hl:s.length<=1000000000) :
  Calls Tryz.prog 60 #[.slice q s.length c,.string (bs x)] w λe w'=>∃ a:{ a:Int // 0<=a↔x∈s },e=.returned (Af a.1)/\w=w':=by
 refine Ar func60 rfl ntmps60<|A4<|A9 rfl<|Ad<|A4<|A3 rfl<|A1 (.lenS Dy rfl)<|A3 rfl<|A0<|AO<|BM (α:=Nat) (λt=>[(0,.slice q s.length c),(1,.string (bs x)),(7,Af (s.length:Int)),(8,Af (t:Int))]) (λt w'=>w=w'/\t<=s.length/\x ∉ s.take t) (λt=>s.length-t) (0) ⟨rfl,rfl,rfl,rfl,tT⟩ (⟨rfl,FI _,by simp⟩) (λt k hR=>?_)
 obtain ⟨i,rfl⟩:=eX t
 obtain ⟨rfl,hi,b⟩:=hR
 refine A4<|A1 (.lss rfl rfl)<|A0<|Ad<|Ai rfl (λd=>?_) (λd=>?_)
 have g:=dT d
 refine Ap<|Ad<|AO<|A4<|A3 rfl<|A9 rfl<|A4<|A3 rfl<|A3 rfl<|A3 rfl<|A1 (.ixb Dy FH rfl rfl (hb.isp oO) (i) (rfl) oO)<|Ah (Bq (FX _) rfl (hb.cells (i) oO))<|A1 (.eqs rfl rfl)<|A0<|Ai rfl (λf=>?_) (λf=>?_)
 have j:=dT f
 refine A4<|A3 rfl<|A9 rfl<|AW ?_
 exact ⟨⟨(i:Int),λ_=>by rw [show x=s[i]'oO by assumption];exact AA _,λ_=>by omega⟩,rfl,rfl⟩
 have j:=dF f
 refine Ap<|Am<|A1 (.iis (((i+1:Nat):Int)) (.add rfl rfl (Ba oO)) oO)<|A3 rfl<|A0<|?_
 exact ⟨i+1,⟨rfl,rfl,rfl,rfl,tT⟩,⟨rfl,oM,by
  rw [List.take_add_one,Aj oO,Option.toList_some,B9,B8];exact λh=>h.elim b aS⟩,oM⟩
 have g:=dF d
 refine BF<|A4<|A9 rfl<|AW ?_
 exact ⟨⟨-1,λh=>De h dD,λh=>by rw [show s.take i=s from An oO] at b;exact De h b⟩,rfl,rfl⟩
theorem A11 (q:Option Addr) (s:List (l8_)) (c:Nat) (x:l8_) (w:World) (hb:B3 G7 w q s) (hl:s.length<=1000000000) :
  Calls Tryz.prog 134 #[.slice q s.length c,.string (bs x)] w λe w'=>e=.returned (.bool (decide (x∈s)))/\w=w':=by
 refine Ar func134 rfl ntmps134<|A4<|A9 rfl<|A4<|A3 rfl<|A3 rfl<|Bf BK rfl rfl ((A10 q s c x _ hb hl)) (λa d b=>?_)
 obtain rfl:=b
 refine A1 (.geq rfl rfl)<|A9 rfl<|AW ?_
 exact ⟨CH (HI.2 a.2),rfl⟩
theorem Qj  {t:Nat} {k:l8_} {t1:Nat} (ht:t<=l.length) (h:J8 l t=.ok (k,t1)):t<=t1/\t1<=l.length:=by
 have hw:=F6 l t ht
 unfold J8 at h
 split at h
 · cases h
 ·
  split at h
  · cases h
  ·
   split at h
   · cases h
   · cases h;exact hw
theorem KG {obj:Nat->NB} {f:Nat} {os:List PV} {t:Nat} (hf:0<f):Gl obj l f ks os t=(match l[B4 false l t]? with
  | none=>.error 24
  | some c =>
   if c=62/\l.length<=B4 false l t+1 then .error 24
   else if c=62/\l[B4 false l t+1]?=some 62 then .ok (ks,os,B4 false l t+2)
   else if c≠47 then .error 23
   else match J8 l (B4 false l t+1) with
    | .error k=>.error k
    | .ok (k,t1) =>
     if k∈ks then .error 23
     else if 65535<=os.length then .error 25
     else match l[B4 false l t1]? with
      | none=>.error 24
      | some _=>match obj (B4 false l t1) with
       | .error k=>.error k
       | .ok (o,t')=>Gl obj l (f-1) (ks++[k]) (os++[o]) t'):=by
 cases f with
 | zero=>omega
 | succ f=>rfl
theorem A0M  {t:Nat} (h:Gt l t 62=true):l[t]?=some 62:=by
 obtain ⟨a,b⟩:=Pb h
 rw [Aj a,b]
theorem UC  {t:Nat} (h:Gt l t 62=false):l[t]?≠some 62:=λe=>by
 obtain ⟨h1,h2⟩:=C8.1 e
 exact Te h h1 h2
theorem Wn (p:Option Addr) (l:l8_) (c:Nat) (refs:Bool) (D:Int) (hO:A2i p l c refs D) (hadv:∀ t o t',t<l.length->ES refs l D.toNat t=.ok (o,t')->t<t'/\t'<=l.length) (r t:Nat) (w:World) (h:P2 w r p l c t refs) (hne:0<l.length->(pA p).block≠r) (hc:l.length<=c) (hl:l.length<=100000000) (ht:t<=l.length) :
  Calls Tryz.prog 109 #[ptV r,Af D] w (GZ 35 (ME (Gl (ES refs l D.toNat) l (l.length+1) [] [] t)) (A5C w r p l c refs) (λw'=>Bh w.heap.size r w w')):=by
 have hr:=h.1
 have hb:=h.2
 have fD:0<l.length->(pA p).block<w.heap.size:=λh0=>hb.lt h0
 obtain ⟨R,hR⟩:=eX (Gl (ES refs l D.toNat) l (l.length+1) [] [] t)
 rw [<- hR]
 obtain ⟨t0,fE⟩:=eX t
 subst fE
 refine Ar func109 rfl ntmps109 ?_
 have eG:=Bh.refl (w.heap.size) r w
 refine A4<|Bj Cz rfl (λb1 go b' c0 be g7=>?_)
 have fF:=Bl b' hr.lt
 have aK:=hr.un be fF
 have c2:=λh0=>b'▸hb.lt h0
 have eH:=Ce hb be c2
 have cI:=CF b' eG.size
 have eI:=BC eG (DJ be cI)
 refine A0<|?_
 refine A4<|A1 (.buildL (ps:=_) Er rfl rfl rfl pS) ?_
 refine Bj Cz rfl (λP gp bt eN aM g8=>?_)
 have fG:=Bl bt aK.lt
 have fH:=aK.un aM fG
 have eO:=Bl bt c0.lt
 have eP:=c0.un aM eO
 have aa:=λh0=>bt▸eH.lt h0
 have eQ:=Ce eH aM aa
 have cJ:=CF bt eI.size
 have eR:=BC eI (DJ aM cJ)
 refine Ax rfl rfl eN Al rfl rfl (λgq cK ao g3=>?_)
 have eS:=fH.up ao
 have eT:=eP.up ao
 have eU:=Ce eQ ao aa
 have eV:=BC eR (DJ ao oO)
 refine A0<|AO ?_
 have bu:0<l.length->(pA p).block<P+1:=λh0=>by have:=fD h0;omega
 refine BM (α:=Value × Value × List (l8_) × List PC × List PV × Nat × Nat) (λt=>[(0,ptV r),(1,Af D),(4,ptV b1),(5,ptV P)]) (λt w'=>P2 w' r p l c t.2.2.2.2.2.1 refs/\Bh w.heap.size r w w'/\B0 w' b1 (Rn 0 0 []).toArray 27/\B0 w' P #[Af 7,Af 0,.string ⟨#[]⟩,t.1,t.2.1,.slice none 0 0] 27/\AD G8 9 (P+1) w' t.1 t.2.2.1/\AD KE 27 (P+1) w' t.2.1 t.2.2.2.1/\(∀ g,t.1.ownBlock=some g->t.2.1.ownBlock≠some g)/\Gx w' (λk=>P<k/\t.1.ownBlock≠some k/\t.2.1.ownBlock≠some k) t.2.2.2.1 t.2.2.2.2.1/\Gl (ES refs l D.toNat) l t.2.2.2.2.2.2 t.2.2.1 t.2.2.2.2.1 t.2.2.2.2.2.1=R/\l.length<t.2.2.2.2.2.2+t.2.2.2.2.2.1/\t.2.2.2.2.2.1<=l.length/\t.2.2.2.2.1.length<=65535/\t.2.2.1.length=t.2.2.2.2.1.length) (λt=>t.2.2.2.2.2.2) ((.slice none 0 0,.slice none 0 0,[],[],[],t0,l.length+1)) ⟨rfl,rfl,rfl,rfl,tT⟩ (⟨⟨eS,eU⟩,eV,eT,cK,AD.nil _ _ _ _,AD.nil _ _ _ _,λg h=>(by cases h),Gx.nil _ _,hR.symm,oM,ht,FI _,rfl⟩) (λt w1 hR=>?_)
 obtain ⟨kv,v,ks,cs,acc,t,f⟩:=t
 obtain ⟨c3,hT,eJ,aK,aN,bf,bg,bh,hw,fI,c4,fJ,fK⟩:=hR
 simp only at c3 aK aN bf bg bh hw fI c4 fJ fK ⊢
 have H:=KG (obj:=ES refs l D.toNat) (l:=l) (ks:=ks) (os:=acc) (t:=t) (f:=f) oO
 have g9:=Gr l t c4
 have gr:=bh.len
 obtain ⟨pl,cl,rfl,-⟩:=bf.row
 obtain ⟨pk,ck,rfl,-⟩:=aN.row
 refine AO<|Ad<|A4<|A3 rfl<|C1 BK rfl rfl ((NX r p l c t refs _ ⟨c3.1,c3.2⟩ hne hl c4)) (λfL eK ap N=>?_) (λfM eK ap N=>?_)
 have c5:=BC hT (EX N hT.size)
 exact Bt (GN fL (by rw [<- hw,H,(Iv ap).1,(Iv ap).2];rfl) c5)
 have eW:=DR aN N.2 oO
 have eY:=DR bf N.2 oO
 have eZ:=Gw (w1:=eK) bh (λk hk hl=>N.2.block k hl oO)
 have bi:=N.1.1
 have e':=Gn eJ N.2 eJ.lt oO
 have f0:=Gn aK N.2 aK.lt oO
 have f1:=N.1.2
 have f2:=BC hT (EX N.2 hT.size)
 have c6:=PH ap
 rw [c6] at H
 obtain ⟨gs,fN⟩:=C8.1 c6
 obtain ⟨x0,fO⟩:=eX fM
 rw [<- fO] at H fN c6 ⊢
 generalize B4 false l t=s at *
 refine A9 rfl<|AO<|Je 11 (decide ((x0.toNat:Int)=62/\(l.length:Int)<=(s:Int)+1)) ?_ (λfP a2=>?_)
 refine DH BR kR<|WQ.p (.mv rfl) rfl<|WQ.p (.eql rfl rfl) rfl<|WQ.p (.mv rfl) rfl<|Kj rfl rfl rfl (λb=>?_) (λb=>?_)
 have f3:=dT b
 refine WQ.p (.mv rfl) rfl<|C0 rfl rfl rfl b<|WQ.p (.nck rfl) rfl<|C0 rfl rfl rfl b<|WQ.p (.fa CC rfl Bw dD rfl) rfl<|C0 rfl rfl rfl b<|Db (λm=>Ae (BZ _) rfl bi rfl) rfl<|C0 rfl rfl rfl b<|WQ.p (.iis ((s:Int)+1) (.add rfl rfl (Ba oO)) oO) rfl<|C0 rfl rfl rfl b<|WQ.p (.mv rfl) rfl<|C0 rfl rfl rfl b<|WQ.p (.nck rfl) rfl<|C0 rfl rfl rfl b<|WQ.p (.fa CC rfl D8 dD rfl) rfl<|C0 rfl rfl rfl b<|Db (λm=>Ae (g22_ _) rfl bi rfl) rfl<|C0 rfl rfl rfl b<|WQ.p (.lenS B1 rfl) rfl<|C0 rfl rfl rfl b<|WQ.p (.geq rfl rfl) rfl<|WQ.p (.pkT rfl b rfl) rfl<|WQ.p (.as rfl) rfl<|CX (λgt f4=>?_)
 exact ⟨Gy (DM rfl (by (apply AY.2;(try simp) <;> omega))),f4⟩
 have f3:=dF b
 refine Bm rfl rfl rfl b<|Bm rfl rfl rfl b<|Bm rfl rfl rfl b<|Bm rfl rfl rfl b<|Bm rfl rfl rfl b<|Bm rfl rfl rfl b<|Bm rfl rfl rfl b<|Bm rfl rfl rfl b<|Bm rfl rfl rfl b<|Bm rfl rfl rfl b<|WQ.p (.pkF rfl b rfl) rfl<|WQ.p (.as rfl) rfl<|CX (λgv f5=>?_)
 exact ⟨Gy (DM rfl (by (apply AY.2;(try simp) <;> omega))),f5⟩
 have f6:=AD.drew eW a2
 have f7:=AD.drew eY a2
 have f8:=Gw (w1:=fP) eZ (λk hk hl=>(by obtain ⟨m,rfl⟩:=a2;rfl))
 have bj:=bi.drew a2
 have f9:=e'.drew a2
 have fb:=f0.drew a2
 have bk:=f1.drew a2
 have c7:=BC f2 (Mf a2)
 refine Ai rfl (λc8=>?_) (λc8=>?_)
 have fc:=dT c8
 refine Am<|Fh BK rfl ((CS 24 _)) (λgw fd=>?_)
 obtain rfl:=fd
 exact Bt (GN 24 (by rw [<- hw,H];(try simp only []);rw [A7 ⟨Co (d:=62) (show (x0.toNat:Int)=62 by omega),oO⟩];rfl) c7)
 have fc:=dF c8
 have a3:¬ (x0=62/\l.length<=s+1):=λh=>by (have h2:(x0.toNat:Int)=62:=by rw [h.1];rfl);omega
 refine Je 28 (decide ((x0.toNat:Int)=62) && Gt l (s+1) 62) ?_ (λfQ a4=>?_)
 refine DH BR kR<|WQ.p (.mv rfl) rfl<|WQ.p (.eql rfl rfl) rfl<|WQ.p (.mv rfl) rfl<|Kj rfl rfl rfl (λa=>?_) (λa=>?_)
 have fe:=dT a
 refine WQ.p (.mv rfl) rfl<|C0 rfl rfl rfl a<|WQ.p (.nck rfl) rfl<|C0 rfl rfl rfl a<|WQ.p (.fa CC rfl D8 dD rfl) rfl<|C0 rfl rfl rfl a<|Db (λm=>Ae (g22_ _) rfl bj rfl) rfl<|C0 rfl rfl rfl a<|WQ.p (.mv rfl) rfl<|C0 rfl rfl rfl a<|WQ.p (.nck rfl) rfl<|C0 rfl rfl rfl a<|WQ.p (.fa CC rfl Bw dD rfl) rfl<|C0 rfl rfl rfl a<|Db (λm=>Ae (BZ _) rfl bj rfl) rfl<|C0 rfl rfl rfl a<|WQ.p (.iis (((s+1:Nat):Int)) (.add rfl rfl (Ba oO)) oO) rfl<|C0 rfl rfl rfl a<|WQ.p (.ixb B1 EA rfl rfl (bk.isp oO) (s+1) oO oO) rfl<|C0 rfl rfl rfl a<|Db (λm=>Bq (Iz _) rfl ((bk.drewN m).cells (s+1) oO)) rfl<|C0 rfl rfl rfl a<|WQ.p (.eql rfl rfl) rfl<|WQ.p (.pkT rfl a rfl) rfl<|WQ.p (.as rfl) rfl<|CX (λgx ff=>?_)
 exact ⟨Gy (DM rfl (by (rw [show decide ((x0.toNat:Int)=62)=true from AP aS,E3];unfold Gt;rw [show decide (s+1<l.length)=true from AP oO,E3,getElem!_pos l (s+1) oO];rfl))),ff⟩
 have fe:=dF a
 refine Bm rfl rfl rfl a<|Bm rfl rfl rfl a<|Bm rfl rfl rfl a<|Bm rfl rfl rfl a<|Bm rfl rfl rfl a<|Bm rfl rfl rfl a<|Bm rfl rfl rfl a<|Bm rfl rfl rfl a<|Bm rfl rfl rfl a<|Bm rfl rfl rfl a<|Bm rfl rfl rfl a<|WQ.p (.pkF rfl a rfl) rfl<|WQ.p (.as rfl) rfl<|CX (λgz fg=>?_)
 exact ⟨Gy (DM rfl (by (rw [show decide ((x0.toNat:Int)=62)=false from AJ aS];rfl))),fg⟩
 have c9:=AD.drew f6 a4
 have ca:=AD.drew f7 a4
 have cb:=Gw (w1:=fQ) f8 (λk hk hl=>(by obtain ⟨m,rfl⟩:=a4;rfl))
 have aO:=bj.drew a4
 have cc:=f9.drew a4
 have cd:=fb.drew a4
 have cf:=bk.drew a4
 have bl:=BC c7 (Mf a4)
 refine Ai rfl (λfR=>?_) (λfR=>?_)
 have bm:(x0.toNat:Int)=62/\Gt l (s+1) 62=true:=by simp_all
 have gA:=(Pb bm.2).1
 refine A4<|A3 rfl<|A1 (.nck rfl)<|A1 (.fa CC rfl Bw dD rfl)<|Ah (Ae (BZ _) rfl aO rfl)<|A1 (.iis (((s+2:Nat):Int)) (.add rfl rfl (Ba oO)) oO)<|A1 (.nck rfl)<|A1 (.fa CC rfl Bw dD rfl)<|Br Bw rfl rfl rfl aO (by exact Nat.le_of_ble_eq_true rfl) (λeL aP G g4=>?_)
 have aP:B0 eL r _ _:=aP
 have G:CK r _ _:=G
 have fh:=Bx c9 G oM
 have fi:=Bx ca G oM
 have fj:=Gw (w1:=eL) cb (λk hk hl=>G.other k oM)
 have fk:=cc.up G
 have fl:=cd.up G
 have fm:=Ag.upd cf G hne
 have fn:=BC bl (Bp G)
 refine A0<|A4<|Ah (Bk rfl fl Ay rfl Al)<|Ax rfl rfl fk Al rfl rfl (λfS cL ab g5=>?_)
 have cg:=Bx fh ab oM
 have bv:=Bx fi ab oM
 have cM:=Gw (w1:=fS) fj (λk hk hl=>ab.other k oM)
 have cN:=aP.up ab
 have cO:=Ce fm ab c2
 have cP:=BC fn (DJ ab oO)
 refine A0<|AT (BI rfl rfl (Be cL Ay rfl Al)  ?_)
 exact JC (.mk 7 0 [] ks acc,s+2) _ (by rw [<- hw,H];(try simp only []);rw [A2 a3,A7 ⟨Co (d:=62) bm.1,A0M bm.2⟩];rfl) rfl ⟨⟨7,0,[],pk,ks.length,ck,pl,cs.length,cl⟩,rfl,QS ⟨(cg).base (λg hg=>FI _),λg hg=>by have:=(cg).lt g hg;omega⟩ ⟨(bv).base (λg hg=>FI _),λg hg=>by have:=(bv).lt g hg;omega⟩ ((cM).mono (λk hk _=>by have:=hk.1;omega)),⟨cN,cO⟩,cP⟩
 have ad:¬ (x0=62/\l[s+1]?=some 62):=λh=>by (have h2:(x0.toNat:Int)=62:=by rw [h.1];rfl);(have h3:=UC (l:=l) (t:=s+1) (by simp_all));exact h3 h.2
 refine A4<|A3 rfl<|A1 (.neq rfl rfl)<|A9 rfl<|Ai rfl (λbn=>?_) (λbn=>?_)
 have cQ:=ndT bn
 refine Am<|Fh BK rfl ((CS 23 _)) (λga cR=>?_)
 obtain rfl:=cR
 exact Bt (GN 23 (by rw [<- hw,H];(try simp only []);rw [A2 a3,A2 ad,A7 (Df (d:=47) aS)];rfl) bl)
 have cQ:=ndF bn
 have af:x0=47:=Co (d:=47) aS
 refine Ap<|A4<|A3 rfl<|A1 (.nck rfl)<|A1 (.fa CC rfl Bw dD rfl)<|Ah (Ae (BZ _) rfl aO rfl)<|A1 (.iis (((s+1:Nat):Int)) (.add rfl rfl (Ba oO)) oO)<|A1 (.nck rfl)<|A1 (.fa CC rfl Bw dD rfl)<|Br Bw rfl rfl rfl aO (by exact Nat.le_of_ble_eq_true rfl) (λci az i fT=>?_)
 have az:B0 ci r _ _:=az
 have i:CK r _ _:=i
 have cS:=Bx c9 i oM
 have cT:=Bx ca i oM
 have cU:=Gw (w1:=ci) cb (λk hk hl=>i.other k oM)
 have bw:=cc.up i
 have bz:=cd.up i
 have cV:=Ag.upd cf i hne
 have aq:=BC bl (Bp i)
 refine A0<|A4<|A3 rfl<|C1 BK rfl rfl ((S8 r p l c (s+1) refs _ ⟨az,cV⟩ hne hc hl oO)) (λfo cj aA y=>?_) (λfp cj aA y=>?_)
 have bS:=BC aq (EX y aq.size)
 exact Bt (GN fo (by rw [<- hw,H];(try simp only []);rw [A2 a3,A2 ad,A2 (by rw [af];simp),aA];rfl) bS)
 have bA:=DR cS y.2 oO
 have cW:=DR cT y.2 oO
 have cX:=Gw (w1:=cj) cU (λk hk hl=>y.2.block k hl oO)
 have bB:=y.1.1
 have bC:=Gn bw y.2 bw.lt oO
 have ag:=Gn bz y.2 bz.lt oO
 have bD:=y.1.2
 have ar:=BC aq (EX y.2 aq.size)
 have ah:=aA
 obtain ⟨kX,t1⟩:=fp
 have eM:=Qj oO ah
 simp only [] at *
 refine A9 rfl<|Ad<|A4<|A1 (.fa Ay rfl DU dD rfl)<|Ah (Ae (Fg _) rfl ag rfl)<|A3 rfl<|Ao (A11 pk ks ck kX _ ((bA).rowp.strs) oO) (λgb cY=>?_)
 obtain rfl:=cY
 refine A0<|Ai rfl (λfq=>?_) (λfq=>?_)
 refine Am<|Fh BK rfl ((CS 23 _)) (λgc cZ=>?_)
 obtain rfl:=cZ
 exact Bt (GN 23 (by rw [<- hw,H];(try simp only []);rw [A2 a3,A2 ad,A2 (by rw [af];simp),ah];(try simp only []);rw [A7 (dT aS)];rfl) ar)
 refine Ap<|Ad<|A4<|A1 (.fa Ay rfl Cr dD rfl)<|Ah (Ae (Dv _) rfl ag rfl)<|A1 (.lenS C2 rfl)<|A1 (.geq rfl rfl)<|A0<|Ai rfl (λbo=>?_) (λbo=>?_)
 have c':=dT bo
 refine Am<|Fh BK rfl ((CS 25 _)) (λge d0=>?_)
 obtain rfl:=d0
 exact Bt (GN 25 (by rw [<- hw,H];(try simp only []);rw [A2 a3,A2 ad,A2 (by rw [af];simp),ah];(try simp only []);rw [A2 (dF aS),A7 oO];rfl) ar)
 have c':=dF bo
 refine Ap<|A4<|A1 (.fa Ay rfl DU dD rfl)<|Ah (Ae (Fg _) rfl ag rfl)<|A3 rfl<|Cs (ps:=_) Dy FH ZL rfl rfl rfl rfl rfl pR rfl (λgf d1 U cm B fU=>?_)
 have d2:=Fs bA U B
 have aQ:=Fs cW U B
 have d3:=Gw (w1:=d1) cX (λk hk hl=>B.other k oO)
 have d4:=Bl U bB.lt
 have d5:=bB.un B d4
 have d6:=Bl U bC.lt
 have d7:=bC.un B d6
 have d8:=Bl U ag.lt
 have bE:=ag.un B d8
 have cn:=λh0=>U▸bD.lt h0
 have d9:=Ce bD B cn
 have bT:=CF U ar.size
 have da:=BC ar (DJ B bT)
 have fV:=AG.lit (V:=G8) (l:=[kX]) cm (rfl)
 have fW:=(aQ).lt
 refine BS Dy Ma rfl rfl rfl d2 rfl fV oE ((bE).lt) rfl (λh=>nomatch h) (λbp gg a' a5 b0 b2=>?_)
 have db:=d5.below a5 oO
 have dc:=d7.below a5 oO
 have dd:=bE.below a5 oO
 have de:=Hy (T:=λk=>P<k/\(bp).ownBlock≠some k/\(Value.slice pl cs.length cl).ownBlock≠some k) d3 (λk hk hl=>b0.block k hl (λe=>hk.2.1 e.symm)) (λk hk hl=>⟨hk.1,λe=>by rcases b2 k e with h | h;exact hk.2.1 h;omega,hk.2.2⟩)
 have df:=AD.same aQ (λg hg=>b0.block g ((aQ).lt g hg).2 (λhx=>bg g hx.symm hg))
 have dg:=DL d9 a5 bu
 have dh:=BC da (Fo (a5.mono oO))
 have ac:∀ g,(bp).ownBlock=some g->(Value.slice pl cs.length cl).ownBlock≠some g:=λg hg=>by rcases b2 g hg with h | h;exact bg g h;exact λh2=>by have:=fW g h2;omega
 obtain ⟨an,rfl⟩:=eX bp
 refine A1 (.fa Ay rfl DU dD rfl)<|Br DU rfl rfl (a').one dd (by exact Nat.le_of_ble_eq_true rfl) (λco ai j fX=>?_)
 have ai:B0 co P _ _:=ai
 have j:CK P _ _:=j
 have di:=Bx a' j oM
 have dj:=Bx df j oM
 have dk:=Gw (w1:=co) de (λk hk hl=>j.other k oM)
 have dl:=db.up j
 have bG:=dc.up j
 have dm:=Ce dg j aa
 have au:=BC dh (DJ j oO)
 refine A0<|A4<|A3 rfl<|C1 BK rfl rfl ((NX r p l c t1 refs _ ⟨dl,dm⟩ hne hl eM.2)) (λfr cq aj A=>?_) (λgh cq aj A=>?_)
 have bU:=BC au (EX A au.size)
 exact Bt (GN fr (by rw [<- hw,H];(try simp only []);rw [A2 a3,A2 ad,A2 (by rw [af];simp),ah];(try simp only []);rw [A2 (dF aS),A2 oO,(Iv aj).1,(Iv aj).2];rfl) bU)
 have dn:=DR di A.2 oO
 have dp:=DR dj A.2 oO
 have dq:=Gw (w1:=cq) dk (λk hk hl=>A.2.block k hl oO)
 have dr:=A.1.1
 have ds:=Gn bG A.2 bG.lt oO
 have dt:=Gn ai A.2 ai.lt oO
 have du:=A.1.2
 have dv:=BC au (EX A.2 au.size)
 have am:=PH aj
 obtain ⟨aR,-⟩:=C8.1 am
 have g6:=Gr l t1 eM.2
 refine A0<|Fe 9 rfl BR (λfs J=>?_)
 have av:=AD.drew dn J
 have aw:=AD.drew dp J
 have bH:=Gw (w1:=fs) dq (λk hk hl=>(by obtain ⟨m,rfl⟩:=J;rfl))
 have bI:=dr.drew J
 have ax:=ds.drew J
 have X:=dt.drew J
 have bJ:=du.drew J
 have K:=BC dv (Mf J)
 refine AI 0 rfl (.fa Ay rfl Cr dD rfl) rfl<|AI 2 rfl (.mv rfl) rfl<|AI 3 rfl (.mv rfl) rfl<|CG 1 rfl 4 rfl ?_ ?_
 refine Ah (Ae (Dv _) rfl X rfl)<|A0<|Av 4 rfl<|Eg BK rfl rfl ((hO r _ _ ⟨bI,bJ⟩ hne aR)) (λft cr aB aT=>?_) (λfu gi cr aB aT=>?_)
 have bV:=BC K (EX aT K.size)
 exact Bt (GN ft (by rw [<- hw,H];(try simp only []);rw [A2 a3,A2 ad,A2 (by rw [af];simp),ah];(try simp only []);rw [A2 (dF aS),A2 oO,am];(try simp only []);rw [aB];rfl) bV)
 have aL:=aB
 obtain ⟨oX,tX⟩:=fu
 obtain ⟨x1,rfl,ct,aC,Q⟩:=aT
 have bK:=hadv _ oX tX aR aL
 have bL:=DR aw Q oO
 have bM:=DR av Q oO
 have aU:=Gw (w1:=cr) bH (λk hk hl=>Q.block k hl (by have:=hk.1;omega))
 have ae:=Gn ax Q (ax).lt oO
 have a6:=Gn X Q (X).lt oO
 have aD:=BC K (EX Q K.size)
 have bq:=ct.mono (T:=λk=>P<k/\an.ownBlock≠some k/\(Value.slice pl cs.length cl).ownBlock≠some k) (λk hk _=>⟨by have:=(X).lt;omega,λe=>by have:=((av).lt k e).2;omega,λe=>by have:=((aw).lt k e).2;omega⟩)
 have ay:=aU.push bq
 have aE:=aC.1
 have aF:=aC.2
 refine A0<|Av 5 rfl<|Cq (L:=KE) (ps:=_) ([x1]) C2 CU Cz rfl rfl rfl rfl rfl (by rfl) rfl rfl (λfv bN Y cu C fY=>?_)
 have aV:=Fs bM Y C
 have dw:=Fs bL Y C
 have dx:=Gw (w1:=bN) ay (λk hk hl=>C.other k oO)
 have dy:=Bl Y aE.lt
 have dz:=aE.un C dy
 have dA:=Bl Y ae.lt
 have dB:=ae.un C dA
 have dC:=Bl Y a6.lt
 have bO:=a6.un C dC
 have cv:=λh0=>Y▸aF.lt h0
 have dE:=Ce aF C cv
 have bW:=CF Y aD.size
 have dG:=BC aD (DJ C bW)
 have fA:fv<=bN.heap.size:=by omega
 refine A0<|Av 6 rfl ?_
 have b3:=(aV).lt
 refine BS C2 EZ rfl rfl rfl dw rfl (cu).rowp oE ((bO).lt) rfl (λh=>nomatch h) (λcw gj b4 a7 b5 b6=>?_)
 have dH:=dz.below a7 oO
 have dI:=dB.below a7 oO
 have dJ:=bO.below a7 oO
 have dK:=Hy (T:=λk=>P<k/\an.ownBlock≠some k/\(cw).ownBlock≠some k) dx (λk hk hl=>b5.block k hl (λe=>hk.2.2 e.symm)) (λk hk hl=>⟨hk.1,hk.2.1,λe=>by rcases b6 k e with h | h;exact hk.2.2 h;omega⟩)
 have dL:=AD.same aV (λg hg=>b5.block g ((aV).lt g hg).2 (λhx=>ac g hg hx.symm))
 have dM:=DL dE a7 bu
 have dN:=BC dG (Fo (a7.mono oO))
 have ak:∀ g,an.ownBlock=some g->(cw).ownBlock≠some g:=λg hg h2=>by rcases b6 g h2 with h | h;exact ac g hg h;have:=b3 g hg;omega
 refine A0<|AI 7 rfl (.fa Ay rfl Cr dD rfl) rfl<|Av 8 rfl<|Br Cr rfl rfl (b4).one dJ (by exact Nat.le_of_ble_eq_true rfl) (λcy aG q fZ=>?_)
 have aG:B0 cy P _ _:=aG
 have q:CK P _ _:=q
 have dO:=Bx dL q oM
 have dP:=Bx b4 q oM
 have dQ:=Gw (w1:=cy) dK (λk hk hl=>q.other k oM)
 have dR:=dH.up q
 have dS:=dI.up q
 have dU:=Ce dM q aa
 have dV:=BC dN (DJ q oO)
 refine A0<|Bn kR ?_
 exact ⟨(_,_,ks++[kX],cs++[x1],acc++[oX],tX,f-1),⟨rfl,rfl,rfl,rfl,tT⟩,⟨⟨dR,dU⟩,dV,dS,aG,dO,dP,ak,dQ,by rw [<- hw,H];(try simp only []);rw [A2 a3,A2 ad,A2 (by rw [af];simp),ah];(try simp only []);rw [A2 (dF aS),A2 oO,am];(try simp only []);rw [aL],oM,bK.2,oF,oF⟩,oM⟩
 refine Eg BK rfl rfl ((hO r _ _ ⟨bI,bJ⟩ hne aR)) (λfw cz aH aW=>?_) (λfx gk cz aH aW=>?_)
 have bX:=BC K (EX aW K.size)
 exact Bt (GN fw (by rw [<- hw,H];(try simp only []);rw [A2 a3,A2 ad,A2 (by rw [af];simp),ah];(try simp only []);rw [A2 (dF aS),A2 oO,am];(try simp only []);rw [aH];rfl) bX)
 have aL:=aH
 obtain ⟨oX,tX⟩:=fx
 obtain ⟨x1,rfl,ct,aC,Q⟩:=aW
 have bK:=hadv _ oX tX aR aL
 have bL:=DR aw Q oO
 have bM:=DR av Q oO
 have aU:=Gw (w1:=cz) bH (λk hk hl=>Q.block k hl (by have:=hk.1;omega))
 have ae:=Gn ax Q (ax).lt oO
 have a6:=Gn X Q (X).lt oO
 have aD:=BC K (EX Q K.size)
 have bq:=ct.mono (T:=λk=>P<k/\an.ownBlock≠some k/\(Value.slice pl cs.length cl).ownBlock≠some k) (λk hk _=>⟨by have:=(X).lt;omega,λe=>by have:=((av).lt k e).2;omega,λe=>by have:=((aw).lt k e).2;omega⟩)
 have ay:=aU.push bq
 have aE:=aC.1
 have aF:=aC.2
 refine A0<|CG 1 rfl 5 rfl ?_ ?_
 refine Ah (Ae (Dv _) rfl a6 rfl)<|A0<|Av 5 rfl<|Cq (L:=KE) (ps:=_) ([x1]) C2 CU Cz rfl rfl rfl rfl rfl (by rfl) rfl rfl (λfy bP a0 cA E f'=>?_)
 have aX:=Fs bM a0 E
 have dW:=Fs bL a0 E
 have dX:=Gw (w1:=bP) ay (λk hk hl=>E.other k oO)
 have dY:=Bl a0 aE.lt
 have dZ:=aE.un E dY
 have d':=Bl a0 ae.lt
 have e0:=ae.un E d'
 have e1:=Bl a0 a6.lt
 have bQ:=a6.un E e1
 have cB:=λh0=>a0▸aF.lt h0
 have e2:=Ce aF E cB
 have bY:=CF a0 aD.size
 have e3:=BC aD (DJ E bY)
 have fB:fy<=bP.heap.size:=by omega
 refine A0<|Av 6 rfl ?_
 have b3:=(aX).lt
 refine BS C2 EZ rfl rfl rfl dW rfl (cA).rowp oE ((bQ).lt) rfl (λh=>nomatch h) (λcC gl b8 a8 b9 ba=>?_)
 have e4:=dZ.below a8 oO
 have e5:=e0.below a8 oO
 have e6:=bQ.below a8 oO
 have e7:=Hy (T:=λk=>P<k/\an.ownBlock≠some k/\(cC).ownBlock≠some k) dX (λk hk hl=>b9.block k hl (λe=>hk.2.2 e.symm)) (λk hk hl=>⟨hk.1,hk.2.1,λe=>by rcases ba k e with h | h;exact hk.2.2 h;omega⟩)
 have e8:=AD.same aX (λg hg=>b9.block g ((aX).lt g hg).2 (λhx=>ac g hg hx.symm))
 have e9:=DL e2 a8 bu
 have ea:=BC e3 (Fo (a8.mono oO))
 have ak:∀ g,an.ownBlock=some g->(cC).ownBlock≠some g:=λg hg h2=>by rcases ba g h2 with h | h;exact ac g hg h;have:=b3 g hg;omega
 refine A0<|AI 7 rfl (.fa Ay rfl Cr dD rfl) rfl<|Av 8 rfl<|Br Cr rfl rfl (b8).one e6 (by exact Nat.le_of_ble_eq_true rfl) (λcD aI u g0=>?_)
 have aI:B0 cD P _ _:=aI
 have u:CK P _ _:=u
 have eb:=Bx e8 u oM
 have ec:=Bx b8 u oM
 have ed:=Gw (w1:=cD) e7 (λk hk hl=>u.other k oM)
 have ee:=e4.up u
 have ef:=e5.up u
 have eg:=Ce e9 u aa
 have eh:=BC ea (DJ u oO)
 refine A0<|Bn kR ?_
 exact ⟨(_,_,ks++[kX],cs++[x1],acc++[oX],tX,f-1),⟨rfl,rfl,rfl,rfl,tT⟩,⟨⟨ee,eg⟩,eh,ef,aI,eb,ec,ak,ed,by rw [<- hw,H];(try simp only []);rw [A2 a3,A2 ad,A2 (by rw [af];simp),ah];(try simp only []);rw [A2 (dF aS),A2 oO,am];(try simp only []);rw [aL],oM,bK.2,oF,oF⟩,oM⟩
 refine Cq (L:=KE) (ps:=_) ([x1]) C2 CU Cz rfl rfl rfl rfl rfl (by rfl) rfl rfl (λfz bR a1 cE F g1=>?_)
 have aY:=Fs bM a1 F
 have ei:=Fs bL a1 F
 have ej:=Gw (w1:=bR) ay (λk hk hl=>F.other k oO)
 have ek:=Bl a1 aE.lt
 have el:=aE.un F ek
 have em:=Bl a1 ae.lt
 have en:=ae.un F em
 have eo:=Bl a1 a6.lt
 have aZ:=a6.un F eo
 have cF:=λh0=>a1▸aF.lt h0
 have ep:=Ce aF F cF
 have bZ:=CF a1 aD.size
 have eq:=BC aD (DJ F bZ)
 have fC:fz<=bR.heap.size:=by omega
 refine A0<|Av 1 rfl<|Ah (Ae (Dv _) rfl aZ rfl)<|A0<|Av 6 rfl ?_
 have b3:=(aY).lt
 refine BS C2 EZ rfl rfl rfl ei rfl (cE).rowp oE ((aZ).lt) rfl (λh=>nomatch h) (λcG gm bb a9 bc bd=>?_)
 have er:=el.below a9 oO
 have es:=en.below a9 oO
 have et:=aZ.below a9 oO
 have eu:=Hy (T:=λk=>P<k/\an.ownBlock≠some k/\(cG).ownBlock≠some k) ej (λk hk hl=>bc.block k hl (λe=>hk.2.2 e.symm)) (λk hk hl=>⟨hk.1,hk.2.1,λe=>by rcases bd k e with h | h;exact hk.2.2 h;omega⟩)
 have ev:=AD.same aY (λg hg=>bc.block g ((aY).lt g hg).2 (λhx=>ac g hg hx.symm))
 have ew:=DL ep a9 bu
 have ex:=BC eq (Fo (a9.mono oO))
 have ak:∀ g,an.ownBlock=some g->(cG).ownBlock≠some g:=λg hg h2=>by rcases bd g h2 with h | h;exact ac g hg h;have:=b3 g hg;omega
 refine A0<|AI 7 rfl (.fa Ay rfl Cr dD rfl) rfl<|Av 8 rfl<|Br Cr rfl rfl (bb).one et (by exact Nat.le_of_ble_eq_true rfl) (λcH aJ x g2=>?_)
 have aJ:B0 cH P _ _:=aJ
 have x:CK P _ _:=x
 have ey:=Bx ev x oM
 have ez:=Bx bb x oM
 have eA:=Gw (w1:=cH) eu (λk hk hl=>x.other k oM)
 have eB:=er.up x
 have eC:=es.up x
 have eD:=Ce ew x aa
 have eF:=BC ex (DJ x oO)
 refine A0<|Bn kR ?_
 exact ⟨(_,_,ks++[kX],cs++[x1],acc++[oX],tX,f-1),⟨rfl,rfl,rfl,rfl,tT⟩,⟨⟨eB,eD⟩,eF,eC,aJ,ey,ez,ak,eA,by rw [<- hw,H];(try simp only []);rw [A2 a3,A2 ad,A2 (by rw [af];simp),ah];(try simp only []);rw [A2 (dF aS),A2 oO,am];(try simp only []);rw [aL],oM,bK.2,oF,oF⟩,oM⟩
end
section
theorem Sn {obj:Nat->NB} {l:l8_} (hobj:∀ t o t',t<l.length->obj t=.ok (o,t')->t<t'/\t'<=l.length):∀ (f:Nat) (acc:List PV) (t:Nat) (os:List PV) (t':Nat),t<=l.length->IM obj l f acc t=.ok (os,t')->t<t'/\t'<=l.length
 | 0,_,_,_,_,_,h=>by cases h
 | f+1,acc,t,os,t',ht,h=>by
  have hs:=Gr l t ht
  simp only [IM] at h
  cases hg:l[B4 false l t]? with
  | none=>rw [hg] at h;cases h
  | some c =>
   obtain ⟨hlt,-⟩:=C8.1 hg
   rw [hg] at h
   simp only at h
   split at h
   · cases h;omega
   ·
    split at h
    · cases h
    ·
     cases ho:obj (B4 false l t) with
     | error k=>rw [ho] at h;cases h
     | ok a =>
      obtain ⟨o,t1⟩:=a
      rw [ho] at h
      have h1:=hobj _ _ _ hlt ho
      have h2:=Sn hobj f _ _ _ _ h1.2 h
      omega
theorem Q5 {obj:Nat->NB} {l:l8_} (hobj:∀ t o t',t<l.length->obj t=.ok (o,t')->t<t'/\t'<=l.length):∀ (f:Nat) (ks:List (l8_)) (acc:List PV) (t:Nat) (ks':List (l8_)) (os:List PV) (t':Nat),t<=l.length->Gl obj l f ks acc t=.ok (ks',os,t')->t<t'/\t'<=l.length
 | 0,_,_,_,_,_,_,_,h=>by cases h
 | f+1,ks,acc,t,ks',os,t',ht,h=>by
  have hs:=Gr l t ht
  simp only [Gl] at h
  cases hg:l[B4 false l t]? with
  | none=>rw [hg] at h;cases h
  | some c =>
   obtain ⟨hlt,-⟩:=C8.1 hg
   rw [hg] at h
   simp only at h
   split at h
   · cases h
   ·
    split at h
    ·
     next hq =>
     obtain ⟨h2,-⟩:=C8.1 hq.2
     cases h;omega
    ·
     split at h
     · cases h
     ·
      cases hn:J8 l (B4 false l t+1) with
      | error k=>rw [hn] at h;cases h
      | ok a =>
       obtain ⟨k,t1⟩:=a
       rw [hn] at h
       have hle:=Qj oO hn
       simp only at h
       split at h
       · cases h
       ·
        split at h
        · cases h
        ·
         have hs1:=Gr l t1 hle.2
         cases hg1:l[B4 false l t1]? with
         | none=>rw [hg1] at h;cases h
         | some c1 =>
          obtain ⟨hlt1,-⟩:=C8.1 hg1
          rw [hg1] at h
          simp only at h
          cases ho:obj (B4 false l t1) with
          | error k=>rw [ho] at h;cases h
          | ok a =>
           obtain ⟨o,t2⟩:=a
           rw [ho] at h
           have h1:=hobj _ _ _ hlt1 ho
           have h2:=Q5 hobj f _ _ _ _ _ _ h1.2 h
           omega
theorem Yw  {t:Nat} {t':Nat} (ht:t<=l.length) (h:Ku l t=.ok (s,t')):t<t'/\t'<=l.length:=by
 have a:=Qd l t ht
 unfold Ku at h
 split at h
 · cases h
 ·
  split at h
  · cases h
  ·
   split at h
   · cases h
   · cases h;omega
theorem ZQ  {t:Nat} (ht:t<=l.length) (h:Dr l t≠[]):t<BA l t/\BA l t<=l.length:=by
 have b:=F6 l t ht
 refine ⟨?_,b.2⟩
 rcases Bu t (BA l t) with a | a
 · exact a
 · exact De (by unfold Dr;rw [show BA l t-t=0 by omega,List.take_zero]) h
theorem A0G:(Nj []).2.2=false:=by kernel_rfl
theorem A0q (refs:Bool) (l:l8_) (t:Nat):(Jk refs l [] t).isSome=false:=by
 unfold Jk
 have:(Fx [] 4096).2=false:=by rfl
 rw [this];simp
theorem A0p {refs:Bool} {t:Nat} (ht:t<=l.length):t<=W7 (Jk refs l s t) t/\W7 (Jk refs l s t) t<=l.length:=by
 have d:=Gr l t ht
 have a:=Ec false l t
 have b:=F6 l _ a
 have e:=Gr l _ b.2
 have c:=Ec false l (BA l (B4 false l t))
 have f:=F6 l _ c
 unfold Jk
 split
 ·
  split
  ·
   split
   ·
    show t<=BA l _/\BA l _<=l.length
    omega
   · exact ⟨DP _,ht⟩
  · exact ⟨DP _,ht⟩
 · exact ⟨DP _,ht⟩
theorem YX {refs:Bool} {t:Nat} (ht:t<l.length) (h:(EY refs l t).ok=true):t<(EY refs l t).np/\(EY refs l t).np<=l.length:=by
  by_cases hw:Dr l t=[]
  · exfalso
    unfold EY at h
    rw [hw,A0q,A0G] at h
    simp at h
  · have a := ZQ oO hw
    have b:=A0p (refs:=refs) (s:=Dr l t) a.2
    unfold EY
    split
    · exact a
    · split
      · exact a
      · split
        · exact a
        · split
          · exact ⟨by show t<W7 _ _;omega,b.2⟩
          · split
            · exact a
            · exact a
theorem Ux (refs:Bool) (l:l8_):∀ (d t:Nat) (o:PV) (t':Nat),t<l.length->ES refs l d t=.ok (o,t')->t<t'/\t'<=l.length:=by
 have e:∀ t (o:PV) t',t<l.length->Ml l (t+1)=.ok (o,t')->t<t'/\t'<=l.length:=λt o t' ht h=>by
  unfold Ml at h
  cases hn:J8 l (t+1) with
  | error k=>rw [hn] at h;cases h
  | ok a =>
   obtain ⟨k,g⟩:=a
   rw [hn] at h
   have f:=Qj oO hn
   cases h;omega
 have b:∀ t (o:PV) t',t<l.length->ID l t=.ok (o,t')->t<t'/\t'<=l.length:=λt o t' ht h=>by
  unfold ID at h
  cases hn:Ku l t with
  | error k=>rw [hn] at h;cases h
  | ok a =>
   obtain ⟨k,g⟩:=a
   rw [hn] at h
   have f:=Yw oO hn
   cases h;exact f
 have c:∀ t (o:PV) t',t<l.length->Ga (EY refs l t)=.ok (o,t')->t<t'/\t'<=l.length:=λt o t' ht h=>by
  unfold Ga at h
  split at h
  · next hok=>have:=YX ht hok;cases h;exact this
  · cases h
 intro d
 induction d with
 | zero =>
  intro t o t' ht h
  simp only [ES] at h
  rw [Aj ht] at h
  simp only at h
  split at h
  · exact e t o t' ht h
  ·
   split at h
   · cases h
   ·
    split at h
    · exact b t o t' ht h
    ·
     split at h
     ·
      split at h
      · cases h
      ·
       split at h
       · exact b t o t' ht h
       · cases h
     · exact c t o t' ht h
 | succ d ih =>
  intro t o t' ht h
  simp only [ES] at h
  rw [Aj ht] at h
  simp only at h
  split at h
  · exact e t o t' ht h
  ·
   split at h
   ·
    unfold Qm at h
    cases hn:IM (ES refs l d) l (l.length+1) [] (t+1) with
    | error k=>rw [hn] at h;cases h
    | ok a =>
     obtain ⟨os,g⟩:=a
     rw [hn] at h
     have:=Sn ih _ _ _ _ _ oO hn
     cases h;omega
   ·
    split at h
    · exact b t o t' ht h
    ·
     split at h
     ·
      split at h
      · cases h
      ·
       split at h
       · exact b t o t' ht h
       ·
        unfold ME at h
        cases hn:Gl (ES refs l d) l (l.length+1) [] [] (t+2) with
        | error k=>rw [hn] at h;cases h
        | ok a =>
         obtain ⟨ks,os,g⟩:=a
         rw [hn] at h
         have:=Q5 ih _ _ _ _ _ _ _ oO hn
         cases h;omega
     · exact c t o t' ht h
theorem Lw (refs:Bool) (l:l8_) (d:Int) (t:Nat) (x:UInt8) (h:l[t]?=some x):ES refs l d.toNat t =
    if x=47 then Ml l (t+1)
    else if x=91 then (if d<1 then .error 25 else Qm (IM (ES refs l (d-1).toNat) l (l.length+1) [] (t+1)))
    else if x=40 then ID l t
    else if x=60 then (if l.length<=t+1 then .error 24 else if l[t+1]?≠some 60 then ID l t else if d<1 then .error 25 else ME (Gl (ES refs l (d-1).toNat) l (l.length+1) [] [] (t+2)))
    else Ga (EY refs l t):=by
  by_cases hd:d<1
  · rw [show d.toNat = 0 by omega, A7 hd]
    simp only [ES,h]
    rw [A7 hd]
  · rw [show d.toNat = (d - 1).toNat + 1 by omega, A2 hd]
    simp only [ES,h]
    rw [A2 hd]
theorem Oy (p:Option Addr) (l:l8_) (c:Nat) (refs:Bool) (hc:l.length<=c) (hl:l.length<=100000000) (D:Int) (hD:-9223372036854775808<D/\D<=1000000000) (hO:1<=D->A2i p l c refs (D-1)):A2i p l c refs D:=by
 intro r t w h f ht
 have hr:=h.1
 have hb:=h.2
 obtain ⟨X,hX⟩:=eX (ES refs l D.toNat t)
 rw [<- hX]
 have hg:l[t]?=some l[t]:=Aj ht
 rw [Lw refs l D t l[t] hg] at hX
 obtain ⟨Wd,bp⟩:=eX (EY refs l t)
 have ci:∀ w1,P2 w1 r p l c t refs->Calls Tryz.prog 110 #[ptV r] w1 λe w'=>e=.returned Wd.val/\P2 w' r p l c Wd.np refs/\Bh w1.heap.size r w1 w':=λw1 h1=>by rw [bp];exact S6 r p l c t refs w1 h1 f hc hl oO
 rw [<- bp] at hX
 refine Ar func79 rfl ntmps79 ?_
 have bq:=Bh.refl (w.heap.size) r w
 refine A4<|Bj Cz rfl (λb1 cZ aw bt ad cU=>?_)
 have cj:=Bl aw hr.lt
 have ax:=hr.un ad cj
 have b:=λh0=>aw▸hb.lt h0
 have ay:=Ce hb ad b
 have b5:=CF aw bq.size
 have ck:=BC bq (DJ ad b5)
 refine A0<|Ad<|Ad<|DH BR kR<|WQ.p (.mv rfl) rfl<|WQ.p (.nck rfl) rfl<|WQ.p (.fa CC rfl D8 dD rfl) rfl<|Db (λm=>Ae (g22_ _) rfl ax rfl) rfl<|WQ.p (.mv rfl) rfl<|WQ.p (.nck rfl) rfl<|WQ.p (.fa CC rfl Bw dD rfl) rfl<|Db (λm=>Ae (BZ _) rfl ax rfl) rfl<|WQ.p (.ixb B1 EA rfl rfl (ay.isp oO) (t) (rfl) (ht)) rfl<|Db (λm=>Rd.iis ((l[t].toNat:Int)) (Bq (Iz _) rfl ((ay.drewN m).cells (t) (ht))) oO) rfl<|WQ.p (.as rfl) rfl<|CX (λw7 aq=>?_)
 have g:=ax.drew aq
 have F:=bt.drew aq
 have G:=ay.drew aq
 have a:=BC ck (Mf aq)
 refine A4<|A3 rfl<|A0<|AO<|A4<|A1 (.eql rfl rfl)<|A9 rfl<|Ai rfl (λaz=>?_) (λaz=>?_)
 have bu:=dT az
 have aA:l[t]=47:=Co aS
 rw [A7 aA] at hX
 refine A4<|A3 rfl<|A1 (.nck rfl)<|A1 (.fa CC rfl Bw dD rfl)<|Ah (Ae (BZ _) rfl g rfl)<|A1 (.iis (((t+1:Nat):Int)) (.add rfl rfl (Ba oO)) oO)<|A1 (.nck rfl)<|A1 (.fa CC rfl Bw dD rfl)<|Br Bw rfl rfl rfl g (by exact Nat.le_of_ble_eq_true rfl) (λcl N i cL=>?_)
 have N:B0 cl r _ _:=N
 have i:CK r _ _:=i
 have aB:=F.up i
 have bv:=Ag.upd G i f
 have P:=BC a (Bp i)
 refine A0<|A4<|A3 rfl<|C1 BK rfl rfl ((S8 r p l c (t+1) refs _ ⟨N,bv⟩ f hc hl oO)) (λcm cn Q u=>?_) (λco cn Q u=>?_)
 have aC:=BC P (EX u P.size)
 exact Bt (GN cm (by rw [hX];unfold Ml;rw [Q]) aC)
 have bw:=u.1.1
 have bz:=Gn aB u.2 aB.lt oO
 have bA:=u.1.2
 have bB:=BC P (EX u.2 P.size)
 have a9:=Q
 obtain ⟨sN,tN⟩:=co
 refine A1 (.buildL (ps:=_) Er rfl rfl rfl pS) ?_
 refine Ax rfl rfl bz Al rfl rfl (λc' b6 U cM=>?_)
 have bC:=bw.up U
 have bD:=Ce bA U b
 have bE:=BC bB (DJ U oO)
 refine A0<|AT (BI rfl rfl (Be b6 Ay rfl Al)  ?_)
 exact JC (Jm 4 0 sN,tN) _ (by rw [hX];unfold Ml;rw [a9]) rfl ⟨DK 4 0 sN,rfl,BP.zero _ _ _ _ _,⟨bC,bD⟩,bE⟩
 have bu:=dF az
 have aA:l[t]≠47:=Df (d:=47) aS
 rw [A2 aA] at hX
 refine A4<|A1 (.eql rfl rfl)<|A9 rfl<|Ai rfl (λaD=>?_) (λaD=>?_)
 have bG:=dT aD
 have aE:l[t]=91:=Co aS
 rw [A7 aE] at hX
 refine Ad<|A4<|A3 rfl<|A1 (.lss rfl rfl)<|A0<|Ai rfl (λaF=>?_) (λaF=>?_)
 have bH:=dT aF
 refine Am<|Fh BK rfl ((CS 25 _)) (λd0 bI=>?_)
 obtain rfl:=bI
 exact Bt (GN 25 (by rw [hX,A7 oO]) a)
 have bH:=dF aF
 refine Ap<|A4<|A3 rfl<|A1 (.nck rfl)<|A1 (.fa CC rfl Bw dD rfl)<|Ah (Ae (BZ _) rfl g rfl)<|A1 (.iis (((t+1:Nat):Int)) (.add rfl rfl (Ba oO)) oO)<|A1 (.nck rfl)<|A1 (.fa CC rfl Bw dD rfl)<|Br Bw rfl rfl rfl g (by exact Nat.le_of_ble_eq_true rfl) (λcq V j cN=>?_)
 have V:B0 cq r _ _:=V
 have j:CK r _ _:=j
 have ae:=F.up j
 have bJ:=Ag.upd G j f
 have H:=BC a (Bp j)
 refine A0<|A4<|A3 rfl<|A3 rfl<|A1 (.sub rfl rfl (Ba oO))<|Eg BK rfl rfl ((YW p l c refs (D-1) (hO oO) (Ux refs l _) r (t+1) _ ⟨V,bJ⟩ f hl oO)) (λcr ct Y af=>?_) (λcu d1 ct Y af=>?_)
 have aG:=BC H (EX af H.size)
 exact Bt (GN cr (by rw [hX,A2 oO,Y]) aG)
 have aH:=Y
 obtain ⟨oX,tX⟩:=cu
 obtain ⟨x1,rfl,aI,J,aa⟩:=af
 have ag:=aI.mono (T:=λk=>b1<k/\w.heap.size<=k) (λk hk _=>by have h1:=(ae).lt;have h2:=H.size;omega)
 have ah:=Gn ae aa (ae).lt oO
 have aJ:=BC H (EX aa H.size)
 have aK:=J.1
 have aL:=J.2
 refine Ax rfl rfl ah Al rfl rfl (λcv b7 B cO=>?_)
 have bK:=BP.same (w1:=cv) ag (λk hk hl=>B.other k oM)
 have bL:=aK.upd B oM
 have bM:=Ce aL B b
 have bN:=BC aJ (DJ B oO)
 refine A0<|AT (BI rfl rfl (Be b7 Ay rfl Al)  ?_)
 exact JC (oX,tX) _ (by rw [hX,A2 oO,aH]) rfl ⟨x1,rfl,(bK).mono (λk hk _=>hk.2),⟨bL,bM⟩,bN⟩
 have bG:=dF aD
 have aE:l[t]≠91:=Df (d:=91) aS
 rw [A2 aE] at hX
 refine A4<|A1 (.eql rfl rfl)<|A9 rfl<|Ai rfl (λaM=>?_) (λaM=>?_)
 have bO:=dT aM
 have aN:l[t]=40:=Co aS
 rw [A7 aN] at hX
 refine A4<|A3 rfl<|C1 BK rfl rfl ((S7 r p l c t refs _ ⟨g,G⟩ f hc hl ht)) (λcw cy a0 v=>?_) (λcz cy a0 v=>?_)
 have aO:=BC a (EX v a.size)
 exact Bt (GN cw (by rw [hX];unfold ID;rw [a0]) aO)
 have bP:=v.1.1
 have bQ:=Gn F v.2 F.lt oO
 have bR:=v.1.2
 have bS:=BC a (EX v.2 a.size)
 have a9:=a0
 obtain ⟨sN,tN⟩:=cz
 refine Ax rfl rfl bQ Al rfl rfl (λd2 b8 a1 cP=>?_)
 have bT:=bP.up a1
 have bU:=Ce bR a1 b
 have bV:=BC bS (DJ a1 oO)
 refine A0<|AT (BI rfl rfl (Be b8 Ay rfl Al)  ?_)
 exact JC (Jm 5 0 sN,tN) _ (by rw [hX];unfold ID;rw [a9]) rfl ⟨DK 5 0 sN,rfl,BP.zero _ _ _ _ _,⟨bT,bU⟩,bV⟩
 have bO:=dF aM
 have aN:l[t]≠40:=Df (d:=40) aS
 rw [A2 aN] at hX
 refine A4<|A1 (.eql rfl rfl)<|A9 rfl<|Ai rfl (λaP=>?_) (λaP=>?_)
 have bW:=dT aP
 have aQ:l[t]=60:=Co aS
 rw [A7 aQ] at hX
 refine Ad<|Ad<|DH BR kR<|WQ.p (.mv rfl) rfl<|WQ.p (.nck rfl) rfl<|WQ.p (.fa CC rfl Bw dD rfl) rfl<|Db (λm=>Ae (BZ _) rfl g rfl) rfl<|WQ.p (.iis ((t:Int)+1) (.add rfl rfl (Ba oO)) oO) rfl<|WQ.p (.mv rfl) rfl<|WQ.p (.nck rfl) rfl<|WQ.p (.fa CC rfl D8 dD rfl) rfl<|Db (λm=>Ae (g22_ _) rfl g rfl) rfl<|WQ.p (.lenS B1 rfl) rfl<|WQ.p (.geq rfl rfl) rfl<|CX (λd3 a2=>?_)
 have ai:=g.drew a2
 have bX:=F.drew a2
 have aj:=G.drew a2
 have aR:=BC a (Mf a2)
 refine Ai rfl (λaT=>?_) (λaT=>?_)
 have bY:=dT aT
 refine Am<|Fh BK rfl ((CS 24 _)) (λd4 bZ=>?_)
 obtain rfl:=bZ
 exact Bt (GN 24 (by rw [hX,A7 oO]) aR)
 have bY:=dF aT
 have b':t+1<l.length:=by omega
 have ab:l[t+1]?=some l[t+1]:=Aj b'
 refine Ap<|Ad<|Ad<|DH BR kR<|WQ.p (.mv rfl) rfl<|WQ.p (.nck rfl) rfl<|WQ.p (.fa CC rfl D8 dD rfl) rfl<|Db (λm=>Ae (g22_ _) rfl ai rfl) rfl<|WQ.p (.mv rfl) rfl<|WQ.p (.nck rfl) rfl<|WQ.p (.fa CC rfl Bw dD rfl) rfl<|Db (λm=>Ae (BZ _) rfl ai rfl) rfl<|WQ.p (.iis (((t+1:Nat):Int)) (.add rfl rfl (Ba oO)) oO) rfl<|WQ.p (.ixb B1 EA rfl rfl (aj.isp oO) (t+1) oO oO) rfl<|Db (λm=>Bq (Iz _) rfl ((aj.drewN m).cells (t+1) oO)) rfl<|WQ.p (.neq rfl rfl) rfl<|CX (λd5 a3=>?_)
 have ak:=ai.drew a3
 have am:=bX.drew a3
 have aU:=aj.drew a3
 have x:=BC aR (Mf a3)
 refine Ai rfl (λaV=>?_) (λaV=>?_)
 have c0:=ndT aV
 refine A4<|A3 rfl<|C1 BK rfl rfl ((S7 r p l c t refs _ ⟨ak,aU⟩ f hc hl ht)) (λcA cB a4 y=>?_) (λcC cB a4 y=>?_)
 have aW:=BC x (EX y x.size)
 exact Bt (GN cA (by rw [hX,A2 oO,A7 (by rw [ab];exact λe=>Df (d:=60) aS (C3 e))];unfold ID;rw [a4]) aW)
 have c2:=y.1.1
 have c3:=Gn am y.2 am.lt oO
 have c4:=y.1.2
 have c5:=BC x (EX y.2 x.size)
 have a9:=a4
 obtain ⟨sN,tN⟩:=cC
 refine Ax rfl rfl c3 Al rfl rfl (λd6 b9 a5 cQ=>?_)
 have c6:=c2.up a5
 have c7:=Ce c4 a5 b
 have c8:=BC c5 (DJ a5 oO)
 refine A0<|AT (BI rfl rfl (Be b9 Ay rfl Al)  ?_)
 exact JC (Jm 5 0 sN,tN) _ (by rw [hX,A2 oO,A7 (by rw [ab];exact λe=>Df (d:=60) aS (C3 e))];unfold ID;rw [a9]) rfl ⟨DK 5 0 sN,rfl,BP.zero _ _ _ _ _,⟨c6,c7⟩,c8⟩
 have c0:=ndF aV
 refine Ap<|Ad<|A4<|A3 rfl<|A1 (.lss rfl rfl)<|A0<|Ai rfl (λaX=>?_) (λaX=>?_)
 have c9:=dT aX
 refine Am<|Fh BK rfl ((CS 25 _)) (λd7 ca=>?_)
 obtain rfl:=ca
 exact Bt (GN 25 (by rw [hX,A2 oO,A2 (λe=>e (by rw [ab,show l[t+1]=60 from Co (d:=60) aS])),A7 oO]) x)
 have c9:=dF aX
 refine Ap<|A4<|A3 rfl<|A1 (.nck rfl)<|A1 (.fa CC rfl Bw dD rfl)<|Ah (Ae (BZ _) rfl ak rfl)<|A1 (.iis (((t+2:Nat):Int)) (.add rfl rfl (Ba oO)) oO)<|A1 (.nck rfl)<|A1 (.fa CC rfl Bw dD rfl)<|Br Bw rfl rfl rfl ak (by exact Nat.le_of_ble_eq_true rfl) (λcD a6 o cR=>?_)
 have a6:B0 cD r _ _:=a6
 have o:CK r _ _:=o
 have an:=am.up o
 have cb:=Ag.upd aU o f
 have K:=BC x (Bp o)
 refine A0<|A4<|A3 rfl<|A3 rfl<|A1 (.sub rfl rfl (Ba oO))<|Eg BK rfl rfl ((Wn p l c refs (D-1) (hO oO) (Ux refs l _) r (t+2) _ ⟨a6,cb⟩ f hc hl oO)) (λcE cF a7 ao=>?_) (λcG d8 cF a7 ao=>?_)
 have aY:=BC K (EX ao K.size)
 exact Bt (GN cE (by rw [hX,A2 oO,A2 (λe=>e (by rw [ab,show l[t+1]=60 from Co (d:=60) aS])),A2 oO,a7]) aY)
 have aH:=a7
 obtain ⟨oX,tX⟩:=cG
 obtain ⟨x1,rfl,aI,J,aa⟩:=ao
 have ag:=aI.mono (T:=λk=>b1<k/\w.heap.size<=k) (λk hk _=>by have h1:=(an).lt;have h2:=K.size;omega)
 have ah:=Gn an aa (an).lt oO
 have aJ:=BC K (EX aa K.size)
 have aK:=J.1
 have aL:=J.2
 refine Ax rfl rfl ah Al rfl rfl (λcH ba C cS=>?_)
 have cc:=BP.same (w1:=cH) ag (λk hk hl=>C.other k oM)
 have cd:=aK.upd C oM
 have cf:=Ce aL C b
 have cg:=BC aJ (DJ C oO)
 refine A0<|AT (BI rfl rfl (Be ba Ay rfl Al)  ?_)
 exact JC (oX,tX) _ (by rw [hX,A2 oO,A2 (λe=>e (by rw [ab,show l[t+1]=60 from Co (d:=60) aS])),A2 oO,aH]) rfl ⟨x1,rfl,(cc).mono (λk hk _=>hk.2),⟨cd,cf⟩,cg⟩
 have bW:=dF aP
 have aQ:l[t]≠60:=Df (d:=60) aS
 rw [A2 aQ] at hX
 refine Ap<|A4<|A3 rfl<|Ao (ci _ ⟨g,G⟩) (λd9 a8=>?_)
 have aZ:=a8.1.1
 have a':=Gn F a8.2 F.lt oO
 have b0:=a8.1.2
 have ar:=BC a (EX a8.2 a.size)
 refine A3 rfl<|A1 (.ext rfl rfl)<|A1 (.ext rfl rfl)<|A1 (.ext rfl rfl)<|Bj Cz rfl (λcV cT E b2 q cI=>?_)
 have bb:=Bl E aZ.lt
 have bc:=aZ.un q bb
 have bd:=Bl E a'.lt
 have be:=a'.un q bd
 have ac:=λh0=>E▸b0.lt h0
 have bf:=Ce b0 q ac
 have av:=CF E ar.size
 have bg:=BC ar (DJ q av)
 refine Ax rfl rfl b2 Al rfl rfl (λcW b3 s cJ=>?_)
 have bh:=bc.up s
 have bi:=be.up s
 have bj:=Ce bf s ac
 have au:=BC bg (DJ s oO)
 refine Ct rfl<|A9 rfl<|Ad<|A4<|A3 rfl<|A1 (.not rfl)<|A0<|Ai rfl (λap=>?_) (λap=>?_)
 have bk:=(nT ap)
 refine Am<|Fh BK rfl ((CS 23 _)) (λcX bl=>?_)
 obtain rfl:=bl
 exact Bt (GN 23 (by rw [hX];unfold Ga;rw [A2 (bF aS)]) au)
 have bk:=(nF ap)
 refine Ap<|A4<|Ah (Bk rfl b3 Ay rfl Al)<|Ax rfl rfl bi Al rfl rfl (λcY b4 L cK=>?_)
 have bm:=bh.up L
 have bn:=Ce bj L b
 have bo:=BC au (DJ L oO)
 refine A0<|AT (BI rfl rfl (Be b4 Ay rfl Al)  ?_)
 exact JC (Jm Wd.kind Wd.n [],Wd.np) _ (by rw [hX];unfold Ga;rw [A7 aS]) rfl ⟨DK Wd.kind Wd.n [],rfl,BP.zero _ _ _ _ _,⟨bm,bn⟩,bo⟩
end
section
theorem QT (p:Option Addr) (l:l8_) (c:Nat) (refs:Bool) (hc:l.length<=c) (hl:l.length<=100000000):∀ (n:Nat) (D:Int),D.toNat<=n->-9223372036854775808<D/\D<=1000000000->A2i p l c refs D
 | 0,D,hn,hD=>Oy p l c refs hc hl D hD λh=>by omega
 | n+1,D,hn,hD=>Oy p l c refs hc hl D hD λh=>QT p l c refs hc hl n (D-1) oO oO
def MZ (k:Int):Prop:=k=23\/k=24\/k=25
theorem MZ.ne {k:Int} (h:MZ k):k≠0:=by unfold MZ at h;omega
theorem Sj  {t:Nat} {k:Int} (h:J8 l t=.error k):MZ k:=by
 unfold J8 at h
 split at h
 · cases h;exact .inl rfl
 ·
  split at h
  · cases h;exact .inl rfl
  ·
   split at h
   · cases h;exact .inr (.inr rfl)
   · cases h
theorem Yv  {t:Nat} {k:Int} (h:Ku l t=.error k):MZ k:=by
 unfold Ku at h
 split at h
 · cases h;exact .inr (.inl rfl)
 ·
  split at h
  · cases h;exact .inr (.inr rfl)
  ·
   split at h
   · cases h;exact .inl rfl
   · cases h
theorem Sm {obj:Nat->NB} {l:l8_} (hobj:∀ t k,obj t=.error k->MZ k):∀ (f:Nat) (acc:List PV) (t:Nat) (k:Int),IM obj l f acc t=.error k->MZ k
 | 0,_,_,_,h=>by cases h;exact .inr (.inl rfl)
 | f+1,acc,t,k,h=>by
  simp only [IM] at h
  split at h
  · cases h;exact .inr (.inl rfl)
  ·
   split at h
   · cases h
   ·
    split at h
    · cases h;exact .inr (.inr rfl)
    ·
     split at h
     · next ho=>cases h;exact hobj _ _ ho
     · exact Sm hobj f _ _ _ h
theorem Q4 {obj:Nat->NB} {l:l8_} (hobj:∀ t k,obj t=.error k->MZ k):∀ (f:Nat) (ks:List (l8_)) (acc:List PV) (t:Nat) (k:Int),Gl obj l f ks acc t=.error k->MZ k
 | 0,_,_,_,_,h=>by cases h;exact .inr (.inl rfl)
 | f+1,ks,acc,t,k,h=>by
  simp only [Gl] at h
  split at h
  · cases h;exact .inr (.inl rfl)
  ·
   split at h
   · cases h;exact .inr (.inl rfl)
   ·
    split at h
    · cases h
    ·
     split at h
     · cases h;exact .inl rfl
     ·
      split at h
      · next hn=>cases h;exact Sj hn
      ·
       split at h
       · cases h;exact .inl rfl
       ·
        split at h
        · cases h;exact .inr (.inr rfl)
        ·
         split at h
         · cases h;exact .inr (.inl rfl)
         ·
          split at h
          · next ho=>cases h;exact hobj _ _ ho
          · exact Q4 hobj f _ _ _ _ h
theorem Uw (refs:Bool) (l:l8_):∀ (d t:Nat) (k:Int),ES refs l d t=.error k->MZ k:=by
 have b:∀ t (k:Int),Ml l t=.error k->MZ k:=λt k h=>by
  unfold Ml at h
  split at h
  · next hn=>cases h;exact Sj hn
  · cases h
 have c:∀ t (k:Int),ID l t=.error k->MZ k:=λt k h=>by
  unfold ID at h
  split at h
  · next hn=>cases h;exact Yv hn
  · cases h
 have a:∀ t (k:Int),Ga (EY refs l t)=.error k->MZ k:=λt k h=>by
  unfold Ga at h
  split at h
  · cases h
  · cases h;exact .inl rfl
 intro d
 induction d with
 | zero =>
  intro t k h
  simp only [ES] at h
  repeat' split at h
  all_goals first | exact b _ _ h | exact c _ _ h | exact a _ _ h | (cases h;first | exact .inl rfl | exact .inr (.inl rfl) | exact .inr (.inr rfl))
 | succ d ih =>
  have f:∀ t (k:Int),Qm (IM (ES refs l d) l (l.length+1) [] t)=.error k->MZ k:=λt k h=>by
   unfold Qm at h
   split at h
   · next hn=>cases h;exact Sm ih _ _ _ _ hn
   · cases h
  have e:∀ t (k:Int),ME (Gl (ES refs l d) l (l.length+1) [] [] t)=.error k->MZ k:=λt k h=>by
   unfold ME at h
   split at h
   · next hn=>cases h;exact Q4 ih _ _ _ _ _ hn
   · cases h
  intro t k h
  simp only [ES] at h
  repeat' split at h
  all_goals first | exact b _ _ h | exact c _ _ h | exact a _ _ h | exact f _ _ h | exact e _ _ h | (cases h;first | exact .inl rfl | exact .inr (.inl rfl) | exact .inr (.inr rfl))
def Jj (l:l8_) (a:Int):PV × l8_ × Int × Int :=
 if a<0\/(l.length:Int)<a then (Jm 0 0 [],[],0,21)
 else if h:B4 false l a.toNat<l.length then
  (if Da l[B4 false l a.toNat] then
   (Jm (EY false l (B4 false l a.toNat)).kind (EY false l (B4 false l a.toNat)).n [],if (EY false l (B4 false l a.toNat)).ok then [] else (EY false l (B4 false l a.toNat)).word,(EY false l (B4 false l a.toNat)).np,0)
  else match ES false l 32 (B4 false l a.toNat) with
   | .ok (o,t')=>(o,[],t',0)
   | .error k=>(Jm 0 0 [],[],0,k))
 else (Jm 0 0 [],[],0,26)
def A7t (B:Nat) (R:PV × l8_ × Int × Int) (e:Ending) (w':World):Prop :=
 ∃ x:PC,e=.returned (.tuple #[.agg (Wo x).toArray,.string (bs R.2.1),Af R.2.2.1,Af R.2.2.2])/\BP w' (λk=>B<=k) x R.1
section
variable {P:Program} {fn:Func} {f:Fr} {w:World}
theorem Cc {a b c d:Tmp} {tc td:TypeId} {pc pd:Addr} {x y:Value} (hr:fn.results=#[.cell a ta,.cell b tb,.cell c tc,.cell d td]) (ha:look f a=some (.pointer (some pa))) (hb:look f b=some (.pointer (some pb))) (hc:look f c=some (.pointer (some pc))) (hd:look f d=some (.pointer (some pd)))
  (hx:(loadVar ta pa).run P w=.ok x w) (hy:(loadVar tb pb).run P w=.ok y w) (hz:(loadVar tc pc).run P w=.ok z w) (hu:(loadVar td pd).run P w=.ok u w):CQ P fn f w (.tuple #[x,y,z,u]):=λtmps hh=>by
 have e1:=hh _ _ ha;have e2:=hh _ _ hb;have e3:=hh _ _ hc;have e4:=hh _ _ hd
 simp only [AK] at e1 e2 e3 e4
 simp [results,hr,e1,e2,e3,e4,asAddr,hx,hy,hz,hu]
end
theorem Du (b1 b2 b3 b5:Nat) (w:World) (h:B0 w b5 #[Af 0] 35) :
  CallsD Tryz.prog 187 #[ptV b5,ptV b1,ptV b2,ptV b3] .returning w λe u' w'=>u'=.returning/\(∃ v,e=.returned v)/\w'=w:=by
 refine Eo func187 rfl ntmps187 bL rfl<|Ao (Su _ _) (λb a=>?_)
 obtain rfl:=a
 refine A0<|A4<|Ah (Ae (Ed _) rfl h rfl)<|A1 (.neq rfl rfl)<|A0<|Aq rfl rfl<|Ap<|Cx (Cd rfl ?_)
 exact ⟨⟨_,rfl⟩,rfl⟩
theorem VH (b1 b2 b3 b5 B:Nat) (c0 c1 c2 c3 c4 c5:Value) (s:l8_) (i j k:Int) (w:World) (h1:B0 w b1 [c0,c1,c2,c3,c4,c5].toArray 27) (h2:B0 w b2 #[.string (bs s)] 9) (h3:B0 w b3 #[Af i] 3) (h5:B0 w b5 #[Af j] 35) (hB1:B<=b1) (h12:b1<b2) (h23:b2<b3) (h35:b3<b5) (hk:k≠0) :
  CallsD Tryz.prog 187 #[ptV b5,ptV b1,ptV b2,ptV b3] (.panicking [{ v:=.iface 35 (Af k),recovered:=false }]) w
   λe u' w'=>u'=.panicking [{ v:=.iface 35 (Af k),recovered:=true }]/\(∃ v,e=.returned v) /\
    B0 w' b1 (Rn 0 0 []).toArray 27/\B0 w' b2 #[.string (bs [])] 9/\B0 w' b3 #[Af 0] 3/\B0 w' b5 #[Af k] 35/\Below B w w':=by
 refine Eo func187 rfl ntmps187 bL rfl ?_
 have y:=Gb (B) w
 refine Cm BK rfl rfl ((Sv b5 B _ k _ h5 oO)) (λQ A=>?_)
 obtain ⟨h,g⟩:=A
 have hb1:=(h1).upd g oO
 have hb2:=(h2).upd g oO
 have hb3:=(h3).upd g oO
 have C:=BU y oO g
 refine A0<|A4<|Ah (Ae (Ed _) rfl h rfl)<|A1 (.bis (true) (.neq rfl rfl) (by simp [hk]))<|A0<|BQ rfl rfl ?_
 refine Am<|A1 (.buildL (ps:=_) Er rfl rfl rfl pZ) ?_
 refine Ax rfl rfl hb1 Al rfl rfl (λT l c M=>?_)
 have D:=h.upd c oM
 have E:=hb2.upd c oM
 have F:=hb3.upd c oM
 have G:=BU C oO c
 refine Br FH rfl rfl rfl E (by exact Nat.le_of_ble_eq_true rfl) (λN f b P=>?_)
 have f:B0 N b2 _ _:=f
 have b:CK b2 _ _:=b
 have H:=D.up b
 have J:=l.up b
 have m:=F.up b
 have o:=BU G oO b
 refine Br Bw rfl rfl rfl m (by exact Nat.le_of_ble_eq_true rfl) (λK d a L=>?_)
 have d:B0 K b3 _ _:=d
 have a:CK b3 _ _:=a
 have q:=H.up a
 have t:=J.up a
 have u:=f.up a
 have x:=BU o oO a
 refine A0<|Cx (Cd rfl ?_)
 exact ⟨⟨_,rfl⟩,t,u,d,q,x⟩
end
section
theorem Q2 (p:Option Addr) (l:l8_) (c:Nat) (a:Int) (w:World) (hb:Ag w p l) (hc:l.length<=c) (hl:l.length<=100000000) :
    Calls Tryz.prog 164 #[.slice p l.length c,Af a] w λe w'=>A7t w.heap.size (Jj l a) e w'/\AL w w':=by
  obtain ⟨R,hR⟩:=eX (Jj l a);rw [<- hR];unfold Jj at hR;obtain ⟨t,ht⟩:=eX (B4 false l (IZ l a));have eY:∀ w1,Ag w1 p l->Calls Tryz.prog 53 #[.slice p l.length c,Af a] w1 λe w'=>e=.returned (Af (t:Int))/\w1=w':=λw1 h1=>by rw [ht];exact Ju p l c a w1 h1 hl
  have hD:t<=l.length:=by rw [ht];exact Ec _ _ _
  have eZ:¬ (a<0\/(l.length:Int)<a)->B4 false l a.toNat=t:=λh=>by rw [ht];unfold IZ;rw [A2 h]
  obtain ⟨X,hX⟩:=eX (EY false l t);have e':∀ r w1,P2 w1 r p l c t false->(0<l.length->(pA p).block≠r)->Calls Tryz.prog 110 #[ptV r] w1 λe w'=>e=.returned X.val/\P2 w' r p l c X.np false/\Bh w1.heap.size r w1 w':=λr w1 h1 h2=>by rw [hX];exact S6 r p l c t false w1 h1 h2 hc hl oO
  refine GQ func164 rfl ntmps164 bL ?_;refine WD.seq<|Am<|Bj Cz rfl (λy hE e4 d3 d4 gH=>?_);have d5:=λh0=>e4▸hb.lt h0
  have e5:=Ce hb d4 d5;refine Bj ZL rfl (λb hF d6 d7 cz gI=>?_);have f0:=Bl d6 d3.lt;have e6:=d3.un cz f0;have cA:=λh0=>d6▸e5.lt h0
  have e7:=Ce e5 cz cA;refine Bj Yj rfl (λg gJ bO cF bh gt=>?_);have e8:=Bl bO e6.lt;have d8:=e6.un bh e8;have e9:=Bl bO d7.lt;have d9:=d7.un bh e9;have dO:=λh0=>bO▸e7.lt h0
  have da:=Ce e7 bh dO;have db:=uB (uB (uB (CN w) e4 d4) d6 cz) bO bh;refine Bj SN rfl (λi gK bb bi ar gv=>?_);have ea:=Bl bb d8.lt;have bP:=d8.un ar ea;have eb:=Bl bb d9.lt;have bQ:=d9.un ar eb;have ec:=Bl bb cF.lt;have bR:=cF.un ar ec;have dP:=λh0=>bb▸da.lt h0
  have cB:=Ce da ar dP;have cC:=uB db bb ar;have f1:=CF bb db.size;refine A0<|WD.seq<|FT 17 (decide (a<0\/(l.length:Int)<a)) ?_ ?_;refine Am<|A3 rfl<|A1 (.lss rfl rfl)<|A3 rfl<|Ck rfl rfl rfl (λa4=>?_) (λa4=>?_)
  · have ed := dF a4
    refine A3 rfl<|Az a4<|A3 rfl<|Az a4<|A1 (.lenS B1 rfl)<|Az a4<|A1 (.gtr rfl rfl)<|A1 (.pkF rfl a4 rfl)<|A0<|?_;exact ⟨Gy (DM rfl (by (simp;omega))),rfl⟩
  have ed:=dT a4;refine Bc a4<|Bc a4<|Bc a4<|A1 (.pkT rfl a4 rfl)<|A0<|?_;exact ⟨Gy (DM rfl (by (simp;omega))),rfl⟩;refine A28 rfl (λee=>?_) (λee=>?_)
  · skip
    rw [A7 aS] at hR;subst hR;refine A4<|A1 (.buildL (ps:=_) Er rfl rfl rfl pZ) ?_;refine Ax rfl rfl bP Al rfl rfl (λhG dQ bj gw=>?_);refine Cn (bQ.up bj) FH (λhH dR bk gx=>?_);refine Cn ((bR.up bj).up bk) Bw (λhI dS bl gz=>?_);refine Cn (((bi.up bj).up bk).up bl) EJ (λhJ dU bm gA=>?_);have cD:=(dR.up bl).up bm;refine A0<|AT ?_;exact FV (Cc rfl rfl rfl rfl rfl (Be (((dQ.up bk).up bl).up bm) Ay rfl Al) (B5 cD (FX _) rfl) (B5 (dS.up bm) (BZ _) rfl) (B5 dU (Ed _) rfl)) ⟨⟨DK 0 0 [],AU rfl,BP.zero _ _ _ _ _⟩,(BU (BU (BU (BU cC oO bj) oO bk) oO bl) oO bm)⟩
  rw [A2 aS,eZ aS] at hR;refine Ap<|WD.seq<|Am<|A3 rfl<|A3 rfl<|Ao (eY _ cB) (λhK ef=>?_);obtain rfl:=ef;refine A9 rfl<|WD.seq<|A4<|A3 rfl<|A3 rfl<|A1 (.lenS B1 rfl)<|A1 (.eql rfl rfl)<|A0<|A28 rfl (λeg=>?_) (λeg=>?_)
  · skip
    rw [dif_neg oO] at hR;subst hR;refine A4<|A1 (.buildL (ps:=_) Er rfl rfl rfl pZ) ?_;refine Ax rfl rfl bP Al rfl rfl (λhL dV bn gB=>?_);refine Cn (bQ.up bn) FH (λhM dW bo gC=>?_);refine Cn ((bR.up bn).up bo) Bw (λhN dX bp gD=>?_);have cE:=dW.up bp;refine Cn (((bi.up bn).up bo).up bp) EJ (λhO dY bq gE=>?_);refine A0<|AT ?_;exact FV (Cc rfl rfl rfl rfl rfl (Be (((dV.up bo).up bp).up bq) Ay rfl Al) (B5 (cE.up bq) (FX _) rfl) (B5 (dX.up bq) (BZ _) rfl) (B5 dY (Ed _) rfl)) ⟨⟨DK 0 0 [],AU rfl,BP.zero _ _ _ _ _⟩,(BU (BU (BU (BU cC oO bn) oO bo) oO bp) oO bq)⟩
  have bS:t<l.length:=by omega
  rw [dif_pos bS] at hR;refine Ap<|WD.defer rfl rfl<|Nz<|A4<|A3 rfl<|A3 rfl<|?_;refine A1 (.buildL (ps:=_) A1U rfl rfl rfl pS) ?_;refine WL.box rfl rfl (λc5 gL bc bT am gF=>?_);have eh:=Bl bc bP.lt;have bd:=bP.un am eh;have ei:=Bl bc bQ.lt;have be:=bQ.un am ei;have ej:=Bl bc bR.lt;have bf:=bR.un am ej;have ek:=Bl bc bi.lt;have bg:=bi.un am ek;have dZ:=λh0=>bc▸cB.lt h0
  have bU:=Ce cB am dZ;have ap:=uB cC bc am;refine A9 rfl<|Ad<|A4<|A3 rfl<|A3 rfl<|A1 (.ixb B1 EA rfl rfl (bU.isp oO) (t) (rfl) (bS))<|Ah (Bq (Iz _) rfl (bU.cells (t) (bS)))<|Ao (Ng _ _) (λhP el=>?_);obtain rfl:=el;refine A1 (.not rfl)<|A0<|Ai rfl (λdc=>?_) (λdc=>?_)
  · have em := (nT dc)
    refine A4<|A3 rfl<|Eg BK rfl rfl ((QT p l c false hc hl 32 32 dD dD c5 t _ ⟨bT,bU⟩ (λh0=>by have:=hb.lt h0;omega) bS)) (λf2 f3 au aq=>?_) (λf4 hQ f3 au aq=>?_);exact GR Gu (λw'=>_) (VH y b g i w.heap.size _ _ _ _ _ _ [] _ _ f2 _ (Gn bd aq (bd).lt oO) (Gn be aq (be).lt oO) (Gn bf aq (bf).lt oO) (Gn bg aq (bg).lt oO) oO oO oO oO (Uw false l _ _ _ au).ne)
      (λw' hS=>⟨_,Cc rfl rfl rfl rfl rfl (Be hS.1 Ay rfl Al) (B5 hS.2.1 (FX _) rfl) (B5 hS.2.2.1 (BZ _) rfl) (B5 hS.2.2.2.1 (Ed _) rfl),⟨DK 0 0 [],AU (by rw [hR,A2 (bF (nT aS)),show ES false l 32 t=_ from au];rfl),by rw [hR,A2 (bF (nT aS)),show ES false l 32 t=_ from au];exact BP.zero _ _ _ _ _⟩,(Ej ap (Bh.below aq ap.size oO)).trans hS.2.2.2.2⟩)
    have f5:=au;obtain ⟨oX,tX⟩:=f4;obtain ⟨x1,rfl,f6,en,c6⟩:=aq;have eo:=f6.mono (T:=λk=>c5<k/\w.heap.size<=k) (λk hk _=>by have h1:=(bT).lt;have h2:=ap.size;omega);have cD:=Gn be c6 (be).lt oO;have cE:=Gn bg c6 (bg).lt oO;have f7:=en.1;rw [A2 (bF (nT aS)),show ES false l 32 t=_ from f5] at hR;subst hR;refine Ax rfl rfl (Gn bd c6 (bd).lt oO) Al rfl rfl (λf8 d' an gG=>?_);refine A0<|Ad<|Lb<|Fe 9 rfl BR (λep a2=>?_);have bV:=BP.same (w1:=ep) (BP.same (w1:=f8) eo (λk hk hl=>an.other k oM)) (λk hk hl=>(by obtain ⟨m,rfl⟩:=a2;rfl));have av:=d'.drew a2;have bW:=(cD.up an).drew a2;have bX:=((Gn bf c6 (bf).lt oO).up an).drew a2;have bY:=(cE.up an).drew a2;have bZ:=(f7.upd an oM).drew a2;have b':=C6.below (BU (Ej ap (Bh.below c6 ap.size oO)) oO an) a2;refine AI 1 rfl (.mv rfl) rfl<|AI 2 rfl (.nck rfl) rfl<|AI 3 rfl (.fa CC rfl Bw dD rfl) rfl<|CG 0 rfl 4 rfl ?_ ?_;refine Ah (Bk rfl av Ay rfl Al)<|A0<|CG 4 rfl 5 rfl ?_ ?_;refine Ah (Ae (BZ _) rfl bZ rfl)<|A0<|Av 5 rfl<|Ax rfl rfl av Al rfl rfl (λeq dd a5 f9=>?_);refine A0<|Av 6 rfl<|Cn (bW.up a5) FH (λer de a6 fb=>?_);refine A0<|Av 7 rfl<|Cn ((bX.up a5).up a6) Bw (λes df a7 fc=>?_);refine A0<|Av 8 rfl<|Cn (((bY.up a5).up a6).up a7) EJ (λet c7 a8 fd=>?_);have e0:=BP.same (w1:=et) (BP.same (w1:=es) (BP.same (w1:=er) (BP.same (w1:=eq) bV (λk hk hl=>a5.other k oM)) (λk hk hl=>a6.other k oM)) (λk hk hl=>a7.other k oM)) (λk hk hl=>a8.other k oM);refine A0<|Bn kR<|AT ?_;exact D1.ret Gu (λw'=>_) (Du y b g i _ c7) (λw' hS=>by subst hS;exact ⟨_,Cc rfl rfl rfl rfl rfl (Be (((dd.up a6).up a7).up a8) Ay rfl Al) (B5 ((de.up a7).up a8) (FX _) rfl) (B5 (df.up a8) (BZ _) rfl) (B5 c7 (Ed _) rfl),⟨x1,AU rfl,(e0).mono (λk hk _=>hk.2)⟩,(BU (BU (BU (BU b' oO a5) oO a6) oO a7) oO a8)⟩)
    refine Ax rfl rfl av Al rfl rfl (λeu c8 B fe=>?_);have cG:=BP.same (w1:=eu) bV (λk hk hl=>B.other k oM);have cH:=bW.up B;have cI:=bX.up B;have cJ:=bY.up B;have cK:=bZ.up B;have cL:=BU b' oO B;refine A0<|CG 4 rfl 6 rfl ?_ ?_;refine Ah (Ae (BZ _) rfl cK rfl)<|A0<|Av 6 rfl<|Cn cH FH (λev dg a9 ff=>?_);refine A0<|Av 7 rfl<|Cn (cI.up a9) Bw (λew dh aa fg=>?_);refine A0<|Av 8 rfl<|Cn ((cJ.up a9).up aa) EJ (λex c9 ab fh=>?_);have e1:=BP.same (w1:=ex) (BP.same (w1:=ew) (BP.same (w1:=ev) cG (λk hk hl=>a9.other k oM)) (λk hk hl=>aa.other k oM)) (λk hk hl=>ab.other k oM);refine A0<|Bn kR<|AT ?_;exact D1.ret Gu (λw'=>_) (Du y b g i _ c9) (λw' hS=>by subst hS;exact ⟨_,Cc rfl rfl rfl rfl rfl (Be (((c8.up a9).up aa).up ab) Ay rfl Al) (B5 ((dg.up aa).up ab) (FX _) rfl) (B5 (dh.up ab) (BZ _) rfl) (B5 c9 (Ed _) rfl),⟨x1,AU rfl,(e1).mono (λk hk _=>hk.2)⟩,(BU (BU (BU cL oO a9) oO aa) oO ab)⟩);refine Cn cH FH (λey di C fi=>?_);refine A0<|Av 4 rfl<|Ah (Ae (BZ _) rfl (cK.up C) rfl)<|A0<|Av 7 rfl<|Cn (cI.up C) Bw (λez dj ac fj=>?_);refine A0<|Av 8 rfl<|Cn ((cJ.up C).up ac) EJ (λeA ca ad fk=>?_);have e2:=BP.same (w1:=eA) (BP.same (w1:=ez) (BP.same (w1:=ey) cG (λk hk hl=>C.other k oM)) (λk hk hl=>ac.other k oM)) (λk hk hl=>ad.other k oM);refine A0<|Bn kR<|AT ?_;exact D1.ret Gu (λw'=>_) (Du y b g i _ ca) (λw' hS=>by subst hS;exact ⟨_,Cc rfl rfl rfl rfl rfl (Be (((c8.up C).up ac).up ad) Ay rfl Al) (B5 ((di.up ac).up ad) (FX _) rfl) (B5 (dj.up ad) (BZ _) rfl) (B5 ca (Ed _) rfl),⟨x1,AU rfl,(e2).mono (λk hk _=>hk.2)⟩,(BU (BU (BU cL oO C) oO ac) oO ad)⟩);refine Ah (Ae (BZ _) rfl bZ rfl)<|A0<|Av 0 rfl<|Ah (Bk rfl av Ay rfl Al)<|A0<|Av 5 rfl<|Ax rfl rfl av Al rfl rfl (λeB dk ae fl=>?_)
    refine A0<|Av 6 rfl<|Cn (bW.up ae) FH (λeC dl af fm=>?_);refine A0<|Av 7 rfl<|Cn ((bX.up ae).up af) Bw (λeD dm ag fn=>?_);refine A0<|Av 8 rfl<|Cn (((bY.up ae).up af).up ag) EJ (λeF cb ah fo=>?_);have e3:=BP.same (w1:=eF) (BP.same (w1:=eD) (BP.same (w1:=eC) (BP.same (w1:=eB) bV (λk hk hl=>ae.other k oM)) (λk hk hl=>af.other k oM)) (λk hk hl=>ag.other k oM)) (λk hk hl=>ah.other k oM);refine A0<|Bn kR<|AT ?_;exact D1.ret Gu (λw'=>_) (Du y b g i _ cb) (λw' hS=>by subst hS;exact ⟨_,Cc rfl rfl rfl rfl rfl (Be (((dk.up af).up ag).up ah) Ay rfl Al) (B5 ((dl.up ag).up ah) (FX _) rfl) (B5 (dm.up ah) (BZ _) rfl) (B5 cb (Ed _) rfl),⟨x1,AU rfl,(e3).mono (λk hk _=>hk.2)⟩,(BU (BU (BU (BU b' oO ae) oO af) oO ag) oO ah)⟩)
  have em:=(nF dc);refine Ap<|A4<|A3 rfl<|Ao (e' c5 _ ⟨bT,bU⟩ (λh0=>by have:=hb.lt h0;omega)) (λgM a3=>?_);rw [A7 (nF aS),<- hX] at hR;subst hR;refine A3 rfl<|A1 (.ext rfl rfl)<|A1 (.ext rfl rfl)<|A1 (.ext rfl rfl)<|Ax rfl rfl (Gn bd a3.2 bd.lt oO) Al rfl rfl (λgN dn D fp=>?_);refine Cn ((Gn be a3.2 be.lt oO).up D) FH (λgO cc E fq=>?_);have cM:=dn.up E;have cN:=((Gn bf a3.2 bf.lt oO).up D).up E;have cO:=((Gn bg a3.2 bg.lt oO).up D).up E;have cP:=(a3.1.1.up D).up E;have cQ:=Ce (Ce a3.1.2 D d5) E cA;have cR:=BU (BU (Ej ap (Bh.below a3.2 ap.size oO)) oO D) oO E;refine A9 rfl<|If (α:=Unit) (λt=>[(4,ptV y),(5,ptV b),(6,ptV g),(7,ptV i),(8,ptV c5)]) (λt w'=>B0 w' y (Wo (DK X.kind X.n [])).toArray 27/\B0 w' b #[.string (bs (if X.ok then [] else X.word))] 9/\B0 w' g #[Af 0] 3/\B0 w' i #[Af 0] 35/\P2 w' c5 p l c X.np false/\AL w w') ?_ (λt w1 hR=>?_);refine A4<|A3 rfl<|A0<|Ai rfl (λeG=>?_) (λeG=>?_);refine Am<|Br FH rfl rfl rfl cc (by exact Nat.le_of_ble_eq_true rfl) (λeH bt s fr=>?_);have bt:B0 eH b _ _:=bt;have s:CK b _ _:=s;refine A0<|?_;exact ⟨(),⟨rfl,rfl,rfl,rfl,rfl,tT⟩,(cM.up s),by rw [show X.ok=_ by assumption];exact bt,(cN.up s),(cO.up s),⟨(cP.up s),(Ce cQ s cA)⟩,(BU cR oO s)⟩;refine Ap ?_;exact ⟨(),⟨rfl,rfl,rfl,rfl,rfl,tT⟩,cM,by rw [show X.ok=_ by assumption];exact cc,cN,cO,⟨cP,cQ⟩,cR⟩;obtain ⟨fs,ft,fu,fv,fw,fx⟩:=hR
  generalize (if X.ok then [] else X.word)=sX at *;refine Ad<|Lb<|Fe 10 rfl BR (λgP ao=>?_);have d:=fs.drew ao;have f:=ft.drew ao;have j:=fu.drew ao;have o:=fv.drew ao;have A:=fw.1.drew ao;have q:=C6.below fx ao;refine AI 2 rfl (.mv rfl) rfl<|AI 3 rfl (.nck rfl) rfl<|AI 4 rfl (.fa CC rfl Bw dD rfl) rfl<|SK [0,1,5] kR rfl ⟨⟨_,rfl,?_⟩,⟨_,rfl,?_⟩,⟨_,rfl,?_⟩,tT⟩;refine Ah (Bk rfl d Ay rfl Al)<|A0<|SK [1,5,6] kR rfl ⟨⟨_,rfl,?_⟩,⟨_,rfl,?_⟩,⟨_,rfl,?_⟩,tT⟩;refine Ah (Ae (FX _) rfl f rfl)<|A0<|CG 5 rfl 6 rfl ?_ ?_;refine Ah (Ae (BZ _) rfl A rfl)<|A0<|Av 6 rfl<|Ax rfl rfl d Al rfl rfl (λgQ dp aw fy=>?_);refine A0<|Av 7 rfl<|Br FH rfl rfl rfl (f.up aw) (by exact Nat.le_of_ble_eq_true rfl) (λeI bu F fz=>?_);have bu:B0 eI b _ _:=bu;have F:CK b _ _:=F;refine A0<|Av 8 rfl<|Cn ((j.up aw).up F) Bw (λgR dq ax fA=>?_);refine A0<|Av 9 rfl<|Cn (((o.up aw).up F).up ax) EJ (λgS cd ay fB=>?_);refine A0<|Bn kR<|AT ?_;exact D1.ret Gu (λw'=>_) (Du y b g i _ cd) (λw' hS=>by subst hS;exact ⟨_,Cc rfl rfl rfl rfl rfl (Be (((dp.up F).up ax).up ay) Ay rfl Al) (B5 ((bu.up ax).up ay) (FX _) rfl) (B5 (dq.up ay) (BZ _) rfl) (B5 cd (Ed _) rfl),⟨DK X.kind X.n [],AU rfl,BP.zero _ _ _ _ _⟩,(BU (BU (BU (BU q oO aw) oO F) oO ax) oO ay)⟩);refine Ax rfl rfl d Al rfl rfl (λgT cf ai fC=>?_);have cS:=f.up ai;have cT:=j.up ai;have cU:=o.up ai;have cV:=A.up ai;have cW:=BU q oO ai;refine A0<|CG 5 rfl 7 rfl ?_ ?_;refine Ah (Ae (BZ _) rfl cV rfl)<|A0<|Av 7 rfl<|Br FH rfl rfl rfl cS (by exact Nat.le_of_ble_eq_true rfl) (λeJ bv G fD=>?_);have bv:B0 eJ b _ _:=bv;have G:CK b _ _:=G;refine A0<|Av 8 rfl<|Cn (cT.up G) Bw (λgU dr az fE=>?_)
  refine A0<|Av 9 rfl<|Cn ((cU.up G).up az) EJ (λgV cg aA fF=>?_);refine A0<|Bn kR<|AT ?_;exact D1.ret Gu (λw'=>_) (Du y b g i _ cg) (λw' hS=>by subst hS;exact ⟨_,Cc rfl rfl rfl rfl rfl (Be (((cf.up G).up az).up aA) Ay rfl Al) (B5 ((bv.up az).up aA) (FX _) rfl) (B5 (dr.up aA) (BZ _) rfl) (B5 cg (Ed _) rfl),⟨DK X.kind X.n [],AU rfl,BP.zero _ _ _ _ _⟩,(BU (BU (BU cW oO G) oO az) oO aA)⟩);refine Br FH rfl rfl rfl cS (by exact Nat.le_of_ble_eq_true rfl) (λeK bw u fG=>?_);have bw:B0 eK b _ _:=bw;have u:CK b _ _:=u;refine A0<|Av 5 rfl<|Ah (Ae (BZ _) rfl (cV.up u) rfl)<|A0<|Av 8 rfl<|Cn (cT.up u) Bw (λgW ds aB fH=>?_);refine A0<|Av 9 rfl<|Cn ((cU.up u).up aB) EJ (λgX ci aC fI=>?_);refine A0<|Bn kR<|AT ?_;exact D1.ret Gu (λw'=>_) (Du y b g i _ ci) (λw' hS=>by subst hS;exact ⟨_,Cc rfl rfl rfl rfl rfl (Be (((cf.up u).up aB).up aC) Ay rfl Al) (B5 ((bw.up aB).up aC) (FX _) rfl) (B5 (ds.up aC) (BZ _) rfl) (B5 ci (Ed _) rfl),⟨DK X.kind X.n [],AU rfl,BP.zero _ _ _ _ _⟩,(BU (BU (BU cW oO u) oO aB) oO aC)⟩);refine Ah (Ae (BZ _) rfl A rfl)<|A0<|CG 1 rfl 6 rfl ?_ ?_;refine Ah (Ae (FX _) rfl f rfl)<|A0<|Av 6 rfl<|Ax rfl rfl d Al rfl rfl (λgY dt aD fJ=>?_);refine A0<|Av 7 rfl<|Br FH rfl rfl rfl (f.up aD) (by exact Nat.le_of_ble_eq_true rfl) (λeL bz H fK=>?_);have bz:B0 eL b _ _:=bz;have H:CK b _ _:=H;refine A0<|Av 8 rfl<|Cn ((j.up aD).up H) Bw (λgZ du aE fL=>?_);refine A0<|Av 9 rfl<|Cn (((o.up aD).up H).up aE) EJ (λg' cj aF fM=>?_);refine A0<|Bn kR<|AT ?_;exact D1.ret Gu (λw'=>_) (Du y b g i _ cj) (λw' hS=>by subst hS;exact ⟨_,Cc rfl rfl rfl rfl rfl (Be (((dt.up H).up aE).up aF) Ay rfl Al) (B5 ((bz.up aE).up aF) (FX _) rfl) (B5 (du.up aF) (BZ _) rfl) (B5 cj (Ed _) rfl),⟨DK X.kind X.n [],AU rfl,BP.zero _ _ _ _ _⟩,(BU (BU (BU (BU q oO aD) oO H) oO aE) oO aF)⟩)
  refine Ax rfl rfl d Al rfl rfl (λh3 dv aG fN=>?_);have cX:=f.up aG;refine A0<|Av 1 rfl<|Ah (Ae (FX _) rfl cX rfl)<|A0<|Av 7 rfl<|Br FH rfl rfl rfl cX (by exact Nat.le_of_ble_eq_true rfl) (λeM bA J fO=>?_);have bA:B0 eM b _ _:=bA;have J:CK b _ _:=J;refine A0<|Av 8 rfl<|Cn ((j.up aG).up J) Bw (λh4 dw aH fP=>?_);refine A0<|Av 9 rfl<|Cn (((o.up aG).up J).up aH) EJ (λh5 ck aI fQ=>?_);refine A0<|Bn kR<|AT ?_;exact D1.ret Gu (λw'=>_) (Du y b g i _ ck) (λw' hS=>by subst hS;exact ⟨_,Cc rfl rfl rfl rfl rfl (Be (((dv.up J).up aH).up aI) Ay rfl Al) (B5 ((bA.up aH).up aI) (FX _) rfl) (B5 (dw.up aI) (BZ _) rfl) (B5 ck (Ed _) rfl),⟨DK X.kind X.n [],AU rfl,BP.zero _ _ _ _ _⟩,(BU (BU (BU (BU q oO aG) oO J) oO aH) oO aI)⟩);refine Ax rfl rfl d Al rfl rfl (λh6 bB aj fR=>?_);have aJ:=f.up aj;have c0:=j.up aj;have c2:=o.up aj;have c3:=A.up aj;have c4:=BU q oO aj;refine A0<|CG 1 rfl 5 rfl ?_ ?_;refine Ah (Ae (FX _) rfl aJ rfl)<|A0<|CG 5 rfl 7 rfl ?_ ?_;refine Ah (Ae (BZ _) rfl c3 rfl)<|A0<|Av 7 rfl<|Br FH rfl rfl rfl aJ (by exact Nat.le_of_ble_eq_true rfl) (λeN bC K fS=>?_);have bC:B0 eN b _ _:=bC;have K:CK b _ _:=K;refine A0<|Av 8 rfl<|Cn (c0.up K) Bw (λh7 dx aK fT=>?_);refine A0<|Av 9 rfl<|Cn ((c2.up K).up aK) EJ (λh8 cl aL fU=>?_);refine A0<|Bn kR<|AT ?_;exact D1.ret Gu (λw'=>_) (Du y b g i _ cl) (λw' hS=>by subst hS;exact ⟨_,Cc rfl rfl rfl rfl rfl (Be (((bB.up K).up aK).up aL) Ay rfl Al) (B5 ((bC.up aK).up aL) (FX _) rfl) (B5 (dx.up aL) (BZ _) rfl) (B5 cl (Ed _) rfl),⟨DK X.kind X.n [],AU rfl,BP.zero _ _ _ _ _⟩,(BU (BU (BU c4 oO K) oO aK) oO aL)⟩)
  refine Br FH rfl rfl rfl aJ (by exact Nat.le_of_ble_eq_true rfl) (λeO bD v fV=>?_);have bD:B0 eO b _ _:=bD;have v:CK b _ _:=v;refine A0<|Av 5 rfl<|Ah (Ae (BZ _) rfl (c3.up v) rfl)<|A0<|Av 8 rfl<|Cn (c0.up v) Bw (λh9 dy aM fW=>?_);refine A0<|Av 9 rfl<|Cn ((c2.up v).up aM) EJ (λha cm aN fX=>?_);refine A0<|Bn kR<|AT ?_;exact D1.ret Gu (λw'=>_) (Du y b g i _ cm) (λw' hS=>by subst hS;exact ⟨_,Cc rfl rfl rfl rfl rfl (Be (((bB.up v).up aM).up aN) Ay rfl Al) (B5 ((bD.up aM).up aN) (FX _) rfl) (B5 (dy.up aN) (BZ _) rfl) (B5 cm (Ed _) rfl),⟨DK X.kind X.n [],AU rfl,BP.zero _ _ _ _ _⟩,(BU (BU (BU c4 oO v) oO aM) oO aN)⟩);refine Ah (Ae (BZ _) rfl c3 rfl)<|A0<|Av 1 rfl<|Ah (Ae (FX _) rfl aJ rfl)<|A0<|Av 7 rfl<|Br FH rfl rfl rfl aJ (by exact Nat.le_of_ble_eq_true rfl) (λeP bE L fY=>?_);have bE:B0 eP b _ _:=bE;have L:CK b _ _:=L;refine A0<|Av 8 rfl<|Cn (c0.up L) Bw (λhd dz aO fZ=>?_);refine A0<|Av 9 rfl<|Cn ((c2.up L).up aO) EJ (λhe cn aP f'=>?_);refine A0<|Bn kR<|AT ?_;exact D1.ret Gu (λw'=>_) (Du y b g i _ cn) (λw' hS=>by subst hS;exact ⟨_,Cc rfl rfl rfl rfl rfl (Be (((bB.up L).up aO).up aP) Ay rfl Al) (B5 ((bE.up aO).up aP) (FX _) rfl) (B5 (dz.up aP) (BZ _) rfl) (B5 cn (Ed _) rfl),⟨DK X.kind X.n [],AU rfl,BP.zero _ _ _ _ _⟩,(BU (BU (BU c4 oO L) oO aO) oO aP)⟩);refine Ah (Ae (FX _) rfl f rfl)<|A0<|CG 0 rfl 5 rfl ?_ ?_;refine Ah (Bk rfl d Ay rfl Al)<|A0<|CG 5 rfl 6 rfl ?_ ?_;refine Ah (Ae (BZ _) rfl A rfl)<|A0<|Av 6 rfl<|Ax rfl rfl d Al rfl rfl (λhf dA aQ g0=>?_);refine A0<|Av 7 rfl<|Br FH rfl rfl rfl (f.up aQ) (by exact Nat.le_of_ble_eq_true rfl) (λeQ bG P g1=>?_)
  have bG:B0 eQ b _ _:=bG;have P:CK b _ _:=P;refine A0<|Av 8 rfl<|Cn ((j.up aQ).up P) Bw (λhg dB aR g2=>?_);refine A0<|Av 9 rfl<|Cn (((o.up aQ).up P).up aR) EJ (λhh co aT g3=>?_);refine A0<|Bn kR<|AT ?_;exact D1.ret Gu (λw'=>_) (Du y b g i _ co) (λw' hS=>by subst hS;exact ⟨_,Cc rfl rfl rfl rfl rfl (Be (((dA.up P).up aR).up aT) Ay rfl Al) (B5 ((bG.up aR).up aT) (FX _) rfl) (B5 (dB.up aT) (BZ _) rfl) (B5 co (Ed _) rfl),⟨DK X.kind X.n [],AU rfl,BP.zero _ _ _ _ _⟩,(BU (BU (BU (BU q oO aQ) oO P) oO aR) oO aT)⟩);refine Ax rfl rfl d Al rfl rfl (λhi cq ak g4=>?_);have cY:=f.up ak;have cZ:=j.up ak;have c':=o.up ak;have d0:=A.up ak;have d1:=BU q oO ak;refine A0<|CG 5 rfl 7 rfl ?_ ?_;refine Ah (Ae (BZ _) rfl d0 rfl)<|A0<|Av 7 rfl<|Br FH rfl rfl rfl cY (by exact Nat.le_of_ble_eq_true rfl) (λeR bH Q g5=>?_);have bH:B0 eR b _ _:=bH;have Q:CK b _ _:=Q;refine A0<|Av 8 rfl<|Cn (cZ.up Q) Bw (λhj dC aU g6=>?_);refine A0<|Av 9 rfl<|Cn ((c'.up Q).up aU) EJ (λhm cr aV g7=>?_);refine A0<|Bn kR<|AT ?_;exact D1.ret Gu (λw'=>_) (Du y b g i _ cr) (λw' hS=>by subst hS;exact ⟨_,Cc rfl rfl rfl rfl rfl (Be (((cq.up Q).up aU).up aV) Ay rfl Al) (B5 ((bH.up aU).up aV) (FX _) rfl) (B5 (dC.up aV) (BZ _) rfl) (B5 cr (Ed _) rfl),⟨DK X.kind X.n [],AU rfl,BP.zero _ _ _ _ _⟩,(BU (BU (BU d1 oO Q) oO aU) oO aV)⟩);refine Br FH rfl rfl rfl cY (by exact Nat.le_of_ble_eq_true rfl) (λeS bI x g8=>?_);have bI:B0 eS b _ _:=bI;have x:CK b _ _:=x;refine A0<|Av 5 rfl<|Ah (Ae (BZ _) rfl (d0.up x) rfl)<|A0<|Av 8 rfl<|Cn (cZ.up x) Bw (λhn dE aW g9=>?_);refine A0<|Av 9 rfl<|Cn ((c'.up x).up aW) EJ (λho ct aX ga=>?_)
  refine A0<|Bn kR<|AT ?_;exact D1.ret Gu (λw'=>_) (Du y b g i _ ct) (λw' hS=>by subst hS;exact ⟨_,Cc rfl rfl rfl rfl rfl (Be (((cq.up x).up aW).up aX) Ay rfl Al) (B5 ((bI.up aW).up aX) (FX _) rfl) (B5 (dE.up aX) (BZ _) rfl) (B5 ct (Ed _) rfl),⟨DK X.kind X.n [],AU rfl,BP.zero _ _ _ _ _⟩,(BU (BU (BU d1 oO x) oO aW) oO aX)⟩);refine Ah (Ae (BZ _) rfl A rfl)<|A0<|Av 0 rfl<|Ah (Bk rfl d Ay rfl Al)<|A0<|Av 6 rfl<|Ax rfl rfl d Al rfl rfl (λhp dG aY gb=>?_);refine A0<|Av 7 rfl<|Br FH rfl rfl rfl (f.up aY) (by exact Nat.le_of_ble_eq_true rfl) (λeT bJ U gc=>?_);have bJ:B0 eT b _ _:=bJ;have U:CK b _ _:=U;refine A0<|Av 8 rfl<|Cn ((j.up aY).up U) Bw (λhq dH aZ ge=>?_);refine A0<|Av 9 rfl<|Cn (((o.up aY).up U).up aZ) EJ (λhr cu a' gf=>?_);refine A0<|Bn kR<|AT ?_;exact D1.ret Gu (λw'=>_) (Du y b g i _ cu) (λw' hS=>by subst hS;exact ⟨_,Cc rfl rfl rfl rfl rfl (Be (((dG.up U).up aZ).up a') Ay rfl Al) (B5 ((bJ.up aZ).up a') (FX _) rfl) (B5 (dH.up a') (BZ _) rfl) (B5 cu (Ed _) rfl),⟨DK X.kind X.n [],AU rfl,BP.zero _ _ _ _ _⟩,(BU (BU (BU (BU q oO aY) oO U) oO aZ) oO a')⟩);refine Ah (Ae (BZ _) rfl A rfl)<|A0<|CG 0 rfl 1 rfl ?_ ?_;refine Ah (Bk rfl d Ay rfl Al)<|A0<|CG 1 rfl 6 rfl ?_ ?_;refine Ah (Ae (FX _) rfl f rfl)<|A0<|Av 6 rfl<|Ax rfl rfl d Al rfl rfl (λhs dI b0 gg=>?_);refine A0<|Av 7 rfl<|Br FH rfl rfl rfl (f.up b0) (by exact Nat.le_of_ble_eq_true rfl) (λeU bK V gh=>?_);have bK:B0 eU b _ _:=bK;have V:CK b _ _:=V;refine A0<|Av 8 rfl<|Cn ((j.up b0).up V) Bw (λhu dJ b2 gi=>?_);refine A0<|Av 9 rfl<|Cn (((o.up b0).up V).up b2) EJ (λhv cv b3 gj=>?_)
  refine A0<|Bn kR<|AT ?_;exact D1.ret Gu (λw'=>_) (Du y b g i _ cv) (λw' hS=>by subst hS;exact ⟨_,Cc rfl rfl rfl rfl rfl (Be (((dI.up V).up b2).up b3) Ay rfl Al) (B5 ((bK.up b2).up b3) (FX _) rfl) (B5 (dJ.up b3) (BZ _) rfl) (B5 cv (Ed _) rfl),⟨DK X.kind X.n [],AU rfl,BP.zero _ _ _ _ _⟩,(BU (BU (BU (BU q oO b0) oO V) oO b2) oO b3)⟩);refine Ax rfl rfl d Al rfl rfl (λhx dK b4 gk=>?_);have d2:=f.up b4;refine A0<|Av 1 rfl<|Ah (Ae (FX _) rfl d2 rfl)<|A0<|Av 7 rfl<|Br FH rfl rfl rfl d2 (by exact Nat.le_of_ble_eq_true rfl) (λeV bM a0 gl=>?_);have bM:B0 eV b _ _:=bM;have a0:CK b _ _:=a0;refine A0<|Av 8 rfl<|Cn ((j.up b4).up a0) Bw (λhy dL b6 gm=>?_);refine A0<|Av 9 rfl<|Cn (((o.up b4).up a0).up b6) EJ (λhz cw b7 go=>?_);refine A0<|Bn kR<|AT ?_;exact D1.ret Gu (λw'=>_) (Du y b g i _ cw) (λw' hS=>by subst hS;exact ⟨_,Cc rfl rfl rfl rfl rfl (Be (((dK.up a0).up b6).up b7) Ay rfl Al) (B5 ((bM.up b6).up b7) (FX _) rfl) (B5 (dL.up b7) (BZ _) rfl) (B5 cw (Ed _) rfl),⟨DK X.kind X.n [],AU rfl,BP.zero _ _ _ _ _⟩,(BU (BU (BU (BU q oO b4) oO a0) oO b6) oO b7)⟩);refine Ah (Ae (FX _) rfl f rfl)<|A0<|Av 0 rfl<|Ah (Bk rfl d Ay rfl Al)<|A0<|Av 6 rfl<|Ax rfl rfl d Al rfl rfl (λhA dM b8 gp=>?_);refine A0<|Av 7 rfl<|Br FH rfl rfl rfl (f.up b8) (by exact Nat.le_of_ble_eq_true rfl) (λeW bN a1 gq=>?_);have bN:B0 eW b _ _:=bN;have a1:CK b _ _:=a1;refine A0<|Av 8 rfl<|Cn ((j.up b8).up a1) Bw (λhB dN b9 gr=>?_);refine A0<|Av 9 rfl<|Cn (((o.up b8).up a1).up b9) EJ (λhC cy ba gs=>?_);refine A0<|Bn kR<|AT ?_;exact D1.ret Gu (λw'=>_) (Du y b g i _ cy) (λw' hS=>by subst hS;exact ⟨_,Cc rfl rfl rfl rfl rfl (Be (((dM.up a1).up b9).up ba) Ay rfl Al) (B5 ((bN.up b9).up ba) (FX _) rfl) (B5 (dN.up ba) (BZ _) rfl) (B5 cy (Ed _) rfl),⟨DK X.kind X.n [],AU rfl,BP.zero _ _ _ _ _⟩,(BU (BU (BU (BU q oO b8) oO a1) oO b9) oO ba)⟩)
end
section
abbrev A40 {α:Type} (w:World) (res:Except Int α) (V:α->Value):Ending->World->Prop:=Cf 35 res V (λ_ w'=>AL w w') (λw'=>AL w w')
theorem A2z (e:Int) (w:World):Calls Tryz.prog 223 #[Af e] w (A40 w (Qk e) λ_=>.tuple #[]):=by
 refine Ar func223 rfl ntmps223 ?_
 have a:=CN w
 refine A4<|A3 rfl<|A1 (.neq rfl rfl)<|A0<|Ai rfl (λb=>?_) (λb=>?_)
 have c:=ndT b
 refine Am<|A1 (.mkI Kr rfl)<|Fd rfl (Bt ?_)
 exact BB 22 (by unfold Qk;rw [A2 aS]) a
 have c:=ndF b
 refine Ap<|Cx (Cd rfl ?_)
 exact Cf.ok () (by unfold Qk;rw [A7 aS]) rfl a
theorem Gg (b:Bool) (w:World):Calls Tryz.prog 167 #[.bool b] w (A40 w (Pq b) λ_=>.tuple #[]):=by
 refine Ar func167 rfl ntmps167 ?_
 have a:=CN w
 refine A4<|A3 rfl<|A1 (.not rfl)<|A0<|Ai rfl (λc=>?_) (λc=>?_)
 refine Am<|A1 (.mkI Kr rfl)<|Fd rfl (Bt ?_)
 exact BB 22 (by unfold Pq;rw [A2 (by simp_all)]) a
 refine Ap<|Cx (Cd rfl ?_)
 exact Cf.ok () (by unfold Pq;rw [A7 (by simp_all)]) rfl a
theorem Xg (b:Bool) (w:World):Calls Tryz.prog 165 #[.bool b] w (A40 w (U7 b) λ_=>.tuple #[]):=by
 refine Ar func165 rfl ntmps165 ?_
 have a:=CN w
 refine A4<|A3 rfl<|A1 (.not rfl)<|A0<|Ai rfl (λc=>?_) (λc=>?_)
 refine Am<|A1 (.mkI Kr rfl)<|Fd rfl (Bt ?_)
 exact BB 25 (by unfold U7;rw [A2 (by simp_all)]) a
 refine Ap<|Cx (Cd rfl ?_)
 exact Cf.ok () (by unfold U7;rw [A7 (by simp_all)]) rfl a
theorem A3g {e:Int} {u:Unit} (h:Qk e=.ok u):e=0:=by
 unfold Qk at h;split at h
 · assumption
 · cases h
theorem A0R  {e k:Int} {x:Except Int α} (h:Qk e=.error k):(if e=0 then x else .error 22)=.error k:=by
 unfold Qk at h;split at h
 · cases h
 · rename_i h0;rw [A2 h0];cases h;rfl
end
section
def m6Y:FW M6:=⟨6,Mm,dD,λ_=>rfl,λx u hu=>AN.1 (show (Mm x).all Value.oneCell'=true from rfl) u hu⟩
structure StH where
 ctm:M6
 fill:Lh
 stroke:Lh
 pen:ZD
 clips:Value
 font:Int
 size:Int
def stV (s:StH):List Value:=Mm s.ctm++(Hu s.fill++(Hu s.stroke++(YY s.pen++[s.clips,Af s.font,Af s.size])))
structure VwH where
 s:StH
 fonts:Value
 saved:Value
 path:Nat
 clip:Int
 inText:Bool
 lost:Bool
 text:M6
 line:M6
 args:Value
 items:Value
def It (h:VwH):List Value:=stV h.s++([h.fonts,h.saved,ptV h.path,Af h.clip,.bool h.inText,.bool h.lost]++(Mm h.text++(Mm h.line++[h.args,h.items])))
theorem H7 (a b:M6) (w:World):Calls Tryz.prog 214 #[.agg (Mm a).toArray,.agg (Mm b).toArray] w (A40 w (A3K a b) λm=>.agg (Mm m).toArray):=by
 obtain ⟨r,hr⟩:=eX (LM a b)
 unfold A3K
 rw [<- hr]
 refine Ar func214 rfl ntmps214 ?_
 have V:=CN w
 refine A4<|WL.box rfl rfl (λb1 ad X i C a9=>?_)
 have Y:=uB V X C
 refine WL.box rfl rfl (λb3 ae A j k aa=>?_)
 have a0:=Bl A i.lt
 have B:=i.un k a0
 have a1:=uB Y A k
 refine Bj R3 rfl (λb7 af l D d ab=>?_)
 have a2:=Bl l B.lt
 have a3:=B.un d a2
 have E:=Bl l j.lt
 have F:=j.un d E
 have G:=uB a1 l d
 refine A0<|A4<|Ah (Bk rfl a3 FN rfl Ef)<|Ah (Bk rfl F FN rfl Ef)<|Ao (Ql a b _) (λag o=>?_)
 have q:=D.bl o
 have H:=Ci G o
 rw [<- hr]
 simp only [m6R]
 refine A3 rfl<|A1 (.ext rfl rfl)<|A1 (.ext rfl rfl)<|Bj R3 rfl (λah ac s u f a6=>?_)
 have J:=Bl s q.lt
 have K:=q.un f J
 have L:=uB H s f
 refine Ax rfl rfl u Ef rfl rfl (λai v g a7=>?_)
 have N:=K.up g
 have e:=BU L oO g
 refine A9 rfl<|A4<|A3 rfl<|C1 BK rfl rfl ((A2z _ _)) (λa4 a5 h c=>?_) (λaj a5 h c=>?_)
 have t:=Ej e (Below.mono c e.size)
 exact Bt (BB a4 (A0R h) t)
 have P:=N.bl c
 have Q:=v.bl c
 have T:=Ci e c
 refine A0<|A4<|Ah (Bk rfl Q FN rfl Ef)<|Ax rfl rfl P Ef rfl rfl (λak x y a8=>?_)
 have U:=BU T oO y
 refine A0<|AT (BI rfl rfl (Be x FN rfl Ef)  ?_)
 exact Cf.ok _ (by rw [A7 (A3g aS)]) rfl U
end
section
section
variable {P:Program} {n:Sh} {f:Fr}
theorem A5x  {rest:List Oper} {d ty:Nat} {t:TypeId} {by':Nat} {kl kc:IntKind} (j:Nat)
  (ht:P.underlying t=some (.slice e)) (hi:(P.info? e).map (λi=>(i.zero,i.size,i.bytes))=some (some z,1,by')) (hby2:Nat.ble by' 1000=true)
  (hx:CM f x=some (.int kl 0)) (hy:CM f y=some (.int kc j)) (hj:j<=100000) (hd:Nat.blt d n.n=true)
  (k:∀ w1,CP e w.heap.size w1 (.slice (some ⟨w.heap.size,0,none⟩) 0 j) ([]:List Value)->AL w w1->WL P n ops Q rest ((d,.slice (some ⟨w.heap.size,0,none⟩) 0 j)::f) w1) :
  WL P n ops Q (⟨some d,.makeSlice t x y,ty,pos,aft,none⟩::rest) f w:=by
 cases hh:P.info? e with
 | none=>rw [hh] at hi;cases hi
 | some i =>
  rw [hh] at hi;simp only [Option.map_some,BN,CA] at hi;obtain ⟨c,a,g⟩:=hi;have b:i.bytes<=1000:=by rw [g];simpa using hby2
  have hb1:i.bytes * j<=1000 * j:=D4 _ b;obtain ⟨w',h,l,m⟩:=run_make_own (P:=P) (w:=w) w.heap.size t e i z 1 ht hh c a kl kc j oO (by unfold maxLen;omega) (DP _);refine WL.run hd (λρ hρ=>?_) (k w' l ((Gb _ _).grown m (DP _) λk hk=>by cases hk));unfold execOp;simp [hρ _ _ hx,hρ _ _ hy,h]
end
theorem Zo (n:Int) (w:World):Calls Tryz.prog 163 #[Af n] w λe w'=>e=.returned (.tuple #[Af (Mo n).1,Af (Mo n).2])/\w=w':=by
 refine Ar func163 rfl ntmps163<|A4<|Ct rfl<|A9 rfl<|Ad<|A4<|A3 rfl<|A1 (.lss rfl rfl)<|A3 rfl<|Ck rfl rfl rfl (λa=>?_) (λa=>?_)
 have c:=dF a
 refine A3 rfl<|Az a<|A1 (.gtr rfl rfl)<|A1 (.pkF rfl a rfl)<|A0<|Ai rfl (λb=>?_) (λb=>?_)
 have d:=dT b
 refine A4<|Ct rfl<|A9 rfl<|AT (D0 rfl rfl rfl ?_)
 first
 | exact ⟨Ff (by rw [show Mo n=(n * 65536,0) from A2 oO]),rfl⟩
 | exact ⟨Ff (by rw [show Mo n=(0,11) from A7 oO]),rfl⟩
 have d:=dF b
 refine Ap<|A4<|A3 rfl<|A1 (.mul rfl rfl (Ba oO))<|Ct rfl<|A9 rfl<|AT (D0 rfl rfl rfl ?_)
 first
 | exact ⟨Ff (by rw [show Mo n=(n * 65536,0) from A2 oO]),rfl⟩
 | exact ⟨Ff (by rw [show Mo n=(0,11) from A7 oO]),rfl⟩
 have c:=dT a
 refine Bc a<|A1 (.pkT rfl a rfl)<|A0<|BQ rfl rfl<|A4<|Ct rfl<|A9 rfl<|AT (D0 rfl rfl rfl ?_)
 first
 | exact ⟨Ff (by rw [show Mo n=(n * 65536,0) from A2 oO]),rfl⟩
 | exact ⟨Ff (by rw [show Mo n=(0,11) from A7 oO]),rfl⟩
def Qc (k n:Int):Int × Bool:=if k=3 then (n,Cy n) else if k=2 then ((Mo n).1,decide ((Mo n).2=0)) else (0,false)
theorem OA (x:PC) (w:World):Cb 142 #[.agg (Wo x).toArray] w (.tuple #[Af (Qc x.kind x.n).1,.bool (Qc x.kind x.n).2]):=by
 obtain ⟨k,n,t,kp,kl,kc,lp,ll,lc⟩:=x
 simp only [Wo]
 refine Ar func142 rfl ntmps142 ?_
 have i:=CN w
 refine A4<|WL.box rfl rfl (λj l m a f B=>?_)
 have c:=uB i m f
 refine Ct rfl<|A9 rfl<|Ad<|A4<|A1 (.fa Ay rfl Bw dD rfl)<|Ah (Ae (BZ _) rfl a rfl)<|A0<|AO<|A4<|A1 (.eql rfl rfl)<|A9 rfl<|Ai rfl (λg=>?_) (λg=>?_)
 have o:=dT g
 refine Ad<|D6 7 rfl BR (λw'=>w'.heap[j]?=l.heap[j]?/\True) (λC d=>?_)
 have q:=a.drew d
 have s:=C6.below c d
 have b:=Bs (q.trans a.symm) Bi
 refine Ab 0 rfl (.fa Ay rfl Bw dD rfl) b ?_
 refine BX 1 rfl (λw' hw'=>Ae (BZ _) rfl ((hw'.1).trans a) rfl) b rfl ?_
 refine Ab 2 rfl (.fa Ay rfl Bw dD rfl) b ?_
 refine BX 3 rfl (λw' hw'=>Ae (BZ _) rfl ((hw'.1).trans a) rfl) b rfl ?_
 refine AX 4 rfl<|Ao (JB _ _) (λD u=>?_)
 obtain rfl:=u
 refine A0<|⟨b,?_⟩
 refine Ab 5 rfl (.as rfl) b ?_
 refine Ab 6 rfl (.as rfl) b ?_
 refine BH kR<|AT (D0 rfl rfl rfl ?_)
 exact ⟨DO (by unfold Qc;rw [A7 aS];(first | done | rfl)),s⟩
 have o:=dF g
 refine A4<|A1 (.eql rfl rfl)<|A9 rfl<|Ai rfl (λh=>?_) (λh=>?_)
 have v:=dT h
 refine A4<|A1 (.fa Ay rfl Bw dD rfl)<|Ah (Ae (BZ _) rfl a rfl)<|Ao (Zo _ _) (λE y=>?_)
 obtain rfl:=y
 refine A3 rfl<|A1 (.ext rfl rfl)<|A1 (.ext rfl rfl)<|Ct rfl<|A9 rfl<|A4<|A3 rfl<|A3 rfl<|A1 (.eql rfl rfl)<|Ct rfl<|A9 rfl<|AT (D0 rfl rfl rfl ?_)
 exact ⟨DO (by unfold Qc;rw [A2 aS,A7 aS];(first | done | rfl)),c⟩
 have v:=dF h
 refine Ap<|A4<|Ct rfl<|A9 rfl<|AT (D0 rfl rfl rfl ?_)
 exact ⟨DO (by unfold Qc;rw [A2 aS,A2 aS];(first | done | rfl)),c⟩
theorem Xf {b:Bool} {u:Unit} (h:Pq b=.ok u):b=true:=by
 unfold Pq at h;split at h
 · assumption
 · cases h
theorem Fp {b:Bool} {k:Int} (h:Pq b=.error k):b=false/\k=22:=by
 unfold Pq at h;split at h
 · cases h
 · rename_i hb;cases h;exact ⟨by simpa using hb,rfl⟩
theorem ZE  {C:Nat} {l:List Value} (h:CP e B w v l) (hC:C<=B):CP e C w v l:=by
 rcases h with ⟨hl,h⟩
 refine ⟨hl,?_⟩
 rcases h with h | ⟨g,cap,cur,a,b,c⟩
 · exact .inl h
 · exact .inr ⟨g,cap,cur,a,C9 hC b,c⟩
theorem A3X  (h:CP e B w v xs):∀ g,v.ownBlock=some g->B<=g/\g<w.heap.size:=λg hg=>by
 rcases h with ⟨hl,h⟩
 rcases h with ⟨rfl,-⟩ | ⟨g1,cap,cur,rfl,h2,h3,-⟩
 · cases hg
 ·
  cases hg
  exact ⟨h2,(Bd.1 h3).1⟩
theorem CP.upd  {r:Nat} (h:CP e B w v xs) (hu:CK r w w1) (hr:∀ g,v.ownBlock=some g->g≠r):CP e B w1 v xs:=by
 rcases h with ⟨hl,h⟩
 refine ⟨hl,?_⟩
 rcases h with h | ⟨a,cap,cur,rfl,b,c,d⟩
 · exact .inl h
 · exact .inr ⟨a,cap,cur,rfl,b,(hu.other a (hr a rfl)).trans c,d⟩
def UA (cs:List PC) (n:Nat):Except Int (List Int):=if cs.length=n/\cs.all (λx=>(Qc x.kind x.n).2)=true then .ok (cs.map λx=>(Qc x.kind x.n).1) else .error 22
theorem Pr (bv n:Nat) (H:VwH) (p:Option Addr) (cs:List PC) (c:Nat) (w:World) (h:B0 w bv (It H).toArray 215) (ha:H.args=.slice p cs.length c) (hr:AG KE w p cs) (hn:n<=100) (hl:cs.length<=100) :
  Calls Tryz.prog 193 #[ptV bv,Af (n:Int)] w (GZ 35 (UA cs n) (λl v w'=>AL w w'/\AD ivL 3 w.heap.size w' v l) (λw'=>AL w w')):=by
 obtain ⟨s,fo,sa,pa,cl,it,lo,te,li,ar,its⟩:=H
 simp only at ha
 subst ha
 have ad:=hr.lt
 refine Ar func193 rfl ntmps193 ?_
 have G:=CN w
 refine A4<|A9 rfl<|A4<|A3 rfl<|A1 (.nck rfl)<|A1 (.fa CJ rfl Cr dD rfl)<|Ah (Ae (Dv _) rfl h rfl)<|A1 (.lenS C2 rfl)<|A3 rfl<|A1 (.eql rfl rfl)<|C1 BK rfl rfl ((Gg _ _)) (λk3 w1 u d=>?_) (λa2 w1 u d=>?_)
 have T:=Ej G (Below.mono d G.size)
 obtain ⟨d,rfl⟩:=Fp u
 exact Bt (GN 22 (by unfold UA;rw [A2 (λhc=>by simp only [Bo] at d;exact d oO)]) T)
 have aa:=h.bl d
 have ab:=DW hr d (λa=>hr.lt a)
 have ac:=Ci G d
 have aB:cs.length=n:=by (have:=Xf u);simp only [AF] at this;omega
 refine A0<|A4<|A3 rfl<|?_
 have U:=ac.size
 refine A5x (n) IX A17 rfl rfl rfl oO rfl (λw7 ae y=>?_)
 have aC:=aa.below y aa.lt
 have aD:=DW ab y (λa=>ab.lt a)
 have af:=Ci ac y
 refine A9 rfl<|Ad<|A4<|A3 rfl<|A1 (.nck rfl)<|A1 (.fa CJ rfl Cr dD rfl)<|Ah (Ae (Dv _) rfl aC rfl)<|A1 (.lenS C2 rfl)<|A3 rfl<|A0<|AO<|BM (α:=Value × Nat) (λt=>[(0,ptV bv),(5,t.1),(23,.slice p cs.length c),(24,Af (cs.length:Int)),(25,Af (t.2:Int))]) (λt w'=>AL w w'/\AG KE w' p cs/\CP 3 w.heap.size w' t.1 (((cs.take t.2).map λx=>(Qc x.kind x.n).1).map LZ)/\t.2<=cs.length/\∀ j (h:j<cs.length),j<t.2->(Qc cs[j].kind cs[j].n).2=true) (λt=>cs.length-t.2) ((_,0)) ⟨rfl,rfl,rfl,rfl,rfl,tT⟩ (⟨af,aD,ZE ae U,FI _,λj _ h=>De h oO⟩) (λt w1 hR=>?_)
 obtain ⟨⟨sv,i⟩,aE⟩:=eX t
 subst aE
 obtain ⟨q1,V,X,q4,q5⟩:=hR
 simp only at X q4 q5
 have ag:w.heap.size<=w1.heap.size:=q1.size
 have ah:=A3X X
 refine A4<|A1 (.lss rfl rfl)<|A0<|Ad<|Ai rfl (λJ=>?_) (λJ=>?_)
 have ai:=dT J
 refine Ap<|Ad<|AO<|A4<|A1 (.ixm C2 CU rfl rfl (V.isp oO) (i) (rfl) oO)<|Ah (Dz Ay rfl Al V (i) oO rfl)<|Bj Cz rfl (λaP aN B Y f aJ=>?_)
 have a0:=C9 ag f.size
 have aj:=DC X B f
 have E:=λa=>B▸V.lt a
 have ak:=AG.upd V f (λa=>CR (E a))
 have am:=uB q1 B f
 refine Ax rfl rfl Y Al rfl rfl (λaQ a1 k aK=>?_)
 have a3:=C9 a0 k.size
 have an:=CP.upd aj k ((λg hg e=>by have:=(ah g hg).2;omega))
 have K:=AG.upd ak k (λa=>CR (E a))
 have ao:=BU am oO k
 refine A0<|A4<|Ah (Bk rfl a1 Ay rfl Al)<|Ao (OA cs[i] _) (λaR o=>?_)
 have a4:=C9 a3 o.size
 have ap:=CP.below an o
 have L:=DW K o (λa=>K.lt a)
 have C:=Ci ao o
 refine A3 rfl<|A1 (.ext rfl rfl)<|A1 (.ext rfl rfl)<|Ct rfl<|A9 rfl<|A4<|A3 rfl<|C1 BK rfl rfl ((Gg _ _)) (λaS aF q b=>?_) (λaT aF q b=>?_)
 have N:=Ej C (Below.mono b C.size)
 obtain ⟨aG,rfl⟩:=Fp q
 exact Bt (GN 22 (by unfold UA;rw [A2 (λhc=>by have:=AN.1 hc.2 _ (AA (by omega:i<cs.length));rw [aG] at this;cases this)]) N)
 have a5:=C9 a4 b.size
 have aq:=CP.below ap b
 have P:=DW L b (λa=>L.lt a)
 have au:=Ci C b
 have aH:=Xf q
 refine A0<|Am<|A3 rfl<|A3 rfl<|Cs (ps:=_) IX Bw Yj rfl rfl rfl rfl rfl pR rfl (λaU aO D a6 m aL=>?_)
 have a7:=C9 a5 m.size
 have av:=DC aq D m
 have a8:=λa=>D▸P.lt a
 have aw:=AG.upd P m (λa=>CR (a8 a))
 have ax:=uB au D m
 refine Ew IX A17 rfl rfl rfl av rfl a6 rfl (by rw [By,By,At];omega) (a7) rfl (λaV aW a9 F aM=>?_)
 have ay:=DW aw F ad
 have az:=Ej ax (F.mono (DP _))
 refine A9 rfl<|Am<|A1 (.iis (((i+1:Nat):Int)) (.add rfl rfl (Ba oO)) oO)<|A3 rfl<|A0<|?_
 exact ⟨(_,i+1),⟨rfl,rfl,rfl,rfl,rfl,tT⟩,⟨az,ay,by rw [Bg oO,E9,E9];exact a9,oM,λj h hj=>by
  rcases Ig.1 hj with h2 | rfl;exact q5 j h h2;exact aH⟩,oM⟩
 have ai:=dF J
 refine BF<|A4<|A3 rfl<|A9 rfl<|AW ?_
 have aA:i=cs.length:=by omega
 subst aA
 have aI:UA cs n=.ok (cs.map λx=>(Qc x.kind x.n).1):=by
  unfold UA;rw [A7 ⟨aB,AN.2 λx hx=>by
   obtain ⟨j,hj,rfl⟩:=List.mem_iff_getElem.1 hx;exact q5 j hj hj⟩]
 have Q:=X
 rw [An (DP _)] at Q
 exact JC _ _ aI rfl ⟨q1,AD.ofI Q⟩
end
section
def JZ:l8_:=[37,80,68,70,45,49,46,52,10]
def A1t:l8_:=[32,48,32,111,98,106,10]
def Qx:l8_:=[10,101,110,100,111,98,106,10]
def Fl:l8_:=[32,48,48,48,48,48,32,110,32,10]
def E7:l8_:=[48,48,48,48,48,48,48,48,48,48,32,54,53,53,51,53,32,102,32,10]
def Tv:l8_:=[120,114,101,102,10,48,32]
def LJ:l8_:=[116,114,97,105,108,101,114,10,60,60,32,47,82,111,111,116,32,49,32,48,32,82,32,47,83,105,122,101,32]
def Ph:l8_:=[32,62,62,10,115,116,97,114,116,120,114,101,102,10]
def XY:l8_:=[10,37,37,69,79,70,10]
def Ha (n:Nat):l8_:=List.replicate (10-(B7 n).length) 48++B7 n
theorem Kv {n:Nat} (h:n<10000000000):(Ha n).length=10:=by
 have a:=DB 9 n oO
 simp only [Ha,A8,CT];omega
def Z2 (l:l8_):Nat:=l.foldl (λa c=>10 * a+(c.toNat-48)) 0
theorem KK (l m:l8_):Z2 (l++m)=m.foldl (λa c=>10 * a+(c.toNat-48)) (Z2 l):=by simp [Z2,List.foldl_append]
theorem Nx (k:Nat) (h:k<10):(ch (48+k)).toNat=48+k:=by
 have:∀ k:Nat,k<10->(ch (48+(k:Int))).toNat=48+k:=by decide
 exact this k h
theorem KJ:∀ (n:Nat),Z2 (B7 n)=n:=by
  intro n
  induction n using Nat.strongRecOn with
  | _ n ih =>
    by_cases h:n<10
    · rw [En n h]
      show 10 * 0+((ch (48+n)).toNat-48)=n
      rw [Nx n h];omega
    · rw [IP n oO, KK, ih (n / 10) oO]
      show 10 * (n / 10)+((ch (48+(n % 10:Nat))).toNat-48)=n
      rw [Nx (n % 10) oO];omega
theorem Wt (k:Nat):Z2 (List.replicate k (48:UInt8))=0:=by
 induction k with
 | zero=>rfl
 | succ k ih=>rw [List.replicate_succ',KK,ih];rfl
theorem A0I (n:Nat):Z2 (Ha n)=n:=by
 unfold Ha
 rw [KK,Wt]
 exact KJ n
theorem IA:∀ (n:Nat),∀ c∈B7 n,48<=c.toNat/\c.toNat<=57:=by
  intro n
  induction n using Nat.strongRecOn with
  | _ n ih =>
    intro c hc
    by_cases h:n<10
    · rw [En n h] at hc
      simp only [B8] at hc
      subst hc
      rw [Nx n h];omega
    · rw [IP n oO] at hc
      rcases B9.1 hc with a | a
      · exact ih (n / 10) oO c a
      · simp only [B8] at a
        subst a
        rw [Nx (n % 10) oO];omega
theorem A2O (n:Nat):∀ c∈Ha n,48<=c.toNat/\c.toNat<=57:=λc hc=>by
 rcases B9.1 hc with h | h
 · rw [List.eq_of_mem_replicate h];decide
 · exact IA n c h
def MG (i:Nat) (t:l8_):l8_:=B7 (i+1)++A1t++t++Qx
def Ez:Nat->List (l8_)->l8_
 | _,[]=>[]
 | i,t::ts=>MG i t++Ez (i+1) ts
def Ds:Nat->Nat->List (l8_)->List Nat
 | _,_,[]=>[]
 | n,i,t::ts=>n::Ds (n+(MG i t).length) (i+1) ts
def E4 (n:Nat):l8_:=Ha n++Fl
def EI (ps:List Nat):l8_:=E7++ps.flatMap E4
theorem K0 {n:Nat} (h:n<10000000000):(E4 n).length=20:=by
 simp only [E4,A8,Kv h];rfl
theorem Hl:∀ (ts:List (l8_)) (n i:Nat),(Ds n i ts).length=ts.length
 | [],_,_=>rfl
 | _::ts,n,i=>by simp only [Ds,Aa,Hl ts]
theorem Q3:∀ (ts:List (l8_)) (A X:l8_) (i j:Nat) (hj:j<ts.length),
  ∃ (hp:j<(Ds A.length i ts).length) (R:l8_),(A++(Ez i ts++X)).drop ((Ds A.length i ts)[j])=MG (i+j) ts[j]++R/\(Ds A.length i ts)[j]+(MG (i+j) ts[j]).length<=A.length+(Ez i ts).length
 | [],_,_,_,j,hj=>by cases hj
 | t::ts,A,X,i,0,hj=>⟨by simp [Ds],Ez (i+1) ts++X,by
   simp only [Ds,Ez,F5,AS,Nat.add_zero]
   rw [List.drop_left],by simp only [Ds,Ez,F5,A8,Nat.add_zero];omega⟩
 | t::ts,A,X,i,j+1,hj=>by
  obtain ⟨hp,R,h1,h2⟩:=Q3 ts (A++MG i t) X (i+1) j (by simpa using hj)
  rw [A8] at hp
  refine ⟨by simpa [Ds] using hp,R,?_,?_⟩
  ·
   simp only [Ds,Ez,Em,AS] at h1 ⊢
   simp only [A8] at h1
   rw [h1,show i+1+j=i+(j+1) by omega]
  ·
   simp only [Ds,Ez,Em,A8] at h2 ⊢
   rw [show i+(j+1)=i+1+j by omega]
   omega
theorem QK:∀ (ts:List (l8_)) (i:Nat) (t:l8_),Ez i (ts++[t])=Ez i ts++MG (i+ts.length) t
 | [],i,t=>by simp [Ez]
 | x::ts,i,t=>by simp only [Bb,Ez,QK ts (i+1) t,Aa,AS];rw [show i+1+ts.length=i+(ts.length+1) by omega]
theorem OB:∀ (ts:List (l8_)) (n i:Nat) (t:l8_),Ds n i (ts++[t])=Ds n i ts++[n+(Ez i ts).length]
 | [],n,i,t=>by simp [Ds,Ez]
 | x::ts,n,i,t=>by simp only [Bb,Ds,OB ts (n+(MG i x).length) (i+1) t,Ez,A8];rw [A5Q]
theorem TZ (ps:List Nat) (p:Nat):EI (ps++[p])=EI ps++E4 p:=by simp [EI,List.flatMap_append]
theorem Ls:∀ (ts:List (l8_)) (n i:Nat),∀ p∈Ds n i ts,p<=n+(Ez i ts).length
 | [],_,_,p,h=>by cases h
 | x::ts,n,i,p,h=>by
  simp only [Ds,A6] at h
  simp only [Ez,A8]
  rcases h with rfl | h
  · omega
  · have:=Ls ts _ _ p h;omega
def EH (ts:List (l8_)):l8_ :=
 JZ++(Ez 0 ts++(Tv++(B7 (ts.length+1)++(10::(EI (Ds 9 0 ts)++(LJ++(B7 (ts.length+1)++(Ph++(B7 (9+(Ez 0 ts).length)++XY)))))))))
end
section
theorem YG (d:Nat) (o r:l8_):D9 d o (41::r)=if d=1 then some (o,r) else D9 (d-1) (o++[41]) r:=by rw [D9.eq_def];rfl
theorem RY (d:Nat) (o r:l8_) (e:UInt8):D9 d o (92::e::r)=D9 d (o++(HZ e r).1) (HZ e r).2:=by rw [D9.eq_def];rfl
theorem SX (d:Nat) (o r:l8_) (c:UInt8) (h1:c≠40) (h2:c≠41) (h3:c≠92) (h4:c≠13):D9 d o (c::r)=D9 d (o++[c]) r:=by
 rw [D9.eq_def];simp only;rw [A2 h1,A2 h2,A2 h3,A2 h4]
theorem A2K (r:l8_):Mv (40::r)=GC (D9 1 [] r):=rfl
def NY (c:UInt8):l8_:=[92,ch (48+(c.toNat:Int) / 64),ch (48+(c.toNat:Int) / 8 % 8),ch (48+(c.toNat:Int) % 8)]
theorem A1x:∀ (c:UInt8) (r:l8_),HZ (ch (48+(c.toNat:Int) / 64)) (ch (48+(c.toNat:Int) / 8 % 8)::ch (48+(c.toNat:Int) % 8)::r)=([c],r):=by
 intro c r
 have hc:c.toNat<256:=Cg c
 have d:((ch (48+(c.toNat:Int) / 64)).toNat:Int)=48+(c.toNat:Int) / 64:=IS _ oO oO
 have f:((ch (48+(c.toNat:Int) / 8 % 8)).toNat:Int)=48+(c.toNat:Int) / 8 % 8:=IS _ oO oO
 have g:((ch (48+(c.toNat:Int) % 8)).toNat:Int)=48+(c.toNat:Int) % 8:=IS _ oO oO
 rw [Tx _ oO oO]
 have a:OP (ch (48+(c.toNat:Int) / 8 % 8))=true:=by simp only [OP,AE,AF];omega
 have b:OP (ch (48+(c.toNat:Int) % 8))=true:=by simp only [OP,AE,AF];omega
 simp only [MF,a,b,if_true]
 have e:((8 * (8 * ((ch (48+(c.toNat:Int) / 64)).toNat-48)+((ch (48+(c.toNat:Int) / 8 % 8)).toNat-48))+((ch (48+(c.toNat:Int) % 8)).toNat-48)) % 256:Nat)=c.toNat:=by omega
 rw [e]
 simp only [CA,and_true,A2y]
 exact UInt8.toNat_inj.1 (by have:=IS (c.toNat:Int) oO oO;omega)
def CD:l8_:=[48,49,50,51,52,53,54,55,56,57,97,98,99,100,101,102,65,66,67,68,69,70]
end
section
def Fq:List Nat->Nat
 | []=>0
 | x::r=>x * 10 ^ r.length+Fq r
theorem A2D (d:List Nat) (h:∀ x∈d,x<10):Fq d<10 ^ d.length:=by
 induction d with
 | nil=>simp [Fq]
 | cons x r ih =>
  have a:=ih λy hy=>h y (by simp [hy])
  have b:=h x (by simp)
  rw [Fq,Aa,Nat.pow_succ]
  have c:x * 10 ^ r.length<=9 * 10 ^ r.length:=D4 _ oO
  omega
theorem On (a b:List Nat):Fq (a++b)=Fq a * 10 ^ b.length+Fq b:=by
 induction a with
 | nil=>simp [Fq]
 | cons x r ih =>
  rw [Bb,Fq,Fq,ih,A8,Nat.pow_add,Nat.add_mul,Nat.mul_assoc,A5Q]
theorem Pt (k:Nat):Fq (List.replicate k 0)=0:=by
 induction k with
 | zero=>rfl
 | succ k ih=>rw [List.replicate_succ,Fq,ih];simp
theorem Y2 (d:List Nat):Fq (I5 d).1+(I5 d).2 * 10 ^ d.length=2 * Fq d:=by
 induction d with
 | nil=>rfl
 | cons x r ih =>
  have hl:=Pj r
  simp only [I5,Fq,hl,Aa,Nat.pow_succ]
  have a:(2 * x+(I5 r).2) % 10+10 * ((2 * x+(I5 r).2) / 10)=2 * x+(I5 r).2:=Nat.mod_add_div _ _
  have b:((2 * x+(I5 r).2) % 10) * 10 ^ r.length+(2 * x+(I5 r).2) / 10 * (10 ^ r.length * 10)=(2 * x+(I5 r).2) * 10 ^ r.length:=by
   conv=>rhs;rw [<- a,Nat.add_mul]
   rw [Nat.mul_comm (10 ^ r.length) 10,<- Nat.mul_assoc,Nat.mul_comm _ 10]
  have c:(2 * x+(I5 r).2) * 10 ^ r.length=2 * (x * 10 ^ r.length)+(I5 r).2 * 10 ^ r.length:=by rw [Nat.add_mul,Nat.mul_assoc]
  omega
theorem W1 (k:Nat):∀ (n:Int) (d:List Nat),(Fi k n d).2.length=d.length:=by
 induction k with
 | zero=>intro n d;rfl
 | succ k ih=>intro n d;rw [Fi,ih,Pj]
theorem W0 (k:Nat):∀ (n:Nat) (d:List Nat),∃ m:Nat,(Fi k (n:Int) d).1=(m:Int)/\m * 10 ^ d.length+Fq (Fi k (n:Int) d).2=2 ^ k * (n * 10 ^ d.length+Fq d):=by
 induction k with
 | zero=>intro n d;exact ⟨n,rfl,by simp [Fi]⟩
 | succ k ih =>
  intro n d
  obtain ⟨m,b,a⟩:=ih (2 * n+(I5 d).2) (I5 d).1
  rw [Pj] at a
  have hv:=Y2 d
  have hc:((2 * n+(I5 d).2:Nat):Int)=2 * (n:Int)+((I5 d).2:Int):=by omega
  rw [Fi,<- hc]
  refine ⟨m,b,a.trans ?_⟩
  rw [Nat.pow_succ,Nat.mul_assoc]
  congr 1
  rw [Nat.add_mul,Nat.mul_assoc]
  omega
theorem Qe (l:l8_):Cv l=Fq (BE l):=by
 have key:∀ (l:l8_) (n:Nat),l.foldl (λn c=>10 * n+(c.toNat-48)) n=n * 10 ^ l.length+Fq (BE l):=by
  intro l
  induction l with
  | nil=>intro n;simp [BE,Fq]
  | cons c r ih =>
   intro n
   have hl:(BE r).length=r.length:=Eu r
   have hd:BE (c::r)=(c.toNat-48)::BE r:=rfl
   rw [EO,ih,hd,Fq,hl,Aa,Nat.pow_succ,Nat.add_mul,Nat.mul_comm 10 n,Nat.mul_assoc,Nat.mul_comm 10 (10 ^ r.length),A5Q]
 have:=key l 0
 rw [Nat.zero_mul,Do] at this
 exact this
theorem Wa (W R:l8_) (N f:Nat) (hW:∀ c∈W,BW c=true) (hN:Cv W=N) (hN5:N<=99999) (hR:∀ c∈R,BW c=true) (hv:Fq (BE R) * 65536=f * 10 ^ R.length) :
  Wb W R=some ((N * 65536+f:Nat):Int):=by
 have ht:¬ 5<(W.dropWhile (· == 48)).length:=λh=>by have:=(Yq W hW).1 h;omega
 unfold Wb
 rw [A2 ht,Qf,hN]
 obtain ⟨m,k,j⟩:=W0 16 N (BE R)
 have hd:=Ra 16 (N:Int) (BE R) (OL R hR)
 have hl:=W1 16 (N:Int) (BE R)
 have d:=A2D _ hd
 rw [Eu] at j hl
 rw [hl] at d
 have g:=Y2 (Fi 16 (N:Int) (BE R)).2
 rw [hl] at g
 generalize (Fi 16 (N:Int) (BE R)).2=D at *
 generalize hP:10 ^ R.length=P at *
 have i:0<P:=by rw [<- hP];exact Nat.pow_pos dD
 have e:m * P+Fq D=(N * 65536+f) * P:=by
  rw [j,Nat.add_mul,<- hv]
  have:(2:Nat) ^ 16=65536:=by decide
  rw [this,Nat.mul_add,<- Nat.mul_assoc,Nat.mul_comm 65536 N,Nat.mul_comm 65536 (Fq _)]
 have hm:m=N * 65536+f:=by
  have a:(m * P+Fq D) / P=m:=by rw [Nat.mul_comm,Nat.mul_add_div i,Nat.div_eq_of_lt d];rfl
  have b:((N * 65536+f) * P) / P=N * 65536+f:=Nat.mul_div_cancel _ i
  rw [<- a,e,b]
 have hD:Fq D=0:=by rw [hm] at e;omega
 have hc:(I5 D).2=0:=by
  rw [hD] at g
  rcases IB (I5 D).2 with h | h
  · exact h
  · have:=D4 P h;omega
 rw [k,hc,hm,Int.natCast_zero,Int.add_zero]
theorem Qp (k:Nat) (h:k<10):BW (ch (48+(k:Int)))=true/\(ch (48+(k:Int))).toNat=48+k:=by
 have e:(ch (48+(k:Int))).toNat=48+k:=by
  unfold ch
  rw [show (48+(k:Int)).toNat=48+k by omega,UInt8.toNat_ofNat']
  omega
 exact ⟨by unfold BW;rw [e,AP (show 48<=48+k by omega),AP (show 48+k<=57 by omega)];rfl,e⟩
theorem Zk (k:Nat):∀ f:Nat,k<=16->f<65536->2 ^ (16-k) ∣ f->(∀ c∈Gf k f,BW c=true)/\Fq (BE (Gf k f)) * 65536=f * 10 ^ (Gf k f).length:=by
 induction k with
 | zero =>
  intro f _ hf hd
  obtain ⟨c,hc⟩:=hd
  have:f=0:=by simp at hc;omega
  subst this
  exact ⟨by simp [Gf],by simp [Gf,BE,Fq]⟩
 | succ k ih =>
  intro f hk hf hd
  rw [Gf]
  split
  · next h=>subst h;exact ⟨by simp,by simp [BE,Fq]⟩
  ·
   have b:2 ^ (16-k) ∣ f * 10:=by
    have e:16-k=(16-(k+1))+1:=by omega
    rw [e,Nat.pow_succ]
    exact Nat.mul_dvd_mul hd ⟨5,rfl⟩
   have d:2 ^ (16-k) ∣ 65536:=by
    rw [show (65536:Nat)=2 ^ 16 from rfl]
    exact Nat.pow_dvd_pow 2 oO
   obtain ⟨g,i⟩:=ih (f * 10 % 65536) oO oO ((Nat.dvd_mod_iff d).2 b)
   obtain ⟨c1,j⟩:=Qp (f * 10 / 65536) oO
   refine ⟨λc hc=>?_,?_⟩
   ·
    rcases A6.1 hc with rfl | hc
    · exact c1
    · exact g c hc
   ·
    have a:BE (ch (48+((f * 10 / 65536:Nat):Int))::Gf k (f * 10 % 65536))=(f * 10 / 65536)::BE (Gf k (f * 10 % 65536)):=by
     show (_-48)::_=_
     rw [j];congr 1;omega
    rw [a,Fq,Eu,Aa,Nat.pow_succ]
    generalize Fq (BE (Gf k (f * 10 % 65536)))=V at *
    generalize 10 ^ (Gf k (f * 10 % 65536)).length=P at *
    have hm:=Nat.mod_add_div (f * 10) 65536
    generalize f * 10 % 65536=r at *
    generalize f * 10 / 65536=q at *
    rw [Nat.add_mul,i,Nat.mul_comm P 10,<- Nat.mul_assoc,<- hm,Nat.add_mul,Nat.mul_right_comm,Nat.mul_comm q 65536]
    omega
theorem Zj (f:Nat) (h:f<65536):(∀ c∈HX f,BW c=true)/\Fq (BE (HX f)) * 65536=f * 10 ^ (HX f).length :=
 Zk 16 f oO h (by simp)
theorem Ja (n:Nat):(∀ c∈B7 n,BW c=true)/\Cv (B7 n)=n/\B7 n≠[]:=by
  induction n using Nat.strongRecOn with
  | _ n ih =>
    by_cases h:n<10
    · rw [En n h]
      obtain ⟨c1,a⟩:=Qp n h
      exact ⟨by simpa using c1,by simp [Cv,a],by simp⟩
    · rw [IP n oO]
      obtain ⟨b,d,e⟩:=ih (n / 10) oO
      obtain ⟨c1,a⟩:=Qp (n % 10) oO
      refine ⟨λc hc=>?_,?_,by simp⟩
      · rcases B9.1 hc with hc | hc
        · exact b c hc
        · rw [B8.1 hc];exact c1
      · rw [Qg,d,a];omega
theorem Ki (a b:l8_):BE (a++b)=BE a++BE b:=by simp [BE]
theorem KX (k:Nat):BE (List.replicate k 48)=List.replicate k 0:=by simp [BE]
theorem Yn (R:l8_) (f k:Nat) (h:Fq (BE R) * 65536=f * 10 ^ R.length):Fq (BE (R++List.replicate k 48)) * 65536=f * 10 ^ (R++List.replicate k 48).length:=by
 rw [Ki,KX,On,Pt,Nat.add_zero,A8,CT,CT,Nat.pow_add,<- Nat.mul_assoc,<- h,Nat.mul_right_comm]
theorem UF (k:Nat) (W:l8_):Cv (List.replicate k 48++W)=Cv W:=by
 rw [Qe,Qe,Ki,KX,On,Pt,Nat.zero_mul,Do]
theorem SB (k:Nat) (c:UInt8) (h:c∈List.replicate k (48:UInt8)):BW c=true:=by
 rw [List.mem_replicate] at h;rw [h.2];rfl
def R9 (m:Option Bool):l8_:=match m with | none=>[] | some true=>[45] | some false=>[43]
def neg (m:Option Bool):Bool:=match m with | some true=>true | _=>false
theorem Oq (m:Option Bool) (l:l8_) (h:∀ c r,l=c::r->BW c=true):B6 (R9 m++l)=(neg m,l):=by
 match m with
 | some true=>rfl
 | some false=>rfl
 | none =>
  cases l with
  | nil=>rfl
  | cons c r=>exact U1 c r (h c r rfl)
theorem A1d (W X:l8_) (hW:∀ c∈W,BW c=true) (h0:W≠[]):∀ c r,W++X=c::r->BW c=true:=by
 intro c r e
 cases W with
 | nil=>exact De rfl h0
 | cons d W =>
  simp only [Bb,A2y] at e
  rw [<- e.1];exact hW d (by simp)
theorem A0K (W:l8_) (hW:∀ c∈W,BW c=true):46 ∉ W:=λh=>De (hW 46 h) dD
theorem A0U (W R:l8_) (hW:∀ c∈W,BW c=true) (hR:∀ c∈R,BW c=true) (h0:W≠[]):GK (W++46::R)=true:=by
 have hl:0<W.length:=List.length_pos_iff.2 h0
 unfold GK
 rw [K3 R W (A0K W hW)]
 simp only [AE,AN,AF]
 exact ⟨⟨hW,hR⟩,oO⟩
theorem Wq (m:Option Bool) (W R:l8_) (N f:Nat) (hW:∀ c∈W,BW c=true) (h0:W≠[]) (hR:∀ c∈R,BW c=true) (hN:Cv W=N) (hN5:N<=99999)
  (hv:Fq (BE R) * 65536=f * 10 ^ R.length) (hfit:Cy (if neg m then -((N * 65536+f:Nat):Int) else ((N * 65536+f:Nat):Int))=true) :
  KF (R9 m++(W++46::R))=(if neg m then -((N * 65536+f:Nat):Int) else ((N * 65536+f:Nat):Int),true):=by
 rw [Z0,Oq m _ (A1d W _ hW h0)]
 simp only
 rw [A0U W R hW hR h0,A7 rfl,K3 R W (A0K W hW)]
 simp only
 rw [Wa W R N f hW hN hN5 hR hv]
 unfold VO
 simp only [hfit,if_true]
theorem Yz (n:Int):Kf n=R9 (if n<0 then some true else none):=by unfold Kf R9;split <;> rfl
theorem A53 (n:Int):(if neg (if n<0 then some true else none) then -((n.natAbs / 65536 * 65536+n.natAbs % 65536:Nat):Int) else ((n.natAbs / 65536 * 65536+n.natAbs % 65536:Nat):Int))=n:=by
 have h:n.natAbs / 65536 * 65536+n.natAbs % 65536=n.natAbs:=by omega
 rw [h]
 by_cases hn:n<0
 · rw [A7 hn];simp only [neg,if_true];omega
 · rw [A2 hn];simp only [neg,C5,if_false];omega
theorem PQ (n:Int):∃ R,HR n=R9 (if n<0 then some true else none)++(H6 n++46::R)/\R≠[]/\R.length<=16/\(∀ c∈R,BW c=true)/\Fq (BE R) * 65536=(n.natAbs % 65536) * 10 ^ R.length:=by
  obtain ⟨a,b⟩:=Zj (n.natAbs % 65536) oO
  unfold HR
  rw [Yz]
  by_cases h0:Jq n=[]
  · refine ⟨[48], by rw [A7 h0]; simp, by simp, by simp, by simp; decide, ?_⟩
    rw [(NQ n).1 h0];simp [BE,Fq]
  · refine ⟨Jq n,by rw [A2 h0];simp,h0,Jy _,a,b⟩
theorem JL (n:Int) (h1:-2147483648<=n) (h2:n<=2147483647):(∀ c∈H6 n,BW c=true)/\H6 n≠[]/\Cv (H6 n)=n.natAbs / 65536/\n.natAbs / 65536<=99999/\(H6 n).length<=5:=by
 obtain ⟨a,b,c⟩:=Ja (n.natAbs / 65536)
 exact ⟨a,c,b,oO,DB 4 _ oO⟩
theorem Wp (m:Option Bool) (n:Int) (a k:Nat) (h1:-2147483648<=n) (h2:n<=2147483647) (R:l8_) (hR:∀ c∈R,BW c=true) (hv:Fq (BE R) * 65536=(n.natAbs % 65536) * 10 ^ R.length) (hm:neg m=decide (n<0)) :
  KF (R9 m++((List.replicate a 48++H6 n)++46::(R++List.replicate k 48)))=(n,true):=by
 obtain ⟨b,d,e,f,g⟩:=JL n h1 h2
 have hn:(if neg m then -((n.natAbs / 65536 * 65536+n.natAbs % 65536:Nat):Int) else ((n.natAbs / 65536 * 65536+n.natAbs % 65536:Nat):Int))=n:=by
  have:=A53 n
  rw [hm]
  by_cases h:n<0
  · rw [A7 h] at this;rw [AP h];exact this
  · rw [A2 h] at this;rw [AJ h];exact this
 rw [Wq m _ _ (n.natAbs / 65536) (n.natAbs % 65536) (λc hc=>(B9.1 hc).elim (SB a c) (b c)) (by simp [d]) (λc hc=>(B9.1 hc).elim (hR c) (SB k c)) (by rw [UF,e]) f (Yn R _ k hv) (by rw [hn];exact LG h1 h2),hn]
end
section
inductive AV where
 | mk (kind n:Int) (text:l8_) (keys:List (l8_)) (list:List AV) (data:l8_)
def AV.kind:AV->Int | .mk k _ _ _ _ _=>k
def AV.n:AV->Int | .mk _ n _ _ _ _=>n
def AV.text:AV->l8_ | .mk _ _ t _ _ _=>t
def AV.keys:AV->List (l8_) | .mk _ _ _ ks _ _=>ks
def AV.list:AV->List AV | .mk _ _ _ _ l _=>l
def AV.data:AV->l8_ | .mk _ _ _ _ _ d=>d
mutual
/-- an object without its data -/
def JI:AV->PV
 | .mk k n t ks l _=>.mk k n t ks (Js l)
def Js:List AV->List PV
 | []=>[]
 | o::r=>JI o::Js r
end
theorem GF:∀ l:List AV,Js l=l.map JI
 | []=>by simp [Js]
 | o::r=>by rw [Js,GF r];rfl
def GJ (c:UInt8):Bool:=decide (c.toNat<33) || decide (126<c.toNat) || c == 35 || Hs c
def P9 (c:UInt8):l8_:=if GJ c then [35,CD[c.toNat / 16]!,CD[c.toNat % 16]!] else [c]
def Vr (s:l8_):l8_:=47::s.flatMap P9
def VF (c:UInt8):l8_:=if c=40\/c=41\/c=92 then [92,c] else if c.toNat<32\/126<c.toNat then NY c else [c]
def txT (s:l8_):l8_:=40::(s.flatMap VF++[41])
def Gq (d:l8_):l8_:=[32,47,76,101,110,103,116,104,32]++EK (d.length:Int)++[32,62,62,10,115,116,114,101,97,109,10]++d++[10,101,110,100,115,116,114,101,97,109]
mutual
/-- an object as it is written -/
def Dd:AV->l8_
 | .mk k n t ks l d =>
  if k=0 then [110,117,108,108]
  else if k=1 then (if n=1 then [116,114,117,101] else [102,97,108,115,101])
  else if k=2 then EK n
  else if k=3 then HR (norm n)
  else if k=4 then Vr t
  else if k=5 then txT t
  else if k=8 then EK n++[32,48,32,82]
  else if k=6 then 91::((FS l).drop 1++[93])
  else 60::60::(IW ks l++(if k=7 then [32,62,62] else Gq d))
/-- objects,each with a blank ahead -/
def FS:List AV->l8_
 | []=>[]
 | o::r=>32::(Dd o++FS r)
/-- names and objects,each with a blank ahead -/
def IW:List (l8_)->List AV->l8_
 | k::ks,o::r=>32::(Vr k++32::(Dd o++IW ks r))
 | _,_=>[]
end
theorem JQ:∀ a b:List AV,FS (a++b)=FS a++FS b
 | [],b=>by simp [FS]
 | o::r,b=>by rw [Bb,FS,FS,JQ r b];simp
theorem Ul (a:List AV) (o:AV):FS (a++[o])=FS a++32::Dd o:=by rw [JQ];simp [FS]
theorem Uj:∀ (ks:List (l8_)) (l:List AV) (k:l8_) (o:AV),ks.length=l.length->IW (ks++[k]) (l++[o])=IW ks l++32::(Vr k++32::Dd o)
 | [],[],k,o,_=>by simp [IW]
 | a::ks,b::l,k,o,h=>by
  have:=Uj ks l k o (by simpa using h)
  simp only [Bb,IW,this]
  simp
def KL (s:l8_):Prop:=s≠[]/\0 ∉ s/\s.length<=127
inductive FY:Int->Bool->AV->Prop
 | null (D:Int) (st:Bool):FY D st (.mk 0 0 [] [] [] [])
 | bool (D:Int) (st:Bool) (n:Int) (h:n=0\/n=1):FY D st (.mk 1 n [] [] [] [])
 | num (D:Int) (st:Bool) (k n:Int) (hk:k=2\/k=3) (h:Cy n=true):FY D st (.mk k n [] [] [] [])
 | name (D:Int) (st:Bool) (t:l8_) (h:KL t):FY D st (.mk 4 0 t [] [] [])
 | text (D:Int) (st:Bool) (t:l8_) (h:t.length<=65535):FY D st (.mk 5 0 t [] [] [])
 | ref (D:Int) (st:Bool) (n:Int) (h:1<=n/\n<=4096):FY D st (.mk 8 n [] [] [] [])
 | arr (D:Int) (st:Bool) (l:List AV) (hD:1<=D) (hl:l.length<=65535) (h:∀ o∈l,FY (D-1) false o):FY D st (.mk 6 0 [] [] l [])
 | dict (D:Int) (st:Bool) (k:Int) (ks:List (l8_)) (l:List AV) (d:l8_) (hk:(k=7/\d=[])\/(k=9/\st=true/\d.length<=1048576/\[76,101,110,103,116,104] ∉ ks)) (hD:1<=D) (hl:l.length<=65535) (hkl:ks.length=l.length)
   (hn:∀ x∈ks,KL x) (hnd:ks.Nodup) (h:∀ o∈l,FY (D-1) false o):FY D st (.mk k 0 [] ks l d)
theorem N7  {o:AV} (h:FY D false o):o.kind≠9:=by
 cases h with
 | null=>simp [AV.kind]
 | bool _ _ n h=>simp [AV.kind]
 | num _ _ k n hk h=>rcases hk with rfl | rfl <;> simp [AV.kind]
 | name _ _ t h=>simp [AV.kind]
 | text _ _ t h=>simp [AV.kind]
 | ref _ _ n h=>simp [AV.kind]
 | arr _ _ l hD hl h=>simp [AV.kind]
 | dict _ _ k ks l d hk hD hl hkl hn hnd h=>rcases hk with ⟨rfl,-⟩ | ⟨-,h,-⟩;simp [AV.kind];cases h
mutual
/-- how many lists are within one another -/
def NG:AV->Nat
 | .mk k _ _ _ l _=>if k=6\/k=7 then OK l+1 else 0
def OK:List AV->Nat
 | []=>0
 | o::r=>max (NG o) (OK r)
end
mutual
/-- how many values and letters -/
def SH:AV->Nat
 | .mk _ _ t ks l d=>t.length+Vu ks+Vh l+d.length+7
def Vh:List AV->Nat
 | []=>0
 | o::r=>SH o+Vh r
def Vu:List (l8_)->Nat
 | []=>0
 | k::r=>k.length+1+Vu r
end
theorem Td (c:UInt8):(P9 c).length<=3:=by unfold P9;split <;> simp
theorem Xk (c:UInt8):(VF c).length<=4:=by unfold VF NY;split <;> (try split) <;> simp
theorem flat_len {f:UInt8->l8_} {k:Nat} (hf:∀ c,(f c).length<=k):∀ s:l8_,(s.flatMap f).length<=k * s.length
 | []=>by simp
 | c::s=>by
  have h1:=hf c;have h2:=flat_len hf s
  rw [DD,A8,Aa,Nat.mul_add,Nat.mul_one];omega
theorem KZ (n:Int) (h:-9223372036854775808<=n) (h':n<=9223372036854775807):(EK n).length<=21:=by
 have:=JF n h h'
 rwa [BV] at this
theorem YI (n:Int):(HR (norm n)).length<=40:=by
 have a:(Kf (norm n)).length<=1:=by unfold Kf;split <;> simp
 have b:(H6 (norm n)).length<=20:=by have:=Om (norm n) (XC n) (XD n);rwa [BV] at this
 have c:(Jq (norm n)).length<=16:=Jy _
 unfold HR
 simp only [A8,Aa]
 split <;> simp <;> omega
theorem LH {n:Int} (h:Cy n=true):-2147483648<=n/\n<=2147483647:=by simpa [Cy] using h
theorem O1 {n:Int} (h:Cy n=true):norm n=n:=by unfold norm;rw [A7 h]
theorem Xx:∀ l:List AV,(∀ o∈l,(Dd o).length+100<=40 * SH o)->(FS l).length<=40 * Vh l
 | [],_=>by simp [FS]
 | o::r,h=>by
  have h1:=h o (by simp)
  have h2:=Xx r λx hx=>h x (by simp [hx])
  rw [FS,Vh,Aa,A8];omega
theorem Xw:∀ (ks:List (l8_)) (l:List AV),(∀ o∈l,(Dd o).length+100<=40 * SH o)->(IW ks l).length<=40 * Vh l+40 * Vu ks
 | k::ks,o::r,h=>by
  have h1:=h o (by simp)
  have h2:=Xw ks r λx hx=>h x (by simp [hx])
  have h3:=flat_len Td k
  simp only [IW,Vh,Vu,Vr,Aa,A8];omega
 | [],_,_=>by simp [IW]
 | _::_,[],_=>by simp [IW]
theorem A0x  {o:AV} (h:FY D st o):(Dd o).length+100<=40 * SH o:=by
 induction h with
 | null D st=>simp [Dd,SH,Vu,Vh]
 | bool D st n h=>rcases h with rfl | rfl <;> simp [Dd,SH,Vu,Vh]
 | num D st k n hk h =>
  have hf:=LH h
  have a:=KZ n oO oO
  have b:=YI n
  rcases hk with rfl | rfl <;> simp [Dd,SH,Vu,Vh] <;> omega
 | name D st t h =>
  have a:=flat_len Td t
  have e:Dd (.mk 4 0 t [] [] [])=Vr t:=by simp [Dd]
  rw [e,SH,Vu,Vh]
  simp only [Vr,Aa,Ak];omega
 | text D st t h =>
  have a:=flat_len Xk t
  have e:Dd (.mk 5 0 t [] [] [])=txT t:=by simp [Dd]
  rw [e,SH,Vu,Vh]
  simp only [txT,Aa,A8,Ak];omega
 | ref D st n h =>
  have a:=KZ n oO oO
  simp [Dd,SH,Vu,Vh];omega
 | arr D st l hD hl h ih =>
  have a:=Xx l ih
  simp [Dd,SH,Vu];omega
 | dict D st k ks l d hk hD hl hkl hn hnd h ih =>
  have a:=Xw ks l ih
  have b:d.length<=1048576:=by rcases hk with ⟨-,rfl⟩ | h;simp;exact h.2.2.1
  have c:=KZ (d.length:Int) oO oO
  rcases hk with ⟨rfl,rfl⟩ | ⟨rfl,-⟩
  · simp [Dd,SH];omega
  · simp [Dd,SH,Gq];omega
end
section
def P3 (r:l8_):Prop:=∀ c r',r=c::r'->Da c=false
theorem P3.cons {c:UInt8} {r:l8_} (h:Da c=false):P3 (c::r):=λc' r' e=>by cases e;exact h
theorem SR  {r:l8_} (hA:∀ x∈A,Da x=true) (hr:P3 r):(A++r).takeWhile Da=A:=by
 induction A with
 | nil =>
  cases r with
  | nil=>rfl
  | cons c r=>rw [C4,List.takeWhile_cons,hr c r rfl];rfl
 | cons a A ih=>rw [Bb,List.takeWhile_cons,hA a (by simp),A7 rfl,ih λx hx=>hA x (by simp [hx])]
theorem A5m  {r:l8_} (hA:∀ x∈A,Da x=true) (hr:P3 r):(A++r).dropWhile Da=r:=by
 induction A with
 | nil =>
  cases r with
  | nil=>rfl
  | cons c r=>rw [C4,List.dropWhile_cons,hr c r rfl];rfl
 | cons a A ih=>rw [Bb,List.dropWhile_cons,hA a (by simp),A7 rfl,ih λx hx=>hA x (by simp [hx])]
section
variable {l:l8_} {t:Nat}
theorem GA  {r:l8_} (ht:t<=l.length) (h:l.drop t=A++r) (hA:∀ x∈A,Da x=true) (hr:P3 r):Dr l t=A/\BA l t=l.length-r.length/\l.drop (BA l t)=r:=by
 have a:Dr l t=A:=by rw [Pp,h,SR hA hr]
 have hl:=BJ List.length h
 rw [Au,A8] at hl
 have b:BA l t=t+A.length:=by unfold BA;rw [h,SR hA hr]
 refine ⟨a,oO,?_⟩
 rw [b,<- E2,h,List.drop_left]
theorem Ii {x:l8_} (h:DG false (l.drop t)=x):B4 false l t=l.length-x.length/\l.drop (B4 false l t)=x:=⟨by unfold B4;rw [h],by rw [HM,h]⟩
end
theorem EP {c:UInt8} {r:l8_} (h:CV c=false) (h37:c≠37):DG false (c::r)=c::r:=by simp [DG,h,h37]
theorem IF (r:l8_):DG false (32::r)=DG false r:=by simp [DG,CV]
theorem K7 {q:UInt8->Prop} [DecidablePred q] (key:∀ n:Fin 256,q (UInt8.ofNat n.1)) (c:UInt8):q c:=by
 have h:=key ⟨c.toNat,Cg c⟩
 have e:UInt8.ofNat (⟨c.toNat,Cg c⟩:Fin 256).1=c:=UInt8.ofNat_toNat
 rw [e] at h
 exact h
theorem A3e (c:UInt8):∀ x∈P9 c,Da x=true:=K7 (q:=λc=>∀ x∈P9 c,Da x=true) (by decide +kernel) c
theorem A3f (c:UInt8):(GJ c=true->P9 c=[35,CD[c.toNat / 16]!,CD[c.toNat % 16]!]/\DY CD[c.toNat / 16]!<16/\DY CD[c.toNat % 16]!<16/\ch ((16 * DY CD[c.toNat / 16]!+DY CD[c.toNat % 16]! : Nat):Int)=c)/\(GJ c=false->P9 c=[c]/\c≠35) :=
 K7 (q:=λc=>(GJ c=true->P9 c=[35,CD[c.toNat / 16]!,CD[c.toNat % 16]!]/\DY CD[c.toNat / 16]!<16/\DY CD[c.toNat % 16]!<16/\ch ((16 * DY CD[c.toNat / 16]!+DY CD[c.toNat % 16]! : Nat):Int)=c)/\(GJ c=false->P9 c=[c]/\c≠35)) (by decide +kernel) c
theorem SE:∀ s:l8_,Mb (s.flatMap P9)=some s
 | []=>rfl
 | c::s=>by
  have ih:=SE s
  have hd:=A3f c
  rw [DD]
  cases hn:GJ c with
  | true =>
   obtain ⟨h1,h2,h3,h4⟩:=hd.1 hn
   rw [h1]
   show Mb (35::CD[c.toNat / 16]! :: CD[c.toNat % 16]! :: s.flatMap P9)=_
   rw [JE,A7 rfl]
   simp only
   rw [A7 ⟨h2,h3⟩,ih,h4];rfl
  | false =>
   obtain ⟨h1,h2⟩:=hd.2 hn
   rw [h1]
   show Mb (c::s.flatMap P9)=_
   rw [JE,A2 h2,ih];rfl
theorem A0Q (s:l8_):∀ x∈s.flatMap P9,Da x=true:=λx hx=>by
 obtain ⟨c,-,hc⟩:=List.mem_flatMap.1 hx
 exact A3e c x hc
theorem UG  {t:Nat} {r:l8_} (ht:t<=l.length) (h:l.drop t=s.flatMap P9++r) (hs:KL s) (hr:P3 r):J8 l t=.ok (s,l.length-r.length):=by
 obtain ⟨a,b,-⟩:=GA ht h (A0Q s) hr
 unfold J8
 rw [a,SE]
 simp only
 rw [A2 (λh=>h.elim hs.1 hs.2.1),A2 (by have:=hs.2.2;omega),b]
theorem SW (c:UInt8) (o r:l8_):D9 1 o (VF c++r)=D9 1 (o++[c]) r:=by
 unfold VF
 split
 ·
  next h =>
  show D9 1 o (92::c::r)=_
  rw [RY]
  have he:HZ c r=([c],r):=by rcases h with rfl | rfl | rfl <;> rfl
  rw [he]
 ·
  next h =>
  split
  ·
   show D9 1 o (92::ch (48+(c.toNat:Int) / 64)::ch (48+(c.toNat:Int) / 8 % 8)::ch (48+(c.toNat:Int) % 8)::r)=_
   rw [RY,A1x]
  ·
   next h2 =>
   exact SX _ _ _ _ (λe=>h (.inl e)) (λe=>h (.inr (.inl e))) (λe=>h (.inr (.inr e))) (λe=>by subst e;exact h2 (.inl dD))
theorem Ot:∀ (s o r:l8_),D9 1 o (s.flatMap VF++r)=D9 1 (o++s) r
 | [],o,r=>by simp
 | c::s,o,r=>by rw [DD,AS,SW,Ot s];simp
theorem A07  {t:Nat} {r:l8_} (ht:t<=l.length) (h:l.drop t=txT s++r) (hs:s.length<=65535):Ku l t=.ok (s,l.length-r.length):=by
 have hl:=BJ List.length h
 have hN:G0 l (t:Int)=⟨6,0,s,((l.length-r.length:Nat):Int),0⟩:=by
  unfold G0
  rw [A2 oO]
  rw [show (t:Int).toNat=t from rfl,h,show txT s++r=40::(s.flatMap VF++(41::r)) by simp [txT],A2K,Ot,YG,A7 rfl]
  simp only [GC,C4]
  rw [A2 oO]
  rfl
 unfold Ku
 rw [hN]
 simp
theorem JD (n:Int) (h:Cy n=true):∃ m:Option Bool,∃ W:l8_,EK n=R9 m++W/\neg m=decide (n<0)/\(∀ c∈W,BW c=true)/\W≠[]/\Cv W=n.natAbs/\W.length<=10:=by
 have hf:=LH h
 obtain ⟨a,b,c⟩:=Ja n.natAbs
 have hl:=DB 9 n.natAbs oO
 unfold EK
 by_cases hn:n<0
 · exact ⟨some true,B7 n.natAbs,by rw [A7 hn];rfl,by rw [AP hn];rfl,a,c,b,oO⟩
 · exact ⟨none,B7 n.natAbs,by rw [A2 hn];rfl,by rw [AJ hn];rfl,a,c,b,oO⟩
theorem TA (c:UInt8) (h:BW c=true):Da c=true:=K7 (q:=λc=>BW c=true->Da c=true) (by decide +kernel) c h
theorem Xp (m:Option Bool):∀ x∈R9 m,Da x=true:=by
 match m with
 | none=>exact λx hx=>by cases hx
 | some true=>exact λx hx=>by simp [R9] at hx;subst hx;decide
 | some false=>exact λx hx=>by simp [R9] at hx;subst hx;decide
theorem Xq (m:Option Bool) {x:UInt8} (h1:x≠45) (h2:x≠43):x ∉ R9 m:=by
 match m with
 | none=>exact λh=>by cases h
 | some true=>simp [R9];exact h1
 | some false=>simp [R9];exact h2
theorem Pi (n:Int) (h:Cy n=true):∀ x∈EK n,Da x=true:=by
 obtain ⟨m,W,e,-,hW,-⟩:=JD n h
 rw [e]
 exact λx hx=>(B9.1 hx).elim (Xp m x) λhx=>TA x (hW x hx)
theorem A3I (n:Int) (h:Cy n=true):FO (EK n)=H8 n:=by
 obtain ⟨m,W,e,hm,hW,d,hv,hl⟩:=JD n h
 have hf:=LH h
 have hs:(R9 m).length<=1:=by match m with
  | none=>simp [R9]
  | some true=>simp [R9]
  | some false=>simp [R9]
 have hr:J5 (EK n)=false:=by
  unfold J5
  rw [TC 35 _ (by rw [e];exact λhx=>(B9.1 hx).elim (Xq m dD dD) λhx=>De (hW 35 hx) dD)]
  rfl
 rw [SU _ (by rw [e,A8];omega) hr]
 have hw:FM (EK n)=(n,true):=by
  unfold FM
  rw [e,Oq m W λc r hc=>hW c (by rw [hc];simp)]
  simp only
  have f:(W.isEmpty || !W.all BW)=false:=by
   rw [AN.2 hW]
   cases W with
   | nil=>exact De rfl d
   | cons a b=>rfl
  rw [f]
  simp only [C5,if_false]
  rw [U4,hv,hm]
  have g:(min n.natAbs 1099511627776)=n.natAbs:=by omega
  rw [g]
  have i:(if decide (n<0)=true then -(n.natAbs:Int) else (n.natAbs:Int))=n:=by
   by_cases hn:n<0
   · rw [AP hn,A7 rfl];omega
   · rw [AJ hn,A2 dD];omega
  rw [i]
  simp [hf]
 rw [hw];rfl
theorem A1F (n:Int) (h:Cy n=true):(EK n).contains 46=false:=by
 obtain ⟨m,W,e,-,hW,-⟩:=JD n h
 cases hc:(EK n).contains 46 with
 | false=>rfl
 | true =>
  rw [List.contains_iff_mem,e] at hc
  exact De hc λhx=>(B9.1 hx).elim (Xq m dD dD) λhx=>De (hW 46 hx) dD
theorem A5o (n:Int) (h:Cy n=true):(EK n).all Ox=true:=by
 obtain ⟨m,W,e,-,hW,-⟩:=JD n h
 rw [AN,e]
 intro x hx
 rcases B9.1 hx with hx | hx
 ·
  match m with
  | none=>cases hx
  | some true=>simp [R9] at hx;subst hx;decide
  | some false=>simp [R9] at hx;subst hx;decide
 · unfold Ox;rw [hW x hx];rfl
theorem A0H (n:Int) (h:Cy n=true):Nj (EK n)=(2,n,true):=by
 unfold Nj
 rw [A1F n h,A3I n h,A5o n h]
 rfl
theorem PP (n:Int) (h:Cy n=true):JS (HR n)=(n,true)/\(HR n).contains 46=true/\(∀ x∈HR n,Da x=true):=by
 have hf:=LH h
 obtain ⟨a,b,c,d,f⟩:=JL n hf.1 hf.2
 obtain ⟨R,e,g,rl,hR,hv⟩:=PQ n
 have hm:neg (if n<0 then some true else none)=decide (n<0):=by split <;> simp_all [neg]
 refine ⟨?_,?_,?_⟩
 ·
  unfold JS
  have hs:(R9 (if n<0 then some true else none)).length<=1:=by split <;> simp [R9]
  rw [A2 (by rw [e];simp only [A8,Aa];omega),e]
  have:=Wp (if n<0 then some true else none) n 0 0 hf.1 hf.2 R hR hv hm
  simpa using this
 · rw [List.contains_iff_mem,e];simp
 ·
  rw [e]
  intro x hx
  rcases B9.1 hx with hx | hx
  · exact Xp _ x hx
  ·
   rcases B9.1 hx with hx | hx
   · exact TA x (a x hx)
   ·
    rcases A6.1 hx with rfl | hx
    · decide
    · exact TA x (hR x hx)
theorem Nw (n:Int) (h:Cy n=true):∃ c r,EK n=c::r/\(BW c=true\/c=45\/c=43):=by
 obtain ⟨m,W,e,-,hW,b,-⟩:=JD n h
 cases W with
 | nil=>exact De rfl b
 | cons a W =>
  match m with
  | none=>exact ⟨a,W,e,.inl (hW a (by simp))⟩
  | some true=>exact ⟨45,a::W,e,.inr (.inl rfl)⟩
  | some false=>exact ⟨43,a::W,e,.inr (.inr rfl)⟩
theorem S3 (n:Int) (h:Cy n=true):∃ c r,HR n=c::r/\(BW c=true\/c=45\/c=43):=by
 have hf:=LH h
 obtain ⟨b,d,-⟩:=JL n hf.1 hf.2
 obtain ⟨R,e,-⟩:=PQ n
 by_cases hn:n<0
 · rw [A7 hn] at e;exact ⟨45,_,e,.inr (.inl rfl)⟩
 ·
  rw [A2 hn] at e
  cases hw:H6 n with
  | nil=>exact De hw d
  | cons a W=>rw [hw] at e;exact ⟨a,_,e,.inl (b a (by rw [hw];simp))⟩
end
section
theorem V8 {c:UInt8} (h:48<=c.toNat/\c.toNat<=57):Da c=true :=
 K7 (q:=λc=>48<=c.toNat/\c.toNat<=57->Da c=true) (by decide +kernel) c h
theorem U9 {c:UInt8} (h:Da c=true):CV c=false/\c≠37 :=
 K7 (q:=λc=>Da c=true->CV c=false/\c≠37) (by decide +kernel) c h
theorem Ij:∀ (B:l8_) (x:l8_),(∀ c∈B,CV c=true)->DG false (B++x)=DG false x
 | [],_,_=>rfl
 | c::B,x,h=>by
  have hc:=h c (by simp)
  have h37:c≠37:=λe=>by subst e;revert hc;decide
  rw [Bb,<- Ij B x λd hd=>h d (by simp [hd])]
  simp [DG,hc,h37]
theorem Qa  {t:Nat} {B r:l8_} (h:l.drop t=B++(A++r)) (hB:∀ c∈B,CV c=true) (hA:A≠[]) (hAr:∀ c∈A,Da c=true) (hr:P3 r) :
  Dr l (B4 false l t)=A/\BA l (B4 false l t)=l.length-r.length/\l.drop (BA l (B4 false l t))=r/\B4 false l t<l.length:=by
 obtain ⟨c,A',rfl⟩:=List.exists_cons_of_ne_nil hA
 have hc:=U9 (hAr c (by simp))
 have hs:DG false (l.drop t)=(c::A')++r:=by rw [h,Ij B _ hB,Bb,EP hc.1 hc.2]
 obtain ⟨e,b⟩:=Ii hs
 have a:=GA (Ec false l t) b hAr hr
 refine ⟨a.1,a.2.1,a.2.2,?_⟩
 rw [e]
 have d:=BJ List.length b
 rw [Au] at d
 simp only [A8,Aa] at d ⊢
 omega
theorem Od (n:Nat):B7 n≠[]:=by
 by_cases h:n<10
 · rw [En n h];simp
 · rw [IP n oO];simp
theorem Oc (n:Nat):∀ c∈B7 n,Da c=true:=λc hc=>V8 (IA n c hc)
theorem ZJ {c:UInt8} {r:l8_} (h:CV c=true):P3 (c::r):=P3.cons (by simp [Da,h])
theorem A1D  {t n:Nat} {r:l8_} (hn:n<10000000000) (h:l.drop t=E4 n++r) :
  t+20<=l.length/\(l.drop t).take 10=Ha n/\((l.drop t).drop 10).take 10=Fl/\l.drop (t+20)=r:=by
 have a:=Kv hn
 have b:=BJ List.length h
 rw [Au,A8,K0 hn] at b
 refine ⟨oO,?_,?_,?_⟩
 · rw [h,E4,AS,<- a,List.take_left]
 · rw [h,E4,AS,<- a,List.drop_left,a];rfl
 · rw [<- E2,h,<- K0 hn,List.drop_left]
end
section
open Go.RowKit Go.ChangeMaps Go.MapKept
structure Dt (P:Program) (k e:TypeId) (w:World) (b n:Nat) (g:Int->Option Int) (c:Nat):Prop where
 ex:∃ D:DataW Unit,w.ownsMap P k (plainElem P e) b n D/\Maps.size D=c/\∀ a,(Lit.int .i64 a).wf=true->Maps.has D (.int .i64 a)=(g a).isSome/\D.atKey (.int .i64 a) (.lit (.int .i64 0))=.lit (.int .i64 ((g a).getD 0))
section
variable {P:Program} {k e t:TypeId} {w w1:World} {b n c:Nat} {g:Int->Option Int}
theorem Dt.lt (h:Dt P k e w b n g c):b<w.heap.size:=by obtain ⟨D,a,-⟩:=h.ex;exact a.lt
theorem Dt.same (h:Dt P k e w b n g c) (hs:∀ j,j=b->j<w.heap.size->w1.heap[j]?=w.heap[j]?):Dt P k e w1 b n g c:=by
 obtain ⟨D,⟨es,clock,a,d⟩,f⟩:=h.ex
 exact ⟨D,⟨es,clock,(hs b rfl (Bd.1 a).1).trans a,d⟩,f⟩
theorem ZG (w:World):Dt P k e (w.alloc (.map #[] 0)) w.heap.size 0 (λ_=>none) 0 :=
 ⟨.map [],World.ownsMap_made w P k _,rfl,λa _=>⟨rfl,rfl⟩⟩
theorem Dt.look (h:Dt P k e w b n g c) (ok:Bool) (hk:P.underlying k=some (.int .i64)) (he:P.underlying e=some (.int .i64)) (ht:P.underlying t=some (.map k e)) (hz:(zeroValue e).run P w=.ok (.int .i64 0) w)
 (ha:(Lit.int .i64 a).wf=true):(Instr.lookup t (.map (some b)) (.int .i64 a) ok).run P w=.ok (if ok then .tuple #[.int .i64 ((g a).getD 0),.bool (g a).isSome] else .int .i64 ((g a).getD 0)) w:=by
 obtain ⟨D,i,-,m⟩:=h.ex
 obtain ⟨o,j⟩:=m a ha
 cases ok with
 | true =>
  obtain ⟨v,ps,f,d⟩:=i.look_ok (Maps.int_keyed hk) ht hz (plainElem_int he dD) (Maps.keyOf_int_mk hk ha)
  rw [j] at d
  obtain ⟨x,rfl,l,-⟩:=plainElem_int_inv he d
  simp only [CA,DataW.lit.injEq,Lit.int.injEq,true_and] at l
  rw [f,o,l.1];rfl
 | false =>
  obtain ⟨x,f,d,-⟩:=i.lookup_int (Maps.int_keyed hk) ht he hz (Maps.keyOf_int_mk hk ha)
  rw [j] at d
  simp only [DataW.lit.injEq,Lit.int.injEq,true_and] at d
  rw [f,d];rfl
theorem Dt.put (h:Dt P k e w b n g c) (hk:P.underlying k=some (.int .i64)) (he:P.underlying e=some (.int .i64)) (ht:P.underlying t=some (.map k e)) (hn:n<1000000000)
 {v:Int} (ha:(Lit.int .i64 a).wf=true) (hv:(Lit.int .i64 v).wf=true):∃ w1,(Instr.mapUpdate t (.map (some b)) (.int .i64 a) (.int .i64 v)).run P w=.ok () w1 /\
      Dt P k e w1 b (n+1) (λx=>if x=a then some v else g x) (if (g a).isSome then c else c+1)/\CK b w w1/\w1.heap.size=w.heap.size:=by
  obtain ⟨D,i,m,l⟩:=h.ex
  have hT:=i.tidy (Maps.int_keyed hk)
  obtain ⟨w1,o,s,f⟩:=i.store (Maps.int_keyed hk) ht (by unfold maxLen;omega) (Maps.keyOf_int_mk hk ha) (plainElem_int (H:=Unit) he hv)
  refine ⟨w1,o,⟨_,s,?_,λx hx=>?_⟩,?_,?_⟩
  · rw [Maps.size_put hT,(l a ha).1,m]
  · by_cases hxa : x = a
    · subst hxa
      rw [Maps.has_put_same hT.isMap (by trivial),Maps.atKey_put_same hT.isMap (by trivial)]
      simp
    · have d : Lit.int .i64 x ≠ Lit.int .i64 a := fun q => hxa (by cases q; rfl)
      rw [Maps.has_put_other d,Maps.atKey_put_other d]
      simp only [A2 hxa]
      exact l x hx
  · have hg := f.grown
    exact ⟨hg.os,hg.tape,hg.output,hg.size,λj hj=>by
      rcases Bu j w.heap.size with hl | hl
      · exact hg.block j hl (λq=>hj (by cases q;rfl))
      · obtain ⟨es, ck, es', ck', hb, rfl⟩ := f
        simp only [setBlock]
        rw [Array.getElem?_setIfInBounds_ne (λq=>hj q.symm)]⟩
  · obtain ⟨es, ck, es', ck', hb, rfl⟩ := f
    simp [setBlock]
end
section
variable {P:Program} {n:Sh} {f:Fr}
theorem A23  {rest:List Oper} {d ty:Nat} {t:TypeId} (k e:TypeId) (hd:Nat.blt d n.n=true)
  (hk:∀ b w1,b=w.heap.size->Dt P k e w1 b 0 (λ_=>none) 0->CK b w w1->w1.heap.size=b+1->WL P n ops Q rest ((d,.map (some b))::f) w1) :
  WL P n ops Q (⟨some d,.makeMap t none,ty,pos,aft,none⟩::rest) f w :=
 WL.run hd (w':=w.alloc (.map #[] 0)) (v:=.map (some w.heap.size)) (λρ _=>by
  simp [execOp,run_makeMap]) (hk _ _ rfl (ZG w) (CK.alloc _ _) (by simp))
theorem A2c  {t k:TypeId} {b m:Nat} {g:Int->Option Int} (h:Dt P k e w b m g c) (hk:P.underlying k=some (.int .i64)) (he:P.underlying e=some (.int .i64)) (ht:P.underlying t=some (.map k e))
  (hz:∀ w,(zeroValue e).run P w=.ok (.int .i64 0) w) (hx:CM f x=some (.map (some b))) (hy:CM f y=some (.int .i64 a)) (ha:(Lit.int .i64 a).wf=true):Rd P (.lookup t x y false) f w (.int .i64 ((g a).getD 0)):=λρ hρ d ty pos aft gd=>by
 simp [execOp,hρ _ _ hx,hρ _ _ hy,h.look false hk he ht (hz w) ha]
theorem A2b  {t k:TypeId} {b m:Nat} {g:Int->Option Int} (h:Dt P k e w b m g c) (hk:P.underlying k=some (.int .i64)) (he:P.underlying e=some (.int .i64)) (ht:P.underlying t=some (.map k e))
  (hz:∀ w,(zeroValue e).run P w=.ok (.int .i64 0) w) (hx:CM f x=some (.map (some b))) (hy:CM f y=some (.int .i64 a)) (ha:(Lit.int .i64 a).wf=true):Rd P (.lookup t x y true) f w (.tuple #[.int .i64 ((g a).getD 0),.bool (g a).isSome]):=λρ hρ d ty pos aft gd=>by
 simp [execOp,hρ _ _ hx,hρ _ _ hy,h.look true hk he ht (hz w) ha]
theorem A22  {rest:List Oper} {ty:Nat} {t k:TypeId} {z:Operand} {b m:Nat} {g:Int->Option Int} {v:Int} (h:Dt P k e w b m g c)
  (hk:P.underlying k=some (.int .i64)) (he:P.underlying e=some (.int .i64)) (ht:P.underlying t=some (.map k e)) (hx:CM f x=some (.map (some b))) (hy:CM f y=some (.int .i64 a)) (hz:CM f z=some (.int .i64 v)) (ha:(Lit.int .i64 a).wf=true) (hv:(Lit.int .i64 v).wf=true) (hm:m<1000000000)
  (kk:∀ w1,Dt P k e w1 b (m+1) (λq=>if q=a then some v else g q) (if (g a).isSome then c else c+1)->CK b w w1->w1.heap.size=w.heap.size->WL P n ops Q rest f w1) :
  WL P n ops Q (⟨none,.mapUpdate t x y z,ty,pos,aft,none⟩::rest) f w:=by
 obtain ⟨w1,d,i,j,l⟩:=h.put hk he ht hm ha hv
 exact QP (w':=w1) (λρ hρ=>by simp [execOp,hρ _ _ hx,hρ _ _ hy,hρ _ _ hz,d]) (kk w1 i j l)
end
end
section
theorem A2W (n:Nat) (w:World) (hn:n<10000000000):Cb 20 #[Af (n:Int)] w (.string (bs (Ha n))):=by
 have hd:EK (n:Int)=B7 n:=by unfold EK;rw [A2 oO];simp
 have hl:=DB 9 n oO
 refine Ar func20 rfl ntmps20 ?_
 have b:=CN w
 refine A4<|A9 rfl<|A4<|A3 rfl<|Ao (Lo n _ oO oO) (λg c=>?_)
 have d:=Ci b c
 rw [hd]
 refine A9 rfl<|Ad<|AO<|BM (α:=Nat) (λt=>[(3,.string (bs (List.replicate t 48++B7 n)))]) (λt w'=>AL w w'/\t+(B7 n).length<=10) (λt=>10-t) (0) ⟨rfl,tT⟩ (⟨d,oO⟩) (λt g hR=>?_)
 obtain ⟨k,rfl⟩:=eX t
 obtain ⟨hT,hk⟩:=hR
 refine Ad<|A4<|A3 rfl<|A1 (.iis ((k+(B7 n).length:Int)) (.len Gk rfl) (by simp))<|A1 (.lss rfl rfl)<|A0<|Ai rfl (λa=>?_) (λa=>?_)
 have f:=dT a
 refine Ap<|AO<|Am<|A3 rfl<|A1 (.cat rfl rfl (by simp only [A8,Aa,Ak,CT];omega))<|A9 rfl ?_
 exact ⟨k+1,⟨rfl,tT⟩,⟨hT,oO⟩,oO⟩
 have f:=dF a
 refine BF<|A4<|A3 rfl<|A9 rfl<|AW ?_
 exact ⟨Ff (by rw [show k=10-(B7 n).length by omega];rfl),hT⟩
theorem CZ (w:World):Calls Tryz.prog 25 #[.bool true] w λe w'=>e=.returned (.tuple #[])/\w=w':=by
 refine Ar func25 rfl ntmps25<|A4<|A3 rfl<|A1 (.not rfl)<|A0<|Aq rfl rfl<|Ap<|Cx (Cd rfl ?_)
 exact ⟨rfl,rfl⟩
theorem IK (p:Option Addr) (l:l8_) (c t:Nat) (w:World) (ht:t<=l.length) (hb:Ag w p l) (hl:l.length<=100000000) :
  Calls Tryz.prog 53 #[.slice p l.length c,Af (t:Int)] w λe w'=>e=.returned (Af (B4 false l t:Int))/\w=w':=by
 have h:=Ju p l c (t:Int) w hb hl
 rwa [KR l t ht] at h
theorem Hi (p:Option Addr) (l:l8_) (c t:Nat) (w:World) (ht:t<=l.length) (hb:Ag w p l) (hc:l.length<=c) (hl:l.length<=100000000) :
  Calls Tryz.prog 50 #[.slice p l.length c,Af (t:Int)] w λe w'=>e=.returned (.tuple #[.string (bs (Dr l t)),Af (BA l t:Int)])/\w=w':=by
 have h:=S9 p l c (t:Int) w hb hc hl
 rwa [KR l t ht] at h
def Jl (p:Option Addr) (l:l8_) (c t:Nat):Array Value:=#[.slice p l.length c,Af (t:Int)]
theorem A2Y (br:Nat) (p:Option Addr) (l:l8_) (c t:Nat) (s:l8_) (w:World) (h:B0 w br (Jl p l c t) 78) (hb:Ag w p l) (hc:l.length<=c) (hl:l.length<=100000000) (ht:t<=l.length)
  (hpb:0<l.length->(pA p).block≠br) (hw:Dr l (B4 false l t)=s) :
  Calls Tryz.prog 52 #[ptV br,.string (bs s)] w λe w'=>e=.returned (.tuple #[])/\AR w.heap.size [br] w w'/\B0 w' br (Jl p l c (BA l (B4 false l t))) 78:=by
 refine Ar func52 rfl ntmps52 ?_
 have k:=AR.refl w.heap.size ([br]) w
 refine Ad<|D6 19 rfl BR (λw'=>w'.heap[br]?=w.heap[br]?/\True) (λy f=>?_)
 have g:=h.drew f
 have i:=hb.drew f
 have m:=Dl k (OS f)
 have a:=Bs (g.trans h.symm) Bi
 refine Ab 0 rfl (.mv rfl) a ?_
 refine Ab 1 rfl (.nck rfl) a ?_
 refine Ab 2 rfl (.fa DE rfl D8 dD rfl) a ?_
 refine BX 3 rfl (λw' hw'=>Ae (g22_ _) rfl ((hw'.1).trans h) rfl) a rfl ?_
 refine Ab 4 rfl (.mv rfl) a ?_
 refine Ab 5 rfl (.nck rfl) a ?_
 refine Ab 6 rfl (.fa DE rfl D8 dD rfl) a ?_
 refine BX 7 rfl (λw' hw'=>Ae (g22_ _) rfl ((hw'.1).trans h) rfl) a rfl ?_
 refine Ab 8 rfl (.mv rfl) a ?_
 refine Ab 9 rfl (.nck rfl) a ?_
 refine Ab 10 rfl (.fa DE rfl Bw dD rfl) a ?_
 refine BX 11 rfl (λw' hw'=>Ae (BZ _) rfl ((hw'.1).trans h) rfl) a rfl ?_
 refine AX 12 rfl<|Ao (IK p l c t _ ht i hl) (λA o=>?_)
 obtain rfl:=o
 refine A0<|⟨a,?_⟩
 refine AX 13 rfl<|Ao (Hi p l c (B4 false l t) _ (Ec _ _ _) i hc hl) (λB q=>?_)
 obtain rfl:=q
 refine A0<|⟨a,?_⟩
 refine Ab 14 rfl (.mv rfl) a ?_
 refine Ab 15 rfl (.ext rfl rfl) a ?_
 refine Ab 16 rfl (.ext rfl rfl) a ?_
 refine Ab 17 rfl (.as rfl) a ?_
 refine Ab 18 rfl (.as rfl) a ?_
 refine BH kR<|A4<|A3 rfl<|A3 rfl<|A1 (.bis (true) (.eqs rfl rfl) (by simp [hw]))<|Ao (CZ _) (λC u=>?_)
 obtain rfl:=u
 refine A0<|Am<|A3 rfl<|A3 rfl<|A1 (.nck rfl)<|A1 (.fa DE rfl Bw dD rfl)<|Br Bw rfl rfl rfl g (by exact Nat.le_of_ble_eq_true rfl) (λv b d x=>?_)
 have b:B0 v br _ _:=b
 have d:CK br _ _:=d
 have j:=Dl m (by exact QY d (by simp))
 refine A0<|Cx (Cd rfl ?_)
 exact ⟨rfl,j,b⟩
theorem KB (p:Option Addr) (s:l8_) (n c:Nat) (w:World) (hn:s.length=n) (hb:Ag w p s) (hl:s.length<=10) (hd:s.all BW=true) :
  Cb 51 #[.slice p n c] w (Af (Cv s:Int)):=by
 subst hn
 have a:=AN.1 hd
 refine Ar func51 rfl ntmps51 ?_
 have g:=CN w
 refine A4<|A9 rfl<|A4<|A3 rfl<|Ah (Fm (l:=s) B1 FK Gk rfl (hb))<|Ao (Nl s [48,49,50,51,52,53,54,55,56,57] _ oO dD dD) (λh b=>?_)
 have d:=DL hb b (λo=>hb.lt o)
 have j:=Ci g b
 refine A1 (.bis (true) (.eqs rfl rfl) (by rw [Px];exact hd))<|Ao (CZ _) (λy k=>?_)
 obtain rfl:=k
 refine A0<|A4<|A9 rfl<|Ad<|A4<|A3 rfl<|A1 (.lenS B1 rfl)<|A3 rfl<|A0<|AO<|BM (α:=Nat) (λt=>[(0,.slice p s.length c),(3,Af (Cv (s.take t):Int)),(11,.slice p s.length c),(12,Af (s.length:Int)),(13,Af (t:Int))]) (λt w'=>h=w'/\t<=s.length) (λt=>s.length-t) (0) ⟨rfl,rfl,rfl,rfl,rfl,tT⟩ (⟨rfl,FI _⟩) (λt h hR=>?_)
 obtain ⟨i,rfl⟩:=eX t
 obtain ⟨rfl,hi⟩:=hR
 refine A4<|A1 (.lss rfl rfl)<|A0<|Ad<|Ai rfl (λf=>?_) (λf=>?_)
 have m:=dT f
 refine Ap<|Ad<|AO<|Ad ?_
 have q:=Ho s i oO
 have u:=Et (a _ (AA (show i<s.length by omega)))
 have v:=HU (s.take i) (λc hc=>a c (Eh hc))
 have x:10 ^ (s.take i).length<=10 ^ 9:=Nat.pow_le_pow_right oO (by rw [At];omega)
 refine Am<|A1 (.ixb B1 EA rfl rfl (d.isp oO) (i) (rfl) oO)<|Ah (Bq (Iz _) rfl (d.cells (i) oO))<|A9 rfl<|Am<|A3 rfl<|A1 (.mul rfl rfl (Ba oO))<|A3 rfl<|A1 (.sub rfl rfl (Pu oO))<|A1 (.cvt FK Mu rfl (Ba oO))<|A1 (.iis ((Cv (s.take (i+1)):Int)) (.add rfl rfl (Ba oO)) oO)<|A9 rfl<|Am<|A1 (.iis (((i+1:Nat):Int)) (.add rfl rfl (Ba oO)) oO)<|A3 rfl<|A0<|?_
 exact ⟨i+1,⟨rfl,rfl,rfl,rfl,rfl,tT⟩,⟨rfl,oM⟩,oM⟩
 have m:=dF f
 refine BF<|Ad ?_
 obtain rfl:i=s.length:=by omega
 rw [Dc]
 refine Am<|A3 rfl<|A9 rfl<|AW ?_
 exact ⟨rfl,j⟩
theorem YJ (br:Nat) (p:Option Addr) (l:l8_) (c t:Nat) (s:l8_) (w:World) (h:B0 w br (Jl p l c t) 78) (hb:Ag w p l) (hc:l.length<=c) (hl:l.length<=100000000) (ht:t<=l.length)
  (hpb:0<l.length->(pA p).block≠br) (hw:Dr l (B4 false l t)=s) (hs:FC s=true) :
  Calls Tryz.prog 75 #[ptV br] w λe w'=>e=.returned (Af (Cv s:Int))/\AR w.heap.size [br] w w'/\B0 w' br (Jl p l c (BA l (B4 false l t))) 78:=by
 have d:=hs
 unfold FC at d
 simp only [AE,AF,BO,Bo] at d
 have j:=AN.1 d.2
 refine Ar func75 rfl ntmps75 ?_
 have H:=AR.refl w.heap.size ([br]) w
 refine A4<|A9 rfl<|Ad<|D6 19 rfl BR (λw'=>w'.heap[br]?=w.heap[br]?/\True) (λV k=>?_)
 have v:=h.drew k
 have x:=hb.drew k
 have J:=Dl H (OS k)
 have a:=Bs (v.trans h.symm) Bi
 refine Ab 0 rfl (.mv rfl) a ?_
 refine Ab 1 rfl (.nck rfl) a ?_
 refine Ab 2 rfl (.fa DE rfl D8 dD rfl) a ?_
 refine BX 3 rfl (λw' hw'=>Ae (g22_ _) rfl ((hw'.1).trans h) rfl) a rfl ?_
 refine Ab 4 rfl (.mv rfl) a ?_
 refine Ab 5 rfl (.nck rfl) a ?_
 refine Ab 6 rfl (.fa DE rfl D8 dD rfl) a ?_
 refine BX 7 rfl (λw' hw'=>Ae (g22_ _) rfl ((hw'.1).trans h) rfl) a rfl ?_
 refine Ab 8 rfl (.mv rfl) a ?_
 refine Ab 9 rfl (.nck rfl) a ?_
 refine Ab 10 rfl (.fa DE rfl Bw dD rfl) a ?_
 refine BX 11 rfl (λw' hw'=>Ae (BZ _) rfl ((hw'.1).trans h) rfl) a rfl ?_
 refine AX 12 rfl<|Ao (IK p l c t _ ht x hl) (λw5 K=>?_)
 obtain rfl:=K
 refine A0<|⟨a,?_⟩
 refine AX 13 rfl<|Ao (Hi p l c (B4 false l t) _ (Ec _ _ _) x hc hl) (λw6 L=>?_)
 obtain rfl:=L
 refine A0<|⟨a,?_⟩
 refine Ab 14 rfl (.mv rfl) a ?_
 refine Ab 15 rfl (.ext rfl rfl) a ?_
 refine Ab 16 rfl (.ext rfl rfl) a ?_
 refine Ab 17 rfl (.as rfl) a ?_
 refine Ab 18 rfl (.as rfl) a ?_
 refine BH kR<|Ad ?_
 rw [hw]
 refine Am<|A3 rfl<|A1 (.bis (true) (.nes rfl rfl) (by simp [d.1.1]))<|A3 rfl<|Az rfl<|A3 rfl<|Az rfl<|A1 (.len Gk rfl)<|Az rfl<|A1 (.bis (true) (.leq rfl rfl) (by simp;omega))<|A1 (.pkT rfl rfl rfl)<|A3 rfl<|Az rfl<|A3 rfl<|Az rfl<|Ao (Nl s [48,49,50,51,52,53,54,55,56,57] _ oO dD dD) (λw7 y=>?_)
 have N:=v.bl y
 have A:=kB J y
 refine Az rfl<|A1 (.bis (true) (.eqs rfl rfl) (by rw [Px];exact d.2))<|A1 (.pkT rfl rfl rfl)<|Ao (CZ _) (λX B=>?_)
 obtain rfl:=B
 refine A0<|A4<|A3 rfl<|A3 rfl<|A1 (.nck rfl)<|A1 (.fa DE rfl Bw dD rfl)<|Br Bw rfl rfl rfl N (by exact Nat.le_of_ble_eq_true rfl) (λP b f T=>?_)
 have b:B0 P br _ _:=b
 have f:CK br _ _:=f
 have m:=Dl A (by exact QY f (by simp))
 refine A0<|A4<|A9 rfl<|Ad<|A4<|A3 rfl<|TG Gk B1 FK rfl rfl (λQ C cz o hz a0 g U=>?_)
 have D:=Bl o b.lt
 have E:=b.un g D
 have q:=CF o m.size
 have F:=Dl m (GT g q)
 refine A1 (.lenS B1 rfl)<|A3 rfl<|A0<|AO<|BM (α:=Nat) (λt=>[(0,ptV br),(5,Af (Cv (s.take t):Int)),(43,.slice (some ⟨Q,0,none⟩) s.length cz),(44,Af (s.length:Int)),(45,Af (t:Int))]) (λt w'=>C=w'/\t<=s.length) (λt=>s.length-t) (0) ⟨rfl,rfl,rfl,rfl,rfl,tT⟩ (⟨rfl,FI _⟩) (λt V hR=>?_)
 obtain ⟨i,rfl⟩:=eX t
 obtain ⟨rfl,hi⟩:=hR
 refine A4<|A1 (.lss rfl rfl)<|A0<|Ad<|Ai rfl (λu=>?_) (λu=>?_)
 have G:=dT u
 refine Ap<|Ad<|AO<|A4<|A1 (.ixb B1 EA rfl rfl (hz.isp oO) (i) (rfl) oO)<|Ah (Bq (Iz _) rfl (hz.cells (i) oO))<|A9 rfl ?_
 have a1:=Ho s i oO
 have a2:=Et (j _ (AA (show i<s.length by omega)))
 have a3:=HU (s.take i) (λc hc=>j c (Eh hc))
 have a4:10 ^ (s.take i).length<=10 ^ 9:=Nat.pow_le_pow_right oO (by rw [At];omega)
 refine Am<|A3 rfl<|A1 (.mul rfl rfl (Ba oO))<|A3 rfl<|A1 (.sub rfl rfl (Pu oO))<|A1 (.cvt FK Mu rfl (Ba oO))<|A1 (.iis ((Cv (s.take (i+1)):Int)) (.add rfl rfl (Ba oO)) oO)<|A9 rfl<|Am<|A1 (.iis (((i+1:Nat):Int)) (.add rfl rfl (Ba oO)) oO)<|A3 rfl<|A0<|?_
 exact ⟨i+1,⟨rfl,rfl,rfl,rfl,rfl,tT⟩,⟨rfl,oM⟩,oM⟩
 have G:=dF u
 refine BF<|Ad ?_
 obtain rfl:i=s.length:=by omega
 rw [Dc]
 refine Am<|A3 rfl<|A9 rfl<|AW ?_
 exact ⟨rfl,F,E⟩
theorem UR (c:UInt8):decide (0<=Lib.indexByte [0,9,10,12,13,32] c)=CV c:=K7 (q:=λc=>decide (0<=Lib.indexByte [0,9,10,12,13,32] c)=CV c) (by decide +kernel) c
theorem YP (br:Nat) (p:Option Addr) (l:l8_) (c t0 k:Nat) (w:World) (h:B0 w br (Jl p l c t0) 78) (hb:Ag w p l) (hl:l.length<=100000000) (hk:0<k) (ht:t0+k<=l.length)
    (hpb:0<l.length->(pA p).block≠br) (hB:∀ j (hj:j<l.length),t0<=j->j<t0+k->CV l[j]=true) (hE:∀ (hj:t0+k<l.length),CV l[t0+k]=false) :
    Calls Tryz.prog 29 #[ptV br] w λe w'=>e=.returned (.tuple #[])/\AR w.heap.size [br] w w'/\B0 w' br (Jl p l c (t0+k)) 78:=by
  refine Ar func29 rfl ntmps29 ?_;have C:=AR.refl w.heap.size ([br]) w;refine A4<|A3 rfl<|A1 (.nck rfl)<|A1 (.fa DE rfl Bw dD rfl)<|Ah (Ae (BZ _) rfl h rfl)<|A9 rfl<|Ad<|AO<|BM (α:=Nat) (λt=>[(0,ptV br),(2,Af (t0:Int))]) (λt w'=>AR w.heap.size [br] w w'/\B0 w' br (Jl p l c t) 78/\Ag w' p l/\t0<=t/\t<=t0+k) (λt=>t0+k-t) (t0) ⟨rfl,rfl,tT⟩ (⟨C,h,hb,DP _,oO⟩) (λt D hR=>?_);obtain ⟨i,rfl⟩:=eX t;obtain ⟨J,d,K,V,X⟩:=hR;refine Ad<|Ad<|D6 24 rfl BR (λw'=>w'.heap[br]?=D.heap[br]?/\Ag w' p l/\True) (λD u=>?_);have a:=d.drew u;have b:=K.drew u;have v:=Dl J (OS u);refine Ab 0 rfl (.mv rfl) ⟨(a).trans (d).symm,b,tT⟩ ?_;refine Ab 1 rfl (.nck rfl) ⟨(a).trans (d).symm,b,tT⟩ ?_;refine Ab 2 rfl (.fa DE rfl Bw dD rfl) ⟨(a).trans (d).symm,b,tT⟩ ?_;refine BX 3 rfl (λw' hw'=>Ae (BZ _) rfl ((hw'.1).trans d) rfl) ⟨(a).trans (d).symm,b,tT⟩ rfl ?_;refine Ab 4 rfl (.mv rfl) ⟨(a).trans (d).symm,b,tT⟩ ?_;refine Ab 5 rfl (.nck rfl) ⟨(a).trans (d).symm,b,tT⟩ ?_;refine Ab 6 rfl (.fa DE rfl D8 dD rfl) ⟨(a).trans (d).symm,b,tT⟩ ?_;refine BX 7 rfl (λw' hw'=>Ae (g22_ _) rfl ((hw'.1).trans d) rfl) ⟨(a).trans (d).symm,b,tT⟩ rfl ?_;refine Ab 8 rfl (.lenS B1 rfl) ⟨(a).trans (d).symm,b,tT⟩ ?_;refine Ab 9 rfl (.lss rfl rfl) ⟨(a).trans (d).symm,b,tT⟩ ?_;refine Ab 10 rfl (.mv rfl) ⟨(a).trans (d).symm,b,tT⟩ ?_;refine A6J (dj:=17) true rfl (λf=>?_) (λf=>?_)
  · have E := dT f
    refine La 11 rfl rfl rfl f (λ_ _=>BG.rd (.mv rfl)) ⟨(a).trans (d).symm,b,tT⟩ rfl ?_;refine La 12 rfl rfl rfl f (λ_ _=>BG.rd (.nck rfl)) ⟨(a).trans (d).symm,b,tT⟩ rfl ?_;refine La 13 rfl rfl rfl f (λ_ _=>BG.rd (.fa DE rfl D8 dD rfl)) ⟨(a).trans (d).symm,b,tT⟩ rfl ?_;refine La 14 rfl rfl rfl f (λw' hw'=>Ae (g22_ _) rfl ((hw'.1).trans d) rfl) ⟨(a).trans (d).symm,b,tT⟩ rfl ?_;refine La 15 rfl rfl rfl f (λ_ _=>BG.rd (.mv rfl)) ⟨(a).trans (d).symm,b,tT⟩ rfl ?_;refine La 16 rfl rfl rfl f (λ_ _=>BG.rd (.nck rfl)) ⟨(a).trans (d).symm,b,tT⟩ rfl ?_;refine La 17 rfl rfl rfl f (λ_ _=>BG.rd (.fa DE rfl Bw dD rfl)) ⟨(a).trans (d).symm,b,tT⟩ rfl ?_;refine La 18 rfl rfl rfl f (λw' hw'=>Ae (BZ _) rfl ((hw'.1).trans d) rfl) ⟨(a).trans (d).symm,b,tT⟩ rfl ?_;refine La 19 rfl rfl rfl f (λ_ _=>BG.rd (.ixb B1 EA rfl rfl (b.isp oO) (i) (rfl) oO)) ⟨(a).trans (d).symm,b,tT⟩ rfl ?_;refine La 20 rfl rfl rfl f (λw' hw'=>Bq (Iz _) rfl ((hw'.2.1).cells (i) oO)) ⟨(a).trans (d).symm,b,tT⟩ rfl ?_;refine AX 21 rfl<|Az f<|Ao (KO [0,9,10,12,13,32] l[i] _) (λw6 F=>?_);obtain rfl:=F;refine A0<|⟨⟨(a).trans (d).symm,b,tT⟩,?_⟩;refine La 22 rfl rfl rfl f (λ_ _=>BG.rd (.geq rfl rfl)) ⟨(a).trans (d).symm,b,tT⟩ rfl ?_;refine Ab 23 rfl (.pkT rfl f rfl) ⟨(a).trans (d).symm,b,tT⟩ ?_;refine BH kR<|Ai rfl (λx=>?_) (λx=>?_)
    · have G := dT x
      have m:CV l[i]=true:=by rw [<- UR];exact AP aS
      have P:i<t0+k:=Nat.lt_of_not_le λq=>by
        have e:i=t0+k:=by omega
        subst e;rw [hE oO] at m;cases m
      refine Ap<|AO<|Am<|A3 rfl<|A1 (.nck rfl)<|A1 (.fa DE rfl Bw dD rfl)<|Ah (Ae (BZ _) rfl a rfl)<|A1 (.iis (((i+1:Nat):Int)) (.add rfl rfl (Ba oO)) oO)<|A1 (.nck rfl)<|A1 (.fa DE rfl Bw dD rfl)<|Br Bw rfl rfl rfl a (by exact Nat.le_of_ble_eq_true rfl) (λL o g N=>?_);have o:B0 L br _ _:=o;have g:CK br _ _:=g;have H:=Ag.upd b g (hpb);have y:=Dl v (by exact QY g (by simp));refine A0<|?_;exact ⟨i+1,⟨rfl,rfl,tT⟩,⟨y,o,H,oO,oO⟩,oO⟩
    have G:=dF x;have Q:i=t0+k:=by
      rcases Bu i (t0+k) with q | q
      · have m := hB i oO oO q
        rw [<- UR] at m;have:=dT m
        omega
      · omega
    refine BF ?_;have s:i=t0+k:=by omega
    subst s;refine Am<|A3 rfl<|A1 (.nck rfl)<|A1 (.fa DE rfl Bw dD rfl)<|Ah (Ae (BZ _) rfl a rfl)<|A3 rfl<|A1 (.bis (true) (.gtr rfl rfl) (by simp;omega))<|Ao (CZ _) (λT A=>?_);obtain rfl:=A;refine A0<|Cx (Cd rfl ?_);exact ⟨rfl,v,a⟩
  have E:=dF f;refine Kk 11 rfl rfl rfl f ⟨(a).trans (d).symm,b,tT⟩ rfl ?_;refine Kk 12 rfl rfl rfl f ⟨(a).trans (d).symm,b,tT⟩ rfl ?_;refine Kk 13 rfl rfl rfl f ⟨(a).trans (d).symm,b,tT⟩ rfl ?_;refine Kk 14 rfl rfl rfl f ⟨(a).trans (d).symm,b,tT⟩ rfl ?_;refine Kk 15 rfl rfl rfl f ⟨(a).trans (d).symm,b,tT⟩ rfl ?_;refine Kk 16 rfl rfl rfl f ⟨(a).trans (d).symm,b,tT⟩ rfl ?_;refine Kk 17 rfl rfl rfl f ⟨(a).trans (d).symm,b,tT⟩ rfl ?_;refine Kk 18 rfl rfl rfl f ⟨(a).trans (d).symm,b,tT⟩ rfl ?_;refine Kk 19 rfl rfl rfl f ⟨(a).trans (d).symm,b,tT⟩ rfl ?_;refine Kk 20 rfl rfl rfl f ⟨(a).trans (d).symm,b,tT⟩ rfl ?_;refine Kk 21 rfl rfl rfl f ⟨(a).trans (d).symm,b,tT⟩ rfl ?_;refine Kk 22 rfl rfl rfl f ⟨(a).trans (d).symm,b,tT⟩ rfl ?_;refine Ab 23 rfl (.pkF rfl f rfl) ⟨(a).trans (d).symm,b,tT⟩ ?_;refine BH kR<|Aq rfl rfl<|BF ?_;have s:i=t0+k:=by omega
  subst s;refine Am<|A3 rfl<|A1 (.nck rfl)<|A1 (.fa DE rfl Bw dD rfl)<|Ah (Ae (BZ _) rfl a rfl)<|A3 rfl<|A1 (.bis (true) (.gtr rfl rfl) (by simp;omega))<|Ao (CZ _) (λU B=>?_);obtain rfl:=B;refine A0<|Cx (Cd rfl ?_);exact ⟨rfl,v,a⟩
end
section
theorem Uc (bf bm m cnt:Nat) (cs:Array Value) (p:Option Addr) (l:l8_) (c:Nat) (g:Int->Option Int) (n a:Int) (w:World) (h:B0 w bf cs 82) (h0:cs[0]?=some (.slice p l.length c)) (h1:cs[1]?=some (.map (some bm)))
  (hm:Dt Tryz.prog 3 3 w bm m g cnt) (hn:(Lit.int .i64 n).wf=true) (hg:g n=some a) (ha:a<=l.length) :
  Calls Tryz.prog 138 #[ptV bf,Af n] w λe w'=>e=.returned (Af a)/\w=w':=by
 refine Ar func138 rfl ntmps138<|A4<|A9 rfl<|A4<|A3 rfl<|A1 (.nck rfl)<|A1 (.fa R6 rfl sizeOf80 dD rfl)<|Ah (Ae (isAgg80 _) rfl h h1)<|A3 rfl<|Ah (A2b hm Mu Mu ZV Yj rfl rfl hn)<|A3 rfl<|A1 (.iis (a) (.ext rfl rfl) (by rw [hg];rfl))<|A1 (.bis (true) (.ext rfl rfl) (by rw [hg];rfl))<|Ct rfl<|A9 rfl<|Ad<|A4<|A3 rfl<|A1 (.not rfl)<|A0<|Aq rfl rfl<|Ap<|A4<|A3 rfl<|A3 rfl<|A1 (.nck rfl)<|A1 (.fa R6 rfl D8 dD rfl)<|Ah (Ae (g22_ _) rfl h h0)<|A1 (.lenS B1 rfl)<|A1 (.bis (true) (.leq rfl rfl) (by simp;omega))<|Ao (CZ _) (λd b=>?_)
 obtain rfl:=b
 refine A0<|A4<|A3 rfl<|A9 rfl<|AW ?_
 exact ⟨rfl,rfl⟩
end
end Go.Proofs.YtiddobdioipidaaGreatDoor
