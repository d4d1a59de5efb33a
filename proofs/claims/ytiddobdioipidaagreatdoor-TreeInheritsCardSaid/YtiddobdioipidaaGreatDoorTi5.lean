/-
  What the claim leans on, part 5: pruned and joined by my own tool out of the texts that stand in wip/ as templates.
-/
import Derived.Test.YtiddobdioipidaaGreatDoorTi4
set_option maxHeartbeats 6400000
set_option maxRecDepth 100000
namespace Go.Proofs.YtiddobdioipidaaGreatDoor
open Go.RowKit
open Go.Proofs.Tryz
variable {pa pb:Addr} {aft:Array Edge} {ops:Array Oper} {ats:Array TypeId} {args cs:Array Value} {st:Bool} {Q:Exit->Fr->World->Prop} {f:Fr} {F:FuncId} {D a:Int} {ks:List (List UInt8)} {ns:List Int} {A d l s:List UInt8} {vs xs:List Value} {B M N bf c i id j wk:Nat} {S T:Nat->Prop} {x y:Operand} {dp kp lp p:Option Addr} {P:Program} {pos:String} {α ι:Type} {E e ta tb tx ty:TypeId} {u v z:Value} {w w' w1:World} {S':World->Prop}
section
def OQ (j:Nat) (t R:l8_):l8_:=B7 (j+1)++(32::48::32::111::98::106::10::(t++(10::(HY++(10::R)))))
theorem Rl (bf:Nat) (S:Nat->Prop) (l:l8_) (ps:List Nat) (j:Nat) (o:AV) (R:l8_) (w:World) (h:AM S w bf l ps) (hl:l.length<=1048576) (hj:j<ps.length) (hpl:ps.length<=4096) (hs:OQ j (Dd o) R <:+ l) (hp:ps[j]=sx l (OQ j (Dd o) R)) (hsnd:FY 32 true o) (h9:o.kind≠9) :
  Calls Tryz.prog 111 #[ptV bf,Af ((j+1:Nat):Int)] w λe w'=>∃ z:AC,e=.returned (.tuple #[.agg (DN z).toArray,Af 0])/\Kp w' (λk=>w.heap.size<=k) z o/\AL w w':=by
 obtain ⟨p,c,bm,y0,hf,-,hb,-,hc,hm,-,-⟩:=h
 have hg:=A0C ps j hj
 have bc:=GD l (OQ j (Dd o) R)
 have s1:(10::(Dd o++(10::(HY++(10::R))))) <:+ l:=DT (A:=[32,48,32,111,98,106]) (DT hs)
 have s2:(10::(HY++(10::R))) <:+ l:=DT (Ek s1)
 have hO:=Tb (B:=[10]) hsnd h9 s1 dD (DF dD) (A3c _ _) (by have:=A4o hsnd;omega)
 obtain ⟨aO,bg,-,-⟩:=Qa (B:=[10]) (A:=HY) (r:=10::R) (EE s2) dD dD dD (DF dD)
 have aP:=A1Y hsnd h9
 have aQ:=T1 hsnd
 refine GQ func111 rfl ntmps111 bL ?_
 have ar:=CN w
 refine WD.seq<|Am<|Bj Cz rfl (λb1 aR a3 a5 J bd=>?_)
 have aS:=Bl a3 hf.lt
 have au:=hf.un J aS
 have a6:=λg=>a3▸hb.lt g
 have av:=Ce hb J a6
 have aw:=uB ar a3 J
 have b5:=CF a3 ar.size
 refine Bj SN rfl (λb8 ax U aC x be=>?_)
 have aD:=Bl U au.lt
 have C:=au.un x aD
 have aE:=Bl U a5.lt
 have ak:=λg=>U▸av.lt g
 have b6:=CF U aw.size
 refine A0<|WD.seq<|A4<|A3 rfl<|A1 (.eqP ZX rfl)<|A0<|Aq rfl rfl<|Ap<|WD.defer rfl rfl<|Nz<|Ad<|A4u [(4,ptV b1),(5,ptV b8)] (λc f w aT h tmps ht=>h tmps (λi u hu=>ht i u (aT.look hu)))<|D6 10 rfl BR (λw'=>w'.heap[bf]?=ax.heap[bf]?/\True) (λaU q=>?_)
 have K:=C.drew q
 have a7:=(a5.un x aE).drew q
 have a8:=aC.drew q
 have X:=(Ce av x ak).drew q
 have v:=Bs (K.trans C.symm) Bi
 refine Ab 0 rfl (.mv rfl) v ?_
 refine Ab 1 rfl (.nck rfl) v ?_
 refine Ab 2 rfl (.fa R6 rfl D8 dD rfl) v ?_
 refine BX 3 rfl (λw' hw'=>Ae (g22_ _) rfl ((hw'.1).trans C) rfl) v rfl ?_
 refine Ab 4 rfl (.mv rfl) v ?_
 refine Ab 5 rfl (.mv rfl) v ?_
 refine AX 6 rfl<|Cm BK rfl rfl ((Uc bf bm _ _ _ p l c (T8 ps) _ ps[j] _ K rfl rfl (Dt.same (w1:=aU) (Dt.same (w1:=ax) (Dt.same (w1:=aR) hm (λk hk hl=>J.other k oO)) (λk hk hl=>x.other k oO)) (λk hk hl=>(by obtain ⟨m,rfl⟩:=q;rfl))) (wfI oO) hg oO)) (λbh aF=>?_)
 obtain rfl:=aF
 refine A0<|⟨v,?_⟩
 refine Ab 7 rfl (.buildL (ps:=_) A1T rfl rfl rfl pS) v ?_
 refine AX 8 rfl ?_
 have am:=(X).lt
 refine WL.box rfl rfl (λD aG E an b b7=>?_)
 have aH:=Bl E K.lt
 have a9:=K.un b aH
 have aI:=Bl E a7.lt
 have aa:=a7.un b aI
 have aJ:=Bl E a8.lt
 have ab:=a8.un b aJ
 have ao:=λg=>E▸X.lt g
 have Z:=Ce X b ao
 have ac:=uB (C6.below (uB aw U x) q) E b
 have aV:B0 aG D (Jl p l c (sx l (OQ j (Dd o) R))) 78:=by rw [<- hp];exact an
 have V:0<l.length->(pA p).block≠D:=λg=>by have:=am g;omega
 refine A0<|⟨⟨(a9).trans (C).symm,tT⟩,?_⟩
 refine Ab 9 rfl (.as rfl) ⟨(a9).trans (C).symm,tT⟩ ?_
 refine BH kR<|A4<|A3 rfl<|A3 rfl<|Cm BK rfl rfl ((Ud D p l c (j+1) oO _ _ aV Z hc oO V hs)) (λbi F=>?_)
 have ad:=B0.keepB aa F.1 aa.lt (by simp only [A6,A5,As,not_or,Ac];omega)
 have ae:=B0.keepB ab F.1 ab.lt (by simp only [A6,A5,As,not_or,Ac];omega)
 have a0:=Ag.keepB Z F.1 (λg=>⟨Z.lt g,by simpa using (V) g⟩)
 have af:=Ej ac (AR.below F.1 ac.size (by simp <;> omega))
 have ay:=F.2
 refine A0<|A4<|A3 rfl<|?_
 have aW:=(ay).lt
 refine Bf BK rfl rfl ((Xt D p l c _ _ _ _ ay a0 hc oO V hO)) (λy aX s=>?_)
 have aY:=s.2.2
 have aZ:=(s.1).mono (T:=λk=>w.heap.size<=k/\k≠b1/\k≠b8/\k≠D/\k<aX.heap.size) (λk hk a'=>⟨oO,oO,oO,oO,a'⟩)
 refine Ax rfl rfl (B0.keepB ad s.2.1 ad.lt (by simp only [A6,A5,As,not_or,Ac];omega)) Al rfl rfl (λaz ap d b9=>?_)
 have G:=aY.upd d oM
 refine A0<|Ad<|Ad<|Lb<|D6 19 rfl BR (λw'=>w'.heap[D]?=az.heap[D]?/\True) (λb0 t=>?_)
 have a1:=ap.drew t
 have ag:=((B0.keepB ae s.2.1 ae.lt (by simp only [A6,A5,As,not_or,Ac];omega)).up d).drew t
 have ah:=G.drew t
 have a2:=(Ce (Ag.keepB a0 s.2.1 (λg=>⟨a0.lt g,by simpa using (V) g⟩)) d a6).drew t
 have ai:=C6.below (BU (Ej af (AR.below s.2.1 af.size (by simp <;> omega))) oO d) t
 have a:=Bs (ah.trans G.symm) Bi
 refine Ab 0 rfl (.mv rfl) a ?_
 refine Ab 1 rfl (.nck rfl) a ?_
 refine Ab 2 rfl (.fa DE rfl D8 dD rfl) a ?_
 refine BX 3 rfl (λw' hw'=>Ae (g22_ _) rfl ((hw'.1).trans G) rfl) a rfl ?_
 refine Ab 4 rfl (.mv rfl) a ?_
 refine Ab 5 rfl (.nck rfl) a ?_
 refine Ab 6 rfl (.fa DE rfl D8 dD rfl) a ?_
 refine BX 7 rfl (λw' hw'=>Ae (g22_ _) rfl ((hw'.1).trans G) rfl) a rfl ?_
 refine Ab 8 rfl (.mv rfl) a ?_
 refine Ab 9 rfl (.nck rfl) a ?_
 refine Ab 10 rfl (.fa DE rfl Bw dD rfl) a ?_
 refine BX 11 rfl (λw' hw'=>Ae (BZ _) rfl ((hw'.1).trans G) rfl) a rfl ?_
 refine AX 12 rfl<|Cm BK rfl rfl ((IK p l c _ _ (GD _ _) a2 oO)) (λbj aK=>?_)
 obtain rfl:=aK
 refine A0<|⟨a,?_⟩
 refine AX 13 rfl<|Cm BK rfl rfl ((Hi p l c _ _ (Ec _ _ _) a2 hc oO)) (λbk aL=>?_)
 obtain rfl:=aL
 refine A0<|⟨a,?_⟩
 refine Ab 14 rfl (.mv rfl) a ?_
 refine Ab 15 rfl (.ext rfl rfl) a ?_
 refine Ab 16 rfl (.ext rfl rfl) a ?_
 refine Ab 17 rfl (.as rfl) a ?_
 refine Ab 18 rfl (.as rfl) a ?_
 refine BH kR ?_
 rw [show Dr l (B4 false l (sx l (10::(HY++10::R))))=HY from aO]
 refine FT 50 (false) ?_ ?_
 refine Am<|A1 (.fa Ay rfl Bw dD rfl)<|Ah (Ae (BZ _) rfl a1 rfl)<|A1 (.eql rfl rfl)<|A3 rfl<|Ck rfl rfl rfl (λH=>?_) (λH=>?_)
 have aM:=dT H
 refine A3 rfl<|Az H<|A1 (.eqs rfl rfl)<|A1 (.pkT rfl H rfl)<|A0<|?_
 exact ⟨Gy (DM rfl (by rfl)),rfl⟩
 have aM:=dF H
 refine Bc H<|A1 (.pkF rfl H rfl)<|A0<|?_
 exact ⟨Gy (DM rfl (by rfl)),rfl⟩
 refine Aq rfl rfl<|Ap<|A4<|A3 rfl<|Ao (Jr [10] HY (10::R) ah a2 hc oO V s2 dD dD dD (DF dD)) (λb2 L=>?_)
 have aj:=B0.keepB a1 L.1 a1.lt (by simp only [A6,A5,As,not_or,Ac];omega)
 refine A0<|A4<|Ah (Bk rfl aj Ay rfl Al)<|Ax rfl rfl aj Al rfl rfl (λb3 aq P ba=>?_)
 refine Cn ((B0.keepB ag L.1 ag.lt (by simp only [A6,A5,As,not_or,Ac];omega)).up P) EJ (λb4 a4 Q bb=>?_)
 have aN:=BP.same (w1:=b4) (BP.same (w1:=b3) (BP.same (w1:=b2) (BP.same (w1:=b0) (BP.same (w1:=az) aZ (λk hk hl=>d.other k oM)) (λk hk hl=>(by obtain ⟨m,rfl⟩:=t;rfl))) (λk hk hl=>L.1.block k hl (by (simp only [A6,A5,As,not_or,Ac];omega)))) (λk hk hl=>P.other k oM)) (λk hk hl=>Q.other k oM)
 refine A0<|AT ?_
 exact D1.ret A4h (λw'=>_) (Se b1 b8 _ a4) (λw' hS=>by
  subst hS;have aA:=(aN).mono (T:=λk=>w.heap.size<=k) (λk hk _=>hk.1);have aB:=aA.rep aQ;rw [aP] at aB;have hq:Kp _ _ _ _:=⟨aB,aA.tops⟩;exact ⟨_,Kd rfl rfl rfl (Be (aq.up Q) Ay rfl Al) (B5 a4 (Ed _) rfl),⟨_,Ff rfl,hq,(BU (BU (Ej ai (AR.below L.1 ai.size (by simp <;> omega))) oO P) oO Q)⟩⟩)
def Mg (ks:List (l8_)) (vs:List AV) (d:l8_):AV:=.mk 7 0 [] (ks++[Gm]) (vs++[.mk 2 (d.length:Int) [] [] [] []]) []
theorem A0b (ks:List (l8_)) (vs:List AV) (d:l8_):JI (Mg ks vs d)=.mk 7 0 [] (ks++[Gm]) (Js vs++[Jm 2 (d.length:Int) []]):=by
 simp [Mg,JI,GF,Jm]
theorem Xn (ks:List (l8_)) (vs:List AV) (d:l8_) (h:ks.length=vs.length):Dd (.mk 9 0 [] ks vs d)=Dd (Mg ks vs d)++(10::(Nu++(10::(d++(10::F0))))):=by
 have a:Vr Gm=[47,76,101,110,103,116,104]:=by decide
 have b:Dd (.mk 2 (d.length:Int) [] [] [] [])=EK (d.length:Int):=by simp [Dd]
 have c:Dd (.mk 9 0 [] ks vs d)=60::60::(IW ks vs++Gq d):=by simp [Dd]
 have e:Dd (Mg ks vs d)=60::60::(IW (ks++[Gm]) (vs++[.mk 2 (d.length:Int) [] [] [] []])++[32,62,62]):=by simp [Dd,Mg]
 rw [c,e,Uj ks vs _ _ h,a,b]
 simp [Gq,Nu,F0]
theorem A09  {vs:List AV} (h:FY 32 true (.mk 9 0 [] ks vs d)) (hv:vs.length<=100) :
  Gm ∉ ks/\ks.length=vs.length/\(∀ k∈ks,k.length<=127)/\d.length<=1048576/\(∀ o∈vs,FY 31 false o)/\FY 32 true (Mg ks vs d):=by
 cases h with
 | num _ _ k n hk hf=>simp at hk
 | dict _ _ k ks L dd hk hD hl hkl hn hnd hS =>
  have c:d.length<=1048576/\[76,101,110,103,116,104] ∉ ks:=by
   rcases hk with ⟨h,-⟩ | ⟨-,-,f,g⟩
   · exact De h dD
   · exact ⟨f,g⟩
  refine ⟨c.2,hkl,λk hk=>(hn k hk).2.2,c.1,hS,?_⟩
  refine .dict _ _ 7 _ _ _ (.inl ⟨rfl,rfl⟩) dD (by simp;omega) (by simp [hkl]) ?_ ?_ ?_
  ·
   intro x hx
   rcases B9.1 hx with hx | hx
   · exact hn x hx
   · rw [B8] at hx;subst hx;exact ⟨dD,dD,dD⟩
  ·
   rw [List.nodup_append]
   refine ⟨hnd,by simp,λa ha b hb=>?_⟩
   rw [B8] at hb;subst hb
   exact λe=>c.2 (by rw [e] at ha;exact ha)
  ·
   intro o ho
   rcases B9.1 ho with ho | ho
   · exact hS o ho
   ·
    rw [B8] at ho;subst ho
    exact .num _ _ _ _ (.inl rfl) (by unfold Cy;simp;omega)
theorem Rk (bf:Nat) (S:Nat->Prop) (l:l8_) (ps:List Nat) (j:Nat) (ks:List (l8_)) (vs:List AV) (d R:l8_) (w:World) (h:AM S w bf l ps) (hl:l.length<=1048576) (hj:j<ps.length) (hpl:ps.length<=4096) (hs:OQ j (Dd (.mk 9 0 [] ks vs d)) R <:+ l) (hp:ps[j]=sx l (OQ j (Dd (.mk 9 0 [] ks vs d)) R)) (hsnd:FY 32 true (.mk 9 0 [] ks vs d)) (hvl:vs.length<=100) :
  Calls Tryz.prog 111 #[ptV bf,Af ((j+1:Nat):Int)] w λe w'=>∃ z:AC,e=.returned (.tuple #[.agg (DN z).toArray,Af 0])/\Kp w' (λk=>w.heap.size<=k) z (.mk 9 0 [] ks vs d)/\AL w w':=by
 obtain ⟨p,c,bm,y0,hf,-,hb,-,hc,hm,-,-⟩:=h
 have hg:=A0C ps j hj
 have bA:=GD l (OQ j (Dd (.mk 9 0 [] ks vs d)) R)
 obtain ⟨hn,ac,a',hd,b0,aF⟩:=A09 hsnd hvl
 have s1:(10::(Dd (Mg ks vs d)++(10::(Nu++(10::(d++(10::(F0++(10::(HY++(10::R)))))))))))<:+ l:=by
  have q:(10::(Dd (.mk 9 0 [] ks vs d)++(10::(HY++(10::R))))) <:+ l:=DT (A:=[32,48,32,111,98,106]) (DT hs);rw [Xn ks vs d ac] at q
  simpa only [AS,Bb] using q
 have s2:(10::(Nu++(10::(d++(10::(F0++(10::(HY++(10::R))))))))) <:+ l:=DT (Ek s1)
 have s3:(10::(d++(10::(F0++(10::(HY++(10::R))))))) <:+ l:=DT (Ek s2)
 have s4:(10::(HY++(10::R))) <:+ l:=DT (Ek (DT (Ek s3)))
 have hO:=Tb (B:=[10]) aF (by simp [Mg,AV.kind]) s1 dD (DF dD) (λq=>by simp [Mg,AV.kind] at q) (by have:=A4o aF;omega)
 rw [A0b] at hO
 obtain ⟨b2,b3,-,-⟩:=Qa (B:=[10]) (A:=Nu) (EE s2) dD dD dD (DF dD)
 refine GQ func111 rfl ntmps111 bL ?_
 have aG:=CN w
 refine WD.seq<|Am<|Bj Cz rfl (λb1 b4 a9 ad V bB=>?_)
 have b5:=Bl a9 hf.lt
 have aH:=hf.un V b5
 have a2:=λo=>a9▸hb.lt o
 have aI:=Ce hb V a2
 have aJ:=uB aG a9 V
 have bq:=CF a9 aG.size
 refine Bj SN rfl (λb8 aK a0 aO H bC=>?_)
 have aP:=Bl a0 aH.lt
 have J:=aH.un H aP
 have aQ:=Bl a0 ad.lt
 have az:=λo=>a0▸aI.lt o
 have bt:=CF a0 aJ.size
 refine A0<|WD.seq<|A4<|A3 rfl<|A1 (.eqP ZX rfl)<|A0<|Aq rfl rfl<|Ap<|WD.defer rfl rfl<|Nz<|Ad<|A4u [(4,ptV b1),(5,ptV b8)] (λc f w b6 h tmps ht=>h tmps (λi u hu=>ht i u (b6.look hu)))<|D6 10 rfl BR (λw'=>w'.heap[bf]?=aK.heap[bf]?/\True) (λb7 C=>?_)
 have X:=J.drew C
 have ae:=(ad.un H aQ).drew C
 have af:=aO.drew C
 have a3:=(Ce aI H az).drew C
 have F:=Bs (X.trans J.symm) Bi
 refine Ab 0 rfl (.mv rfl) F ?_
 refine Ab 1 rfl (.nck rfl) F ?_
 refine Ab 2 rfl (.fa R6 rfl D8 dD rfl) F ?_
 refine BX 3 rfl (λw' hw'=>Ae (g22_ _) rfl ((hw'.1).trans J) rfl) F rfl ?_
 refine Ab 4 rfl (.mv rfl) F ?_
 refine Ab 5 rfl (.mv rfl) F ?_
 refine AX 6 rfl<|Cm BK rfl rfl ((Uc bf bm _ _ _ p l c (T8 ps) _ ps[j] _ X rfl rfl (Dt.same (w1:=b7) (Dt.same (w1:=aK) (Dt.same (w1:=b4) hm (λk hk hl=>V.other k oO)) (λk hk hl=>H.other k oO)) (λk hk hl=>(by obtain ⟨m,rfl⟩:=C;rfl))) (wfI oO) hg oO)) (λbD aR=>?_)
 obtain rfl:=aR
 refine A0<|⟨F,?_⟩
 refine Ab 7 rfl (.buildL (ps:=_) A1T rfl rfl rfl pS) F ?_
 refine AX 8 rfl ?_
 have aA:=(a3).lt
 refine WL.box rfl rfl (λb aS K aB t bu=>?_)
 have aT:=Bl K X.lt
 have ag:=X.un t aT
 have aU:=Bl K ae.lt
 have ah:=ae.un t aU
 have aV:=Bl K af.lt
 have ai:=af.un t aV
 have aa:=λo=>K▸a3.lt o
 have a4:=Ce a3 t aa
 have aj:=uB (C6.below (uB aJ a0 H) C) K t
 have b9:B0 aS b (Jl p l c (sx l (OQ j (Dd (.mk 9 0 [] ks vs d)) R))) 78:=by rw [<- hp];exact aB
 have L:0<l.length->(pA p).block≠b:=λo=>by have:=aA o;omega
 refine A0<|⟨⟨(ag).trans (J).symm,tT⟩,?_⟩
 refine Ab 9 rfl (.as rfl) ⟨(ag).trans (J).symm,tT⟩ ?_
 refine BH kR<|A4<|A3 rfl<|A3 rfl<|Cm BK rfl rfl ((Ud b p l c (j+1) oO _ _ b9 a4 hc oO L hs)) (λba N=>?_)
 have ak:=B0.keepB ah N.1 ah.lt (by simp only [A6,A5,As,not_or,Ac];omega)
 have am:=B0.keepB ai N.1 ai.lt (by simp only [A6,A5,As,not_or,Ac];omega)
 have a5:=Ag.keepB a4 N.1 (λo=>⟨a4.lt o,by simpa using (L) o⟩)
 have an:=Ej aj (AR.below N.1 aj.size (by simp <;> omega))
 have aL:B0 ba b (Jl p l c (sx l (10::(Dd (Mg ks vs d)++(10::(Nu++(10::(d++(10::(F0++(10::(HY++(10::R)))))))))))) ) 78:=by (have q:=N.2);(rw [Xn ks vs d ac] at q);(simpa only [AS,Bb] using q)
 refine A0<|A4<|A3 rfl<|?_
 have bb:=(aL).lt
 refine Bf BK rfl rfl ((Xt b p l c _ _ _ _ aL a5 hc oO L hO)) (λy bc s=>?_)
 have bd:=s.2.2
 have be:=(s.1).mono (T:=λk=>w.heap.size<=k/\k≠b1/\k≠b8/\b<k/\k<bc.heap.size) (λk hk ao=>⟨oO,oO,oO,oO,ao⟩)
 have bg:=(s.1).kindE
 refine Ax rfl rfl (B0.keepB ak s.2.1 ak.lt (by simp only [A6,A5,As,not_or,Ac];omega)) Al rfl rfl (λaM aC v bv=>?_)
 have P:=bd.upd v oM
 refine A0<|Ad<|Ad<|Lb<|D6 19 rfl BR (λw'=>w'.heap[b]?=aM.heap[b]?/\True) (λbh D=>?_)
 have ap:=aC.drew D
 have aq:=P.drew D
 have a6:=(Ce (Ag.keepB a5 s.2.1 (λo=>⟨a5.lt o,by simpa using (L) o⟩)) v a2).drew D
 have a:=Bs (aq.trans P.symm) Bi
 refine Ab 0 rfl (.mv rfl) a ?_
 refine Ab 1 rfl (.nck rfl) a ?_
 refine Ab 2 rfl (.fa DE rfl D8 dD rfl) a ?_
 refine BX 3 rfl (λw' hw'=>Ae (g22_ _) rfl ((hw'.1).trans P) rfl) a rfl ?_
 refine Ab 4 rfl (.mv rfl) a ?_
 refine Ab 5 rfl (.nck rfl) a ?_
 refine Ab 6 rfl (.fa DE rfl D8 dD rfl) a ?_
 refine BX 7 rfl (λw' hw'=>Ae (g22_ _) rfl ((hw'.1).trans P) rfl) a rfl ?_
 refine Ab 8 rfl (.mv rfl) a ?_
 refine Ab 9 rfl (.nck rfl) a ?_
 refine Ab 10 rfl (.fa DE rfl Bw dD rfl) a ?_
 refine BX 11 rfl (λw' hw'=>Ae (BZ _) rfl ((hw'.1).trans P) rfl) a rfl ?_
 refine AX 12 rfl<|Cm BK rfl rfl ((IK p l c _ _ (GD _ _) a6 oO)) (λbE aW=>?_)
 obtain rfl:=aW
 refine A0<|⟨a,?_⟩
 refine AX 13 rfl<|Cm BK rfl rfl ((Hi p l c _ _ (Ec _ _ _) a6 hc oO)) (λbG aX=>?_)
 obtain rfl:=aX
 refine A0<|⟨a,?_⟩
 refine Ab 14 rfl (.mv rfl) a ?_
 refine Ab 15 rfl (.ext rfl rfl) a ?_
 refine Ab 16 rfl (.ext rfl rfl) a ?_
 refine Ab 17 rfl (.as rfl) a ?_
 refine Ab 18 rfl (.as rfl) a ?_
 refine BH kR<|Ad ?_
 rw [show Dr l (B4 false l (sx l (10::(Nu++(10::(d++(10::(F0++(10::(HY++(10::R)))))))))) )=Nu from b2,show BA l (B4 false l (sx l (10::(Nu++(10::(d++(10::(F0++(10::(HY++(10::R)))))))))) )=sx l (10::(d++(10::(F0++(10::(HY++(10::R))))))) from b3]
 refine Am<|A1 (.fa Ay rfl Bw dD rfl)<|Ah (Ae (BZ _) rfl ap rfl)<|A1 (.bis (true) (.eql rfl rfl) (by rw [bg];rfl))<|A3 rfl<|Az rfl<|A3 rfl<|Az rfl<|A1 (.bis (true) (.eqs rfl rfl) dD)<|A1 (.pkT rfl rfl rfl)<|A0<|BQ rfl rfl<|A4<|A3 rfl<|A3 rfl<|A1 (.nck rfl)<|A1 (.fa DE rfl Bw dD rfl)<|Br Bw rfl rfl rfl aq (by exact Nat.le_of_ble_eq_true rfl) (λaN G g bw=>?_)
 have G:B0 aN b _ _:=G
 have g:CK b _ _:=g
 have a7:=ap.up g
 have ar:=(((B0.keepB am s.2.1 am.lt (by simp only [A6,A5,As,not_or,Ac];omega)).up v).drew D).up g
 have a8:=Ce a6 g aa
 have au:=BU (C6.below (BU (Ej an (AR.below s.2.1 an.size (by simp <;> omega))) oO v) D) oO g
 refine A0<|Am<|A3 rfl<|A3 rfl<|Ah (Bk rfl a7 Ay rfl Al)<|?_
 have bi:=((BP.same (w1:=aN) (BP.same (w1:=bh) (BP.same (w1:=aM) be (λk hk hl=>v.other k oM)) (λk hk hl=>(by obtain ⟨m,rfl⟩:=D;rfl))) (λk hk hl=>g.other k oM))).mono (T:=λk=>b+1<=k/\b<k) (λk hk _=>by omega)
 have aD:=(G).lt
 refine Bf BK rfl rfl ((T5 _ b (b+1) p l c y ks vs d (HY++(10::R)) _ G a8 hc oO L s3 bi aD hn a' ac hvl hd b0)) (λz bj E=>?_)
 have bk:=E.2.2
 have hz:=(E.1).mono (T:=λk=>b+1<=k/\k<bj.heap.size) (λk hk ao=>⟨hk,ao⟩)
 refine Ax rfl rfl (B0.keepB a7 E.2.1 a7.lt (by simp only [A6,A5,As,not_or,Ac];omega)) Al rfl rfl (λbl ab x bz=>?_)
 have av:=(B0.keepB ar E.2.1 ar.lt (by simp only [A6,A5,As,not_or,Ac];omega)).up x
 have aw:=BU (Ej au (AR.below E.2.1 au.size (by simp <;> omega))) oO x
 refine A0<|A4<|A3 rfl<|Ao (Jr [10] HY (10::R) (bk.upd x oM) (Ce (Ag.keepB a8 E.2.1 (λo=>⟨a8.lt o,by simpa using (L) o⟩)) x a2) hc oO L s4 dD dD dD (DF dD)) (λbn Z=>?_)
 have ax:=B0.keepB ab Z.1 ab.lt (by simp only [A6,A5,As,not_or,Ac];omega)
 refine A0<|A4<|Ah (Bk rfl ax Ay rfl Al)<|Ax rfl rfl ax Al rfl rfl (λaY ay Q bo=>?_)
 refine Cn ((B0.keepB av Z.1 av.lt (by simp only [A6,A5,As,not_or,Ac];omega)).up Q) EJ (λaZ a1 U bp=>?_)
 have aE:=Kp.same (w1:=aZ) (Kp.same (w1:=aY) (Kp.same (w1:=bn) (Kp.same (w1:=bl) hz (λk hk hl=>x.other k oM)) (λk hk hl=>Z.1.block k hl (by (simp only [A6,A5,As,not_or,Ac];omega)))) (λk hk hl=>Q.other k oM)) (λk hk hl=>U.other k oM)
 refine A0<|AT ?_
 exact D1.ret A4h (λw'=>_) (Se b1 b8 _ a1) (λw' hS=>by
  subst hS;have hq:=(aE).mono (T:=λk=>w.heap.size<=k) (λk hk _=>by omega);exact ⟨_,Kd rfl rfl rfl (Be (ay.up U) Ay rfl Al) (B5 a1 (Ed _) rfl),⟨_,Ff rfl,hq,(BU (BU (Ej aw (AR.below Z.1 aw.size (by simp <;> omega))) oO Q) oO U)⟩⟩)
end
section
theorem B3.rowS  {l:List (l8_)} (h:B3 G7 w p l):AG G8 w p l:=⟨h.isp,λj hj i hi=>by
 have h1:i<1:=hi
 obtain rfl:i=0:=by omega
 rw [show j * G8.m+0=j by show j * 1+0=j;omega,h.cells j hj];rfl⟩
theorem TD (c:Nat) (w:World):Calls Tryz.prog 28 #[.slice none 0 c] w λe w'=>e=.returned (.slice none 0 0)/\w=w':=by
 refine Ar func28 rfl ntmps28<|A4<|A9 rfl<|Ad<|A4<|A3 rfl<|A1 (.eqSN B1 rfl)<|A0<|BQ rfl rfl<|A4<|A9 rfl<|AW ?_
 exact ⟨rfl,rfl⟩
theorem MT (p:Option Addr) (l:l8_) (c:Nat) (w:World) (h:Ag w p l) (hl:l.length<=100000000) :
  Calls Tryz.prog 28 #[.slice p l.length c] w λe w'=>∃ x:Option Addr × Nat,e=.returned (.slice x.1 l.length x.2)/\AL w w'/\Ag w' x.1 l/\(0<l.length->w.heap.size<=(pA x.1).block)/\l.length<=x.2/\x.2<=9223372036854775807/\ED (λk=>w.heap.size<=k) w' (.slice x.1 l.length x.2) l:=by
 by_cases hp:p=none
 ·
  subst hp
  have a:l=[]:=by
   cases l with
   | nil=>rfl
   | cons x r=>have:=h.isp (by simp);cases this
  subst a
  exact (TD c w).mono λe w' ⟨b,d⟩=>by
   subst d
   exact ⟨(none,0),b,Gb _ _,Ag.nil _,λf=>by simp at f,DP _,dD,ED.nil _ _⟩
 · exact MS p l l.length c w rfl h (λ_=>.inr hp) hl
theorem JW (p:Option Addr) (l:List (l8_)) (c:Nat) (w:World) (h:B3 G7 w p l) (hl:l.length<=10000000) :
    Calls Tryz.prog 81 #[.slice p l.length c] w λe w'=>∃ x:Option Addr × Nat,e=.returned (.slice x.1 l.length x.2)/\AL w w'/\B3 G7 w' x.1 l/\(0<l.length->w.heap.size<=(pA x.1).block)/\l.length<=x.2/\x.2<=9223372036854775807/\E5 (λk=>w.heap.size<=k) w' (.slice x.1 l.length x.2) l:=by
  have hr:=h.rowS;refine Ar func81 rfl ntmps81 ?_;have o:=CN w;refine A4<|A9 rfl<|Ad<|A4<|A3 rfl<|A1 (.eqSN Dy rfl)<|A0<|Ai rfl (λJ=>?_) (λJ=>?_);have hp:p=none:=by cases p with | none=>rfl | some a=>exact De (show (some a).isNone=true by assumption) (by simp)
  have f:l=[]:=by
    cases l with
    | nil=>rfl
    | cons x r=>have:=h.isp (by simp);rw [hp] at this;cases this
  refine A4<|A9 rfl<|AW ?_;exact ⟨(none,0),by rw [f];rfl,o,by rw [f];exact B3.nil _,λi=>by rw [f] at i;simp at i,by rw [f];exact DP _,dD,by rw [f];exact ⟨AD.nil _ _ _ _,λg hg=>by cases hg⟩⟩;have B:p≠none:=λe=>by (have q:p.isNone=false:=by assumption);rw [e] at q;cases q
  refine Ap<|A4<|Jd Dy FH rfl (λD E m j s K=>?_);have y:=λi=>m▸hr.lt i
  have F:=AG.upd hr s (λi=>CR (y i));have G:=uB o m s;have u:=CF m o.size;have j:=HH (L:=G8) (l:=[]) (j D (DP _));have v:D<=E.heap.size:=by omega
  refine A3 rfl<|BS Dy Ma rfl rfl rfl j rfl F (by simp only [Ak];omega) (v) rfl (λ_=>.inr B) (λV X t A N P=>?_);have H:=Ej G (A.mono (u));refine A9 rfl<|AW ?_
  (have b := (t).base (C := w.heap.size) (fun g hg => C9 (Nat.le_of_eq m.symm) ((t).lt g hg).1)
   simp only [C4] at b;obtain ⟨q,d,rfl,-⟩:=b.row;obtain ⟨-,Q,R,T,U⟩:=b.full;exact ⟨(q,d),rfl,H,T.strs,λi=>(b.lt _ (U i)).1,Q,R,b.base (λg hg=>FI _),λg hg=>(b.lt g hg).1⟩)
theorem UL (p:Option Addr) (l:List AC) (c:Nat) (w:World) (h:AG EN w p l) (hl:l.length<=10000000) :
    Calls Tryz.prog 82 #[.slice p l.length c] w λe w'=>∃ x:Option Addr × Nat,e=.returned (.slice x.1 l.length x.2)/\AL w w'/\AD EN 27 w.heap.size w' (.slice x.1 l.length x.2) l:=by
  refine Ar func82 rfl ntmps82 ?_;have i:=CN w;refine A4<|A9 rfl<|Ad<|A4<|A3 rfl<|A1 (.eqSN C2 rfl)<|A0<|Ai rfl (λH=>?_) (λH=>?_);have hp:p=none:=by cases p with | none=>rfl | some a=>exact De (show (some a).isNone=true by assumption) (by simp)
  have t:l=[]:=by
    cases l with
    | nil=>rfl
    | cons x r=>have:=h.isp (by simp);rw [hp] at this;cases this
  refine A4<|A9 rfl<|AW ?_;exact ⟨(none,0),by rw [t];rfl,i,by rw [t];exact AD.nil _ _ _ _⟩;have A:p≠none:=λe=>by (have q:p.isNone=false:=by assumption);rw [e] at q;cases q
  refine Ap<|A4<|Jd C2 CU rfl (λB D f b j J=>?_);have u:=λv=>f▸h.lt v
  have E:=AG.upd h j (λv=>CR (u v));have F:=uB i f j;have o:=CF f i.size;have b:=HH (L:=EN) (l:=[]) (b B (DP _));have s:B<=D.heap.size:=by omega
  refine A3 rfl<|BS C2 EZ rfl rfl rfl b rfl E (by simp only [Ak];omega) (s) rfl (λ_=>.inr A) (λP Q k y K N=>?_);have G:=Ej F (y.mono (o));refine A9 rfl<|AW ?_
  (have m := (k).base (C := w.heap.size) (fun g hg => C9 (Nat.le_of_eq f.symm) ((k).lt g hg).1)
   simp only [C4] at m;obtain ⟨q,d,rfl,-⟩:=m.row;exact ⟨(q,d),rfl,G,m⟩)
end
section
theorem VJ  {k n:Int} {t:l8_} {l:List AV} (h:FY D st (.mk k n t ks l d)):ks.length<=65535/\l.length<=65535/\d.length<=1048576/\∀ o∈l,∃ D',FY D' false o:=by
 cases h with
 | null=>exact ⟨by simp,by simp,by simp,λo h=>by cases h⟩
 | bool=>exact ⟨by simp,by simp,by simp,λo h=>by cases h⟩
 | num=>exact ⟨by simp,by simp,by simp,λo h=>by cases h⟩
 | name=>exact ⟨by simp,by simp,by simp,λo h=>by cases h⟩
 | text=>exact ⟨by simp,by simp,by simp,λo h=>by cases h⟩
 | ref=>exact ⟨by simp,by simp,by simp,λo h=>by cases h⟩
 | arr _ _ l hD hl h=>exact ⟨by simp,hl,by simp,λo ho=>⟨_,h o ho⟩⟩
 | dict _ _ k ks l d hk hD hl hkl hn hnd h=>exact ⟨oO,hl,by rcases hk with ⟨-,rfl⟩ | ⟨-,-,h,-⟩;simp;exact h,λo ho=>⟨_,h o ho⟩⟩
theorem Ty  {cs zs:List α} (hz:zs.length=i) (h:i<cs.length) (z:α):(zs++cs.drop i).set i z=(zs++[z])++cs.drop (i+1):=by
 rw [Aw h,List.set_append_right _ _ oO,hz,FG,List.set_cons_zero,AS];rfl
theorem AH.pushA  {cs:List AC} {acc:List AV} {x:AC} {o:AV} (h:AH w S cs acc) (hx:AB w S x o):AH w S (cs++[x]) (acc++[o]) :=
  ⟨by simp [h.len], fun i h1 h2 => by
    have hl:=h.len
    by_cases hi:i<cs.length
    · rw [D7 hi, D7 oO]
      exact h.sub i hi oO
    · simp only [A8, Aa, Ak] at h1 h2
      have:i=cs.length:=by omega
      subst this
      rw [CB oO,CB oO]
      simpa [hl] using hx⟩
theorem NW:∀ (n:Nat) (o:AV),SizeOf.sizeOf o<n->∀ (x:AC) (S:Nat->Prop) (D:Int) (st:Bool) (w:World),AB w S x o->FY D st o ->
  Calls Tryz.prog 58 #[.agg (DN x).toArray] w λe w'=>∃ z:AC,e=.returned (.agg (DN z).toArray)/\Kp w' (λk=>w.heap.size<=k) z o/\AL w w':=by
 intro n
 induction n with
 | zero=>intro o h;omega
 | succ n ih =>
 intro o hn x S D st w hx hS
 obtain ⟨keys,list,data,cs,rfl,ok,e9,hk,ea,hr,eb,hd,ec,ed,cX⟩:=hx.inv
 obtain ⟨eL,eM,eN,ee⟩:=VJ hS
 obtain ⟨k,i,s,kp,kl,kc,lp,ll,lc,dp,dl,dc⟩:=x
 have e1:=ok.kl;have e2:=ok.ll;have e3:=ok.dl
 have m7:=ok.text;have m8:=ok.n
 simp only at e1 e2 e3 m7 m8 hk hr hd eb ea ec
 subst e1;subst e2;subst e3
 simp only [AV.mk.sizeOf_spec] at hn
 have ef:∀ j (h:j<list.length),SizeOf.sizeOf list[j]<n:=λj h=>by have:=List.sizeOf_lt_of_mem (AA h);omega
 have eg:AH w (λk=>k<w.heap.size) cs list:=⟨ed,λi h h2=>(cX i h h2).mono λk _ hk=>hk⟩
 simp only [DN]
 refine Ar func58 rfl ntmps58 ?_
 have cG:=CN w
 refine A4<|WL.box rfl rfl (λP eh au aW a8 eI=>?_)
 have ei:=AH.same (w1:=eh) eg (λk hk hl=>a8.other k oO)
 have Y:=λa=>au▸hr.lt a
 have cH:=AG.upd hr a8 (λa=>CR (Y a))
 have cY:=λa=>au▸hk.lt a
 have cI:=B3.upd hk a8 (λa=>CR (cY a))
 have cZ:=λa=>au▸hd.lt a
 have cJ:=Ce hd a8 cZ
 have cK:=uB cG au a8
 have eB:=CF au cG.size
 refine Bj Cz rfl (λb c' a2 be X eC=>?_)
 have d0:=AH.same (w1:=c') ei (λk hk hl=>X.other k oO)
 have d1:=Bl a2 aW.lt
 have d2:=aW.un X d1
 have bf:=λa=>a2▸cH.lt a
 have d3:=AG.upd cH X (λa=>CR (bf a))
 have bg:=λa=>a2▸cI.lt a
 have d4:=B3.upd cI X (λa=>CR (bg a))
 have bh:=λa=>a2▸cJ.lt a
 have d5:=Ce cJ X bh
 have d6:=uB cK a2 X
 have ej:=CF a2 cK.size
 refine A0<|If (α:=(Option Addr × Nat) × (Option Addr × Nat)) (λt=>[(1,ptV P),(2,ptV b)]) (λt w'=>AL w w'/\B0 w' P #[Af k,Af i,.string (bs s),.slice t.1.1 keys.length t.1.2,.slice lp cs.length lc,.slice t.2.1 data.length t.2.2] 27/\B0 w' b #[Af 0,Af 0,.string ⟨#[]⟩,.slice none 0 0,.slice none 0 0,.slice none 0 0] 27/\AG EN w' lp cs/\AH w' (λk=>k<w.heap.size) cs list/\B3 G7 w' t.1.1 keys/\(0<keys.length->b<(pA t.1.1).block)/\keys.length<=t.1.2/\t.1.2<=9223372036854775807/\Ag w' t.2.1 data/\(0<data.length->b<(pA t.2.1).block)/\data.length<=t.2.2/\t.2.2<=9223372036854775807/\E5 (λk=>b<k) w' (.slice t.1.1 keys.length t.1.2) keys/\ED (λk=>b<k) w' (.slice t.2.1 data.length t.2.2) data) ?_ (λt w1 hR=>?_)
 refine Fe 10 rfl BR (λek a0=>?_)
 have ax:=AH.same (w1:=ek) d0 (λk hk hl=>(by obtain ⟨m,rfl⟩:=a0;rfl))
 have a1:=d2.drew a0
 have a3:=be.drew a0
 have a4:=d3.drew a0
 have ay:=d4.drew a0
 have a5:=d5.drew a0
 have az:=C6.below d6 a0
 refine AI 0 rfl (.fa Ay rfl DU dD rfl) rfl<|AI 3 rfl (.fa Ay rfl D8 dD rfl) rfl<|CG 1 rfl 4 rfl ?_ ?_
 refine Ah (Ae (Fg _) rfl a1 rfl)<|A0<|CG 2 rfl 4 rfl ?_ ?_
 have aX:=(a3).lt
 refine Bf BK rfl rfl ((JW _ keys _ _ ay oO)) (λxk el Q=>?_)
 have d7:=AH.same (w1:=el) ax (λk hk hl=>Q.1.block k hl)
 have aY:=a1.bl Q.1
 have aZ:=a3.bl Q.1
 have a':=DW a4 Q.1 (λa=>a4.lt a)
 have d8:=DL a5 Q.1 (λa=>a5.lt a)
 have d9:=Ci az Q.1
 have a6:=Q.2.1
 have c:=Q.2.2
 have a9:=(Q.2.2.2.2.2).mono (T:=λk=>b<k) (λk hk _=>by omega)
 refine A0<|Av 4 rfl<|Ah (Ae (g22_ _) rfl aY rfl)<|A0<|AI 6 rfl (.fa Ay rfl DU dD rfl) rfl<|Av 5 rfl ?_
 have b0:=(aZ).lt
 refine Bf BK rfl rfl ((MT _ data _ _ d8 oO)) (λxd cL K=>?_)
 have da:=AH.same (w1:=cL) d7 (λk hk hl=>K.1.block k hl)
 have db:=E5.same (w1:=cL) a9 (λk hk hl=>K.1.block k hl)
 have dd:=aY.bl K.1
 have de:=aZ.bl K.1
 have df:=DW a' K.1 (λa=>a'.lt a)
 have dg:=B3.below a6 K.1 (λa=>a6.lt a)
 have dh:=Ci d9 K.1
 have av:=K.2.1
 have d:=K.2.2
 have aa:=(K.2.2.2.2.2).mono (T:=λk=>b<k) (λk hk _=>by omega)
 refine A0<|Av 7 rfl<|Br DU rfl rfl rfl dd (by exact Nat.le_of_ble_eq_true rfl) (λaD ag A eD=>?_)
 have ag:B0 aD P _ _:=ag
 have A:CK P _ _:=A
 have di:=AH.same (w1:=aD) da (λk hk hl=>A.other k oM)
 have dj:=E5.same (w1:=aD) db (λk hk hl=>A.other k oM)
 have dk:=ED.same (w1:=aD) aa (λk hk hl=>A.other k oM)
 have dm:=de.up A
 have dn:=AG.upd df A (λa=>CR (Y a))
 have dq:=B3.upd dg A ((λa=>by (have:=c.1 a;omega)))
 have dr:=Ag.upd av A ((λa=>by (have:=d.1 a;omega)))
 have ds:=BU dh oO A
 refine A0<|AI 8 rfl (.fa Ay rfl D8 dD rfl) rfl<|Av 9 rfl<|Br D8 rfl rfl rfl ag (by exact Nat.le_of_ble_eq_true rfl) (λaE ah B eF=>?_)
 have ah:B0 aE P _ _:=ah
 have B:CK P _ _:=B
 have dt:=AH.same (w1:=aE) di (λk hk hl=>B.other k oM)
 have du:=E5.same (w1:=aE) dj (λk hk hl=>B.other k oM)
 have dv:=ED.same (w1:=aE) dk (λk hk hl=>B.other k oM)
 have dw:=dm.up B
 have dx:=AG.upd dn B (λa=>CR (Y a))
 have dy:=B3.upd dq B ((λa=>by (have:=c.1 a;omega)))
 have dz:=Ag.upd dr B ((λa=>by (have:=d.1 a;omega)))
 have dA:=BU ds oO B
 refine A0<|Bn kR ?_
 exact ⟨(xk,xd),⟨rfl,rfl,tT⟩,dA,ah,dw,dx,dt,dy,λa=>by (have:=c.1 a;show b<(pA xk.1).block;omega),c.2.1,c.2.2.1,dz,λa=>by (have:=d.1 a;show b<(pA xd.1).block;omega),d.2.1,d.2.2.1,du,dv⟩
 refine Ah (Ae (g22_ _) rfl a1 rfl)<|A0<|Av 2 rfl ?_
 have aX:=(a3).lt
 refine Bf BK rfl rfl ((JW _ keys _ _ ay oO)) (λxk em U=>?_)
 have dB:=AH.same (w1:=em) ax (λk hk hl=>U.1.block k hl)
 have dC:=a1.bl U.1
 have b2:=a3.bl U.1
 have b3:=DW a4 U.1 (λa=>a4.lt a)
 have dE:=DL a5 U.1 (λa=>a5.lt a)
 have dG:=Ci az U.1
 have a6:=U.2.1
 have c:=U.2.2
 have a9:=(U.2.2.2.2.2).mono (T:=λk=>b<k) (λk hk _=>by omega)
 refine A0<|AI 6 rfl (.fa Ay rfl DU dD rfl) rfl<|Av 5 rfl ?_
 have b0:=(b2).lt
 refine Bf BK rfl rfl ((MT _ data _ _ dE oO)) (λxd cM N=>?_)
 have dH:=AH.same (w1:=cM) dB (λk hk hl=>N.1.block k hl)
 have dI:=E5.same (w1:=cM) a9 (λk hk hl=>N.1.block k hl)
 have dJ:=dC.bl N.1
 have dK:=b2.bl N.1
 have dL:=DW b3 N.1 (λa=>b3.lt a)
 have dM:=B3.below a6 N.1 (λa=>a6.lt a)
 have dN:=Ci dG N.1
 have av:=N.2.1
 have d:=N.2.2
 have aa:=(N.2.2.2.2.2).mono (T:=λk=>b<k) (λk hk _=>by omega)
 refine A0<|Av 7 rfl<|Br DU rfl rfl rfl dJ (by exact Nat.le_of_ble_eq_true rfl) (λaF ai C eG=>?_)
 have ai:B0 aF P _ _:=ai
 have C:CK P _ _:=C
 have dO:=AH.same (w1:=aF) dH (λk hk hl=>C.other k oM)
 have dP:=E5.same (w1:=aF) dI (λk hk hl=>C.other k oM)
 have dQ:=ED.same (w1:=aF) aa (λk hk hl=>C.other k oM)
 have dR:=dK.up C
 have dS:=AG.upd dL C (λa=>CR (Y a))
 have dU:=B3.upd dM C ((λa=>by (have:=c.1 a;omega)))
 have dV:=Ag.upd av C ((λa=>by (have:=d.1 a;omega)))
 have dW:=BU dN oO C
 refine A0<|AI 8 rfl (.fa Ay rfl D8 dD rfl) rfl<|Av 9 rfl<|Br D8 rfl rfl rfl ai (by exact Nat.le_of_ble_eq_true rfl) (λaG aj E eH=>?_)
 have aj:B0 aG P _ _:=aj
 have E:CK P _ _:=E
 have dX:=AH.same (w1:=aG) dO (λk hk hl=>E.other k oM)
 have bi:=E5.same (w1:=aG) dP (λk hk hl=>E.other k oM)
 have bj:=ED.same (w1:=aG) dQ (λk hk hl=>E.other k oM)
 have bk:=dR.up E
 have bm:=AG.upd dS E (λa=>CR (Y a))
 have bn:=B3.upd dU E ((λa=>by (have:=c.1 a;omega)))
 have bo:=Ag.upd dV E ((λa=>by (have:=d.1 a;omega)))
 have bp:=BU dW oO E
 refine A0<|Bn kR ?_
 exact ⟨(xk,xd),⟨rfl,rfl,tT⟩,bp,aj,bk,bm,dX,bn,λa=>by (have:=c.1 a;show b<(pA xk.1).block;omega),c.2.1,c.2.2.1,bo,λa=>by (have:=d.1 a;show b<(pA xd.1).block;omega),d.2.1,d.2.2.1,bi,bj⟩
 refine Ah (Ae (g22_ _) rfl a1 rfl)<|A0<|Av 1 rfl<|Ah (Ae (Fg _) rfl a1 rfl)<|A0<|Av 2 rfl ?_
 have aX:=(a3).lt
 refine Bf BK rfl rfl ((JW _ keys _ _ ay oO)) (λxk dY J=>?_)
 have bq:=AH.same (w1:=dY) ax (λk hk hl=>J.1.block k hl)
 have bt:=a1.bl J.1
 have aH:=a3.bl J.1
 have aI:=DW a4 J.1 (λa=>a4.lt a)
 have bu:=DL a5 J.1 (λa=>a5.lt a)
 have bv:=Ci az J.1
 have a6:=J.2.1
 have c:=J.2.2
 have a9:=(J.2.2.2.2.2).mono (T:=λk=>b<k) (λk hk _=>by omega)
 refine A0<|AI 6 rfl (.fa Ay rfl DU dD rfl) rfl<|Av 5 rfl ?_
 have b0:=(aH).lt
 refine Bf BK rfl rfl ((MT _ data _ _ bu oO)) (λxd b4 F=>?_)
 have bw:=AH.same (w1:=b4) bq (λk hk hl=>F.1.block k hl)
 have bz:=E5.same (w1:=b4) a9 (λk hk hl=>F.1.block k hl)
 have bA:=bt.bl F.1
 have bB:=aH.bl F.1
 have bC:=DW aI F.1 (λa=>aI.lt a)
 have bD:=B3.below a6 F.1 (λa=>a6.lt a)
 have bE:=Ci bv F.1
 have av:=F.2.1
 have d:=F.2.2
 have aa:=(F.2.2.2.2.2).mono (T:=λk=>b<k) (λk hk _=>by omega)
 refine A0<|Av 7 rfl<|Br DU rfl rfl rfl bA (by exact Nat.le_of_ble_eq_true rfl) (λak ab q en=>?_)
 have ab:B0 ak P _ _:=ab
 have q:CK P _ _:=q
 have bG:=AH.same (w1:=ak) bw (λk hk hl=>q.other k oM)
 have bH:=E5.same (w1:=ak) bz (λk hk hl=>q.other k oM)
 have bI:=ED.same (w1:=ak) aa (λk hk hl=>q.other k oM)
 have bJ:=bB.up q
 have bK:=AG.upd bC q (λa=>CR (Y a))
 have bL:=B3.upd bD q ((λa=>by (have:=c.1 a;omega)))
 have bM:=Ag.upd av q ((λa=>by (have:=d.1 a;omega)))
 have bN:=BU bE oO q
 refine A0<|AI 8 rfl (.fa Ay rfl D8 dD rfl) rfl<|Av 9 rfl<|Br D8 rfl rfl rfl ab (by exact Nat.le_of_ble_eq_true rfl) (λam ac u eo=>?_)
 have ac:B0 am P _ _:=ac
 have u:CK P _ _:=u
 have bO:=AH.same (w1:=am) bG (λk hk hl=>u.other k oM)
 have bP:=E5.same (w1:=am) bH (λk hk hl=>u.other k oM)
 have bQ:=ED.same (w1:=am) bI (λk hk hl=>u.other k oM)
 have bR:=bJ.up u
 have bS:=AG.upd bK u (λa=>CR (Y a))
 have bT:=B3.upd bL u ((λa=>by (have:=c.1 a;omega)))
 have bU:=Ag.upd bM u ((λa=>by (have:=d.1 a;omega)))
 have bV:=BU bN oO u
 refine A0<|Bn kR ?_
 exact ⟨(xk,xd),⟨rfl,rfl,tT⟩,bV,ac,bR,bS,bO,bT,λa=>by (have:=c.1 a;show b<(pA xk.1).block;omega),c.2.1,c.2.2.1,bU,λa=>by (have:=d.1 a;show b<(pA xd.1).block;omega),d.2.1,d.2.2.1,bP,bQ⟩
 obtain ⟨⟨nkp,nkc⟩,⟨ndp,ndc⟩⟩:=t
 obtain ⟨q1,q2,q3,q4,q5,q6,q7,q8,q9,aJ,aw,cN,cO,cP,cQ⟩:=hR
 simp only at q2 q6 q7 q8 q9 aJ aw cN cO cP cQ
 obtain ⟨LB,cR⟩:=eX w1.heap.size
 have dZ:=q1.size
 have d':=q2.lt
 have e0:=q3.lt
 rw [<- cR] at dZ d' e0
 have e4:=cP.mono (T:=λk=>b<k/\k<LB) (λk hk hl=>⟨hk,oO⟩)
 have e5:=cQ.mono (T:=λk=>b<k/\k<LB) (λk hk hl=>⟨hk,oO⟩)
 refine A4<|A1 (.fa Ay rfl Cr dD rfl)<|Ah (Ae (Dv _) rfl q2 rfl)<|Bf BK rfl rfl ((UL _ cs _ _ q4 oO)) (λxl aA G=>?_)
 have bW:=AH.same (w1:=aA) q5 (λk hk hl=>G.1.block k hl)
 have bX:=E5.same (w1:=aA) e4 (λk hk hl=>G.1.block k hl)
 have bY:=ED.same (w1:=aA) e5 (λk hk hl=>G.1.block k hl)
 have bZ:=q2.bl G.1
 have b':=q3.bl G.1
 have c0:=B3.below q6 G.1 (λa=>q6.lt a)
 have c2:=DL aJ G.1 (λa=>aJ.lt a)
 have c3:=Ci q1 G.1
 have cS:=G.2
 have b5:=(G).1.size
 rw [<- cR] at cS b5
 have eJ:=(q6).lt
 have eK:=(aJ).lt
 have hb1L:=(q2).lt
 have hb2L:=(q3).lt
 refine A1 (.fa Ay rfl Cr dD rfl)<|Br Cr rfl rfl rfl bZ (by exact Nat.le_of_ble_eq_true rfl) (λad V f ep=>?_)
 have V:B0 ad P _ _:=V
 have f:CK P _ _:=f
 have b6:=C9 b5 f.size
 have aK:=Bx cS f oM
 have c4:=AH.same (w1:=ad) bW (λk hk hl=>f.other k oM)
 have c5:=E5.same (w1:=ad) bX (λk hk hl=>f.other k oM)
 have c6:=ED.same (w1:=ad) bY (λk hk hl=>f.other k oM)
 have aL:=b'.up f
 have aM:=B3.upd c0 f ((λa=>by (have:=q7 a;omega)))
 have aN:=Ag.upd c2 f ((λa=>by (have:=aw a;omega)))
 have aO:=BU c3 oO f
 refine A0<|Ad<|A4<|A1 (.fa Ay rfl Cr dD rfl)<|Ah (Ae (Dv _) rfl V rfl)<|A1 (.lenS C2 rfl)<|A3 rfl<|A0<|AO ?_
 obtain ⟨M,hM⟩:=eX ad.heap.size
 have eq:=aO.size
 have e6:=(V).lt
 have e7:=(aL).lt
 have cT:=(aK).lt
 have er:=(aM).lt
 have es:=(aN).lt
 rw [<- hM] at eq e6 e7 cT er es
 have eO:LB<=M:=by have:=b6;omega
 refine BM (α:=List AC) (λt=>[(1,ptV P),(2,ptV b),(18,Af (cs.length:Int)),(19,Af (t.length:Int))]) (λt w'=>AL w w'/\B0 w' P #[Af k,Af i,.string (bs s),.slice nkp keys.length nkc,.slice xl.1 cs.length xl.2,.slice ndp data.length ndc] 27/\B0 w' b #[Af 0,Af 0,.string ⟨#[]⟩,.slice none 0 0,.slice none 0 0,.slice none 0 0] 27/\AH w' (λk=>k<w.heap.size) cs list/\B3 G7 w' nkp keys/\Ag w' ndp data/\AD EN 27 LB w' (.slice xl.1 cs.length xl.2) (t++cs.drop t.length)/\AH w' (λk=>M<=k) t (list.take t.length)/\M<=w'.heap.size/\t.length<=cs.length/\E5 (λk=>b<k/\k<LB) w' (.slice nkp keys.length nkc) keys/\ED (λk=>b<k/\k<LB) w' (.slice ndp data.length ndc) data) (λt=>cs.length-t.length) ([]) ⟨rfl,rfl,rfl,rfl,tT⟩ (⟨aO,V,aL,c4,aM,aN,aK,⟨rfl,λi h=>by simp at h⟩,oO,FI _,c5,c6⟩) (λt w1 hR=>?_)
 obtain ⟨zs,rfl⟩:=eX t
 obtain ⟨p1,p2,p3,p4,p5,p6,p7,p8,p9,eP,cU,cV⟩:=hR
 have b7:M<=w1.heap.size:=p9
 refine A4<|A1 (.lss rfl rfl)<|A0<|Ad<|Ai rfl (λaB=>?_) (λaB=>?_)
 have c7:=dT aB
 refine Ap<|Ad<|AO<|A4<|A3 rfl<|A9 rfl ?_
 have et:(zs++cs.drop zs.length)[zs.length]'(by rw [A8,Au];omega)=cs[zs.length]'oO:=by
  rw [CB (DP _)];simp [Yi]
 have eQ:(zs++cs.drop zs.length).length=cs.length:=by rw [A8,Au];omega
 have eu:=(p7).rowp.isp (by rw [A8,Au];omega)
 have ev:=(p7).rowp
 have eR:=(p7).lt
 refine D6 11 rfl BR (λw'=>w'.heap[P]?=w1.heap[P]?/\True) (λan l=>?_)
 have b8:=Fn b7 l
 have c8:=AD.drew p7 l
 have aP:=AH.same (w1:=an) p4 (λk hk hl=>(by obtain ⟨m,rfl⟩:=l;rfl))
 have c9:=AH.same (w1:=an) p8 (λk hk hl=>(by obtain ⟨m,rfl⟩:=l;rfl))
 have ca:=E5.same (w1:=an) cU (λk hk hl=>(by obtain ⟨m,rfl⟩:=l;rfl))
 have cb:=ED.same (w1:=an) cV (λk hk hl=>(by obtain ⟨m,rfl⟩:=l;rfl))
 have aQ:=p2.drew l
 have cc:=p3.drew l
 have aR:=p5.drew l
 have aS:=p6.drew l
 have aT:=ev.drew l
 have cd:=C6.below p1 l
 have a7:=Bs (aQ.trans p2.symm) Bi
 refine Ab 0 rfl (.fa Ay rfl Cr dD rfl) a7 ?_
 refine BX 1 rfl (λw' hw'=>Ae (Dv _) rfl ((hw'.1).trans p2) rfl) a7 rfl ?_
 refine Ab 2 rfl (.mv rfl) a7 ?_
 refine Ab 3 rfl (.fa Ay rfl Cr dD rfl) a7 ?_
 refine BX 4 rfl (λw' hw'=>Ae (Dv _) rfl ((hw'.1).trans p2) rfl) a7 rfl ?_
 refine Ab 5 rfl (.mv rfl) a7 ?_
 refine Ab 6 rfl (.ixm C2 CU rfl rfl (aT.isp oO) (zs.length) (rfl) oO) a7 ?_
 refine AX 7 rfl<|Ah (Dz Ay rfl Al aT (zs.length) oO rfl)<|A0<|⟨a7,?_⟩
 refine AX 8 rfl<|Bf BK rfl rfl ((ih (list[zs.length]'oO) (ef _ oO) _ (λk=>k<w.heap.size) _ _ _ (by rw [et];exact (aP).sub zs.length oO oO) (ee _ (AA _)).choose_spec)) (λz ao y=>?_)
 have b9:=C9 b8 y.2.size
 have aU:=AD.below c8 y.2
 have cf:=AH.same (w1:=ao) aP (λk hk hl=>y.2.block k hl)
 have cg:=AH.same (w1:=ao) c9 (λk hk hl=>y.2.block k hl)
 have ci:=E5.same (w1:=ao) ca (λk hk hl=>y.2.block k hl)
 have cj:=ED.same (w1:=ao) cb (λk hk hl=>y.2.block k hl)
 have ap:=aQ.bl y.2
 have ck:=cc.bl y.2
 have cl:=B3.below aR y.2 (λa=>aR.lt a)
 have cm:=DL aS y.2 (λa=>aS.lt a)
 have cn:=Ci cd y.2
 have hz:=(y.1).1.mono (T:=λk=>M<=k) (λk hk _=>by (have:=C6.size l);omega)
 have ew:=(cg).pushA hz
 refine A0<|⟨⟨(ap).trans (p2).symm,tT⟩,?_⟩
 refine Ab 9 rfl (.ixm C2 CU rfl rfl eu zs.length rfl oO) ⟨(ap).trans (p2).symm,tT⟩ ?_
 refine AX 10 rfl<|Kb (L:=EN) (z) (zs.length) aU oO Al rfl rfl rfl (λaq ba af v bb=>?_)
 have e8:=(aU).lt ba (by rw [af];rfl)
 have eS:=cT ba (by rw [af];rfl)
 have co:=AH.same (w1:=aq) cf (λk hk hl=>v.other k oM)
 have cq:=AH.same (w1:=aq) ew (λk hk hl=>v.other k oM)
 have cr:=E5.same (w1:=aq) ci (λk hk hl=>v.other k oM)
 have ct:=ED.same (w1:=aq) cj (λk hk hl=>v.other k oM)
 have aV:=ap.up v
 have cu:=ck.up v
 have cv:=B3.upd cl v ((λa=>by (have:=q7 a;omega)))
 have cw:=Ag.upd cm v ((λa=>by (have:=aw a;omega)))
 have cy:=BU cn oO v
 have bc:=C9 b9 v.size
 have cW:=bb
 rw [Ty rfl oO] at cW
 have ae:=cq
 have ex:list.take zs.length++[list[zs.length]'oO]=list.take (zs++[z]).length:=by rw [A8];exact (Bg oO).symm
 rw [ex] at ae
 refine A0<|⟨⟨(aV).trans (p2).symm,tT⟩,?_⟩
 refine BH kR<|Am<|A1 (.iis (((zs++[z]).length:Int)) (.add rfl rfl (Ba oO)) (by rw [A8];simp))<|A3 rfl<|A0<|?_
 exact ⟨zs++[z],⟨rfl,rfl,rfl,rfl,tT⟩,⟨cy,aV,cu,co,cv,cw,by rw [A8];exact cW,ae,bc,(by rw [A8];simp;omega),cr,ct⟩,by rw [A8];simp;omega⟩
 have c7:=dF aB
 refine BF<|A4<|Ah (Bk rfl p2 Ay rfl Al)<|Ax rfl rfl p3 Al rfl rfl (λaC bd H ey=>?_)
 have ez:=C9 b7 H.size
 have cz:=Bx p7 H oM
 have cA:=AH.same (w1:=aC) p8 (λk hk hl=>H.other k oM)
 have cB:=E5.same (w1:=aC) cU (λk hk hl=>H.other k oM)
 have cC:=ED.same (w1:=aC) cV (λk hk hl=>H.other k oM)
 have cD:=B3.upd p5 H ((λa=>by (have:=q7 a;omega)))
 have cE:=Ag.upd p6 H ((λa=>by (have:=aw a;omega)))
 have cF:=BU p1 oO H
 refine A0<|AT (BI rfl rfl (Be bd Ay rfl Al)  ?_)
 obtain eA:zs.length=cs.length:=by omega
 have ar:=(cz).cast (show zs++cs.drop zs.length=zs by rw [List.drop_of_length_le oO,FB])
 have ae:=cA
 rw [An oO] at ae
 obtain ⟨-,r2,r3,r4,r5⟩:=ar.full
 refine ⟨⟨k,i,s,nkp,keys.length,nkc,xl.1,cs.length,xl.2,ndp,data.length,ndc⟩,Ff rfl,⟨AB.mk ⟨k,i,s,nkp,keys.length,nkc,xl.1,cs.length,xl.2,ndp,data.length,ndc⟩ keys list data zs ⟨m8,m7,rfl,eA.symm,rfl,q8,r2,cN,q9,r3,cO⟩ e9 cD (λa=>by have:=q7 a;show w.heap.size<=(pA nkp).block;omega) r4 (λa=>by have:=(ar.lt _ (r5 a)).1;show w.heap.size<=(pA xl.1).block;omega) cE (λa=>by have:=aw a;show w.heap.size<=(pA ndp).block;omega) oO (λj h1 h2=>(ae.sub j h1 h2).mono λk hk _=>by omega),⟨⟨_,(cB).mono (λk hk _=>by omega)⟩,⟨_,ar.base (λg hg=>FI _),λg hg=>by have:=ar.lt g hg;omega⟩,⟨_,(cC).mono (λk hk _=>by omega)⟩⟩⟩,cF⟩
end
section
theorem A0o (n:Int) (w:World):Calls Tryz.prog 64 #[Af n] w λe w'=>e=.returned (.bool (Cy n))/\w=w' :=
 (IH n w).mono λe w' h=>⟨h.1,h.2⟩
def A7H (k:Int) (ks:List (l8_)) (i:Nat):Prop:=(∀ x∈ks.take i,KL x)/\(ks.take i).Nodup/\(k=9->[76,101,110,103,116,104] ∉ ks.take i)
end
section
theorem AB.kind  {x:AC} {o:AV} (h:AB w S x o):o.kind=x.kind:=by
 cases h;rfl
end
section
structure ZF (os:List AV):Prop where
 snd:∀ o∈os,FY 32 true o
 sml:∀ o∈os,o.list.length<=100
 len:os.length<=4096
 size:(EH (os.map Dd)).length<=1048576
def CE (os:List AV):l8_:=EH (os.map Dd)
def Di (os:List AV):List Nat:=Ds 9 0 (os.map Dd)
theorem Hk (os:List AV):(Di os).length=os.length:=by unfold Di;rw [Hl,By]
theorem A1s (os:List AV) (j:Nat) (hj:j<os.length):∃ R,OQ j (Dd os[j]) R <:+ CE os/\(Di os)[j]'(by rw [Hk];exact hj)=sx (CE os) (OQ j (Dd os[j]) R):=by
 obtain ⟨X,hX⟩:∃ X,CE os=JZ++(Ez 0 (os.map Dd)++X):=⟨_,rfl⟩
 obtain ⟨hp,R,a,b⟩:=Q3 (os.map Dd) JZ X 0 j (by rw [By];exact hj)
 rw [G5,Do] at a
 rw [<- hX] at a
 have e:MG j (Dd os[j])++R=OQ j (Dd os[j]) R:=by
  unfold MG OQ A1t Qx HY
  simp only [AS,Bb,C4]
 rw [e] at a
 have d:(Di os)[j]'(by rw [Hk];exact hj)<=(CE os).length:=by
  rw [hX];simp only [A8] at b ⊢
  have c:(Di os)[j]'(by rw [Hk];exact hj)=(Ds JZ.length 0 (os.map Dd))[j]:=rfl
  omega
 refine ⟨R,?_,?_⟩
 · rw [<- a];exact List.drop_suffix _ _
 ·
  unfold sx
  rw [<- a,Au]
  have c:(Di os)[j]'(by rw [Hk];exact hj)=(Ds JZ.length 0 (os.map Dd))[j]:=rfl
  omega
theorem FY.nine  {o:AV} (h:FY D st o) (h9:o.kind=9):∃ ks vs d,o=.mk 9 0 [] ks vs d:=by
 cases h with
 | null=>simp [AV.kind] at h9
 | bool=>simp [AV.kind] at h9
 | num _ _ k n hk hf=>rcases hk with rfl | rfl <;> simp [AV.kind] at h9
 | name=>simp [AV.kind] at h9
 | text=>simp [AV.kind] at h9
 | ref=>simp [AV.kind] at h9
 | arr=>simp [AV.kind] at h9
 | dict _ _ k ks l d hk =>
  have:k=9:=h9
  subst this
  exact ⟨ks,l,d,rfl⟩
theorem Rm (bf:Nat) (S:Nat->Prop) (os:List AV) (H:ZF os) (j:Nat) (hj:j<os.length) (w:World) (h:AM S w bf (CE os) (Di os)) :
  Calls Tryz.prog 111 #[ptV bf,Af ((j+1:Nat):Int)] w λe w'=>∃ z:AC,e=.returned (.tuple #[.agg (DN z).toArray,Af 0])/\Kp w' (λk=>w.heap.size<=k) z os[j]/\AL w w':=by
 obtain ⟨R,a,b⟩:=A1s os j hj
 have hS:=H.snd _ (AA hj)
 have hm:=H.sml _ (AA hj)
 have hl:=Hk os
 have c:=H.len
 generalize os[j]=o at *
 by_cases h9:o.kind=9
 ·
  obtain ⟨ks,vs,d,rfl⟩:=hS.nine h9
  exact Rk bf S _ _ j ks vs d R w h H.size oO oO a b hS hm
 · exact Rl bf S _ _ j o R w h H.size oO oO a b hS h9
theorem Rj (bf:Nat) (S:Nat->Prop) (l:l8_) (ps:List Nat) (w:World) (h:AM S w bf l ps) (hps:ps.length<=4096) :
  Calls Tryz.prog 34 #[ptV bf] w λe w'=>∃ z:AC,e=.returned (.agg (DN z).toArray)/\Kp w' (λk=>w.heap.size<=k) z (ST (ps.length+1))/\AL w w':=by
 obtain ⟨p,c,bm,y,hf,-,hb,-,hc,hm,-,hy⟩:=h
 have d:=SS (ps.length+1) oO
 have i:=hy.rep (by rw [<- Wg];exact T1 d)
 rw [<- Wg,A1Y d (by simp [ST,AV.kind])] at i
 refine Ar func34 rfl ntmps34 ?_
 have u:=CN w
 refine A4<|Bj Cz rfl (λJ j m o a G=>?_)
 have v:=AB.same (w1:=j) i (λk hk hl=>a.other k oO)
 have x:=Bl m hf.lt
 have A:=hf.un a x
 have B:=uB u m a
 refine A0<|Ad<|A4<|A3 rfl<|A1 (.eqP ZX rfl)<|A0<|Aq rfl rfl<|Ap<|A4<|A3 rfl<|A1 (.nck rfl)<|A1 (.fa R6 rfl CU dD rfl)<|Ah (I7 (L:=EN) Ay rfl Al A (CW y) (rfl) rfl)<|Bf BK rfl rfl ((NW _ _ (ON _) (CW y) S _ _ _ v d)) (λz H f=>?_)
 have C:=o.bl f.2
 have q:=Ci B f.2
 have hz:=(f.1).mono (T:=λk=>w.heap.size<=k/\j.heap.size<=k/\k<H.heap.size) (λk hk D=>⟨oO,hk,D⟩)
 refine Ax rfl rfl C Al rfl rfl (λE g b F=>?_)
 have s:=Kp.same (w1:=E) hz (λk hk hl=>b.other k oM)
 have t:=BU q oO b
 refine A0<|AT (BI rfl rfl (Be g Ay rfl Al)  ?_)
 exact ⟨z,rfl,(s).mono (λk hk _=>hk.1),t⟩
def Fj (os:List AV):Nat->AV->Option AV
 | 0,o=>if o.kind=8 then none else some o
 | f+1,o=>if o.kind=8 then Fj os f (os.getD (o.n-1).toNat (.mk 0 0 [] [] [] [])) else some o
theorem Gs (os:List AV) (f:Nat) (o:AV) (h:o.kind≠8):Fj os f o=some o:=by
 cases f <;> simp [Fj,h]
theorem DQ (w:World) (S:Nat->Prop):AB w S (CW (DK 0 0 [])) (.mk 0 0 [] [] [] []):=by
 have:=(BP.zero w S 0 0 []).rep (.mk _ _ _ _ _ oO (by simp) (by simp) (by simp))
 rw [show SI (Jm 0 0 [])=.mk 0 0 [] [] [] [] by simp [Jm,SI,Yb]] at this
 exact this
theorem AB.nE  {x:AC} {o:AV} (h:AB w S x o):o.n=x.n:=by cases h;rfl
theorem Fv (bf:Nat) (S:Nat->Prop) (os:List AV) (H:ZF os) (hrange:∀ o∈os,o.kind=8->1<=o.n/\o.n<=os.length) (x:AC) (o:AV) (T:Nat->Prop) (R:Option AV) (w:World) (h:AM S w bf (CE os) (Di os)) (hx:AB w T x o) (hS:FY 32 true o)
    (hr:o.kind=8->1<=o.n/\o.n<=os.length) (hR:Fj os 32 o=R) :
    Calls Tryz.prog 80 #[ptV bf,.agg (DN x).toArray] w λe w'=>∃ z:AC,e=.returned (.tuple #[.agg (DN z).toArray,Af (if R.isSome then 0 else 27)])/\AB w' (λk=>w.heap.size<=k) z (R.getD (.mk 0 0 [] [] [] []))/\AL w w':=by
  have aw:AM (λk=>k<w.heap.size) w bf (CE os) (Di os):=h.mono λk _ hk=>hk
  have ax:AB w (λk=>k<w.heap.size) x o:=hx.mono λk _ hk=>hk
  refine Ar func80 rfl ntmps80 ?_;have ay:=CN w;refine A4<|WL.box rfl rfl (λJ a6 az K g aW=>?_);have aA:=AM.same (w1:=a6) aw (λk hk hl=>g.other k oO);have aB:=AB.same (w1:=a6) ax (λk hk hl=>g.other k oO);have aC:=uB ay az g;refine Bj Cz rfl (λL a7 a8 ac d aX=>?_);have aD:=AM.same (w1:=a7) aA (λk hk hl=>d.other k oO);have aE:=AB.same (w1:=a7) aB (λk hk hl=>d.other k oO);have aF:=Bl a8 K.lt;have aG:=K.un d aF;have ad:=uB aC a8 d;refine A9 rfl<|Ad<|A4<|A3 rfl<|A1 (.eqP ZX rfl)<|A0<|Aq rfl rfl<|Ap<|Ad<|A4<|A3 rfl<|A0<|AO ?_;have aH:=(aE).mono (T:=λk=>k≠J/\k≠L) (λk hk _=>by omega);refine BM (α:=AC × AV × Nat) (λt=>[(0,ptV bf),(3,ptV J),(4,ptV L),(10,Af (t.2.2:Int))]) (λt w'=>AL w w'/\B0 w' J (DN t.1).toArray 27/\B0 w' L #[Af 0,Af 0,.string ⟨#[]⟩,.slice none 0 0,.slice none 0 0,.slice none 0 0] 27/\AM (λk=>k<w.heap.size) w' bf (CE os) (Di os)/\AB w' (λk=>k≠J/\k≠L) t.1 t.2.1/\FY 32 true t.2.1/\(t.2.1.kind=8->1<=t.2.1.n/\t.2.1.n<=os.length)/\Fj os (32-t.2.2) t.2.1=R/\t.2.2<=32) (λt=>32-t.2.2) ((x,o,0)) ⟨rfl,rfl,rfl,rfl,tT⟩ (⟨ad,aG,ac,aD,aH,hS,hr,hR,FI _⟩) (λt w1 hR=>?_);obtain ⟨y,u,i⟩:=t;obtain ⟨G,l,m,p4,N,p6,p7,f,p9⟩:=hR;simp only at l N p6 p7 f p9 ⊢;have a9:=N.kind;have aI:=N.nE;refine A4<|A1 (.lss rfl rfl)<|A0<|Ad<|Ai rfl (λP=>?_) (λP=>?_)
  · have ae := dT P
    refine Ap<|Ad<|AO<|Ad<|A4<|A1 (.fa Ay rfl Bw dD rfl)<|Ah (Ae (BZ _) rfl l rfl)<|A1 (.bis (!decide (u.kind=8)) (.neq rfl rfl) (by rw [a9]))<|A0<|Ai rfl (λQ=>?_) (λQ=>?_)
    · have af := ndT Q
      have a:R=some u:=by rw [<- f];exact Gs _ _ _ aS
      subst a;refine A4<|Ah (Bk rfl l Ay rfl Al)<|?_;have U:=(m).lt;have a0:=G.size;refine Bf BK rfl rfl ((NW _ u (ON _) y _ _ _ _ N p6)) (λz aJ s=>?_);have ag:=m.bl s.2;have ah:=Ci G s.2;have hz:=(s.1).1.mono (T:=λk=>w.heap.size<=k/\w1.heap.size<=k/\k<aJ.heap.size) (λk hk D=>⟨oO,hk,D⟩);refine Ax rfl rfl ag Al rfl rfl (λaK a1 E aR=>?_);have V:=AB.same (w1:=aK) hz (λk hk hl=>E.other k oM);have v:=BU ah oO E;refine A9 rfl<|AT (Dn rfl rfl (Be a1 Ay rfl Al) rfl ?_)
      first
      | exact ⟨z,rfl,(V).mono (λk hk _=>hk.1),v⟩
      | (obtain rfl : i = 32 := by omega
         have a:R=none:=by
           rw [<- f]
           show Fj os 0 u=none
           unfold Fj;exact A7 aS
         subst a;exact ⟨CW (DK 0 0 []),rfl,DQ _ _,v⟩)
      | (have a : R = some u := by rw [← f]; exact Gs _ _ _ aS
         subst a;exact ⟨z,rfl,(V).mono (λk hk _=>hk.1),v⟩)
    have af:=ndF Q;have aa:u.kind=8:=by assumption
    obtain ⟨r1,r2⟩:=p7 aa;obtain ⟨j,aL⟩:∃ j:Nat,u.n=((j+1:Nat):Int):=⟨(u.n-1).toNat,oO⟩;have hj:j<os.length:=by omega
    have aM:y.n=((j+1:Nat):Int):=by rw [<- aI];exact aL
    have aN:os.getD (u.n-1).toNat (.mk 0 0 [] [] [] [])=os[j]:=by
      rw [show (u.n-1).toNat=j by omega,BY,Aj hj];rfl
    refine Ap<|A4<|A9 rfl<|A4<|A3 rfl<|A1 (.fa Ay rfl Bw dD rfl)<|Ah (Ae (BZ _) rfl l rfl)<|?_;have U:=(m).lt;refine Bf BK rfl rfl ((by have q:=Rm bf _ os H j hj _ p4;rw [<- aM] at q;exact q)) (λz aO c=>?_);have ai:=AM.same (w1:=aO) p4 (λk hk hl=>c.2.block k hl);have aj:=l.bl c.2;have ak:=m.bl c.2;have am:=Ci G c.2;have hz:=(c.1).1.mono (T:=λk=>k≠J/\k≠L) (λk hk D=>⟨oO,oO⟩);refine A3 rfl<|A1 (.ext rfl rfl)<|A1 (.ext rfl rfl)<|Ax rfl rfl aj Al rfl rfl (λab a2 b aT=>?_);have an:=AM.same (w1:=ab) ai (λk hk hl=>b.other k oM);have ao:=AB.same (w1:=ab) hz (λk hk hl=>b.other k oM);have ap:=ak.up b;have aq:=BU am oO b;refine A9 rfl<|A4<|A3 rfl<|A1 (.bis (false) (.neq rfl rfl) dD)<|A0<|Aq rfl rfl<|Ap<|Am<|A1 (.iis (((i+1:Nat):Int)) (.add rfl rfl (Ba oO)) oO)<|A3 rfl<|A0<|?_;exact ⟨(z,os[j],i+1),⟨rfl,rfl,rfl,rfl,tT⟩,⟨aq,a2,ap,an,ao,H.snd _ (AA hj),hrange _ (AA hj),by (have q:=f);(rw [show 32-i=(32-(i+1))+1 by omega,Fj,A7 aa,aN] at q);exact q,oM⟩,oM⟩
  have ae:=dF P;refine BF<|Ad<|A4<|A1 (.fa Ay rfl Bw dD rfl)<|Ah (Ae (BZ _) rfl l rfl)<|A1 (.bis (decide (u.kind=8)) (.eql rfl rfl) (by rw [a9]))<|A0<|Ai rfl (λX=>?_) (λX=>?_)
  · have ar := dT X
    refine A4<|A1 (.buildL (ps:=_) Er rfl rfl rfl pZ) ?_;refine Ax rfl rfl m Al rfl rfl (λaY a3 a4 aU=>?_);have A:=BU G oO a4;refine A9 rfl<|AT (Dn rfl rfl (Be a3 Ay rfl Al) rfl ?_)
    first
    | exact ⟨z,rfl,(FACT).mono (λk hk _=>hk.1),A⟩
    | (obtain rfl : i = 32 := by omega
       have a:R=none:=by
         rw [<- f]
         show Fj os 0 u=none
         unfold Fj;exact A7 aS
       subst a;exact ⟨CW (DK 0 0 []),rfl,DQ _ _,A⟩)
    | (have a : R = some u := by rw [← f]; exact Gs _ _ _ aS
       subst a;exact ⟨z,rfl,(FACT).mono (λk hk _=>hk.1),A⟩)
  have ar:=dF X;refine Ap<|A4<|Ah (Bk rfl l Ay rfl Al)<|?_;have U:=(m).lt;have a0:=G.size;refine Bf BK rfl rfl ((NW _ u (ON _) y _ _ _ _ N p6)) (λz aP B=>?_);have au:=m.bl B.2;have av:=Ci G B.2;have hz:=(B.1).1.mono (T:=λk=>w.heap.size<=k/\w1.heap.size<=k/\k<aP.heap.size) (λk hk D=>⟨oO,hk,D⟩);refine Ax rfl rfl au Al rfl rfl (λaQ a5 F aV=>?_);have Y:=AB.same (w1:=aQ) hz (λk hk hl=>F.other k oM);have C:=BU av oO F;refine A9 rfl<|AT (Dn rfl rfl (Be a5 Ay rfl Al) rfl ?_)
  first
  | exact ⟨z,rfl,(Y).mono (λk hk _=>hk.1),C⟩
  | (obtain rfl : i = 32 := by omega
     have a:R=none:=by
       rw [<- f]
       show Fj os 0 u=none
       unfold Fj;exact A7 aS
     subst a;exact ⟨CW (DK 0 0 []),rfl,DQ _ _,C⟩)
  | (have a : R = some u := by rw [← f]; exact Gs _ _ _ aS
     subst a;exact ⟨z,rfl,(Y).mono (λk hk _=>hk.1),C⟩)
end
section
def Nr (s:List (l8_)) (x:l8_):Int:=if x∈s then (s.idxOf x:Int) else -1
theorem Tr {s:List (l8_)} {x:l8_} {k:Nat} (hk:k<s.length) (hx:s[k]=x) (hf:x ∉ s.take k):Nr s x=(k:Int):=by
 have hm:x∈s:=hx▸AA hk
 unfold Nr
 rw [A7 hm]
 congr 1
 have a:s=s.take k++s.drop k:=(Dx k s).symm
 rw [a,List.idxOf_append,A2 hf,Aw hk,hx,List.idxOf_cons_self,At]
 omega
theorem A0L {s:List (l8_)} {x:l8_} {k:Nat} (hk:k<s.length) (hf:x ∉ s.take k) (hx:s[k]≠x):x ∉ s.take (k+1):=by
 rw [List.take_add_one,Aj hk,Option.toList_some,B9,not_or,B8]
 exact ⟨hf,λe=>hx e.symm⟩
theorem Qn (q:Option Addr) (s:List (l8_)) (c:Nat) (x:l8_) (w:World) (hb:B3 G7 w q s) (hl:s.length<=9223372036854775807) :
  Calls Tryz.prog 60 #[.slice q s.length c,.string (bs x)] w λe w'=>e=.returned (Af (Nr s x))/\w=w':=by
 refine Ar func60 rfl ntmps60<|A4<|A9 rfl<|Ad<|A4<|A3 rfl<|A1 (.lenS Dy rfl)<|A3 rfl<|A0<|AO<|BM (α:=Nat) (λt=>[(0,.slice q s.length c),(1,.string (bs x)),(7,Af (s.length:Int)),(8,Af (t:Int))]) (λt w'=>w=w'/\t<=s.length/\x ∉ s.take t) (λt=>s.length-t) (0) ⟨rfl,rfl,rfl,rfl,tT⟩ (⟨rfl,FI _,by simp⟩) (λt g hR=>?_)
 obtain ⟨k,rfl⟩:=eX t
 obtain ⟨rfl,hk,hf⟩:=hR
 refine A4<|A1 (.lss rfl rfl)<|A0<|Ad<|Ai rfl (λa=>?_) (λa=>?_)
 have d:=dT a
 refine Ap<|Ad<|AO<|A4<|A3 rfl<|A9 rfl<|A4<|A3 rfl<|A3 rfl<|A3 rfl<|A1 (.ixb Dy FH rfl rfl (hb.isp oO) (k) (rfl) oO)<|Ah (Bq (FX _) rfl (hb.cells (k) oO))<|A1 (.eqs rfl rfl)<|A0<|Ai rfl (λb=>?_) (λb=>?_)
 have f:=dT b
 refine A4<|A3 rfl<|A9 rfl<|AW ?_
 exact ⟨Ff (BJ (Value.int .i64) (Tr (Int.ofNat_lt.1 aS) (Eq.symm aS) hf).symm),rfl⟩
 have f:=dF b
 refine Ap<|Am<|A1 (.iis (((k+1:Nat):Int)) (.add rfl rfl (Ba oO)) oO)<|A3 rfl<|A0<|?_
 exact ⟨k+1,⟨rfl,rfl,rfl,rfl,tT⟩,⟨rfl,oM,A0L oO hf (λe=>De e.symm aS)⟩,oM⟩
 have d:=dF a
 refine BF<|A4<|A9 rfl<|AW ?_
 exact ⟨Ff (BJ (Value.int .i64) (by unfold Nr;rw [A2 (by rw [show k=s.length by omega,Dc] at hf;exact hf)])),rfl⟩
def Dg (o:AV) (k:l8_):Option AV:=if o.kind=7\/o.kind=9 then (if k∈o.keys then o.list[o.keys.idxOf k]? else none) else none
def A6a:AV:=.mk 0 0 [] [] [] []
def F2:AC:=CW (DK 0 0 [])
theorem Za {o:AV} {k:l8_} (h:¬ (o.kind=7\/o.kind=9)):Dg o k=none:=A2 h
theorem GL {o:AV} {k:l8_} (h:Nr o.keys k<0\/(o.list.length:Int)<=Nr o.keys k):Dg o k=none:=by
 unfold Dg
 split
 ·
  split
  ·
   rename_i hm
   unfold Nr at h
   rw [A7 hm] at h
   exact AZ oO
  · rfl
 · rfl
theorem XJ {o:AV} {k:l8_} (hk:o.kind=7\/o.kind=9) (h:Nr o.keys k=(i:Int)) (hi:i<o.list.length):Dg o k=some o.list[i]:=by
 unfold Dg
 unfold Nr at h
 split at h
 ·
  rename_i hm
  have:o.keys.idxOf k=i:=by omega
  rw [A7 hk,A7 hm,this,Aj hi]
 · omega
theorem HS (x:AC) (o:AV) (S:Nat->Prop) (k:l8_) (w:World) (h:AB w S x o) :
  Calls Tryz.prog 37 #[.agg (DN x).toArray,.string (bs k)] w λe w'=>∃ z:{ z:AC // AB w S z ((Dg o k).getD A6a) },e=.returned (.tuple #[.agg (DN z.1).toArray,.bool (Dg o k).isSome])/\AL w w':=by
 obtain ⟨keys,list,data,cs,ho,ok,aH,hk,aI,hr,aJ,hd,aK,aE,B⟩:=h.inv
 obtain ⟨xk,xn,xt,xkp,xkl,xkc,xlp,xll,xlc,xdp,xdl,xdc⟩:=x
 have o1:=ok.kl
 have o2:=ok.ll
 have o3:=ok.kc
 have o4:=ok.km
 have o5:=ok.lc
 have o6:=ok.lm
 simp only at o1 o2 o3 o4 o5 o6 ho hk hr
 subst o1 o2
 have aL:o.kind=xk:=by rw [ho];rfl
 have l:o.keys=keys:=by rw [ho];rfl
 have m:o.list=list:=by rw [ho];rfl
 simp only [DN]
 refine Ar func37 rfl ntmps37 ?_
 have a6:=CN w
 refine A4<|WL.box rfl rfl (λb1 aM A C y aF=>?_)
 have aa:=λc=>A▸hk.lt c
 have a7:=B3.upd hk y (λc=>CR (aa c))
 have ab:=λc=>A▸hr.lt c
 have a8:=AG.upd hr y (λc=>CR (ab c))
 have a9:=uB a6 A y
 have av:=CF A a6.size
 refine Bj Cz rfl (λb7 aN u d s aG=>?_)
 have au:=Bl u C.lt
 have j:=C.un s au
 have H:=λc=>u▸a7.lt c
 have D:=B3.upd a7 s (λc=>CR (H c))
 have J:=λc=>u▸a8.lt c
 have t:=AG.upd a8 s (λc=>CR (J c))
 have f:=uB a9 u s
 have aw:=CF u a9.size
 refine A9 rfl<|Ad<|A4<|A1 (.fa Ay rfl Bw dD rfl)<|Ah (Ae (BZ _) rfl j rfl)<|A1 (.neq rfl rfl)<|A3 rfl<|Ck rfl rfl rfl (λg=>?_) (λg=>?_)
 have ac:=ndT g
 refine A1 (.fa Ay rfl Bw dD rfl)<|Az g<|Ah (Ae (BZ _) rfl j rfl)<|Az g<|A1 (.neq rfl rfl)<|A1 (.pkT rfl g rfl)<|A0<|Ai rfl (λE=>?_) (λE=>?_)
 have ad:=ndT E
 have hn:Dg o k=none:=Za oO
 refine A4<|A1 (.buildL (ps:=_) Er rfl rfl rfl pZ) ?_
 refine Ax rfl rfl d Al rfl rfl (λaO K L ax=>?_)
 have ae:=BU f oO L
 refine A9 rfl<|AT (Dn rfl rfl (Be K Ay rfl Al) rfl ?_)
 exact ⟨⟨F2,by rw [hn];exact DQ _ _⟩,Ff (show Value.tuple #[.agg (DN F2).toArray,.bool false]=Value.tuple #[.agg (DN F2).toArray,.bool (Dg o k).isSome] by rw [hn];rfl),ae⟩
 have ad:=ndF E
 refine Ap<|A4<|A1 (.fa Ay rfl DU dD rfl)<|Ah (Ae (Fg _) rfl j rfl)<|A3 rfl<|Cm BK rfl rfl ((Qn _ keys _ k _ D oO)) (λaP af=>?_)
 obtain rfl:=af
 refine A9 rfl<|Ad<|A4<|A3 rfl<|A1 (.lss rfl rfl)<|A3 rfl<|Ck rfl rfl rfl (λa=>?_) (λa=>?_)
 have ag:=dF a
 refine A3 rfl<|Az a<|A1 (.fa Ay rfl Cr dD rfl)<|Az a<|Ah (Ae (Dv _) rfl j rfl)<|Az a<|A1 (.lenS C2 rfl)<|Az a<|A1 (.geq rfl rfl)<|A1 (.pkF rfl a rfl)<|A0<|Ai rfl (λF=>?_) (λF=>?_)
 have ah:=dT F
 have hn:Dg o k=none:=GL (by rw [l,m];omega)
 refine A4<|A1 (.buildL (ps:=_) Er rfl rfl rfl pZ) ?_
 refine Ax rfl rfl d Al rfl rfl (λaQ P Q ay=>?_)
 have ai:=BU f oO Q
 refine A9 rfl<|AT (Dn rfl rfl (Be P Ay rfl Al) rfl ?_)
 exact ⟨⟨F2,by rw [hn];exact DQ _ _⟩,Ff (show Value.tuple #[.agg (DN F2).toArray,.bool false]=Value.tuple #[.agg (DN F2).toArray,.bool (Dg o k).isSome] by rw [hn];rfl),ai⟩
 have ah:=dF F
 obtain ⟨i,hi⟩:∃ i:Nat,Nr keys k=i:=⟨(Nr keys k).toNat,oO⟩
 have v:i<list.length:=by omega
 have hn:Dg o k=some list[i]:=by
  have q:=XJ (o:=o) (k:=k) (i:=i) oO (by rw [l];exact hi) (by rw [m];exact v);simp only [m] at q;exact q
 refine Ap<|A4<|A1 (.fa Ay rfl Cr dD rfl)<|Ah (Ae (Dv _) rfl j rfl)<|A3 rfl<|A1 (.ixm C2 CU rfl rfl (t.isp oO) (i) (hi) (by show i<cs.length;omega))<|Ah (Dz Ay rfl Al t (i) oO rfl)<|Ax rfl rfl d Al rfl rfl (λaR T U az=>?_)
 have aj:=BU f oO U
 refine A9 rfl<|AT (Dn rfl rfl (Be T Ay rfl Al) rfl ?_)
 exact ⟨⟨cs[i],by rw [hn];exact (B i oO v)⟩,Ff (show Value.tuple #[.agg (DN cs[i]).toArray,.bool true]=Value.tuple #[.agg (DN cs[i]).toArray,.bool (Dg o k).isSome] by rw [hn];rfl),aj⟩
 have ag:=dT a
 refine Bc a<|Bc a<|Bc a<|Bc a<|A1 (.pkT rfl a rfl)<|A0<|BQ rfl rfl ?_
 refine A4<|A1 (.buildL (ps:=_) Er rfl rfl rfl pZ) ?_
 refine Ax rfl rfl d Al rfl rfl (λaS V X aA=>?_)
 have ak:=BU f oO X
 refine A9 rfl<|AT (Dn rfl rfl (Be V Ay rfl Al) rfl ?_)
 (have hn:Dg o k=none:=GL (.inl (by rw [l];assumption));exact ⟨⟨F2,by rw [hn];exact DQ _ _⟩,Ff (show Value.tuple #[.agg (DN F2).toArray,.bool false]=Value.tuple #[.agg (DN F2).toArray,.bool (Dg o k).isSome] by rw [hn];rfl),ak⟩)
 have ac:=ndF g
 refine Bc g<|Bc g<|A1 (.pkF rfl g rfl)<|A0<|Aq rfl rfl<|Ap<|A4<|A1 (.fa Ay rfl DU dD rfl)<|Ah (Ae (Fg _) rfl j rfl)<|A3 rfl<|Cm BK rfl rfl ((Qn _ keys _ k _ D oO)) (λaT am=>?_)
 obtain rfl:=am
 refine A9 rfl<|Ad<|A4<|A3 rfl<|A1 (.lss rfl rfl)<|A3 rfl<|Ck rfl rfl rfl (λb=>?_) (λb=>?_)
 have an:=dF b
 refine A3 rfl<|Az b<|A1 (.fa Ay rfl Cr dD rfl)<|Az b<|Ah (Ae (Dv _) rfl j rfl)<|Az b<|A1 (.lenS C2 rfl)<|Az b<|A1 (.geq rfl rfl)<|A1 (.pkF rfl b rfl)<|A0<|Ai rfl (λG=>?_) (λG=>?_)
 have ao:=dT G
 have hn:Dg o k=none:=GL (by rw [l,m];omega)
 refine A4<|A1 (.buildL (ps:=_) Er rfl rfl rfl pZ) ?_
 refine Ax rfl rfl d Al rfl rfl (λaU a0 a1 aB=>?_)
 have ap:=BU f oO a1
 refine A9 rfl<|AT (Dn rfl rfl (Be a0 Ay rfl Al) rfl ?_)
 exact ⟨⟨F2,by rw [hn];exact DQ _ _⟩,Ff (show Value.tuple #[.agg (DN F2).toArray,.bool false]=Value.tuple #[.agg (DN F2).toArray,.bool (Dg o k).isSome] by rw [hn];rfl),ap⟩
 have ao:=dF G
 obtain ⟨i,hi⟩:∃ i:Nat,Nr keys k=i:=⟨(Nr keys k).toNat,oO⟩
 have v:i<list.length:=by omega
 have hn:Dg o k=some list[i]:=by
  have q:=XJ (o:=o) (k:=k) (i:=i) oO (by rw [l];exact hi) (by rw [m];exact v);simp only [m] at q;exact q
 refine Ap<|A4<|A1 (.fa Ay rfl Cr dD rfl)<|Ah (Ae (Dv _) rfl j rfl)<|A3 rfl<|A1 (.ixm C2 CU rfl rfl (t.isp oO) (i) (hi) (by show i<cs.length;omega))<|Ah (Dz Ay rfl Al t (i) oO rfl)<|Ax rfl rfl d Al rfl rfl (λaV a2 a3 aC=>?_)
 have aq:=BU f oO a3
 refine A9 rfl<|AT (Dn rfl rfl (Be a2 Ay rfl Al) rfl ?_)
 exact ⟨⟨cs[i],by rw [hn];exact (B i oO v)⟩,Ff (show Value.tuple #[.agg (DN cs[i]).toArray,.bool true]=Value.tuple #[.agg (DN cs[i]).toArray,.bool (Dg o k).isSome] by rw [hn];rfl),aq⟩
 have an:=dT b
 refine Bc b<|Bc b<|Bc b<|Bc b<|A1 (.pkT rfl b rfl)<|A0<|BQ rfl rfl ?_
 refine A4<|A1 (.buildL (ps:=_) Er rfl rfl rfl pZ) ?_
 refine Ax rfl rfl d Al rfl rfl (λaW a4 a5 aD=>?_)
 have ar:=BU f oO a5
 refine A9 rfl<|AT (Dn rfl rfl (Be a4 Ay rfl Al) rfl ?_)
 (have hn:Dg o k=none:=GL (.inl (by rw [l];assumption));exact ⟨⟨F2,by rw [hn];exact DQ _ _⟩,Ff (show Value.tuple #[.agg (DN F2).toArray,.bool false]=Value.tuple #[.agg (DN F2).toArray,.bool (Dg o k).isSome] by rw [hn];rfl),ar⟩)
end
section
abbrev TrE {α:Type} (w:World) (res:Except Int α) (S:α->Value->World->Prop):Ending->World->Prop:=λe w'=>GZ 35 res (λa v w'=>AL w w'/\S a v w') (λw'=>AL w w') e w'
abbrev TrB {α:Type} (w:World) (res:Except Int α) (V:α->Value):Ending->World->Prop:=Cf 35 res V (λ_ w'=>AL w w') (λw'=>AL w w')
def G4 (e:Int):Except Int Unit:=if e=0 then .ok () else .error e
def Md (b:Bool):Except Int Unit:=if b=true then .ok () else .error 22
theorem Hz (e:Int) (w:World):Calls Tryz.prog 59 #[Af e] w (TrB w (G4 e) λ_=>.tuple #[]):=by
 refine Ar func59 rfl ntmps59 ?_
 have a:=CN w
 refine A4<|A3 rfl<|A1 (.neq rfl rfl)<|A0<|Ai rfl (λb=>?_) (λb=>?_)
 have c:=ndT b
 refine Am<|A3 rfl<|A1 (.mkI Kr rfl)<|Fd rfl (Bt ?_)
 exact BB e (by unfold G4;rw [A2 aS]) a
 have c:=ndF b
 refine Ap<|Cx (Cd rfl ?_)
 exact Cf.ok () (by unfold G4;rw [A7 aS]) rfl a
theorem UH {u:Unit}:¬ G4 22=.ok u:=by unfold G4;rw [A2 dD];exact λh=>nomatch h
theorem Ei (b:Bool) (w:World):Calls Tryz.prog 35 #[.bool b] w (TrB w (Md b) λ_=>.tuple #[]):=by
 refine Ar func35 rfl ntmps35 ?_
 have c:=CN w
 refine A4<|A3 rfl<|A1 (.not rfl)<|A0<|Ai rfl (λg=>?_) (λg=>?_)
 refine Am<|C1 BK rfl rfl ((Hz 22 _)) (λh i a d=>?_) (λj i a d=>?_)
 have e:=Ej c (Below.mono d c.size)
 exact Bt (BB h (by unfold Md;rw [A2 (by simp_all)];unfold G4 at a;rw [A2 dD] at a;exact a) e)
 have f:=Ci c d
 refine A0<|Cx (Cd rfl ?_)
 first
 | exact De aS UH
 | exact Cf.ok () (by unfold Md;rw [A7 (by simp_all)]) rfl f
 refine Ap<|Cx (Cd rfl ?_)
 first
 | exact De aS UH
 | exact Cf.ok () (by unfold Md;rw [A7 (by simp_all)]) rfl c
inductive TN (n:Nat):AV->Prop
 | mk (o:AV) (h:o.kind=8->1<=o.n/\o.n<=n) (hl:∀ x∈o.list,TN n x):TN n o
theorem TN.ref {n:Nat} {o:AV} (h:TN n o):o.kind=8->1<=o.n/\o.n<=n:=by cases h;assumption
theorem TN.sub {n:Nat} {o:AV} (h:TN n o):∀ x∈o.list,TN n x:=by cases h;assumption
structure Is (os:List AV) (o:AV):Prop where
 snd:FY 32 true o
 rng:TN os.length o
theorem FY.more  {E:Int} {su:Bool} {o:AV} (h:FY D st o) (hD:D<=E) (hs:st=true->su=true):FY E su o:=by
 induction h generalizing E su with
 | null=>exact .null _ _
 | bool _ _ n h=>exact .bool _ _ n h
 | num _ _ k n hk h=>exact .num _ _ k n hk h
 | name _ _ t h=>exact .name _ _ t h
 | text _ _ t h=>exact .text _ _ t h
 | ref _ _ n h=>exact .ref _ _ n h
 | arr D st l h1 h2 h ih=>exact .arr _ _ l oO h2 λo ho=>ih o ho oO (λe=>by cases e)
 | dict D st k ks l d hk h1 h2 h3 h4 h5 h ih=>exact .dict _ _ k ks l d (hk.imp id λq=>⟨q.1,hs q.2.1,q.2.2⟩) oO h2 h3 h4 h5 λo ho=>ih o ho oO (λe=>by cases e)
theorem FY.sub  {o:AV} (h:FY D st o):∀ x∈o.list,FY (D-1) false x:=by
 cases h with
 | arr _ _ l h1 h2 h=>exact h
 | dict _ _ k ks l d hk h1 h2 h3 h4 h5 h=>exact h
 | _=>exact λx hx=>(by cases hx)
theorem Is.sub {os:List AV} {o:AV} (h:Is os o) {x:AV} (hx:x∈o.list):Is os x:=⟨(h.snd.sub x hx).more oO (λe=>by cases e),h.rng.sub x hx⟩
theorem Is.key {os:List AV} {o x:AV} {k:l8_} (h:Is os o) (hk:Dg o k=some x):Is os x:=by
 unfold Dg at hk
 split at hk
 ·
  split at hk
  · exact h.sub (List.mem_of_getElem? hk)
  · cases hk
 · cases hk
theorem Is.ref {os:List AV} {n:Int} (h:1<=n/\n<=os.length) (hl:os.length<=4096):Is os (.mk 8 n [] [] [] []):=⟨.ref _ _ _ ⟨h.1,oO⟩,.mk _ (λ_=>h) (λx hx=>(by cases hx))⟩
structure Vx (os:List AV):Prop where
 objs:ZF os
 goo:∀ o∈os,Is os o
theorem U8 {os:List AV} (H:Vx os):∀ (f:Nat) (o r:AV),Is os o->Fj os f o=some r->Is os r/\r.kind≠8
 | 0,o,r,h,e=>by
  unfold Fj at e
  split at e
  · cases e
  · cases e;exact ⟨h,aS⟩
 | f+1,o,r,h,e=>by
  unfold Fj at e
  split at e
  ·
   rename_i h8
   obtain ⟨h1,h2⟩:=h.rng.ref h8
   have hj:(o.n-1).toNat<os.length:=by omega
   rw [BY,Aj hj] at e
   exact U8 H f _ r (H.goo _ (AA hj)) e
  · cases e;exact ⟨h,aS⟩
def F1 (os:List AV) (o:AV) (k:Int):Except Int AV:=match Fj os 32 o with
 | none=>.error 27
 | some r=>if r.kind=k then .ok r else .error 22
def IO (os:List AV) (o:AV) (key:l8_) (k:Int):Except Int AV:=match Dg o key with
 | none=>.error 22
 | some x=>F1 os x k
def G6 (os:List AV) (o:AV) (key name:l8_):Except Int Bool:=match IO os o key 4 with
 | .error e=>.error e
 | .ok r=>.ok (decide (r.text=name))
theorem HL {os:List AV} (H:Vx os) {o r:AV} {k:Int} (h:Is os o) (e:F1 os o k=.ok r):Is os r/\r.kind=k:=by
 unfold F1 at e
 cases hr:Fj os 32 o with
 | none=>rw [hr] at e;cases e
 | some q =>
  rw [hr] at e
  simp only at e
  split at e
  · cases e;exact ⟨(U8 H 32 o _ h hr).1,aS⟩
  · cases e
theorem LA {R:Option AV} {e:Int} (h:G4 (if R.isSome then 0 else 27)=.error e):R=none/\e=27:=by
 cases R with
 | none=>exact ⟨rfl,by have:G4 27=.error e:=h;unfold G4 at this;rw [A2 dD] at this;cases this;rfl⟩
 | some r=>exact De (show G4 0=.error e from h) (by unfold G4;rw [A7 rfl];exact λh=>nomatch h)
theorem Pc {R:Option AV} {u:Unit} (h:G4 (if R.isSome then 0 else 27)=.ok u):∃ r,R=some r:=by
 cases R with
 | none=>exact De (show G4 27=.ok u from h) (by unfold G4;rw [A2 dD];exact λh=>nomatch h)
 | some r=>exact ⟨r,rfl⟩
theorem CL {b:Bool} {e:Int} (h:Md b=.error e):b=false/\e=22:=by
 unfold Md at h;split at h
 · cases h
 · cases h;exact ⟨by simp_all,rfl⟩
theorem E6 {b:Bool} {u:Unit} (h:Md b=.ok u):b=true:=by
 unfold Md at h;split at h
 · assumption
 · cases h
theorem RQ {os:List AV} {o:AV} {k e:Int} (hR:Fj os 32 o=none) (he:e=27):F1 os o k=.error e:=by unfold F1;rw [hR,he]
theorem Lj {os:List AV} {o r:AV} {k:Int} (hR:Fj os 32 o=some r):F1 os o k=if r.kind=k then .ok r else .error 22:=by unfold F1;rw [hR]
def Vq (bf:Nat) (sv pv:Value):Array Value:=#[ptV bf,sv,pv]
def ObA (w:World) (r:AV) (v:Value) (w':World):Prop:=∃ z:AC,v=.agg (DN z).toArray/\AB w' (λq=>w.heap.size<=q) z r
theorem IC (wk bf:Nat) (sv pv:Value) (S T:Nat->Prop) (os:List AV) (H:Vx os) (x:AC) (o:AV) (k:Int) (w:World) (hk:B0 w wk (Vq bf sv pv) 86) (hf:AM S w bf (CE os) (Di os)) (hx:AB w T x o) (hg:Is os o) :
  Calls Tryz.prog 57 #[ptV wk,.agg (DN x).toArray,Af k] w (TrE w (F1 os o k) (ObA w)):=by
 have bz:AM (λk=>k<w.heap.size) w bf (CE os) (Di os):=hf.mono λk _ hk=>hk
 have bA:AB w (λk=>k<w.heap.size) x o:=hx.mono λk _ hk=>hk
 unfold Vq at hk
 obtain ⟨R,hR⟩:=eX (Fj os 32 o)
 refine Ar func57 rfl ntmps57 ?_
 have bB:=CN w
 refine A4<|WL.box rfl rfl (λb1 aK aL a7 G bX=>?_)
 have bC:=AM.same (w1:=aK) bz (λk hk hl=>G.other k oO)
 have bD:=AB.same (w1:=aK) bA (λk hk hl=>G.other k oO)
 have bE:=Bl aL hk.lt
 have aM:=hk.un G bE
 have bG:=uB bB aL G
 refine Bj Cz rfl (λb7 a4 a8 aQ C bY=>?_)
 have bH:=AM.same (w1:=a4) bC (λk hk hl=>C.other k oO)
 have bI:=AB.same (w1:=a4) bD (λk hk hl=>C.other k oO)
 have aR:=Bl a8 aM.lt
 have a:=aM.un C aR
 have aT:=Bl a8 a7.lt
 have b:=a7.un C aT
 have aU:=uB bG a8 C
 refine A0<|Ad<|D6 12 rfl BR (λw'=>w'.heap[wk]?=a4.heap[wk]?/\w'.heap[b1]?=a4.heap[b1]?/\True) (λa9 s=>?_)
 have aa:=AM.same (w1:=a9) bH (λk hk hl=>(by obtain ⟨m,rfl⟩:=s;rfl))
 have ab:=AB.same (w1:=a9) bI (λk hk hl=>(by obtain ⟨m,rfl⟩:=s;rfl))
 have c:=a.drew s
 have d:=b.drew s
 have J:=aQ.drew s
 have Y:=C6.below aU s
 refine Ab 0 rfl (.mv rfl) ⟨(c).trans (a).symm,(d).trans (b).symm,tT⟩ ?_
 refine Ab 1 rfl (.nck rfl) ⟨(c).trans (a).symm,(d).trans (b).symm,tT⟩ ?_
 refine Ab 2 rfl (.fa OO rfl sizeOf38 dD rfl) ⟨(c).trans (a).symm,(d).trans (b).symm,tT⟩ ?_
 refine BX 3 rfl (λw' hw'=>Ae (isAgg38 _) rfl ((hw'.1).trans a) rfl) ⟨(c).trans (a).symm,(d).trans (b).symm,tT⟩ rfl ?_
 refine BX 4 rfl (λw' hw'=>Bk rfl ((hw'.2.1).trans b) Ay rfl Al) ⟨(c).trans (a).symm,(d).trans (b).symm,tT⟩ rfl ?_
 refine FA 5 rfl 9 rfl ?_ ?_
 refine Bf BK rfl rfl ((Fv bf _ os H.objs (λo ho=>(H.goo o ho).rng.ref) x o _ R _ aa ab hg.snd hg.rng.ref hR.symm)) (λz bJ t=>?_)
 have u:=c.bl t.2
 have v:=d.bl t.2
 have ac:=J.bl t.2
 have aV:=Ci Y t.2
 have hz:=(t).1.mono (T:=λq=>a9.heap.size<=q/\q<bJ.heap.size) (λq Z h2=>⟨Z,h2⟩)
 have aW:=J.lt
 have aX:=Y.size
 have aY:=t.2.size
 refine A0<|⟨⟨(u).trans (a).symm,(v).trans (b).symm,tT⟩,?_⟩
 refine Ab 6 rfl (.mv rfl) ⟨(u).trans (a).symm,(v).trans (b).symm,tT⟩ ?_
 refine Ab 7 rfl (.ext rfl rfl) ⟨(u).trans (a).symm,(v).trans (b).symm,tT⟩ ?_
 refine Ab 8 rfl (.ext rfl rfl) ⟨(u).trans (a).symm,(v).trans (b).symm,tT⟩ ?_
 refine AX 9 rfl<|Bj Cz rfl (λb' aZ K az i bS=>?_)
 have a':=AB.same (w1:=aZ) hz (λk hk hl=>i.other k oO)
 have b0:=Bl K u.lt
 have ad:=u.un i b0
 have b2:=Bl K v.lt
 have ae:=v.un i b2
 have b3:=Bl K ac.lt
 have b4:=ac.un i b3
 have b5:=uB aV K i
 refine A0<|⟨⟨(ad).trans (a).symm,(ae).trans (b).symm,tT⟩,?_⟩
 refine AX 10 rfl<|Ax rfl rfl az Al rfl rfl (λbK aA j bT=>?_)
 have b6:=AB.same (w1:=bK) a' (λk hk hl=>j.other k oO)
 have af:=ad.up j
 have ag:=ae.up j
 have b8:=b4.up j
 have a0:=BU b5 oO j
 refine A0<|⟨⟨(af).trans (a).symm,(ag).trans (b).symm,tT⟩,?_⟩
 refine Ab 11 rfl (.as rfl) ⟨(af).trans (a).symm,(ag).trans (b).symm,tT⟩ ?_
 refine BH kR<|A4<|A3 rfl<|C1 BK rfl rfl ((Hz _ _)) (λbL aN L y=>?_) (λc0 aN L y=>?_)
 have ah:=Ej a0 (Below.mono y a0.size)
 exact Bt (GN bL (by obtain ⟨Z,h2⟩:=LA L;exact RQ (by rw [<- hR];exact Z) h2) ah)
 have ai:=AB.same (w1:=aN) b6 (λk hk hl=>y.block k hl)
 have b9:=b8.bl y
 have aj:=aA.bl y
 have a1:=Ci a0 y
 obtain ⟨r,hr⟩:=Pc L
 subst hr
 have V:r.kind=z.kind:=AB.kind (o:=r) ai
 refine A0<|A4<|A1 (.fa Ay rfl Bw dD rfl)<|Ah (Ae (BZ _) rfl aj rfl)<|A3 rfl<|A1 (.eql rfl rfl)<|C1 BK rfl rfl ((Ei _ _)) (λbM aO N A=>?_) (λc2 aO N A=>?_)
 have ak:=Ej a1 (Below.mono A a1.size)
 exact Bt (GN bM (by rw [Lj hR.symm,A2 (by rw [V];exact dF (CL N).1),(CL N).2]) ak)
 have ba:=AB.same (w1:=aO) ai (λk hk hl=>A.block k hl)
 have bb:=b9.bl A
 have bc:=aj.bl A
 have bd:=Ci a1 A
 refine A0<|A4<|Ah (Bk rfl bc Ay rfl Al)<|Ax rfl rfl bb Al rfl rfl (λbN aB a5 bU=>?_)
 have be:=AB.same (w1:=bN) ba (λk hk hl=>a5.other k oO)
 have bg:=BU bd oO a5
 refine A0<|AT (BI rfl rfl (Be aB Ay rfl Al)  ?_)
 exact JC r _ (by rw [Lj hR.symm,A7 (by rw [V];exact dT (E6 aS))]) rfl ⟨bg,z,rfl,(be).mono λq h _=>by omega⟩
 refine Bj Cz rfl (λc3 a2 P aC e bV=>?_)
 have bh:=AM.same (w1:=a2) aa (λk hk hl=>e.other k oO)
 have bi:=AB.same (w1:=a2) ab (λk hk hl=>e.other k oO)
 have bj:=Bl P c.lt
 have am:=c.un e bj
 have bk:=Bl P d.lt
 have an:=d.un e bk
 have bm:=Bl P J.lt
 have ao:=J.un e bm
 have ap:=uB Y P e
 refine A0<|⟨⟨(am).trans (a).symm,(an).trans (b).symm,tT⟩,?_⟩
 refine AX 5 rfl<|Bf BK rfl rfl ((Fv bf _ os H.objs (λo ho=>(H.goo o ho).rng.ref) x o _ R _ bh bi hg.snd hg.rng.ref hR.symm)) (λz bO g=>?_)
 have D:=am.bl g.2
 have E:=an.bl g.2
 have bn:=ao.bl g.2
 have bo:=aC.bl g.2
 have bp:=Ci ap g.2
 have hz:=(g).1.mono (T:=λq=>a2.heap.size<=q/\q<bO.heap.size) (λq Z h2=>⟨Z,h2⟩)
 have aW:=ao.lt
 have aX:=ap.size
 have aY:=g.2.size
 refine A0<|⟨⟨(D).trans (a).symm,(E).trans (b).symm,tT⟩,?_⟩
 refine Ab 6 rfl (.mv rfl) ⟨(D).trans (a).symm,(E).trans (b).symm,tT⟩ ?_
 refine Ab 7 rfl (.ext rfl rfl) ⟨(D).trans (a).symm,(E).trans (b).symm,tT⟩ ?_
 refine Ab 8 rfl (.ext rfl rfl) ⟨(D).trans (a).symm,(E).trans (b).symm,tT⟩ ?_
 refine AX 10 rfl<|Ax rfl rfl bo Al rfl rfl (λbP aD l bW=>?_)
 have bq:=AB.same (w1:=bP) hz (λk hk hl=>l.other k oO)
 have aq:=D.up l
 have ar:=E.up l
 have bt:=bn.up l
 have a3:=BU bp oO l
 refine A0<|⟨⟨(aq).trans (a).symm,(ar).trans (b).symm,tT⟩,?_⟩
 refine Ab 11 rfl (.as rfl) ⟨(aq).trans (a).symm,(ar).trans (b).symm,tT⟩ ?_
 refine BH kR<|A4<|A3 rfl<|C1 BK rfl rfl ((Hz _ _)) (λbQ aP Q B=>?_) (λc4 aP Q B=>?_)
 have au:=Ej a3 (Below.mono B a3.size)
 exact Bt (GN bQ (by obtain ⟨Z,h2⟩:=LA Q;exact RQ (by rw [<- hR];exact Z) h2) au)
 have av:=AB.same (w1:=aP) bq (λk hk hl=>B.block k hl)
 have bu:=bt.bl B
 have aw:=aD.bl B
 have U:=Ci a3 B
 obtain ⟨r,hr⟩:=Pc Q
 subst hr
 have V:r.kind=z.kind:=AB.kind (o:=r) av
 refine A0<|A4<|A1 (.fa Ay rfl Bw dD rfl)<|Ah (Ae (BZ _) rfl aw rfl)<|A3 rfl<|A1 (.eql rfl rfl)<|C1 BK rfl rfl ((Ei _ _)) (λbv ax F f=>?_) (λbZ ax F f=>?_)
 have a6:=Ej U (Below.mono f U.size)
 exact Bt (GN bv (by rw [Lj hR.symm,A2 (by rw [V];exact dF (CL F).1),(CL F).2]) a6)
 have aE:=AB.same (w1:=ax) av (λk hk hl=>f.block k hl)
 have aF:=bu.bl f
 have aG:=aw.bl f
 have aH:=Ci U f
 refine A0<|A4<|Ah (Bk rfl aG Ay rfl Al)<|Ax rfl rfl aF Al rfl rfl (λbw ay X bR=>?_)
 have aI:=AB.same (w1:=bw) aE (λk hk hl=>X.other k oO)
 have aJ:=BU aH oO X
 refine A0<|AT (BI rfl rfl (Be ay Ay rfl Al)  ?_)
 exact JC r _ (by rw [Lj hR.symm,A7 (by rw [V];exact dT (E6 aS))]) rfl ⟨aJ,z,rfl,(aI).mono λq h _=>by omega⟩
theorem Zi {os:List AV} {o:AV} {key:l8_} {k:Int} (h:Dg o key=none):IO os o key k=.error 22:=by unfold IO;rw [h]
theorem Iy {os:List AV} {o x:AV} {key:l8_} {k:Int} (h:Dg o key=some x):IO os o key k=F1 os x k:=by unfold IO;rw [h]
theorem NI (wk bf:Nat) (sv pv:Value) (S T:Nat->Prop) (os:List AV) (H:Vx os) (x:AC) (o:AV) (key:l8_) (k:Int) (w:World) (hk:B0 w wk (Vq bf sv pv) 86) (hf:AM S w bf (CE os) (Di os)) (hx:AB w T x o) (hg:Is os o) :
  Calls Tryz.prog 33 #[ptV wk,.agg (DN x).toArray,.string (bs key),Af k] w (TrE w (IO os o key k) (ObA w)):=by
 have ar:AM (λk=>k<w.heap.size) w bf (CE os) (Di os):=hf.mono λk _ hk=>hk
 have au:AB w (λk=>k<w.heap.size) x o:=hx.mono λk _ hk=>hk
 refine Ar func33 rfl ntmps33 ?_
 have av:=CN w
 refine A4<|WL.box rfl rfl (λb1 N P v i aL=>?_)
 have aw:=AM.same (w1:=N) ar (λk hk hl=>i.other k oO)
 have ax:=AB.same (w1:=N) au (λk hk hl=>i.other k oO)
 have ay:=Bl P hk.lt
 have Q:=hk.un i ay
 have az:=uB av P i
 refine Bj Cz rfl (λb7 U A Y e aM=>?_)
 have aA:=AM.same (w1:=U) aw (λk hk hl=>e.other k oO)
 have aB:=AB.same (w1:=U) ax (λk hk hl=>e.other k oO)
 have a0:=Bl A Q.lt
 have a1:=Q.un e a0
 have a2:=Bl A v.lt
 have a3:=v.un e a2
 have a4:=uB az A e
 refine A0<|A4<|Ah (Bk rfl a3 Ay rfl Al)<|A3 rfl<|Bf BK rfl rfl ((HS x o _ key _ aB)) (λz V f=>?_)
 have a5:=AM.same (w1:=V) aA (λk hk hl=>f.block k hl)
 have B:=a1.bl f
 have C:=Y.bl f
 have a6:=Ci a4 f
 obtain ⟨z,hz⟩:=z
 have hz:=AB.same (w1:=V) hz (λk hk hl=>(f).block k hl)
 refine A3 rfl<|A1 (.ext rfl rfl)<|A1 (.ext rfl rfl)<|Bj Cz rfl (λaN D l J b aI=>?_)
 have a7:=AM.same (w1:=D) a5 (λk hk hl=>b.other k oO)
 have a8:=AB.same (w1:=D) hz (λk hk hl=>b.other k oO)
 have a9:=Bl l B.lt
 have aa:=B.un b a9
 have ab:=Bl l C.lt
 have ac:=C.un b ab
 have ad:=uB a6 l b
 refine Ax rfl rfl J Al rfl rfl (λX K c aJ=>?_)
 have ae:=AM.same (w1:=X) a7 (λk hk hl=>c.other k oM)
 have af:=AB.same (w1:=X) a8 (λk hk hl=>c.other k oM)
 have ag:=aa.up c
 have ah:=ac.up c
 have m:=BU ad oO c
 refine A9 rfl<|A4<|A3 rfl<|C1 BK rfl rfl ((Ei _ _)) (λaC s d a=>?_) (λaO s d a=>?_)
 have E:=Ej m (Below.mono a m.size)
 exact Bt (GN aC (by rw [Zi (by simpa using (CL d).1),(CL d).2]) E)
 have ai:=AM.same (w1:=s) ae (λk hk hl=>a.block k hl)
 have aj:=AB.same (w1:=s) af (λk hk hl=>a.block k hl)
 have ak:=ag.bl a
 have F:=ah.bl a
 have am:=K.bl a
 have j:=Ci m a
 obtain ⟨q,hq⟩:=Option.isSome_iff_exists.1 (E6 d)
 have aD:AB s (λq=>q<w.heap.size) z q:=by have:=aj;rw [hq] at this;exact this
 have aE:=hg.key hq
 refine A0<|A4<|A3 rfl<|Ah (Bk rfl am Ay rfl Al)<|A3 rfl<|Eg BK rfl rfl ((IC wk bf sv pv _ _ os H z q k _ ak ai aD aE)) (λaF aG t g=>?_) (λaP aQ aG t g=>?_)
 have G:=Ej j (Below.mono g j.size)
 exact Bt (GN aF (by rw [Iy hq];exact t) G)
 have an:=F.bl g.1
 have ao:=Ci j g.1
 obtain ⟨y,ey,hy⟩:=g.2
 subst ey
 have aR:=j.size
 have hb8:=F.lt
 refine Ax rfl rfl an Al rfl rfl (λaH L u aK=>?_)
 have ap:=AB.same (w1:=aH) hy (λk hk hl=>u.other k oO)
 have aq:=BU ao oO u
 refine A0<|AT (BI rfl rfl (Be L Ay rfl Al)  ?_)
 exact JC _ _ (by rw [Iy hq];assumption) rfl ⟨aq,y,rfl,(ap).mono λq h _=>by omega⟩
theorem ZY {os:List AV} {o:AV} {key name:l8_} {e:Int} (h:IO os o key 4=.error e):G6 os o key name=.error e:=by unfold G6;rw [h]
theorem SQ {os:List AV} {o r:AV} {key name:l8_} (h:IO os o key 4=.ok r):G6 os o key name=.ok (decide (r.text=name)):=by unfold G6;rw [h]
theorem AB.textE  {x:AC} {o:AV} (h:AB w S x o):o.text=x.text:=by cases h;rfl
theorem Jp (wk bf:Nat) (sv pv:Value) (S T:Nat->Prop) (os:List AV) (H:Vx os) (x:AC) (o:AV) (key name:l8_) (w:World) (hk:B0 w wk (Vq bf sv pv) 86) (hf:AM S w bf (CE os) (Di os)) (hx:AB w T x o) (hg:Is os o) :
  Calls Tryz.prog 36 #[ptV wk,.agg (DN x).toArray,.string (bs key),.string (bs name)] w (TrB w (G6 os o key name) λb=>.bool b):=by
 have l:AM (λk=>k<w.heap.size) w bf (CE os) (Di os):=hf.mono λk _ hk=>hk
 have m:AB w (λk=>k<w.heap.size) x o:=hx.mono λk _ hk=>hk
 refine Ar func36 rfl ntmps36 ?_
 have q:=CN w
 refine A4<|WL.box rfl rfl (λG g h i a C=>?_)
 have s:=AM.same (w1:=g) l (λk hk hl=>a.other k oO)
 have t:=AB.same (w1:=g) m (λk hk hl=>a.other k oO)
 have u:=Bl h hk.lt
 have v:=hk.un a u
 have e:=uB q h a
 refine A9 rfl<|A4<|A3 rfl<|Ah (Bk rfl i Ay rfl Al)<|A3 rfl<|Eg BK rfl rfl ((NI wk bf sv pv _ _ os H x o key 4 _ v s t hg)) (λD E c d=>?_) (λJ F E c d=>?_)
 have f:=Ej e (Below.mono d e.size)
 exact Bt (BB D (ZY c) f)
 have j:=Ci e d.1
 obtain ⟨y,ey,hy⟩:=d.2
 subst ey
 have A:=hy.textE
 have B:=c
 refine A1 (.fld Ay rfl FX rfl rfl)<|A3 rfl<|A1 (.eqs rfl rfl)<|A9 rfl<|AW ?_
 exact Cf.ok _ (SQ B) (Ff (by rw [A])) j
end
section
def Pe:l8_:=[77,101,100,105,97,66,111,120]
def UM:l8_:=[82,101,115,111,117,114,99,101,115]
structure GS where
 box:Option AV
 res:Option AV
def Gv (o:AV) (i:GS):GS:=⟨(Dg o Pe).or i.box,(Dg o UM).or i.res⟩
def MX (w:World) (S:Nat->Prop) (v:Value) (o:Option AV):Prop:=match o with
 | none=>v=.pointer none
 | some u=>∃ (b:Nat) (z:AC),v=ptV b/\B0 w b (DN z).toArray 27/\S b/\AB w S z u
theorem MX.same  {o:Option AV} (h:MX w S v o) (hb:∀ k,S k->k<w.heap.size->w1.heap[k]?=w.heap[k]?):MX w1 S v o:=by
 cases o with
 | none=>exact h
 | some u =>
  obtain ⟨b,z,d,a,c,e⟩:=h
  exact ⟨b,z,d,(hb b c a.lt).trans a,c,e.same hb⟩
theorem MX.mono  {o:Option AV} (h:MX w S v o) (hST:∀ k,S k->k<w.heap.size->T k):MX w T v o:=by
 cases o with
 | none=>exact h
 | some u =>
  obtain ⟨b,z,c,a,d,e⟩:=h
  exact ⟨b,z,c,a,hST b d a.lt,e.mono hST⟩
structure DI (w:World) (S:Nat->Prop) (p q:Option Addr) (i:GS):Prop where
 box:MX w S (.pointer p) i.box
 res:MX w S (.pointer q) i.res
theorem DI.same  {q:Option Addr} {i:GS} (h:DI w S p q i) (hb:∀ k,S k->k<w.heap.size->w1.heap[k]?=w.heap[k]?):DI w1 S p q i:=⟨h.box.same hb,h.res.same hb⟩
theorem DI.mono  {q:Option Addr} {i:GS} (h:DI w S p q i) (hST:∀ k,S k->k<w.heap.size->T k):DI w T p q i:=⟨h.box.mono hST,h.res.mono hST⟩
theorem F3  {V:Nat->Prop} {b:Nat} {z:AC} {o:AV} {key:l8_} {i:Option AV} (hV:∀ k,S k->V k) (hVb:V b) (hb:B0 w b (DN z).toArray 27) (hz:AB w S z ((Dg o key).getD A6a)) (h:(Dg o key).isSome=true):MX w V (ptV b) ((Dg o key).or i):=by
 cases hk:Dg o key with
 | none=>rw [hk] at h;cases h
 | some u=>rw [hk] at hz;exact ⟨b,z,rfl,hb,hVb,hz.mono λk h _=>hV k h⟩
theorem G9  {V:Nat->Prop} {o:AV} {key:l8_} {i:Option AV} (hV:∀ k,S k->V k) (hp:MX w S (.pointer p) i) (h:(Dg o key).isSome=false):MX w V (.pointer p) ((Dg o key).or i):=by
 cases hk:Dg o key with
 | none=>exact hp.mono λk h _=>hV k h
 | some u=>rw [hk] at h;cases h
theorem A2H (r:Value) (p q:Option Addr) (i:GS) (S T:Nat->Prop) (x:AC) (o:AV) (w:World) (hi:DI w S p q i) (hx:AB w T x o) :
  Calls Tryz.prog 84 #[r,.agg (DN x).toArray,.agg #[.pointer p,.pointer q]] w λe w'=>∃ z:Option Addr × Option Addr,e=.returned (.agg #[.pointer z.1,.pointer z.2])/\DI w' (λk=>(S k/\k<w.heap.size)\/(T k/\k<w.heap.size)\/w.heap.size<=k) z.1 z.2 (Gv o i)/\AL w w':=by
 have cn:DI w (λk=>k<w.heap.size/\S k) p q i:=hi.mono λk h hk=>⟨hk,h⟩
 have co:AB w (λk=>k<w.heap.size/\T k) x o:=hx.mono λk h hk=>⟨hk,h⟩
 refine Ar func84 rfl ntmps84 ?_
 have cq:=CN w
 refine A4<|WL.box rfl rfl (λb1 bn cr a8 N cR=>?_)
 have ct:=DI.same (w1:=bn) cn (λk hk hl=>N.other k oO)
 have cu:=AB.same (w1:=bn) co (λk hk hl=>N.other k oO)
 have cv:=uB cq cr N
 refine WL.box rfl rfl (λb5 bo bp a9 F cS=>?_)
 have cw:=DI.same (w1:=bo) ct (λk hk hl=>F.other k oO)
 have cy:=AB.same (w1:=bo) cu (λk hk hl=>F.other k oO)
 have cz:=Bl bp a8.lt
 have bq:=a8.un F cz
 have bu:=uB cv bp F
 refine Bj zeroValue117 rfl (λcU aa P aL v cI=>?_)
 have bv:=DI.same (w1:=aa) cw (λk hk hl=>v.other k oO)
 have ab:=AB.same (w1:=aa) cy (λk hk hl=>v.other k oO)
 have bw:=Bl P bq.lt
 have ac:=bq.un v bw
 have bz:=Bl P a9.lt
 have bA:=a9.un v bz
 have bB:=uB bu P v
 refine A0<|Ad<|A4<|Ah (Bk rfl ac Ay rfl Al)<|Bf BK rfl rfl ((HS x o _ Pe _ ab)) (λz ad t=>?_)
 have bC:=DI.same (w1:=ad) bv (λk hk hl=>t.block k hl)
 have bD:=AB.same (w1:=ad) ab (λk hk hl=>t.block k hl)
 have ae:=ac.bl t
 have af:=bA.bl t
 have ag:=aL.bl t
 have bE:=Ci bB t
 obtain ⟨z,hz⟩:=z
 have hz:=AB.same (w1:=ad) hz (λk hk hl=>(t).block k hl)
 refine A3 rfl<|A1 (.ext rfl rfl)<|A1 (.ext rfl rfl)<|Bj Cz rfl (λcV Q G aM d cJ=>?_)
 have bG:=DI.same (w1:=Q) bC (λk hk hl=>d.other k oO)
 have bH:=AB.same (w1:=Q) bD (λk hk hl=>d.other k oO)
 have bI:=AB.same (w1:=Q) hz (λk hk hl=>d.other k oO)
 have bJ:=Bl G ae.lt
 have bK:=ae.un d bJ
 have bL:=Bl G af.lt
 have bM:=af.un d bL
 have bN:=Bl G ag.lt
 have bO:=ag.un d bN
 have bP:=uB bE G d
 refine Ax rfl rfl aM Al rfl rfl (λah X f cK=>?_)
 have ai:=DI.same (w1:=ah) bG (λk hk hl=>f.other k oM)
 have aj:=AB.same (w1:=ah) bH (λk hk hl=>f.other k oM)
 have bQ:=AB.same (w1:=ah) bI (λk hk hl=>f.other k oM)
 have ak:=bK.up f
 have am:=bM.up f
 have an:=bO.up f
 have ao:=BU bP oO f
 refine A9 rfl<|A4<|A3 rfl<|A0<|Ai rfl (λcA=>?_) (λcA=>?_)
 refine Am<|A1 (.fa Gp rfl Mh dD rfl)<|Br Mh rfl rfl rfl am (by exact Nat.le_of_ble_eq_true rfl) (λY H a cL=>?_)
 have H:B0 Y b5 _ _:=H
 have a:CK b5 _ _:=a
 have bR:=DI.same (w1:=Y) ai (λk hk hl=>a.other k oM)
 have bS:=AB.same (w1:=Y) aj (λk hk hl=>a.other k oM)
 have bT:=AB.same (w1:=Y) bQ (λk hk hl=>a.other k oM)
 have bU:=ak.up a
 have bV:=an.up a
 have bW:=X.up a
 have bX:=BU ao oO a
 refine A0<|Ad<|A4<|Ah (Bk rfl bU Ay rfl Al)<|Bf BK rfl rfl ((HS x o _ UM _ bS)) (λz2 ap u=>?_)
 have bY:=DI.same (w1:=ap) bR (λk hk hl=>u.block k hl)
 have bZ:=AB.same (w1:=ap) bT (λk hk hl=>u.block k hl)
 have aq:=H.bl u
 have ar:=bV.bl u
 have au:=bW.bl u
 have b':=Ci bX u
 obtain ⟨z2,D⟩:=z2
 have D:=AB.same (w1:=ap) D (λk hk hl=>(u).block k hl)
 refine A3 rfl<|A1 (.ext rfl rfl)<|A1 (.ext rfl rfl)<|Bj Cz rfl (λcW U J aN g cM=>?_)
 have c0:=DI.same (w1:=U) bY (λk hk hl=>g.other k oO)
 have c2:=AB.same (w1:=U) bZ (λk hk hl=>g.other k oO)
 have c3:=AB.same (w1:=U) D (λk hk hl=>g.other k oO)
 have c4:=Bl J aq.lt
 have c5:=aq.un g c4
 have c6:=Bl J ar.lt
 have c7:=ar.un g c6
 have c8:=Bl J au.lt
 have c9:=au.un g c8
 have ca:=uB b' J g
 refine Ax rfl rfl aN Al rfl rfl (λav aO j cN=>?_)
 have cb:=DI.same (w1:=av) c0 (λk hk hl=>j.other k oM)
 have aw:=AB.same (w1:=av) c2 (λk hk hl=>j.other k oM)
 have cc:=AB.same (w1:=av) c3 (λk hk hl=>j.other k oM)
 have ax:=c5.up j
 have ay:=c7.up j
 have az:=c9.up j
 have aA:=BU ca oO j
 refine A9 rfl<|A4<|A3 rfl<|A0<|Ai rfl (λcB=>?_) (λcB=>?_)
 refine Am<|A1 (.fa Gp rfl Mh dD rfl)<|Br Mh rfl rfl rfl ax (by exact Nat.le_of_ble_eq_true rfl) (λaB K c cO=>?_)
 have K:B0 aB b5 _ _:=K
 have c:CK b5 _ _:=c
 have cd:=AB.same (w1:=aB) aw (λk hk hl=>c.other k oM)
 have cf:=AB.same (w1:=aB) cc (λk hk hl=>c.other k oM)
 have cg:=ay.up c
 have ci:=az.up c
 have cj:=aO.up c
 have ck:=BU aA oO c
 refine A0<|A4<|Ah (Bk rfl K Gp rfl Fz)<|Ax rfl rfl cg Fz rfl rfl (λbt aP y cP=>?_)
 have aQ:=AB.same (w1:=bt) cd (λk hk hl=>y.other k oM)
 have aR:=AB.same (w1:=bt) cf (λk hk hl=>y.other k oM)
 have aT:=ci.up y
 have aU:=cj.up y
 have aV:=BU ck oO y
 refine A0<|AT (BI rfl rfl (Be aP Gp rfl Fz)  ?_)
 exact ⟨(_,_),Ff rfl,⟨F3 (λk h=>.inr (.inl ⟨h.2,h.1⟩)) (.inr (.inr oO)) aT aQ aS,F3 (λk h=>.inr (.inl ⟨h.2,h.1⟩)) (.inr (.inr oO)) aU aR aS⟩,aV⟩
 refine Ap<|A4<|Ah (Bk rfl ax Gp rfl Fz)<|Ax rfl rfl ay Fz rfl rfl (λaC aD A cC=>?_)
 have aW:=DI.same (w1:=aC) cb (λk hk hl=>A.other k oM)
 have aX:=AB.same (w1:=aC) aw (λk hk hl=>A.other k oM)
 have aY:=az.up A
 have aZ:=BU aA oO A
 refine A0<|AT (BI rfl rfl (Be aD Gp rfl Fz)  ?_)
 exact ⟨(_,_),Ff rfl,⟨F3 (λk h=>.inr (.inl ⟨h.2,h.1⟩)) (.inr (.inr oO)) aY aX aS,G9 (λk h=>.inl ⟨h.2,h.1⟩) (aW).res aS⟩,aZ⟩
 refine Ap<|Ad<|A4<|Ah (Bk rfl ak Ay rfl Al)<|Bf BK rfl rfl ((HS x o _ UM _ aj)) (λz2 aE s=>?_)
 have a':=DI.same (w1:=aE) ai (λk hk hl=>s.block k hl)
 have a0:=am.bl s
 have a1:=an.bl s
 have b0:=X.bl s
 have b2:=Ci ao s
 obtain ⟨z2,D⟩:=z2
 have D:=AB.same (w1:=aE) D (λk hk hl=>(s).block k hl)
 refine A3 rfl<|A1 (.ext rfl rfl)<|A1 (.ext rfl rfl)<|Bj Cz rfl (λcT a2 C aF l cD=>?_)
 have b3:=DI.same (w1:=a2) a' (λk hk hl=>l.other k oO)
 have b4:=AB.same (w1:=a2) D (λk hk hl=>l.other k oO)
 have b6:=Bl C a0.lt
 have b7:=a0.un l b6
 have b8:=Bl C a1.lt
 have b9:=a1.un l b8
 have cQ:=Bl C b0.lt
 have ba:=uB b2 C l
 refine Ax rfl rfl aF Al rfl rfl (λaG aH m cE=>?_)
 have a3:=DI.same (w1:=aG) b3 (λk hk hl=>m.other k oM)
 have bb:=AB.same (w1:=aG) b4 (λk hk hl=>m.other k oM)
 have a4:=b7.up m
 have a5:=b9.up m
 have a6:=BU ba oO m
 refine A9 rfl<|A4<|A3 rfl<|A0<|Ai rfl (λcl=>?_) (λcl=>?_)
 refine Am<|A1 (.fa Gp rfl Mh dD rfl)<|Br Mh rfl rfl rfl a4 (by exact Nat.le_of_ble_eq_true rfl) (λV E b cF=>?_)
 have E:B0 V b5 _ _:=E
 have b:CK b5 _ _:=b
 have bc:=DI.same (w1:=V) a3 (λk hk hl=>b.other k oM)
 have bd:=AB.same (w1:=V) bb (λk hk hl=>b.other k oM)
 have be:=a5.up b
 have bf:=aH.up b
 have bg:=BU a6 oO b
 refine A0<|A4<|Ah (Bk rfl E Gp rfl Fz)<|Ax rfl rfl be Fz rfl rfl (λaI aJ B cG=>?_)
 have bh:=DI.same (w1:=aI) bc (λk hk hl=>B.other k oM)
 have bi:=AB.same (w1:=aI) bd (λk hk hl=>B.other k oM)
 have bj:=bf.up B
 have bk:=BU bg oO B
 refine A0<|AT (BI rfl rfl (Be aJ Gp rfl Fz)  ?_)
 exact ⟨(_,_),Ff rfl,⟨G9 (λk h=>.inl ⟨h.2,h.1⟩) (bh).box aS,F3 (λk h=>.inr (.inl ⟨h.2,h.1⟩)) (.inr (.inr oO)) bj bi aS⟩,bk⟩
 refine Ap<|A4<|Ah (Bk rfl a4 Gp rfl Fz)<|Ax rfl rfl a5 Fz rfl rfl (λcm aK L cH=>?_)
 have a7:=DI.same (w1:=cm) a3 (λk hk hl=>L.other k oM)
 have bm:=BU a6 oO L
 refine A0<|AT (BI rfl rfl (Be aK Gp rfl Fz)  ?_)
 exact ⟨(_,_),Ff rfl,⟨G9 (λk h=>.inl ⟨h.2,h.1⟩) (a7).box aS,G9 (λk h=>.inl ⟨h.2,h.1⟩) (a7).res aS⟩,bm⟩
end
section
def WT (n:Int):Int × Bool:=if n < -32768\/n > 32767 then (0,false) else (n * 65536,true)
def Il (k n:Int):Int × Bool:=if k=3 then (n,Cy n) else if k=2 then WT n else (0,false)
theorem A50 {k n:Int} (h:k=3):Il k n=(n,Cy n):=A7 h
theorem A51 {k n:Int} (h:¬ k=3) (h2:k=2):Il k n=WT n:=by unfold Il;rw [A2 h,A7 h2]
theorem A52 {k n:Int} (h:¬ k=3) (h2:¬ k=2):Il k n=(0,false):=by unfold Il;rw [A2 h,A2 h2]
theorem Tu (n:Int) (w:World):Calls Tryz.prog 163 #[Af n] w λe w'=>e=.returned (.tuple #[Af (WT n).1,Af (if (WT n).2 then 0 else 11)])/\w=w':=by
 refine Ar func163 rfl ntmps163<|A4<|Ct rfl<|A9 rfl<|Ad<|A4<|A3 rfl<|A1 (.lss rfl rfl)<|A3 rfl<|Ck rfl rfl rfl (λa=>?_) (λa=>?_)
 have c:=dF a
 refine A3 rfl<|Az a<|A1 (.gtr rfl rfl)<|A1 (.pkF rfl a rfl)<|A0<|Ai rfl (λb=>?_) (λb=>?_)
 have d:=dT b
 refine A4<|Ct rfl<|A9 rfl<|AT (D0 rfl rfl rfl ?_)
 first
 | exact ⟨Ff (by rw [show WT n=(n * 65536,true) from A2 oO];rfl),rfl⟩
 | exact ⟨Ff (by rw [show WT n=(0,false) from A7 oO];rfl),rfl⟩
 have d:=dF b
 refine Ap<|A4<|A3 rfl<|A1 (.mul rfl rfl (Ba oO))<|Ct rfl<|A9 rfl<|AT (D0 rfl rfl rfl ?_)
 first
 | exact ⟨Ff (by rw [show WT n=(n * 65536,true) from A2 oO];rfl),rfl⟩
 | exact ⟨Ff (by rw [show WT n=(0,false) from A7 oO];rfl),rfl⟩
 have c:=dT a
 refine Bc a<|A1 (.pkT rfl a rfl)<|A0<|BQ rfl rfl<|A4<|Ct rfl<|A9 rfl<|AT (D0 rfl rfl rfl ?_)
 first
 | exact ⟨Ff (by rw [show WT n=(n * 65536,true) from A2 oO];rfl),rfl⟩
 | exact ⟨Ff (by rw [show WT n=(0,false) from A7 oO];rfl),rfl⟩
theorem RT (x:AC) (w:World):Cb 142 #[.agg (DN x).toArray] w (.tuple #[Af (Il x.kind x.n).1,.bool (Il x.kind x.n).2]):=by
 obtain ⟨k,n,t,kp,kl,kc,lp,ll,lc,dp,dl,dc⟩:=x
 simp only [DN]
 refine Ar func142 rfl ntmps142 ?_
 have i:=CN w
 refine A4<|WL.box rfl rfl (λj l m a f B=>?_)
 have c:=uB i m f
 refine Ct rfl<|A9 rfl<|Ad<|A4<|A1 (.fa Ay rfl Bw dD rfl)<|Ah (Ae (BZ _) rfl a rfl)<|A0<|AO<|A4<|A1 (.eql rfl rfl)<|A9 rfl<|Ai rfl (λg=>?_) (λg=>?_)
 have o:=dT g
 refine Ad<|D6 7 rfl BR (λw'=>w'.heap[j]?=l.heap[j]?/\True) (λC d=>?_)
 have q:=a.drew d
 have s:=C6.below c d
 have b:=Bs (q.trans a.symm) Bi
 refine Ab 0 rfl (.fa Ay rfl Bw dD rfl) b ?_
 refine BX 1 rfl (λw' hw'=>Ae (BZ _) rfl ((hw'.1).trans a) rfl) b rfl ?_
 refine Ab 2 rfl (.fa Ay rfl Bw dD rfl) b ?_
 refine BX 3 rfl (λw' hw'=>Ae (BZ _) rfl ((hw'.1).trans a) rfl) b rfl ?_
 refine AX 4 rfl<|Ao (JB _ _) (λD u=>?_)
 obtain rfl:=u
 refine A0<|⟨b,?_⟩
 refine Ab 5 rfl (.as rfl) b ?_
 refine Ab 6 rfl (.as rfl) b ?_
 refine BH kR<|AT (D0 rfl rfl rfl ?_)
 exact ⟨Ff (by rw [A50 aS];rfl),s⟩
 have o:=dF g
 refine A4<|A1 (.eql rfl rfl)<|A9 rfl<|Ai rfl (λh=>?_) (λh=>?_)
 have v:=dT h
 refine A4<|A1 (.fa Ay rfl Bw dD rfl)<|Ah (Ae (BZ _) rfl a rfl)<|Ao (Tu _ _) (λE y=>?_)
 obtain rfl:=y
 refine A3 rfl<|A1 (.ext rfl rfl)<|A1 (.ext rfl rfl)<|Ct rfl<|A9 rfl<|A4<|A3 rfl<|A3 rfl<|A1 (.eql rfl rfl)<|Ct rfl<|A9 rfl<|AT (D0 rfl rfl rfl ?_)
 exact ⟨Ff (by rw [A51 aS aS];cases (WT n).2 <;> rfl),c⟩
 have v:=dF h
 refine Ap<|A4<|Ct rfl<|A9 rfl<|AT (D0 rfl rfl rfl ?_)
 exact ⟨Ff (by rw [A52 aS aS]),c⟩
def VP (n:Int):Bool:=decide (65536<=n) && (decide (n<=943718400) && decide (n % 65536=0))
theorem Xl (n:Int) (w:World) (hn:-9223372036854775808<=n/\n<=9223372036854775807):Calls Tryz.prog 143 #[Af n] w λe w'=>e=.returned (.bool (VP n))/\w=w':=by
 refine Ar func143 rfl ntmps143<|A4<|A9 rfl<|A4<|A3 rfl<|A1 (.geq rfl rfl)<|A3 rfl<|Ck rfl rfl rfl (λb=>?_) (λb=>?_)
 have c:=dT b
 refine A3 rfl<|Az b<|A1 (.leq rfl rfl)<|A1 (.pkT rfl b rfl)<|A3 rfl<|Ck rfl rfl rfl (λa=>?_) (λa=>?_)
 have d:=dT a
 refine A3 rfl<|Az a<|A1 (.rem rfl rfl oO (Int.tmod_eq_emod_of_nonneg oO))<|Az a<|A1 (.eql rfl rfl)<|A1 (.pkT rfl a rfl)<|A9 rfl<|AW ?_
 exact ⟨Ff (BJ Value.bool (by unfold VP;apply AY.2;simp_all <;> omega)),rfl⟩
 have d:=dF a
 refine Bc a<|Bc a<|A1 (.pkF rfl a rfl)<|A9 rfl<|AW ?_
 exact ⟨Ff (BJ Value.bool (by unfold VP;apply AY.2;simp_all <;> omega)),rfl⟩
 have c:=dF b
 refine Bc b<|A1 (.pkF rfl b rfl)<|A3 rfl<|Bc rfl<|Bc rfl<|Bc rfl<|A1 (.pkF rfl rfl rfl)<|A9 rfl<|AW ?_
 exact ⟨Ff (BJ Value.bool (by unfold VP;apply AY.2;simp_all <;> omega)),rfl⟩
def LT (os:List AV) (o:AV):Except Int Int:=match Fj os 32 o with
 | none=>.error 27
 | some r=>if (Il r.kind r.n).2=true then .ok (Il r.kind r.n).1 else .error 22
def FD (os:List AV):List AV->Except Int (List Int)
 | []=>.ok []
 | o::r=>match LT os o with
  | .error e=>.error e
  | .ok n=>match FD os r with
   | .error e=>.error e
   | .ok m=>.ok (n::m)
theorem MH (os:List AV) (o:AV) (r:List AV):FD os (o::r)=match LT os o with | .error e=>.error e | .ok n=>match FD os r with | .error e=>.error e | .ok m=>.ok (n::m):=rfl
theorem NZ {os:List AV}:∀ {a b:List AV} {ns:List Int},FD os a=.ok ns->FD os (a++b)=match FD os b with | .error e=>.error e | .ok m=>.ok (ns++m)
 | [],b,ns,h=>by
  cases h
  rw [C4]
  cases FD os b <;> rfl
 | o::a,b,ns,h=>by
  rw [MH] at h
  rw [Bb,MH]
  cases hn:LT os o with
  | error e=>rw [hn] at h;cases h
  | ok n =>
   rw [hn] at h
   cases hm:FD os a with
   | error e=>rw [hm] at h;cases h
   | ok m =>
    rw [hm] at h
    cases h
    rw [NZ hm]
    cases FD os b <;> rfl
theorem Qb {os:List AV} {l:List AV} {n:Int} (hi:i<l.length) (h:FD os (l.take i)=.ok ns) (hn:LT os l[i]=.ok n):FD os (l.take (i+1))=.ok (ns++[n]):=by
 rw [List.take_add_one,Aj hi,Option.toList_some,NZ h]
 unfold FD
 rw [hn];rfl
theorem Lx {os:List AV} {l:List AV} {e:Int} (hi:i<l.length) (h:FD os (l.take i)=.ok ns) (hn:LT os l[i]=.error e):FD os l=.error e:=by
 have a:l=l.take i++l[i]::l.drop (i+1):=by rw [<- Aw hi,Dx]
 rw [a,NZ h]
 unfold FD
 rw [hn]
theorem Sg {os:List AV} {o:AV} {e:Int} (h:Fj os 32 o=none) (he:e=27):LT os o=.error e:=by unfold LT;rw [h,he]
theorem Sf {os:List AV} {o r:AV} (h:Fj os 32 o=some r):LT os o=if (Il r.kind r.n).2=true then .ok (Il r.kind r.n).1 else .error 22:=by unfold LT;rw [h]
theorem A39 {os:List AV} {o:AV} {n:Int} (h:LT os o=.ok n):∃ r,Fj os 32 o=some r/\(Il r.kind r.n).2=true/\(Il r.kind r.n).1=n:=by
 unfold LT at h
 cases hr:Fj os 32 o with
 | none=>rw [hr] at h;cases h
 | some r =>
  rw [hr] at h
  simp only at h
  split at h
  · cases h;exact ⟨r,rfl,aS,rfl⟩
  · cases h
theorem A3a {k n:Int} (h:(Il k n).2=true):-9223372036854775808<=(Il k n).1/\(Il k n).1<=9223372036854775807:=by
 unfold Il WT Cy at *
 split at h
 ·
  rename_i h3
  simp only [AE,AF] at h
  rw [A7 h3]
  simp only;omega
 ·
  rename_i h3
  rw [A2 h3]
  split at h
  ·
   rename_i h2
   rw [A7 h2]
   split <;> simp only <;> omega
  · cases h
theorem Uz {os:List AV}:∀ {l:List AV} {ns:List Int},FD os l=.ok ns->∀ x∈ns,-9223372036854775808<=x/\x<=9223372036854775807
 | [],ns,h=>by cases h;exact λx hx=>nomatch hx
 | o::r,ns,h=>by
  rw [MH] at h
  cases hn:LT os o with
  | error e=>rw [hn] at h;cases h
  | ok n =>
   rw [hn] at h
   cases hm:FD os r with
   | error e=>rw [hm] at h;cases h
   | ok m =>
    rw [hm] at h
    cases h
    intro x hx
    rcases A6.1 hx with rfl | hx
    · obtain ⟨q,-,h2,rfl⟩:=A39 hn;exact A3a h2
    · exact Uz hm x hx
theorem A3v  (h:ns.length=4):∃ a b c d,ns=[a,b,c,d]:=by
 match ns,h with
 | [a,b,c,d],_=>exact ⟨a,b,c,d,rfl⟩
def GW (ns:List Int):Bool:=decide (ns.getD 0 0=0) && (decide (ns.getD 1 0=0) && (VP (ns.getD 2 0) && VP (ns.getD 3 0)))
def K6 (os:List AV) (i:GS):Except Int (Int × Int):=match i.box with
 | none=>.error 22
 | some u=>match F1 os u 6 with
  | .error e=>.error e
  | .ok r=>if r.list.length=4 then (match FD os r.list with
   | .error e=>.error e
   | .ok ns=>if GW ns=true then .ok (ns.getD 2 0,ns.getD 3 0) else .error 22) else .error 22
def OJ (ns:List Int):Array Value:=((ns++List.replicate (4-ns.length) 0).map (Value.int .i64)).toArray
theorem Sw  {n:Int} (h:ns.length<4):(OJ ns).setIfInBounds ns.length (Af n)=OJ (ns++[n]):=by
 unfold OJ
 rw [List.setIfInBounds_toArray]
 congr 1
 rw [E9,E9,E9,List.set_append_right _ _ (by simp),By,FG]
 obtain ⟨k,hk⟩:∃ k,4-ns.length=k+1:=⟨3-ns.length,oO⟩
 rw [hk,show 4-(ns++[n]).length=k by simp only [A8,Aa,Ak];omega,List.replicate_succ]
 simp
theorem Qt  (h:ns.length<=4):(OJ ns).size=4:=by
 unfold OJ
 simp;omega
end
section
theorem YS  {i:Option AV} {e:Int} (h:MX w S (.pointer p) i) (hw:Md (!p.isNone)=.error e):i=none:=by
 cases i with
 | none=>rfl
 | some u=>obtain ⟨b,z,a,-⟩:=h;cases a;exact De (CL hw).1 (by simp)
theorem YR  {i:Option AV} {x:Unit} (h:MX w S (.pointer p) i) (hw:Md (!p.isNone)=.ok x):∃ u,i=some u:=by
 cases i with
 | none=>cases h;exact De (E6 hw) (by simp)
 | some u=>exact ⟨u,rfl⟩
theorem A1Q {os:List AV} {u:AV} {r:Option AV} {e:Int} (h:F1 os u 6=.error e):K6 os ⟨some u,r⟩=.error e:=by unfold K6;simp only;rw [h]
theorem A1R {os:List AV} {u r:AV} {i:Option AV} (h:F1 os u 6=.ok r) (hl:¬ r.list.length=4):K6 os ⟨some u,i⟩=.error 22:=by unfold K6;simp only;rw [h];simp only;rw [A2 hl]
theorem LN {os:List AV} {u r:AV} {i:Option AV} {e:Int} (h:F1 os u 6=.ok r) (hl:r.list.length=4) (hn:FD os r.list=.error e):K6 os ⟨some u,i⟩=.error e:=by unfold K6;simp only;rw [h];simp only;rw [A7 hl,hn]
theorem K5 {os:List AV} {u r:AV} {i:Option AV} (h:F1 os u 6=.ok r) (hl:r.list.length=4) (hn:FD os r.list=.ok ns) (hb:GW ns=false):K6 os ⟨some u,i⟩=.error 22:=by unfold K6;simp only;rw [h];simp only;rw [A7 hl,hn];simp only;rw [hb];rfl
theorem Pl {os:List AV} {u r:AV} {i:Option AV} (h:F1 os u 6=.ok r) (hl:r.list.length=4) (hn:FD os r.list=.ok ns) (hb:GW ns=true):K6 os ⟨some u,i⟩=.ok (ns.getD 2 0,ns.getD 3 0):=by unfold K6;simp only;rw [h];simp only;rw [A7 hl,hn];simp only;rw [hb];rfl
theorem UB {os:List AV} {o r:AV} {k n:Int} (h:Fj os 32 o=some r) (hk:r.kind=k) (hn:r.n=n) (hb:(Il k n).2=false):LT os o=.error 22:=by subst hk;subst hn;rw [Sf h,hb];rfl
theorem Si {os:List AV} {o r:AV} {k n:Int} (h:Fj os 32 o=some r) (hk:r.kind=k) (hn:r.n=n) (hb:(Il k n).2=true):LT os o=.ok (Il k n).1:=by subst hk;subst hn;rw [Sf h,hb];rfl
theorem A4I (wk bf:Nat) (sv pv:Value) (S T:Nat->Prop) (os:List AV) (H:Vx os) (p q:Option Addr) (i:GS) (w:World) (hk:B0 w wk (Vq bf sv pv) 86) (hf:AM S w bf (CE os) (Di os)) (hi:DI w T p q i) (hg:∀ u,i.box=some u->Is os u) :
  Calls Tryz.prog 113 #[ptV wk,.agg #[.pointer p,.pointer q]] w (TrB w (K6 os i) λn=>.tuple #[Af n.1,Af n.2]):=by
 have eY:AM (λk=>k<w.heap.size) w bf (CE os) (Di os):=hf.mono λk _ hk=>hk
 have eZ:DI w (λk=>k<w.heap.size) p q i:=hi.mono λk _ hk=>hk
 obtain ⟨ib,ir⟩:=i
 refine Ar func113 rfl ntmps113 ?_
 have e':=CN w
 refine A4<|WL.box rfl rfl (λb1 dU dV bU aM fo=>?_)
 have f0:=AM.same (w1:=dU) eY (λk hk hl=>aM.other k oO)
 have dW:=DI.same (w1:=dU) eZ (λk hk hl=>aM.other k oO)
 have f1:=Bl dV hk.lt
 have f2:=hk.un aM f1
 have bV:=uB e' dV aM
 refine Ct rfl<|A9 rfl<|A4<|A1 (.fa Gp rfl Mh dD rfl)<|Ah (Ae (isAgg115 _) rfl bU rfl)<|A1 (.neP underlying115 rfl)<|C1 BK rfl rfl ((Ei _ _)) (λk9 w7 aN aA=>?_) (λa8 w7 aN aA=>?_)
 have cr:=Ej bV (Below.mono aA bV.size)
 exact Bt (BB k9 (by rw [(CL aN).2];have:=YS (dW).box aN;simp only at this;subst this;rfl) cr)
 have bW:=AM.same (w1:=w7) f0 (λk hk hl=>aA.block k hl)
 have bX:=DI.same (w1:=w7) dW (λk hk hl=>aA.block k hl)
 have bY:=f2.bl aA
 have b8:=bU.bl aA
 have aO:=Ci bV aA
 obtain ⟨u,rfl⟩:=YR (bX).box aN
 obtain ⟨pb,z0,f3,f4,fG,f5⟩:=(bX).box
 cases f3
 refine A0<|A4<|A3 rfl<|A1 (.fa Gp rfl Mh dD rfl)<|Ah (Ae (isAgg115 _) rfl b8 rfl)<|A1 (.nck rfl)<|Ah (Bk rfl f4 Ay rfl Al)<|Eg BK rfl rfl ((IC wk bf sv pv _ _ os H z0 u 6 _ bY bW f5 (hg u rfl))) (λf6 b5 ao a2=>?_) (λfH fI b5 ao a2=>?_)
 have bZ:=Ej aO (Below.mono a2 aO.size)
 exact Bt (BB f6 (A1Q ao) bZ)
 have e1:=AM.same (w1:=b5) bW (λk hk hl=>a2.1.block k hl)
 have e3:=bY.bl a2.1
 have e4:=b8.bl a2.1
 have b9:=Ci aO a2.1
 obtain ⟨y,ey,hy⟩:=a2.2
 subst ey
 have fJ:=aO.size
 have hb3:=b8.lt
 have f7:=HL H (hg u rfl) ao
 have K:=ao
 have fK:=a2.1.size
 obtain ⟨keys,list,data,cs,dX,ok,fL,fM,fN,hr,f8,hd,fO,f9,e5⟩:=hy.inv
 obtain ⟨k,n,s,kp,kl,kc,lp,ll,lc,dp,dl,dc⟩:=y
 have e2:=ok.ll
 simp only at e2 hr f8 dX
 subst e2
 subst dX
 have dY:AH b5 (λq=>w.heap.size<=q/\q<b5.heap.size) cs list:=⟨f9,λi h h2=>(e5 i h h2).mono λq h1 h2=>⟨oM,h2⟩⟩
 obtain ⟨LB,dZ⟩:=eX ((b5).heap.size)
 rw [<- dZ] at dY
 have bk:∀ i (h:i<list.length),Is os list[i]:=λi h=>f7.1.sub (AA h)
 refine A1 (.fld Ay rfl Dv rfl rfl)<|A9 rfl<|A4<|A3 rfl<|A1 (.lenS C2 rfl)<|A1 (.eql rfl rfl)<|C1 BK rfl rfl ((Ei _ _)) (λfb b' ap L=>?_) (λfP b' ap L=>?_)
 have c0:=Ej b9 (Below.mono L b9.size)
 exact Bt (BB fb (by rw [(CL ap).2];exact A1R K (by have h4:¬ ((cs.length:Nat):Int)=4:=dF (CL ap).1;show ¬ list.length=4;omega)) c0)
 have e6:=AM.same (w1:=b') e1 (λk hk hl=>L.block k hl)
 have e7:=AH.same (w1:=b') dY (λk hk hl=>L.block k hl)
 have c2:=e3.bl L
 have e8:=e4.bl L
 have c3:=DW hr L (λb=>hr.lt b)
 have c4:=Ci b9 L
 have e9:=L.size
 rw [<- dZ] at e9
 have x:list.length=4:=by have h4:((cs.length:Nat):Int)=4:=dT (E6 ap);omega
 refine A0<|A4<|Bj zeroValue48 rfl (λB c5 aB ct aa fj=>?_)
 have ea:=AM.same (w1:=c5) e6 (λk hk hl=>aa.other k oO)
 have eb:=AH.same (w1:=c5) e7 (λk hk hl=>aa.other k oO)
 have ec:=Bl aB c2.lt
 have ed:=c2.un aa ec
 have fp:=Bl aB e8.lt
 have aP:=λb=>aB▸c3.lt b
 have ee:=AG.upd c3 aa (λb=>CR (aP b))
 have ef:=uB c4 aB aa
 have fc:=CF aB c4.size
 refine A0<|Ad<|A4<|A3 rfl<|A1 (.lenS C2 rfl)<|A3 rfl<|A0<|AO ?_
 have fq:LB<=B:=by omega
 refine BM (α:=Nat × List Int) (λt=>[(0,ptV wk),(7,ptV B),(29,.slice lp cs.length lc),(30,Af (cs.length:Int)),(31,Af (t.1:Int))]) (λt w'=>AL w w'/\B0 w' wk (Vq bf sv pv) 86/\B0 w' B (OJ t.2) 48/\AG EN w' lp cs/\AM (λk=>k<w.heap.size) w' bf (CE os) (Di os)/\AH w' (λq=>w.heap.size<=q/\q<LB) cs list/\t.1<=cs.length/\FD os (list.take t.1)=.ok t.2/\t.2.length=t.1) (λt=>cs.length-t.1) ((0,[])) ⟨rfl,rfl,rfl,rfl,rfl,tT⟩ (⟨ef,ed,ct,ee,ea,eb,FI _,rfl,rfl⟩) (λt w1 hR=>?_)
 obtain ⟨i0,ns⟩:=t
 obtain ⟨q1,q2,q3,q4,q5,q6,q7,q8,q9⟩:=hR
 simp only at q3 q7 q8 q9
 have fQ:=q3.lt
 have fR:ns.length<5:=by omega
 refine A4<|A1 (.lss rfl rfl)<|A0<|Ad<|Ai rfl (λc6=>?_) (λc6=>?_)
 have eg:=dT c6
 refine Ap<|Ad<|AO<|A4<|A1 (.iis (((i0:Nat):Int)) (.mv rfl) oO)<|A1 (.ixm C2 CU rfl rfl (q4.isp oO) _ rfl oO)<|Ah (Dz Ay rfl Al q4 (_) oO rfl)<|Bj Cz rfl (λd' c7 aC cu a4 fk=>?_)
 have eh:=AM.same (w1:=c7) q5 (λk hk hl=>a4.other k oO)
 have ei:=AH.same (w1:=c7) q6 (λk hk hl=>a4.other k oO)
 have ej:=Bl aC q2.lt
 have ek:=q2.un a4 ej
 have el:=Bl aC q3.lt
 have em:=q3.un a4 el
 have bm:=λb=>aC▸q4.lt b
 have en:=AG.upd q4 a4 (λb=>CR (bm b))
 have eo:=uB q1 aC a4
 have fd:=CF aC q1.size
 refine Ct rfl<|Ax rfl rfl cu Al rfl rfl (λbn a a5 fl=>?_)
 have ep:=AM.same (w1:=bn) eh (λk hk hl=>a5.other k oM)
 have eq:=AH.same (w1:=bn) ei (λk hk hl=>a5.other k oM)
 have c:=ek.up a5
 have er:=em.up a5
 have es:=AG.upd en a5 (λb=>CR (bm b))
 have et:=BU eo oO a5
 refine A0<|Ad<|D6 12 rfl BR (λw'=>w'.heap[wk]?=bn.heap[wk]?/\w'.heap[d']?=bn.heap[d']?/\True) (λc8 a7=>?_)
 have ba:=AM.same (w1:=c8) ep (λk hk hl=>(by obtain ⟨m,rfl⟩:=a7;rfl))
 have bb:=AH.same (w1:=c8) eq (λk hk hl=>(by obtain ⟨m,rfl⟩:=a7;rfl))
 have a3:=c.drew a7
 have bc:=er.drew a7
 have P:=a.drew a7
 have aQ:=es.drew a7
 have aR:=C6.below et a7
 refine Ab 0 rfl (.mv rfl) ⟨(a3).trans (c).symm,(P).trans (a).symm,tT⟩ ?_
 refine Ab 1 rfl (.nck rfl) ⟨(a3).trans (c).symm,(P).trans (a).symm,tT⟩ ?_
 refine Ab 2 rfl (.fa OO rfl sizeOf38 dD rfl) ⟨(a3).trans (c).symm,(P).trans (a).symm,tT⟩ ?_
 refine BX 3 rfl (λw' hw'=>Ae (isAgg38 _) rfl ((hw'.1).trans c) rfl) ⟨(a3).trans (c).symm,(P).trans (a).symm,tT⟩ rfl ?_
 refine BX 4 rfl (λw' hw'=>Bk rfl ((hw'.2.1).trans a) Ay rfl Al) ⟨(a3).trans (c).symm,(P).trans (a).symm,tT⟩ rfl ?_
 refine FA 5 rfl 9 rfl ?_ ?_
 refine Bf BK rfl rfl ((Fv bf _ os H.objs (λo ho=>(H.goo o ho).rng.ref) (cs[i0]'oO) (list[i0]'oO) _ (Fj os 32 (list[i0]'oO)) _ ba ((bb).sub i0 oO oO) (bk i0 oO).snd (bk i0 oO).rng.ref rfl)) (λz c9 Q=>?_)
 have eu:=AM.same (w1:=c9) ba (λk hk hl=>Q.2.block k hl)
 have ev:=AH.same (w1:=c9) bb (λk hk hl=>Q.2.block k hl)
 have aj:=a3.bl Q.2
 have ca:=bc.bl Q.2
 have ak:=P.bl Q.2
 have cb:=DW aQ Q.2 (λb=>aQ.lt b)
 have cc:=Ci aR Q.2
 have hz:=(Q).1.mono (T:=λq=>c8.heap.size<=q/\q<c9.heap.size) (λq h1 h2=>⟨h1,h2⟩)
 have ew:=P.lt
 have ex:=aR.size
 have ez:=Q.2.size
 refine A0<|⟨⟨(aj).trans (c).symm,(ak).trans (a).symm,tT⟩,?_⟩
 refine Ab 6 rfl (.mv rfl) ⟨(aj).trans (c).symm,(ak).trans (a).symm,tT⟩ ?_
 refine Ab 7 rfl (.ext rfl rfl) ⟨(aj).trans (c).symm,(ak).trans (a).symm,tT⟩ ?_
 refine Ab 8 rfl (.ext rfl rfl) ⟨(aj).trans (c).symm,(ak).trans (a).symm,tT⟩ ?_
 refine AX 9 rfl<|Bj Cz rfl (λfS bd am cv G fm=>?_)
 have eA:=AM.same (w1:=bd) eu (λk hk hl=>G.other k oO)
 have eB:=AH.same (w1:=bd) ev (λk hk hl=>G.other k oO)
 have eC:=AB.same (w1:=bd) hz (λk hk hl=>G.other k oO)
 have eD:=Bl am aj.lt
 have cd:=aj.un G eD
 have eF:=Bl am ca.lt
 have eG:=ca.un G eF
 have eH:=Bl am ak.lt
 have cf:=ak.un G eH
 have bo:=λb=>am▸cb.lt b
 have eI:=AG.upd cb G (λb=>CR (bo b))
 have eJ:=uB cc am G
 have fe:=CF am cc.size
 refine A0<|⟨⟨(cd).trans (c).symm,(cf).trans (a).symm,tT⟩,?_⟩
 refine AX 10 rfl<|Ax rfl rfl cv Al rfl rfl (λcg cw J fn=>?_)
 have eK:=AM.same (w1:=cg) eA (λk hk hl=>J.other k oM)
 have eL:=AH.same (w1:=cg) eB (λk hk hl=>J.other k oM)
 have eM:=AB.same (w1:=cg) eC (λk hk hl=>J.other k oO)
 have be:=cd.up J
 have eN:=eG.up J
 have ci:=cf.up J
 have bp:=AG.upd eI J (λb=>CR (bo b))
 have aS:=BU eJ oO J
 refine A0<|⟨⟨(be).trans (c).symm,(ci).trans (a).symm,tT⟩,?_⟩
 refine Ab 11 rfl (.as rfl) ⟨(be).trans (c).symm,(ci).trans (a).symm,tT⟩ ?_
 refine BH kR<|A4<|A3 rfl<|C1 BK rfl rfl ((Hz _ _)) (λeO aT aD d=>?_) (λfr aT aD d=>?_)
 have bM:=Ej aS (Below.mono d aS.size)
 exact Bt (BB eO (by obtain ⟨h1,h2⟩:=LA aD;exact LN K x (Lx (l:=list) oO q8 (Sg h1 h2))) bM)
 have cy:=AM.same (w1:=aT) eK (λk hk hl=>d.block k hl)
 have cz:=AH.same (w1:=aT) eL (λk hk hl=>d.block k hl)
 have cA:=AB.same (w1:=aT) eM (λk hk hl=>d.block k hl)
 have cB:=be.bl d
 have cC:=eN.bl d
 have cD:=cw.bl d
 have bq:=DW bp d (λb=>bp.lt b)
 have cE:=Ci aS d
 obtain ⟨r,hR⟩:=Pc aD
 have a9:=cA
 rw [hR] at a9
 have b6:r.kind=z.kind:=AB.kind (o:=r) a9
 refine A0<|A4<|A9 rfl<|A4<|A3 rfl<|Ah (Bk rfl cD Ay rfl Al)<|Ao (RT z _) (λbg U=>?_)
 have cF:=AM.same (w1:=bg) cy (λk hk hl=>U.block k hl)
 have cG:=AH.same (w1:=bg) cz (λk hk hl=>U.block k hl)
 have cH:=AB.same (w1:=bg) a9 (λk hk hl=>U.block k hl)
 have cI:=cB.bl U
 have cJ:=cC.bl U
 have cK:=DW bq U (λb=>bq.lt b)
 have cL:=Ci cE U
 refine A3 rfl<|A1 (.ext rfl rfl)<|A1 (.ext rfl rfl)<|A1 (.ixr1 N5 Bw rfl rfl _ rfl oO)<|X8 (o:=ns.length) (OJ (ns++[(Il z.kind z.n).1])) Bw rfl (by rw [HG,Do,q9]) rfl (rfl) cJ (by rw [Qt oO];omega) (Sw oO) (λaU aE g ff=>?_)
 have aE:B0 aU B _ _:=aE
 have g:CK B _ _:=g
 have cM:=AM.same (w1:=aU) cF (λk hk hl=>g.other k oM)
 have cN:=AH.same (w1:=aU) cG (λk hk hl=>g.other k oM)
 have bt:=AB.same (w1:=aU) cH (λk hk hl=>g.other k oM)
 have cO:=cI.up g
 have bu:=AG.upd cK g (λb=>CR (aP b))
 have aV:=BU cL oO g
 refine A9 rfl<|Am<|A3 rfl<|C1 BK rfl rfl ((Ei _ _)) (λeP aW ab C=>?_) (λfs aW ab C=>?_)
 have bN:=Ej aV (Below.mono C aV.size)
 exact Bt (BB eP (by rw [(CL ab).2];exact LN K x (Lx (l:=list) oO q8 (UB hR b6 (bt).nE (CL ab).1))) bN)
 have cP:=AM.same (w1:=aW) cM (λk hk hl=>C.block k hl)
 have cQ:=AH.same (w1:=aW) cN (λk hk hl=>C.block k hl)
 have cR:=AB.same (w1:=aW) bt (λk hk hl=>C.block k hl)
 have cS:=cO.bl C
 have cT:=aE.bl C
 have cU:=DW bu C (λb=>bu.lt b)
 have cV:=Ci aV C
 have cj:=Si hR b6 (cR).nE (E6 ab)
 refine A0<|Am<|A1 (.add rfl rfl (Ba oO))<|A3 rfl<|A0<|?_
 exact ⟨(i0+1,ns++[(Il z.kind z.n).1]),⟨rfl,rfl,rfl,rfl,rfl,tT⟩,⟨cV,cS,cT,cU,cP,cQ,oM,Qb oO q8 cj,by simp;((try simp only) <;> omega)⟩,oM⟩
 refine Bj Cz rfl (λft aX a6 ck E fg=>?_)
 have bv:=AM.same (w1:=aX) ba (λk hk hl=>E.other k oO)
 have bw:=AH.same (w1:=aX) bb (λk hk hl=>E.other k oO)
 have cW:=Bl a6 a3.lt
 have bz:=a3.un E cW
 have cX:=Bl a6 bc.lt
 have cY:=bc.un E cX
 have cZ:=Bl a6 P.lt
 have aY:=P.un E cZ
 have b7:=λb=>a6▸aQ.lt b
 have bA:=AG.upd aQ E (λb=>CR (b7 b))
 have bB:=uB aR a6 E
 have eW:=CF a6 aR.size
 refine A0<|⟨⟨(bz).trans (c).symm,(aY).trans (a).symm,tT⟩,?_⟩
 refine AX 5 rfl<|Bf BK rfl rfl ((Fv bf _ os H.objs (λo ho=>(H.goo o ho).rng.ref) (cs[i0]'oO) (list[i0]'oO) _ (Fj os 32 (list[i0]'oO)) _ bv ((bw).sub i0 oO oO) (bk i0 oO).snd (bk i0 oO).rng.ref rfl)) (λz bh e=>?_)
 have c':=AM.same (w1:=bh) bv (λk hk hl=>e.2.block k hl)
 have d0:=AH.same (w1:=bh) bw (λk hk hl=>e.2.block k hl)
 have ac:=bz.bl e.2
 have d1:=cY.bl e.2
 have ad:=aY.bl e.2
 have d2:=ck.bl e.2
 have d3:=DW bA e.2 (λb=>bA.lt b)
 have d4:=Ci bB e.2
 have hz:=(e).1.mono (T:=λq=>aX.heap.size<=q/\q<bh.heap.size) (λq h1 h2=>⟨h1,h2⟩)
 have ew:=aY.lt
 have ex:=bB.size
 have ez:=e.2.size
 refine A0<|⟨⟨(ac).trans (c).symm,(ad).trans (a).symm,tT⟩,?_⟩
 refine Ab 6 rfl (.mv rfl) ⟨(ac).trans (c).symm,(ad).trans (a).symm,tT⟩ ?_
 refine Ab 7 rfl (.ext rfl rfl) ⟨(ac).trans (c).symm,(ad).trans (a).symm,tT⟩ ?_
 refine Ab 8 rfl (.ext rfl rfl) ⟨(ac).trans (c).symm,(ad).trans (a).symm,tT⟩ ?_
 refine AX 10 rfl<|Ax rfl rfl d2 Al rfl rfl (λbi cl j fh=>?_)
 have d5:=AM.same (w1:=bi) c' (λk hk hl=>j.other k oM)
 have d6:=AH.same (w1:=bi) d0 (λk hk hl=>j.other k oM)
 have d7:=AB.same (w1:=bi) hz (λk hk hl=>j.other k oO)
 have aZ:=ac.up j
 have d8:=d1.up j
 have bC:=ad.up j
 have bD:=AG.upd d3 j (λb=>CR (b7 b))
 have a':=BU d4 oO j
 refine A0<|⟨⟨(aZ).trans (c).symm,(bC).trans (a).symm,tT⟩,?_⟩
 refine Ab 11 rfl (.as rfl) ⟨(aZ).trans (c).symm,(bC).trans (a).symm,tT⟩ ?_
 refine BH kR<|A4<|A3 rfl<|C1 BK rfl rfl ((Hz _ _)) (λeQ b0 aF f=>?_) (λfu b0 aF f=>?_)
 have bO:=Ej a' (Below.mono f a'.size)
 exact Bt (BB eQ (by obtain ⟨h1,h2⟩:=LA aF;exact LN K x (Lx (l:=list) oO q8 (Sg h1 h2))) bO)
 have d9:=AM.same (w1:=b0) d5 (λk hk hl=>f.block k hl)
 have da:=AH.same (w1:=b0) d6 (λk hk hl=>f.block k hl)
 have db:=AB.same (w1:=b0) d7 (λk hk hl=>f.block k hl)
 have dd:=aZ.bl f
 have de:=d8.bl f
 have df:=cl.bl f
 have bE:=DW bD f (λb=>bD.lt b)
 have dg:=Ci a' f
 obtain ⟨r,hR⟩:=Pc aF
 have a9:=db
 rw [hR] at a9
 have b6:r.kind=z.kind:=AB.kind (o:=r) a9
 refine A0<|A4<|A9 rfl<|A4<|A3 rfl<|Ah (Bk rfl df Ay rfl Al)<|Ao (RT z _) (λbj V=>?_)
 have dh:=AM.same (w1:=bj) d9 (λk hk hl=>V.block k hl)
 have di:=AH.same (w1:=bj) da (λk hk hl=>V.block k hl)
 have dj:=AB.same (w1:=bj) a9 (λk hk hl=>V.block k hl)
 have dk:=dd.bl V
 have dm:=de.bl V
 have dn:=DW bE V (λb=>bE.lt b)
 have dq:=Ci dg V
 refine A3 rfl<|A1 (.ext rfl rfl)<|A1 (.ext rfl rfl)<|A1 (.ixr1 N5 Bw rfl rfl _ rfl oO)<|X8 (o:=ns.length) (OJ (ns++[(Il z.kind z.n).1])) Bw rfl (by rw [HG,Do,q9]) rfl (rfl) dm (by rw [Qt oO];omega) (Sw oO) (λb2 aG v fi=>?_)
 have aG:B0 b2 B _ _:=aG
 have v:CK B _ _:=v
 have dr:=AM.same (w1:=b2) dh (λk hk hl=>v.other k oM)
 have ds:=AH.same (w1:=b2) di (λk hk hl=>v.other k oM)
 have bG:=AB.same (w1:=b2) dj (λk hk hl=>v.other k oM)
 have dt:=dk.up v
 have bH:=AG.upd dn v (λb=>CR (aP b))
 have b3:=BU dq oO v
 refine A9 rfl<|Am<|A3 rfl<|C1 BK rfl rfl ((Ei _ _)) (λeR b4 ae D=>?_) (λfv b4 ae D=>?_)
 have bP:=Ej b3 (Below.mono D b3.size)
 exact Bt (BB eR (by rw [(CL ae).2];exact LN K x (Lx (l:=list) oO q8 (UB hR b6 (bG).nE (CL ae).1))) bP)
 have du:=AM.same (w1:=b4) dr (λk hk hl=>D.block k hl)
 have dv:=AH.same (w1:=b4) ds (λk hk hl=>D.block k hl)
 have dw:=AB.same (w1:=b4) bG (λk hk hl=>D.block k hl)
 have dx:=dt.bl D
 have dy:=aG.bl D
 have dz:=DW bH D (λb=>bH.lt b)
 have dA:=Ci b3 D
 have cj:=Si hR b6 (dw).nE (E6 ae)
 refine A0<|Am<|A1 (.add rfl rfl (Ba oO))<|A3 rfl<|A0<|?_
 exact ⟨(i0+1,ns++[(Il z.kind z.n).1]),⟨rfl,rfl,rfl,rfl,rfl,tT⟩,⟨dA,dx,dy,dz,du,dv,oM,Qb oO q8 cj,by simp;((try simp only) <;> omega)⟩,oM⟩
 have eg:=dF c6
 refine BF<|Ad ?_
 obtain ⟨n0,n1,n2,n3,rfl⟩:=A3v (ns:=ns) oO
 have e0:=Uz q8
 have an:FD os list=.ok [n0,n1,n2,n3]:=by rw [An oO] at q8;exact q8
 have a1:B0 w1 B #[Af n0,Af n1,Af n2,Af n3] 48:=q3
 refine Am<|A9 rfl<|A4<|A1 (.ixr1 N5 Bw rfl rfl 0 rfl oO)<|Ah (Ae (BZ _) rfl a1 rfl)<|A1 (.eql rfl rfl)<|A3 rfl<|Ck rfl rfl rfl (λX=>?_) (λX=>?_)
 have dB:=dT X
 refine A1 (.ixr1 N5 Bw rfl rfl 1 rfl oO)<|Az X<|Ah (Ae (BZ _) rfl a1 rfl)<|Az X<|A1 (.eql rfl rfl)<|A1 (.pkT rfl X rfl)<|A3 rfl<|Ck rfl rfl rfl (λF=>?_) (λF=>?_)
 have dC:=dT F
 refine A3 rfl<|Az F<|A1 (.ixr1 N5 Bw rfl rfl 2 rfl oO)<|Az F<|Ah (Ae (BZ _) rfl a1 rfl)<|Az F<|Xb BK rfl rfl rfl rfl ((Xl n2 _ (e0 _ (by simp)))) (λfw dE=>?_)
 obtain rfl:=dE
 refine A1 (.pkT rfl F rfl)<|A3 rfl<|Ck rfl rfl rfl (λa0=>?_) (λa0=>?_)
 refine A3 rfl<|Az a0<|A1 (.ixr1 N5 Bw rfl rfl 3 rfl oO)<|Az a0<|Ah (Ae (BZ _) rfl a1 rfl)<|Az a0<|Xb BK rfl rfl rfl rfl ((Xl n3 _ (e0 _ (by simp)))) (λfx dG=>?_)
 obtain rfl:=dG
 refine A1 (.pkT rfl a0 rfl)<|C1 BK rfl rfl ((Ei _ _)) (λeS cm af aq=>?_) (λfy cm af aq=>?_)
 have bQ:=Ej q1 (Below.mono aq q1.size)
 exact Bt (BB eS (by rw [(CL af).2];exact K5 K x an (by have:=(CL af).1;unfold GW;simp_all)) bQ)
 have ar:=a1.below aq a1.lt
 have dH:=Ci q1 aq
 have aH:GW [n0,n1,n2,n3]=true:=by have:=E6 af;unfold GW;simp_all
 refine A0<|Ad<|D6 6 rfl BR (λw'=>w'.heap[B]?=cm.heap[B]?/\True) (λfz bI=>?_)
 have dI:=ar.drew bI
 have dJ:=C6.below dH bI
 have aI:=Bs (dI.trans ar.symm) Bi
 refine Ab 0 rfl (.ixr1 N5 Bw rfl rfl 2 rfl oO) aI ?_
 refine BX 1 rfl (λw' hw'=>Ae (BZ _) rfl ((hw'.1).trans ar) rfl) aI rfl ?_
 refine Ab 2 rfl (.ixr1 N5 Bw rfl rfl 3 rfl oO) aI ?_
 refine BX 3 rfl (λw' hw'=>Ae (BZ _) rfl ((hw'.1).trans ar) rfl) aI rfl ?_
 refine Ab 4 rfl (.as rfl) aI ?_
 refine Ab 5 rfl (.as rfl) aI ?_
 refine BH kR<|AT (D0 rfl rfl rfl ?_)
 exact Cf.ok (n2,n3) (Pl K x an aH) rfl dJ
 refine Bc a0<|Bc a0<|Bc a0<|A1 (.pkF rfl a0 rfl)<|C1 BK rfl rfl ((Ei _ _)) (λeT cn ag au=>?_) (λfA cn ag au=>?_)
 have bR:=Ej q1 (Below.mono au q1.size)
 exact Bt (BB eT (by rw [(CL ag).2];exact K5 K x an (by have:=(CL ag).1;unfold GW;simp_all)) bR)
 have av:=a1.below au a1.lt
 have dK:=Ci q1 au
 have aH:GW [n0,n1,n2,n3]=true:=by have:=E6 ag;unfold GW;simp_all
 refine A0<|Ad<|D6 6 rfl BR (λw'=>w'.heap[B]?=cn.heap[B]?/\True) (λfB bJ=>?_)
 have dL:=av.drew bJ
 have dM:=C6.below dK bJ
 have aJ:=Bs (dL.trans av.symm) Bi
 refine Ab 0 rfl (.ixr1 N5 Bw rfl rfl 2 rfl oO) aJ ?_
 refine BX 1 rfl (λw' hw'=>Ae (BZ _) rfl ((hw'.1).trans av) rfl) aJ rfl ?_
 refine Ab 2 rfl (.ixr1 N5 Bw rfl rfl 3 rfl oO) aJ ?_
 refine BX 3 rfl (λw' hw'=>Ae (BZ _) rfl ((hw'.1).trans av) rfl) aJ rfl ?_
 refine Ab 4 rfl (.as rfl) aJ ?_
 refine Ab 5 rfl (.as rfl) aJ ?_
 refine BH kR<|AT (D0 rfl rfl rfl ?_)
 exact Cf.ok (n2,n3) (Pl K x an aH) rfl dM
 have dC:=dF F
 refine Bc F<|Bc F<|Bc F<|A1 (.pkF rfl F rfl)<|A3 rfl<|Bc rfl<|Bc rfl<|Bc rfl<|Bc rfl<|A1 (.pkF rfl rfl rfl)<|C1 BK rfl rfl ((Ei _ _)) (λeU co ah aw=>?_) (λfC co ah aw=>?_)
 have bS:=Ej q1 (Below.mono aw q1.size)
 exact Bt (BB eU (by rw [(CL ah).2];exact K5 K x an (by have:=(CL ah).1;unfold GW;simp_all)) bS)
 have ax:=a1.below aw a1.lt
 have dN:=Ci q1 aw
 have aH:GW [n0,n1,n2,n3]=true:=by have:=E6 ah;unfold GW;simp_all
 refine A0<|Ad<|D6 6 rfl BR (λw'=>w'.heap[B]?=co.heap[B]?/\True) (λfD bK=>?_)
 have dO:=ax.drew bK
 have dP:=C6.below dN bK
 have aK:=Bs (dO.trans ax.symm) Bi
 refine Ab 0 rfl (.ixr1 N5 Bw rfl rfl 2 rfl oO) aK ?_
 refine BX 1 rfl (λw' hw'=>Ae (BZ _) rfl ((hw'.1).trans ax) rfl) aK rfl ?_
 refine Ab 2 rfl (.ixr1 N5 Bw rfl rfl 3 rfl oO) aK ?_
 refine BX 3 rfl (λw' hw'=>Ae (BZ _) rfl ((hw'.1).trans ax) rfl) aK rfl ?_
 refine Ab 4 rfl (.as rfl) aK ?_
 refine Ab 5 rfl (.as rfl) aK ?_
 refine BH kR<|AT (D0 rfl rfl rfl ?_)
 exact Cf.ok (n2,n3) (Pl K x an aH) rfl dP
 have dB:=dF X
 refine Bc X<|Bc X<|A1 (.pkF rfl X rfl)<|A3 rfl<|Bc rfl<|Bc rfl<|Bc rfl<|Bc rfl<|A1 (.pkF rfl rfl rfl)<|A3 rfl<|Bc rfl<|Bc rfl<|Bc rfl<|Bc rfl<|A1 (.pkF rfl rfl rfl)<|C1 BK rfl rfl ((Ei _ _)) (λeV cq ai ay=>?_) (λfE cq ai ay=>?_)
 have bT:=Ej q1 (Below.mono ay q1.size)
 exact Bt (BB eV (by rw [(CL ai).2];exact K5 K x an (by have:=(CL ai).1;unfold GW;simp_all)) bT)
 have az:=a1.below ay a1.lt
 have dQ:=Ci q1 ay
 have aH:GW [n0,n1,n2,n3]=true:=by have:=E6 ai;unfold GW;simp_all
 refine A0<|Ad<|D6 6 rfl BR (λw'=>w'.heap[B]?=cq.heap[B]?/\True) (λfF bL=>?_)
 have dR:=az.drew bL
 have dS:=C6.below dQ bL
 have aL:=Bs (dR.trans az.symm) Bi
 refine Ab 0 rfl (.ixr1 N5 Bw rfl rfl 2 rfl oO) aL ?_
 refine BX 1 rfl (λw' hw'=>Ae (BZ _) rfl ((hw'.1).trans az) rfl) aL rfl ?_
 refine Ab 2 rfl (.ixr1 N5 Bw rfl rfl 3 rfl oO) aL ?_
 refine BX 3 rfl (λw' hw'=>Ae (BZ _) rfl ((hw'.1).trans az) rfl) aL rfl ?_
 refine Ab 4 rfl (.as rfl) aL ?_
 refine Ab 5 rfl (.as rfl) aL ?_
 refine BH kR<|AT (D0 rfl rfl rfl ?_)
 exact Cf.ok (n2,n3) (Pl K x an aH) rfl dS
end
section
def Ly:List (l8_):=[[67,111,117,114,105,101,114],[67,111,117,114,105,101,114,45,66,111,108,100],[67,111,117,114,105,101,114,45,79,98,108,105,113,117,101],[67,111,117,114,105,101,114,45,66,111,108,100,79,98,108,105,113,117,101],[72,101,108,118,101,116,105,99,97],[72,101,108,118,101,116,105,99,97,45,66,111,108,100],[72,101,108,118,101,116,105,99,97,45,79,98,108,105,113,117,101],[72,101,108,118,101,116,105,99,97,45,66,111,108,100,79,98,108,105,113,117,101],[84,105,109,101,115,45,82,111,109,97,110],[84,105,109,101,115,45,66,111,108,100],[84,105,109,101,115,45,73,116,97,108,105,99],[84,105,109,101,115,45,66,111,108,100,73,116,97,108,105,99],[83,121,109,98,111,108],[90,97,112,102,68,105,110,103,98,97,116,115]]
theorem A59:(Tryz.prog.info? 230).map (·.size)=some 14:=by kernel_rfl
theorem Nk:Ly.length=14:=rfl
abbrev nmC:Array Value:=(Ly.map G7).toArray
abbrev ZN (w:World):Prop:=B0 w 1 nmC 230
theorem A4b  (h:i<Ly.length):nmC[i]?=some (.string (bs Ly[i])):=by
 rw [List.getElem?_toArray,List.getElem?_map,Aj h];rfl
def FJ (s:l8_):Nat:=Ly.findIdx (·=s)
def MO (s:l8_):Int:=if FJ s<14 then (FJ s:Int) else 0
theorem A3y  (h:FJ s<14):MO s=(FJ s:Int):=A7 h
theorem XR  (h:i<Ly.length) (ho:∀ j<i,Ly.getD j []≠s) (he:Ly[i]=s):FJ s=i:=by
 unfold FJ
 rw [List.findIdx_eq h]
 refine ⟨by simpa using he,λj hj=>?_⟩
 have:=ho j hj
 rw [BY,Aj oO] at this
 simpa using this
theorem XS  (ho:∀ j<14,Ly.getD j []≠s):FJ s=14:=by
 unfold FJ
 rw [List.findIdx_eq_length_of_false]
 · rfl
 ·
  intro x hx
  obtain ⟨j,hj,rfl⟩:=List.mem_iff_getElem.1 hx
  have:=ho j hj
  rw [BY,Aj hj] at this
  simpa using this
theorem A6b  (h:i<Ly.length):Ly.getD i []=Ly[i]:=by rw [BY,Aj h];rfl
theorem XQ  (h:FJ s=i) (hi:i<14):(Value.tuple #[Af (i:Int),.bool true])=.tuple #[Af (MO s),.bool (decide (FJ s<14))]:=by unfold MO;rw [h,A7 hi,AP hi]
theorem UW  (h:FJ s=14):(Value.tuple #[Af 0,.bool false])=.tuple #[Af (MO s),.bool (decide (FJ s<14))]:=by unfold MO;rw [h];rfl
theorem Sx (s:l8_) (w:World) (hN:ZN w):Calls Tryz.prog 144 #[.string (bs s)] w λe w'=>e=.returned (.tuple #[Af (MO s),.bool (decide (FJ s<14))])/\w=w':=by
 refine Ar func144 rfl ntmps144<|A4<|Ct rfl<|A9 rfl<|Ad<|A4<|Ah (Bk rfl hN underlying230 rfl A59)<|A3 rfl<|A0<|AO<|BM (α:=Nat) (λt=>[(0,.string (bs s)),(6,.agg nmC),(7,Af (t:Int))]) (λt w'=>w=w'/\t<=14/\∀ j<t,Ly.getD j []≠s) (λt=>14-t) (0) ⟨rfl,rfl,rfl,tT⟩ (⟨rfl,oO,λj hj=>by omega⟩) (λt g hR=>?_)
 obtain ⟨a,rfl⟩:=eX t
 obtain ⟨rfl,ht,ho⟩:=hR
 refine A4<|A1 (.lss rfl rfl)<|A0<|Ad<|Ai rfl (λb=>?_) (λb=>?_)
 have d:=dT b
 refine Ap<|Ad<|AO<|A4<|A3 rfl<|A1 (.ixv underlying230 FX FH rfl rfl (a) (rfl) oO (A4b (i:=a) (by rw [Nk];omega)))<|Ct rfl<|A9 rfl<|A4<|A3 rfl<|A3 rfl<|A1 (.eqs rfl rfl)<|A0<|Ai rfl (λc=>?_) (λc=>?_)
 have f:=dT c
 refine A4<|A3 rfl<|Ct rfl<|A9 rfl<|AT (D0 rfl rfl rfl ?_)
 exact ⟨Ff (XQ (i:=a) (XR (by rw [Nk];omega) ho aS) oO),rfl⟩
 have f:=dF c
 refine Ap<|Am<|A1 (.add rfl rfl (Ba oO))<|A3 rfl<|A0<|?_
 exact ⟨a+1,⟨rfl,rfl,rfl,tT⟩,⟨rfl,oO,λj hj=>by
  rcases Ig.1 hj with h | rfl;exact ho j h;rw [A6b (by rw [Nk];omega)];assumption⟩,oO⟩
 have d:=dF b
 refine BF<|A4<|Ct rfl<|A9 rfl<|AT (D0 rfl rfl rfl ?_)
 exact ⟨Ff (UW (XS λj hj=>ho j oO)),rfl⟩
theorem Ou (w:World):Calls Tryz.prog 12 #[] w λe w'=>∃ b:Nat,e=.returned (.slice (some ⟨b,0,none⟩) 14 14)/\B3 G7 w' (some ⟨b,0,none⟩) Ly/\w.heap.size<=b/\AL w w':=by
 refine Ar func12 rfl ntmps12 ?_
 have d:=CN w
 refine A4<|A9 rfl<|A4<|Cs (ps:=_) Dy FH ZL rfl rfl rfl rfl rfl pR rfl (λk j f a c i=>?_)
 have g:=uB d f c
 have h:=B3.lit (V:=G7) (l:=Ly) a (rfl)
 refine A9 rfl<|AW ?_
 exact ⟨_,Ff rfl,h,oM,g⟩
end
section
def ftV (f:Jf):List Value:=[.string (bs f.name),Af f.font]
def Vt:FW Jf:=⟨2,ftV,dD,λ_=>rfl,λx u hu=>AN.1 (show (ftV x).all Value.oneCell'=true from rfl) u hu⟩
theorem Tq:(Tryz.prog.info? 206).map (λi=>(i.zero,i.size,i.bytes))=some (some (.agg #[.string ⟨#[]⟩,Af 0]),2,24):=by kernel_rfl
theorem Y8 (s:l8_) (n:Int):Tryz.prog.built 206 [(0,.string (bs s)),(1,Af n)]=some (ftV ⟨s,n⟩).toArray:=by kernel_rfl
def Kg:l8_:=[70,111,110,116]
def F9:l8_:=[84,121,112,101]
def XL:l8_:=[83,117,98,116,121,112,101]
def Vs:l8_:=[84,121,112,101,49]
def Zb:l8_:=[66,97,115,101,70,111,110,116]
def UP (os:List AV) (d:AV):Except Int Bool:=match G6 os d F9 Kg with
 | .error e=>.error e
 | .ok b=>if b=true then G6 os d XL Vs else .ok false
def Fu (os:List AV) (o:AV):Except Int Int:=match F1 os o 7 with
 | .error e=>.error e
 | .ok d=>match UP os d with
  | .error e=>.error e
  | .ok b=>if b=true then (match IO os d Zb 4 with
   | .error e=>.error e
   | .ok n=>if FJ n.text<14 then .ok (FJ n.text:Int) else .error 26) else .error 22
def JA (os:List AV):List (l8_)->List AV->Except Int (List Jf)
 | k::ks,o::r=>match Fu os o with
  | .error e=>.error e
  | .ok n=>match JA os ks r with
   | .error e=>.error e
   | .ok m=>.ok (⟨k,n⟩::m)
 | _,_=>.ok []
def EU (os:List AV) (r:Option AV):Except Int (List Jf):=match r with
 | none=>.ok []
 | some u=>match F1 os u 7 with
  | .error e=>.error e
  | .ok d=>match Dg d Kg with
   | none=>.ok []
   | some x=>match F1 os x 7 with
    | .error e=>.error e
    | .ok a=>JA os a.keys a.list
theorem Jz (os:List AV) (k:l8_) (ks:List (l8_)) (o:AV) (r:List AV):JA os (k::ks) (o::r)=match Fu os o with | .error e=>.error e | .ok n=>match JA os ks r with | .error e=>.error e | .ok m=>.ok (⟨k,n⟩::m):=rfl
theorem Qu {os:List AV}:∀ {a:List (l8_)} {c:List AV} {b:List (l8_)} {d:List AV} {ns:List Jf},a.length=c.length->JA os a c=.ok ns->JA os (a++b) (c++d)=match JA os b d with | .error e=>.error e | .ok m=>.ok (ns++m)
 | [],[],b,d,ns,_,h=>by
  cases h
  rw [C4,C4]
  cases JA os b d <;> rfl
 | k::a,o::c,b,d,ns,hl,h=>by
  rw [Jz] at h
  rw [Bb,Bb,Jz]
  cases hn:Fu os o with
  | error e=>rw [hn] at h;cases h
  | ok n =>
   rw [hn] at h
   cases hm:JA os a c with
   | error e=>rw [hm] at h;cases h
   | ok m =>
    rw [hm] at h
    cases h
    rw [Qu (by simpa using hl) hm]
    cases JA os b d <;> rfl
 | [],_::_,_,_,_,hl,_=>by simp at hl
 | _::_,[],_,_,_,hl,_=>by simp at hl
theorem Zm {os:List AV} {l:List AV} {ns:List Jf} {n:Int} (hk:ks.length=l.length) (hi:i<l.length) (h:JA os (ks.take i) (l.take i)=.ok ns) (hn:Fu os l[i]=.ok n):JA os (ks.take (i+1)) (l.take (i+1))=.ok (ns++[⟨ks[i],n⟩]):=by
 rw [List.take_add_one,List.take_add_one,Aj hi,Aj oO,Option.toList_some,Option.toList_some,Qu (by simp [hk]) h,Jz,hn]
 rfl
theorem GM {os:List AV} {l:List AV} {ns:List Jf} {e:Int} (hk:ks.length=l.length) (hi:i<l.length) (h:JA os (ks.take i) (l.take i)=.ok ns) (hn:Fu os l[i]=.error e):JA os ks l=.error e:=by
 have a:l=l.take i++l[i]::l.drop (i+1):=by rw [<- Aw hi,Dx]
 have b:ks=ks.take i++ks[i]'oO::ks.drop (i+1):=by rw [<- Aw oO,Dx]
 rw [a,b,Qu (by simp [hk]) h,Jz,hn]
theorem Zn {os:List AV} {o:AV} {e:Int} (h:F1 os o 7=.error e):Fu os o=.error e:=by unfold Fu;rw [h]
theorem A1l {os:List AV} {o d:AV} {e:Int} (h:F1 os o 7=.ok d) (h1:G6 os d F9 Kg=.error e):Fu os o=.error e:=by unfold Fu UP;rw [h];simp only;rw [h1]
theorem A1n {os:List AV} {o d:AV} (h:F1 os o 7=.ok d) (h1:G6 os d F9 Kg=.ok false):Fu os o=.error 22:=by unfold Fu UP;rw [h];simp only;rw [h1];rfl
theorem A1m {os:List AV} {o d:AV} {e:Int} (h:F1 os o 7=.ok d) (h1:G6 os d F9 Kg=.ok true) (h2:G6 os d XL Vs=.error e):Fu os o=.error e:=by unfold Fu UP;rw [h];simp only;rw [h1];simp only;rw [A7 trivial,h2]
theorem A1o {os:List AV} {o d:AV} (h:F1 os o 7=.ok d) (h1:G6 os d F9 Kg=.ok true) (h2:G6 os d XL Vs=.ok false):Fu os o=.error 22:=by unfold Fu UP;rw [h];simp only;rw [h1];simp only;rw [A7 trivial,h2];rfl
theorem A1q {os:List AV} {o d:AV} {e:Int} (h:F1 os o 7=.ok d) (h1:G6 os d F9 Kg=.ok true) (h2:G6 os d XL Vs=.ok true) (h3:IO os d Zb 4=.error e):Fu os o=.error e:=by unfold Fu UP;rw [h];simp only;rw [h1];simp only;rw [A7 trivial,h2];simp only;rw [A7 trivial,h3]
theorem UU {os:List AV} {o d n:AV} (h:F1 os o 7=.ok d) (h1:G6 os d F9 Kg=.ok true) (h2:G6 os d XL Vs=.ok true) (h3:IO os d Zb 4=.ok n):Fu os o=if FJ n.text<14 then .ok (FJ n.text:Int) else .error 26:=by unfold Fu UP;rw [h];simp only;rw [h1];simp only;rw [A7 trivial,h2];simp only;rw [A7 trivial,h3]
theorem A1i {os:List AV} {u:AV} {e:Int} (h:F1 os u 7=.error e):EU os (some u)=.error e:=by unfold EU;simp only;rw [h]
theorem Qv {os:List AV} {u d:AV} (h:F1 os u 7=.ok d) (h1:Dg d Kg=none):EU os (some u)=.ok []:=by unfold EU;simp only;rw [h];simp only;rw [h1]
theorem A1h {os:List AV} {u d x:AV} {e:Int} (h:F1 os u 7=.ok d) (h1:Dg d Kg=some x) (h2:F1 os x 7=.error e):EU os (some u)=.error e:=by unfold EU;simp only;rw [h];simp only;rw [h1];simp only;rw [h2]
theorem Ft {os:List AV} {u d x a:AV} (h:F1 os u 7=.ok d) (h1:Dg d Kg=some x) (h2:F1 os x 7=.ok a):EU os (some u)=JA os a.keys a.list:=by unfold EU;simp only;rw [h];simp only;rw [h1];simp only;rw [h2]
theorem Is.dict {os:List AV} {o:AV} (h:Is os o):o.kind=7->o.keys.length=o.list.length:=by
 have b:=h.snd
 cases b with
 | dict _ _ k ks l d hk b h2 h3 h4 h5 h=>exact λ_=>h3
 | num _ _ k n hk h=>intro a;rcases hk with rfl | rfl <;> exact De a (by simp [AV.kind])
 | arr=>intro a;exact De a (by simp [AV.kind])
 | _=>intro a;exact De a (by simp [AV.kind])
theorem Is.short {os:List AV} {o:AV} (h:Is os o):o.list.length<=65535:=by
 have a:=h.snd
 cases a with
 | dict _ _ k ks l d hk a h2 h3 h4 h5 h=>exact h2
 | arr _ _ l a h2 h=>exact h2
 | _=>exact FI _
end
section
structure Dh (S:Nat->Prop) (w:World):Prop where
 at':S 1
 blk:ZN w
theorem Dh.same  (h:Dh S w) (hb:∀ k,S k->k<w.heap.size->w1.heap[k]?=w.heap[k]?):Dh S w1:=⟨h.at',(hb _ h.at' h.blk.lt).trans h.blk⟩
theorem T3  {i:Option AV} (h:MX w S (.pointer p) i) (hp:p.isNone=true):i=none:=by
 cases i with
 | none=>rfl
 | some u=>obtain ⟨b,z,a,-⟩:=h;cases a;cases hp
theorem A4S  {i:Option AV} (h:MX w S (.pointer p) i) (hp:p.isNone=false):∃ u,i=some u:=by
 cases i with
 | none=>cases h;cases hp
 | some u=>exact ⟨u,rfl⟩
theorem A0S {u:Unit}:¬ G4 26=.ok u:=by unfold G4;rw [A2 dD];exact λh=>nomatch h
theorem A1k {os:List AV} {o m:AV} {e:Int} (h:Fu os o=if FJ m.text<14 then .ok (FJ m.text:Int) else .error 26) (hm:m.text=s) (hs:(!decide (FJ s<14))=true) (he:G4 26=.error e):Fu os o=.error e:=by
 unfold G4 at he
 rw [A2 dD] at he
 cases he
 rw [h,hm,A2 (by simpa using hs)]
theorem A1p {os:List AV} {o m:AV} (h:Fu os o=if FJ m.text<14 then .ok (FJ m.text:Int) else .error 26) (hm:m.text=s) (hs:(!decide (FJ s<14))=false):Fu os o=.ok (MO s):=by
 rw [h,hm,A7 (by simpa using hs),A3y (by simpa using hs)]
theorem ZZ (wk bf:Nat) (sv pv:Value) (S T:Nat->Prop) (os:List AV) (H:Vx os) (p q:Option Addr) (i:GS) (w:World) (hk:B0 w wk (Vq bf sv pv) 86) (hf:AM S w bf (CE os) (Di os)) (hi:DI w T p q i) (hg:∀ u,i.res=some u->Is os u) (hN:ZN w) :
  Calls Tryz.prog 114 #[ptV wk,.agg #[.pointer p,.pointer q]] w (TrE w (EU os i.res) λl v w'=>AD Vt 206 w.heap.size w' v l):=by
 have he:AM (λk=>k<w.heap.size) w bf (CE os) (Di os):=hf.mono λk _ hk=>hk
 have hh:DI w (λk=>k<w.heap.size) p q i:=hi.mono λk _ hk=>hk
 have hj:Dh (λk=>k<w.heap.size) w:=⟨hN.lt,hN⟩
 obtain ⟨ib,ir⟩:=i
 refine Ar func114 rfl ntmps114 ?_
 have hm:=CN w
 refine A4<|WL.box rfl rfl (λb1 cR fL bJ aJ io=>?_)
 have fM:=AM.same (w1:=cR) he (λk hk hl=>aJ.other k oO)
 have cS:=DI.same (w1:=cR) hh (λk hk hl=>aJ.other k oO)
 have hn:=Dh.same (w1:=cR) hj (λk hk hl=>aJ.other k oO)
 have ho:=Bl fL hk.lt
 have fN:=hk.un aJ ho
 have bO:=uB hm fL aJ
 refine A9 rfl<|Ad<|A4<|A1 (.fa Gp rfl Mh dD rfl)<|Ah (Ae (isAgg115 _) rfl bJ rfl)<|A1 (.eqP underlying115 rfl)<|A0<|Ai rfl (λh8=>?_) (λh8=>?_)
 refine A4<|A9 rfl<|AW ?_
 exact JC [] _ (by rw [T3 (cS).res h8];rfl) rfl ⟨bO,AD.nil _ _ _ _⟩
 refine Ap<|Ad ?_
 obtain ⟨u,rfl⟩:=A4S (cS).res (by simp_all)
 obtain ⟨pb,z0,hp,hq,iM,hs⟩:=(cS).res
 cases hp
 refine Am<|A3 rfl<|A1 (.fa Gp rfl Mh dD rfl)<|Ah (Ae (isAgg115 _) rfl bJ rfl)<|A1 (.nck rfl)<|Ah (Bk rfl hq Ay rfl Al)<|Eg BK rfl rfl ((IC wk bf sv pv _ _ os H z0 u 7 _ fN fM hs (hg u rfl))) (λht w9 b0 ap=>?_) (λhu iN w9 b0 ap=>?_)
 have dH:=Ej bO (Below.mono ap bO.size)
 exact Bt (GN ht (A1i b0) dH)
 have fV:=AM.same (w1:=w9) fM (λk hk hl=>ap.1.block k hl)
 have fW:=Dh.same (w1:=w9) hn (λk hk hl=>ap.1.block k hl)
 have fX:=fN.bl ap.1
 have fY:=bJ.bl ap.1
 have fZ:=Ci bO ap.1
 obtain ⟨d,hv⟩:=eX hu
 subst hv
 obtain ⟨y,ey,hy⟩:=ap.2
 subst ey
 have fO:=(HL H (hg u rfl) b0).1
 have ac:=b0
 have hA:=hy.mono (T:=λq=>q<w9.heap.size) (λq h1 h2=>h2)
 refine Bf BK rfl rfl ((HS y d _ Kg _ hA)) (λz cT ah=>?_)
 have f':=AM.same (w1:=cT) fV (λk hk hl=>ah.block k hl)
 have g0:=Dh.same (w1:=cT) fW (λk hk hl=>ah.block k hl)
 have cU:=fX.bl ah
 have cV:=fY.bl ah
 have cW:=Ci fZ ah
 obtain ⟨z,hz⟩:=z
 have hz:=AB.same (w1:=cT) hz (λk hk hl=>(ah).block k hl)
 have ip:=(ah).size
 refine A3 rfl<|A1 (.ext rfl rfl)<|A1 (.ext rfl rfl)<|Bj Cz rfl (λiO bK b2 dI ad ic=>?_)
 have g1:=AM.same (w1:=bK) f' (λk hk hl=>ad.other k oO)
 have g2:=Dh.same (w1:=bK) g0 (λk hk hl=>ad.other k oO)
 have g3:=AB.same (w1:=bK) hz (λk hk hl=>ad.other k oO)
 have g4:=Bl b2 cU.lt
 have g5:=cU.un ad g4
 have g6:=Bl b2 cV.lt
 have g7:=cV.un ad g6
 have g8:=uB cW b2 ad
 have hB:=CF b2 cW.size
 refine Ax rfl rfl dI Al rfl rfl (λcX bP ae ie=>?_)
 have cY:=AM.same (w1:=cX) g1 (λk hk hl=>ae.other k oM)
 have g9:=Dh.same (w1:=cX) g2 (λk hk hl=>ae.other k oM)
 have ga:=AB.same (w1:=cX) g3 (λk hk hl=>ae.other k oM)
 have cZ:=g5.up ae
 have gb:=g7.up ae
 have b3:=BU g8 oO ae
 refine A9 rfl<|Ad<|A4<|A3 rfl<|A1 (.not rfl)<|A0<|Ai rfl (λc'=>?_) (λc'=>?_)
 have gc:=(nT c')
 refine A4<|A9 rfl<|AW ?_
 exact JC [] _ (Qv ac (by simp_all)) rfl ⟨b3,AD.nil _ _ _ _⟩
 have gc:=(nF c')
 refine Ap<|Ad ?_
 obtain ⟨x,hx⟩:=Option.isSome_iff_exists.1 (show (Dg d Kg).isSome=true by simp_all)
 have fP:=ga
 rw [hx] at fP
 refine Am<|A3 rfl<|Ah (Bk rfl bP Ay rfl Al)<|Eg BK rfl rfl ((IC wk bf sv pv _ _ os H z x 7 _ cZ cY fP (fO.key hx))) (λhC bq ar a9=>?_) (λhD iP bq ar a9=>?_)
 have d0:=Ej b3 (Below.mono a9 b3.size)
 exact Bt (GN hC (A1h ac hx ar) d0)
 have ge:=AM.same (w1:=bq) cY (λk hk hl=>a9.1.block k hl)
 have gf:=Dh.same (w1:=bq) g9 (λk hk hl=>a9.1.block k hl)
 have d1:=cZ.bl a9.1
 have gg:=gb.bl a9.1
 have gh:=bP.bl a9.1
 have d2:=Ci b3 a9.1
 obtain ⟨a,hE⟩:=eX hD
 subst hE
 obtain ⟨y2,ey,hF⟩:=a9.2
 subst ey
 have bQ:=HL H (fO.key hx) ar
 have ag:=ar
 obtain ⟨keys,list,data,cs,fQ,ok,iQ,bR,hG,hr,hH,hd,iR,hI,gi⟩:=hF.inv
 obtain ⟨k,n,s,kp,kl,kc,lp,ll,lc,dp,dl,dc⟩:=y2
 have e1:=ok.kl
 have e2:=ok.ll
 have m1:=ok.kc
 have m4:=ok.km
 simp only at e1 e2 m1 m4 hr hH bR hG fQ
 subst e1
 subst e2
 subst fQ
 have hJ:AH bq (λq=>q<bq.heap.size) cs list:=⟨hI,λi h h2=>(gi i h h2).mono λq h1 h2=>h2⟩
 have hK:=λb=>hr.lt b
 have gj:=λb=>bR.lt b
 have iS:list.length<=65535:=bQ.1.short
 have a3:keys.length=list.length:=bQ.1.dict bQ.2
 have fR:∀ i (h:i<list.length),Is os list[i]:=λi h=>bQ.1.sub (AA h)
 refine Bj Cz rfl (λfS bL ai dJ aa ig=>?_)
 have gk:=AM.same (w1:=bL) ge (λk hk hl=>aa.other k oO)
 have gl:=Dh.same (w1:=bL) gf (λk hk hl=>aa.other k oO)
 have gm:=AH.same (w1:=bL) hJ (λk hk hl=>aa.other k oO)
 have go:=Bl ai d1.lt
 have gp:=d1.un aa go
 have iq:=Bl ai gg.lt
 have it:=Bl ai gh.lt
 have bS:=λb=>ai▸hr.lt b
 have gq:=AG.upd hr aa (λb=>CR (bS b))
 have bT:=λb=>ai▸bR.lt b
 have gr:=B3.upd bR aa (λb=>CR (bT b))
 have gs:=uB d2 ai aa
 have hL:=CF ai d2.size
 refine Ax rfl rfl dJ Al rfl rfl (λbU bV ab ih=>?_)
 have gt:=AM.same (w1:=bU) gk (λk hk hl=>ab.other k oM)
 have gv:=Dh.same (w1:=bU) gl (λk hk hl=>ab.other k oM)
 have gw:=AH.same (w1:=bU) gm (λk hk hl=>ab.other k oM)
 have gx:=gp.up ab
 have gz:=AG.upd gq ab (λb=>CR (bS b))
 have gA:=B3.upd gr ab (λb=>CR (bT b))
 have d3:=BU gs oO ab
 refine A0<|A4<|A9 rfl<|Ad<|A4<|A1 (.fa Ay rfl DU dD rfl)<|Ah (Ae (Fg _) rfl bV rfl)<|A1 (.lenS Dy rfl)<|A3 rfl<|A0<|AO ?_
 obtain ⟨LB,fT⟩:=eX ((bU).heap.size)
 have aK:w.heap.size<=LB:=by rw [fT];exact (d3).size
 have bW:0<keys.length->(pA kp).block<LB:=λb=>by have:=gj b;((try simp only) <;> omega)
 have bX:0<cs.length->(pA lp).block<LB:=λb=>by have:=hK b;((try simp only) <;> omega)
 refine BM (α:=Nat × Value × List Jf) (λt=>[(0,ptV wk),(7,ptV fS),(8,t.2.1),(33,.slice kp keys.length kc),(34,Af (keys.length:Int)),(35,Af (t.1:Int))]) (λt w'=>AL w w'/\B0 w' wk (Vq bf sv pv) 86/\B0 w' fS #[Af k,Af n,.string (bs s),.slice kp keys.length kc,.slice lp cs.length lc,.slice dp dl dc] 27/\B3 G7 w' kp keys/\AG EN w' lp cs/\AM (λk=>k<w.heap.size) w' bf (CE os) (Di os)/\Dh (λk=>k<w.heap.size) w'/\AH w' (λq=>q<LB) cs list/\AD Vt 206 LB w' t.2.1 t.2.2/\t.1<=keys.length/\JA os (keys.take t.1) (list.take t.1)=.ok t.2.2/\t.2.2.length=t.1/\LB<=w'.heap.size) (λt=>keys.length-t.1) ((0,.slice none 0 0,[])) ⟨rfl,rfl,rfl,rfl,rfl,rfl,tT⟩ (⟨d3,gx,bV,gA,gz,gt,gv,(gw).mono (λq h1 h2=>by ((try simp only) <;> omega)),AD.nil _ _ _ _,FI _,rfl,rfl,Nat.le_of_eq fT⟩) (λt w1 hR=>?_)
 obtain ⟨⟨i0,ov,ns⟩,hM⟩:=eX t
 subst hM
 obtain ⟨q1,q2,q3,q4,q5,q6,q7,q8,q9,hO,a4,hP,gB⟩:=hR
 simp only at q9 hO a4 hP
 refine A4<|A1 (.lss rfl rfl)<|A0<|Ad<|Ai rfl (λd4=>?_) (λd4=>?_)
 have gC:=dT d4
 refine Ap<|Ad<|AO<|A4<|A3 rfl<|A1 (.ixb Dy FH rfl rfl (q4.isp oO) _ rfl oO)<|Ah (Bq (FX _) rfl (q4.cells _ oO))<|Ct rfl<|A9 rfl<|A4<|A3 rfl<|A1 (.fa Ay rfl Cr dD rfl)<|Ah (Ae (Dv _) rfl q3 rfl)<|A3 rfl<|A1 (.ixm C2 CU rfl rfl (q5.isp oO) _ rfl oO)<|Ah (Dz Ay rfl Al q5 (_) oO rfl)<|Eg BK rfl rfl ((IC wk bf sv pv _ _ os H (cs[i0]'oO) (list[i0]'oO) 7 _ q2 q6 ((q8).sub i0 oO oO) (fR i0 oO))) (λhQ bt au U=>?_) (λhS iT bt au U=>?_)
 have d5:=Ej q1 (Below.mono U q1.size)
 exact Bt (GN hQ (by rw [Ft ac hx ag];exact GM (ks:=keys) (l:=list) a3 oO a4 (Zn au)) d5)
 have dK:=C9 gB U.1.size
 have gD:=AD.below q9 U.1
 have gE:=AM.same (w1:=bt) q6 (λk hk hl=>U.1.block k hl)
 have gF:=Dh.same (w1:=bt) q7 (λk hk hl=>U.1.block k hl)
 have gG:=AH.same (w1:=bt) q8 (λk hk hl=>U.1.block k hl)
 have d6:=q2.bl U.1
 have d7:=q3.bl U.1
 have d8:=B3.below q4 U.1 (λb=>q4.lt b)
 have d9:=DW q5 U.1 (λb=>q5.lt b)
 have da:=Ci q1 U.1
 obtain ⟨f,hT⟩:=eX hS
 subst hT
 obtain ⟨yf,ey,hU⟩:=U.2
 subst ey
 have bY:=(HL H (fR i0 oO) au).1
 have aL:=au
 have iu:=U.1.size
 have gH:=hU.mono (T:=λq=>q<bt.heap.size) (λq h1 h2=>h2)
 refine Bj Cz rfl (λiU b4 aj dL V ii=>?_)
 have dM:=C9 dK V.size
 have gI:=Fs gD aj V
 have gJ:=AM.same (w1:=b4) gE (λk hk hl=>V.other k oO)
 have gK:=Dh.same (w1:=b4) gF (λk hk hl=>V.other k oO)
 have dN:=AH.same (w1:=b4) gG (λk hk hl=>V.other k oO)
 have dO:=AB.same (w1:=b4) gH (λk hk hl=>V.other k oO)
 have dP:=Bl aj d6.lt
 have dQ:=d6.un V dP
 have dR:=Bl aj d7.lt
 have dS:=d7.un V dR
 have bu:=λb=>aj▸d8.lt b
 have dU:=B3.upd d8 V (λb=>CR (bu b))
 have bv:=λb=>aj▸d9.lt b
 have dV:=AG.upd d9 V (λb=>CR (bv b))
 have dW:=uB da aj V
 have hV:=CF aj da.size
 refine Ax rfl rfl dL Al rfl rfl (λb5 bw E hW=>?_)
 have db:=C9 dM E.size
 have dX:=GI gI E ((λg hg e=>by have:=(q9.lt g hg).2;omega))
 have bZ:=AM.same (w1:=b5) gJ (λk hk hl=>E.other k oM)
 have dY:=Dh.same (w1:=b5) gK (λk hk hl=>E.other k oM)
 have dZ:=AH.same (w1:=b5) dN (λk hk hl=>E.other k oM)
 have b':=AB.same (w1:=b5) dO (λk hk hl=>E.other k oM)
 have c0:=dQ.up E
 have d':=dS.up E
 have c3:=B3.upd dU E (λb=>CR (bu b))
 have c4:=AG.upd dV E (λb=>CR (bv b))
 have b6:=BU dW oO E
 refine A0<|A4<|A3 rfl<|Ah (Bk rfl bw Ay rfl Al)<|C1 BK rfl rfl ((Jp wk bf sv pv _ _ os H yf f F9 Kg _ c0 bZ b' bY)) (λgL aM aN c=>?_) (λgM aM aN c=>?_)
 have cJ:=Ej b6 (Below.mono c b6.size)
 exact Bt (GN gL (by rw [Ft ac hx ag];exact GM (ks:=keys) (l:=list) a3 oO a4 (A1l aL aN)) cJ)
 have bz:=C9 db c.size
 have c5:=AD.below dX c
 have b7:=AM.same (w1:=aM) bZ (λk hk hl=>c.block k hl)
 have c6:=Dh.same (w1:=aM) dY (λk hk hl=>c.block k hl)
 have c7:=AH.same (w1:=aM) dZ (λk hk hl=>c.block k hl)
 have b8:=AB.same (w1:=aM) b' (λk hk hl=>c.block k hl)
 have b9:=c0.bl c
 have c8:=d'.bl c
 have ba:=bw.bl c
 have av:=B3.below c3 c (λb=>c3.lt b)
 have aw:=DW c4 c (λb=>c4.lt b)
 have af:=Ci b6 c
 obtain ⟨c1,hX⟩:=eX gM
 subst hX
 have a':=aN
 refine A3 rfl<|Ck rfl rfl rfl (λak=>?_) (λak=>?_)
 refine A3 rfl<|Az ak<|Ah (Bk rfl ba Ay rfl Al)<|Az ak<|C1 BK rfl rfl ((Jp wk bf sv pv _ _ os H yf f XL Vs _ b9 b7 b8 bY)) (λgN aO aP j=>?_) (λgO aO aP j=>?_)
 have cK:=Ej af (Below.mono j af.size)
 exact Bt (GN gN (by rw [Ft ac hx ag];exact GM (ks:=keys) (l:=list) a3 oO a4 (A1m aL (a'.trans (BJ Except.ok aS)) aP)) cK)
 have dd:=C9 bz j.size
 have e0:=AD.below c5 j
 have e3:=AM.same (w1:=aO) b7 (λk hk hl=>j.block k hl)
 have e4:=Dh.same (w1:=aO) c6 (λk hk hl=>j.block k hl)
 have e5:=AH.same (w1:=aO) c7 (λk hk hl=>j.block k hl)
 have e6:=AB.same (w1:=aO) b8 (λk hk hl=>j.block k hl)
 have e7:=b9.bl j
 have e8:=c8.bl j
 have e9:=ba.bl j
 have c9:=B3.below av j (λb=>av.lt b)
 have ca:=DW aw j (λb=>aw.lt b)
 have bb:=Ci af j
 obtain ⟨c2,hY⟩:=eX gO
 subst hY
 have cb:=aP
 refine A1 (.pkT rfl ak rfl)<|C1 BK rfl rfl ((Ei _ _)) (λgP aQ am o=>?_) (λiv aQ am o=>?_)
 have cL:=Ej bb (Below.mono o bb.size)
 exact Bt (GN gP (by rw [Ft ac hx ag,(CL am).2];exact GM (ks:=keys) (l:=list) a3 oO a4 (by exact A1o aL (a'.trans (BJ Except.ok aS)) (cb.trans (BJ Except.ok (CL am).1)))) cL)
 have de:=C9 dd o.size
 have ea:=AD.below e0 o
 have cc:=AM.same (w1:=aQ) e3 (λk hk hl=>o.block k hl)
 have eb:=Dh.same (w1:=aQ) e4 (λk hk hl=>o.block k hl)
 have ec:=AH.same (w1:=aQ) e5 (λk hk hl=>o.block k hl)
 have ed:=AB.same (w1:=aQ) e6 (λk hk hl=>o.block k hl)
 have cd:=e7.bl o
 have ee:=e8.bl o
 have cf:=e9.bl o
 have cg:=B3.below c9 o (λb=>c9.lt b)
 have ci:=DW ca o (λb=>ca.lt b)
 have bc:=Ci bb o
 have aq:=am
 refine A0<|A4<|A3 rfl<|Ah (Bk rfl cf Ay rfl Al)<|Eg BK rfl rfl ((NI wk bf sv pv _ _ os H yf f Zb 4 _ cd cc ed bY)) (λgQ bd aR B=>?_) (λgR iw bd aR B=>?_)
 have cM:=Ej bc (Below.mono B bc.size)
 exact Bt (GN gQ (by rw [Ft ac hx ag];exact GM (ks:=keys) (l:=list) a3 oO a4 (by exact A1q aL (a'.trans (BJ Except.ok aS)) (cb.trans (BJ Except.ok (E6 aq))) aR)) cM)
 have bA:=C9 de B.1.size
 have cj:=AD.below ea B.1
 have ck:=AM.same (w1:=bd) cc (λk hk hl=>B.1.block k hl)
 have be:=Dh.same (w1:=bd) eb (λk hk hl=>B.1.block k hl)
 have cl:=AH.same (w1:=bd) ec (λk hk hl=>B.1.block k hl)
 have bg:=cd.bl B.1
 have bh:=ee.bl B.1
 have cm:=cf.bl B.1
 have ax:=B3.below cg B.1 (λb=>cg.lt b)
 have ay:=DW ci B.1 (λb=>ci.lt b)
 have an:=Ci bc B.1
 obtain ⟨m,df⟩:=eX gR
 subst df
 obtain ⟨ym,ey,dg⟩:=B.2
 subst ey
 have dh:=aR
 have di:=dg.textE
 refine A1 (.fld Ay rfl FX rfl rfl)<|Ao (Sx ym.text _ (be).blk) (λiy ef=>?_)
 obtain rfl:=ef
 refine A3 rfl<|A1 (.ext rfl rfl)<|A1 (.ext rfl rfl)<|Ct rfl<|A9 rfl<|Ad<|A4<|A3 rfl<|A1 (.not rfl)<|A0<|Ai rfl (λbM=>?_) (λbM=>?_)
 have eg:=(nT bM)
 refine Am<|C1 BK rfl rfl ((Hz 26 _)) (λgS bi aT F=>?_) (λiz bi aT F=>?_)
 have cN:=Ej an (Below.mono F an.size)
 exact Bt (GN gS (by rw [Ft ac hx ag];exact GM (ks:=keys) (l:=list) a3 oO a4 (by exact A1k (UU aL (a'.trans (BJ Except.ok aS)) (cb.trans (BJ Except.ok (E6 aq))) dh) di aS aT)) cN)
 have dj:=C9 bA F.size
 have eh:=AD.below cj F
 have ei:=AM.same (w1:=bi) ck (λk hk hl=>F.block k hl)
 have ej:=Dh.same (w1:=bi) be (λk hk hl=>F.block k hl)
 have ek:=AH.same (w1:=bi) cl (λk hk hl=>F.block k hl)
 have cn:=bg.bl F
 have co:=bh.bl F
 have el:=cm.bl F
 have cq:=B3.below ax F (λb=>ax.lt b)
 have cr:=DW ay F (λb=>ay.lt b)
 have ct:=Ci an F
 have fU:=aT
 refine A0<|Am<|A3 rfl<|A3 rfl<|A3 rfl<|?_
 refine A1 (.build rfl (Y8 (keys[i0]'oO) (MO ym.text))) ?_
 refine Cq (L:=Vt) (ps:=_) ([(⟨keys[i0]'oO,MO ym.text⟩:Jf)]) Kt sizeOf206 zeroValue206 rfl rfl rfl rfl rfl (by rfl) rfl rfl (λgT az X dk J hZ=>?_)
 have bB:=C9 dj J.size
 have aA:=Fs eh X J
 have em:=AM.same (w1:=az) ei (λk hk hl=>J.other k oO)
 have en:=Dh.same (w1:=az) ej (λk hk hl=>J.other k oO)
 have eo:=AH.same (w1:=az) ek (λk hk hl=>J.other k oO)
 have ep:=Bl X cn.lt
 have eq:=cn.un J ep
 have er:=Bl X co.lt
 have es:=co.un J er
 have ij:=Bl X el.lt
 have dm:=λb=>X▸cq.lt b
 have et:=B3.upd cq J (λb=>CR (dm b))
 have dn:=λb=>X▸cr.lt b
 have eu:=AG.upd cr J (λb=>CR (dn b))
 have ev:=uB ct X J
 have h3:=CF X ct.size
 have h4:gT<=az.heap.size:=by omega
 refine BS Kt Tq rfl rfl rfl aA rfl (dk).rowp oE (bB) rfl (λh=>De h (Z8 _ _)) (λiA iB dq a5 aU h'=>?_)
 have ew:=eq.below a5 oO
 have ex:=es.below a5 oO
 have ez:=AM.same em (λk hk hl=>aU.block k hl (λe=>by have h9:=((aA).lt k e.symm).1;omega))
 have eA:=Dh.same en (λk hk hl=>aU.block k hl (λe=>by have h9:=((aA).lt k e.symm).1;omega))
 have eB:=AH.same eo (λk hk hl=>aU.block k hl (λe=>by have h9:=((aA).lt k e.symm).1;omega))
 have eC:=B3.below et a5 bW
 have eD:=DW eu a5 bX
 have eF:=Ej ev (a5.mono (aK))
 have i1:=C9 bB a5.size
 refine A9 rfl<|Am<|A1 (.add rfl rfl (Ba oO))<|A3 rfl<|A0<|?_
 exact ⟨(i0+1,_,_),⟨rfl,rfl,rfl,rfl,rfl,rfl,tT⟩,⟨eF,ew,ex,eC,eD,ez,eA,eB,dq,oM,by exact De fU A0S,by simp;((try simp only) <;> omega),oM⟩,oM⟩
 have eg:=(nF bM)
 refine Ap<|Am<|A3 rfl<|A3 rfl<|A3 rfl<|?_
 refine A1 (.build rfl (Y8 (keys[i0]'oO) (MO ym.text))) ?_
 refine Cq (L:=Vt) (ps:=_) ([(⟨keys[i0]'oO,MO ym.text⟩:Jf)]) Kt sizeOf206 zeroValue206 rfl rfl rfl rfl rfl (by rfl) rfl rfl (λgU aB a0 dr K i2=>?_)
 have bC:=C9 bA K.size
 have aC:=Fs cj a0 K
 have eG:=AM.same (w1:=aB) ck (λk hk hl=>K.other k oO)
 have eH:=Dh.same (w1:=aB) be (λk hk hl=>K.other k oO)
 have eI:=AH.same (w1:=aB) cl (λk hk hl=>K.other k oO)
 have eJ:=Bl a0 bg.lt
 have eK:=bg.un K eJ
 have eL:=Bl a0 bh.lt
 have eM:=bh.un K eL
 have ik:=Bl a0 cm.lt
 have ds:=λb=>a0▸ax.lt b
 have eN:=B3.upd ax K (λb=>CR (ds b))
 have dt:=λb=>a0▸ay.lt b
 have eO:=AG.upd ay K (λb=>CR (dt b))
 have eP:=uB an a0 K
 have h5:=CF a0 an.size
 have h6:gU<=aB.heap.size:=by omega
 refine BS Kt Tq rfl rfl rfl aC rfl (dr).rowp oE (bC) rfl (λh=>De h (Z8 _ _)) (λiC iD du a6 aV i3=>?_)
 have eQ:=eK.below a6 oO
 have eR:=eM.below a6 oO
 have eS:=AM.same eG (λk hk hl=>aV.block k hl (λe=>by have h9:=((aC).lt k e.symm).1;omega))
 have eT:=Dh.same eH (λk hk hl=>aV.block k hl (λe=>by have h9:=((aC).lt k e.symm).1;omega))
 have eU:=AH.same eI (λk hk hl=>aV.block k hl (λe=>by have h9:=((aC).lt k e.symm).1;omega))
 have eV:=B3.below eN a6 bW
 have eW:=DW eO a6 bX
 have eY:=Ej eP (a6.mono (aK))
 have i4:=C9 bC a6.size
 refine A9 rfl<|Am<|A1 (.add rfl rfl (Ba oO))<|A3 rfl<|A0<|?_
 exact ⟨(i0+1,_,_),⟨rfl,rfl,rfl,rfl,rfl,rfl,tT⟩,⟨eY,eQ,eR,eV,eW,eS,eT,eU,du,oM,by exact Zm a3 oO a4 (A1p (UU aL (a'.trans (BJ Except.ok aS)) (cb.trans (BJ Except.ok (E6 aq))) dh) di aS),by simp;((try simp only) <;> omega),oM⟩,oM⟩
 refine Bc ak<|Bc ak<|A1 (.pkF rfl ak rfl)<|C1 BK rfl rfl ((Ei _ _)) (λgV aW aX C=>?_) (λiE aW aX C=>?_)
 have cO:=Ej af (Below.mono C af.size)
 exact Bt (GN gV (by rw [Ft ac hx ag,(CL aX).2];exact GM (ks:=keys) (l:=list) a3 oO a4 (by exact A1n aL (a'.trans (BJ Except.ok aS)))) cO)
 have dv:=C9 bz C.size
 have eZ:=AD.below c5 C
 have cu:=AM.same (w1:=aW) b7 (λk hk hl=>C.block k hl)
 have e':=Dh.same (w1:=aW) c6 (λk hk hl=>C.block k hl)
 have f0:=AH.same (w1:=aW) c7 (λk hk hl=>C.block k hl)
 have f1:=AB.same (w1:=aW) b8 (λk hk hl=>C.block k hl)
 have cv:=b9.bl C
 have f2:=c8.bl C
 have cw:=ba.bl C
 have cy:=B3.below av C (λb=>av.lt b)
 have cz:=DW aw C (λb=>aw.lt b)
 have bj:=Ci af C
 have aq:=aX
 refine A0<|A4<|A3 rfl<|Ah (Bk rfl cw Ay rfl Al)<|Eg BK rfl rfl ((NI wk bf sv pv _ _ os H yf f Zb 4 _ cv cu f1 bY)) (λgW bk bD D=>?_) (λgX iF bk bD D=>?_)
 have cP:=Ej bj (Below.mono D bj.size)
 exact Bt (GN gW (by rw [Ft ac hx ag];exact GM (ks:=keys) (l:=list) a3 oO a4 (by exact De (E6 aq) dD)) cP)
 have bE:=C9 dv D.1.size
 have cA:=AD.below eZ D.1
 have cB:=AM.same (w1:=bk) cu (λk hk hl=>D.1.block k hl)
 have bm:=Dh.same (w1:=bk) e' (λk hk hl=>D.1.block k hl)
 have cC:=AH.same (w1:=bk) f0 (λk hk hl=>D.1.block k hl)
 have bn:=cv.bl D.1
 have bo:=f2.bl D.1
 have cD:=cw.bl D.1
 have aD:=B3.below cy D.1 (λb=>cy.lt b)
 have aE:=DW cz D.1 (λb=>cz.lt b)
 have ao:=Ci bj D.1
 obtain ⟨m,df⟩:=eX gX
 subst df
 obtain ⟨ym,ey,dg⟩:=D.2
 subst ey
 have dh:=bD
 have di:=dg.textE
 refine A1 (.fld Ay rfl FX rfl rfl)<|Ao (Sx ym.text _ (bm).blk) (λiG f3=>?_)
 obtain rfl:=f3
 refine A3 rfl<|A1 (.ext rfl rfl)<|A1 (.ext rfl rfl)<|Ct rfl<|A9 rfl<|Ad<|A4<|A3 rfl<|A1 (.not rfl)<|A0<|Ai rfl (λbN=>?_) (λbN=>?_)
 have f4:=(nT bN)
 refine Am<|C1 BK rfl rfl ((Hz 26 _)) (λgY bp bG G=>?_) (λiH bp bG G=>?_)
 have cQ:=Ej ao (Below.mono G ao.size)
 exact Bt (GN gY (by rw [Ft ac hx ag];exact GM (ks:=keys) (l:=list) a3 oO a4 (by exact De (E6 aq) dD)) cQ)
 have dw:=C9 bE G.size
 have f5:=AD.below cA G
 have f6:=AM.same (w1:=bp) cB (λk hk hl=>G.block k hl)
 have f7:=Dh.same (w1:=bp) bm (λk hk hl=>G.block k hl)
 have f8:=AH.same (w1:=bp) cC (λk hk hl=>G.block k hl)
 have cE:=bn.bl G
 have cF:=bo.bl G
 have f9:=cD.bl G
 have cG:=B3.below aD G (λb=>aD.lt b)
 have cH:=DW aE G (λb=>aE.lt b)
 have cI:=Ci ao G
 have fU:=bG
 refine A0<|Am<|A3 rfl<|A3 rfl<|A3 rfl<|?_
 refine A1 (.build rfl (Y8 (keys[i0]'oO) (MO ym.text))) ?_
 refine Cq (L:=Vt) (ps:=_) ([(⟨keys[i0]'oO,MO ym.text⟩:Jf)]) Kt sizeOf206 zeroValue206 rfl rfl rfl rfl rfl (by rfl) rfl rfl (λgZ aF a1 dx P i5=>?_)
 have bH:=C9 dw P.size
 have aG:=Fs f5 a1 P
 have fb:=AM.same (w1:=aF) f6 (λk hk hl=>P.other k oO)
 have fc:=Dh.same (w1:=aF) f7 (λk hk hl=>P.other k oO)
 have fd:=AH.same (w1:=aF) f8 (λk hk hl=>P.other k oO)
 have fe:=Bl a1 cE.lt
 have ff:=cE.un P fe
 have fg:=Bl a1 cF.lt
 have fh:=cF.un P fg
 have il:=Bl a1 f9.lt
 have dy:=λb=>a1▸cG.lt b
 have fi:=B3.upd cG P (λb=>CR (dy b))
 have dz:=λb=>a1▸cH.lt b
 have fj:=AG.upd cH P (λb=>CR (dz b))
 have fk:=uB cI a1 P
 have h7:=CF a1 cI.size
 have ha:gZ<=aF.heap.size:=by omega
 refine BS Kt Tq rfl rfl rfl aG rfl (dx).rowp oE (bH) rfl (λh=>De h (Z8 _ _)) (λiI iJ dA a7 aY i6=>?_)
 have fl:=ff.below a7 oO
 have fm:=fh.below a7 oO
 have fn:=AM.same fb (λk hk hl=>aY.block k hl (λe=>by have h9:=((aG).lt k e.symm).1;omega))
 have fo:=Dh.same fc (λk hk hl=>aY.block k hl (λe=>by have h9:=((aG).lt k e.symm).1;omega))
 have fp:=AH.same fd (λk hk hl=>aY.block k hl (λe=>by have h9:=((aG).lt k e.symm).1;omega))
 have fq:=B3.below fi a7 bW
 have fr:=DW fj a7 bX
 have fs:=Ej fk (a7.mono (aK))
 have i7:=C9 bH a7.size
 refine A9 rfl<|Am<|A1 (.add rfl rfl (Ba oO))<|A3 rfl<|A0<|?_
 exact ⟨(i0+1,_,_),⟨rfl,rfl,rfl,rfl,rfl,rfl,tT⟩,⟨fs,fl,fm,fq,fr,fn,fo,fp,dA,oM,by exact De (E6 aq) dD,by simp;((try simp only) <;> omega),oM⟩,oM⟩
 have f4:=(nF bN)
 refine Ap<|Am<|A3 rfl<|A3 rfl<|A3 rfl<|?_
 refine A1 (.build rfl (Y8 (keys[i0]'oO) (MO ym.text))) ?_
 refine Cq (L:=Vt) (ps:=_) ([(⟨keys[i0]'oO,MO ym.text⟩:Jf)]) Kt sizeOf206 zeroValue206 rfl rfl rfl rfl rfl (by rfl) rfl rfl (λg' aH a2 dB Q i8=>?_)
 have bI:=C9 bE Q.size
 have aI:=Fs cA a2 Q
 have ft:=AM.same (w1:=aH) cB (λk hk hl=>Q.other k oO)
 have fu:=Dh.same (w1:=aH) bm (λk hk hl=>Q.other k oO)
 have fv:=AH.same (w1:=aH) cC (λk hk hl=>Q.other k oO)
 have fw:=Bl a2 bn.lt
 have fx:=bn.un Q fw
 have fy:=Bl a2 bo.lt
 have fz:=bo.un Q fy
 have im:=Bl a2 cD.lt
 have dC:=λb=>a2▸aD.lt b
 have fA:=B3.upd aD Q (λb=>CR (dC b))
 have dE:=λb=>a2▸aE.lt b
 have fB:=AG.upd aE Q (λb=>CR (dE b))
 have fC:=uB ao a2 Q
 have hb:=CF a2 ao.size
 have hc:g'<=aH.heap.size:=by omega
 refine BS Kt Tq rfl rfl rfl aI rfl (dB).rowp oE (bI) rfl (λh=>De h (Z8 _ _)) (λiK iL dG a8 aZ i9=>?_)
 have fD:=fx.below a8 oO
 have fE:=fz.below a8 oO
 have fF:=AM.same ft (λk hk hl=>aZ.block k hl (λe=>by have h9:=((aI).lt k e.symm).1;omega))
 have fG:=Dh.same fu (λk hk hl=>aZ.block k hl (λe=>by have h9:=((aI).lt k e.symm).1;omega))
 have fH:=AH.same fv (λk hk hl=>aZ.block k hl (λe=>by have h9:=((aI).lt k e.symm).1;omega))
 have fI:=B3.below fA a8 bW
 have fJ:=DW fB a8 bX
 have fK:=Ej fC (a8.mono (aK))
 have ia:=C9 bI a8.size
 refine A9 rfl<|Am<|A1 (.add rfl rfl (Ba oO))<|A3 rfl<|A0<|?_
 exact ⟨(i0+1,_,_),⟨rfl,rfl,rfl,rfl,rfl,rfl,tT⟩,⟨fK,fD,fE,fI,fJ,fF,fG,fH,dG,oM,by exact De (E6 aq) dD,by simp;((try simp only) <;> omega),oM⟩,oM⟩
 have gC:=dF d4
 refine BF<|A4<|A3 rfl<|A9 rfl<|AW ?_
 exact JC ns _ (by rw [Ft ac hx ag];show JA os keys list=_;rw [An oO,An oO] at a4;exact a4) rfl ⟨q1,AD.base q9 (λg hg=>C9 aK ((q9).lt g hg).1)⟩
end
section
def kFi:l8_:=[70,105,108,116,101,114]
def So:l8_:=[67,111,110,116,101,110,116,115]
def Jb (o:AV):Except Int (l8_):=if o.kind=9 then (if (Dg o kFi).isSome=true then .error 22 else .ok o.data) else .error 22
theorem Y4 {o:AV} (h:¬ o.kind=9):Jb o=.error 22:=A2 h
theorem Y5 {o:AV} (h:(Dg o kFi).isSome=true):Jb o=.error 22:=by unfold Jb;split <;> simp_all
theorem Y3 {o:AV} (h:o.kind=9) (h1:(Dg o kFi).isSome=false):Jb o=.ok o.data:=by unfold Jb;rw [A7 h,h1];rfl
def DaA (S:Nat->Prop) (l:l8_) (v:Value) (w':World):Prop:=∃ (p:Option Addr) (c:Nat),v=.slice p l.length c/\Ag w' p l/\(0<l.length->S (pA p).block)/\l.length<=c/\c<=9223372036854775807
theorem DaA.mono  (h:DaA S l v w) (hST:∀ k,S k->T k):DaA T l v w:=by
 obtain ⟨p,c,a,b,d,e⟩:=h
 exact ⟨p,c,a,b,λf=>hST _ (d f),e⟩
theorem AB.dataR  {x:AC} {o:AV} (h:AB w S x o):DaA S o.data (.slice x.dp x.dl x.dc) w:=by
 obtain ⟨keys,list,data,cs,a,ok,d,e,f,hr,g,hd,b,i,c⟩:=h.inv
 subst a
 exact ⟨x.dp,x.dc,by rw [ok.dl];rfl,hd,b,ok.dc,ok.dm⟩
theorem Xm (S:Nat->Prop) (x:AC) (o:AV) (w:World) (hx:AB w S x o):Calls Tryz.prog 149 #[.agg (DN x).toArray] w (TrE w (Jb o) λl v w'=>DaA (λq=>q<w.heap.size) l v w'):=by
 have a1:AB w (λk=>k<w.heap.size) x o:=hx.mono λk _ hk=>hk
 have m:=hx.kind
 refine Ar func149 rfl ntmps149 ?_
 have a2:=CN w
 refine A4<|WL.box rfl rfl (λb1 a3 a4 s t af=>?_)
 have C:=AB.same (w1:=a3) a1 (λk hk hl=>t.other k oO)
 have a5:=uB a2 a4 t
 refine A9 rfl<|A4<|Ah (Bk rfl s Ay rfl Al)<|Bf BK rfl rfl ((HS x o _ kFi _ C)) (λz w4 u=>?_)
 have a6:=AB.same (w1:=w4) C (λk hk hl=>u.block k hl)
 have D:=s.bl u
 have a7:=Ci a5 u
 refine A3 rfl<|A1 (.ext rfl rfl)<|A1 (.ext rfl rfl)<|Bj Cz rfl (λb8 a8 E H i ag=>?_)
 have a9:=AB.same (w1:=a8) a6 (λk hk hl=>i.other k oO)
 have J:=Bl E D.lt
 have K:=D.un i J
 have L:=uB a7 E i
 refine Ax rfl rfl H Al rfl rfl (λaa ad g ae=>?_)
 have y:=AB.same (w1:=aa) a9 (λk hk hl=>g.other k oM)
 have j:=K.up g
 have a:=BU L oO g
 refine A9 rfl<|A4<|A1 (.fa Ay rfl Bw dD rfl)<|Ah (Ae (BZ _) rfl j rfl)<|A1 (.eql rfl rfl)<|A3 rfl<|Ck rfl rfl rfl (λd=>?_) (λd=>?_)
 have P:=dT d
 refine A3 rfl<|Az d<|A1 (.not rfl)<|A1 (.pkT rfl d rfl)<|C1 BK rfl rfl ((Ei _ _)) (λab F b e=>?_) (λah F b e=>?_)
 have A:=Ej a (Below.mono e a.size)
 exact Bt (GN ab (by rw [(CL b).2];first | exact Y4 (by rw [m];assumption) | exact Y5 (by have:=(CL b).1;simp_all)) A)
 have Q:=AB.same (w1:=F) y (λk hk hl=>e.block k hl)
 have T:=j.bl e
 have U:=Ci a e
 have h:=b
 refine A0<|A4<|A1 (.fa Ay rfl D8 dD rfl)<|Ah (Ae (g22_ _) rfl T rfl)<|A9 rfl<|AW ?_
 first
 | exact JC o.data _ (Y3 (by rw [m];assumption) (by have:=E6 h;simp_all)) rfl ⟨U,(Q).dataR⟩
 | exact De (E6 h) dD
 have P:=dF d
 refine Bc d<|A1 (.pkF rfl d rfl)<|C1 BK rfl rfl ((Ei _ _)) (λac G c f=>?_) (λai G c f=>?_)
 have B:=Ej a (Below.mono f a.size)
 exact Bt (GN ac (by rw [(CL c).2];first | exact Y4 (by rw [m];assumption) | exact Y5 (by have:=(CL c).1;simp_all)) B)
 have V:=AB.same (w1:=G) y (λk hk hl=>f.block k hl)
 have X:=j.bl f
 have a0:=Ci a f
 have h:=c
 refine A0<|A4<|A1 (.fa Ay rfl D8 dD rfl)<|Ah (Ae (g22_ _) rfl X rfl)<|A9 rfl<|AW ?_
 first
 | exact JC o.data _ (Y3 (by rw [m];assumption) (by have:=E6 h;simp_all)) rfl ⟨a0,(V).dataR⟩
 | exact De (E6 h) dD
theorem TT (wk bf:Nat) (sv pv:Value) (S T:Nat->Prop) (os:List AV) (H:Vx os) (x:AC) (o c r:AV) (w:World) (hk:B0 w wk (Vq bf sv pv) 86) (hf:AM S w bf (CE os) (Di os)) (hx:AB w T x o) (hg:Is os o) (hc:Dg o So=some c) (hr:Fj os 32 c=some r) (hr6:r.kind≠6) :
  Calls Tryz.prog 116 #[ptV wk,.agg (DN x).toArray] w (TrE w (Jb r) λl v w'=>DaA (λq=>q<w'.heap.size) l v w'):=by
 have aR:AM (λk=>k<w.heap.size) w bf (CE os) (Di os):=hf.mono λk _ hk=>hk
 have aS:AB w (λk=>k<w.heap.size) x o:=hx.mono λk _ hk=>hk
 refine Ar func116 rfl ntmps116 ?_
 have ai:=CN w
 refine A4<|WL.box rfl rfl (λb1 aj N P h bd=>?_)
 have aT:=AM.same (w1:=aj) aR (λk hk hl=>h.other k oO)
 have aU:=AB.same (w1:=aj) aS (λk hk hl=>h.other k oO)
 have aV:=Bl N hk.lt
 have aW:=hk.un h aV
 have aX:=uB ai N h
 have b8:=CF N ai.size
 refine A9 rfl<|A4<|Ah (Bk rfl P Ay rfl Al)<|Bf BK rfl rfl ((HS x o _ So _ aU)) (λz w7 C=>?_)
 have aY:=AM.same (w1:=w7) aT (λk hk hl=>C.block k hl)
 have Q:=aW.bl C
 have ao:=P.bl C
 have U:=Ci aX C
 obtain ⟨z,hz⟩:=z
 have hz:=AB.same (w1:=w7) hz (λk hk hl=>(C).block k hl)
 rw [hc] at hz
 refine A3 rfl<|A1 (.ext rfl rfl)<|A1 (.ext rfl rfl)<|Bj Cz rfl (λbg V i ae b b9=>?_)
 have ap:=AM.same (w1:=V) aY (λk hk hl=>b.other k oO)
 have aq:=AB.same (w1:=V) hz (λk hk hl=>b.other k oO)
 have ar:=Bl i Q.lt
 have au:=Q.un b ar
 have be:=Bl i ao.lt
 have av:=uB U i b
 have aZ:=CF i U.size
 refine Ax rfl rfl ae Al rfl rfl (λak af d ba=>?_)
 have aw:=AM.same (w1:=ak) ap (λk hk hl=>d.other k oM)
 have ax:=AB.same (w1:=ak) aq (λk hk hl=>d.other k oM)
 have ay:=au.up d
 have az:=BU av oO d
 refine A9 rfl<|Ad<|A4<|A3 rfl<|A1 (.not rfl)<|A0<|Ai rfl (λX=>?_) (λX=>?_)
 have aA:=(nT X)
 exfalso;simp_all
 have aA:=(nF X)
 refine Ap<|Ad<|Fe 11 rfl BR (λF e=>?_)
 have Y:=AM.same (w1:=F) aw (λk hk hl=>(by obtain ⟨m,rfl⟩:=e;rfl))
 have a0:=AB.same (w1:=F) ax (λk hk hl=>(by obtain ⟨m,rfl⟩:=e;rfl))
 have a1:=ay.drew e
 have a:=af.drew e
 have j:=C6.below az e
 refine AI 0 rfl (.mv rfl) rfl<|AI 1 rfl (.nck rfl) rfl<|AI 2 rfl (.fa OO rfl sizeOf38 dD rfl) rfl<|CG 3 rfl 4 rfl ?_ ?_
 refine Ah (Ae (isAgg38 _) rfl a1 rfl)<|A0<|Av 4 rfl<|Ah (Bk rfl a Ay rfl Al)<|A0<|Av 5 rfl<|Bf BK rfl rfl ((Fv bf _ os H.objs (λo ho=>(H.goo o ho).rng.ref) z c _ (some r) _ Y a0 (hg.key hc).snd (hg.key hc).rng.ref hr)) (λz2 a' s=>?_)
 have aB:=a.bl s.2
 have aC:=Ci j s.2
 have a2:=(s).1.mono (T:=λq=>F.heap.size<=q/\q<a'.heap.size) (λq h1 h2=>⟨h1,h2⟩)
 have aD:=a.lt
 have aE:=j.size
 have aF:=s.2.size
 refine A0<|AI 6 rfl (.mv rfl) rfl<|AI 7 rfl (.ext rfl rfl) rfl<|AI 8 rfl (.ext rfl rfl) rfl<|Av 9 rfl<|Ax rfl rfl aB Al rfl rfl (λb0 ag G bb=>?_)
 have aG:=AB.same (w1:=b0) a2 (λk hk hl=>G.other k oM)
 have aH:=BU aC oO G
 refine A0<|AI 10 rfl (.as rfl) rfl<|Bn kR<|A4<|A3 rfl<|C1 BK rfl rfl ((Hz _ _)) (λbh am J t=>?_) (λbi am J t=>?_)
 exact De (LA J).1 (by simp)
 have a3:=AB.same (w1:=am) aG (λk hk hl=>t.block k hl)
 have a4:=ag.bl t
 have D:=Ci aH t
 have a5:r.kind=z2.kind:=AB.kind (o:=r) a3
 refine A0<|Ad<|A4<|A1 (.fa Ay rfl Bw dD rfl)<|Ah (Ae (BZ _) rfl a4 rfl)<|A1 (.neq rfl rfl)<|A0<|Ai rfl (λa6=>?_) (λa6=>?_)
 have aI:=ndT a6
 refine A4<|Ah (Bk rfl a4 Ay rfl Al)<|Eg BK rfl rfl ((Xm _ z2 r _ a3)) (λb2 b3 u f=>?_) (λbj bk b3 u f=>?_)
 have a7:=Ej D (Below.mono f D.size)
 exact Bt (GN b2 u a7)
 have aJ:=Ci D f.1
 have a8:=f.2
 have a9:=u
 have aK:=f.1.size
 refine A9 rfl<|AW ?_
 exact JC _ _ a9 rfl ⟨aJ,a8.mono (λq h1=>by omega)⟩
 have aI:=ndF a6
 exact De (by rw [a5];simp_all) hr6
 refine Ah (Bk rfl a Ay rfl Al)<|A0<|Av 3 rfl<|Ah (Ae (isAgg38 _) rfl a1 rfl)<|A0<|Av 5 rfl<|Bf BK rfl rfl ((Fv bf _ os H.objs (λo ho=>(H.goo o ho).rng.ref) z c _ (some r) _ Y a0 (hg.key hc).snd (hg.key hc).rng.ref hr)) (λz2 b4 y=>?_)
 have aL:=a.bl y.2
 have aM:=Ci j y.2
 have a2:=(y).1.mono (T:=λq=>F.heap.size<=q/\q<b4.heap.size) (λq h1 h2=>⟨h1,h2⟩)
 have aD:=a.lt
 have aE:=j.size
 have aF:=y.2.size
 refine A0<|AI 6 rfl (.mv rfl) rfl<|AI 7 rfl (.ext rfl rfl) rfl<|AI 8 rfl (.ext rfl rfl) rfl<|Av 9 rfl<|Ax rfl rfl aL Al rfl rfl (λb5 ah K bc=>?_)
 have aN:=AB.same (w1:=b5) a2 (λk hk hl=>K.other k oM)
 have aO:=BU aM oO K
 refine A0<|AI 10 rfl (.as rfl) rfl<|Bn kR<|A4<|A3 rfl<|C1 BK rfl rfl ((Hz _ _)) (λbm an L A=>?_) (λbn an L A=>?_)
 exact De (LA L).1 (by simp)
 have aa:=AB.same (w1:=an) aN (λk hk hl=>A.block k hl)
 have ab:=ah.bl A
 have E:=Ci aO A
 have a5:r.kind=z2.kind:=AB.kind (o:=r) aa
 refine A0<|Ad<|A4<|A1 (.fa Ay rfl Bw dD rfl)<|Ah (Ae (BZ _) rfl ab rfl)<|A1 (.neq rfl rfl)<|A0<|Ai rfl (λac=>?_) (λac=>?_)
 have aP:=ndT ac
 refine A4<|Ah (Bk rfl ab Ay rfl Al)<|Eg BK rfl rfl ((Xm _ z2 r _ aa)) (λb6 b7 B g=>?_) (λbo bp b7 B g=>?_)
 have ad:=Ej E (Below.mono g E.size)
 exact Bt (GN b6 B ad)
 have aQ:=Ci E g.1
 have a8:=g.2
 have a9:=B
 have aK:=g.1.size
 refine A9 rfl<|AW ?_
 exact JC _ _ a9 rfl ⟨aQ,a8.mono (λq h1=>by omega)⟩
 have aP:=ndF ac
 exact De (by rw [a5];simp_all) hr6
end
section
structure PgV where
 wd:Int
 ht:Int
 p:Option Addr
 n:Nat
 c:Nat
def pgV (x:PgV):List Value:=[Af x.wd,Af x.ht,.slice x.p x.n x.c]
def Xz:FW PgV:=⟨3,pgV,dD,λ_=>rfl,λx u hu=>AN.1 (show (pgV x).all Value.oneCell'=true from rfl) u hu⟩
theorem A16:(Tryz.prog.info? 46).map (λi=>(i.zero,i.size,i.bytes))=some (some (.agg #[Af 0,Af 0,.slice none 0 0]),3,40):=by kernel_rfl
def QQ {ι:Type} (B:Nat) (l:l8_) (fs:List Jf) (res:Except Int ι) (Q:ι->Option Addr->Nat->Nat->World->Prop):Prop :=
 ∀ (w:World) (p:Option Addr) (c:Nat) (fv:Value),B<=w.heap.size->Ag w p l->l.length<=c->AD Vt 206 B w fv fs ->
  Calls Tryz.prog 115 #[.slice p l.length c,fv] w λe w'=>∃ t:(Option Addr × Nat × Nat) × Int,e=.returned (.tuple #[.slice t.1.1 t.1.2.1 t.1.2.2,Af t.2])/\AL w w' /\
   ∀ w2:World,(∀ k,w.heap.size<=k->k<w'.heap.size->w2.heap[k]?=w'.heap[k]?)->match res with | .error x=>t.2=x/\x≠0 | .ok a=>t.2=0/\Q a t.1.1 t.1.2.1 t.1.2.2 w2
def GV {ι:Type} (os:List AV) (r:AV) (i:GS) (it:l8_->List Jf->Except Int ι):Except Int ((Int × Int) × ι):=match K6 os i with
 | .error e=>.error e
 | .ok b=>match EU os i.res with
  | .error e=>.error e
  | .ok fs=>match Jb r with
   | .error e=>.error e
   | .ok l=>match it l fs with
    | .error e=>.error e
    | .ok a=>.ok (b,a)
theorem XA  {os:List AV} {r:AV} {i:GS} {it:l8_->List Jf->Except Int ι} {e:Int} (h:K6 os i=.error e):GV os r i it=.error e:=by unfold GV;rw [h]
theorem A36  {os:List AV} {r:AV} {i:GS} {it:l8_->List Jf->Except Int ι} {e:Int} {b:Int × Int} (h:K6 os i=.ok b) (h1:EU os i.res=.error e):GV os r i it=.error e:=by unfold GV;rw [h];simp only;rw [h1]
theorem A37  {os:List AV} {r:AV} {i:GS} {it:l8_->List Jf->Except Int ι} {e:Int} {b:Int × Int} {fs:List Jf} (h:K6 os i=.ok b) (h1:EU os i.res=.ok fs) (h2:Jb r=.error e):GV os r i it=.error e:=by unfold GV;rw [h];simp only;rw [h1];simp only;rw [h2]
theorem JT  {os:List AV} {r:AV} {i:GS} {it:l8_->List Jf->Except Int ι} {b:Int × Int} {fs:List Jf} (h:K6 os i=.ok b) (h1:EU os i.res=.ok fs) (h2:Jb r=.ok l):GV os r i it=match it l fs with | .error e=>.error e | .ok a=>.ok (b,a):=by unfold GV;rw [h];simp only;rw [h1];simp only;rw [h2]
theorem A4E  {res:Except Int ι} {k e:Int} {P:ι->Prop} (h:match res with | .error x=>k=x/\x≠0 | .ok a=>k=0/\P a) (hm:G4 k=.error e):res=.error e:=by
 cases res with
 | error x=>obtain ⟨rfl,b⟩:=h;unfold G4 at hm;rw [A2 b] at hm;cases hm;rfl
 | ok a=>obtain ⟨rfl,-⟩:=h;cases hm
theorem A5Y  {res:Except Int ι} {k:Int} {u:Unit} {P:ι->Prop} (h:match res with | .error x=>k=x/\x≠0 | .ok a=>k=0/\P a) (hm:G4 k=.ok u):∃ a,res=.ok a/\P a:=by
 cases res with
 | error x=>obtain ⟨rfl,b⟩:=h;unfold G4 at hm;rw [A2 b] at hm;cases hm
 | ok a=>exact ⟨a,rfl,h.2⟩
structure QF (L M:Nat) (P:World->Prop) (w:World):Prop where
 h:∀ w2:World,(∀ k,L<=k->k<M->w2.heap[k]?=w.heap[k]?)->P w2
 lt:∀ k,L<=k->k<M->k<w.heap.size
theorem QF.here  {L:Nat} {P:World->Prop} (q:QF L M P w):P w:=q.h w λ_ _ _=>rfl
theorem QF.imp  {L:Nat} {P P':World->Prop} (q:QF L M P w) (h:∀ w2,P w2->P' w2):QF L M P' w:=⟨λw2 h2=>h w2 (q.h w2 h2),q.lt⟩
theorem QF.same  {L:Nat} {P:World->Prop} (q:QF L M P w) (hb:∀ k,(L<=k/\k<M)->k<w.heap.size->w1.heap[k]?=w.heap[k]?):QF L M P w1 :=
 ⟨λw2 h2=>q.h w2 λk h3 h4=>(h2 k h3 h4).trans (hb k ⟨h3,h4⟩ (q.lt k h3 h4)),λk h3 h4=>by
  have h6:=hb k ⟨h3,h4⟩ (q.lt k h3 h4)
  rw [Ey (q.lt k h3 h4)] at h6
  exact (Bd.1 h6).1⟩
def MY {ι:Type} (wk bf:Nat) (sv:Value) (Q:ι->Option Addr->Nat->Nat->World->Prop) (a:(Int × Int) × ι) (w':World):Prop :=
 ∃ (v:Value) (x:PgV),B0 w' wk (Vq bf sv v) 86/\AD Xz 46 (wk+1) w' v [x]/\x.wd=a.1.1/\x.ht=a.1.2/\∃ L M,wk<L/\QF L M (Q a.2 x.p x.n x.c) w'
theorem A2G  (wk bf:Nat) (sv:Value) (S T U:Nat->Prop) (os:List AV) (H:Vx os) (x:AC) (o c r:AV) (p q:Option Addr) (i:GS) (it:l8_->List Jf->Except Int ι) (Q:ι->Option Addr->Nat->Nat->World->Prop) (w:World)
  (hk:B0 w wk (Vq bf sv (.slice none 0 0)) 86) (hf:AM S w bf (CE os) (Di os)) (hx:AB w U x o) (hg:Is os o) (hi:DI w T p q i) (hib:∀ u,i.box=some u->Is os u) (hir:∀ u,i.res=some u->Is os u) (hN:ZN w)
  (hc:Dg o So=some c) (hr:Fj os 32 c=some r) (hr6:r.kind≠6) (hV:∀ l fs,EU os i.res=.ok fs->Jb r=.ok l->QQ w.heap.size l fs (it l fs) Q) :
  Calls Tryz.prog 85 #[ptV wk,.agg (DN x).toArray,.agg #[.pointer p,.pointer q]] w λe w'=>GZ 35 (GV os r i it) (λa v w'=>v=.tuple #[]/\Bh w.heap.size wk w w'/\MY wk bf sv Q a w') (λw'=>Bh w.heap.size wk w w') e w':=by
 have da:AM (λk=>k<w.heap.size) w bf (CE os) (Di os):=hf.mono λk _ hk=>hk
 have db:DI w (λk=>k<w.heap.size) p q i:=hi.mono λk _ hk=>hk
 have dd:AB w (λk=>k<w.heap.size) x o:=hx.mono λk _ hk=>hk
 have de:Dh (λk=>k<w.heap.size) w:=⟨hN.lt,hN⟩
 refine Ar func85 rfl ntmps85 ?_
 have cc:=Bh.refl (w.heap.size) wk w
 refine A4<|WL.box rfl rfl (λb1 aG cd aU X dQ=>?_)
 have df:=AM.same (w1:=aG) da (λk hk hl=>X.other k oO)
 have dg:=AB.same (w1:=aG) dd (λk hk hl=>X.other k oO)
 have dh:=DI.same (w1:=aG) db (λk hk hl=>X.other k oO)
 have di:=Dh.same (w1:=aG) de (λk hk hl=>X.other k oO)
 have dj:=Bl cd hk.lt
 have cf:=hk.un X dj
 have bv:=CF cd cc.size
 have cg:=BC cc (DJ X bv)
 refine WL.box rfl rfl (λb9 aH aV aW N dR=>?_)
 have cm:=AM.same (w1:=aH) df (λk hk hl=>N.other k oO)
 have cn:=AB.same (w1:=aH) dg (λk hk hl=>N.other k oO)
 have co:=DI.same (w1:=aH) dh (λk hk hl=>N.other k oO)
 have cq:=Dh.same (w1:=aH) di (λk hk hl=>N.other k oO)
 have cr:=Bl aV cf.lt
 have aD:=cf.un N cr
 have ct:=Bl aV aU.lt
 have aX:=aU.un N ct
 have bw:=CF aV cg.size
 have aY:=BC cg (DJ N bw)
 refine A0<|Ad<|A4<|A3 rfl<|A1 (.nck rfl)<|A1 (.fa OO rfl PL dD rfl)<|Ah (Ae (isAgg41 _) rfl aD rfl)<|A1 (.lenS Ih rfl)<|A1 (.geq rfl rfl)<|A0<|Ai rfl (λaZ=>?_) (λaZ=>?_)
 have cu:=dT aZ
 exfalso;simp_all
 have cu:=dF aZ
 refine Ap<|A4<|Bj ZP rfl (λaI ab ac bz f dM=>?_)
 have a':=AM.same (w1:=ab) cm (λk hk hl=>f.other k oO)
 have cv:=AB.same (w1:=ab) cn (λk hk hl=>f.other k oO)
 have b0:=DI.same (w1:=ab) co (λk hk hl=>f.other k oO)
 have cw:=Dh.same (w1:=ab) cq (λk hk hl=>f.other k oO)
 have cy:=Bl ac aD.lt
 have b2:=aD.un f cy
 have cz:=Bl ac aX.lt
 have cA:=aX.un f cz
 have cB:=Bl ac aW.lt
 have b3:=aW.un f cB
 have b4:=CF ac aY.size
 have ad:=BC aY (DJ f b4)
 refine A0<|A4<|A3 rfl<|Ah (Bk rfl b3 Gp rfl Fz)<|C1 BK rfl rfl ((A4I wk bf sv (.slice none 0 0) _ _ os H p q i _ b2 a' b0 hib)) (λdk au ae d=>?_) (λdl au ae d=>?_)
 have b5:=BC ad (EX (Fo d) ad.size)
 exact Bt (GN dk (XA ae) b5)
 have cC:=AM.same (w1:=au) a' (λk hk hl=>d.block k hl)
 have cD:=AB.same (w1:=au) cv (λk hk hl=>d.block k hl)
 have cE:=DI.same (w1:=au) b0 (λk hk hl=>d.block k hl)
 have cF:=Dh.same (w1:=au) cw (λk hk hl=>d.block k hl)
 have cG:=b2.bl d
 have cH:=cA.bl d
 have cI:=b3.bl d
 have cJ:=bz.bl d
 have cK:=BC ad (EX (Fo d) ad.size)
 obtain ⟨⟨a6,a7⟩,dm⟩:=eX dl
 subst dm
 have a8:=ae
 refine A3 rfl<|A1 (.ext rfl rfl)<|A1 (.ext rfl rfl)<|A1 (.fa Kq rfl Bw dD rfl)<|Cn cJ Bw (λaJ bA j dN=>?_)
 have cL:=AM.same (w1:=aJ) cC (λk hk hl=>j.other k oM)
 have cM:=AB.same (w1:=aJ) cD (λk hk hl=>j.other k oM)
 have cN:=DI.same (w1:=aJ) cE (λk hk hl=>j.other k oM)
 have cO:=Dh.same (w1:=aJ) cF (λk hk hl=>j.other k oM)
 have cP:=cG.up j
 have cQ:=cH.up j
 have cR:=cI.up j
 have cS:=BC cK (DJ j oO)
 refine A1 (.fa Kq rfl Bw dD rfl)<|Br Bw rfl rfl rfl bA (by exact Nat.le_of_ble_eq_true rfl) (λav af b dO=>?_)
 have af:B0 av aI _ _:=af
 have b:CK aI _ _:=b
 have b6:=AM.same (w1:=av) cL (λk hk hl=>b.other k oM)
 have cT:=AB.same (w1:=av) cM (λk hk hl=>b.other k oM)
 have cU:=DI.same (w1:=av) cN (λk hk hl=>b.other k oM)
 have cV:=Dh.same (w1:=av) cO (λk hk hl=>b.other k oM)
 have b7:=cP.up b
 have cW:=cQ.up b
 have cX:=cR.up b
 have a0:=BC cS (DJ b oO)
 refine A0<|A4<|A3 rfl<|Ah (Bk rfl cX Gp rfl Fz)<|Eg BK rfl rfl ((ZZ wk bf sv (.slice none 0 0) _ _ os H p q i _ b7 b6 cU hir (cV).blk)) (λdn b8 ag y=>?_) (λdq dr b8 ag y=>?_)
 have ba:=BC a0 (EX (Fo y) a0.size)
 exact Bt (GN dn (A36 a8 ag) ba)
 have cY:=AM.same (w1:=b8) b6 (λk hk hl=>y.1.block k hl)
 have cZ:=AB.same (w1:=b8) cT (λk hk hl=>y.1.block k hl)
 have bb:=b7.bl y.1
 have c':=cW.bl y.1
 have d0:=af.bl y.1
 have ah:=BC a0 (EX (Fo y.1) a0.size)
 obtain ⟨fs,ds⟩:=eX dq
 subst ds
 obtain ⟨fv,d1⟩:=eX dr
 subst d1
 have dt:=AD.base y.2 (λg hg=>C9 a0.size ((y.2).lt g hg).1)
 have a9:=ag
 refine A9 rfl<|A4<|A9 rfl<|A4<|A3 rfl<|Ah (Bk rfl c' Ay rfl Al)<|Eg BK rfl rfl ((TT wk bf sv (.slice none 0 0) _ _ os H x o c r _ bb cY cZ hg hc hr hr6)) (λdu ci ai P=>?_) (λdv e3 ci ai P=>?_)
 have bc:=BC ah (EX (Fo P) ah.size)
 exact Bt (GN du (A37 a8 a9 ai) bc)
 have bd:=bb.bl P.1
 have be:=d0.bl P.1
 have aE:=BC ah (EX (Fo P.1) ah.size)
 obtain ⟨l,dw⟩:=eX dv
 subst dw
 obtain ⟨dp,dc,ed,dx,e4,dy,e5⟩:=P.2
 subst ed
 have aw:=ai
 have d2:=AD.below dt P.1
 refine A3 rfl<|Bf BK rfl rfl ((hV l fs a9 aw ci dp dc fv aE.size dx dy d2)) (λt dz aj=>?_)
 have d3:=bd.bl aj.1
 have d4:=be.bl aj.1
 have d5:=BC aE (EX (Fo aj.1) aE.size)
 have cj:QF _ _ _ dz:=⟨aj.2,λk _ h=>h⟩
 have ck:=cj.here
 have dS:=be.lt
 have aF:=bd.lt
 refine A3 rfl<|A1 (.ext rfl rfl)<|A1 (.ext rfl rfl)<|A1 (.fa Kq rfl Kl dD rfl)<|Br Kl rfl rfl rfl d4 (by exact Nat.le_of_ble_eq_true rfl) (λcl ak V dP=>?_)
 have ak:B0 cl aI _ _:=ak
 have V:CK aI _ _:=V
 have d6:=QF.same (w1:=cl) cj (λk hk hl=>V.other k oM)
 have bB:=d3.up V
 have Y:=BC d5 (DJ V oO)
 refine A9 rfl<|A4<|A3 rfl<|C1 BK rfl rfl ((Hz _ _)) (λd7 am a1 G=>?_) (λdU am a1 G=>?_)
 have aQ:=BC Y (EX (Fo G) Y.size)
 exact Bt (GN d7 (by rw [JT a8 a9 aw,A4E ck a1]) aQ)
 have bC:=QF.same (w1:=am) d6 (λk hk hl=>G.block k hl)
 have bD:=bB.bl G
 have bE:=ak.bl G
 have aK:=BC Y (EX (Fo G) Y.size)
 obtain ⟨ia,aa,e6⟩:=A5Y ck a1
 have dA:=AD.nil Xz 46 w.heap.size am
 have d8:w.heap.size<=am.heap.size:=by exact (aK).size
 refine A0<|Fe 11 rfl BR (λd9 J=>?_)
 have a2:=Fn d8 J
 have an:=AD.drew dA J
 have ao:=QF.same (w1:=d9) bC (λk hk hl=>(by obtain ⟨m,rfl⟩:=J;rfl))
 have s:=bD.drew J
 have aL:=bE.drew J
 have K:=BC aK (Mf J)
 refine AI 0 rfl (.mv rfl) rfl<|AI 1 rfl (.mv rfl) rfl<|AI 2 rfl (.nck rfl) rfl<|AI 3 rfl (.fa OO rfl PL dD rfl) rfl<|CG 4 rfl 5 rfl ?_ ?_
 refine Ah (Ae (isAgg41 _) rfl s rfl)<|A0<|Av 5 rfl<|Ah (Bk rfl aL Kq rfl XM)<|A0<|Av 6 rfl<|Cq (L:=Xz) (ps:=_) ([(⟨a6,a7,t.1.1,t.1.2.1,t.1.2.2⟩:PgV)]) Ih PK ZP rfl rfl rfl rfl rfl (by rfl) rfl rfl (λdV bG ap bg A dB=>?_)
 have bh:=C9 a2 A.size
 have bH:=Fs an ap A
 have bI:=QF.same (w1:=bG) ao (λk hk hl=>A.other k oO)
 have bJ:=Bl ap s.lt
 have bK:=s.un A bJ
 have aR:=CF ap K.size
 have bL:=BC K (DJ A aR)
 refine A0<|Av 7 rfl<|BS Ih A16 rfl rfl rfl bH rfl (bg).rowp oE (bh) rfl (λh=>De h (Z8 _ _)) (λdW dX ax ay bi dC=>?_)
 have bM:=bK.below ay oO
 have bN:=QF.same bI (λk hk hl=>bi.block k hl (λe=>by cases e))
 have bO:=BC bL (Fo (ay.mono (DP _)))
 refine A0<|AI 8 rfl (.nck rfl) rfl<|AI 9 rfl (.fa OO rfl PL dD rfl) rfl<|Av 10 rfl<|Br PL rfl rfl (ax).one bM (by exact Nat.le_of_ble_eq_true rfl) (λbj a3 B dE=>?_)
 have a3:B0 bj wk _ _:=a3
 have B:CK wk _ _:=B
 have aM:=Bx ax B oM
 have bP:=QF.same (w1:=bj) bN (λk hk hl=>B.other k oM)
 have bQ:=BC bO (Bp B)
 refine A0<|Bn kR<|Cx (Cd rfl ?_)
 exact JC _ _ (by rw [JT a8 a9 aw,aa]) rfl ⟨rfl,bQ,_,⟨a6,a7,t.1.1,t.1.2.1,t.1.2.2⟩,a3,AD.base aM (λg hg=>by have:=((aM).lt g hg).1;have:=hk.lt;omega),rfl,rfl,_,_,aF,(bP).imp (λw2 h9=>by rw [aa] at h9;exact h9.2)⟩
 refine Ah (Bk rfl aL Kq rfl XM)<|A0<|CG 4 rfl 6 rfl ?_ ?_
 refine Ah (Ae (isAgg41 _) rfl s rfl)<|A0<|Av 6 rfl<|Cq (L:=Xz) (ps:=_) ([(⟨a6,a7,t.1.1,t.1.2.1,t.1.2.2⟩:PgV)]) Ih PK ZP rfl rfl rfl rfl rfl (by rfl) rfl rfl (λdY bR aq bk C dG=>?_)
 have bm:=C9 a2 C.size
 have bS:=Fs an aq C
 have bT:=QF.same (w1:=bR) ao (λk hk hl=>C.other k oO)
 have bU:=Bl aq s.lt
 have bV:=s.un C bU
 have aS:=CF aq K.size
 have bW:=BC K (DJ C aS)
 refine A0<|Av 7 rfl<|BS Ih A16 rfl rfl rfl bS rfl (bk).rowp oE (bm) rfl (λh=>De h (Z8 _ _)) (λdZ d' az aA bn dH=>?_)
 have bX:=bV.below aA oO
 have bY:=QF.same bT (λk hk hl=>bn.block k hl (λe=>by cases e))
 have bZ:=BC bW (Fo (aA.mono (DP _)))
 refine A0<|AI 8 rfl (.nck rfl) rfl<|AI 9 rfl (.fa OO rfl PL dD rfl) rfl<|Av 10 rfl<|Br PL rfl rfl (az).one bX (by exact Nat.le_of_ble_eq_true rfl) (λbo a4 D dI=>?_)
 have a4:B0 bo wk _ _:=a4
 have D:CK wk _ _:=D
 have aN:=Bx az D oM
 have b':=QF.same (w1:=bo) bY (λk hk hl=>D.other k oM)
 have c0:=BC bZ (Bp D)
 refine A0<|Bn kR<|Cx (Cd rfl ?_)
 exact JC _ _ (by rw [JT a8 a9 aw,aa]) rfl ⟨rfl,c0,_,⟨a6,a7,t.1.1,t.1.2.1,t.1.2.2⟩,a4,AD.base aN (λg hg=>by have:=((aN).lt g hg).1;have:=hk.lt;omega),rfl,rfl,_,_,aF,(b').imp (λw2 h9=>by rw [aa] at h9;exact h9.2)⟩
 refine Cq (L:=Xz) (ps:=_) ([(⟨a6,a7,t.1.1,t.1.2.1,t.1.2.2⟩:PgV)]) Ih PK ZP rfl rfl rfl rfl rfl (by rfl) rfl rfl (λe0 c2 ar bp E dJ=>?_)
 have bq:=C9 a2 E.size
 have c3:=Fs an ar E
 have c4:=QF.same (w1:=c2) ao (λk hk hl=>E.other k oO)
 have c5:=Bl ar s.lt
 have aO:=s.un E c5
 have aT:=CF ar K.size
 have c6:=BC K (DJ E aT)
 refine A0<|Av 4 rfl<|Ah (Ae (isAgg41 _) rfl aO rfl)<|A0<|Av 7 rfl<|BS Ih A16 rfl rfl rfl c3 rfl (bp).rowp oE (bq) rfl (λh=>De h (Z8 _ _)) (λe1 e2 aB aC bt dK=>?_)
 have c7:=aO.below aC oO
 have c8:=QF.same c4 (λk hk hl=>bt.block k hl (λe=>by cases e))
 have c9:=BC c6 (Fo (aC.mono (DP _)))
 refine A0<|AI 8 rfl (.nck rfl) rfl<|AI 9 rfl (.fa OO rfl PL dD rfl) rfl<|Av 10 rfl<|Br PL rfl rfl (aB).one c7 (by exact Nat.le_of_ble_eq_true rfl) (λbu a5 F dL=>?_)
 have a5:B0 bu wk _ _:=a5
 have F:CK wk _ _:=F
 have aP:=Bx aB F oM
 have ca:=QF.same (w1:=bu) c8 (λk hk hl=>F.other k oM)
 have cb:=BC c9 (Bp F)
 refine A0<|Bn kR<|Cx (Cd rfl ?_)
 exact JC _ _ (by rw [JT a8 a9 aw,aa]) rfl ⟨rfl,cb,_,⟨a6,a7,t.1.1,t.1.2.1,t.1.2.2⟩,a5,AD.base aP (λg hg=>by have:=((aP).lt g hg).1;have:=hk.lt;omega),rfl,rfl,_,_,aF,(ca).imp (λw2 h9=>by rw [aa] at h9;exact h9.2)⟩
end
section
def A4Z (n:Int):Value:=Af n
theorem WA (p:Option Addr) (l:List Int) (c:Nat) (n:Int) (w:World) (h:B3 A4Z w p l) (hl:l.length<=10000000) :
  Calls Tryz.prog 112 #[.slice p l.length c,Af n] w λe w'=>∃ k:Int,e=.returned (Af k)/\decide (0<=k)=decide (n∈l)/\w=w':=by
 refine Ar func112 rfl ntmps112<|A4<|A9 rfl<|Ad<|A4<|A3 rfl<|A1 (.lenS IX rfl)<|A3 rfl<|A0<|AO<|BM (α:=Nat) (λt=>[(0,.slice p l.length c),(1,Af n),(7,Af (l.length:Int)),(8,Af (t:Int))]) (λt w'=>w=w'/\t<=l.length/\n ∉ l.take t) (λt=>l.length-t) (0) ⟨rfl,rfl,rfl,rfl,tT⟩ (⟨rfl,FI _,by simp⟩) (λt i hR=>?_)
 obtain ⟨a,rfl⟩:=eX t
 obtain ⟨rfl,ht,ho⟩:=hR
 refine A4<|A1 (.lss rfl rfl)<|A0<|Ad<|Ai rfl (λb=>?_) (λb=>?_)
 have f:=dT b
 refine Ap<|Ad<|AO<|A4<|A3 rfl<|A9 rfl<|A4<|A3 rfl<|A3 rfl<|A3 rfl<|A1 (.ixb IX Bw rfl rfl (h.isp oO) (a) (rfl) oO)<|Ah (Bq (BZ _) rfl (h.cells (a) oO))<|A1 (.eql rfl rfl)<|A0<|Ai rfl (λd=>?_) (λd=>?_)
 have g:=dT d
 refine A4<|A3 rfl<|A9 rfl<|AW ?_
 first
 | exact ⟨_,rfl,by rw [AP oO,AP (by have:=AA (l:=l) (n:=a) oO;simp_all)],rfl⟩
 | exact ⟨_,rfl,by rw [AJ oO,AJ (by rw [An oO] at ho;exact ho)],rfl⟩
 have g:=dF d
 refine Ap<|Am<|A1 (.add rfl rfl (Ba oO))<|A3 rfl<|A0<|?_
 exact ⟨a+1,⟨rfl,rfl,rfl,rfl,tT⟩,⟨rfl,oO,by rw [List.take_add_one,Aj oO];simp only [Option.toList_some,B9,B8,not_or];exact ⟨ho,aS⟩⟩,oO⟩
 have f:=dF b
 refine BF<|A4<|A9 rfl<|AW ?_
 first
 | exact ⟨_,rfl,by rw [AP oO,AP (by have:=AA (l:=l) (n:=a) oO;simp_all)],rfl⟩
 | exact ⟨_,rfl,by rw [AJ oO,AJ (by rw [An oO] at ho;exact ho)],rfl⟩
theorem Rt (p:Option Addr) (l:List Int) (c:Nat) (n:Int) (w:World) (h:B3 A4Z w p l) (hl:l.length<=10000000) :
  Calls Tryz.prog 83 #[.slice p l.length c,Af n] w λe w'=>e=.returned (.bool (decide (n∈l)))/\w=w':=by
 refine Ar func83 rfl ntmps83<|A4<|A9 rfl<|A4<|A3 rfl<|A3 rfl<|Bf BK rfl rfl ((WA p l c n _ h hl)) (λk d a=>?_)
 obtain ⟨b,rfl⟩:=a
 refine A1 (.geq rfl rfl)<|A9 rfl<|AW ?_
 exact ⟨Ff (BJ Value.bool b),rfl⟩
end
section
def Ol {α:Type} (p:α->Prop):List α->Prop
 | []=>True
 | a::r=>p a/\Ol p r
theorem Ol.mem {α:Type} {p:α->Prop}:∀ {l:List α},Ol p l->∀ a∈l,p a
 | [],_,_,h=>by cases h
 | b::r,h,a,ha=>by
  rcases A6.1 ha with rfl | ha
  · exact h.1
  · exact Ol.mem h.2 a ha
theorem TM {α:Type} {p:α->Prop}:∀ {l:List α},(∀ a∈l,p a)->Ol p l
 | [],_=>trivial
 | b::r,h=>⟨h b (by simp),TM λa ha=>h a (by simp [ha])⟩
structure Sp where
 i:Nat
 d:Nat
 ds:List (Nat × Nat)
 p:Value->World->Prop
 a:Bool:=false
def bOf:Value->Nat
 | .pointer (some a)=>a.block
 | _=>0
def phi:List Sp->Nat->Value->World->Prop
 | [],_=>λ_ _=>False
 | s::r,j=>bif Nat.beq s.i j then s.p else phi r j
def WK:List (Nat × Nat)->Nat->Bool
 | [],_=>false
 | s::r,j=>bif Nat.beq s.1 j then true else WK r j
def V5 (ops:Array Oper) (i:Nat):List Nat:=match ops[i]? with
 | none=>[]
 | some o=>(o.after.toList.filter λe=>Region.binds .any e).map (·.on)
def trE (ops:Array Oper) (L:Array Bool):Nat->Nat->List Nat
 | 0,_=>[]
 | n+1,i=>(V5 ops i).flatMap λj=>bif L.getD j false then [] else j::trE ops L n j
def WI (sp:List Sp):List (Nat × Nat):=sp.map λs=>(s.i,s.d)
def Q6 (ops:Array Oper) (L:Array Bool):List (Nat × Nat)->List (Nat × Nat)->Bool
 | _,[]=>true
 | a,s::r=>!WK a s.1 && (a.all λt=>!Nat.beq t.2 s.2) && (V5 ops s.1).all (λj=>L.getD j false || WK a j) && Q6 ops L (s::a) r
def A62 (ops:Array Oper) (L:Array Bool) (f:List Nat) (sp:List (Nat × Nat × List (Nat × Nat))):Bool :=
 sp.all (λs=>((ops[s.1]?).bind (·.dst)) == some s.2.1 && !L.getD s.1 true && (f.all λt=>!Nat.beq t s.2.1) && s.2.2.all λt=>(V5 ops s.1).contains t.1 && sp.any λu=>Nat.beq u.1 t.1 && Nat.beq u.2.1 t.2) &&
 Q6 ops L [] (sp.map λs=>(s.1,s.2.1)) &&
 (List.range ops.size).all λi=>L.getD i false || (sp.any λs=>Nat.beq s.1 i) || sp.all λs=>(trE ops L ops.size i).contains s.1
def Dm (L:Array Bool):List Nat->Array Bool
 | []=>L
 | i::r=>Dm (L.setIfInBounds i true) r
theorem XE :j∈V5 ops i↔∃ o,ops[i]?=some o/\∃ e∈o.after,Region.binds .any e=true/\e.on=j:=by
 unfold V5
 cases h:ops[i]? with
 | none=>simp
 | some o=>simp [and_assoc]
theorem NU  {L:Array Bool} (h:i∈Region.ready .any ops L):L.getD i true=false/\∀ j∈V5 ops i,L.getD j false=true:=by
 obtain ⟨b,o,ho,a⟩:=mem_ready.1 h
 refine ⟨b,λj hj=>?_⟩
 obtain ⟨o',ho',e,he,hb,rfl⟩:=XE.1 hj
 rw [ho] at ho'
 cases ho'
 exact a e he hb
theorem Ob  {L:Array Bool} {o:Oper} (ho:ops[i]?=some o) (h0:L.getD i true=false) (h:∀ j∈V5 ops i,L.getD j false=true):i∈Region.ready .any ops L :=
 mem_ready.2 ⟨h0,o,ho,λe he hb=>h _ (XE.2 ⟨o,ho,e,he,hb,rfl⟩)⟩
def Es (d:Nat) (v:Value) (g h:Fr):Prop:=look h d=some v/\∀ s u,s≠d->look g s=some u->look h s=some u
theorem A0Z  {g:Fr} (hs:FL f g) {s:Nat} (h:look g s=some u):look (f++g) s=some u:=by
 induction f with
 | nil=>exact h
 | cons p f ih =>
  obtain ⟨j,v⟩:=p
  show (bif Nat.beq j s then some v else look (f++g) s)=some u
  cases hb:Nat.beq j s with
  | true =>
   obtain rfl:j=s:=BD hb
   rw [cond_true,<- h];exact hs.1.symm
  | false=>rw [cond_false];exact ih hs.2
theorem A1Z  {g:Fr} (hs:FL f g) {s:Nat} (h:look (f++g) s=some u):look g s=some u:=by
 induction f with
 | nil=>exact h
 | cons p f ih =>
  obtain ⟨j,v⟩:=p
  have h:(bif Nat.beq j s then some v else look (f++g) s)=some u:=h
  cases hb:Nat.beq j s with
  | true =>
   obtain rfl:j=s:=BD hb
   rw [hb,cond_true] at h
   rw [<- h];exact hs.1
  | false=>rw [hb,cond_false] at h;exact ih hs.2 h
theorem OM.front {n:Sh} {g:Fr} {a:Act} (h:OM n g a) (hs:FL f g):OM n (f++g) a:=⟨h.1,h.2.1,λi v hv=>h.2.2 i v (A1Z hs hv)⟩
theorem Es.front {d:Nat} {g:Fr} (hs:FL f g):Es d v g ((d,v)::(f++g)):=by
 refine ⟨?_,λs u a h=>?_⟩
 ·
  show (bif Nat.beq d d then some v else look (f++g) d)=some v
  rw [Nat.beq_refl,cond_true]
 ·
  show (bif Nat.beq d s then some v else look (f++g) s)=some u
  have hb:Nat.beq d s=false:=by
   cases hq:Nat.beq d s with
   | true=>exact De (BD hq).symm a
   | false=>rfl
  rw [hb,cond_false];exact A0Z hs h
section
variable {P:Program} {n:Sh} {f g:Fr} {ops:Array Oper} {Q:Exit->Fr->World->Prop} {w:World} {fuel:Nat} {listed:Array Bool}
theorem WL.front {l:List Oper} (f:Fr) (hs:FL f g) (h:WL P n ops Q l (f++g) w):WL P n ops Q l g w:=by
 unfold WL at h ⊢
 exact λa ha=>h a (ha.front hs)
theorem WY.front (f:Fr) (hs:FL f g) (h:WY P n ops Q fuel listed (f++g) w):WY P n ops Q fuel listed g w:=by
 unfold WY at h ⊢
 exact λa ha=>h a (ha.front hs)
theorem Vp:∀ {rs:List Nat},(∀ i∈rs,∃ o,ops[i]?=some o/\WL P n ops (nx (λf' w'=>WY P n ops Q fuel (listed.setIfInBounds i true) f' w') Q) [o] f w)->NE P n ops Q fuel listed f w rs
 | [],_=>trivial
 | j::r,h=>⟨h j (by simp),Vp λi hi=>h i (by simp [hi])⟩
def Stp (P:Program) (n:Sh) (ops:Array Oper) (Q:Exit->Fr->World->Prop) (f0:Fr) (w:World) (sp:List Sp) (s:Sp):Prop :=
 ∀ (K:Fr->World->Prop) (g:Fr) (w1:World),FL f0 g->AL w w1->Ol (λt:Nat × Nat=>∃ v,look g t.2=some v/\phi sp t.1 v w1) s.ds ->
  (∀ v h w2,Es s.d v g h->s.p v w2->AL w1 w2->(s.a=true->w1.heap.size<=bOf v)->K h w2)->∃ o,ops[s.i]?=some o/\WL P n ops (nx K Q) [o] g w1
theorem Pg {L:Array Bool} (h:L.getD i false=true):L.getD i true=true:=by
 rw [AK] at h ⊢
 cases hh:L[i]? with
 | none=>rfl
 | some b=>rw [hh] at h;exact h
theorem A3u {L:Array Bool} (h:L.getD i true=false):i<L.size:=by
 rcases Bu i L.size with a | a
 · exact a
 · rw [AK,Dq a] at h;cases h
theorem JV:∀ (l:List Nat) (L:Array Bool) (i:Nat),Dm L (l++[i])=(Dm L l).setIfInBounds i true
 | [],_,_=>rfl
 | j::r,L,i=>by rw [Bb,Dm,JV r];rfl
theorem A0e {L:Array Bool}:(L.setIfInBounds i true).setIfInBounds j true=(L.setIfInBounds j true).setIfInBounds i true:=by
 by_cases h:i=j
 · subst h;rfl
 · exact Array.setIfInBounds_comm _ _ h
theorem Ti {l m:List Nat} (h:l.Perm m):∀ L:Array Bool,Dm L l=Dm L m:=by
 induction h with
 | nil=>exact λ_=>rfl
 | cons a _ ih=>exact λL=>ih _
 | swap a b l=>exact λL=>by rw [Dm,Dm,Dm,Dm,A0e]
 | trans _ _ h1 h2=>exact λL=>(h1 L).trans (h2 L)
theorem OF:∀ {l:List Nat} {L:Array Bool} {j:Nat},j∈l->j<L.size->(Dm L l).getD j false=true
 | i::r,L,j,hj,hs=>by
  rcases A6.1 hj with rfl | hj
  ·
   have:∀ (r:List Nat) (L:Array Bool),L.getD j false=true->(Dm L r).getD j false=true:=by
    intro r
    induction r with
    | nil=>exact λ_ h=>h
    | cons a r ih=>exact λL h=>ih _ (getD_set_true h)
   exact this r _ (by simp [hs])
  ·
   show (Dm (L.setIfInBounds i true) r).getD j false=true
   exact OF hj (by simpa using hs)
theorem KN:∀ {l:List Nat} {L:Array Bool} {j:Nat},L.getD j false=true->(Dm L l).getD j false=true
 | [],_,_,h=>h
 | i::r,L,j,h=>show (Dm (L.setIfInBounds i true) r).getD j false=true from KN (getD_set_true h)
theorem HV:∀ {l:List Nat} {L:Array Bool} {j:Nat} {b:Bool},j ∉ l->(Dm L l).getD j b=L.getD j b
 | [],_,_,_,_=>rfl
 | i::r,L,j,b,h=>by
  rw [Dm,HV (λq=>h (by simp [q])),getD_set_ne b (λq=>h (by simp [q]))]
theorem UQ:∀ {a:List (Nat × Nat)} {j:Nat},WK a j=true->∃ s∈a,s.1=j
 | s::r,j,h=>by
  have h:(bif Nat.beq s.1 j then true else WK r j)=true:=h
  cases hb:Nat.beq s.1 j with
  | true=>exact ⟨s,by simp,BD hb⟩
  | false =>
   rw [hb,cond_false] at h
   obtain ⟨t,h1,h2⟩:=UQ h
   exact ⟨t,by simp [h1],h2⟩
theorem UI:∀ {a:List (Nat × Nat)} {s:Nat × Nat},s∈a->WK a s.1=true
 | t::r,s,h=>by
  show (bif Nat.beq t.1 s.1 then true else WK r s.1)=true
  rcases A6.1 h with rfl | h
  · rw [Nat.beq_refl,cond_true]
  · rw [UI h];cases Nat.beq t.1 s.1 <;> rfl
theorem Sc {L0 L:Array Bool} {done:List Nat}:∀ {l a:List (Nat × Nat)},Q6 ops L0 a l=true->(∀ j,L0.getD j false=true->L.getD j false=true)->(∀ j∈done,L.getD j false=true)->(∀ s∈a,s.1∈done)->(∃ s∈l,s.1 ∉ done) ->
    ∃ s∈l,s.1 ∉ done/\∀ j∈V5 ops s.1,L.getD j false=true
  | [],_,_,_,_,_,⟨_,h,_⟩=>by cases h
  | s::r,a,h,h0,h1,ha,he=>by
    simp only [Q6,AE] at h
    by_cases hs:s.1∈done
    · obtain ⟨t, ht, htn⟩ := he
      obtain ⟨u,hu,hun,hue⟩:=Sc (l:=r) (a:=s::a) h.2 h0 h1 (λx hx=>by
        rcases A6.1 hx with rfl | hx
        · exact hs
        · exact ha x hx) ⟨t,(A6.1 ht).resolve_left (λe=>htn (e▸hs)),htn⟩
      exact ⟨u,by simp [hu],hun,hue⟩
    · refine ⟨s, by simp, hs, fun j hj => ?_⟩
      have:=AN.1 h.1.2 j hj
      rw [CO] at this
      rcases this with h3 | h3
      · exact h0 j h3
      · obtain ⟨t, ht, rfl⟩ := UQ h3
        exact h1 _ (ha t ht)
theorem Sd {L0:Array Bool}:∀ {l a:List (Nat × Nat)},Q6 ops L0 a l=true->(∀ s∈l,∀ t∈a,s.1≠t.1/\s.2≠t.2)/\l.Pairwise (λs t=>s.1≠t.1/\s.2≠t.2)
  | [],_,_=>⟨(λ_ h=>by cases h),List.Pairwise.nil⟩
  | s::r,a,h=>by
    simp only [Q6,AE] at h
    obtain ⟨⟨⟨h1,h2⟩,-⟩,h4⟩:=h
    obtain ⟨i1,i2⟩:=Sd h4
    have hs:∀ t∈a,s.1≠t.1/\s.2≠t.2:=λt ht=>⟨(λe=>by rw [e,UI ht] at h1;cases h1),(λe=>by
      have:=AN.1 h2 t ht
      rw [e,Nat.beq_refl] at this;cases this)⟩
    refine ⟨λt ht u hu=>?_,List.Pairwise.cons (λt ht=>?_) i2⟩
    · rcases A6.1 ht with rfl | ht
      · exact hs u hu
      · exact i1 t ht u (by simp [hu])
    · have := i1 t ht s (by simp)
      exact ⟨this.1.symm,this.2.symm⟩
theorem T2 {l:List Sp} (h:(WI l).Pairwise (λs t=>s.1≠t.1/\s.2≠t.2)) {s t:Sp} (hs:s∈l) (ht:t∈l):s=t\/(s.i≠t.i/\s.d≠t.d):=by
 induction l with
 | nil=>cases hs
 | cons a r ih =>
  rw [show WI (a::r)=(a.i,a.d)::WI r from rfl,List.pairwise_cons] at h
  rcases A6.1 hs with b | b <;> rcases A6.1 ht with c | c
  · exact .inl (b.trans c.symm)
  · subst b;exact .inr (h.1 (t.i,t.d) (E8.2 ⟨t,c,rfl⟩))
  ·
   subst c
   have:=h.1 (s.i,s.d) (E8.2 ⟨s,b,rfl⟩)
   exact .inr ⟨this.1.symm,this.2.symm⟩
  · exact ih h.2 b c
theorem A4V {l:List Sp} (h:(WI l).Pairwise (λs t=>s.1≠t.1/\s.2≠t.2)) {s:Sp} (hs:s∈l):phi l s.i=s.p:=by
 induction l with
 | nil=>cases hs
 | cons a r ih =>
  rw [show WI (a::r)=(a.i,a.d)::WI r from rfl,List.pairwise_cons] at h
  show (bif Nat.beq a.i s.i then a.p else phi r s.i)=s.p
  rcases A6.1 hs with b | b
  · subst b;rw [Nat.beq_refl,cond_true]
  ·
   have hb:Nat.beq a.i s.i=false:=by
    cases hq:Nat.beq a.i s.i with
    | true=>exact De (BD hq) (h.1 (s.i,s.d) (E8.2 ⟨s,b,rfl⟩)).1
    | false=>rfl
   rw [hb,cond_false];exact ih h.2 b
theorem VG {L0 L:Array Bool} (hcl:∀ j,L.getD j false=true->L0.getD j false=false->∀ e∈V5 ops j,L.getD e false=true):∀ (m i:Nat),(∀ e∈V5 ops i,L.getD e false=true)->∀ j∈trE ops L0 m i,L.getD j false=true
 | 0,_,_,_,h=>by cases h
 | m+1,i,he,j,h=>by
  obtain ⟨x,hx,hj⟩:=List.mem_flatMap.1 h
  cases hl:L0.getD x false with
  | true=>rw [hl,cond_true] at hj;cases hj
  | false =>
   rw [hl,cond_false] at hj
   rcases A6.1 hj with rfl | hj
   · exact he _ hx
   · exact VG hcl m x (hcl x (he x hx) hl) j hj
theorem Ka (f0:Fr) (sp:List Sp) (k:Nat) (hf:FL f0 f) (hfu:fuel=sp.length+k) (hok:A62 ops listed (f0.map (·.1)) (sp.map λs=>(s.i,s.d,s.ds))=true)
  (hmono:Ol (λs:Sp=>(∀ v w1 w2,s.p v w1->AL w1 w2->s.p v w2)/\(s.a=true->∀ v w1,s.p v w1->bOf v<w1.heap.size)) sp) (hstep:Ol (Stp P n ops Q f0 w sp) sp)
  (hend:∀ g w1,FL f0 g->AL w w1->Ol (λs:Sp=>∃ v,look g s.d=some v/\s.p v w1) sp->(∀ (i j:Nat) (s t:Sp),sp[i]?=some s->sp[j]?=some t->s.a=true->t.a=true->s.i≠t.i->∀ v u,look g s.d=some v->look g t.d=some u->bOf v≠bOf u)->WY P n ops Q k (Dm listed (sp.map (·.i))) g w1):WY P n ops Q fuel listed f w:=by
 simp only [A62,AE,List.all_map,List.map_map] at hok
 obtain ⟨⟨a9,G⟩,aa⟩:=hok
 have G:Q6 ops listed [] (WI sp)=true:=G
 have E:=(Sd G).2
 have D:∀ s∈sp,((ops[s.i]?).bind (·.dst))=some s.d/\listed.getD s.i true=false/\(∀ p∈f0,p.1≠s.d)/\∀ t∈s.ds,t.1∈V5 ops s.i/\∃ u∈sp,u.i=t.1/\u.d=t.2:=λs hs=>by
  have h:=AN.1 a9 s hs;simp only [Function.comp,AE,BO,beq_iff_eq] at h;obtain ⟨⟨⟨A,B⟩,h3⟩,h4⟩:=h;refine ⟨A,B,λp hp e=>?_,λt ht=>?_⟩
  · have:=AN.1 h3 p hp;simp only [Function.comp,BO] at this;rw [e,Nat.beq_refl] at this;cases this
  · have:=AN.1 h4 t ht;simp only [AE,List.contains_iff_mem,List.any_map,List.any_eq_true,Function.comp] at this;obtain ⟨C,u,hu,F,h7⟩:=this;exact ⟨C,u,hu,BD F,BD h7⟩
 have main:∀ (m:Nat) (done todo:List Nat) (g:Fr) (w1:World),todo.length=m->(done++todo).Perm (sp.map (·.i))->(∀ p∈f0,look g p.1=some p.2)->AL w w1 ->
   (∀ s∈sp,s.i∈done->∃ v,look g s.d=some v/\s.p v w1)->(∀ j∈done,∀ e∈V5 ops j,(Dm listed done).getD e false=true)->(∀ s∈sp,∀ t∈sp,s.i∈done->t.i∈done->s.a=true->t.a=true->s.i≠t.i->∀ v u,look g s.d=some v->look g t.d=some u->bOf v≠bOf u)->WY P n ops Q (m+k) (Dm listed done) g w1:=by
  intro m
  induction m with
  | zero =>
   intro done todo g w1 hm hp hg hB hd X Y;obtain rfl:=Dk hm;rw [FB] at hp;rw [Ti hp,Do];refine hend g w1 ?_ hB (TM λs hs=>hd s hs (hp.mem_iff.2 (E8.2 ⟨s,hs,rfl⟩))) (λi j s t hs ht=>Y s (List.mem_of_getElem? hs) t (List.mem_of_getElem? ht) (hp.mem_iff.2 (E8.2 ⟨s,List.mem_of_getElem? hs,rfl⟩)) (hp.mem_iff.2 (E8.2 ⟨t,List.mem_of_getElem? ht,rfl⟩)));have:∀ l:Fr,(∀ p∈l,look g p.1=some p.2)->FL l g:=by
    intro l
    induction l with
    | nil=>exact λ_=>trivial
    | cons p l ih=>exact λh=>⟨h p (by simp),ih λq hq=>h q (by simp [hq])⟩
   exact this f0 hg
  | succ m ih =>
   intro done todo g w1 hm hp hg hB hd X Y;have ab:FL f0 g:=by
    have:∀ l:Fr,(∀ p∈l,look g p.1=some p.2)->FL l g:=by
     intro l
     induction l with
     | nil=>exact λ_=>trivial
     | cons p l ih=>exact λh=>⟨h p (by simp),ih λq hq=>h q (by simp [hq])⟩
    exact this f0 hg
   have ac:(done++todo).Nodup:=hp.nodup_iff.2 (by
    have:=List.pairwise_map.1 (show (sp.map λs=>(s.i,s.d)).Pairwise _ from E);exact List.pairwise_map.2 (this.imp λh=>h.1))
   have H:∀ j,j∈done++todo->∃ s∈sp,s.i=j:=λj hj=>by
    obtain ⟨s,hs,e⟩:=E8.1 (hp.mem_iff.1 hj);exact ⟨s,hs,e⟩
   have a6:∀ j∈done,(Dm listed done).getD j false=true:=λj hj=>by
    obtain ⟨s,hs,rfl⟩:=H j (by simp [hj]);exact OF hj (A3u (D s hs).2.1)
   have Z:∀ j∈todo,j ∉ done:=λj hj hd=>(List.nodup_append.1 ac).2.2 j hd j hj rfl
   obtain ⟨t0,J⟩:∃ t,t∈todo:=by
    cases todo with
    | nil=>cases hm
    | cons a r=>exact ⟨a,by simp⟩
   have K:(Region.ready .any ops (Dm listed done)).isEmpty=false:=by
    obtain ⟨V,M,e0⟩:=H t0 (by simp [J]);obtain ⟨x,hx,ad,ae⟩:=Sc (L:=Dm listed done) (done:=done) G (λj h=>KN h) a6 (λ_ h=>by cases h) ⟨(V.i,V.d),E8.2 ⟨V,M,rfl⟩,by rw [e0];exact Z t0 J⟩;obtain ⟨s,hs,rfl⟩:=E8.1 hx;have A:=(D s hs).1;cases ho:ops[s.i]? with
    | none=>rw [ho] at A;cases A
    | some o =>
     have:=Ob (L:=Dm listed done) ho (by rw [HV ad];exact (D s hs).2.1) ae;cases hr:Region.ready .any ops (Dm listed done) with
     | nil=>rw [hr] at this;cases this
     | cons _ _=>rfl
   rw [show m+1+k=(m+k)+1 by omega];refine SK _ rfl K (Vp λi hi=>?_);obtain ⟨N,a0⟩:=NU hi;have af:i<ops.size:=by
    obtain ⟨-,o,ho,-⟩:=mem_ready.1 hi;exact (Bd.1 ho).1
   have a8:∀ j,(Dm listed done).getD j false=true->listed.getD j false=false->∀ e∈V5 ops j,(Dm listed done).getD e false=true:=λj A B=>by
    by_cases hj:j∈done
    · exact X j hj
    · rw [HV hj,B] at A;cases A
   have O:i∈todo:=by
    have h:=AN.1 aa i (List.mem_range.2 af);simp only [CO,List.any_map,List.any_eq_true,Function.comp] at h;rcases h with (h | ⟨s,hs,h⟩) | h
    · rw [Pg (KN h)] at N;cases N
    ·
     obtain rfl:=BD h;rcases B9.1 (hp.mem_iff.2 (E8.2 ⟨s,hs,rfl⟩)) with A | A
     · rw [Pg (a6 _ A)] at N;cases N
     · exact A
    · exfalso;obtain ⟨V,M,e0⟩:=H t0 (by simp [J]);have A:=AN.1 h V M;simp only [Function.comp,List.contains_iff_mem] at A;have B:=Pg (VG a8 _ i a0 _ A);rw [HV (by rw [e0];exact Z t0 J),(D V M).2.1] at B;cases B
   obtain ⟨s,hs,rfl⟩:=H i (by simp [O]);have ag:=Z _ O;obtain ⟨o,ho,hw⟩:=hstep.mem s hs (λf' w'=>WY P n ops Q (m+k) ((Dm listed done).setIfInBounds s.i true) f' w') g w1 ab hB (TM λt ht=>by
    obtain ⟨A,u,hu,B,h3⟩:=(D s hs).2.2.2 t ht;have ah:u.i∈done:=by
     have:=a0 _ (B▸A);rw [B] at this
     by_cases hq:u.i∈done
     · exact hq
     · rw [<- B,HV hq] at this;have C:=(D u hu).2.1;rw [Pg this] at C;cases C
    obtain ⟨v,hv,a1⟩:=hd u hu ah;exact ⟨v,h3▸hv,by rw [<- B,A4V E hu];exact a1⟩) (λv h w2 hx a1 hb ai=>by
    have aj:((done++[s.i])++todo.erase s.i).Perm (sp.map (·.i)):=by
     rw [AS];exact (List.Perm.append_left done (List.perm_cons_erase O).symm).trans hp
    have:=ih (done++[s.i]) (todo.erase s.i) h w2 (by rw [List.length_erase_of_mem O];omega) aj (λp hp=>hx.2 _ _ ((D s hs).2.2.1 p hp) (hg p hp)) (Ej hB (Below.mono hb hB.size)) (λt ht ak=>by
     rcases B9.1 ak with A | A
     ·
      obtain ⟨u,hu,a2⟩:=hd t ht A;rcases T2 E ht hs with rfl | C
      · exact De A ag
      · exact ⟨u,hx.2 _ _ C.2 hu,(hmono.mem t ht).1 _ _ _ a2 hb⟩
     ·
      rcases T2 E ht hs with rfl | C
      · exact ⟨v,hx.1,a1⟩
      · exact De (B8.1 A) C.1) (λj hj e he=>by
     rw [JV];rcases B9.1 hj with A | A
     · exact getD_set_true (X j A e he)
     · rw [B8.1 A] at he;exact getD_set_true (a0 e he)) (λx a3 y R al a7 a4 T K a b ha hb1=>by
     have old:∀ z∈sp,z.i∈done++[s.i]->z.i≠s.i->z.a=true->∀ c,look h z.d=some c->z.i∈done/\look g z.d=some c/\bOf c<w1.heap.size:=λz hz am U a5 c hc=>by
      have A:=(B9.1 am).resolve_right (λq=>U (B8.1 q));obtain ⟨u,hu,a2⟩:=hd z hz A;have C:=(T2 E hz hs).resolve_left (λq=>U (q▸rfl));have F:=hx.2 _ _ C.2 hu;rw [hc] at F;cases F;exact ⟨A,hu,(hmono.mem z hz).2 a5 _ _ a2⟩
     have new:∀ z∈sp,z.i=s.i->z.a=true->∀ c,look h z.d=some c->w1.heap.size<=bOf c:=λz hz U a5 c hc=>by
      rcases T2 E hz hs with rfl | C
      · have F:=hx.1;rw [hc] at F;cases F;exact ai a5
      · exact De U C.1
     by_cases hxs:x.i=s.i
     ·
      have A:=new x a3 hxs a4 a ha;have B:=(old y R a7 (λq=>K (hxs.trans q.symm)) T b hb1).2.2
      omega
     ·
      have A:=old x a3 al hxs a4 a ha
      by_cases hys:y.i=s.i
      ·
       have B:=new y R hys T b hb1;have:=A.2.2
       omega
      · have B:=old y R a7 hys T b hb1;exact Y x a3 y R A.1 B.1 a4 T K a b A.2.1 B.2.1)
    rw [JV] at this;exact this)
   exact ⟨o,ho,hw⟩
 subst hfu
 have h0:=main sp.length [] (sp.map (·.i)) f w (by simp) (List.Perm.refl _) (λp hp=>?_) (Gb _ _) (λ_ _ h=>by cases h) (λ_ h=>by cases h) (λ_ _ _ _ h=>by cases h)
 · exact h0
 ·
  have:∀ l:Fr,FL l f->∀ p∈l,look f p.1=some p.2:=by
   intro l
   induction l with
   | nil=>exact λ_ _ h=>by cases h
   | cons q l ih =>
    intro h p hp;rcases A6.1 hp with rfl | hp
    · exact h.1
    · exact ih h.2 p hp
  exact this f0 hf p hp
def WE (ops:Array Oper) (m:Nat):Bool:=(ops.toList.all λo=>o.guard.isNone) && ((List.range ops.size).all λi=>(V5 ops i).all λj=>Nat.blt j i) && (List.range m).all λi=>(trE ops #[] ops.size m).contains i
theorem Jx {L:Array Bool} {k:Nat}:(L.push false).getD k false=L.getD k false:=by
 rw [AK,AK,Array.getElem?_push]
 split
 · rename_i h;subst h;rw [Dq (DP _)];rfl
 · rfl
theorem MM {L:Array Bool} {k:Nat} (h:k<L.size):(L.push false).getD k true=L.getD k true:=by
 rw [AK,AK,Array.getElem?_push,A2 oO]
theorem Vy {init:List Oper} {o:Oper} {Q0 Q1:Exit->Act->World->Prop} (hok:WE (init++[o]).toArray init.length=true) (hQ:∀ e a w,e≠.normal->Q1 e a w->Q0 e a w)
    (hN:∀ a w,Q1 .normal a w->wpOp P (init++[o]).toArray Q0 init.length (λa' w'=>Q0 .normal a' w') a w):∀ (fuel:Nat) (L:Array Bool) (a:Act) (w:World),L.size=init.length->(∀ j,L.getD j false=true->∀ e∈V5 (init++[o]).toArray j,L.getD e false=true) ->
      wpAny P .any init.toArray Q1 fuel L a w->wpAny P .any (init++[o]).toArray Q0 (fuel+1) (L.push false) a w:=by
  simp only [WE,AE] at hok
  obtain ⟨⟨hg,s⟩,t⟩:=hok
  have E:(init++[o]).toArray.size=init.length+1:=by simp
  have back:∀ j,j<=init.length->∀ e∈V5 (init++[o]).toArray j,e<j:=λj hj e he=>by
    have d:=AN.1 (AN.1 s j (List.mem_range.2 oO)) e he
    simpa using d
  have lst:∀ (L:Array Bool),L.size=init.length->(∀ j,L.getD j false=true->∀ e∈V5 (init++[o]).toArray j,L.getD e false=true)->init.length∈Region.ready .any (init++[o]).toArray (L.push false)->∀ j<init.length,L.getD j false=true:=by
    intro L hL g hr j hj
    have d:=(NU hr).2
    have c:=AN.1 t j (List.mem_range.2 hj)
    simp only [List.contains_iff_mem] at c
    exact VG (L0:=#[]) (L:=L) (λj hl _=>g j hl) _ _ (λe he=>by rw [<- Jx];exact d e he) j c
  have rdy:∀ (L:Array Bool) (j:Nat),L.size=init.length->j<init.length->(j∈Region.ready .any (init++[o]).toArray (L.push false)↔j∈Region.ready .any init.toArray L):=by
    intro L j hL hj
    rw [mem_ready,mem_ready,MM oO,List.getElem?_toArray,List.getElem?_toArray,Ex hj]
    simp only [Jx]
  have ft:∀ (L:Array Bool) (j:Nat),j<L.size->L.getD j true=L.getD j false:=λL j h=>by
    rw [AK,AK,Ey h];rfl
  have none:∀ (L:Array Bool),L.size=init.length->Region.ready .any (init++[o]).toArray (L.push false)≠[]:=by
    intro L hL k
    have b:∀ j,j<init.length->L.getD j false=true:=by
      intro j
      induction j using Nat.strongRecOn with
      | _ j ih =>
        intro hj
        cases hd:L.getD j false with
        | true=>rfl
        | false =>
          exfalso
          have u:(init++[o]).toArray[j]?=some (init[j]'hj):=by rw [List.getElem?_toArray,Ex hj,Aj hj]
          have:=Ob (L:=L.push false) u (by rw [MM oO,ft L j oO];exact hd) (λe he=>by
            have d:=back j oO e he
            rw [Jx];exact ih e d oO)
          rw [k] at this;cases this
    have v:(init++[o]).toArray[init.length]?=some o:=by rw [List.getElem?_toArray];simp
    have:=Ob (L:=L.push false) v (by rw [AK,Array.getElem?_push,A7 hL.symm];rfl) (λe he=>by
      have d:=back init.length (DP _) e he
      rw [Jx];exact b e d)
    rw [k] at this;cases this
  have fin:∀ (fuel:Nat) (L:Array Bool) (a:Act) (w:World),L.size=init.length->(∀ j<init.length,L.getD j false=true)->Q1 .normal a w->wpOp P (init++[o]).toArray Q0 init.length (wpAny P .any (init++[o]).toArray Q0 fuel ((L.push false).setIfInBounds init.length true)) a w:=by
    intro fuel L a w hL b hq
    refine wpOp_mono (λa' w' h=>wpAny_done ?_ h fuel) (hN a w hq)
    cases hr:Region.ready .any (init++[o]).toArray ((L.push false).setIfInBounds init.length true) with
    | nil=>rfl
    | cons x r =>
      exfalso
      have hx:x∈Region.ready .any (init++[o]).toArray ((L.push false).setIfInBounds init.length true):=by rw [hr];simp
      obtain ⟨d,ox,f,-⟩:=mem_ready.1 hx
      have m:x<init.length+1:=by have:=(Bd.1 f).1;omega
      rcases Bu x init.length with c | c
      · rw [getD_set_ne true oO,MM oO,ft L x oO,b x c] at d;cases d
      · obtain rfl : x = init.length := by omega
        rw [AK] at d
        simp [hL] at d
  have em:∀ (L:Array Bool) (a:Act) (w:World) (fuel:Nat),L.size=init.length->(∀ j<init.length,L.getD j false=true)->wpAny P .any init.toArray Q1 fuel L a w->Q1 .normal a w:=by
    intro L a w fuel hL b h
    have k:Region.ready .any init.toArray L=[]:=by
      cases hr:Region.ready .any init.toArray L with
      | nil=>rfl
      | cons x r =>
        exfalso
        have hx:x∈Region.ready .any init.toArray L:=by rw [hr];simp
        obtain ⟨d,ox,f,-⟩:=mem_ready.1 hx
        have m:x<init.length:=by have:=(Bd.1 f).1;simpa using this
        rw [ft L x oO,b x m] at d;cases d
    cases fuel with
    | zero=>exact h.2
    | succ fuel=>exact h.1 k
  intro fuel
  induction fuel with
  | zero =>
    intro L a w hL g h
    refine ⟨λk=>De k (none L hL),λi hi=>?_⟩
    rcases Bu i init.length with c | c
    · have := (rdy L i hL c).1 hi
      rw [h.1] at this;cases this
    · have y : i < init.length + 1 := by
        obtain ⟨-,ox,f,-⟩:=mem_ready.1 hi
        have:=(Bd.1 f).1;omega
      obtain rfl:i=init.length:=by omega
      have b:=lst L hL g hi
      exact fin 0 L a w hL b (em L a w 0 hL b h)
  | succ fuel ih =>
    intro L a w hL g h
    refine ⟨λk=>De k (none L hL),λi hi=>?_⟩
    rcases Bu i init.length with c | c
    · have l := h.2 i ((rdy L i hL c).1 hi)
      have A:=(NU hi).2
      have C:init.toArray[i]?=some (init[i]'c):=by rw [List.getElem?_toArray,Aj c]
      have D:(init++[o]).toArray[i]?=some (init[i]'c):=by rw [List.getElem?_toArray,Ex c,Aj c]
      have B:(init[i]'c).guard=Option.none:=by
        have:=AN.1 hg (init[i]'c) (by simp)
        simpa using this
      have hK:∀ a' w',wpAny P .any init.toArray Q1 fuel (L.setIfInBounds i true) a' w'->wpAny P .any (init++[o]).toArray Q0 (fuel+1) ((L.push false).setIfInBounds i true) a' w':=λa' w' q=>by
        have:=ih (L.setIfInBounds i true) a' w' (by simpa using hL) (λj hj e he=>by
          by_cases hji:i=j
          · subst hji
            have:=A e he
            rw [Jx] at this
            exact getD_set_true this
          · rw [getD_set_ne false hji] at hj
            exact getD_set_true (g j hj e he)) q
        rwa [show (L.setIfInBounds i true).push false=(L.push false).setIfInBounds i true by
          apply Array.ext'
          rw [Array.toList_push,Array.toList_setIfInBounds,Array.toList_setIfInBounds,Array.toList_push,List.set_append_left _ _ (by rw [Array.length_toList];omega)]] at this
      unfold wpOp at l ⊢
      simp only [C] at l
      simp only [D]
      rw [A7 (by simp [Region.wanted,B])] at l ⊢
      rcases l with l | ⟨l,a',w',q⟩
      · exact .inl (NH (Oper.wp_mono hK l) λe a w he h=>hQ e a w he h)
      · exact .inr ⟨l,a',w',hQ _ _ _ (by simp) q⟩
    · have y : i < init.length + 1 := by
        obtain ⟨-,ox,f,-⟩:=mem_ready.1 hi
        have:=(Bd.1 f).1;omega
      obtain rfl:i=init.length:=by omega
      have b:=lst L hL g hi
      exact fin (fuel+1) L a w hL b (em L a w (fuel+1) hL b h)
theorem TI  {l:List Oper} {o:Oper} (N:Nat) (hl:l=l.dropLast++[o]) (hN:l.dropLast.length=N) (hm:P.follows .mixedOrders=true) (hok:WE l.toArray N=true) (S:World->Prop)
  (h:∀ w1,C6 w w1->WH P n l.dropLast.toArray (nx (λf' w'=>WL P n l.toArray Q [o] f' w') Q) S N (Array.replicate N false) f w1):W P n (.region id l.toArray true) Q f w:=by
 unfold W
 intro a ha
 generalize hi:l.dropLast=init at *
 subst hl
 subst hN
 refine wp_region_any hm ?_
 have g:=h (w.drewN 1) ⟨1,rfl⟩
 unfold WH at g
 have c:=wpAny_of_held _ _ _ _ (g a ha)
 have d:=Vy (Q0:=IY n Q) hok (λe a w he hq=>by
  obtain ⟨f',hr,hq⟩:=hq
  cases e with
  | normal=>exact De rfl he
  | _=>exact ⟨f',hr,hq⟩) (λa w hq=>by
  obtain ⟨f',hr,hq⟩:=hq
  have hq:WL P n (init++[o]).toArray Q [o] f' w:=hq
  unfold WL at hq
  have b:=hq a hr
  unfold wpOp
  rw [show (init++[o]).toArray[init.length]?=some o by rw [List.getElem?_toArray];simp]
  unfold wpList at b
  split at b
  · next hw=>simp only [hw,if_true];exact b.imp (λh=>by simpa [wpList] using h) (λ⟨c,a',w',d⟩=>⟨c,a',w',d⟩)
  ·
   next hw=>simp only [hw];simpa [wpList] using b) init.length (Array.replicate init.length false) a (w.drewN 1) (by simp) (λj hj=>by
   rw [AK] at hj
   rcases Bu j init.length with h | h
   · rw [Ey (by simpa using h)] at hj;simp at hj
   · rw [Dq (by simpa using h)] at hj;cases hj) c
 rw [show (init++[o]).toArray.size=init.length+1 by simp,show Array.replicate (init.length+1) false=(Array.replicate init.length false).push false from Array.replicate_succ]
 exact d
end
end
section
section
variable {P:Program} {n:Sh} {f:Fr}
theorem RG  {t:TypeId} {i:TypeInfo} {by':Nat} (ht:P.underlying t=some (.slice e)) (hi:P.info? e=some i) (hz:i.zero=some z) (hsize:i.size=1) (hby:i.bytes=by') (hby2:by'<=16) (hzs:z.cells.size=1)
 {m:Nat} (hown:w.ownsRow B e 1 v m xs) {a:Addr} (hnews:∀ j y,[u][j]?=some y->w.cell? (a.add j)=some y) (h1:u.oneCell'=true) (hm:m<=1000000000) {v':Value}
    (hr:(Builtin.append_ #[t,t] ty #[v,.slice (some a) 1 c]).run P w=.ok v' w'):∀ g,v'.ownBlock=some g->v.ownBlock=some g\/w.heap.size<=g:=by
  have q:(m+1) * by'<=(m+1) * 16:=Nat.mul_le_mul_left _ hby2
  rcases hown.2 with ⟨rfl,rfl⟩ | ⟨g,cap,cur,rfl,s,hg,x,A,h,l⟩
  · have hx : xs = [] := Dk (by simpa using hown.1)
    subst hx
    obtain ⟨C,D,b,o,-,-⟩:=run_append_own (P:=P) (w:=w) w.heap.size t ty e i z 1 by' ht hi hz hsize hby hzs dD (.slice none 0 0) 0 [] (World.ownsRow_nil w w.heap.size e 1) a 1 c [u] rfl hnews (by simpa using h1) (by unfold maxLen;omega) oO (DP _)
    have he:=hr.symm.trans b
    simp only [Result.ok.injEq] at he
    obtain ⟨rfl,rfl⟩:=he
    intro g hg
    exact .inr (o.lt g hg).1
  · by_cases hroom : m + 1 ≤ cap
    · have f : m * i.size + [u].length ≤ cur.size := by rw [hsize]; have : cur.size = cap * 1 := h; simp; omega
      have b:=run_append_room (P:=P) w t ty e i ht hi g m cap cur hg a 1 c [u] (by rw [hsize];rfl) hnews (by simpa using h1) hroom f
      have he:=hr.symm.trans b
      simp only [Result.ok.injEq] at he
      obtain ⟨rfl,rfl⟩:=he
      intro k hk
      exact .inl (by simpa [Value.ownBlock] using hk)
    · have d : ∀ j u, xs[j]? = some u → w.cell? ((⟨g, 0, none⟩ : Addr).add j) = some u := hown.cells (g := g) rfl
      have b:=run_append_grow (P:=P) w t ty e i z ht hi hz ⟨g,0,none⟩ m cap xs (by rw [hsize];exact hown.1) d a 1 c [u] (by rw [hsize];rfl) hnews oO oO (growslice_fits oO (by rw [hby];omega))
      have he:=hr.symm.trans b
      simp only [Result.ok.injEq] at he
      obtain ⟨rfl,rfl⟩:=he
      intro k hk
      simp only [Value.ownBlock,BN] at hk
      exact .inr oO
theorem A25  {rest:List Oper} {d ty:Nat} {s:Operand} {t:TypeId} {b by':Nat}
    (ht:P.underlying t=some (.slice e)) (hi:(P.info? e).map (λi=>(i.zero,i.size,i.bytes))=some (some z,1,by')) (hby2:Nat.ble by' 16=true) (hzs:z.cells.size=1)
    (hs:CM f s=some v) (hown:CP e B w v xs) (hx:CM f x=some (.slice (some ⟨b,0,none⟩) 1 c)) (hb:B0 w b #[u] tb) (h1:u.oneCell'=true)
    (hn:xs.length<=1000000000) (hB:B<=w.heap.size) (hd:Nat.blt d n.n=true)
    (k:∀ v' w',CP e B w' v' (xs++[u])->Below B w w'->w.grownBy w' v.ownBlock->(∀ g,v'.ownBlock=some g->v.ownBlock=some g\/w.heap.size<=g)->WL P n ops Q rest ((d,v')::f) w') :
    WL P n ops Q (⟨some d,.call ⟨.builtin .append,#[s,x],#[t,t]⟩,ty,pos,aft,none⟩::rest) f w:=by
  cases hh:P.info? e with
  | none=>rw [hh] at hi;cases hi
  | some i =>
    rw [hh] at hi;simp only [Option.map_some,BN,CA] at hi;obtain ⟨hz,a,o⟩:=hi;have m:by'<=16:=by simpa using hby2
    have l:∀ j y,[u][j]?=some y->w.cell? ((⟨b,0,none⟩:Addr).add j)=some y:=λj y hj=>by
      have C:j=0:=by
        rcases IB j with h | h
        · exact h
        · rw [AZ (by simp;omega)] at hj;cases hj
      subst C;simp only [List.getElem?_cons_zero,BN] at hj;subst hj;rw [HE,hb.cell 0];rfl
    have G:(xs.length+1) * by'<=(xs.length+1) * 16:=Nat.mul_le_mul_left _ m
    obtain ⟨v',w',q,D,A,-⟩:=run_append_own (P:=P) (w:=w) B t ty e i z 1 by' ht hh hz a o hzs dD v xs.length xs hown ⟨b,0,none⟩ 1 c [u] rfl l (by simpa using h1) (by unfold maxLen;omega) oO hB
    have E:=RG (P:=P) ht hh hz a o m hzs hown l h1 hn q;refine WL.run hd (w':=w') (v:=v') (λρ hρ=>?_) (k v' w' ?_ ((Gb _ _).grown A hB λk hk=>(hown.lt k hk).1) A E)
    · unfold execOp
      simp only [resolve,invoke,builtin,Ca,D3,BT,List.map_toArray,EF,F4,hρ _ _ hs,hρ _ _ hx,q]
    · have F : (xs ++ [u]).length = xs.length + 1 := by simp
      unfold CP;rw [F];exact D
end
end
end Go.Proofs.YtiddobdioipidaaGreatDoor
