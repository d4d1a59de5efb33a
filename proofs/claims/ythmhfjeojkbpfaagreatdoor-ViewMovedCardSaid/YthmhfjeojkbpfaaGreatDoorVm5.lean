/-
  What the claim leans on, part 5: pruned and joined by my own tool out of the texts that stand in wip/ as templates.
-/
import Derived.Test.YthmhfjeojkbpfaaGreatDoorVm4
set_option maxHeartbeats 6400000
set_option maxRecDepth 100000
namespace Go.Proofs.YthmhfjeojkbpfaaGreatDoor
open Go.RowKit
open Go.Proofs.Tryz
variable {aft:Array Edge} {ops:Array Oper} {ats:Array TypeId} {refs:Bool} {R:Ending->World->Prop} {f:Fr} {dx dy fill last:Int} {sum:Int->List UInt8->Int} {ns:List Int} {A s z:List UInt8} {vs xs:List Value} {B N bp bv by' c cc cp d g i id m t t1:Nat} {F1 T Z:Nat->Prop} {x y:Operand} {p pc pp q:Option Addr} {P:Program} {pos:String} {α β:Type} {E e ta tb tx:TypeId} {v v' v1 vp:Value} {w w1 w2:World} {S':World->Prop}
section
def Xt:Fq M6:=⟨6,M9,dD,λ_=>rfl,λx u hu=>At.1 (show (M9 x).all Value.oneCell'=true from rfl) u hu⟩
structure StH where
 ctm:M6
 fill:Cj
 stroke:Cj
 pen:DP
 clips:Value
 font:Int
 size:Int
def stV (s:StH):List Value:=M9 s.ctm++(DV s.fill++(DV s.stroke++(Ex s.pen++[s.clips,Ah s.font,Ah s.size])))
structure QA where
 s:StH
 fonts:Value
 saved:Value
 path:Nat
 clip:Int
 inText:Bool
 lost:Bool
 text:M6
 line:M6
 args:Value
 items:Value
def FA (h:QA):List Value:=stV h.s++([h.fonts,h.saved,ptV h.path,Ah h.clip,.bool h.inText,.bool h.lost]++(M9 h.text++(M9 h.line++[h.args,h.items])))
theorem FT (a b:M6) (w:World):Calls Tryz.prog 72 #[.agg (M9 a).toArray,.agg (M9 b).toArray] w (SF w (LF a b) λm=>.agg (M9 m).toArray):=by
 obtain ⟨r,hr⟩:=eX (Di a b)
 unfold LF
 rw [<- hr]
 refine Av func72 rfl ntmps72 ?_
 have X:=DR w
 refine A5<|D5 rfl rfl (λb1 ae Y j D aa=>?_)
 have a0:=uB X Y D
 refine D5 rfl rfl (λb3 af B k l ab=>?_)
 have a1:=Bx B j.lt
 have C:=j.un l a1
 have a2:=uB a0 B l
 refine C1 Ql rfl (λb7 ag o E d ac=>?_)
 have a3:=Bx o C.lt
 have a4:=C.un d a3
 have F:=Bx o k.lt
 have G:=k.un d F
 have H:=uB a2 o d
 refine A0<|A5<|Ai (BD rfl a4 DM rfl CY)<|Ai (BD rfl G DM rfl CY)<|As (RT a b _) (λah q=>?_)
 have s:=E.bl q
 have J:=DN H q
 rw [<- hr]
 simp only [m6R]
 refine A3 rfl<|A1 (.ext rfl rfl)<|A1 (.ext rfl rfl)<|C1 Ql rfl (λai ad t v f a7=>?_)
 have K:=Bx t s.lt
 have L:=s.un f K
 have N:=uB J t f
 refine AH rfl rfl v CY rfl rfl (λaj x g a8=>?_)
 have P:=L.up g
 have e:=CP N oO g
 refine Ab rfl<|A5<|A3 rfl<|By BQ rfl rfl ((Lm _ _)) (λa5 a6 i c=>?_) (λak a6 i c=>?_)
 have u:=EU e (Below.mono c e.size)
 exact AE (BB a5 (Mp i) u)
 have Q:=P.bl c
 have T:=x.bl c
 have U:=DN e c
 refine A0<|A5<|Ai (BD rfl T DM rfl CY)<|AH rfl rfl Q CY rfl rfl (λam y A a9=>?_)
 have V:=CP U oO A
 refine A0<|B2 (Ch rfl rfl (BF y DM rfl CY)  ?_)
 exact Ct.ok _ (by rw [A7 (MZ aS)]) rfl V
theorem A1W (bv:Nat) (H:QA) (x y:Int) (w:World) (h:Be w bv (FA H).toArray 74) :
  Calls Tryz.prog 108 #[ptV bv,Ah x,Ah y] w (SF w (NO H.s.ctm x y) λp=>.agg (D4 p).toArray):=by
 obtain ⟨r,hr⟩:=eX (Gk H.s.ctm x y)
 unfold NO
 rw [<- hr]
 refine Av func108 rfl ntmps108 ?_
 have J:=DR w
 refine A5<|C1 LZ rfl (λb1 a1 l t e Y=>?_)
 have K:=Bx l h.lt
 have N:=h.un e K
 have P:=uB J l e
 refine A0<|A5<|A3 rfl<|A1 (.nck rfl)<|A1 (.fa BW rfl EL dD rfl)<|A1 (.fa Fv rfl HD dD rfl)<|Ai (Cx (L:=Xt) DM rfl CY N (H.s.ctm) (rfl) rfl)<|A3 rfl<|A3 rfl<|?_
 refine A1 (.buildL (ps:=_) LY rfl rfl rfl pS) ?_
 refine As (TT H.s.ctm x y _) (λw5 m=>?_)
 have o:=t.bl m
 have Q:=DN P m
 rw [<- hr]
 simp only [ptR]
 refine A3 rfl<|A1 (.ext rfl rfl)<|A1 (.ext rfl rfl)<|C1 LZ rfl (λb9 a2 q u f a0=>?_)
 have v:=Bx q o.lt
 have A:=o.un f v
 have B:=uB Q q f
 refine AH rfl rfl u Cb rfl rfl (λa3 i c V=>?_)
 have C:=A.up c
 have b:=CP B oO c
 refine Ab rfl<|A5<|A3 rfl<|By BQ rfl rfl ((Lm _ _)) (λT U d a=>?_) (λa4 U d a=>?_)
 have g:=EU b (Below.mono a b.size)
 exact AE (BB T (Mp d) g)
 have D:=C.bl a
 have E:=i.bl a
 have F:=DN b a
 refine A0<|A5<|Ai (BD rfl E CQ rfl Cb)<|AH rfl rfl D Cb rfl rfl (λa5 j k X=>?_)
 have G:=CP F oO k
 refine A0<|B2 (Ch rfl rfl (BF j CQ rfl Cb)  ?_)
 exact Ct.ok _ (by rw [A7 (MZ aS)]) rfl G
end
section
section
variable {P:Program} {n:Sh} {f:Fr}
theorem A87  {Q:Exit->Fr->World->Prop} {rest:List Oper} {ty:Nat} {t:TypeId} {z:Value} {kl kc:IntKind} (j:Nat)
  (ht:P.underlying t=some (.slice e)) (hi:(P.info? e).map (λi=>(i.zero,i.size,i.bytes))=some (some z,1,by')) (hby2:Nat.ble by' 1000=true)
  (hx:D3 f x=some (.int kl 0)) (hy:D3 f y=some (.int kc j)) (hj:j<=100000) (hd:Nat.blt d n.n=true)
  (k:∀ w1,Cq e w.heap.size w1 (.slice (some ⟨w.heap.size,0,none⟩) 0 j) ([]:List Value)->AD w w1->WL P n ops Q rest ((d,.slice (some ⟨w.heap.size,0,none⟩) 0 j)::f) w1) :
  WL P n ops Q (⟨some d,.makeSlice t x y,ty,pos,aft,none⟩::rest) f w:=by
 cases hh:P.info? e with
 | none=>rw [hh] at hi;cases hi
 | some i =>
  rw [hh] at hi;simp only [Option.map_some,Br,CR] at hi;obtain ⟨c,a,g⟩:=hi;have b:i.bytes<=1000:=by rw [g];simpa using hby2
  have hb1:i.bytes * j<=1000 * j:=Cz _ b;obtain ⟨w',l,m,o⟩:=run_make_own (P:=P) (w:=w) w.heap.size t e i z 1 ht hh c a kl kc j oO (by unfold maxLen;omega) (FQ _);refine WL.run hd (λρ hρ=>?_) (k w' m ((Nh _ _).grown o (FQ _) λk hk=>by cases hk));unfold execOp;simp [hρ _ _ hx,hρ _ _ hy,l]
end
theorem A1p (n:Int) (w:World):Calls Tryz.prog 112 #[Ah n] w λe w'=>e=.returned (.tuple #[Ah (IA n).1,Ah (IA n).2])/\w=w':=by
 refine Av func112 rfl ntmps112<|A5<|DA rfl<|Ab rfl<|Aj<|A5<|A3 rfl<|A1 (.lss rfl rfl)<|A3 rfl<|B5 rfl rfl rfl (λa=>?_) (λa=>?_)
 have c:=dF a
 refine A3 rfl<|Au a<|A1 (.gtr rfl rfl)<|A1 (.pkF rfl a rfl)<|A0<|Ae rfl (λb=>?_) (λb=>?_)
 have d:=dT b
 refine A5<|DA rfl<|Ab rfl<|B2 (EG rfl rfl rfl ?_)
 first
 | exact ⟨rvE (by rw [show IA n=(n * 65536,0) from A2 oO]),rfl⟩
 | exact ⟨rvE (by rw [show IA n=(0,11) from A7 oO]),rfl⟩
 have d:=dF b
 refine Ap<|A5<|A3 rfl<|A1 (.mul rfl rfl (Bn oO))<|DA rfl<|Ab rfl<|B2 (EG rfl rfl rfl ?_)
 first
 | exact ⟨rvE (by rw [show IA n=(n * 65536,0) from A2 oO]),rfl⟩
 | exact ⟨rvE (by rw [show IA n=(0,11) from A7 oO]),rfl⟩
 have c:=dT a
 refine Ac a<|A1 (.pkT rfl a rfl)<|A0<|E3 rfl rfl<|A5<|DA rfl<|Ab rfl<|B2 (EG rfl rfl rfl ?_)
 first
 | exact ⟨rvE (by rw [show IA n=(n * 65536,0) from A2 oO]),rfl⟩
 | exact ⟨rvE (by rw [show IA n=(0,11) from A7 oO]),rfl⟩
def Ha (k n:Int):Int × Bool:=if k=3 then (n,Am n) else if k=2 then ((IA n).1,decide ((IA n).2=0)) else (0,false)
theorem Pt (o:PV):Ha (ND o) (Xs o)=EE o:=rfl
theorem Kg (x:PC) (w:World):C9 84 #[.agg (pcV x).toArray] w (.tuple #[Ah (Ha x.kind x.n).1,.bool (Ha x.kind x.n).2]):=by
 obtain ⟨k,n,t,kp,kl,kc,lp,ll,lc⟩:=x
 simp only [pcV]
 refine Av func84 rfl ntmps84 ?_
 have j:=DR w
 refine A5<|D5 rfl rfl (λl m o a f C=>?_)
 have c:=uB j o f
 refine DA rfl<|Ab rfl<|Aj<|A5<|A1 (.fa CO rfl B6 dD rfl)<|Ai (Af (BE _) rfl a rfl)<|A0<|AU<|A5<|A1 (.eql rfl rfl)<|Ab rfl<|Ae rfl (λg=>?_) (λg=>?_)
 have q:=dT g
 refine Aj<|DD 7 rfl Ci (λw'=>w'.heap[l]?=m.heap[l]?/\True) (λD d=>?_)
 have s:=a.drew d
 have u:=Df.below c d
 have b:=Dr (s.trans a.symm) BO
 refine Aa 0 rfl (.fa CO rfl B6 dD rfl) b ?_
 refine C8 1 rfl (λw' hw'=>Af (BE _) rfl ((hw'.1).trans a) rfl) b rfl ?_
 refine Aa 2 rfl (.fa CO rfl B6 dD rfl) b ?_
 refine C8 3 rfl (λw' hw'=>Af (BE _) rfl ((hw'.1).trans a) rfl) b rfl ?_
 refine Aq 4 rfl<|As (Jd _ _) (λE v=>?_)
 obtain rfl:=v
 refine A0<|⟨b,?_⟩
 refine Aa 5 rfl (.as rfl) b ?_
 refine Aa 6 rfl (.as rfl) b ?_
 refine Bl kR<|B2 (EG rfl rfl rfl ?_)
 exact ⟨Dc (by unfold Ha;rw [A7 aS];(first | done | rfl)),u⟩
 have q:=dF g
 refine A5<|A1 (.eql rfl rfl)<|Ab rfl<|Ae rfl (λi=>?_) (λi=>?_)
 have y:=dT i
 refine A5<|A1 (.fa CO rfl B6 dD rfl)<|Ai (Af (BE _) rfl a rfl)<|As (A1p _ _) (λF B=>?_)
 obtain rfl:=B
 refine A3 rfl<|A1 (.ext rfl rfl)<|A1 (.ext rfl rfl)<|DA rfl<|Ab rfl<|A5<|A3 rfl<|A3 rfl<|A1 (.eql rfl rfl)<|DA rfl<|Ab rfl<|B2 (EG rfl rfl rfl ?_)
 exact ⟨Dc (by unfold Ha;rw [A2 aS,A7 aS];(first | done | rfl)),c⟩
 have y:=dF i
 refine Ap<|A5<|DA rfl<|Ab rfl<|B2 (EG rfl rfl rfl ?_)
 exact ⟨Dc (by unfold Ha;rw [A2 aS,A2 aS];(first | done | rfl)),c⟩
theorem Ea {b:Bool} {u:Unit} (h:CS b=.ok u):b=true:=by
 unfold CS at h;split at h
 · assumption
 · cases h
theorem Dl {b:Bool} {k:Int} (h:CS b=.error k):b=false/\k=22:=by
 unfold CS at h;split at h
 · cases h
 · rename_i hb;cases h;exact ⟨by simpa using hb,rfl⟩
theorem A1M  {C:Nat} {l:List Value} (h:Cq e B w v l) (hC:C<=B):Cq e C w v l:=by
 rcases h with ⟨hl,h⟩
 refine ⟨hl,?_⟩
 rcases h with h | ⟨g,cap,cur,a,b,c⟩
 · exact .inl h
 · exact .inr ⟨g,cap,cur,a,BA hC b,c⟩
theorem Cq.ltV  (h:Cq e B w v xs):∀ g,v.ownBlock=some g->B<=g/\g<w.heap.size:=λg hg=>by
 rcases h with ⟨hl,h⟩
 rcases h with ⟨rfl,-⟩ | ⟨g1,cap,cur,rfl,h2,h3,-⟩
 · cases hg
 ·
  cases hg
  exact ⟨h2,(BJ.1 h3).1⟩
theorem Cq.upd  {r:Nat} (h:Cq e B w v xs) (hu:E6 r w w1) (hr:∀ g,v.ownBlock=some g->g≠r):Cq e B w1 v xs:=by
 rcases h with ⟨hl,h⟩
 refine ⟨hl,?_⟩
 rcases h with h | ⟨a,cap,cur,rfl,b,c,d⟩
 · exact .inl h
 · exact .inr ⟨a,cap,cur,rfl,b,(hu.other a (hr a rfl)).trans c,d⟩
def RG (cs:List PC) (n:Nat):Except Int (List Int):=if cs.length=n/\cs.all (λx=>(Ha x.kind x.n).2)=true then .ok (cs.map λx=>(Ha x.kind x.n).1) else .error 22
theorem Xw (bv n:Nat) (H:QA) (p:Option Addr) (cs:List PC) (c:Nat) (w:World) (h:Be w bv (FA H).toArray 74) (ha:H.args=.slice p cs.length c) (hr:Bi NF w p cs) (hn:n<=100) (hl:cs.length<=100) :
  Calls Tryz.prog 54 #[ptV bv,Ah (n:Int)] w (HO 30 (RG cs n) (λl v w'=>AD w w'/\AJ QM 3 w.heap.size w' v l) (λw'=>AD w w')):=by
 obtain ⟨s,fo,sa,pa,cl,it,lo,te,li,ar,its⟩:=H
 simp only at ha
 subst ha
 have ad:=hr.lt
 refine Av func54 rfl ntmps54 ?_
 have G:=DR w
 refine A5<|Ab rfl<|A5<|A3 rfl<|A1 (.nck rfl)<|A1 (.fa BW rfl F8 dD rfl)<|Ai (Af (He _) rfl h rfl)<|A1 (.lenS Fi rfl)<|A3 rfl<|A1 (.eql rfl rfl)<|By BQ rfl rfl ((Dn _ _)) (λk3 w1 u d=>?_) (λa2 w1 u d=>?_)
 have T:=EU G (Below.mono d G.size)
 obtain ⟨d,rfl⟩:=Dl u
 exact AE (DG 22 (by unfold RG;rw [A2 (λhc=>by simp only [Aw] at d;exact d oO)]) T)
 have aa:=h.bl d
 have ab:=Is hr d (λa=>hr.lt a)
 have ac:=DN G d
 have aB:cs.length=n:=by (have:=Ea u);simp only [Ad] at this;omega
 refine A0<|A5<|A3 rfl<|?_
 have U:=ac.size
 refine A87 (n) Dm Wy rfl rfl rfl oO rfl (λw7 ae y=>?_)
 have aC:=aa.below y aa.lt
 have aD:=Is ab y (λa=>ab.lt a)
 have af:=DN ac y
 refine Ab rfl<|Aj<|A5<|A3 rfl<|A1 (.nck rfl)<|A1 (.fa BW rfl F8 dD rfl)<|Ai (Af (He _) rfl aC rfl)<|A1 (.lenS Fi rfl)<|A3 rfl<|A0<|AU<|Cf (α:=Value × Nat) (λt=>[(0,ptV bv),(5,t.1),(23,.slice p cs.length c),(24,Ah (cs.length:Int)),(25,Ah (t.2:Int))]) (λt w'=>AD w w'/\Bi NF w' p cs/\Cq 3 w.heap.size w' t.1 (((cs.take t.2).map λx=>(Ha x.kind x.n).1).map E5)/\t.2<=cs.length/\∀ j (h:j<cs.length),j<t.2->(Ha cs[j].kind cs[j].n).2=true) (λt=>cs.length-t.2) ((_,0)) ⟨rfl,rfl,rfl,rfl,rfl,tT⟩ (⟨af,aD,A1M ae U,G8 _,λj _ h=>D6 h oO⟩) (λt w1 hR=>?_)
 obtain ⟨⟨sv,i⟩,aE⟩:=eX t
 subst aE
 obtain ⟨q1,V,X,q4,q5⟩:=hR
 simp only at X q4 q5
 have ag:w.heap.size<=w1.heap.size:=q1.size
 have ah:=Cq.ltV X
 refine A5<|A1 (.lss rfl rfl)<|A0<|Aj<|Ae rfl (λJ=>?_) (λJ=>?_)
 have ai:=dT J
 refine Ap<|Aj<|AU<|A5<|A1 (.ixm Fi II rfl rfl (V.isp oO) (i) (rfl) oO)<|Ai (Dy CO rfl Bb V (i) oO rfl)<|C1 JE rfl (λaP aN B Y f aJ=>?_)
 have a0:=BA ag f.size
 have aj:=Cq.new X B f
 have E:=λa=>B▸V.lt a
 have ak:=Bi.upd V f (λa=>IU (E a))
 have am:=uB q1 B f
 refine AH rfl rfl Y Bb rfl rfl (λaQ a1 k aK=>?_)
 have a3:=BA a0 k.size
 have an:=Cq.upd aj k ((λg hg e=>by have:=(ah g hg).2;omega))
 have K:=Bi.upd ak k (λa=>IU (E a))
 have ao:=CP am oO k
 refine A0<|A5<|Ai (BD rfl a1 CO rfl Bb)<|As (Kg cs[i] _) (λaR o=>?_)
 have a4:=BA a3 o.size
 have ap:=Cq.below an o
 have L:=Is K o (λa=>K.lt a)
 have C:=DN ao o
 refine A3 rfl<|A1 (.ext rfl rfl)<|A1 (.ext rfl rfl)<|DA rfl<|Ab rfl<|A5<|A3 rfl<|By BQ rfl rfl ((Dn _ _)) (λaS aF q b=>?_) (λaT aF q b=>?_)
 have N:=EU C (Below.mono b C.size)
 obtain ⟨aG,rfl⟩:=Dl q
 exact AE (DG 22 (by unfold RG;rw [A2 (λhc=>by have:=At.1 hc.2 _ (AM (by omega:i<cs.length));rw [aG] at this;cases this)]) N)
 have a5:=BA a4 b.size
 have aq:=Cq.below ap b
 have P:=Is L b (λa=>L.lt a)
 have au:=DN C b
 have aH:=Ea q
 refine A0<|Ak<|A3 rfl<|A3 rfl<|CF (ps:=_) Dm B6 PM rfl rfl rfl rfl rfl pR rfl (λaU aO D a6 m aL=>?_)
 have a7:=BA a5 m.size
 have av:=Cq.new aq D m
 have a8:=λa=>D▸P.lt a
 have aw:=Bi.upd P m (λa=>IU (a8 a))
 have ax:=uB au D m
 refine EP Dm Wy rfl rfl rfl av rfl a6 rfl (by rw [B0,B0,AT];omega) (a7) rfl (λaV aW a9 F aM=>?_)
 have ay:=Is aw F ad
 have az:=EU ax (F.mono (FQ _))
 refine Ab rfl<|Ak<|A1 (.iis (((i+1:Nat):Int)) (.add rfl rfl (Bn oO)) oO)<|A3 rfl<|A0<|?_
 exact ⟨(_,i+1),⟨rfl,rfl,rfl,rfl,rfl,tT⟩,⟨az,ay,by rw [Bd oO,Bp,Bp];exact a9,oM,λj h hj=>by
  rcases Cp.1 hj with h2 | rfl;exact q5 j h h2;exact aH⟩,oM⟩
 have ai:=dF J
 refine C7<|A5<|A3 rfl<|Ab rfl<|AI ?_
 have aA:i=cs.length:=by omega
 subst aA
 have aI:RG cs n=.ok (cs.map λx=>(Ha x.kind x.n).1):=by
  unfold RG;rw [A7 ⟨aB,At.2 λx hx=>by
   obtain ⟨j,hj,rfl⟩:=List.mem_iff_getElem.1 hx;exact q5 j hj hj⟩]
 have Q:=X
 rw [AR (FQ _)] at Q
 exact GX _ _ aI rfl ⟨q1,AJ.ofI Q⟩
end
section
theorem IW  {g:α->List β} {l:List α} (h:i<l.length):(l.take (i+1)).flatMap g=(l.take i).flatMap g++g l[i]:=by
 rw [List.take_add_one,A6 h,Option.toList_some,List.flatMap_append];simp
theorem KQ (n:Int) (h:Am n=true):(DC n).length<=60:=by
 have:=W4 n
 rw [BR,Pv h] at this;exact this
theorem CW:∀ l:List Int,(∀ n∈l,Am n=true)->(F3 l).length<=61 * l.length
 | [],_=>by simp [F3]
 | n::l,h=>by
  have h1:=CW l λm hm=>h m (by simp [hm])
  have h2:=KQ n (h n (by simp))
  unfold F3 at *
  simp only [CG,A9,A8,Ag];omega
theorem Ic (p:Option Addr) (l:List Int) (c:Nat) (w:World) (hr:AZ E5 w p l) (hl:l.length<=6) (hf:∀ n∈l,Am n=true) :
  C9 29 #[.slice p l.length c] w (.string (bs (F3 l))):=by
 have g:0<l.length->(pA p).block<w.heap.size:=λx=>hr.lt x
 refine Av func29 rfl ntmps29 ?_
 have j:=DR w
 refine A5<|Ab rfl<|A5<|Ab rfl<|Aj<|A5<|Ab rfl<|AU<|Cf (α:=Nat) (λt=>[(0,.slice p l.length c),(3,.string (bs (F3 (l.take t)))),(4,Ah (t:Int))]) (λt w'=>AD w w'/\t<=l.length) (λt=>l.length-t) (0) ⟨rfl,rfl,rfl,tT⟩ (⟨j,G8 _⟩) (λt y hR=>?_)
 obtain ⟨i,rfl⟩:=eX t
 obtain ⟨hT,hi⟩:=hR
 have b:=hr.below hT g
 have k:=CW (l.take i) (λm hm=>hf m (DK hm))
 rw [AT] at k
 refine Aj<|A5<|A3 rfl<|A3 rfl<|A1 (.lenS Dm rfl)<|A1 (.lss rfl rfl)<|A0<|Ae rfl (λf=>?_) (λf=>?_)
 have o:=dT f
 have a:i<l.length:=by omega
 have d:=hf _ (AM a)
 have A:=KQ _ d
 have s:F3 (l.take (i+1))=F3 (l.take i)++DC l[i]++[32]:=by rw [AB];exact IW a
 refine Ap<|Aj<|AU<|Ak<|A3 rfl<|A3 rfl<|A3 rfl<|A1 (.ixb Dm B6 rfl rfl (b.isp oO) (i) (rfl) oO)<|Ai (AS (BE _) rfl (b.cells (i) oO))<|As (by have q:=TD l[i] y;rw [Pv d] at q;exact q) (λB u=>?_)
 have v:=DN hT u
 refine A1 (.cat rfl rfl oO)<|A1 (.sis (F3 (l.take (i+1))) (.cat rfl rfl oF) (by exact s.symm))<|Ab rfl<|Ak<|A3 rfl<|A1 (.iis (((i+1:Nat):Int)) (.add rfl rfl (Bn oO)) oO)<|Ab rfl ?_
 exact ⟨i+1,⟨rfl,rfl,rfl,tT⟩,⟨v,oM⟩,oM⟩
 have o:=dF f
 have a:i=l.length:=by omega
 refine C7<|A5<|A3 rfl<|Ab rfl<|AI ?_
 exact ⟨by rw [a,Ca],hT⟩
theorem A6I:(Tryz.prog.info? 92).map (·.size)=some 6:=by kernel_rfl
def A7e:Fq Cm:=⟨6,Y8,dD,λ_=>rfl,λx u hu=>At.1 (show (Y8 x).all Value.oneCell'=true from rfl) u hu⟩
theorem VJ {s:Cm} (h:Te s last):(Nc s).length<=400:=by
 have a:=(Gf h).1
 have b:=CW _ a
 have c:(FK (Ez s)).length<=6:=by unfold Ez FK;split;simp;split <;> simp
 have d:(GT s).length=1:=by unfold GT;split;rfl;split;rfl;split <;> rfl
 unfold Nc CX
 simp only [A9,A8,Ag];omega
theorem KU:∀ (l:List Cm) (last:Int),DE last l=true->(Ed l).length<=400 * l.length
 | [],_,_=>by simp [Ed]
 | s::l,last,h=>by
  unfold DE at h
  rw [A4] at h
  have h1:=KU l _ h.2
  have h2:=VJ (A0u h.1)
  unfold Ed at *
  simp only [CG,A9,A8];omega
theorem HI  {b:Nat} {t:TypeId} {s:Cm} (h:Be w b (A7e.V s).toArray t):Bi Ep w (some ⟨b,0,none⟩) [s.fP_0,s.fP_1,s.fP_2]:=by
 refine Gl (λ_=>rfl) λk v hk=>?_
 show w.cell? ((⟨b,0,none⟩:Addr).add k)=_
 rw [add_lit,Ey,h.cell]
 simpa [Fq.flat,A7e,Y8,Ep] using hk
theorem Uv {s:Cm} (h:s.fKind=1):Ez s=[s.fP_0]:=A7 (.inl h)
theorem Uu {s:Cm} (h:s.fKind=2):Ez s=[s.fP_0]:=A7 (.inr h)
theorem Ut {s:Cm} (h:s.fKind=3):Ez s=[s.fP_0,s.fP_1,s.fP_2]:=by unfold Ez;rw [A2 oO,A7 h]
theorem A58 {s:Cm} (h:s.fKind=1):GT s=[109]:=A7 h
theorem A57 {s:Cm} (h:s.fKind=2):GT s=[108]:=by unfold GT;rw [A2 oO,A7 h]
theorem A56 {s:Cm} (h:s.fKind=3):GT s=[99]:=by unfold GT;rw [A2 oO,A2 oO,A7 h]
theorem A75 {s:Cm} (hk:Te s last) (h1:¬ s.fKind=1) (h2:¬ s.fKind=2) (h3:¬ s.fKind=3):Nc s=[104,10]:=by
 unfold Nc Ez GT
 rw [A2 oO,A2 h3,A2 h1,A2 h2,A2 h3];rfl
theorem Us:∀ (l:List Cm) (last:Int),DE last l=true->∀ i (h:i<l.length),∃ k,Te l[i] k
 | s::l,last,h,0,_=>by
  unfold DE at h
  rw [A4] at h
  exact ⟨last,A0u h.1⟩
 | s::l,last,h,i+1,hi=>by
  unfold DE at h
  rw [A4] at h
  exact Us l _ h.2 i (by simpa using hi)
theorem Tz:∀ (l:List Cm) (last:Int) (i:Nat),DE last l=true->DE last (l.take i)=true
 | [],_,i,_=>by simp [DE]
 | s::l,last,0,_=>by simp [DE]
 | s::l,last,i+1,h=>by
  unfold DE at h
  rw [A4] at h
  rw [List.take_succ_cons]
  unfold DE
  rw [h.1,Tz l _ i h.2];rfl
theorem VV (p:Option Addr) (l:List Cm) (c:Nat) (w:World) (hr:Bi EX w p l) (hl:l.length<=4096) (hs:DE 0 l=true) :
  Calls Tryz.prog 26 #[.slice p l.length c] w λe w'=>∃ x:Option Addr × Nat,e=.returned (.slice x.1 (Ed l).length x.2)/\AD w w'/\Ay w' x.1 (Ed l)/\(Ed l).length<=x.2/\(Ed l=[]->x.2=0\/x.1≠none):=by
 have an:0<l.length->(pA p).block<w.heap.size:=λk=>hr.lt k
 refine Av func26 rfl ntmps26 ?_
 have ao:=DR w
 refine A5<|Ab rfl<|A5<|Ab rfl<|Aj<|A5<|Ab rfl<|AU<|Cf (α:=Nat × Value) (λt=>[(0,.slice p l.length c),(3,t.2),(4,Ah (t.1:Int))]) (λt w'=>AD w w'/\t.1<=l.length/\Cq 5 w.heap.size w' t.2 (Az (Ed (l.take t.1)))) (λt=>l.length-t.1) ((0,.slice none 0 0)) ⟨rfl,rfl,rfl,tT⟩ (⟨ao,G8 _,Cq.nil _ _ _⟩) (λt w1 hR=>?_)
 obtain ⟨⟨i,v3⟩,ap⟩:=eX t
 subst ap
 obtain ⟨hT,hi,ho⟩:=hR
 simp only at hi ho
 have m:=hr.below hT an
 have aq:=KU (l.take i) 0 (Tz l 0 i hs)
 rw [AT] at aq
 have a1:=hT.size
 refine Aj<|A5<|A3 rfl<|A3 rfl<|A1 (.lenS Fk rfl)<|A1 (.lss rfl rfl)<|A0<|Ae rfl (λh1=>?_) (λh1=>?_)
 have ar:=dT h1
 have o:i<l.length:=by omega
 obtain ⟨lk,hk⟩:=Us l 0 hs i o
 have aO:=VJ hk
 have au:=Gf hk
 have av:Ed (l.take (i+1))=Ed (l.take i)++Nc l[i]:=IW o
 have b:∀ (n:Int),n∈FK (Ez l[i])->Am n=true:=au.1
 refine Ap<|Aj<|AU<|A5<|A3 rfl<|A3 rfl<|A1 (.ixm Fk K5 rfl rfl (m.isp oO) (i) (rfl) oO)<|A1 (.fa I3 rfl Ux dD rfl)<|Ai (A8b (L':=A7e) K4 rfl A6I m (i) oO 1 (l[i]) (rfl) rfl)<|C1 zeroValue92 rfl (λb2 aP s a2 d aJ=>?_)
 have a3:=BA a1 d.size
 have aw:=Cq.new ho s d
 have B:=λk=>s▸m.lt k
 have ax:=Bi.upd m d (λk=>IU (B k))
 have ay:=uB hT s d
 have aD:=DW s hT.size
 refine AH rfl rfl a2 A6I rfl rfl (λw8 a f aK=>?_)
 have aE:=BA a3 f.size
 have u:=Cq.upd aw f ((λg hg e=>by have:=Cq.ltV ho g hg;omega))
 have C:=Bi.upd ax f (λk=>IU (B k))
 have j:=CP ay oO f
 refine A0<|A5<|Ab rfl<|De (α:=Unit) (λt=>[(0,.slice p l.length c),(3,v3),(4,Ah (i:Int)),(6,.string (bs (Nc l[i])))]) (λt w'=>AD w w'/\Cq 5 w.heap.size w' v3 (Az (Ed (l.take i)))) ?_ (λt w1 hR=>?_)
 refine A5<|A3 rfl<|A3 rfl<|A1 (.ixm Fk K5 rfl rfl (C.isp oO) (i) (rfl) oO)<|A1 (.fa I3 rfl B6 dD rfl)<|Ai (AS (BE _) rfl ((C.field (i) oO 0 dD).trans rfl))<|A0<|AU<|A5<|A1 (.eql rfl rfl)<|Ab rfl<|Ae rfl (λD=>?_) (λD=>?_)
 have a4:=dT D
 refine Ak<|A1 (.ixr K4 Fa rfl rfl (0) (rfl) dD)<|A1 (.fa CQ rfl B6 dD rfl)<|Ai (Rd.iis (l[i].fP_0.fX) (AS (BE _) rfl (((HI a).field (0) (by (simp only [A8,Ag];omega)) 0 dD).trans rfl)) (by rfl))<|A1 (.ixr K4 Fa rfl rfl (0) (rfl) dD)<|A1 (.fa CQ rfl B6 dD rfl)<|Ai (Rd.iis (l[i].fP_0.fY) (AS (BE _) rfl (((HI a).field (0) (by (simp only [A8,Ag];omega)) 1 dD).trans rfl)) (by rfl))<|CF (ps:=_) Dm B6 PM rfl rfl rfl rfl rfl pR rfl (λaQ aL E P v aF=>?_)
 have a5:=Cq.new u E v
 have a6:=uB j E v
 have hq:=AZ.lit (V:=E5) (l:=[l[i].fP_0.fX,l[i].fP_0.fY]) P (rfl)
 refine WL.c1 BQ rfl rfl ((Ic _ [l[i].fP_0.fX,l[i].fP_0.fY] _ _ hq oE (λn hn=>b n (by rw [Uv aS];exact hn)))) (λaR F=>?_)
 have a7:=Cq.below a5 F
 have a8:=DN a6 F
 refine A1 (.sis (Nc l[i]) (.cat rfl rfl (by have q:=CW [l[i].fP_0.fX,l[i].fP_0.fY] (λn hn=>b n (by rw [Uv aS];exact hn));simp only [A8,Ag] at *;omega)) (by unfold Nc;rw [Uv aS,A58 aS];rfl))<|Ab rfl ?_
 exact ⟨(),⟨rfl,rfl,rfl,rfl,tT⟩,a8,a7⟩
 have a4:=dF D
 refine A5<|A1 (.eql rfl rfl)<|Ab rfl<|Ae rfl (λG=>?_) (λG=>?_)
 have a9:=dT G
 refine Ak<|A1 (.ixr K4 Fa rfl rfl (0) (rfl) dD)<|A1 (.fa CQ rfl B6 dD rfl)<|Ai (Rd.iis (l[i].fP_0.fX) (AS (BE _) rfl (((HI a).field (0) (by (simp only [A8,Ag];omega)) 0 dD).trans rfl)) (by rfl))<|A1 (.ixr K4 Fa rfl rfl (0) (rfl) dD)<|A1 (.fa CQ rfl B6 dD rfl)<|Ai (Rd.iis (l[i].fP_0.fY) (AS (BE _) rfl (((HI a).field (0) (by (simp only [A8,Ag];omega)) 1 dD).trans rfl)) (by rfl))<|CF (ps:=_) Dm B6 PM rfl rfl rfl rfl rfl pR rfl (λaT aM H Q y aG=>?_)
 have aa:=Cq.new u H y
 have ab:=uB j H y
 have hq:=AZ.lit (V:=E5) (l:=[l[i].fP_0.fX,l[i].fP_0.fY]) Q (rfl)
 refine WL.c1 BQ rfl rfl ((Ic _ [l[i].fP_0.fX,l[i].fP_0.fY] _ _ hq oE (λn hn=>b n (by rw [Uu aS];exact hn)))) (λaU J=>?_)
 have ac:=Cq.below aa J
 have ad:=DN ab J
 refine A1 (.sis (Nc l[i]) (.cat rfl rfl (by have q:=CW [l[i].fP_0.fX,l[i].fP_0.fY] (λn hn=>b n (by rw [Uu aS];exact hn));simp only [A8,Ag] at *;omega)) (by unfold Nc;rw [Uu aS,A57 aS];rfl))<|Ab rfl ?_
 exact ⟨(),⟨rfl,rfl,rfl,rfl,tT⟩,ad,ac⟩
 have a9:=dF G
 refine A5<|A1 (.eql rfl rfl)<|Ab rfl<|Ae rfl (λK=>?_) (λK=>?_)
 have ae:=dT K
 refine Ak<|A1 (.ixr K4 Fa rfl rfl (0) (rfl) dD)<|A1 (.fa CQ rfl B6 dD rfl)<|Ai (Rd.iis (l[i].fP_0.fX) (AS (BE _) rfl (((HI a).field (0) (by (simp only [A8,Ag];omega)) 0 dD).trans rfl)) (by rfl))<|A1 (.ixr K4 Fa rfl rfl (0) (rfl) dD)<|A1 (.fa CQ rfl B6 dD rfl)<|Ai (Rd.iis (l[i].fP_0.fY) (AS (BE _) rfl (((HI a).field (0) (by (simp only [A8,Ag];omega)) 1 dD).trans rfl)) (by rfl))<|A1 (.ixr K4 Fa rfl rfl (1) (rfl) dD)<|A1 (.fa CQ rfl B6 dD rfl)<|Ai (Rd.iis (l[i].fP_1.fX) (AS (BE _) rfl (((HI a).field (1) (by (simp only [A8,Ag];omega)) 0 dD).trans rfl)) (by rfl))<|A1 (.ixr K4 Fa rfl rfl (1) (rfl) dD)<|A1 (.fa CQ rfl B6 dD rfl)<|Ai (Rd.iis (l[i].fP_1.fY) (AS (BE _) rfl (((HI a).field (1) (by (simp only [A8,Ag];omega)) 1 dD).trans rfl)) (by rfl))<|A1 (.ixr K4 Fa rfl rfl (2) (rfl) dD)<|A1 (.fa CQ rfl B6 dD rfl)<|Ai (Rd.iis (l[i].fP_2.fX) (AS (BE _) rfl (((HI a).field (2) (by (simp only [A8,Ag];omega)) 0 dD).trans rfl)) (by rfl))<|A1 (.ixr K4 Fa rfl rfl (2) (rfl) dD)<|A1 (.fa CQ rfl B6 dD rfl)<|Ai (Rd.iis (l[i].fP_2.fY) (AS (BE _) rfl (((HI a).field (2) (by (simp only [A8,Ag];omega)) 1 dD).trans rfl)) (by rfl))<|CF (ps:=_) Dm B6 PM rfl rfl rfl rfl rfl pR rfl (λaV aN L T A aH=>?_)
 have af:=Cq.new u L A
 have ag:=uB j L A
 have hq:=AZ.lit (V:=E5) (l:=[l[i].fP_0.fX,l[i].fP_0.fY,l[i].fP_1.fX,l[i].fP_1.fY,l[i].fP_2.fX,l[i].fP_2.fY]) T (rfl)
 refine WL.c1 BQ rfl rfl ((Ic _ [l[i].fP_0.fX,l[i].fP_0.fY,l[i].fP_1.fX,l[i].fP_1.fY,l[i].fP_2.fX,l[i].fP_2.fY] _ _ hq oE (λn hn=>b n (by rw [Ut aS];exact hn)))) (λaW N=>?_)
 have ah:=Cq.below af N
 have ai:=DN ag N
 refine A1 (.sis (Nc l[i]) (.cat rfl rfl (by have q:=CW [l[i].fP_0.fX,l[i].fP_0.fY,l[i].fP_1.fX,l[i].fP_1.fY,l[i].fP_2.fX,l[i].fP_2.fY] (λn hn=>b n (by rw [Ut aS];exact hn));simp only [A8,Ag] at *;omega)) (by unfold Nc;rw [Ut aS,A56 aS];rfl))<|Ab rfl ?_
 exact ⟨(),⟨rfl,rfl,rfl,rfl,tT⟩,ai,ah⟩
 have ae:=dF K
 refine Ap ?_
 exact ⟨(),⟨rfl,rfl,rfl,by rw [A75 hk aS aS aS];rfl,tT⟩,j,u⟩
 obtain ⟨Y,az⟩:=hR
 have aj:=Y.size
 refine Ak<|A3 rfl<|A3 rfl<|GF BI JK GB rfl az rfl (by simp only [Bc];omega) (aj) rfl (λaX aY U X aI=>?_)
 have ak:=EU Y (X.mono (FQ _))
 have am:=Cq.cat U
 refine Ab rfl<|Ak<|A3 rfl<|A1 (.iis (((i+1:Nat):Int)) (.add rfl rfl (Bn oO)) oO)<|Ab rfl ?_
 have a0:=am
 rw [<- av] at a0
 exact ⟨(i+1,_),⟨rfl,rfl,rfl,tT⟩,⟨ak,oM,a0⟩,oM⟩
 have ar:=dF h1
 have o:i=l.length:=by omega
 refine C7<|A5<|A3 rfl<|Ab rfl<|AI ?_
 obtain ⟨pb,cb,evb,aA,-,aB,aC⟩:=LN (l:=Ed l) (by have h:=ho;rw [o,Ca] at h;exact h)
 subst evb
 exact ⟨(pb,cb),rfl,hT,aA,aB,aC⟩
theorem A6S:Tryz.prog.built 37 [(0,Ah 1)]=some (DV (MC 1)).toArray:=by kernel_rfl
theorem A9i:Tryz.prog.built 41 [(0,Ah 65536),(3,Ah 655360)]=some (Ex Vp.s.pen).toArray:=by kernel_rfl
def Rb (s:SD):List Value:=DV s.fill++DV s.stroke++Ex s.pen
theorem A9h:Tryz.prog.built 80 [(0,.agg (DV (MC 1)).toArray),(1,.agg (DV (MC 1)).toArray),(2,.agg (Ex Vp.s.pen).toArray)]=some (Rb so0).toArray:=by kernel_rfl
theorem TF (w:World):C9 24 #[] w (.agg (Rb so0).toArray):=by
 refine Av func24 rfl ntmps24 ?_
 have f:=DR w
 refine A5<|C1 zeroValue80 rfl (λo m g a b k=>?_)
 have i:=uB f g b
 refine A0<|?_
 refine A5<|A1 (.build rfl A6S) ?_
 refine A1 (.build rfl A6S) ?_
 refine A1 (.build rfl A9i) ?_
 refine A1 (.build rfl A9h) ?_
 refine AH rfl rfl a Q8 rfl rfl (λq c d l=>?_)
 have j:=CP i oO d
 refine A0<|B2 (Ch rfl rfl (BF c Uo rfl Q8)  ?_)
 exact ⟨rfl,j⟩
theorem A67 {c:Cj} (h:Tg c) (hi:(i:Int)<c.fSpace):i<(Cy c).length/\i<(Js c).length:=by
 have a:(Cy c).length=4:=rfl
 have hs:c.fSpace=1\/c.fSpace=3\/c.fSpace=4:=by rcases h.sp with h | h | h;exact .inl h.1;exact .inr (.inl h.1);exact .inr (.inr h)
 refine ⟨oO,?_⟩
 unfold Js
 rw [AT];omega
theorem A3Y {c:Cj} (h1:i<(Cy c).length) (h2:i<(Js c).length):(Js c)[i]=(Cy c)[i]:=List.getElem_take
theorem A3Z {c:Cj} (h:Tg c):(Js c).length=c.fSpace.toNat:=by
 have a:(Cy c).length=4:=rfl
 have hs:c.fSpace=1\/c.fSpace=3\/c.fSpace=4:=by rcases h.sp with h | h | h;exact .inl h.1;exact .inr (.inl h.1);exact .inr (.inr h)
 unfold Js
 rw [AT];omega
def Ox (big:Bool):List (l8_):=if big then [[],[71,10],[],[82,71,10],[75,10]] else [[],[103,10],[],[114,103,10],[107,10]]
theorem A2Z (big:Bool) {n:Int} (h:n=1\/n=3\/n=4) (hn:n.toNat<(Ox big).length):(Ox big)[n.toNat]=Lb big n++[10]:=by
 cases big <;> rcases h with rfl | rfl | rfl <;> rfl
theorem TN (big:Bool) (k:Nat) (hk:k<(Ox big).length):(Ox big)[k].length<=3:=by
 have h:∀ x∈Ox big,x.length<=3:=by cases big <;> decide
 exact h _ (AM hk)
theorem X5 (big:Bool) {c:Cj} (h:c.fSpace=1\/c.fSpace=3\/c.fSpace=4) (hn:c.fSpace.toNat<(Ox big).length):F3 (Js c)++(Ox big)[c.fSpace.toNat]'hn=OW big c:=by
 rw [A2Z big h hn];rfl
theorem TG (c:Cj) (big:Bool) (w:World) (hc:Tg c) :
  C9 27 #[.agg (DV c).toArray,.bool big] w (.string (bs (OW big c))):=by
 have j:=(IN hc).1
 have al:=A3Z hc
 have hs:c.fSpace=1\/c.fSpace=3\/c.fSpace=4:=by rcases hc.sp with h | h | h;exact .inl h.1;exact .inr (.inl h.1);exact .inr (.inr h)
 refine Av func27 rfl ntmps27 ?_
 have H:=DR w
 refine A5<|D5 rfl rfl (λb1 am J P Q ah=>?_)
 have a2:=uB H J Q
 have ad:=DW J H.size
 refine Ab rfl<|A5<|Ab rfl<|Aj<|A5<|Ab rfl<|AU<|Cf (α:=Nat) (λt=>[(1,.bool big),(2,ptV b1),(5,.string (bs (F3 ((Js c).take t)))),(6,Ah (t:Int))]) (λt w'=>AD w w'/\Be w' b1 (DV c).toArray 37/\(t:Int)<=c.fSpace) (λt=>c.fSpace.toNat-t) (0) ⟨rfl,rfl,rfl,rfl,tT⟩ (⟨a2,P,oO⟩) (λt w1 hR=>?_)
 obtain ⟨i,rfl⟩:=eX t
 obtain ⟨hT,a,hi⟩:=hR
 have a3:=CW ((Js c).take i) (λm hm=>j m (DK hm))
 rw [AT] at a3
 refine Aj<|A5<|A3 rfl<|A1 (.fa H5 rfl B6 dD rfl)<|Ai (Af (BE _) rfl a rfl)<|A1 (.lss rfl rfl)<|A0<|Ae rfl (λT=>?_) (λT=>?_)
 have a4:=dT T
 have K:(i:Int)<c.fSpace:=by omega
 obtain ⟨q,s⟩:=A67 hc K
 have L:=A3Y q s
 have u:Am (Cy c)[i]=true:=by rw [<- L];exact j _ (AM s)
 have an:=KQ _ u
 have a5:F3 ((Js c).take (i+1))=F3 ((Js c).take i)++(DC (Cy c)[i]++[32]):=by rw [<- L];exact IW s
 have h4:(Cy c).length=4:=rfl
 refine Ap<|Aj<|AU<|Ak<|A3 rfl<|A3 rfl<|A1 (.fa H5 rfl sizeOf35 dD rfl)<|A1 (.ixr1 Vt B6 rfl rfl (i) (rfl) (q))<|Ai (Rd.iis ((Cy c)[i]) (AS (BE _) rfl ((MU a).cells (i) (q))) (by rfl))<|CF (ps:=_) Dm B6 PM rfl rfl rfl rfl rfl pR rfl (λb4 ao v U x ai=>?_)
 have a6:=Bx v a.lt
 have a7:=a.un x a6
 have a8:=uB hT v x
 have ae:=DW v hT.size
 have hq:=AZ.lit (V:=E5) (l:=[(Cy c)[i]]) U (rfl)
 refine WL.c1 BQ rfl rfl ((Ic _ [(Cy c)[i]] _ _ hq oE (λn hn=>by rw [Ao.1 hn];exact u))) (λw8 N=>?_)
 have a9:=a7.bl N
 have X:=DN a8 N
 refine A1 (.sis (F3 ((Js c).take (i+1))) (.cat rfl rfl (by have Y:=CW [(Cy c)[i]] (λn hn=>by rw [Ao.1 hn];exact u);rw [Ck] at Y;omega)) (by rw [a5];simp [F3]))<|Ab rfl<|Ak<|A3 rfl<|A1 (.iis (((i+1:Nat):Int)) (.add rfl rfl (Bn oO)) oO)<|Ab rfl ?_
 exact ⟨i+1,⟨rfl,rfl,rfl,rfl,tT⟩,⟨X,a9,oM⟩,oM⟩
 have a4:=dF T
 have K:(i:Int)=c.fSpace:=by omega
 have k:F3 ((Js c).take i)=F3 (Js c):=by rw [AR oO]
 refine C7<|A5<|CF (ps:=_) R4 M1 z9_ rfl rfl rfl rfl rfl pR rfl (λap aj f E o af=>?_)
 have a0:=Bx f a.lt
 have y:=a.un o a0
 have A:=uB hT f o
 have aa:=DW f hT.size
 have hu:=AZ.lit (V:=VB) (l:=(Ox false)) E (rfl)
 refine Ab rfl<|A5<|CF (ps:=_) R4 M1 z9_ rfl rfl rfl rfl rfl pR rfl (λaq ak b F d ag=>?_)
 have a1:=Bx b y.lt
 have B:=y.un d a1
 have G:=λh0=>b▸hu.lt h0
 have C:=AZ.upd hu d (λh0=>IU (G h0))
 have D:=uB A b d
 have ab:=DW b A.size
 have hg:=AZ.lit (V:=VB) (l:=(Ox true)) F (rfl)
 refine Ab rfl<|Aj<|A5<|A3 rfl<|A0<|Ae rfl (λac=>?_) (λac=>?_)
 have g:big=true:=by assumption
 refine A5<|A3 rfl<|A3 rfl<|A1 (.fa H5 rfl B6 dD rfl)<|Ai (Af (BE _) rfl B rfl)<|A1 (.ixb R4 M1 rfl rfl (hg.isp (by exact nz_ _)) (c.fSpace.toNat) oO ((show c.fSpace.toNat<5 by omega)))<|Ai (AS (Li _) rfl (hg.cells (c.fSpace.toNat) ((show c.fSpace.toNat<5 by omega))))<|A1 (.sis (OW true c) (.cat rfl rfl (by have Y:=CW (Js c) j;have e2:=TN true c.fSpace.toNat (by show c.fSpace.toNat<5;omega);rw [k];omega)) (by rw [k];exact X5 true hs _))<|Ab rfl<|AI ?_
 exact ⟨by rw [g],D⟩
 have g:big=false:=by assumption
 refine Ap<|A5<|A3 rfl<|A3 rfl<|A1 (.fa H5 rfl B6 dD rfl)<|Ai (Af (BE _) rfl B rfl)<|A1 (.ixb R4 M1 rfl rfl (C.isp (by exact nz_ _)) (c.fSpace.toNat) oO ((show c.fSpace.toNat<5 by omega)))<|Ai (AS (Li _) rfl (C.cells (c.fSpace.toNat) ((show c.fSpace.toNat<5 by omega))))<|A1 (.sis (OW false c) (.cat rfl rfl (by have Y:=CW (Js c) j;have e2:=TN false c.fSpace.toNat (by show c.fSpace.toNat<5;omega);rw [k];omega)) (by rw [k];exact X5 false hs _))<|Ab rfl<|AI ?_
 exact ⟨by rw [g],D⟩
theorem YG {l:List Int} (h:i<l.length):EB (l.take (i+1))=EB (l.take i)++32::DC l[i]:=by
 have key:∀ (a:List Int) (n:Int),EB (a++[n])=EB a++32::DC n:=λa n=>by
  induction a with
  | nil=>simp [EB]
  | cons m a ih=>simp [EB,ih]
 rw [List.take_add_one,A6 h,Option.toList_some,key]
theorem LC:∀ l:List Int,(∀ n∈l,Am n=true)->(EB l).length<=61 * l.length
 | [],_=>by simp [EB]
 | n::l,h=>by
  have h1:=LC l λm hm=>h m (by simp [hm])
  have h2:=KQ n (h n (by simp))
  simp only [EB,A9,A8];omega
theorem OR {n:Int} (h:0<=n/\n<=2):(E9 n).length<=1:=by
 obtain ⟨a,b⟩:=h
 obtain rfl | rfl | rfl:n=0\/n=1\/n=2:=by omega
 all_goals decide +kernel
theorem A1v {l:List Int} (h:i<l.length):(EB (l.take (i+1))).drop 1=(EB (l.take i)).drop 1++(if i=0 then [] else [32])++DC l[i]:=by
 rw [YG h]
 cases i with
 | zero=>simp [EB]
 | succ i =>
  rw [A2 oO]
  cases l with
  | nil=>simp at h
  | cons n l=>simp [EB]
theorem MT {a b:Int} {f:Int->l8_} (h:b≠a):Dh a b f=f b:=A7 h
theorem On {a b:Int} {f:Int->l8_} (h:b=a):Dh a b f=[]:=A2 (λhn=>hn h)
theorem A5j {a b:DP} {tw tc tj tm:l8_} (htw:tw=Dh a.fWidth b.fWidth (λn=>CX [n] [119])) (htc:tc=Dh a.fCap b.fCap (λn=>Dp n [74])) (htj:tj=Dh a.fJoin b.fJoin (λn=>Dp n [106])) (htm:tm=Dh a.fMiter b.fMiter (λn=>CX [n] [77])) (h:b.fPhase≠a.fPhase\/b.fDash≠a.fDash) :
  tw++tc++tj++tm++Es b=Nf a b:=by unfold Nf;rw [A7 h,htw,htc,htj,htm]
theorem A7i {a b:DP} {tw tc tj tm:l8_} (htw:tw=Dh a.fWidth b.fWidth (λn=>CX [n] [119])) (htc:tc=Dh a.fCap b.fCap (λn=>Dp n [74])) (htj:tj=Dh a.fJoin b.fJoin (λn=>Dp n [106])) (htm:tm=Dh a.fMiter b.fMiter (λn=>CX [n] [77])) (h:¬ (b.fPhase≠a.fPhase\/b.fDash≠a.fDash)) :
  tw++tc++tj++tm=Nf a b:=by unfold Nf;rw [A2 h,htw,htc,htj,htm,Bv]
theorem A5f (a b:DP) (w:World) (ha:AZ E5 w a.pfDash a.fDash) (hb:AZ E5 w b.pfDash b.fDash) (hal:a.fDash.length<=11) (hk:M7 b) :
  C9 28 #[.agg (Ex a).toArray,.agg (Ex b).toArray] w (.string (bs (Nf a b))):=by
 have x:∀ {n:Int},Am n=true->∀ m∈[n],Am m=true:=λh m hm=>by rw [Ao.1 hm];exact h
 have b7:=CW [b.fWidth] (x hk.w.1)
 have b9:=CW [b.fMiter] (x hk.m.1)
 have ba:=CW [b.fPhase] (x hk.ph.1)
 have bu:=OR hk.c
 have ag:=OR hk.j
 have bv:=LC b.fDash (λn hn=>(hk.d n hn).1)
 have bw:=hk.dl
 rw [Ck] at b7 b9 ba
 obtain ⟨tw,D⟩:∃ t,t=Dh a.fWidth b.fWidth (λn=>CX [n] [119]):=⟨_,rfl⟩
 obtain ⟨tc,E⟩:∃ t,t=Dh a.fCap b.fCap (λn=>Dp n [74]):=⟨_,rfl⟩
 obtain ⟨tj,F⟩:∃ t,t=Dh a.fJoin b.fJoin (λn=>Dp n [106]):=⟨_,rfl⟩
 obtain ⟨tm,G⟩:∃ t,t=Dh a.fMiter b.fMiter (λn=>CX [n] [77]):=⟨_,rfl⟩
 have lw:tw.length<=63:=by rw [D];unfold Dh CX;split <;> simp <;> omega
 have lc:tc.length<=4:=by rw [E];unfold Dh Dp;split <;> simp <;> omega
 have lj:tj.length<=4:=by rw [F];unfold Dh Dp;split <;> simp <;> omega
 have lm:tm.length<=63:=by rw [G];unfold Dh CX;split <;> simp <;> omega
 refine Av func28 rfl ntmps28 ?_
 have ah:=DR w
 refine A5<|D5 rfl rfl (λs bx ai a3 al bn=>?_)
 have aj:=uB ah ai al
 have bh:=DW ai ah.size
 refine D5 rfl rfl (λu bz a4 v a5 bo=>?_)
 have ag:=Bx a4 a3.lt
 have a0:=a3.un a5 ag
 have a6:=uB aj a4 a5
 have bi:=DW a4 aj.size
 refine Ab rfl<|A5<|Ab rfl<|De (α:=Unit) (λt=>[(2,ptV s),(3,ptV u),(5,.string (bs (tw)))]) (λt w'=>AD w w'/\Be w' s (Ex a).toArray 41/\Be w' u (Ex b).toArray 41) ?_ (λt H hR=>?_)
 refine A5<|A1 (.fa D7 rfl B6 dD rfl)<|Ai (Af (BE _) rfl v rfl)<|A1 (.fa D7 rfl B6 dD rfl)<|Ai (Af (BE _) rfl a0 rfl)<|A1 (.neq rfl rfl)<|A0<|Ae rfl (λh7=>?_) (λh7=>?_)
 have bb:=Kj h7
 refine Ak<|A3 rfl<|A1 (.fa D7 rfl B6 dD rfl)<|Ai (Af (BE _) rfl v rfl)<|CF (ps:=_) Dm B6 PM rfl rfl rfl rfl rfl pR rfl (λb8 bA a1 am J bp=>?_)
 have an:=Bx a1 a0.lt
 have bc:=a0.un J an
 have ao:=Bx a1 v.lt
 have ap:=v.un J ao
 have aq:=uB a6 a1 J
 have bj:=DW a1 a6.size
 have hq:=AZ.lit (V:=E5) (l:=[b.fWidth]) am (rfl)
 refine WL.c1 BQ rfl rfl ((Ic _ [b.fWidth] _ _ hq oE (x hk.w.1))) (λbB K=>?_)
 have ar:=bc.bl K
 have au:=ap.bl K
 have av:=DN aq K
 refine A1 (.cat rfl rfl (by (simp only [A9,A8,Ag];omega)))<|A1 (.cat rfl rfl (by (simp only [A9,A8,Ag];omega)))<|Ab rfl ?_
 exact ⟨(),⟨rfl,rfl,Px rfl (by rw [D,MT aS];rfl),tT⟩,av,ar,au⟩
 have bb:=Kk h7
 refine Ap ?_
 exact ⟨(),⟨rfl,rfl,Px rfl (by rw [D,On aS]),tT⟩,a6,a0,v⟩
 obtain ⟨o,k,f⟩:=hR
 refine De (α:=Unit) (λt=>[(2,ptV s),(3,ptV u),(5,.string (bs (tw++tc)))]) (λt w'=>AD w w'/\Be w' s (Ex a).toArray 41/\Be w' u (Ex b).toArray 41) ?_ (λt H hR=>?_)
 refine A5<|A1 (.fa D7 rfl B6 dD rfl)<|Ai (Af (BE _) rfl f rfl)<|A1 (.fa D7 rfl B6 dD rfl)<|Ai (Af (BE _) rfl k rfl)<|A1 (.neq rfl rfl)<|A0<|Ae rfl (λa7=>?_) (λa7=>?_)
 have aw:=Kj a7
 refine Ak<|A3 rfl<|A1 (.fa D7 rfl B6 dD rfl)<|Ai (Af (BE _) rfl f rfl)<|As (Ib b.fCap _ (by have:=hk.c;omega) (by have:=hk.c;omega)) (λbC L=>?_)
 have ax:=k.bl L
 have ay:=f.bl L
 have az:=DN o L
 refine A1 (.cat rfl rfl oO)<|A1 (.cat rfl rfl (by (simp only [A9,A8,Ag];omega)))<|Ab rfl ?_
 exact ⟨(),⟨rfl,rfl,Px rfl (by rw [E,MT aS];simp [Dp]),tT⟩,az,ax,ay⟩
 have aw:=Kk a7
 refine Ap ?_
 exact ⟨(),⟨rfl,rfl,Px rfl (by rw [E,On aS,Bv]),tT⟩,o,k,f⟩
 obtain ⟨o,k,f⟩:=hR
 refine De (α:=Unit) (λt=>[(2,ptV s),(3,ptV u),(5,.string (bs (tw++tc++tj)))]) (λt w'=>AD w w'/\Be w' s (Ex a).toArray 41/\Be w' u (Ex b).toArray 41) ?_ (λt H hR=>?_)
 refine A5<|A1 (.fa D7 rfl B6 dD rfl)<|Ai (Af (BE _) rfl f rfl)<|A1 (.fa D7 rfl B6 dD rfl)<|Ai (Af (BE _) rfl k rfl)<|A1 (.neq rfl rfl)<|A0<|Ae rfl (λa8=>?_) (λa8=>?_)
 have aA:=Kj a8
 refine Ak<|A3 rfl<|A1 (.fa D7 rfl B6 dD rfl)<|Ai (Af (BE _) rfl f rfl)<|As (Ib b.fJoin _ (by have:=hk.j;omega) (by have:=hk.j;omega)) (λbD P=>?_)
 have aB:=k.bl P
 have aC:=f.bl P
 have aD:=DN o P
 refine A1 (.cat rfl rfl (by (simp only [A9,A8,Ag];omega)))<|A1 (.cat rfl rfl (by (simp only [A9,A8,Ag];omega)))<|Ab rfl ?_
 exact ⟨(),⟨rfl,rfl,Px rfl (by rw [F,MT aS];simp [Dp]),tT⟩,aD,aB,aC⟩
 have aA:=Kk a8
 refine Ap ?_
 exact ⟨(),⟨rfl,rfl,Px rfl (by rw [F,On aS,Bv]),tT⟩,o,k,f⟩
 obtain ⟨o,k,f⟩:=hR
 refine De (α:=Unit) (λt=>[(2,ptV s),(3,ptV u),(5,.string (bs (tw++tc++tj++tm)))]) (λt w'=>AD w w'/\Be w' s (Ex a).toArray 41/\Be w' u (Ex b).toArray 41) ?_ (λt H hR=>?_)
 refine A5<|A1 (.fa D7 rfl B6 dD rfl)<|Ai (Af (BE _) rfl f rfl)<|A1 (.fa D7 rfl B6 dD rfl)<|Ai (Af (BE _) rfl k rfl)<|A1 (.neq rfl rfl)<|A0<|Ae rfl (λa9=>?_) (λa9=>?_)
 have aE:=Kj a9
 refine Ak<|A3 rfl<|A1 (.fa D7 rfl B6 dD rfl)<|Ai (Af (BE _) rfl f rfl)<|CF (ps:=_) Dm B6 PM rfl rfl rfl rfl rfl pR rfl (λbE bq y ae A bk=>?_)
 have aF:=Bx y k.lt
 have aG:=k.un A aF
 have aH:=Bx y f.lt
 have aI:=f.un A aH
 have aJ:=uB o y A
 have bd:=DW y o.size
 have hq:=AZ.lit (V:=E5) (l:=[b.fMiter]) ae (rfl)
 refine WL.c1 BQ rfl rfl ((Ic _ [b.fMiter] _ _ hq oE (x hk.m.1))) (λbG Q=>?_)
 have aK:=aG.bl Q
 have aL:=aI.bl Q
 have aM:=DN aJ Q
 refine A1 (.cat rfl rfl (by (simp only [A9,A8,Ag];omega)))<|A1 (.cat rfl rfl (by (simp only [A9,A8,Ag];omega)))<|Ab rfl ?_
 exact ⟨(),⟨rfl,rfl,Px rfl (by rw [G,MT aS];simp [CX]),tT⟩,aM,aK,aL⟩
 have aE:=Kk a9
 refine Ap ?_
 exact ⟨(),⟨rfl,rfl,Px rfl (by rw [G,On aS,Bv]),tT⟩,o,k,f⟩
 obtain ⟨o,k,f⟩:=hR
 refine De (α:=Unit) (λt=>[(2,ptV s),(3,ptV u),(5,.string (bs (Nf a b)))]) (λt w'=>AD w w'/\Be w' s (Ex a).toArray 41/\Be w' u (Ex b).toArray 41) ?_ (λt H hR=>?_)
 refine De (α:=Unit) (λt=>[(2,ptV s),(3,ptV u),(5,.string (bs (tw++tc++tj++tm))),(65,.bool (decide (b.fPhase≠a.fPhase\/b.fDash≠a.fDash)))]) (λt w'=>AD w w'/\Be w' s (Ex a).toArray 41/\Be w' u (Ex b).toArray 41) ?_ (λt H hR=>?_)
 refine Ak<|A1 (.fa D7 rfl B6 dD rfl)<|Ai (Af (BE _) rfl f rfl)<|A1 (.fa D7 rfl B6 dD rfl)<|Ai (Af (BE _) rfl k rfl)<|A1 (.neq rfl rfl)<|A3 rfl<|B5 rfl rfl rfl (λg=>?_) (λg=>?_)
 have aN:=Kk g
 refine A1 (.fa D7 rfl HX dD rfl)<|Au g<|Ai (Af (L8 _) rfl f rfl)<|Au g<|A1 (.fa D7 rfl HX dD rfl)<|Au g<|Ai (Af (L8 _) rfl k rfl)<|Au g<|As (VS b.pfDash a.pfDash b.fDash a.fDash b.cfDash a.cfDash _ (hb.below o (λh0=>hb.lt h0)) (ha.below o (λh0=>ha.lt h0)) oO) (λbH T=>?_)
 have aO:=k.bl T
 have aP:=f.bl T
 have aQ:=DN o T
 refine Au g<|A1 (.not rfl)<|A1 (.pkF rfl g rfl)<|A0<|?_
 exact ⟨(),⟨rfl,rfl,rfl,CD rfl (by by_cases hd:b.fDash=a.fDash <;> simp_all),tT⟩,aQ,aO,aP⟩
 have aN:=Kj g
 refine Ac g<|Ac g<|Ac g<|Ac g<|Ac g<|A1 (.pkT rfl g rfl)<|A0<|?_
 exact ⟨(),⟨rfl,rfl,rfl,CD rfl (Al (.inl aS)).symm,tT⟩,o,k,f⟩
 obtain ⟨o,k,f⟩:=hR
 refine Ae rfl (λaa=>?_) (λaa=>?_)
 have aR:=dT aa
 refine A5<|A3 rfl<|A1 (.cat rfl rfl (by (simp only [A9,A8,Ag];omega)))<|Ab rfl<|Aj<|A5<|Ab rfl<|AU<|Cf (α:=Nat) (λt=>[(2,ptV s),(3,ptV u),(5,.string (bs (tw++tc++tj++tm++[91]++(EB (b.fDash.take t)).drop 1))),(6,Ah (t:Int))]) (λt w'=>AD w w'/\Be w' s (Ex a).toArray 41/\Be w' u (Ex b).toArray 41/\t<=b.fDash.length) (λt=>b.fDash.length-t) (0) ⟨rfl,rfl,Px rfl (by simp [EB]),rfl,tT⟩ (⟨o,k,f,G8 _⟩) (λt H hR=>?_)
 obtain ⟨i,rfl⟩:=eX t
 obtain ⟨q1,q2,q3,q4⟩:=hR
 have bI:=hb.below q1 (λh0=>hb.lt h0)
 have be:=hb.lt
 have l0:=LC (b.fDash.take i) (λn hn=>(hk.d n (DK hn)).1)
 rw [AT] at l0
 have l1:((EB (b.fDash.take i)).drop 1).length<=61 * 11:=by rw [B9];omega
 refine Aj<|A5<|A3 rfl<|A1 (.fa D7 rfl HX dD rfl)<|Ai (Af (L8 _) rfl q3 rfl)<|A1 (.lenS Dm rfl)<|A1 (.lss rfl rfl)<|A0<|Ae rfl (λab=>?_) (λab=>?_)
 have aT:=dT ab
 have a2:i<b.fDash.length:=by omega
 have ak:=(hk.d _ (AM a2)).1
 have bJ:=KQ _ ak
 refine Ap<|Aj<|AU<|De (α:=Unit) (λt=>[(2,ptV s),(3,ptV u),(5,.string (bs (tw++tc++tj++tm++[91]++((EB (b.fDash.take i)).drop 1++(if i=0 then [] else [32]))))),(6,Ah (i:Int))]) (λt w'=>AD w w'/\Be w' s (Ex a).toArray 41/\Be w' u (Ex b).toArray 41) ?_ (λt H hR=>?_)
 refine A5<|A3 rfl<|A1 (.gtr rfl rfl)<|A0<|Ae rfl (λac=>?_) (λac=>?_)
 have aU:=dT ac
 refine Ak<|A3 rfl<|A1 (.cat rfl rfl (by (simp only [A9,A8,Ag];omega)))<|Ab rfl ?_
 exact ⟨(),⟨rfl,rfl,Px rfl (by rw [A2 oO];simp only [AB]),rfl,tT⟩,q1,q2,q3⟩
 have aU:=dF ac
 refine Ap ?_
 exact ⟨(),⟨rfl,rfl,Px rfl (by rw [A7 oO,Bv]),rfl,tT⟩,q1,q2,q3⟩
 obtain ⟨k1,k2,k3⟩:=hR
 have ad:=hb.below k1 be
 have l2:(if i=0 then ([]:l8_) else [32]).length<=1:=by split <;> simp
 refine Ak<|A3 rfl<|A1 (.fa D7 rfl HX dD rfl)<|Ai (Af (L8 _) rfl k3 rfl)<|A3 rfl<|A1 (.ixb Dm B6 rfl rfl (ad.isp oO) (i) (rfl) oO)<|Ai (AS (BE _) rfl (ad.cells (i) oO))<|As (by have q:=TD b.fDash[i] H;rw [Pv ak] at q;exact q) (λbK U=>?_)
 have aV:=k2.bl U
 have aW:=k3.bl U
 have aX:=DN k1 U
 refine A1 (.sis (tw++tc++tj++tm++[91]++(EB (b.fDash.take (i+1))).drop 1) (.cat rfl rfl (by (simp only [A9,A8,Ag];omega))) (by rw [A1v a2];simp only [AB]))<|Ab rfl<|Ak<|A3 rfl<|A1 (.iis (((i+1:Nat):Int)) (.add rfl rfl (Bn oO)) oO)<|Ab rfl ?_
 exact ⟨i+1,⟨rfl,rfl,rfl,rfl,tT⟩,⟨aX,aV,aW,oM⟩,oM⟩
 have aT:=dF ab
 have a2:i=b.fDash.length:=by omega
 have bf:b.fDash.take i=b.fDash:=by rw [a2,Ca]
 refine C7<|Ak<|A3 rfl<|A1 (.cat rfl rfl (by (simp only [A9,A8,Ag];omega)))<|A1 (.fa D7 rfl B6 dD rfl)<|Ai (Af (BE _) rfl q3 rfl)<|CF (ps:=_) Dm B6 PM rfl rfl rfl rfl rfl pR rfl (λbL bt B af C bm=>?_)
 have aY:=Bx B q2.lt
 have aZ:=q2.un C aY
 have a':=Bx B q3.lt
 have b0:=q3.un C a'
 have b2:=uB q1 B C
 have bg:=DW B q1.size
 have hq:=AZ.lit (V:=E5) (l:=[b.fPhase]) af (rfl)
 refine WL.c1 BQ rfl rfl ((Ic _ [b.fPhase] _ _ hq oE (x hk.ph.1))) (λbM X=>?_)
 have b4:=aZ.bl X
 have b5:=b0.bl X
 have b6:=DN b2 X
 refine A1 (.cat rfl rfl (by (simp only [A9,A8,Ag];omega)))<|A1 (.cat rfl rfl (by (simp only [A9,A8,Ag];omega)))<|Ab rfl ?_
 exact ⟨(),⟨rfl,rfl,Px rfl (by rw [bf,<- A5j D E F G aS];simp [Es,CX]),tT⟩,b6,b4,b5⟩
 have aR:=dF aa
 refine Ap ?_
 exact ⟨(),⟨rfl,rfl,Px rfl (by rw [<- A7i D E F G aS]),tT⟩,o,k,f⟩
 obtain ⟨o,k,f⟩:=hR
 refine A5<|A3 rfl<|Ab rfl<|AI ?_
 exact ⟨rfl,o⟩
end
section
def UO (dx dy:Int) (s:Cm) (k:Nat):Cm:=⟨s.fKind,if 0<k then GC dx dy s.fP_0 else s.fP_0,if 1<k then GC dx dy s.fP_1 else s.fP_1,if 2<k then GC dx dy s.fP_2 else s.fP_2⟩
def Lq (s:Cm) (k:Nat):BH:=[s.fP_0,s.fP_1,s.fP_2].getD k ⟨0,0⟩
def okK (dx dy:Int) (s:Cm) (k:Nat):Bool:=(List.range k).all λj=>BP (GC dx dy (Lq s j))
def ptN (n:Int):Nat:=if n=1\/n=2 then 1 else if n=3 then 3 else 0
theorem A31 (dx dy:Int) (s:Cm) (k:Nat):okK dx dy s (k+1)=(okK dx dy s k && BP (GC dx dy (Lq s k))):=by unfold okK;rw [List.range_succ,List.all_append];simp
theorem Z8 {k:Nat} (h:k<3):k=0\/k=1\/k=2:=by omega
theorem UN  {s:Cm} {k:Nat} (h:k<3) (h1:k < [(UO dx dy s k).fP_0,(UO dx dy s k).fP_1,(UO dx dy s k).fP_2].length):[(UO dx dy s k).fP_0,(UO dx dy s k).fP_1,(UO dx dy s k).fP_2][k]=Lq s k:=by
 rcases Z8 h with rfl | rfl | rfl <;> rfl
theorem Zn  {s:Cm} {k:Nat} (h:k<3) (h1:k < [(UO dx dy s (k+1)).fP_0,(UO dx dy s (k+1)).fP_1,(UO dx dy s (k+1)).fP_2].length):[(UO dx dy s (k+1)).fP_0,(UO dx dy s (k+1)).fP_1,(UO dx dy s (k+1)).fP_2][k]=GC dx dy (Lq s k):=by
 rcases Z8 h with rfl | rfl | rfl <;> rfl
theorem Zm  {s:Cm} {k:Nat} (h:k<3) {q:BH} (hq:q=GC dx dy (Lq s k)):((Iu (UO dx dy s k)).toArray.toList.take (1+k * 2)++D4 q++(Iu (UO dx dy s k)).toArray.toList.drop (1+k * 2+(D4 q).length)).toArray=(Iu (UO dx dy s (k+1))).toArray:=by
 subst hq
 rcases Z8 h with rfl | rfl | rfl <;> rfl
theorem A0t {s:Cm} (h:Te s last) {k:Nat} (hk:k<3):Am (Lq s k).fX=true/\Am (Lq s k).fY=true:=by
 have a:=h.f0
 have b:=h.f1
 have c:=h.f2
 unfold BP at a b c
 rw [A4] at a b c
 rcases Z8 hk with rfl | rfl | rfl
 · exact a
 · exact b
 · exact c
theorem A5x  {s:Cm} (h:Te s last):UO dx dy s (ptN s.fKind)=Np dx dy s/\okK dx dy s (ptN s.fKind)=Pr dx dy s:=by
 obtain ⟨n,a,b,c⟩:=s
 have hk:=h.kind
 simp only at hk
 rcases hk with rfl | rfl | rfl | rfl
 · exact ⟨rfl,rfl⟩
 · exact ⟨rfl,rfl⟩
 · exact ⟨rfl,rfl⟩
 · exact ⟨rfl,rfl⟩
theorem A9S {s:Cm} (h:Te s last):(#[Ah 0,Ah 1,Ah 1,Ah 3,Ah 0]:Array Value)[s.fKind.toNat]?=some (Ah (ptN s.fKind:Int)):=by
 have hk:=h.kind
 generalize s.fKind=n at hk ⊢
 rcases hk with rfl | rfl | rfl | rfl <;> rfl
theorem A7h (n:Int):ptN n<=3:=by unfold ptN;split;decide;split <;> decide
theorem A30  {l:List Cm} (h:i<l.length):(l.take (i+1)).all (Pr dx dy)=((l.take i).all (Pr dx dy) && Pr dx dy l[i]):=by
 rw [List.take_add_one,A6 h,Option.toList_some,List.all_append];simp
theorem A3e  {l:List Cm} (h:i<l.length):(l.take i).map (Np dx dy)++[Np dx dy l[i]]=(l.take (i+1)).map (Np dx dy):=by
 rw [List.take_add_one,A6 h,Option.toList_some,Bp];rfl
theorem A6U  {op:Op} (h:Rd P op f w v) (e:v=v'):Rd P op f w v':=e▸h
theorem Q7 (p:Option Addr) (l:List Cm) (c:Nat) (dx dy:Int) (ok:Bool) (w:World) (hr:Bi EX w p l) (hl:l.length<=4096) (hs:DE 0 l=true) (hdx:-10000000<=dx/\dx<=10000000) (hdy:-10000000<=dy/\dy<=10000000) :
  Calls Tryz.prog 14 #[.slice p l.length c,.agg (D4 ⟨dx,dy⟩).toArray,.bool ok] w λe w'=>∃ v,e=.returned (.tuple #[v,.bool (ok && l.all (Pr dx dy))])/\AD w w'/\AJ EX 94 w.heap.size w' v (l.map (Np dx dy)):=by
 have bd:0<l.length->(pA p).block<w.heap.size:=λb=>hr.lt b
 refine Av func14 rfl ntmps14 ?_
 have be:=DR w
 refine A5<|D5 rfl rfl (λb1 bf bg aG aH bG=>?_)
 have aD:=uB be bg aH
 refine DA rfl<|Ab rfl<|Aj ?_
 obtain ⟨wz,bh⟩:=eX bf
 subst bh
 have bi:=aD.size
 refine Ak<|Ab rfl<|Aj<|A5<|Ab rfl<|AU<|Cf (α:=Nat × Value × Bool) (λt=>[(0,.slice p l.length c),(2,.bool t.2.2),(4,ptV b1),(8,t.2.1),(9,Ah (t.1:Int))]) (λt w'=>AD w w'/\Be w' b1 (D4 ⟨dx,dy⟩).toArray 57/\AJ EX 94 wz.heap.size w' t.2.1 ((l.take t.1).map (Np dx dy))/\t.1<=l.length/\t.2.2=(ok && (l.take t.1).all (Pr dx dy))/\wz.heap.size<=w'.heap.size) (λt=>l.length-t.1) ((0,.slice none 0 0,ok)) ⟨rfl,rfl,rfl,rfl,rfl,tT⟩ (⟨aD,aG,AJ.nil _ _ _ _,G8 _,by simp,FQ _⟩) (λt w1 hR=>?_)
 obtain ⟨⟨i,v8,P⟩,ab⟩:=eX t
 subst ab
 obtain ⟨q1,q2,q3,q4,q5,aI⟩:=hR
 simp only at q3 q4 q5
 have q6:=hr.below q1 bd
 refine Aj<|A5<|A3 rfl<|A3 rfl<|A1 (.lenS Fk rfl)<|A1 (.lss rfl rfl)<|A0<|Ae rfl (λh5=>?_) (λh5=>?_)
 have bj:=dT h5
 have U:i<l.length:=by omega
 obtain ⟨lk,hk⟩:=Us l 0 hs i U
 have bL:=hk.kind
 have bM:=A7h l[i].fKind
 have ac:=q3.lt
 refine Ap<|Aj<|AU<|A5<|A3 rfl<|A3 rfl<|A1 (.ixm Fk K5 rfl rfl (q6.isp oO) (i) (rfl) oO)<|Ai (Dy I3 rfl Jb q6 (i) oO rfl)<|C1 Nv rfl (λb6 bN V aJ K bH=>?_)
 have aK:=BA aI K.size
 have bk:=GK q3 V K
 have aL:=Bx V q2.lt
 have bm:=q2.un K aL
 have H:=λb=>V▸q6.lt b
 have aM:=Bi.upd q6 K (λb=>IU (H b))
 have aN:=uB q1 V K
 have bv:=DW V q1.size
 refine AH rfl rfl aJ Jb rfl rfl (λbO a5 s bw=>?_)
 have au:=BA aK s.size
 have aO:=I4 bk s (λg hg=>by have:=ac g hg;omega)
 have ad:=bm.up s
 have ae:=Bi.upd aM s (λb=>IU (H b))
 have af:=CP aN oO s
 refine A0<|A5<|CF (ps:=_) Dm B6 PM rfl rfl rfl rfl rfl pR rfl (λbP bI C av q bx=>?_)
 have aw:=BA au q.size
 have aP:=GK aO C q
 have aQ:=Bx C ad.lt
 have aR:=ad.un q aQ
 have aS:=Bx C a5.lt
 have ag:=a5.un q aS
 have ax:=λb=>C▸ae.lt b
 have aT:=Bi.upd ae q (λb=>IU (ax b))
 have aU:=uB af C q
 have bn:=DW C af.size
 refine A1 (.fa I3 rfl B6 dD rfl)<|Ai (Af (BE _) rfl ag rfl)<|A1 (.ixa Dm B6 rfl rfl (l[i].fKind.toNat) oO oO)<|Ai (AS (BE _) rfl (by rw [add_lit,Ey,Nat.mul_one,(av).cell];exact A9S hk))<|Ab rfl<|Aj<|A5<|Ab rfl<|AU<|Cf (α:=Nat × Bool) (λt=>[(0,.slice p l.length c),(2,.bool t.2),(4,ptV b1),(8,v8),(9,Ah (i:Int)),(10,ptV b6),(11,Ah (ptN l[i].fKind:Int)),(12,Ah (t.1:Int))]) (λt w'=>AD w w'/\Be w' b1 (D4 ⟨dx,dy⟩).toArray 57/\Be w' b6 (Iu (UO dx dy l[i] t.1)).toArray 94/\AJ EX 94 wz.heap.size w' v8 ((l.take i).map (Np dx dy))/\t.1<=ptN l[i].fKind/\t.2=(P && okK dx dy l[i] t.1)/\Bi EX w' p l/\wz.heap.size<=w'.heap.size) (λt=>ptN l[i].fKind-t.1) ((0,P)) ⟨rfl,rfl,rfl,rfl,rfl,rfl,rfl,rfl,tT⟩ (⟨aU,aR,ag,aP,G8 _,by simp [okK],aT,aw⟩) (λt w1 hR=>?_)
 obtain ⟨⟨k,u⟩,ab⟩:=eX t
 subst ab
 obtain ⟨j1,Q,j3,j4,j5,j6,j7,ah⟩:=hR
 simp only at j3 j5 j6
 have bJ:=Q.lt
 have bz:=j3.lt
 refine Aj<|A5<|A3 rfl<|A3 rfl<|A1 (.lss rfl rfl)<|A0<|Ae rfl (λai=>?_) (λai=>?_)
 have aV:=dT ai
 have x:k<3:=by omega
 obtain ⟨aE,aF⟩:=A0t hk x
 have aE:=Ko aE
 have aF:=Ko aF
 have a6:=A31 dx dy l[i] k
 refine Ap<|Aj<|AU<|Aj<|DD 21 rfl Ci (λw'=>w'.heap[b1]?=w1.heap[b1]?/\True) (λbQ D=>?_)
 have a7:=Df.le ah D
 have aj:=AJ.drew j4 D
 have X:=Q.drew D
 have E:=j3.drew D
 have ak:=j7.drew D
 have am:=Df.below j1 D
 have a:=Dr (X.trans Q.symm) BO
 refine Aa 0 rfl (.mv rfl) a ?_
 refine Aa 1 rfl (.mv rfl) a ?_
 refine Aa 2 rfl (.fa I3 rfl Ux dD rfl) a ?_
 refine Aa 3 rfl (.ixr K4 Fa rfl rfl (k) (rfl) oO) a ?_
 refine Aa 4 rfl (.fa CQ rfl B6 dD rfl) a ?_
 refine Aa 6 rfl (.fa CQ rfl B6 dD rfl) a ?_
 refine C8 7 rfl (λw' hw'=>Af (BE _) rfl ((hw'.1).trans Q) rfl) a rfl ?_
 refine Aa 9 rfl (.mv rfl) a ?_
 refine Aa 10 rfl (.fa I3 rfl Ux dD rfl) a ?_
 refine Aa 11 rfl (.ixr K4 Fa rfl rfl (k) (rfl) oO) a ?_
 refine Aa 12 rfl (.fa CQ rfl B6 dD rfl) a ?_
 refine Aa 14 rfl (.fa CQ rfl B6 dD rfl) a ?_
 refine C8 15 rfl (λw' hw'=>Af (BE _) rfl ((hw'.1).trans Q) rfl) a rfl ?_
 refine Aa 18 rfl (.fa I3 rfl Ux dD rfl) a ?_
 refine Ef 5 rfl 13 rfl ?_ ?_
 refine Ai (Rd.iis ((Lq l[i] k).fX) (AS (BE _) rfl (((I9 E).field (k) oO 0 dD).trans rfl)) (by rw [UN x]))<|A0<|⟨a,?_⟩
 refine Aa 8 rfl (.iis ((Lq l[i] k).fX+dx) (.add rfl rfl (Bn (by simp only;omega))) (by simp only)) a ?_
 refine Aq 13 rfl<|Ai (Rd.iis ((Lq l[i] k).fY) (AS (BE _) rfl (((I9 E).field (k) oO 1 dD).trans rfl)) (by rw [UN x]))<|A0<|⟨a,?_⟩
 refine Aa 16 rfl (.iis ((Lq l[i] k).fY+dy) (.add rfl rfl (Bn (by simp only;omega))) (by simp only)) a ?_
 refine Aa 17 rfl (.buildL (ps:=_) LY rfl rfl rfl pS) a ?_
 refine Aa 19 rfl (.ixr K4 Fa rfl rfl (k) (rfl) oO) a ?_
 refine Aq 20 rfl<|A83 (o:=1+k * 2) ((Iu (UO dx dy l[i] (k+1))).toArray) rfl (add_lit _ _ _) rfl E Cb rfl ((by show 1+k * 2+2<=7;omega)) (Zm x rfl) (λbo y d bA=>?_)
 have y:Be bo b6 _ _:=y
 have d:E6 b6 _ _:=d
 have a8:=BA a7 d.size
 have an:=I4 aj d (λg hg=>by have:=ac g hg;omega)
 have a0:=X.up d
 have a1:=Bi.upd ak d (λb=>IU (H b))
 have ao:=CP am oO d
 refine A0<|⟨⟨(a0).trans (Q).symm,tT⟩,?_⟩
 refine Bl kR<|Ak<|A3 rfl<|A3 rfl<|B5 rfl rfl rfl (λj=>?_) (λj=>?_)
 refine A3 rfl<|Au j<|A1 (.fa I3 rfl Ux dD rfl)<|Au j<|A1 (.ixr K4 Fa rfl rfl (k) (rfl) oO)<|Au j<|Ai (A6U (v':=.agg (D4 (GC dx dy (Lq l[i] k))).toArray) (Dy CQ rfl Cb (I9 y) k oE rfl) (by rw [Zn x];rfl))<|Au j<|As (KC (GC dx dy (Lq l[i] k)) _) (λbR F=>?_)
 have ay:=BA a8 F.size
 have aW:=AJ.below an F
 have aX:=a0.bl F
 have aY:=y.bl F
 have aZ:=Is a1 F (λb=>a1.lt b)
 have a':=DN ao F
 refine A1 (.pkT rfl j rfl)<|Ab rfl<|Ak<|A3 rfl<|A1 (.iis (((k+1:Nat):Int)) (.add rfl rfl (Bn oO)) oO)<|Ab rfl ?_
 exact ⟨(k+1,P && okK dx dy l[i] (k+1)),⟨rfl,CD rfl (by rw [a6,<- Bool.and_assoc,<- j6];first | rw [(by assumption:u=true),BV] | rw [(by assumption:u=false),IC]),rfl,rfl,rfl,rfl,rfl,rfl,tT⟩,⟨a',aX,aY,aW,oM,rfl,aZ,ay⟩,oM⟩
 refine Ac j<|Ac j<|Ac j<|Ac j<|A1 (.pkF rfl j rfl)<|Ab rfl<|Ak<|A3 rfl<|A1 (.iis (((k+1:Nat):Int)) (.add rfl rfl (Bn oO)) oO)<|Ab rfl ?_
 exact ⟨(k+1,P && okK dx dy l[i] (k+1)),⟨rfl,CD rfl (by rw [a6,<- Bool.and_assoc,<- j6];first | rw [(by assumption:u=true),BV] | rw [(by assumption:u=false),IC]),rfl,rfl,rfl,rfl,rfl,rfl,tT⟩,⟨ao,a0,y,an,oM,rfl,a1,a8⟩,oM⟩
 refine Ai (Rd.iis ((Lq l[i] k).fY) (AS (BE _) rfl (((I9 E).field (k) oO 1 dD).trans rfl)) (by rw [UN x]))<|A0<|⟨a,?_⟩
 refine Aa 16 rfl (.iis ((Lq l[i] k).fY+dy) (.add rfl rfl (Bn (by simp only;omega))) (by simp only)) a ?_
 refine Aq 5 rfl<|Ai (Rd.iis ((Lq l[i] k).fX) (AS (BE _) rfl (((I9 E).field (k) oO 0 dD).trans rfl)) (by rw [UN x]))<|A0<|⟨a,?_⟩
 refine Aa 8 rfl (.iis ((Lq l[i] k).fX+dx) (.add rfl rfl (Bn (by simp only;omega))) (by simp only)) a ?_
 refine Aa 17 rfl (.buildL (ps:=_) LY rfl rfl rfl pS) a ?_
 refine Aa 19 rfl (.ixr K4 Fa rfl rfl (k) (rfl) oO) a ?_
 refine Aq 20 rfl<|A83 (o:=1+k * 2) ((Iu (UO dx dy l[i] (k+1))).toArray) rfl (add_lit _ _ _) rfl E Cb rfl ((by show 1+k * 2+2<=7;omega)) (Zm x rfl) (λbp B f bB=>?_)
 have B:Be bp b6 _ _:=B
 have f:E6 b6 _ _:=f
 have a9:=BA a7 f.size
 have ap:=I4 aj f (λg hg=>by have:=ac g hg;omega)
 have a2:=X.up f
 have a3:=Bi.upd ak f (λb=>IU (H b))
 have aq:=CP am oO f
 refine A0<|⟨⟨(a2).trans (Q).symm,tT⟩,?_⟩
 refine Bl kR<|Ak<|A3 rfl<|A3 rfl<|B5 rfl rfl rfl (λm=>?_) (λm=>?_)
 refine A3 rfl<|Au m<|A1 (.fa I3 rfl Ux dD rfl)<|Au m<|A1 (.ixr K4 Fa rfl rfl (k) (rfl) oO)<|Au m<|Ai (A6U (v':=.agg (D4 (GC dx dy (Lq l[i] k))).toArray) (Dy CQ rfl Cb (I9 B) k oE rfl) (by rw [Zn x];rfl))<|Au m<|As (KC (GC dx dy (Lq l[i] k)) _) (λbS G=>?_)
 have az:=BA a9 G.size
 have b0:=AJ.below ap G
 have b2:=a2.bl G
 have b3:=B.bl G
 have b4:=Is a3 G (λb=>a3.lt b)
 have b5:=DN aq G
 refine A1 (.pkT rfl m rfl)<|Ab rfl<|Ak<|A3 rfl<|A1 (.iis (((k+1:Nat):Int)) (.add rfl rfl (Bn oO)) oO)<|Ab rfl ?_
 exact ⟨(k+1,P && okK dx dy l[i] (k+1)),⟨rfl,CD rfl (by rw [a6,<- Bool.and_assoc,<- j6];first | rw [(by assumption:u=true),BV] | rw [(by assumption:u=false),IC]),rfl,rfl,rfl,rfl,rfl,rfl,tT⟩,⟨b5,b2,b3,b0,oM,rfl,b4,az⟩,oM⟩
 refine Ac m<|Ac m<|Ac m<|Ac m<|A1 (.pkF rfl m rfl)<|Ab rfl<|Ak<|A3 rfl<|A1 (.iis (((k+1:Nat):Int)) (.add rfl rfl (Bn oO)) oO)<|Ab rfl ?_
 exact ⟨(k+1,P && okK dx dy l[i] (k+1)),⟨rfl,CD rfl (by rw [a6,<- Bool.and_assoc,<- j6];first | rw [(by assumption:u=true),BV] | rw [(by assumption:u=false),IC]),rfl,rfl,rfl,rfl,rfl,rfl,tT⟩,⟨aq,a2,B,ap,oM,rfl,a3,a9⟩,oM⟩
 have aV:=dF ai
 have bq:k=ptN l[i].fKind:=by omega
 subst bq
 obtain ⟨bt,bu⟩:=A5x (dx:=dx) (dy:=dy) hk
 refine C7 ?_
 have ar:=j3
 rw [bt] at ar
 refine Ak<|A3 rfl<|Ai (BD rfl ar I3 rfl Jb)<|Cw (L:=EX) (ps:=_) ([Np dx dy l[i]]) Fk K5 Nv rfl rfl rfl rfl rfl (by rfl) rfl rfl (λbT bK a4 aA J bC=>?_)
 have aa:=BA ah J.size
 have b7:=GK j4 a4 J
 have b8:=Bx a4 Q.lt
 have b9:=Q.un J b8
 have ba:=uB j1 a4 J
 refine CV Fk A3r rfl rfl rfl b7 rfl (aA).rowp (by simp only [A8,Ag,B0,AT];omega) (aa) rfl (λh=>D6 h (PA _ _)) (λbU bV aB T bD bE=>?_)
 have bb:=b9.below T oO
 have bc:=EU ba (T.mono oO)
 have aC:=BA aa T.size
 refine Ab rfl<|Ak<|A3 rfl<|A1 (.iis (((i+1:Nat):Int)) (.add rfl rfl (Bn oO)) oO)<|Ab rfl ?_
 have h8:=aB
 rw [A3e U] at h8
 exact ⟨(i+1,_,u),⟨rfl,rfl,rfl,rfl,rfl,tT⟩,⟨bc,bb,h8,oM,by rw [A30 U,<- Bool.and_assoc,<- q5,<- bu];exact j6,aC⟩,oM⟩
 have bj:=dF h5
 have U:i=l.length:=by omega
 refine C7<|A5<|A3 rfl<|A3 rfl<|DA rfl<|Ab rfl<|B2 (EG rfl rfl rfl ?_)
 rw [U,Ca] at q3 q5
 rw [<- q5]
 exact ⟨_,rfl,q1,(q3).base λg hg=>BA bi ((q3).lt g hg).1⟩
end
section
structure Dw (F F1:Nat->Prop) (w w1:World):Prop where
 os:w1.os=w.os
 tape:w1.tape=w.tape
 output:w1.output=w.output
 size:w.heap.size<=w1.heap.size
 block:∀ k,k<w.heap.size->¬ F k->w1.heap[k]?=w.heap[k]?
 new:∀ g,F1 g->F g\/w.heap.size<=g
theorem Dw.refl (F:Nat->Prop) (w:World):Dw F F w w:=⟨rfl,rfl,rfl,FQ _,λ_ _ _=>rfl,λ_ h=>.inl h⟩
theorem Dw.of_below {F:Nat->Prop} (h:AD w w1):Dw F F w w1:=⟨h.os,h.tape,h.output,h.size,λk hk _=>h.block k hk,λ_ h=>.inl h⟩
theorem Dw.trans {F F1 F2:Nat->Prop} {a b c:World} (h:Dw F F1 a b) (k:Dw F1 F2 b c):Dw F F2 a c :=
 ⟨k.os.trans h.os,k.tape.trans h.tape,k.output.trans h.output,BA h.size k.size,
  λi hi hn=>(k.block i (C6 hi h.size) λhf=>by rcases h.new i hf with h1 | h1 <;> first | exact hn h1 | omega).trans (h.block i hi hn),
  λg hg=>by
   rcases k.new g hg with h1 | h1
   · exact h.new g h1
   · exact .inr (BA h.size h1)⟩
abbrev Qz:=@Dw.trans
theorem Dw.below  {F:Nat->Prop} (h:Dw F F1 w w1) (hB:B<=w.heap.size) (hF:∀ g,F g->B<=g):Below B w w1 :=
 ⟨h.os,h.tape,h.output,h.size,λk hk=>h.block k (C6 hk hB) λhf=>by have:=hF k hf;omega⟩
theorem CA  {F:Nat->Prop} {S:List Nat} (h:AL w.heap.size S w w1) (hS:∀ g∈S,F g\/w.heap.size<=g) (hn:∀ g,F1 g->F g\/w.heap.size<=g):Dw F F1 w w1 :=
 ⟨h.os,h.tape,h.output,h.size,λk hk hf=>h.block k hk λhm=>by rcases hS k hm with h1 | h1 <;> first | exact hf h1 | omega,hn⟩
theorem Dw.drew  {F:Nat->Prop} (h:Dw F F1 w w1) (d:Df w1 w2):Dw F F1 w w2:=by obtain ⟨m,rfl⟩:=d;exact ⟨h.os,h.tape,h.output,h.size,h.block,h.new⟩
theorem Cr  {F:Nat->Prop} (h:Dw F F1 w w1) (hb:AD w1 w2):Dw F F1 w w2:=h.trans (.of_below hb)
theorem Dw.upd  {F:Nat->Prop} (h:Dw F F1 w w1) (hu:E6 c w1 w2) (hc:w.heap.size<=c):Dw F F1 w w2 :=
 ⟨hu.os.trans h.os,hu.tape.trans h.tape,hu.output.trans h.output,BA h.size hu.size,λk hk hn=>(hu.other k oO).trans (h.block k hk hn),h.new⟩
theorem Dw.nf  {F:Nat->Prop} (h:Dw F F1 w w1) (hn:¬ F c) (hl:c<w.heap.size):¬ F1 c:=λhc=>(h.new c hc).elim hn (λhg=>by omega)
theorem Be.chg  {F:Nat->Prop} {cs:Array Value} {t:TypeId} (h:Be w c cs t) (hC:Dw F F1 w w1) (hn:¬ F c):Be w1 c cs t:=(hC.block c h.lt hn).trans h
theorem Ay.chg  {F:Nat->Prop} {l:l8_} (h:Ay w p l) (hC:Dw F F1 w w1) (hn:0<l.length->¬ F (pA p).block):Ay w1 p l :=
 ⟨h.isp,λj hj=>by rw [World.cell?_of_block (w:=w) (by rw [Fz];exact hC.block _ (h.lt oO) (hn oO))];exact h.cells j hj⟩
end
section
theorem Wh  {L:Fq α} {L':Fq β} {e':TypeId} {B':Nat} {l:List α} {l':List β} (h:AJ L e B w v l) (h':AJ L' e' B' w v' l') (he:e≠e'):∀ g,v.ownBlock=some g->v'.ownBlock≠some g:=λg hg hg'=>by
 rcases h with ⟨rfl,-⟩ | ⟨g1,cap,cur,rfl,-,h1,-⟩
 · cases hg
 ·
  rcases h' with ⟨rfl,-⟩ | ⟨g2,cap',cur',rfl,-,h2,-⟩
  · cases hg'
  ·
   cases hg;cases hg'
   rw [h1] at h2
   simp only [Br,Obj.cells.injEq] at h2
   exact he h2.2.1
def Mv (Z Z1:Nat->Prop) (w w1:World):Prop:=w.heap.size<=w1.heap.size/\∀ g,Z g->w1.heap[g]?=w.heap[g]?/\Z1 g
def Eh (c:Nat) (F:Nat->Prop) (w:World) (g:Nat):Prop:=g<w.heap.size/\¬ F g/\g≠c
structure QD where
 fs:List LO
 c:Nat
section
variable {Z Z1:Nat->Prop} {w w1:World}
theorem Eh.mv  {F:Nat->Prop} (h:Dw F F1 w w1):Mv (Eh c F w) (Eh c F1 w1) w w1:=⟨h.size,λg hg=>⟨h.block g hg.1 hg.2.1,C6 hg.1 h.size,h.nf hg.2.1 hg.1,hg.2.2⟩⟩
structure Cn {α:Type} (L:Fq α) (Z:Nat->Prop) (w:World) (p:Option Addr) (l:List α) (c:Nat):Prop where
 row:Bi L w p l
 sl:Lf p l c
 inn:0<l.length->Z (pA p).block
theorem Cn.mv  {L:Fq α} {l:List α} (h:Cn L Z w p l c) (m:Mv Z Z1 w w1):Cn L Z1 w1 p l c:=⟨h.row.same λh0=>(m.2 _ (h.inn h0)).1,h.sl,λh0=>(m.2 _ (h.inn h0)).2⟩
theorem Cn.nil  (L:Fq α) (Z:Nat->Prop) (w:World):Cn L Z w none [] 0:=⟨Bi.nil w,Lf.z,λh=>D6 h (by simp)⟩
theorem Cn.own  {L:Fq α} {l:List α} (h:AJ L e B w v l) (hz:∀ g,v.ownBlock=some g->Z g):∃ p c,v=.slice p l.length c/\Cn L Z w p l c:=by
 obtain ⟨p,c,rfl,hr,hb,hc,hn,ho,hm,hx⟩:=h.row
 refine ⟨p,c,rfl,hr,⟨hc,hm,hn,λhp=>?_⟩,λa=>hz _ (by rw [ho,hr.isp a];rfl)⟩
 subst hp
 have hl:l=[]:=by
  cases l with
  | nil=>rfl
  | cons x r=>have:=hr.isp (by simp);cases this
 exact ⟨hl,(hn hl).resolve_right (by simp)⟩
structure Th (Z:Nat->Prop) (w:World) (p:Option Addr) (l:l8_) (c:Nat):Prop where
 row:Ay w p l
 sl:Lf p l c
 inn:0<l.length->Z (pA p).block
theorem Th.mv  {l:l8_} (h:Th Z w p l c) (m:Mv Z Z1 w w1):Th Z1 w1 p l c :=
 ⟨⟨h.row.isp,λj hj=>by rw [World.cell?_of_block (w:=w) (by rw [Fz];exact (m.2 _ (h.inn oO)).1)];exact h.row.cells j hj⟩,h.sl,λh0=>(m.2 _ (h.inn h0)).2⟩
theorem Th.nil (Z:Nat->Prop) (w:World):Th Z w none [] 0:=⟨⟨λh=>D6 h (by simp),λj h=>D6 h (by simp)⟩,Lf.z,λh=>D6 h (by simp)⟩
abbrev Lh (Z:Nat->Prop) (w:World) (x:Bm):Prop:=Cn EX Z w x.pfPath x.fPath x.cfPath
abbrev YV (Z:Nat->Prop) (w:World) (x:DP):Prop:=Cn QM Z w x.pfDash x.fDash x.cfDash
structure Lg (Z:Nat->Prop) (w:World) (x:AN):Prop where
 path:Cn EX Z w x.pfPath x.fPath x.cfPath
 clips:Cn G0 Z w x.pfClips x.fClips x.cfClips
 all:∀ y∈x.fClips,Lh Z w y
 pen:YV Z w x.fPen
 bytes:Th Z w x.pfBytes x.fBytes x.cfBytes
theorem Lg.mv {x:AN} (h:Lg Z w x) (m:Mv Z Z1 w w1):Lg Z1 w1 x:=⟨h.path.mv m,h.clips.mv m,λy hy=>(h.all y hy).mv m,h.pen.mv m,h.bytes.mv m⟩
structure Xj (Z:Nat->Prop) (w:World) (h:StH) (s:SB):Prop where
 ctm:h.ctm=s.ctm
 fill:h.fill=s.fill
 stroke:h.stroke=s.stroke
 pen:FM h.pen=s.pen
 penr:YV Z w h.pen
 clips:∃ p c l,h.clips=.slice p l.length c/\Cn G0 Z w p l c/\(∀ y∈l,Lh Z w y)/\l.map FL=s.clips
 font:h.font=s.font
 size:h.size=s.size
theorem Xj.mv {h:StH} {s:SB} (q:Xj Z w h s) (m:Mv Z Z1 w w1):Xj Z1 w1 h s:=by
 obtain ⟨p,c,l,a,b,d,e⟩:=q.clips
 exact ⟨q.ctm,q.fill,q.stroke,q.pen,q.penr.mv m,⟨p,c,l,a,b.mv m,λy hy=>(d y hy).mv m,e⟩,q.font,q.size⟩
def SvR (Z:Nat->Prop) (w:World) (hs:List StH) (ss:List SB):Prop:=hs.length=ss.length/\∀ i (h1:i<hs.length) (h2:i<ss.length),Xj Z w hs[i] ss[i]
theorem SvR.mv {hs:List StH} {ss:List SB} (q:SvR Z w hs ss) (m:Mv Z Z1 w w1):SvR Z1 w1 hs ss:=⟨q.1,λi h1 h2=>(q.2 i h1 h2).mv m⟩
def YX (Z:Nat->Prop) (w:World) (cs:List PC) (args:List PV):Prop:=cs.length=args.length/\∀ i (h1:i<cs.length) (h2:i<args.length),Dv w Z cs[i] args[i]
theorem Dv.mv {x:PC} {o:PV} (h:Dv w Z x o) (m:Mv Z Z1 w w1):Dv w1 Z1 x o :=
 (h.same λk hk _=>(m.2 k hk).1).mono λk hk _=>(m.2 k hk).2
theorem YX.mv {cs:List PC} {args:List PV} (q:YX Z w cs args) (m:Mv Z Z1 w w1):YX Z1 w1 cs args:=⟨q.1,λi h1 h2=>(q.2 i h1 h2).mv m⟩
theorem YX.nil (Z:Nat->Prop) (w:World):YX Z w [] []:=⟨rfl,λi h=>D6 h (by simp)⟩
end
def ftV (x:LO):List Value:=[.string (bs x.name),Ah x.font]
def ftL:Fq LO:=⟨2,ftV,dD,λ_=>rfl,λx u hu=>At.1 (show (ftV x).all Value.oneCell'=true from rfl) u hu⟩
structure Vf where
 ctm:M6
 fill:Cj
 stroke:Cj
 pen:DP
 pc:Option Addr
 nc:Nat
 cc:Nat
 font:Int
 size:Int
def Vf.h (s:Vf):StH:=⟨s.ctm,s.fill,s.stroke,s.pen,.slice s.pc s.nc s.cc,s.font,s.size⟩
def stY:Fq Vf:=⟨25,λs=>stV s.h,dD,λ_=>rfl,λx u hu=>At.1 (show (stV x.h).all Value.oneCell'=true from rfl) u hu⟩
theorem Xj.cells  {h:StH} {s:SB} (q:Xj Z w h s):∃ c:Vf,h=c.h:=by
 obtain ⟨p,c,l,a,-⟩:=q.clips
 exact ⟨⟨h.ctm,h.fill,h.stroke,h.pen,p,l.length,c,h.font,h.size⟩,by cases h;simp only at a;subst a;rfl⟩
structure VwO (B:Nat) (w:World) (bv:Nat) (H:QA) (vp:Value) (V:Vw) (its:List AN) (hs:List Vf) (cs:List PC):Prop where
 blk:Be w bv (FA H).toArray 74
 pth:CU B w H.path 4096 V.path vp
 oi:AJ JW 44 B w H.items its
 os:AJ stY 68 B w H.saved hs.reverse
 oa:AJ NF 99 B w H.args cs
 lbv:B<=bv
 lbp:B<=H.path
structure VwR (Z:Nat->Prop) (w:World) (H:QA) (fs:QD) (V:Vw) (args:List PV) (its:List AN) (hs:List Vf) (cs:List PC):Prop where
 st:Xj Z w H.s V.s
 sv:SvR Z w (hs.map Vf.h) V.saved
 it:its.map JA=V.items
 itr:∀ x∈its,Lg Z w x
 ar:YX Z w cs args
 clip:H.clip=V.clip
 inText:H.inText=V.inText
 lost:H.lost=V.lost
 text:H.text=V.text
 line:H.line=V.line
 fonts:∃ p c,H.fonts=.slice p fs.fs.length c/\Cn ftL Z w p fs.fs c
 cx:fs.c<w.heap.size
theorem VwR.mv  {Z1:Nat->Prop} {H:QA} {fs:QD} {V:Vw} {args:List PV} {its:List AN} {hs:List Vf} {cs:List PC} (q:VwR Z w H fs V args its hs cs) (m:Mv Z Z1 w w1):VwR Z1 w1 H fs V args its hs cs:=by
 obtain ⟨p,c,a,b⟩:=q.fonts
 exact ⟨q.st.mv m,q.sv.mv m,q.it,λx hx=>(q.itr x hx).mv m,q.ar.mv m,q.clip,q.inText,q.lost,q.text,q.line,⟨p,c,a,b.mv m⟩,C6 q.cx m.1⟩
def GG (bv:Nat) (H:QA) (vp:Value) (g:Nat):Prop:=g=bv\/g=H.path\/vp.ownBlock=some g\/H.items.ownBlock=some g\/H.saved.ownBlock=some g\/H.args.ownBlock=some g
structure Ga (B:Nat) (fs:QD) (w:World) (bv:Nat) (F:Nat->Prop) (V:Vw) (args:List PV):Prop where
 mem:∃ H vp its hs cs,F=GG bv H vp/\VwO B w bv H vp V its hs cs/\VwR (Eh fs.c F w) w H fs V args its hs cs
theorem VwO.inn  {H:QA} {V:Vw} {its:List AN} {hs:List Vf} {cs:List PC} (h:VwO B w bv H vp V its hs cs):∀ g,GG bv H vp g->B<=g/\g<w.heap.size:=by
 rintro g (rfl | rfl | hg | hg | hg | hg)
 · exact ⟨h.lbv,h.blk.lt⟩
 · exact ⟨h.lbp,h.pth.blk.lt⟩
 · exact h.pth.own.lt g hg
 · exact h.oi.lt g hg
 · exact h.os.lt g hg
 · exact h.oa.lt g hg
theorem VwO.same  {H:QA} {V:Vw} {its:List AN} {hs:List Vf} {cs:List PC} (h:VwO B w bv H vp V its hs cs) (hs':w.heap.size<=w1.heap.size) (hb:∀ g,GG bv H vp g->w1.heap[g]?=w.heap[g]?):VwO B w1 bv H vp V its hs cs :=
 ⟨(hb _ (.inl rfl)).trans h.blk,⟨(hb _ (.inr (.inl rfl))).trans h.pth.blk,h.pth.own.same λg hg=>hb g (.inr (.inr (.inl hg))),h.pth.len,BA h.pth.base hs'⟩,
  h.oi.same λg hg=>hb g (.inr (.inr (.inr (.inl hg)))),h.os.same λg hg=>hb g (.inr (.inr (.inr (.inr (.inl hg))))),h.oa.same λg hg=>hb g (.inr (.inr (.inr (.inr (.inr hg))))),h.lbv,h.lbp⟩
section
variable {B:Nat} {fs:QD} {w w1:World} {bv:Nat} {F F1:Nat->Prop} {V:Vw} {args:List PV}
theorem Ga.lt (h:Ga B fs w bv F V args):∀ g,F g->B<=g/\g<w.heap.size:=by
 obtain ⟨H,vp,its,hs,cs,rfl,hO,-⟩:=h.mem
 exact hO.inn
theorem Ga.same (h:Ga B fs w bv F V args) (hb:AD w w1):Ga B fs w1 bv F V args:=by
 obtain ⟨H,vp,its,hs,cs,e,hO,hR⟩:=h.mem
 subst e
 exact ⟨H,vp,its,hs,cs,rfl,hO.same hb.size λg hg=>hb.block g (hO.inn g hg).2,hR.mv ⟨hb.size,λg hg=>⟨hb.block g hg.1,C6 hg.1 hb.size,hg.2⟩⟩⟩
def Iq (N:Nat) (B:Nat) (fs:QD) (w:World) (bv:Nat) (F:Nat->Prop) (V:Vw) (args:List PV):Prop :=
 ∃ w0:World,w0.heap.size=N/\Ga B fs w0 bv F V args/\∀ k,k<N->w.heap[k]?=w0.heap[k]?
theorem Iq.same {N:Nat} (h:Iq N B fs w bv F V args) (hb:∀ k,k<N->k<w.heap.size->w1.heap[k]?=w.heap[k]?):Iq N B fs w1 bv F V args:=by
 obtain ⟨e,b,f,c⟩:=h
 refine ⟨e,b,f,λk hk=>(hb k hk ?_).trans (c k hk)⟩
 rcases BL k w.heap.size with a | a
 · exact a
 ·
  have d:=c k hk
  rw [CL a,Fd (b▸hk)] at d
  cases d
abbrev Kc:=@Iq.same
theorem Iq.of (h:Ga B fs w bv F V args):Iq w.heap.size B fs w bv F V args:=⟨w,rfl,h,λ_ _=>rfl⟩
theorem Iq.get  (h:Iq N B fs w bv F V args):Ga B fs w bv F V args:=by
 obtain ⟨a,rfl,j,d⟩:=h
 obtain ⟨H,vp,its,hs,cs,e,hO,hR⟩:=j.mem
 subst e
 have b:∀ k,k<a.heap.size->k<w.heap.size:=λk hk=>by
  rcases BL k w.heap.size with f | f
  · exact f
  ·
   have i:=d k hk
   rw [CL f,Fd hk] at i
   cases i
 have c:a.heap.size<=w.heap.size:=by
  rcases HR a.heap.size with l | l
  · omega
  · have:=b (a.heap.size-1) oO;omega
 exact ⟨H,vp,its,hs,cs,rfl,hO.same c λg hg=>d g (hO.inn g hg).2,hR.mv ⟨c,λg hg=>⟨d g hg.1,b g hg.1,hg.2⟩⟩⟩
end
end
section
theorem BM.mkFv  {F:FuncId} {xs:List Operand} (hx:QO f xs=some vs):BM P (.makeFunc (.func F) #[] xs.toArray) f (.func (.func F) #[] vs.toArray):=λρ hρ d ty pos aft g w=>by
 have e:=Kp hρ _ _ hx
 have hargs:xs.toArray.map ρ=vs.toArray:=by simp [e]
 unfold execOp
 simp only [hargs,List.map_toArray,Da]
 rfl
theorem A16 (p:Option Addr) (n c:Nat) (w:World) :
  Calls Tryz.prog 107 #[.slice p n c,Ah 2] w λe w'=>∃ x:Nat × Nat,e=.returned (.func (.func 145) #[] #[ptV x.1,ptV x.2])/\AD w w'/\Be w' x.1 #[.slice p n c] 39/\Be w' x.2 #[Ah 2] 3/\w.heap.size<=x.1/\w.heap.size<=x.2:=by
 refine Av func107 rfl ntmps107 ?_
 have i:=DR w
 refine A5<|D5 rfl rfl (λj v k a g t=>?_)
 have l:=uB i k g
 refine D5 rfl rfl (λm y f b d u=>?_)
 have o:=Bx f a.lt
 have q:=a.un d o
 have s:=uB l f d
 refine Ab rfl<|Aj<|A5<|Ai (Af (BE _) rfl b rfl)<|A1 (.bis (false) (.lss rfl rfl) dD)<|A0<|E4 rfl rfl<|Ap<|A5<|A1 (.mkFv rfl)<|Ab rfl<|AI ?_
 exact ⟨(j,m),rfl,s,q,b,by show w.heap.size<=j;omega,by show w.heap.size<=m;omega⟩
end
section
theorem Pz (m:M6):∀ (k:Nat) (a b:List Int),a.length=2 * k->Dx m (a++b)=(Dx m a>>=λq=>Dx m b>>=λr=>.ok (q++r))
 | 0,a,b,h=>by
  obtain rfl:=CM (by omega:a.length=0)
  show Dx m b=(Dx m b>>=λr=>.ok ([]++r))
  cases Dx m b <;> rfl
 | k+1,[],b,h=>by simp at h
 | k+1,[x],b,h=>by simp at h;omega
 | k+1,x::y::a,b,h=>by
  have ih:=Pz m k a b (by simp at h;omega)
  show (NO m x y>>=λp=>Dx m (a++b)>>=λq=>pure (p::q))=((NO m x y>>=λp=>Dx m a>>=λq=>pure (p::q))>>=λq=>Dx m b>>=λr=>.ok (q++r))
  rw [ih]
  cases NO m x y with
  | error e=>rfl
  | ok p =>
   cases Dx m a with
   | error e=>rfl
   | ok q =>
    show ((Dx m b>>=λr=>.ok (q++r))>>=λq=>pure (p::q))=(Dx m b>>=λr=>.ok (p::q++r))
    cases Dx m b <;> rfl
theorem A18 (m:M6) (x y:Int):Dx m [x,y]=(NO m x y).map λp=>[p]:=by
 show (NO m x y>>=λp=>Dx m []>>=λq=>pure (p::q))=_
 cases NO m x y <;> rfl
theorem A2i {l:List Int} {k:Nat} (h:2 * k+1<l.length):l.take (2 * (k+1))=l.take (2 * k)++[l[2 * k],l[2 * k+1]]:=by
 rw [show 2 * (k+1)=2 * k+1+1 by omega,Bd oO,Bd oO,AB];rfl
theorem S1 {m:M6} {l:List Int} {k:Nat} {q:List BH} (h:2 * k+1<l.length) (hq:Dx m (l.take (2 * k))=.ok q):Dx m (l.take (2 * (k+1)))=(NO m l[2 * k] l[2 * k+1]).map λp=>q++[p]:=by
 rw [A2i h,Pz m k _ _ (by rw [AT];omega),hq,A18]
 cases NO m l[2 * k] l[2 * k+1] <;> rfl
theorem A19 {m:M6} {l:List Int} {k:Nat} {q:List BH} {e:Int} (h:2 * k+1<l.length) (hq:Dx m (l.take (2 * k))=.ok q) (he:NO m l[2 * k] l[2 * k+1]=.error e):Dx m l=.error e:=by
 have a:l=l.take (2 * (k+1))++l.drop (2 * (k+1)):=(Fh _ _).symm
 rw [a,Pz m (k+1) _ _ (by rw [AT];omega),S1 h hq,he];rfl
end
section
def wpF (P:Program) (fid:FuncId) (c:Code) (Q:Exit->Act->World->Prop) (a:Act) (w:World):Prop :=
 ∀ (b:Frame) (k:List Item) (cs:List Frame),b.roundOf=none->b.fn=fid ->
  ∃ e a' w',Q e a' w'/\ArrivesIn (Machine.fenced P Fence.wide) P (lone (b.atR a (.code c::k)) cs w) b k cs e a' w'
section
variable {P:Program} {fid:FuncId} {Q:Exit->Act->World->Prop} {a:Act} {w:World}
theorem A1T {c:Code} (h:c.wp P Q a w):wpF P fid c Q a w:=λb k cs hro _=>(wpIn_wide (n:=1)).2 h b k cs hro trivial (room_wide _)
def A8p (P:Program) (fid:FuncId) (y:Code) (Q:Exit->Act->World->Prop):Exit->Act->World->Prop
 | .normal,a,w=>wpF P fid y Q a w
 | .ret,_,_=>False
 | .exit _,_,_=>False
 | .goto _,_,_=>False
 | e,a,w=>Q e a w
theorem YY {x y:Code} (h:wpF P fid x (A8p P fid y Q) a w):wpF P fid (.seq x y) Q a w:=by
 intro b k cs d hb
 obtain ⟨e,a₁,w₁,hq,c⟩:=h b (.code y::k) cs d hb
 have f:StepsIn (Machine.fenced P Fence.wide) P (lone (b.atR a (.code (.seq x y)::k)) cs w) (lone (b.atR a (.code x::.code y::k)) cs w) :=
  .one (fenced_wide _ _) (by rw [Frame.atR_of_none d,Frame.atR_of_none d];exact step_seq)
 cases e with
 | normal =>
  obtain ⟨e₂,a₂,w₂,hq₂,harr₂⟩:=hq b k cs d hb
  exact ⟨e₂,a₂,w₂,hq₂,.of_steps (StepsIn.trans f c) harr₂⟩
 | panic ch =>
  obtain ⟨todo,hs⟩:=c
  exact ⟨.panic ch,a₁,w₁,hq,todo,StepsIn.trans f hs⟩
 | outgrown=>exact ⟨.outgrown,a₁,w₁,hq,ArrivesIn.of_steps (e:=.outgrown) f c⟩
 | exit id=>exact hq.elim
 | goto l=>exact hq.elim
 | ret=>exact hq.elim
theorem A04 {g:Operand} {ps:Array Tmp} {assign body:Code} {gf:Nat} {lb:Array Value} (hg:a.eval g=.func (.func gf) #[] lb) (eg:∀ args w,(callFunc gf args).run P w=.ok (.enter gf args) w)
  (h : Calls P gf (#[.func (.yield (w.heap.size + 1)) #[] #[]] ++ lb) (VO fid a ps assign body w) (fun
   | .returned _,w3=>∃ w4,(Instr.endLoop (w.heap.size+1)).run P w3=.ok none w4/\Q .normal { a with defers:={ target:=.collected w.heap.size,args:=#[] }::a.defers } w4
   | .panicked c,w3=>Q (.panic c) { a with defers:={ target:=.collected w.heap.size,args:=#[] }::a.defers } w3
   | .outgrown,_=>False)) :
  wpF P fid (.rangeFunc g ps assign body) Q a w:=by
 intro b k cs o hb
 have he:(Instr.enterLoop b.fn a.tmps ps assign body b.roundOf).run P w=.ok (w.heap.size+1,[{ target:=.collected w.heap.size,args:=#[] }]) (VO fid a ps assign body w):=by
  rw [o,hb];exact run_enterLoop_outer _ _ _ _ _
 have j:(resolve a.eval (rangeCall g (w.heap.size+1)) 0).run P (VO fid a ps assign body w)=.ok { target:=.fn (.func gf) lb,args:=#[.func (.yield (w.heap.size+1)) #[] #[]] } (VO fid a ps assign body w):=by
  simp only [resolve,hg]
  simp [go_sem]
 have l:(invoke (.fn (.func gf) lb) #[.func (.yield (w.heap.size+1)) #[] #[]]).run P (VO fid a ps assign body w)=.ok (.enter gf (#[.func (.yield (w.heap.size+1)) #[] #[]]++lb)) (VO fid a ps assign body w):=by
  simp [invoke,go_sem,eg]
 have d:=stepR_rangeFunc (P:=P) (b:=b) (a:=a) (k:=k) (cs:=cs) (w:=w) he j l
 obtain ⟨e,w₃,fr,hR,f,q,i⟩:=h (b.atR { a with defers:=[{ target:=.collected w.heap.size,args:=#[] }]++a.defers } (.inRangeFunc (w.heap.size+1)::k)::cs)
 cases e with
 | outgrown=>exact hR.elim
 | returned v =>
  obtain ⟨w₄,m,hq⟩:=hR
  refine ⟨.normal,_,w₄,hq,?_⟩
  refine .head (fenced_wide _ _) d (StepsIn.trans (stepsIn_wide.2 f) (.head (fenced_wide _ _) ?_ (.one (fenced_wide _ _) (stepR_endRangeFunc m))))
  rw [<- finish_atR_inRangeFunc _ v];exact step_leave_returned i
 | panicked chain =>
  refine ⟨.panic chain,_,w₃,hR,.inRangeFunc (w.heap.size+1)::k,.head (fenced_wide _ _) d (StepsIn.trans (stepsIn_wide.2 f) (.one (fenced_wide _ _) ?_))⟩
  rw [<- Frame.raise_atR];exact step_leave_panicked i
def A7p (Q:Exit->Act->World->Prop):Exit->Act->World->Prop
 | .normal,a,w=>Q .normal a w
 | .panic c,a,w=>Q (.panic c) a w
 | _,_,_=>False
theorem A05  {c:Code} (h:wpF P fid c (A7p Q) a w):wpF P fid (.block id c) Q a w:=by
 intro b k cs d hb
 obtain ⟨e,a₁,w₁,hq,f⟩:=h b (.inBlock id::k) cs d hb
 have g:StepsIn (Machine.fenced P Fence.wide) P (lone (b.atR a (.code (.block id c)::k)) cs w) (lone (b.atR a (.code c::.inBlock id::k)) cs w) :=
  .one (fenced_wide _ _) (by rw [Frame.atR_of_none d,Frame.atR_of_none d];exact step_block)
 cases e with
 | normal=>exact ⟨.normal,a₁,w₁,hq,StepsIn.trans g (StepsIn.trans f (.one (fenced_wide _ _) (by rw [Frame.atR_of_none d,Frame.atR_of_none d];exact step_inBlock)))⟩
 | panic ch =>
  obtain ⟨todo,hs⟩:=f
  exact ⟨.panic ch,a₁,w₁,hq,todo,StepsIn.trans g hs⟩
 | outgrown=>exact hq.elim
 | exit id=>exact hq.elim
 | goto l=>exact hq.elim
 | ret=>exact hq.elim
def QF (n:Sh) (K:Fr->World->Prop) (POST:Exit->Act->World->Prop):Exit->Fr->World->Prop
 | .normal,f,w=>K f w
 | .panic c,f,w=>∀ a,LK n f a->POST (.panic c) a w
 | _,_,_=>False
theorem P5 {n:Sh} {c1 c2:Code} (h:W P n c1 (QF n (λf w=>∀ a,LK n f a->wpF P fid c2 Q a w) Q) f w):∀ a,LK n f a->wpF P fid (.seq c1 c2) Q a w:=by
 intro a ha
 unfold W at h
 refine YY (A1T (wp_mono (h a ha) ?_))
 rintro e a w ⟨g,hg,hq⟩
 cases e with
 | normal=>exact hq a hg
 | panic c=>exact hq a hg
 | _=>exact hq.elim
theorem Va {fn:Func} {c:Code} {args:Array Value} (hf:P.funcs[fid]?=some fn) (hb:fn.body=some c) {k:Nat} (hn:fn.ntmps=k) (hl:args.size<=k)
  (h:∀ a,LK ⟨k,[]⟩ (KD 0 args.toList) a->wpF P fid c (bodyPostM Fence.wide 1 P fn R) a w):Calls P fid args w R:=by
 refine (callsIn_wide (n:=1)).1 ⟨trivial,λcs hr=>?_⟩
 let b:Frame:={ (default:Frame) with fn:=fid,kind:=.normal,roundOf:=none }
 have m:LK ⟨k,[]⟩ (KD 0 args.toList) { tmps:=args++Array.replicate (fn.ntmps-args.size) undef,defers:=[] }:=by
  refine ⟨rfl,by simp [hn];omega,?_⟩
  intro i v hv
  obtain ⟨j,e,hj⟩:=Kh _ _ _ _ hv
  obtain rfl:i=j:=by omega
  have o:i<args.size:=by
   rcases BL i args.size with h | h
   · exact h
   · rw [AO (by simpa using h)] at hj;cases hj
  rw [Dz] at hj
  rw [Ba,Array.getElem?_append_left o,hj];rfl
 have g:Frame.enter P fid args .normal=b.atR { tmps:=args++Array.replicate (fn.ntmps-args.size) undef,defers:=[] } [.code c]:=by
  simp [Frame.enter,Frame.atR,hf,hb,b]
 obtain ⟨e,a',w',hq,d⟩:=h _ m b [] cs rfl rfl
 rw [<- g] at d
 cases e with
 | normal =>
  obtain ⟨e',w'',fr',hR,hs,f,hl⟩:=leaves_stepsInM (n:=1) a'.defers .returning w' { b.atR a' [] with mode:=.returning } cs rfl rfl rfl hf rfl trivial hr hq
  exact ⟨e',w'',fr',hR,ComesIn.of_steps (StepsIn.trans d (.one (fenced_wide _ _) (stepR_end rfl))) hs,f,hl⟩
 | ret =>
  obtain ⟨todo,hs₀⟩:=d.1 rfl
  obtain ⟨e',w'',fr',hR,hs,f,hl⟩:=leaves_stepsInM (n:=1) a'.defers .returning w' { b.atR a' todo with mode:=.returning } cs rfl rfl rfl hf rfl trivial hr hq
  exact ⟨e',w'',fr',hR,ComesIn.of_steps hs₀ hs,f,hl⟩
 | panic chain =>
  obtain ⟨todo,hs₀⟩:=d
  obtain ⟨e',w'',fr',hR,hs,f,hl⟩:=leaves_stepsInM (n:=1) a'.defers (.panicking chain) w' { b.atR a' todo with mode:=.panicking chain } cs rfl rfl rfl hf rfl trivial hr hq
  exact ⟨e',w'',fr',hR,ComesIn.of_steps hs₀ hs,f,hl⟩
 | exit id=>exact hq.elim
 | goto l=>exact hq.elim
 | outgrown=>exact ⟨.outgrown,w',b,hq,d.resolve_left (by simp [b]),rfl,tT⟩
end
end
section
section
variable {P:Program} {n:Sh} {f:Fr} {w:World} {Q:Exit->Fr->World->Prop} {m lo:Nat}
theorem A3a {l:List Oper} (h:l.all RH=true):∀ o∈l.toArray.toList,∀ c,o.op≠.defer c:=by
 rw [List.toList_toArray];exact A39 h
theorem Zq (hno:∀ f w,¬ Q .outgrown f w):¬ LetsOut (Hq n Q):=λ⟨_,_,f,_,hq⟩=>hno f _ hq
theorem A4s  {l:List Oper} (hd:l.all RH=true) (hno:∀ f w,¬ Q .outgrown f w) (h:WL P n l.toArray Q l f w) :
  ∀ a,LK n f a->(Code.region id l.toArray false).wpIn (Fence.wide.inRound lo) m P (Hq n Q) a w:=λa ha =>
 Nw (A3a hd) (Zq hno) (by
  unfold WL at h
  have h1:=h a ha
  rw [List.range_eq_range',<- Array.length_toList,wpOps_eq_wpList l.toArray.toList 0 (by simp),List.toList_toArray]
  exact h1)
theorem A4t  {l:List Oper} (hN:l.length=N) (hm:P.follows .mixedOrders=true) (S:World->Prop) (hd:l.all RH=true) (hno:∀ f w,¬ Q .outgrown f w)
  (h:∀ w1,Df w w1->WH P n l.toArray Q S N (Array.replicate N false) f w1):∀ a,LK n f a->(Code.region id l.toArray true).wpIn (Fence.wide.inRound lo) m P (Hq n Q) a w:=λa ha =>
 O4 hm (A3a hd) (Zq hno) (wpAny_of_held (S:=S) _ _ _ _ (by
  subst hN
  have h1:=h (w.drewN 1) ⟨1,rfl⟩
  unfold WH at h1
  have:=h1 a ha
  rw [show l.toArray.size=l.length by simp]
  exact this))
end
end
section
section
variable {P:Program} {fid:FuncId} {f:Fr} {a:Act} {w:World} {n D L:Nat} {Ds:List Deferred} {t:Nat} {v:Value} {assign body:Code} {R:Ending->World->Prop}
def QR (P:Program) (L:Nat) (R:Ending->World->Prop):Exit->Fr->World->Prop
 | .normal,_,w=>∃ v w',(Instr.endRound L none).run P w=.ok v w'/\R (.returned v) w'
 | .panic c,_,w=>R (.panicked c) w
 | _,_,_=>False
def QS (K:Fr->World->Prop):Exit->Fr->World->Prop
 | .normal,f,w=>K f w
 | _,_,_=>False
theorem A4O (ha:LK ⟨n,Ds⟩ f a) (ht:Nat.blt t n=true) {fn:Func} (hf:P.funcs[fid]?=some fn) (hL:w.heap[L]?=some (.loop (Oh fid a #[t] assign body D .ready none)))
  (h : ∀ a', LK ⟨n, []⟩ ((t, v) :: f) a' → assign.wpIn (Fence.wide.inRound L) 0 P (Hq ⟨n, []⟩ (QS fun g w1 => w1.heap[L]? = some (.loop (Oh fid a #[t] assign body D .ready none)) ∧
   ∀ a2,LK ⟨n,[]⟩ g a2->body.wpIn (Fence.wide.inRound L) 0 P (Hq ⟨n,[]⟩ (QR P L R)) a2 (w1.putObj L (.loop { Oh fid a #[t] assign body D .ready none with state:=.busy })))) a' w) :
  YieldAt Fence.wide 0 P L #[v] w R:=by
 refine ⟨fid,a.tmps.setIfInBounds t v,assign,body,?_,Pg trivial ⟨fn,hf⟩ ?_⟩
 ·
  have i:=run_yield (P:=P) (args:=#[v]) hL rfl
  simpa [Oh] using i
 have hr:LK ⟨n,[]⟩ ((t,v)::f) { tmps:=a.tmps.setIfInBounds t v,defers:=[] }:=by
  have i:=ha.put (d:=t) ht v
  exact ⟨rfl,i.2.1,i.2.2⟩
 refine wpIn_mono (h _ hr) ?_
 rintro e l w1 ⟨g,hg,hq⟩
 cases e with
 | normal =>
  obtain ⟨j,hb⟩:=hq
  refine ⟨_,run_beginRound j rfl,wpIn_mono (hb l hg) ?_⟩
  rintro e a2 m ⟨o,k,b⟩
  cases e with
  | normal=>exact b
  | panic c=>exact ⟨k.1,b⟩
  | _=>exact b.elim
 | _=>exact hq.elim
end
end
section
theorem Uh  {l:List Int} (h:AZ E5 w p l) (k:Nat) (hk:2 * k+1<l.length):AZ E5 w (p.map (·.add (2 * k))) [l[2 * k],l[2 * k+1]]:=by
 have hp:=h.isp oO
 rw [hp,Option.map_some]
 refine ⟨λ_=>rfl,λj hj=>?_⟩
 have a:j=0\/j=1:=by simp at hj;omega
 show w.cell? (((pA p).add (2 * k)).add j)=_
 rw [JI]
 rcases a with rfl | rfl
 · exact h.cells (2 * k) oO
 · exact h.cells (2 * k+1) hk
end
section
def Fg (w:World) (b:Nat) (o:Obj):Prop:=w.heap[b]?=some o
section
variable {w w1:World} {b:Nat} {o:Obj}
theorem Fg.lt (h:Fg w b o):b<w.heap.size:=(BJ.1 h).1
theorem Fg.drew (h:Fg w b o) (d:Df w w1):Fg w1 b o:=by obtain ⟨m,rfl⟩:=d;exact h
theorem Fg.below  (h:Fg w b o) (hb:Below B w w1) (hl:b<B):Fg w1 b o:=(hb.block b hl).trans h
theorem Fg.upd  (h:Fg w b o) (hu:E6 c w w1) (hn:b≠c):Fg w1 b o:=(hu.other b hn).trans h
theorem Fg.bl  {b:Nat} {o:Obj} (h:Fg w b o) (hb:AD w w1):Fg w1 b o:=h.below hb h.lt
theorem Fg.up  {b:Nat} {o:Obj} (h:Fg w b o) (hu:E6 c w w1) (hne:b≠c:=by ((try simp only) <;> omega)):Fg w1 b o:=h.upd hu hne
theorem Fg.un  {b:Nat} {o:Obj} (h:Fg w b o) (hu:E6 c w w1) (hl:b<c):Fg w1 b o:=h.upd hu (A9v hl)
theorem A0H (h:b<w.heap.size):Fg (w.putObj b o) b o:=by
 show (w.putObj b o).heap[b]?=some o
 simp [World.putObj,h]
theorem NE:E6 b w (w.putObj b o):=⟨rfl,rfl,rfl,by simp [World.putObj],λk hk=>by simp [World.putObj,Array.getElem?_setIfInBounds_ne (λe=>hk e.symm)]⟩
end
theorem A5b (fid:FuncId) (a:Act) (ps:Array Tmp) (assign body:Code) (w:World) :
  AD w (VO fid a ps assign body w)/\Fg (VO fid a ps assign body w) w.heap.size (.deferred (some [])) /\
   Fg (VO fid a ps assign body w) (w.heap.size+1) (.loop (Oh fid a ps assign body w.heap.size .ready none))/\(VO fid a ps assign body w).heap.size=w.heap.size+2:=by
 have e:(VO fid a ps assign body w).heap=(w.heap.push (.deferred (some []))).push (.loop (Oh fid a ps assign body w.heap.size .ready none)):=rfl
 have b:(VO fid a ps assign body w).os=w.os:=rfl
 have c:(VO fid a ps assign body w).tape=w.tape:=rfl
 have d:(VO fid a ps assign body w).output=w.output:=rfl
 unfold Fg
 generalize VO fid a ps assign body w=w1 at *
 generalize (Obj.loop (Oh fid a ps assign body w.heap.size .ready none))=o at *
 have hs:w1.heap.size=w.heap.size+2:=by rw [e];simp
 refine ⟨⟨b,c,d,oO,λk hk=>?_⟩,?_,?_,hs⟩
 · rw [e,Array.getElem?_push,A2 (by simp;omega),Array.getElem?_push,A2 oO]
 · rw [e,Array.getElem?_push,A2 (by simp),Array.getElem?_push,A7 rfl]
 · rw [e,Array.getElem?_push,A7 (by simp)]
theorem A1A {P:Program} {F:Fence} {n:Sh} {m id L:Nat} {c:Code} {f:Fr} {w:World} {R:Ending->World->Prop} (h:∀ a,LK n f a->c.wpIn F m P (Hq n (QR P L R)) a w) :
  ∀ a,LK n f a->(Code.block id c).wpIn F m P (Hq n (QR P L R)) a w:=λa ha=>by
 refine wpIn_block (wpIn_mono (h a ha) ?_)
 rintro e a w ⟨f,hf,hq⟩
 cases e with
 | normal=>exact ⟨f,hf,hq⟩
 | panic ch=>exact ⟨f,hf,hq⟩
 | _=>exact hq.elim
theorem A2A  {fid gf:FuncId} {args:Array Value} {a:Act} {ps:Array Tmp} {assign body:Code} {POST:Ending->World->Prop}
  (h:∀ rec w1,rec=Oh fid a ps assign body w.heap.size .ready none->w1=VO fid a ps assign body w->AD w w1->Fg w1 w.heap.size (.deferred (some []))->Fg w1 (w.heap.size+1) (.loop rec)->w1.heap.size=w.heap.size+2->Calls P gf args w1 POST) :
  Calls P gf args (VO fid a ps assign body w) POST:=by
 obtain ⟨b,c,d,e⟩:=A5b fid a ps assign body w
 exact h _ _ rfl rfl b c d e
section
variable {P:Program} {fn:Func} {R:Ending->World->Prop} {D:Nat}
def A9p (P:Program) (fn:Func) (R:Ending->World->Prop) (D:Nat):Exit->Fr->World->Prop
 | .normal,f,w | .ret,f,w=>Fg w D (.deferred (some []))/\∃ v,En P fn f (w.putObj D (.deferred none)) v/\R (.returned v) (w.putObj D (.deferred none))
 | .panic chain,_,w=>Fg w D (.deferred (some []))/\R (.panicked chain) (w.putObj D (.deferred none))
 | _,_,_=>False
theorem A2K {n:Nat} {f:Fr} {c:Code} {w:World} (h:W P ⟨n,[{ target:=.collected D,args:=#[] }]⟩ c (A9p P fn R D) f w) :
  ∀ a,LK ⟨n,[{ target:=.collected D,args:=#[] }]⟩ f a->c.wp P (bodyPostM Fence.wide 1 P fn R) a w:=λa ha=>by
 unfold W at h
 refine wp_mono (h a ha) ?_
 rintro e a1 w1 ⟨g,hg,hq⟩
 have hd:a1.defers=[{ target:=.collected D,args:=#[] }]:=hg.1
 have fin:∀ u,u≠.run->Fg w1 D (.deferred (some []))->LeavesIn Fence.wide 1 P fn a1.tmps R [] u (w1.putObj D (.deferred none))->LeavesInM Fence.wide 1 P fn a1.tmps R a1.defers u w1:=λu hu h1 h2=>by
  rw [hd]
  exact ⟨hu,.inl ⟨D,_,rfl,run_takeDeferred h1,h2⟩⟩
 cases e with
 | normal=>obtain ⟨h1,v,h2,h3⟩:=hq;exact fin .returning nofun h1 ⟨v,h2 _ hg.2.2,h3⟩
 | ret=>obtain ⟨h1,v,h2,h3⟩:=hq;exact fin .returning nofun h1 ⟨v,h2 _ hg.2.2,h3⟩
 | panic ch=>exact fin (.panicking ch) nofun hq.1 hq.2
 | _=>exact hq.elim
end
end
section
theorem Dq.enter  {F:FuncId} (h:Dq P F) (args:Array Value) (w:World):(callFunc F args).run P w=.ok (.enter F args) w:=by
 obtain ⟨fn,hf,hb,hn⟩:=h
 simp [callFunc,hf,hb,hn,go_sem]
theorem A3t:(Tryz.prog.info? 57).map (λi=>(i.zero,i.size,i.bytes))=some (some (.agg (D4 FH).toArray),2,16):=by kernel_rfl
structure LdJ (bv:Nat) (H:QA) (p:Option Addr) (l:List Int) (c:Nat) (w:World) (b2 b5 x1 x2 D:Nat) (rec:Loop) (k:Nat) (w':World):Prop where
 bel:AD w w'
 kv:Be w' bv (FA H).toArray 74
 row:AZ E5 w' p l
 k2:Be w' b2 #[ptV bv] 65
 k5:∃ v q,Be w' b5 #[v] 133/\AJ Ep 57 (D+2) w' v q/\Dx H.s.ctm (l.take (2 * k))=.ok q/\q.length=k
 c1:Be w' x1 #[.slice p l.length c] 39
 c2:Be w' x2 #[Ah 2] 3
 od:Fg w' D (.deferred (some []))
 ol:Fg w' (D+1) (.loop rec)
 sz:D+2<=w'.heap.size
section
variable {bv:Nat} {H:QA} {p:Option Addr} {l:List Int} {c:Nat} {w:World} {b2 b5 x1 x2 D:Nat} {rec rec2:Loop} {k:Nat} {w1 w2:World}
theorem LdJ.drew (h:LdJ bv H p l c w b2 b5 x1 x2 D rec k w1) (d:Df w1 w2):LdJ bv H p l c w b2 b5 x1 x2 D rec k w2:=by
 obtain ⟨v,q,a,b,e,f⟩:=h.k5
 exact ⟨d.below h.bel,h.kv.drew d,h.row.drew d,h.k2.drew d,⟨v,q,a.drew d,b.drew d,e,f⟩,h.c1.drew d,h.c2.drew d,h.od.drew d,h.ol.drew d,by obtain ⟨m,rfl⟩:=d;exact h.sz⟩
theorem LdJ.put (h:LdJ bv H p l c w b2 b5 x1 x2 D rec k w1) (hw:w.heap.size<=D) (hv:bv<w.heap.size) (hr:0<l.length->(pA p).block<w.heap.size) (h2:b2<D) (h5:b5<D) (hx1:x1<D) (hx2:x2<D) :
  LdJ bv H p l c w b2 b5 x1 x2 D rec2 k (w1.putObj (D+1) (.loop rec2)):=by
 have hu:=NE (w:=w1) (b:=D+1) (o:=.loop rec2)
 obtain ⟨v,q,d,a,f,i⟩:=h.k5
 exact ⟨CP h.bel oO hu,h.kv.upd hu oO,AZ.upd h.row hu (λj=>by have:=hr j;omega),h.k2.upd hu oO,⟨v,q,d.upd hu oO,a.upd hu (λg hg e=>by have:=(a.lt g hg).1;omega),f,i⟩,
  h.c1.upd hu oO,h.c2.upd hu oO,h.od.upd hu oO,A0H h.ol.lt,BA h.sz hu.size⟩
end
theorem MK (bv:Nat) (H:QA) (p:Option Addr) (l:List Int) (c m:Nat) (w:World) (h:Be w bv (FA H).toArray 74) (hr:AZ E5 w p l) (hl:l.length=2 * m) (hm:m<=100) (hc:l.length<=c) :
  Calls Tryz.prog 77 #[ptV bv,.slice p l.length c] w (HO 30 (Dx H.s.ctm l) (λq v w'=>AD w w'/\AJ Ep 57 w.heap.size w' v q) (λw'=>AD w w')):=by
 have T:=hr.lt
 have ag:=h.lt
 refine Va func77 rfl ntmps77 bL<|P5<|Ak<|D5 rfl rfl (λb2 w2 e2 t dR eI=>?_)
 refine Ab rfl<|P5<|Ak<|C1 zeroValue133 rfl (λb5 w5 e5 a7 cT eJ=>?_)
 refine A0<|?_
 intro a5 dS
 refine YY<|P5 ?_ a5 dS
 refine Ak<|A3 rfl<|DO BQ rfl rfl (A16 p l.length c _) (λx U dT=>?_)
 refine A0<|?_
 obtain ⟨⟨x1,x2⟩,hx⟩:=eX x
 subst hx
 obtain ⟨aJ,b0,b1,dU,dV⟩:=dT
 simp only at b0 b1 dU dV
 intro a ha
 refine A05<|A04 (gf:=145) (lb:=#[ptV x1,ptV x2]) (ha.agr _ _ rfl) (Dq.enter (IV func145 kR)) ?_
 have ey:b2<w2.heap.size:=t.lt
 have ez:b5<w5.heap.size:=a7.lt
 have d4:=b0.lt
 have d5:=b1.lt
 have eK:=aJ.size
 have A9X:b2<b5:=by omega
 have eA:w.heap.size<=b2:=by omega
 refine A2A λrec wR X eL r1 r2 r3 r4=>?_
 have dW:AD w w2:=CP (Nh _ _) oO dR
 have dX:AD w w5:=CP dW oO cT
 have d6:AD w U:=EU dX (aJ.mono oO)
 have b3:AD w wR:=EU d6 (r1.mono oO)
 have dY:LdJ bv H p l c w b2 b5 x1 x2 U.heap.size rec 0 wR :=
  ⟨b3,h.below b3 ag,hr.below b3 (λd=>T d),((t.upd cT oO).below aJ oO).below r1 oO,⟨.slice none 0 0,[],(a7.below aJ oO).below r1 oO,AJ.nil _ _ _ _,rfl,rfl⟩,
   b0.below r1 d4,b1.below r1 d5,r2,r3,oO⟩
 refine (YK (U.heap.size+1) x1 x2 p l.length c m (LdJ bv H p l c w b2 b5 x1 x2 U.heap.size rec) (λch w'=>∃ k,Dx H.s.ctm l=.error k/\ch=[{ v:=.iface 30 (Ah k),recovered:=false }]/\AD w w'/\Fg w' U.heap.size (.deferred (some []))) _ hl hc oO dY (λk w1 w2 h1 h2=>h1.drew h2) (λk w1 h1=>⟨h1.c1,h1.c2⟩) (λd=>by have:=hr.isp oO;rw [this];simp) ?_).mono ?_
 ·
  intro k w1 hk hJ;have b4:=Uh hJ.row k oO;refine A4O (D:=U.heap.size) ha rfl func77 (X▸hJ.ol) ?_
  intro a1 dZ;refine A4s rfl (λ_ _ h=>h) (Ab rfl ?_) a1 dZ;refine ⟨X▸hJ.ol,?_⟩
  intro a2 d';rw [<- X];have Y:=hJ.put (rec2:={ rec with state:=.busy }) oO ag T oO oO oO oO
  generalize w1.putObj (U.heap.size+1) (.loop { rec with state:=.busy })=wB at *;have e0:=Y.bel;have t:=Y.k2;have e1:=Y.kv;have cU:=Y.ol;have cV:=Y.od;have e3:=Y.c1;have e4:=Y.c2;have cW:=Y.row;have e6:=Y.sz;have b4:=Uh cW k oO;obtain ⟨v5,q,a7,b6,hq,aK⟩:=Y.k5;have aa:0 < [l[2 * k],l[2 * k+1]].length->(pA (p.map (·.add (2 * k)))).block<w.heap.size:=λd=>by
   have h1:=T oO;rw [hr.isp oO]
   show (((pA p).add (2 * k)).block)<_
   rw [Fz];omega
  have ak:0 < [l[2 * k],l[2 * k+1]].length->(pA (p.map (·.add (2 * k)))).block<U.heap.size+2:=λd=>by have:=aa d;omega
  have am:0<l.length->(pA p).block<U.heap.size+2:=λd=>by have:=T d;omega
  have cX:=λe=>A19 (m:=H.s.ctm) (l:=l) (k:=k) (e:=e) oO hq
  have aG:=S1 (m:=H.s.ctm) (l:=l) (k:=k) oO hq;obtain ⟨bL,ac⟩:=eX (U.heap.size+1);obtain ⟨bD,ah⟩:=eX U.heap.size;rw [<- ac] at cU;rw [<- ah] at cV;refine A1A ?_ a2 d';refine A4t (N:=12) rfl Ci (λw'=>w'.heap[b2]?=wB.heap[b2]?/\AZ E5 w' (p.map (·.add (2 * k))) [l[2 * k],l[2 * k+1]]/\True) rfl (λ_ _ h=>h) (λw1 V=>?_) ;have b7:=Df.le e6 V;have cY:=AJ.drew b6 V;have a0:=t.drew V;have a7:=a7.drew V;have ai:=e1.drew V;have cZ:=cU.drew V;have aj:=cV.drew V;have c':=e3.drew V;have b8:=e4.drew V;have K:=b4.drew V;have an:=cW.drew V;have a3:=Df.below e0 V;refine C8 1 rfl (λw' hw'=>Af (UY _) rfl ((hw'.1).trans t) rfl) ⟨(a0).trans (t).symm,K,tT⟩ rfl ?_;refine Aa 2 rfl (.mv rfl) ⟨(a0).trans (t).symm,K,tT⟩ ?_;refine Aa 3 rfl (.ixb Dm B6 rfl rfl (K.isp (by exact nz_ _)) (0) (rfl) (oO)) ⟨(a0).trans (t).symm,K,tT⟩ ?_;refine C8 4 rfl (λw' hw'=>AS (BE _) rfl ((hw'.2.1).cells (0) ((by exact nz_ _)))) ⟨(a0).trans (t).symm,K,tT⟩ rfl ?_;refine Aa 5 rfl (.mv rfl) ⟨(a0).trans (t).symm,K,tT⟩ ?_;refine Aa 6 rfl (.ixb Dm B6 rfl rfl (K.isp (by exact nz_ _)) (1) (rfl) (oO)) ⟨(a0).trans (t).symm,K,tT⟩ ?_;refine C8 7 rfl (λw' hw'=>AS (BE _) rfl ((hw'.2.1).cells (1) ((by exact Nat.lt_succ_self _)))) ⟨(a0).trans (t).symm,K,tT⟩ rfl ?_;refine Ef 0 rfl 8 rfl ?_ ?_
  ·
   skip;refine Ai (Af (isAgg133 _) rfl a7 rfl)<|A0<|⟨⟨(a0).trans (t).symm,K,tT⟩,?_⟩;refine Aq 8 rfl<|By BQ rfl rfl ((A1W bv H l[2 * k] l[2 * k+1] _ ai)) (λeM e7 ao G=>?_) (λe8 e7 ao G=>?_)
   · skip;have b9:=EU a3 (Below.mono G a3.size);exact .inr ⟨_,rfl,_,cX _ ao,rfl,b9,ah▸(aj).below G (aj).lt⟩
   have bJ:=BA b7 G.size;have d7:=AJ.below cY G;have aH:=a0.bl G;have ba:=a7.bl G;have bb:=ai.bl G;have bc:=cZ.bl G;have bd:=aj.bl G;have be:=c'.bl G;have bf:=b8.bl G;have aI:=AZ.below K G (λd=>K.lt d);have bg:=AZ.below an G (λd=>an.lt d);have bh:=DN a3 G;refine A0<|⟨⟨(aH).trans (t).symm,aI,tT⟩,?_⟩;refine Aq 9 rfl<|Cw (L:=Ep) (ps:=_) ([e8]) Gp Fa LZ rfl rfl rfl rfl rfl (by rfl) rfl rfl (λe9 d8 P bK C et=>?_);have aL:=BA bJ C.size;have d9:=GK d7 P C;have da:=Bx P aH.lt;have bi:=aH.un C da;have db:=Bx P ba.lt;have dc:=ba.un C db;have dd:=Bx P bb.lt;have de:=bb.un C dd;have df:=Bx P bc.lt;have dg:=bc.un C df;have dh:=Bx P bd.lt;have di:=bd.un C dh;have dj:=Bx P be.lt;have dk:=be.un C dj;have dl:=Bx P bf.lt;have dm:=bf.un C dl;have bM:=λd=>P▸aI.lt d
   have bj:=AZ.upd aI C (λd=>IU (bM d));have bN:=λd=>P▸bg.lt d
   have dn:=AZ.upd bg C (λd=>IU (bN d));have dp:=uB bh P C;have ea:=DW P bh.size;have eb:e9<=d8.heap.size:=by omega
   refine A0<|⟨⟨(bi).trans (t).symm,bj,tT⟩,?_⟩;refine Aq 10 rfl<|CV Gp A3t rfl rfl rfl d9 rfl (bK).rowp oE (aL) rfl (λh=>D6 h (PA _ _)) (λeN eO aM O eu ev=>?_);have bk:=bi.below O oO;have dq:=dc.below O oO;have dr:=de.below O oO;have ds:=dg.below O oO;have dt:=di.below O oO;have du:=dk.below O oO;have dv:=dm.below O oO;have bm:=AZ.below bj O ak;have dw:=AZ.below dn O am;have dx:=EU dp (O.mono (oO));have bO:=BA aL O.size;refine A0<|⟨⟨(bk).trans (t).symm,bm,tT⟩,?_⟩;refine Aq 11 rfl<|WL.st sizeOf133 rfl rfl (aM).one dq (by exact Nat.le_of_ble_eq_true rfl) (λd0 ap B ew=>?_);have ap:Be d0 b5 _ _:=ap;have B:E6 b5 _ _:=B;have bP:=BA bO B.size;have dy:=D0 aM B oM;have bn:=bk.up B;have dz:=dr.up B;have bo:=ds.up B;have dA:=dt.up B;have dB:=du.up B;have dC:=dv.up B;have dD:=AZ.upd bm B (λd=>by have:=aa d;omega);have dE:=AZ.upd dw B (λd=>by have:=T d;omega);have dF:=CP dx oO B;refine A0<|⟨⟨(bn).trans (t).symm,dD,tT⟩,?_⟩;refine Bl kR ?_;have aC:LdJ bv H p l c w b2 b5 x1 x2 U.heap.size { rec with state:=.busy } (k+1) d0:=⟨dF,dz,dE,bn,⟨_,_,ap,dy,by rw [aG,ao];rfl,by rw [A9,aK];rfl⟩,dB,dC,ah▸dA,ac▸bo,bP⟩;refine ⟨_,_,run_endRound none (ac▸bo),.inl ⟨rfl,?_⟩⟩;have a8:=aC.put (rec2:={ { rec with state:=.busy } with state:=if (none:Option Code).isNone then .ready else .done,pending:=none }) oO ag T oO oO oO oO;have a9:rec={ { rec with state:=.busy } with state:=if (none:Option Code).isNone then .ready else .done,pending:=none }:=by rw [X];rfl
   rw [<- a9] at a8;rw [<- a9];exact a8
  refine By BQ rfl rfl ((A1W bv H l[2 * k] l[2 * k+1] _ ai)) (λeP ec ab J=>?_) (λd1 ec ab J=>?_)
  · skip;have bp:=EU a3 (Below.mono J a3.size);exact .inr ⟨_,rfl,_,cX _ ab,rfl,bp,ah▸(aj).below J (aj).lt⟩
  have aN:=BA b7 J.size;have bq:=AJ.below cY J;have a4:=a0.bl J;have ad:=a7.bl J;have aq:=ai.bl J;have ar:=cZ.bl J;have au:=aj.bl J;have av:=c'.bl J;have aw:=b8.bl J;have a6:=AZ.below K J (λd=>K.lt d);have ax:=AZ.below an J (λd=>an.lt d);have ay:=DN a3 J;refine A0<|⟨⟨(a4).trans (t).symm,a6,tT⟩,?_⟩;refine Ef 0 rfl 9 rfl ?_ ?_
  ·
   skip;refine Ai (Af (isAgg133 _) rfl ad rfl)<|A0<|⟨⟨(a4).trans (t).symm,a6,tT⟩,?_⟩;refine Aq 9 rfl<|Cw (L:=Ep) (ps:=_) ([d1]) Gp Fa LZ rfl rfl rfl rfl rfl (by rfl) rfl rfl (λed dG Q bQ E ex=>?_);have aO:=BA aN E.size;have dH:=GK bq Q E;have dI:=Bx Q a4.lt;have bt:=a4.un E dI;have dJ:=Bx Q ad.lt;have dK:=ad.un E dJ;have dL:=Bx Q aq.lt;have dM:=aq.un E dL;have bR:=Bx Q ar.lt;have bS:=ar.un E bR;have bT:=Bx Q au.lt;have bU:=au.un E bT;have bV:=Bx Q av.lt;have bW:=av.un E bV;have bX:=Bx Q aw.lt;have bY:=aw.un E bX;have bu:=λd=>Q▸a6.lt d
   have aP:=AZ.upd a6 E (λd=>IU (bu d));have bw:=λd=>Q▸ax.lt d
   have bZ:=AZ.upd ax E (λd=>IU (bw d));have b':=uB ay Q E;have ee:=DW Q ay.size;have ef:ed<=dG.heap.size:=by omega
   refine A0<|⟨⟨(bt).trans (t).symm,aP,tT⟩,?_⟩;refine Aq 10 rfl<|CV Gp A3t rfl rfl rfl dH rfl (bQ).rowp oE (aO) rfl (λh=>D6 h (PA _ _)) (λeB eC aD y eg eh=>?_);have aQ:=bt.below y oO;have c0:=dK.below y oO;have c3:=dM.below y oO;have c4:=bS.below y oO;have c5:=bU.below y oO;have c6:=bW.below y oO;have c7:=bY.below y oO;have aR:=AZ.below aP y ak;have c8:=AZ.below bZ y am;have c9:=EU b' (y.mono (oO));have bx:=BA aO y.size;refine A0<|⟨⟨(aQ).trans (t).symm,aR,tT⟩,?_⟩;refine Aq 11 rfl<|WL.st sizeOf133 rfl rfl (aD).one c0 (by exact Nat.le_of_ble_eq_true rfl) (λbz ae f ei=>?_);have ae:Be bz b5 _ _:=ae;have f:E6 b5 _ _:=f;have bA:=BA bx f.size;have ca:=D0 aD f oM;have aS:=aQ.up f;have cb:=c3.up f;have aT:=c4.up f;have cc:=c5.up f;have cd:=c6.up f;have cf:=c7.up f;have cg:=AZ.upd aR f (λd=>by have:=aa d;omega);have ci:=AZ.upd c8 f (λd=>by have:=T d;omega);have cj:=CP c9 oO f;refine A0<|⟨⟨(aS).trans (t).symm,cg,tT⟩,?_⟩;refine Bl kR ?_;have aC:LdJ bv H p l c w b2 b5 x1 x2 U.heap.size { rec with state:=.busy } (k+1) bz:=⟨cj,cb,ci,aS,⟨_,_,ae,ca,by rw [aG,ab];rfl,by rw [A9,aK];rfl⟩,cd,cf,ah▸cc,ac▸aT,bA⟩;refine ⟨_,_,run_endRound none (ac▸aT),.inl ⟨rfl,?_⟩⟩;have a8:=aC.put (rec2:={ { rec with state:=.busy } with state:=if (none:Option Code).isNone then .ready else .done,pending:=none }) oO ag T oO oO oO oO;have a9:rec={ { rec with state:=.busy } with state:=if (none:Option Code).isNone then .ready else .done,pending:=none }:=by rw [X];rfl
   rw [<- a9] at a8;rw [<- a9];exact a8
  refine Cw (L:=Ep) (ps:=_) ([d1]) Gp Fa LZ rfl rfl rfl rfl rfl (by rfl) rfl rfl (λdN ck F bB u ej=>?_);have aE:=BA aN u.size;have cl:=GK bq F u;have cm:=Bx F a4.lt;have az:=a4.un u cm;have cn:=Bx F ad.lt;have aU:=ad.un u cn;have co:=Bx F aq.lt;have cq:=aq.un u co;have cr:=Bx F ar.lt;have ct:=ar.un u cr;have cu:=Bx F au.lt;have cv:=au.un u cu;have cw:=Bx F av.lt;have cy:=av.un u cw;have cz:=Bx F aw.lt;have cA:=aw.un u cz;have bC:=λd=>F▸a6.lt d
  have aA:=AZ.upd a6 u (λd=>IU (bC d));have bE:=λd=>F▸ax.lt d
  have cB:=AZ.upd ax u (λd=>IU (bE d));have cC:=uB ay F u;have dP:=DW F ay.size;have dQ:dN<=ck.heap.size:=by omega
  refine A0<|⟨⟨(az).trans (t).symm,aA,tT⟩,?_⟩;refine Aq 0 rfl<|Ai (Af (isAgg133 _) rfl aU rfl)<|A0<|⟨⟨(az).trans (t).symm,aA,tT⟩,?_⟩;refine Aq 10 rfl<|CV Gp A3t rfl rfl rfl cl rfl (bB).rowp oE (aE) rfl (λh=>D6 h (PA _ _)) (λeD eF aF A ek el=>?_);have aV:=az.below A oO;have cD:=aU.below A oO;have cE:=cq.below A oO;have cF:=ct.below A oO;have cG:=cv.below A oO;have cH:=cy.below A oO;have cI:=cA.below A oO;have aW:=AZ.below aA A ak;have cJ:=AZ.below cB A am;have cK:=EU cC (A.mono (oO));have bG:=BA aE A.size;refine A0<|⟨⟨(aV).trans (t).symm,aW,tT⟩,?_⟩;refine Aq 11 rfl<|WL.st sizeOf133 rfl rfl (aF).one cD (by exact Nat.le_of_ble_eq_true rfl) (λbH af j em=>?_);have af:Be bH b5 _ _:=af;have j:E6 b5 _ _:=j;have bI:=BA bG j.size;have cL:=D0 aF j oM;have aX:=aV.up j;have cM:=cE.up j;have aY:=cF.up j;have cN:=cG.up j;have cO:=cH.up j;have cP:=cI.up j;have cQ:=AZ.upd aW j (λd=>by have:=aa d;omega);have cR:=AZ.upd cJ j (λd=>by have:=T d;omega);have cS:=CP cK oO j;refine A0<|⟨⟨(aX).trans (t).symm,cQ,tT⟩,?_⟩;refine Bl kR ?_;have aC:LdJ bv H p l c w b2 b5 x1 x2 U.heap.size { rec with state:=.busy } (k+1) bH:=⟨cS,cM,cR,aX,⟨_,_,af,cL,by rw [aG,ab];rfl,by rw [A9,aK];rfl⟩,cO,cP,ah▸cN,ac▸aY,bI⟩;refine ⟨_,_,run_endRound none (ac▸aY),.inl ⟨rfl,?_⟩⟩;have a8:=aC.put (rec2:={ { rec with state:=.busy } with state:=if (none:Option Code).isNone then .ready else .done,pending:=none }) oO ag T oO oO oO oO;have a9:rec={ { rec with state:=.busy } with state:=if (none:Option Code).isNone then .ready else .done,pending:=none }:=by rw [X];rfl
  rw [<- a9] at a8;rw [<- a9];exact a8
 ·
  intro e w3 he;rcases he with ⟨v,rfl,hJ⟩ | ⟨ch,rfl,k,en,rfl,eo,ep⟩
  ·
   obtain ⟨v5,q,eG,b6,hq,aK⟩:=hJ.k5;rw [<- hl,Ca] at hq;have eq:rec.state≠.busy:=by rw [X];nofun
   have er:rec.pending=none:=by rw [X];rfl
   have aZ:=hJ.put (rec2:={ rec with state:=.exhausted }) oO ag T oO oO oO oO;obtain ⟨wE,d2⟩:∃ x,x=w3.putObj (U.heap.size+1) (.loop { rec with state:=.exhausted }):=⟨_,rfl⟩;rw [<- d2] at aZ;refine ⟨wE,by rw [d2,run_endLoop hJ.ol eq,er],?_⟩;obtain ⟨v6,q6,ai,aB,d3,eH⟩:=aZ.k5;rw [<- hl,Ca] at d3;have dO:=ai;refine A1T (A2K (D:=U.heap.size) (n:=22) ?_ _ ⟨by rw [ha.1],ha.2.1,λi v hi=>ha.2.2 i v hi⟩);refine Aj (Ak ?_);refine Ai (Af (isAgg133 _) rfl dO rfl)<|Ab rfl ?_;have a':=NE (w:=wE) (b:=U.heap.size) (o:=.deferred none);refine B2 ⟨aZ.od,v6,λtmps ht=>?_,GX _ _ d3 rfl ⟨CP aZ.bel oO a',?_⟩⟩
   · rw [results_tmp rfl,ht _ _ rfl];rfl
   · exact (aB.upd a' (λg hg e=>by have:=(aB.lt g hg).1;omega)).base (λg hg=>by have:=(aB.lt g hg).1;omega)
  ·
   have a':=NE (w:=w3) (b:=U.heap.size) (o:=.deferred none);have es:a.defers=[]:=ha.1
   show LeavesInM Fence.wide 1 Tryz.prog _ _ _ ({ target:=.collected U.heap.size,args:=#[] }::a.defers) (.panicking _) w3
   rw [es];refine ⟨nofun,.inl ⟨_,_,rfl,run_takeDeferred ep,?_⟩⟩;unfold HO;rw [en];exact ⟨rfl,CP eo oO a'⟩
end
section
theorem Dv.kn  {x:PC} {o:PV} (h:Dv w Z x o):ND o=x.kind/\Xs o=x.n/\TI o=x.text:=by
 cases h;exact ⟨rfl,rfl,rfl⟩
theorem YX.kn  {cs:List PC} {args:List PV} (h:YX Z w cs args) (i:Nat) (h1:i<cs.length) (h2:i<args.length):ND args[i]=cs[i].kind/\Xs args[i]=cs[i].n/\TI args[i]=cs[i].text:=(h.2 i h1 h2).kn
theorem YX.nums  {cs:List PC} {args:List PV} (h:YX Z w cs args):(cs.map λx=>Ha x.kind x.n)=args.map EE:=by
 refine List.ext_getElem (by rw [B0,B0];exact h.1) λi a b=>?_
 rw [B0] at a b
 rw [List.getElem_map,List.getElem_map,<- Pt,(h.kn i a b).1,(h.kn i a b).2.1]
theorem YX.num  {cs:List PC} {args:List PV} (h:YX Z w cs args) (n:Nat):RG cs n=Dt args n:=by
 have e:=h.nums
 have a:(cs.map λx=>(Ha x.kind x.n).1)=args.map λo=>(EE o).1:=by
  have:=Bk (List.map Prod.fst) e
  rw [List.map_map,List.map_map] at this
  exact this
 have b:cs.all (λx=>(Ha x.kind x.n).2)=args.all λo=>(EE o).2:=by
  have:=Bk (λl=>l.all Prod.snd) e
  simpa [List.all_map,Function.comp_def] using this
 unfold RG Dt
 rw [a,b,h.1]
theorem EC {B:Nat} {fs:QD} {w w1:World} {bv:Nat} {H H1:QA} {vp:Value} {V V1:Vw} {args:List PV} {its:List AN} {hs:List Vf} {cs:List PC} (hO:VwO B w bv H vp V its hs cs) (K:AL w.heap.size [bv] w w1)
  (hk:Be w1 bv (FA H1).toArray 74) (hR:∀ (m:Mv (Eh fs.c (GG bv H vp) w) (Eh fs.c (GG bv H vp) w1) w w1),VwR (Eh fs.c (GG bv H vp) w1) w1 H1 fs V1 args its hs cs)
  (e1:H1.path=H.path:=by rfl) (e2:H1.items=H.items:=by rfl) (e3:H1.saved=H.saved:=by rfl) (e4:H1.args=H.args:=by rfl) (ep:V1.path=V.path:=by rfl) :
  ∃ F1,Ga B fs w1 bv F1 V1 args/\Dw (GG bv H vp) F1 w w1:=by
 have hF:GG bv H1 vp=GG bv H vp:=by unfold GG;rw [e1,e2,e3,e4]
 have hC:Dw (GG bv H vp) (GG bv H vp) w w1:=CA K (λg hg=>by simp only [Ao] at hg;subst hg;exact .inl (.inl rfl)) (λg hg=>.inl hg)
 have hb:∀ g,GG bv H vp g->g≠bv->w1.heap[g]?=w.heap[g]?:=λg hg hn=>K.block g (hO.inn g hg).2 (by simpa using hn)
 have a:H.path≠bv:=λe=>by
  have f:=hO.blk;have b:=hO.pth.blk
  rw [e] at b
  have d:=f.symm.trans b
  simp only [Br,Obj.cells.injEq] at d
  exact D6 d.2.1 dD
 refine ⟨GG bv H vp,⟨H1,vp,its,hs,cs,hF.symm,⟨hk,?_,?_,?_,?_,hO.lbv,by rw [e1];exact hO.lbp⟩,hR (Eh.mv hC)⟩,hC⟩
 ·
  rw [e1,ep]
  exact ⟨(hb _ (.inr (.inl rfl)) a).trans hO.pth.blk,hO.pth.own.same λg hg=>hb g (.inr (.inr (.inl hg))) (BZ hO.pth.own hO.blk dD g hg),hO.pth.len,BA hO.pth.base K.size⟩
 · rw [e2];exact hO.oi.same λg hg=>hb g (.inr (.inr (.inr (.inl hg)))) (BZ hO.oi hO.blk dD g hg)
 · rw [e3];exact hO.os.same λg hg=>hb g (.inr (.inr (.inr (.inr (.inl hg))))) (BZ hO.os hO.blk dD g hg)
 · rw [e4];exact hO.oa.same λg hg=>hb g (.inr (.inr (.inr (.inr (.inr hg))))) (BZ hO.oa hO.blk dD g hg)
section
variable {B:Nat} {fs:QD} {w:World} {bv:Nat} {F:Nat->Prop} {V:Vw} {args:List PV}
theorem Fs (n:Nat) (h:Ga B fs w bv F V args) (ha:args.length<=32) (hn:n<=100) :
  Calls Tryz.prog 54 #[ptV bv,Ah (n:Int)] w (HO 30 (Dt args n) (λl v w'=>AD w w'/\AJ QM 3 w.heap.size w' v l) (λw'=>AD w w')):=by
 obtain ⟨H,vp,its,hs,cs,rfl,hO,hR⟩:=h.mem
 obtain ⟨p,c,e,hr,-⟩:=hO.oa.row
 rw [<- hR.ar.num]
 exact Xw bv n H p cs c w hO.blk e hr hn (by rw [hR.ar.1];omega)
theorem O5 {args:List PV} (h:∀ o,args=[o]->ND o=2->0<=Xs o->Xs o<=2->False):Jk args=.error 22:=by
 unfold Jk
 split
 ·
  next o =>
  rw [A2]
  rintro ⟨a,b,c⟩
  exact h o rfl a b c
 · rfl
theorem MJ {args:List PV} (h:args.length=1) (h1:ND (args[0])=2) (h2:0<=Xs args[0]) (h3:Xs args[0]<=2):Jk args=.ok (Xs args[0]):=by
 match args,h with
 | [o],_=>exact A7 ⟨h1,h2,h3⟩
theorem Vm (h:Ga B fs w bv F V args) (ha:args.length<=32) :
  Calls Tryz.prog 67 #[ptV bv] w (SF w (Jk args) λn=>Ah n):=by
 obtain ⟨H,vp,its,hs,cs,rfl,hO,hR⟩:=h.mem
 have j:=hO.blk
 have a3:=hR.ar
 have ac:=hO.oa
 clear hO hR h
 obtain ⟨s,fo,sa,pa,cl,it,lo,te,li,ar,its⟩:=H
 obtain ⟨p,c,e,hr,-⟩:=ac.row
 simp only at e
 subst e
 have y:=a3.1
 have k:=a3.kn 0
 refine Av func67 rfl ntmps67 ?_
 have g:=DR w
 refine A5<|Ab rfl<|A5<|A3 rfl<|A1 (.nck rfl)<|A1 (.fa BW rfl F8 dD rfl)<|Ai (Af (He _) rfl j rfl)<|A1 (.lenS Fi rfl)<|A1 (.eql rfl rfl)<|A3 rfl<|B5 rfl rfl rfl (λb=>?_) (λb=>?_)
 have ad:=dT b
 refine A3 rfl<|Au b<|A1 (.nck rfl)<|Au b<|A1 (.fa BW rfl F8 dD rfl)<|Au b<|Ai (Af (He _) rfl j rfl)<|Au b<|A1 (.ixm Fi II rfl rfl (hr.isp oO) 0 rfl oO)<|Au b<|A1 (.fa CO rfl B6 dD rfl)<|Au b<|Ai (AS (BE _) rfl ((hr.field (0) oO 0 dD).trans rfl))<|Au b<|A1 (.eql rfl rfl)<|A1 (.pkT rfl b rfl)<|A3 rfl<|B5 rfl rfl rfl (λd=>?_) (λd=>?_)
 have ae:=dT d
 refine A3 rfl<|Au d<|A1 (.nck rfl)<|Au d<|A1 (.fa BW rfl F8 dD rfl)<|Au d<|Ai (Af (He _) rfl j rfl)<|Au d<|A1 (.ixm Fi II rfl rfl (hr.isp oO) 0 rfl oO)<|Au d<|A1 (.fa CO rfl B6 dD rfl)<|Au d<|Ai (AS (BE _) rfl ((hr.field (0) oO 1 dD).trans rfl))<|Au d<|A1 (.geq rfl rfl)<|A1 (.pkT rfl d rfl)<|A3 rfl<|B5 rfl rfl rfl (λf=>?_) (λf=>?_)
 have af:=dT f
 refine A3 rfl<|Au f<|A1 (.nck rfl)<|Au f<|A1 (.fa BW rfl F8 dD rfl)<|Au f<|Ai (Af (He _) rfl j rfl)<|Au f<|A1 (.ixm Fi II rfl rfl (hr.isp oO) 0 rfl oO)<|Au f<|A1 (.fa CO rfl B6 dD rfl)<|Au f<|Ai (AS (BE _) rfl ((hr.field (0) oO 1 dD).trans rfl))<|Au f<|A1 (.leq rfl rfl)<|A1 (.pkT rfl f rfl)<|By BQ rfl rfl ((Dn _ _)) (λk6 w4 G E=>?_) (λa5 w4 G E=>?_)
 have a2:=EU g (Below.mono E g.size)
 obtain ⟨l,rfl⟩:=Dl G
 exact AE (BB 22 (O5 λo ho h1 h2 h3=>by
  subst ho;have m:cs.length=1:=y;obtain ⟨q,i,-⟩:=k oO (by simp);simp only [B3] at q i
  first
   | omega
   | (rw [Aw] at l;omega)) a2)
 have ag:=j.bl E
 have a4:=Is hr E (λJ=>hr.lt J)
 have ah:=DN g E
 have a:=Ea G
 have m:cs.length=1:=by omega
 have t:args.length=1:=by omega
 have K:cs[0].kind=2:=by omega
 have L:0<=cs[0].n:=by omega
 have P:cs[0].n<=2:=by exact dT a
 refine A0<|A5<|A3 rfl<|A1 (.nck rfl)<|A1 (.fa BW rfl F8 dD rfl)<|Ai (Af (He _) rfl ag rfl)<|A1 (.ixm Fi II rfl rfl (a4.isp oO) 0 rfl oO)<|A1 (.fa CO rfl B6 dD rfl)<|Ai (AS (BE _) rfl ((a4.field (0) oO 1 dD).trans rfl))<|Ab rfl<|AI ?_
 obtain ⟨q,i,-⟩:=k oO oO
 exact Ct.ok _ (MJ t oO oO oO) (by rw [i]) ah
 have af:=dF f
 refine Ac f<|Ac f<|Ac f<|Ac f<|Ac f<|Ac f<|Ac f<|A1 (.pkF rfl f rfl)<|By BQ rfl rfl ((Dn _ _)) (λal ai A u=>?_) (λam ai A u=>?_)
 have Q:=EU g (Below.mono u g.size)
 obtain ⟨l,rfl⟩:=Dl A
 exact AE (BB 22 (O5 λo ho h1 h2 h3=>by
  subst ho;have m:cs.length=1:=y;obtain ⟨q,i,-⟩:=k oO (by simp);simp only [B3] at q i
  first
   | omega
   | (rw [Aw] at l;omega)) Q)
 have a6:=j.bl u
 have T:=Is hr u (λJ=>hr.lt J)
 have a7:=DN g u
 have a:=Ea A
 have m:cs.length=1:=by exact D6 a dD
 have t:args.length=1:=by omega
 have K:cs[0].kind=2:=by exact D6 a dD
 have L:0<=cs[0].n:=by exact D6 a dD
 have P:cs[0].n<=2:=by exact D6 a dD
 refine A0<|A5<|A3 rfl<|A1 (.nck rfl)<|A1 (.fa BW rfl F8 dD rfl)<|Ai (Af (He _) rfl a6 rfl)<|A1 (.ixm Fi II rfl rfl (T.isp oO) 0 rfl oO)<|A1 (.fa CO rfl B6 dD rfl)<|Ai (AS (BE _) rfl ((T.field (0) oO 1 dD).trans rfl))<|Ab rfl<|AI ?_
 obtain ⟨q,i,-⟩:=k oO oO
 exact Ct.ok _ (MJ t oO oO oO) (by rw [i]) a7
 have ae:=dF d
 refine Ac d<|Ac d<|Ac d<|Ac d<|Ac d<|Ac d<|Ac d<|A1 (.pkF rfl d rfl)<|A3 rfl<|Ac rfl<|Ac rfl<|Ac rfl<|Ac rfl<|Ac rfl<|Ac rfl<|Ac rfl<|Ac rfl<|A1 (.pkF rfl rfl rfl)<|By BQ rfl rfl ((Dn _ _)) (λan aj C v=>?_) (λao aj C v=>?_)
 have U:=EU g (Below.mono v g.size)
 obtain ⟨l,rfl⟩:=Dl C
 exact AE (BB 22 (O5 λo ho h1 h2 h3=>by
  subst ho;have m:cs.length=1:=y;obtain ⟨q,i,-⟩:=k oO (by simp);simp only [B3] at q i
  first
   | omega
   | (rw [Aw] at l;omega)) U)
 have a8:=j.bl v
 have X:=Is hr v (λJ=>hr.lt J)
 have a9:=DN g v
 have a:=Ea C
 have m:cs.length=1:=by exact D6 a dD
 have t:args.length=1:=by omega
 have K:cs[0].kind=2:=by exact D6 a dD
 have L:0<=cs[0].n:=by exact D6 a dD
 have P:cs[0].n<=2:=by exact D6 a dD
 refine A0<|A5<|A3 rfl<|A1 (.nck rfl)<|A1 (.fa BW rfl F8 dD rfl)<|Ai (Af (He _) rfl a8 rfl)<|A1 (.ixm Fi II rfl rfl (X.isp oO) 0 rfl oO)<|A1 (.fa CO rfl B6 dD rfl)<|Ai (AS (BE _) rfl ((X.field (0) oO 1 dD).trans rfl))<|Ab rfl<|AI ?_
 obtain ⟨q,i,-⟩:=k oO oO
 exact Ct.ok _ (MJ t oO oO oO) (by rw [i]) a9
 have ad:=dF b
 refine Ac b<|Ac b<|Ac b<|Ac b<|Ac b<|Ac b<|Ac b<|A1 (.pkF rfl b rfl)<|A3 rfl<|Ac rfl<|Ac rfl<|Ac rfl<|Ac rfl<|Ac rfl<|Ac rfl<|Ac rfl<|Ac rfl<|A1 (.pkF rfl rfl rfl)<|A3 rfl<|Ac rfl<|Ac rfl<|Ac rfl<|Ac rfl<|Ac rfl<|Ac rfl<|Ac rfl<|Ac rfl<|A1 (.pkF rfl rfl rfl)<|By BQ rfl rfl ((Dn _ _)) (λap ak D x=>?_) (λaq ak D x=>?_)
 have a0:=EU g (Below.mono x g.size)
 obtain ⟨l,rfl⟩:=Dl D
 exact AE (BB 22 (O5 λo ho h1 h2 h3=>by
  subst ho;have m:cs.length=1:=y;obtain ⟨q,i,-⟩:=k oO (by simp);simp only [B3] at q i
  first
   | omega
   | (rw [Aw] at l;omega)) a0)
 have aa:=j.bl x
 have a1:=Is hr x (λJ=>hr.lt J)
 have ab:=DN g x
 have a:=Ea D
 have m:cs.length=1:=by exact D6 a dD
 have t:args.length=1:=by omega
 have K:cs[0].kind=2:=by exact D6 a dD
 have L:0<=cs[0].n:=by exact D6 a dD
 have P:cs[0].n<=2:=by exact D6 a dD
 refine A0<|A5<|A3 rfl<|A1 (.nck rfl)<|A1 (.fa BW rfl F8 dD rfl)<|Ai (Af (He _) rfl aa rfl)<|A1 (.ixm Fi II rfl rfl (a1.isp oO) 0 rfl oO)<|A1 (.fa CO rfl B6 dD rfl)<|Ai (AS (BE _) rfl ((a1.field (0) oO 1 dD).trans rfl))<|Ab rfl<|AI ?_
 obtain ⟨q,i,-⟩:=k oO oO
 exact Ct.ok _ (MJ t oO oO oO) (by rw [i]) ab
theorem A5B {l:List Int} (h:l.length=6):QM.flat l=Xt.V (m6L l):=by
 match l,h with
 | [a,b,c,d,e,f],_=>rfl
theorem P6 (h:Ga B fs w bv F V args) (ha:args.length<=32) :
  Calls Tryz.prog 71 #[ptV bv] w (SF w (RU args) λm=>.agg (M9 m).toArray):=by
 refine Av func71 rfl ntmps71 ?_
 have l:=DR w
 refine A5<|C1 Ql rfl (λD C o f g u=>?_)
 have c:=uB l o g
 refine A0<|A5<|A3 rfl<|WL.cx BQ rfl rfl ((Fs 6 (h.same c) ha oO)) (λv x a b=>?_) (λy E x a b=>?_)
 have e:=EU c (Below.mono b c.size)
 exact AE (BB v (by unfold RU;rw [a];rfl) e)
 have q:=f.bl b.1
 have s:=DN c b.1
 obtain ⟨pn,cn,evn,t,-⟩:=b.2.row
 subst evn
 have d:=(FB a).1
 refine A1 (.s2a DM rfl (Nat.le_of_eq d.symm))<|Ai (A8a (L:=QM) (L':=Xt) DM rfl CY t (m6L y) (A5B d) (by rw [d];decide) rfl)<|AH rfl rfl q CY rfl rfl (λG i j A=>?_)
 have k:=CP s oO j
 refine A0<|B2 (Ch rfl rfl (BF i DM rfl CY)  ?_)
 exact Ct.ok _ (by unfold RU;rw [a];rfl) rfl k
def X6 (l:List Int) (n:Int) (t:Nat):Cj:=⟨n,if 0<t then DF (l.getD 0 0) else 0,if 1<t then DF (l.getD 1 0) else 0,if 2<t then DF (l.getD 2 0) else 0,if 3<t then DF (l.getD 3 0) else 0⟩
theorem A3W (l:List Int) (n:Int) (i:Nat) (hi:i<4) (hl:i<l.length):(DV (X6 l n i)).toArray.setIfInBounds (1+i) (Ah (DF l[i]))=(DV (X6 l n (i+1))).toArray:=by
 have e:l[i]=l.getD i 0:=by rw [Cc,A6 hl];rfl
 rw [e]
 match i,hi with
 | 0,_=>rfl
 | 1,_=>rfl
 | 2,_=>rfl
 | 3,_=>rfl
theorem A3X {l:List Int} {n:Nat} (h:l.length=n) (hn:n<=4):X6 l n n=⟨n,DF (l.getD 0 0),DF (l.getD 1 0),DF (l.getD 2 0),DF (l.getD 3 0)⟩:=by
 have z:∀ i,n<=i->DF (l.getD i 0)=0:=λi hi=>by rw [Cc,AO oO];rfl
 have c:∀ i,(if i<n then DF (l.getD i 0) else 0)=DF (l.getD i 0):=λi=>by
  split
  · rfl
  · rw [z i oO]
 unfold X6
 rw [c 0,c 1,c 2,c 3]
theorem KL (n:Nat) (h:Ga B fs w bv F V args) (ha:args.length<=32) (hn:n<=4) :
  Calls Tryz.prog 69 #[ptV bv,Ah (n:Int)] w (SF w (ES args n) λc=>.agg (DV c).toArray):=by
 refine Av func69 rfl ntmps69 ?_
 have U:=DR w
 refine A5<|C1 zeroValue37 rfl (λX ag Y j C ad=>?_)
 have a0:=uB U Y C
 refine A0<|A5<|A3 rfl<|?_
 refine A1 (.build (cs:=(DV (X6 [] n 0)).toArray) rfl (by rw [A9a];rfl)) ?_
 refine C1 zeroValue37 rfl (λs ah x D k ae=>?_)
 have a1:=Bx x j.lt
 have a2:=j.un k a1
 have a3:=uB a0 x k
 refine AH rfl rfl D F5 rfl rfl (λw7 E l af=>?_)
 have a4:=a2.up l
 have g:=CP a3 oO l
 refine A0<|Aj<|A5<|A3 rfl<|A3 rfl<|WL.cx BQ rfl rfl ((Fs n (h.same g) ha oO)) (λa5 a6 d b=>?_) (λe ai a6 d b=>?_)
 have m:=EU g (Below.mono b g.size)
 exact AE (BB a5 (by unfold ES;rw [d];rfl) m)
 have G:=a4.bl b.1
 have H:=E.bl b.1
 have J:=DN g b.1
 obtain ⟨pn,cn,evn,y,a7,-⟩:=b.2.row
 subst evn
 have a8:=(FB d).1
 have a9:=y.ofI
 refine A1 (.lenS Dm rfl)<|A3 rfl<|A0<|AU<|Cf (α:=Nat) (λt=>[(4,ptV X),(5,ptV s),(12,.slice pn e.length cn),(13,Ah (e.length:Int)),(14,Ah (t:Int))]) (λt w'=>AD w w'/\Be w' X (DV (X6 [] 0 0)).toArray 37/\Be w' s (DV (X6 e n t)).toArray 37/\AZ E5 w' pn e/\t<=n) (λt=>n-t) (0) ⟨rfl,rfl,rfl,rfl,rfl,tT⟩ (⟨J,G,H,a9,G8 _⟩) (λt w1 hR=>?_)
 obtain ⟨i,rfl⟩:=eX t
 obtain ⟨q1,q2,q3,K,q5⟩:=hR
 refine A5<|A1 (.lss rfl rfl)<|A0<|Aj<|Ae rfl (λq=>?_) (λq=>?_)
 have L:=dT q
 refine Ap<|Aj<|AU<|A5<|A3 rfl<|A1 (.ixb Dm B6 rfl rfl (K.isp oO) (i) (rfl) oO)<|Ai (AS (BE _) rfl (K.cells (i) oO))<|DA rfl<|Ab rfl<|Ak<|A3 rfl<|A3 rfl<|A1 (.max2 rfl rfl)<|A1 (.iis (DF e[i]) (.min2 rfl rfl) (by unfold DF;(repeat' split) <;> omega))<|A1 (.fa H5 rfl sizeOf35 dD rfl)<|A1 (.ixr1 Vt B6 rfl rfl (i) (rfl) (C6 (show i<n by omega) hn))<|A82 (o:=1+i) ((DV (X6 e n (i+1))).toArray) B6 rfl (add_lit _ _ _) rfl (rfl) q3 ((by show 1+i<5;omega)) (A3W e n i oO oO) (λaa f a ab=>?_)
 have f:Be aa s _ _:=f
 have a:E6 s _ _:=a
 have N:=q2.upd a oM
 have P:=AZ.upd K a (λh0=>by have:=a7 _ (y.isp h0);omega)
 have Q:=CP q1 oO a
 refine A0<|Ak<|A1 (.iis (((i+1:Nat):Int)) (.add rfl rfl (Bn oO)) oO)<|A3 rfl<|A0<|?_
 exact ⟨i+1,⟨rfl,rfl,rfl,rfl,rfl,tT⟩,⟨Q,N,f,P,oO⟩,oO⟩
 have L:=dF q
 refine C7<|A5<|Ai (BD rfl q3 H5 rfl F5)<|AH rfl rfl q2 F5 rfl rfl (λaj u v ac=>?_)
 have T:=CP q1 oO v
 refine A0<|B2 (Ch rfl rfl (BF u H5 rfl F5)  ?_)
 obtain rfl:i=n:=by omega
 exact Ct.ok _ (by unfold ES;rw [d];exact Bk Except.ok (A3X a8 hn).symm) rfl T
end
end
section
section
variable {P:Program} {n:Sh} {f:Fr}
theorem Tc  {t ty:TypeId} {i:TypeInfo} {z:Value} (ht:P.underlying t=some (.slice e)) (hi:P.info? e=some i) (hz:i.zero=some z) (hsize:i.size=1) (hby:i.bytes=by') (hby2:by'<=16) (hzs:z.cells.size=1)
 (hown:w.ownsRow B e 1 v m xs) {a:Addr} {u:Value} (hnews:∀ j y,[u][j]?=some y->w.cell? (a.add j)=some y) (h1:u.oneCell'=true) (hm:m<=1000000000) {w':World}
    (hr:(Builtin.append_ #[t,t] ty #[v,.slice (some a) 1 c]).run P w=.ok v' w'):∀ g,v'.ownBlock=some g->v.ownBlock=some g\/w.heap.size<=g:=by
  have s:(m+1) * by'<=(m+1) * 16:=Nat.mul_le_mul_left _ hby2
  rcases hown.2 with ⟨rfl,rfl⟩ | ⟨g,cap,cur,rfl,x,hg,A,C,l,o⟩
  · have hx : xs = [] := CM (by simpa using hown.1)
    subst hx
    obtain ⟨D,E,b,q,-,-⟩:=run_append_own (P:=P) (w:=w) w.heap.size t ty e i z 1 by' ht hi hz hsize hby hzs dD (.slice none 0 0) 0 [] (World.ownsRow_nil w w.heap.size e 1) a 1 c [u] rfl hnews (by simpa using h1) (by unfold maxLen;omega) oO (FQ _)
    have he:=hr.symm.trans b
    simp only [Result.ok.injEq] at he
    obtain ⟨rfl,rfl⟩:=he
    intro g hg
    exact .inr (q.lt g hg).1
  · by_cases hroom : m + 1 ≤ cap
    · have f : m * i.size + [u].length ≤ cur.size := by rw [hsize]; have : cur.size = cap * 1 := l; simp; omega
      have b:=run_append_room (P:=P) w t ty e i ht hi g m cap cur hg a 1 c [u] (by rw [hsize];rfl) hnews (by simpa using h1) hroom f
      have he:=hr.symm.trans b
      simp only [Result.ok.injEq] at he
      obtain ⟨rfl,rfl⟩:=he
      intro k hk
      exact .inl (by simpa [Value.ownBlock] using hk)
    · have d : ∀ j u, xs[j]? = some u → w.cell? ((⟨g, 0, none⟩ : Addr).add j) = some u := hown.cells (g := g) rfl
      have b:=run_append_grow (P:=P) w t ty e i z ht hi hz ⟨g,0,none⟩ m cap xs (by rw [hsize];exact hown.1) d a 1 c [u] (by rw [hsize];rfl) hnews oO oO (growslice_fits oO (by rw [hby];omega))
      have he:=hr.symm.trans b
      simp only [Result.ok.injEq] at he
      obtain ⟨rfl,rfl⟩:=he
      intro k hk
      simp only [Value.ownBlock,Br] at hk
      exact .inr oO
theorem A4q  {Q:Exit->Fr->World->Prop} {rest:List Oper} {ty:Nat} {s:Operand} {t:TypeId} {z u:Value} {b:Nat}
    (ht:P.underlying t=some (.slice e)) (hi:(P.info? e).map (λi=>(i.zero,i.size,i.bytes))=some (some z,1,by')) (hby2:Nat.ble by' 16=true) (hzs:z.cells.size=1)
    (hs:D3 f s=some v) (hown:Cq e B w v xs) (hx:D3 f x=some (.slice (some ⟨b,0,none⟩) 1 c)) (hb:Be w b #[u] tb) (h1:u.oneCell'=true)
    (hn:xs.length<=1000000000) (hB:B<=w.heap.size) (hd:Nat.blt d n.n=true)
    (k:∀ v' w',Cq e B w' v' (xs++[u])->Below B w w'->w.grownBy w' v.ownBlock->(∀ g,v'.ownBlock=some g->v.ownBlock=some g\/w.heap.size<=g)->WL P n ops Q rest ((d,v')::f) w') :
    WL P n ops Q (⟨some d,.call ⟨.builtin .append,#[s,x],#[t,t]⟩,ty,pos,aft,none⟩::rest) f w:=by
  cases hh:P.info? e with
  | none=>rw [hh] at hi;cases hi
  | some i =>
    rw [hh] at hi;simp only [Option.map_some,Br,CR] at hi;obtain ⟨hz,a,o⟩:=hi;have m:by'<=16:=by simpa using hby2
    have l:∀ j y,[u][j]?=some y->w.cell? ((⟨b,0,none⟩:Addr).add j)=some y:=λj y hj=>by
      have C:j=0:=by
        rcases HR j with h | h
        · exact h
        · rw [AO (by simp;omega)] at hj;cases hj
      subst C;simp only [List.getElem?_cons_zero,Br] at hj;subst hj;rw [Ff,hb.cell 0];rfl
    have G:(xs.length+1) * by'<=(xs.length+1) * 16:=Nat.mul_le_mul_left _ m
    obtain ⟨v',w',q,D,A,-⟩:=run_append_own (P:=P) (w:=w) B t ty e i z 1 by' ht hh hz a o hzs dD v xs.length xs hown ⟨b,0,none⟩ 1 c [u] rfl l (by simpa using h1) (by unfold maxLen;omega) oO hB
    have E:=Tc (P:=P) ht hh hz a o m hzs hown l h1 hn q;refine WL.run hd (w':=w') (v:=v') (λρ hρ=>?_) (k v' w' ?_ ((Nh _ _).grown A hB λk hk=>(hown.lt k hk).1) A E)
    · unfold execOp
      simp only [resolve,invoke,builtin,Bq,CC,AX,List.map_toArray,C3,Da,hρ _ _ hs,hρ _ _ hx,q]
    · have F : (xs ++ [u]).length = xs.length + 1 := by simp
      unfold Cq;rw [F];exact D
end
end
section
abbrev VwE (B:Nat) (fs:QD) (bv:Nat) (F:Nat->Prop) (w:World) (res:Except Int Vw) (args:List PV):Ending->World->Prop :=
 HO 30 res (λV1 v w'=>v=.tuple #[]/\∃ F1,Ga B fs w' bv F1 V1 args/\Dw F F1 w w') (λw'=>Below B w w')
theorem Dv.list  {x:PC} {o:PV} (h:Dv w Z x o):∃ cs,AJ NF 99 0 w (.slice x.lp x.ll x.lc) cs/\x.ll=cs.length/\Bi NF w x.lp cs/\(0<cs.length->Z (pA x.lp).block)/\YX Z w cs (NC o):=by
 cases h with
 | mk x keys list cs hk hr hlen hsub =>
  obtain ⟨ho,hz⟩:=hr
  obtain ⟨p,c,e,a,-,-,-,b,-⟩:=ho.row
  simp only [Value.slice.injEq] at e
  obtain ⟨rfl,d,rfl⟩:=e
  exact ⟨cs,ho,d,a,λf=>hz _ (by rw [b,a.isp f];rfl),hlen,hsub⟩
theorem W6:∀ {l:List PV},(∀ j (h:j<l.length),(EE l[j]).2=true/\0<=(EE l[j]).1)->Qp l=.ok (l.map λo=>(EE o).1)
 | [],_=>rfl
 | o::r,h=>by
  have h0:=h 0 (by simp)
  simp only [B3] at h0
  have ih:=W6 (l:=r) λj hj=>by have:=h (j+1) (by simpa using hj);simpa using this
  show (CS ((EE o).2 && decide ((EE o).1 ≥ 0))>>=λ_=>Qp r>>=λl=>pure ((EE o).1::l))=_
  rw [h0.1,Al h0.2,ih];rfl
theorem UI:∀ {l:List PV} (j:Nat) (h:j<l.length),((EE l[j]).2 && decide ((EE l[j]).1 ≥ 0))=false->Qp l=.error 22
 | o::r,0,_,h=>by
  simp only [B3] at h
  show (CS ((EE o).2 && decide ((EE o).1 ≥ 0))>>=λ_=>Qp r>>=λl=>pure ((EE o).1::l))=_
  rw [h];rfl
 | o::r,j+1,hj,h=>by
  have ih:=UI (l:=r) j (by simpa using hj) (by simpa using h)
  show (CS ((EE o).2 && decide ((EE o).1 ≥ 0))>>=λ_=>Qp r>>=λl=>pure ((EE o).1::l))=_
  rw [ih]
  cases hw:CS ((EE o).2 && decide ((EE o).1 ≥ 0)) with
  | error k=>rw [(Dl hw).2];rfl
  | ok u=>rfl
theorem ZJ {V:Vw} {args:List PV} (h:∀ a b,args=[a,b]->ND a=6->False):OT V args=.error 22:=by
 unfold OT
 split
 ·
  next a b =>
  have:ND a≠6:=λe=>h a b rfl e
  rw [An this];rfl
 · rfl
def A9E (p:DP) (l:List Int) (ph:Int):DP:={ p with pfDash:=none,fDash:=l,cfDash:=0,fPhase:=ph }
theorem A7R {V:Vw} {args:List PV} (h:args.length=2) (h6:ND args[0]=6) :
  OT V args=(do
   CS ((EE args[1]).2 && decide ((EE args[1]).1 ≥ 0))
   let l <- Qp (NC args[0])
   CS (decide (l.length<=11) && (decide (l.length=0) || decide (G6 l > 0)))
   return { V with s:={ V.s with pen:=A9E V.s.pen l (EE args[1]).1 } }):=by
 match args,h with
 | [a,b],_ =>
  have h6:ND a=6:=h6
  show (CS (decide (ND a=6))>>=λ_=>_)=_
  rw [Al h6];rfl
theorem Pc (l:List Int) (x:Int):G6 (l++[x])=G6 l+x:=by unfold G6;rw [List.foldl_append];rfl
theorem A5s {o:PV} (h:(EE o).2=true):(EE o).1<=2147483647:=(Ko (MY h)).2
def J8 (cs:List PC) (i:Nat):List Int:=(cs.take i).map λx=>(Ha x.kind x.n).1
theorem NK {cs:List PC} (h:i<cs.length):J8 cs (i+1)=J8 cs i++[(Ha cs[i].kind cs[i].n).1]:=by
 unfold J8;rw [Bd h,Bp];rfl
theorem A0Y {cs:List PC} (h:i<=cs.length):(J8 cs i).length=i:=by unfold J8;rw [B0,AT];omega
theorem Zk {k n:Int} (h:(Ha k n).2=true):(Ha k n).1<=2147483647:=A5s (o:=.mk k n [] [] []) h
theorem Zb {cs:List PC}:∀ {i:Nat},i<=cs.length->(∀ j (h:j<cs.length),j<i->(Ha cs[j].kind cs[j].n).2=true/\0<=(Ha cs[j].kind cs[j].n).1)->0<=G6 (J8 cs i)/\G6 (J8 cs i)<=2147483647 * i
 | 0,_,_=>by unfold J8;rw [A6W];decide
 | i+1,h,hj=>by
  have ih:=Zb (i:=i) oO λj h1 h2=>hj j h1 oO
  have h1:=hj i oO oO
  have h2:=Zk h1.1
  rw [NK oO,Pc]
  omega
section
variable {B:Nat} {fs:QD} {w:World} {bv:Nat} {F:Nat->Prop} {V:Vw} {args:List PV}
theorem Ga.base (h:Ga B fs w bv F V args):B<=bv/\B<=w.heap.size:=by
 obtain ⟨H,vp,its,hs,cs,rfl,hO,-⟩:=h.mem
 exact ⟨hO.lbv,hO.pth.base⟩
theorem A4R (h:Ga B fs w bv F V args) (ha:args.length<=32) (hb:∀ a∈args,(NC a).length<=65535) :
  Calls Tryz.prog 68 #[ptV bv] w (VwE B fs bv F w (OT V args) args):=by
 obtain ⟨cj,ck⟩:=h.base
 obtain ⟨H,vp,its,hs,cs,rfl,hO,hR⟩:=h.mem
 have a0:=hO.blk
 have aH:=hR.ar
 have cm:=hO.oa
 obtain ⟨s,fo,sa,pa,cl,it,lo,te,li,ar,itv⟩:=H
 obtain ⟨p,c,e,hr,-⟩:=cm.row
 simp only at e
 subst e
 have aI:=aH.1
 have ap:=aH.kn
 have cP:=a0.lt
 have y:∀ w1,AL w.heap.size [bv] w w1->Below B w w1:=λw1 hK=>hK.below ck (by simpa using cj)
 refine Av func68 rfl ntmps68 ?_
 have aB:=AL.refl w.heap.size ([bv]) w
 refine De (α:=Unit) (λt=>[(0,ptV bv)]) (λt w'=>AL w.heap.size [bv] w w'/\Be w' bv (FA ⟨s,fo,sa,pa,cl,it,lo,te,li,.slice p cs.length c,itv⟩).toArray 74/\Bi NF w' p cs/\∃ a1:cs.length=2,cs[0].kind=6) ?_ (λt w1 hR=>?_)
 refine Ak<|A3 rfl<|A1 (.nck rfl)<|A1 (.fa BW rfl F8 dD rfl)<|Ai (Af (He _) rfl a0 rfl)<|A1 (.lenS Fi rfl)<|A1 (.eql rfl rfl)<|A3 rfl<|B5 rfl rfl rfl (λq=>?_) (λq=>?_)
 have cn:=dT q
 refine A3 rfl<|Au q<|A1 (.nck rfl)<|Au q<|A1 (.fa BW rfl F8 dD rfl)<|Au q<|Ai (Af (He _) rfl a0 rfl)<|Au q<|A1 (.ixm Fi II rfl rfl (hr.isp oO) 0 rfl oO)<|Au q<|A1 (.fa CO rfl B6 dD rfl)<|Au q<|Ai (AS (BE _) rfl ((hr.field (0) oO 0 dD).trans rfl))<|Au q<|A1 (.eql rfl rfl)<|A1 (.pkT rfl q rfl)<|By BQ rfl rfl ((Dn _ _)) (λk4 w2 ay f=>?_) (λa3 w2 ay f=>?_)
 have b3:=kB aB f
 obtain ⟨u,rfl⟩:=Dl ay
 exact AE (DG 22 (ZJ λa b ho h6=>by
  subst ho;have a1:cs.length=2:=aI;obtain ⟨Q,q2,-⟩:=ap 0 oO (by simp);simp only [B3] at Q q2
  first
   | omega
   | (rw [Aw] at u;omega)) (y _ b3))
 have cq:=a0.bl f
 have cr:=Is hr f (λd=>hr.lt d)
 have ct:=kB aB f
 have f:=Ea ay
 have a1:cs.length=2:=by omega
 have aC:cs[0].kind=6:=by exact dT f
 refine A0<|?_
 exact ⟨(),⟨rfl,tT⟩,ct,cq,cr,a1,aC⟩
 have cn:=dF q
 refine Ac q<|Ac q<|Ac q<|Ac q<|Ac q<|Ac q<|Ac q<|A1 (.pkF rfl q rfl)<|By BQ rfl rfl ((Dn _ _)) (λcX w8 az aq=>?_) (λa9 w8 az aq=>?_)
 have b4:=kB aB aq
 obtain ⟨u,rfl⟩:=Dl az
 exact AE (DG 22 (ZJ λa b ho h6=>by
  subst ho;have a1:cs.length=2:=aI;obtain ⟨Q,q2,-⟩:=ap 0 oO (by simp);simp only [B3] at Q q2
  first
   | omega
   | (rw [Aw] at u;omega)) (y _ b4))
 have bq:=a0.bl aq
 have bt:=Is hr aq (λd=>hr.lt d)
 have bu:=kB aB aq
 have f:=Ea az
 have a1:cs.length=2:=by exact D6 f dD
 have aC:cs[0].kind=6:=by exact D6 f dD
 refine A0<|?_
 exact ⟨(),⟨rfl,tT⟩,bu,bq,bt,a1,aC⟩
 obtain ⟨j1,j2,j3,a1,aC⟩:=hR
 have cu:args.length=2:=by omega
 have hD:=A7R (V:=V) cu (by have:=(ap 0 oO oO).1;omega)
 have cv:Ha cs[1].kind cs[1].n=EE args[1]:=by rw [<- Pt,(ap 1 oO oO).1,(ap 1 oO oO).2.1]
 generalize EE args[1]=ph at *
 obtain ⟨ph,phB⟩:=ph
 simp only at hD
 refine A5<|A3 rfl<|A1 (.nck rfl)<|A1 (.fa BW rfl F8 dD rfl)<|Ai (Af (He _) rfl j2 rfl)<|A1 (.ixm Fi II rfl rfl (j3.isp oO) 1 rfl oO)<|Ai (Dy CO rfl Bb j3 (1) oO rfl)<|As (Kg cs[1] _) (λcY aA=>?_)
 have aJ:=j2.bl aA
 have ab:=Is j3 aA (λd=>j3.lt d)
 have ac:=kB j1 aA
 rw [cv]
 refine A3 rfl<|A1 (.ext rfl rfl)<|A1 (.ext rfl rfl)<|DA rfl<|Ab rfl<|De (α:=Unit) (λt=>[(0,ptV bv),(2,Ah ph)]) (λt w'=>AL w.heap.size [bv] w w'/\Be w' bv (FA ⟨s,fo,sa,pa,cl,it,lo,te,li,.slice p cs.length c,itv⟩).toArray 74/\Bi NF w' p cs/\phB=true/\0<=ph) ?_ (λt w1 hR=>?_)
 refine Ak<|A3 rfl<|A3 rfl<|B5 rfl rfl rfl (λau=>?_) (λau=>?_)
 refine A3 rfl<|Au au<|A1 (.geq rfl rfl)<|A1 (.pkT rfl au rfl)<|By BQ rfl rfl ((Dn _ _)) (λcZ cw ad a2=>?_) (λc' cw ad a2=>?_)
 have aK:=kB ac a2
 obtain ⟨u,rfl⟩:=Dl ad
 exact AE (DG 22 (by rw [hD];exact AF (by first | (rw [show (phB && decide (ph ≥ 0))=false by simp_all];rfl))) (y _ aK))
 have bw:=aJ.bl a2
 have bx:=Is ab a2 (λd=>ab.lt d)
 have bz:=kB ac a2
 refine A0<|?_
 have f:=Ea ad
 have C:phB=true:=by assumption
 have D:0<=ph:=by exact dT f
 exact ⟨(),⟨rfl,rfl,tT⟩,bz,bw,bx,C,D⟩
 refine Ac au<|A1 (.pkF rfl au rfl)<|By BQ rfl rfl ((Dn _ _)) (λd0 cy ae a4=>?_) (λd1 cy ae a4=>?_)
 have aL:=kB ac a4
 obtain ⟨u,rfl⟩:=Dl ae
 exact AE (DG 22 (by rw [hD];exact AF (by first | (rw [show (phB && decide (ph ≥ 0))=false by simp_all];rfl))) (y _ aL))
 have bA:=aJ.bl a4
 have bB:=Is ab a4 (λd=>ab.lt d)
 have bC:=kB ac a4
 refine A0<|?_
 have f:=Ea ae
 have C:phB=true:=by exact D6 f dD
 have D:0<=ph:=by exact D6 f dD
 exact ⟨(),⟨rfl,rfl,tT⟩,bC,bA,bB,C,D⟩
 obtain ⟨j4,j5,j6,C,D⟩:=hR
 obtain ⟨ce,d2,d3,bp,aM,v⟩:=(aH.2 0 oO oO).list
 have bD:=rk_ bp j4 (λd=>⟨(aM d).1,λhm=>(aM d).2.1 (.inl (by simpa using hm))⟩)
 have bE:=bp.lt
 have cQ:0<ce.length->(pA cs[0].lp).block≠bv:=λd e=>(aM d).2.1 (.inl e)
 have d4:ce.length<=65535:=by have:=v.1;have:=hb _ (AM (by omega:0<args.length));omega
 rw [C,Al D,AQ (show CS (true && true)=.ok () from rfl)] at hD
 refine A5<|Ab rfl<|A5<|Ab rfl<|Aj<|A5<|A3 rfl<|A1 (.nck rfl)<|A1 (.fa BW rfl F8 dD rfl)<|Ai (Af (He _) rfl j5 rfl)<|A1 (.ixm Fi II rfl rfl (j6.isp oO) 0 rfl oO)<|A1 (.fa CO rfl F8 dD rfl)<|Ai (AS (He _) rfl ((j6.field (0) oO 4 dD).trans rfl))<|A1 (.lenS Fi rfl)<|A3 rfl<|A0<|AU<|Cf (α:=Value × Nat) (λt=>[(0,ptV bv),(2,Ah ph),(4,t.1),(5,Ah (G6 (J8 ce t.2))),(49,.slice cs[0].lp cs[0].ll cs[0].lc),(50,Ah (cs[0].ll:Int)),(51,Ah (t.2:Int))]) (λt w'=>AL w.heap.size [bv] w w'/\Be w' bv (FA ⟨s,fo,sa,pa,cl,it,lo,te,li,.slice p cs.length c,itv⟩).toArray 74/\Bi NF w' cs[0].lp ce/\Cq 3 w.heap.size w' t.1 ((J8 ce t.2).map E5)/\t.2<=ce.length/\∀ j (h:j<ce.length),j<t.2->(Ha ce[j].kind ce[j].n).2=true/\0<=(Ha ce[j].kind ce[j].n).1) (λt=>ce.length-t.2) ((_,0)) ⟨rfl,rfl,rfl,rfl,rfl,rfl,rfl,tT⟩ (⟨j4,j5,bD,Cq.nil _ _ _,G8 _,λj _ h=>D6 h oO⟩) (λt w1 hR=>?_)
 obtain ⟨⟨sv,i⟩,cz⟩:=eX t
 subst cz
 obtain ⟨Q,q2,q3,q4,q5,q6⟩:=hR
 simp only at q4 q5 q6
 have aN:w.heap.size<=w1.heap.size:=Q.size
 have bG:=Cq.ltV q4
 have bH:=Zb q5 q6
 refine A5<|A1 (.lss rfl rfl)<|A0<|Aj<|Ae rfl (λaO=>?_) (λaO=>?_)
 have bI:=dT aO
 refine Ap<|Aj<|AU<|A5<|A1 (.ixm Fi II rfl rfl (q3.isp oO) (i) (rfl) oO)<|Ai (Dy CO rfl Bb q3 (i) oO rfl)<|C1 JE rfl (λd5 cR af b5 E cI=>?_)
 have b6:=BA aN E.size
 have bJ:=Cq.new q4 af E
 have bK:=Bx af q2.lt
 have bL:=q2.un E bK
 have aD:=λd=>af▸q3.lt d
 have bM:=Bi.upd q3 E (λd=>IU (aD d))
 have aP:=DW af Q.size
 have bN:=CI Q (Ik E aP)
 refine AH rfl rfl b5 Bb rfl rfl (λd6 b7 G cJ=>?_)
 have b8:=BA b6 G.size
 have bO:=Cq.upd bJ G ((λg hg e=>by have:=(bG g hg);omega))
 have bP:=bL.up G
 have aQ:=Bi.upd bM G (λd=>IU (aD d))
 have bQ:=CI bN (by exact Ik G oO)
 refine A0<|A5<|Ai (BD rfl b7 CO rfl Bb)<|As (Kg ce[i] _) (λd7 a5=>?_)
 have b9:=BA b8 a5.size
 have aR:=Cq.below bO a5
 have aS:=bP.bl a5
 have ag:=Is aQ a5 (λd=>aQ.lt d)
 have ah:=kB bQ a5
 refine A3 rfl<|A1 (.ext rfl rfl)<|A1 (.ext rfl rfl)<|DA rfl<|Ab rfl<|De (α:=Unit) (λt=>[(0,ptV bv),(2,Ah ph),(4,sv),(5,Ah (G6 (J8 ce i))),(8,Ah (Ha ce[i].kind ce[i].n).1),(49,.slice cs[0].lp cs[0].ll cs[0].lc),(50,Ah (cs[0].ll:Int)),(51,Ah (i:Int))]) (λt w'=>AL w.heap.size [bv] w w'/\Be w' bv (FA ⟨s,fo,sa,pa,cl,it,lo,te,li,.slice p cs.length c,itv⟩).toArray 74/\Bi NF w' cs[0].lp ce/\Cq 3 w.heap.size w' sv ((J8 ce i).map E5)/\(Ha ce[i].kind ce[i].n).2=true/\0<=(Ha ce[i].kind ce[i].n).1) ?_ (λt w1 hR=>?_)
 refine Ak<|A3 rfl<|A3 rfl<|B5 rfl rfl rfl (λav=>?_) (λav=>?_)
 refine A3 rfl<|Au av<|A1 (.geq rfl rfl)<|A1 (.pkT rfl av rfl)<|By BQ rfl rfl ((Dn _ _)) (λd8 cA ai T=>?_) (λd9 cA ai T=>?_)
 have aT:=kB ah T
 obtain ⟨u,rfl⟩:=Dl ai
 have J:i<(NC args[0]).length:=by have:=v.1;omega
 have aU:EE (NC args[0])[i]=Ha ce[i].kind ce[i].n:=by rw [<- Pt,(v.kn i oO J).1,(v.kn i oO J).2.1]
 exact AE (DG 22 (by rw [hD];exact AF (UI i J (by rw [aU];simp_all))) (y _ aT))
 have bR:=Cq.below aR T
 have bS:=aS.bl T
 have bT:=Is ag T (λd=>ag.lt d)
 have bU:=kB ah T
 refine A0<|?_
 have f:=Ea ai
 have C:(Ha ce[i].kind ce[i].n).2=true:=by assumption
 have D:0<=(Ha ce[i].kind ce[i].n).1:=by exact dT f
 exact ⟨(),⟨rfl,rfl,rfl,rfl,rfl,rfl,rfl,rfl,tT⟩,bU,bS,bT,bR,C,D⟩
 refine Ac av<|A1 (.pkF rfl av rfl)<|By BQ rfl rfl ((Dn _ _)) (λda cB aj x=>?_) (λdb cB aj x=>?_)
 have aV:=kB ah x
 obtain ⟨u,rfl⟩:=Dl aj
 have J:i<(NC args[0]).length:=by have:=v.1;omega
 have aU:EE (NC args[0])[i]=Ha ce[i].kind ce[i].n:=by rw [<- Pt,(v.kn i oO J).1,(v.kn i oO J).2.1]
 exact AE (DG 22 (by rw [hD];exact AF (UI i J (by rw [aU];simp_all))) (y _ aV))
 have cK:=BA b9 x.size
 have bV:=Cq.below aR x
 have bW:=aS.bl x
 have bX:=Is ag x (λd=>ag.lt d)
 have bY:=kB ah x
 refine A0<|?_
 have f:=Ea aj
 have C:(Ha ce[i].kind ce[i].n).2=true:=by exact D6 f dD
 have D:0<=(Ha ce[i].kind ce[i].n).1:=by exact D6 f dD
 exact ⟨(),⟨rfl,rfl,rfl,rfl,rfl,rfl,rfl,rfl,tT⟩,bY,bW,bX,bV,C,D⟩
 obtain ⟨n1,n2,n3,n4,n5,n6⟩:=hR
 have ba:w.heap.size<=w1.heap.size:=n1.size
 have bZ:=Cq.ltV n4
 have cS:=Zk n5
 refine A5<|A3 rfl<|A3 rfl<|CF (ps:=_) Dm B6 PM rfl rfl rfl rfl rfl pR rfl (λdc cT ak bb K cL=>?_)
 have aE:=BA ba K.size
 have b':=Cq.new n4 ak K
 have c0:=Bx ak n2.lt
 have c2:=n2.un K c0
 have bc:=λd=>ak▸n3.lt d
 have c4:=Bi.upd n3 K (λd=>IU (bc d))
 have aW:=DW ak n1.size
 have aX:=CI n1 (Ik K aW)
 refine A4q Dm Wy rfl rfl rfl b' rfl bb rfl (by rw [B0,A0Y q5];omega) (aE) rfl (λdd de bd am be cM=>?_)
 have c5:=c2.below am oO
 have c6:=Is c4 am bE
 have c7:=CI aX (Ce be (λg hg=>.inr (bZ g hg).1) aX.size)
 have cN:=BA aE am.size
 refine Ab rfl<|Ak<|A3 rfl<|A3 rfl<|A1 (.iis (G6 (J8 ce (i+1))) (.add rfl rfl (Bn oO)) (by rw [NK oO,Pc]))<|Ab rfl<|Ak<|A1 (.iis (((i+1:Nat):Int)) (.add rfl rfl (Bn oO)) oO)<|A3 rfl<|A0<|?_
 exact ⟨(_,i+1),⟨rfl,rfl,rfl,rfl,rfl,rfl,rfl,tT⟩,⟨c7,c5,c6,by rw [NK oO,Bp];exact bd,oM,λj h hj=>by
  rcases Cp.1 hj with h2 | rfl;exact q6 j h h2;exact ⟨n5,n6⟩⟩,oM⟩
 have bI:=dF aO
 have J:i=ce.length:=by omega
 have hq4L:(J8 ce i)=(NC args[0]).map λo=>(EE o).1:=by
  have:=Bk (List.map Prod.fst) v.nums;rw [List.map_map,List.map_map] at this;subst J;unfold J8;rw [Ca];exact this
 have hP:=W6 (l:=NC args[0]) (λj hj=>by
  have aY:j<ce.length:=by have:=v.1;omega
  rw [show EE (NC args[0])[j]=Ha ce[j].kind ce[j].n by rw [<- Pt,(v.kn j aY hj).1,(v.kn j aY hj).2.1]];exact q6 j aY oO)
 rw [<- hq4L] at hP
 rw [AQ hP] at hD
 obtain ⟨L,hL⟩:=eX (J8 ce i)
 have df:G6 L=G6 (J8 ce i):=by rw [hL]
 rw [<- hL] at hD bH q4
 obtain ⟨po,co,c8,dg,-⟩:=(AJ.ofI q4).row
 subst c8
 refine C7<|De (α:=Unit) (λt=>[(0,ptV bv),(2,Ah ph),(4,.slice po L.length co)]) (λt w'=>AL w.heap.size [bv] w w'/\Be w' bv (FA ⟨s,fo,sa,pa,cl,it,lo,te,li,.slice p cs.length c,itv⟩).toArray 74/\AJ QM 3 w.heap.size w' (.slice po L.length co) L/\(decide (L.length<=11) && (decide (L.length=0) || decide (G6 L > 0)))=true) ?_ (λt w1 hR=>?_)
 refine Ak<|A3 rfl<|A1 (.lenS Dm rfl)<|A1 (.leq rfl rfl)<|A3 rfl<|B5 rfl rfl rfl (λk=>?_) (λk=>?_)
 have c9:=dT k
 refine A3 rfl<|Au k<|A1 (.lenS Dm rfl)<|Au k<|A1 (.eql rfl rfl)<|Au k<|A3 rfl<|B5 rfl rfl rfl (λa6=>?_) (λa6=>?_)
 have ca:=dF a6
 refine A3 rfl<|Au a6<|A1 (.gtr rfl rfl)<|Au k<|A1 (.pkF rfl a6 rfl)<|A1 (.pkT rfl k rfl)<|By BQ rfl rfl ((Dn _ _)) (λdh cC an X=>?_) (λdi cC an X=>?_)
 have aZ:=kB Q X
 obtain ⟨u,rfl⟩:=Dl an
 exact AE (DG 22 (by rw [hD];exact AF (by
  have hx:¬ (decide (L.length<=11) && (decide (L.length=0) || decide (G6 L > 0)))=true:=λhh=>by
   simp only [A4,BC,Ad] at hh
   (simp only [Aw] at u;omega)
  rw [Kw.2 hx];rfl)) (y _ aZ))
 have cO:=BA aN X.size
 have cb:=Cq.below q4 X
 have cc:=q2.bl X
 have cd:=kB Q X
 have a7:(decide (L.length<=11) && (decide (L.length=0) || decide (G6 L > 0)))=true:=by
  have d:=Ea an
  (simp only [A4,BC,Ad] at d ⊢;omega)
 refine A0<|?_
 exact ⟨(),⟨rfl,rfl,rfl,tT⟩,cd,cc,AJ.ofI cb,a7⟩
 have ca:=dT a6
 refine Ac a6<|Au k<|A1 (.pkT rfl a6 rfl)<|A1 (.pkT rfl k rfl)<|By BQ rfl rfl ((Dn _ _)) (λdj cD ao a8=>?_) (λdk cD ao a8=>?_)
 have a':=kB Q a8
 obtain ⟨u,rfl⟩:=Dl ao
 exact AE (DG 22 (by rw [hD];exact AF (by
  have hx:¬ (decide (L.length<=11) && (decide (L.length=0) || decide (G6 L > 0)))=true:=λhh=>by
   simp only [A4,BC,Ad] at hh;exact D6 u dD
  rw [Kw.2 hx];rfl)) (y _ a'))
 have cf:=Cq.below q4 a8
 have bf:=q2.bl a8
 have bg:=kB Q a8
 have a7:(decide (L.length<=11) && (decide (L.length=0) || decide (G6 L > 0)))=true:=by
  have d:=Ea ao
  (simp only [A4,BC,Ad] at d ⊢;omega)
 refine A0<|?_
 exact ⟨(),⟨rfl,rfl,rfl,tT⟩,bg,bf,AJ.ofI cf,a7⟩
 have c9:=dF k
 refine Ac k<|Ac k<|Ac k<|G9<|G9<|Ac k<|A1 (.pkF rfl k rfl)<|By BQ rfl rfl ((Dn _ _)) (λcU cg aa P=>?_) (λcV cg aa P=>?_)
 have aG:=kB Q P
 obtain ⟨u,rfl⟩:=Dl aa
 exact AE (DG 22 (by rw [hD];exact AF (by
  have hx:¬ (decide (L.length<=11) && (decide (L.length=0) || decide (G6 L > 0)))=true:=λhh=>by
   simp only [A4,BC,Ad] at hh
   omega
  rw [Kw.2 hx];rfl)) (y _ aG))
 have bh:=Cq.below q4 P
 have bi:=q2.bl P
 have bj:=kB Q P
 have a7:(decide (L.length<=11) && (decide (L.length=0) || decide (G6 L > 0)))=true:=by
  have d:=Ea aa;exact D6 d dD
 refine A0<|?_
 exact ⟨(),⟨rfl,rfl,rfl,tT⟩,bj,bi,AJ.ofI bh,a7⟩
 obtain ⟨m1,m2,m3,a7⟩:=hR
 have b0:=m3.lt
 rw [a7,AQ (show CS true=.ok () from rfl)] at hD
 refine Ak<|A3 rfl<|A3 rfl<|A3 rfl<|A3 rfl<|A1 (.nck rfl)<|A1 (.fa BW rfl EL dD rfl)<|A1 (.fa Fv rfl Nd dD rfl)<|A1 (.fa D7 rfl HX dD rfl)<|CT 20 ((FA ⟨{ s with pen:={ s.pen with pfDash:=po,fDash:=L,cfDash:=co } },fo,sa,pa,cl,it,lo,te,li,.slice p cs.length c,itv⟩).toArray) m2 HX (λcW b1 aw cE=>?_)
 have bk:=I4 m3 aw ((λg hg e=>by have:=(b0 g hg);have:=a0.lt;omega))
 have bm:=CI m1 (by exact Hc aw (by simp))
 refine A1 (.nck rfl)<|A1 (.fa BW rfl EL dD rfl)<|A1 (.fa Fv rfl Nd dD rfl)<|A1 (.fa D7 rfl B6 dD rfl)<|CT 21 ((FA ⟨{ s with pen:={ s.pen with pfDash:=po,fDash:=L,cfDash:=co,fPhase:=ph } },fo,sa,pa,cl,it,lo,te,li,.slice p cs.length c,itv⟩).toArray) b1 B6 (λci b2 ax cF=>?_)
 have bn:=I4 bk ax ((λg hg e=>by have:=(b0 g hg);have:=a0.lt;omega))
 have bo:=CI bm (by exact Hc ax (by simp))
 refine A0<|BU (BK rfl ?_)
 have aF:=bn
 refine GX _ _ hD rfl ⟨rfl,EC hO bo b2 (λm=>?_)⟩
 have hz:∀ g,(Value.slice po L.length co).ownBlock=some g->Eh fs.c (GG bv _ vp) ci g:=λg hg=>⟨(aF.lt g hg).2,λhf=>by have:=(hO.inn g hf).2;have:=(aF.lt g hg).1;omega,by have:=hR.cx;have:=(aF.lt g hg).1;omega⟩
 obtain ⟨p3,c3,e3,cG⟩:=Cn.own aF hz
 cases e3
 have hq:=hR.mv m
 have cH:=hq.st.pen
 exact { hq with st:={ hq.st with pen:=(by rw [<- cH];rfl),penr:=cG } }
end
end
section
theorem U2 {l:List Int} {n:Nat} (h:l.length=n) (hi:i<n):l.getD i 0=l[i]'oO:=by
 rw [Cc,A6 oO];rfl
section
variable {B:Nat} {fs:QD} {w:World} {bv:Nat} {F:Nat->Prop} {V:Vw} {args:List PV}
theorem A4P (op:l8_) (h:Ga B fs w bv F V args) (ha:args.length<=32) (hb:∀ a∈args,(NC a).length<=65535) :
  Calls Tryz.prog 48 #[ptV bv,.string (bs op)] w (VwE B fs bv F w (I0 V args op) args):=by
 obtain ⟨ay,az⟩:=h.base
 have G:=h
 obtain ⟨H,vp,its,hs,cs,rfl,hO,hR⟩:=h.mem
 have D:=hO.blk
 obtain ⟨s,fo,sa,pa,cl,it,lo,te,li,ar,itv⟩:=H
 have f:∀ w1,AL w.heap.size [bv] w w1->Below B w w1:=λw1 hK=>hK.below az (by simpa using ay)
 refine Av func48 rfl ntmps48 ?_
 have b:=AL.refl w.heap.size ([bv]) w
 refine A5<|A3 rfl<|A0<|AU<|A5<|A1 (.eqs rfl rfl)<|Ab rfl<|Ae rfl (λh1=>?_) (λh1=>?_)
 have aA:=dT h1
 have hD:I0 V args op=(do let l <- Dt args 1;CS (decide (l.getD 0 0 ≥ 0));return { V with s:={ V.s with pen:={ V.s.pen with fWidth:=l.getD 0 0 } } }):=A7 aS
 refine A5<|A3 rfl<|WL.cx BQ rfl rfl ((Fs 1 G ha oO)) (λk4 w2 g v=>?_) (λa3 x5 w2 g v=>?_)
 have a1:=kB b v
 exact AE (DG k4 (by rw [hD,AF g]) (f _ a1))
 have aB:=D.bl v.1
 have ad:=kB b v.1
 obtain ⟨pn,cn,evn,J,-⟩:=v.2.row
 subst evn
 have K:=(FB g).1
 have x:=J.ofI
 rw [AQ g,U2 K dD] at hD
 obtain ⟨L,y⟩:=eX (a3[0])
 rw [<- y] at hD
 refine A1 (.ixb Dm B6 rfl rfl (x.isp oO) (0) (rfl) oO)<|Ai (Rd.iis (L) (AS (BE _) rfl (x.cells (0) oO)) (by exact y.symm))<|Ab rfl<|A5<|A3 rfl<|A1 (.geq rfl rfl)<|By BQ rfl rfl ((Dn _ _)) (λaC w8 A E=>?_) (λa9 w8 A E=>?_)
 have a2:=kB ad E
 exact AE (DG aC (by rw [hD];exact AF A) (f _ a2))
 have ae:=aB.bl E
 have af:=kB ad E
 rw [AQ A] at hD
 refine A0<|Ak<|A3 rfl<|A3 rfl<|A1 (.nck rfl)<|A1 (.fa BW rfl EL dD rfl)<|A1 (.fa Fv rfl Nd dD rfl)<|A1 (.fa D7 rfl B6 dD rfl)<|CT 16 ((FA ⟨{ s with pen:={ s.pen with fWidth:=L } },fo,sa,pa,cl,it,lo,te,li,ar,itv⟩).toArray) ae B6 (λaV a4 a5 aQ=>?_)
 have ag:=CI af (by exact Hc a5 (by simp))
 refine A0<|BU (BK rfl ?_)
 refine GX _ _ hD rfl ⟨rfl,EC hO ag a4 (λm=>?_)⟩
 have hq:=hR.mv m
 have d:=hq.st.pen
 exact { hq with st:={ hq.st with pen:=(by rw [<- d];rfl),penr:=hq.st.penr } }
 have aA:=dF h1
 refine A5<|A1 (.eqs rfl rfl)<|Ab rfl<|Ae rfl (λN=>?_) (λN=>?_)
 have ah:=dT N
 have hD:I0 V args op=(do let n <- Jk args;return { V with s:={ V.s with pen:={ V.s.pen with fCap:=n } } }):=by unfold I0;rw [A2 aS,A7 aS]
 refine Ak<|A3 rfl<|A3 rfl<|By BQ rfl rfl ((Vm G ha)) (λaD aE i j=>?_) (λaF aE i j=>?_)
 have P:=kB b j
 exact AE (DG aD (by rw [hD,AF i]) (f _ P))
 have ai:=D.bl j
 have aj:=kB b j
 rw [AQ i] at hD
 refine A1 (.nck rfl)<|A1 (.fa BW rfl EL dD rfl)<|A1 (.fa Fv rfl Nd dD rfl)<|A1 (.fa D7 rfl B6 dD rfl)<|CT 17 ((FA ⟨{ s with pen:={ s.pen with fCap:=aF } },fo,sa,pa,cl,it,lo,te,li,ar,itv⟩).toArray) ai B6 (λaW a6 a7 aR=>?_)
 have ak:=CI aj (by exact Hc a7 (by simp))
 refine A0<|BU (BK rfl ?_)
 refine GX _ _ hD rfl ⟨rfl,EC hO ak a6 (λm=>?_)⟩
 have hq:=hR.mv m
 have d:=hq.st.pen
 exact { hq with st:={ hq.st with pen:=(by rw [<- d];rfl),penr:=hq.st.penr } }
 have ah:=dF N
 refine A5<|A1 (.eqs rfl rfl)<|Ab rfl<|Ae rfl (λQ=>?_) (λQ=>?_)
 have al:=dT Q
 have hD:I0 V args op=(do let n <- Jk args;return { V with s:={ V.s with pen:={ V.s.pen with fJoin:=n } } }):=by unfold I0;rw [A2 aS,A2 aS,A7 aS]
 refine Ak<|A3 rfl<|A3 rfl<|By BQ rfl rfl ((Vm G ha)) (λaG aH k o=>?_) (λaI aH k o=>?_)
 have T:=kB b o
 exact AE (DG aG (by rw [hD,AF k]) (f _ T))
 have am:=D.bl o
 have an:=kB b o
 rw [AQ k] at hD
 refine A1 (.nck rfl)<|A1 (.fa BW rfl EL dD rfl)<|A1 (.fa Fv rfl Nd dD rfl)<|A1 (.fa D7 rfl B6 dD rfl)<|CT 18 ((FA ⟨{ s with pen:={ s.pen with fJoin:=aI } },fo,sa,pa,cl,it,lo,te,li,ar,itv⟩).toArray) am B6 (λaX a8 aa aT=>?_)
 have ao:=CI an (by exact Hc aa (by simp))
 refine A0<|BU (BK rfl ?_)
 refine GX _ _ hD rfl ⟨rfl,EC hO ao a8 (λm=>?_)⟩
 have hq:=hR.mv m
 have d:=hq.st.pen
 exact { hq with st:={ hq.st with pen:=(by rw [<- d];rfl),penr:=hq.st.penr } }
 have al:=dF Q
 refine A5<|A1 (.eqs rfl rfl)<|Ab rfl<|Ae rfl (λU=>?_) (λU=>?_)
 have ap:=dT U
 have hD:I0 V args op=(do let l <- Dt args 1;CS (decide (l.getD 0 0 ≥ 65536));return { V with s:={ V.s with pen:={ V.s.pen with fMiter:=l.getD 0 0 } } }):=by unfold I0;rw [A2 aS,A2 aS,A2 aS,A7 aS]
 refine A5<|A3 rfl<|WL.cx BQ rfl rfl ((Fs 1 G ha oO)) (λaJ aK c e=>?_) (λaL aY aK c e=>?_)
 have X:=kB b e
 exact AE (DG aJ (by rw [hD,AF c]) (f _ X))
 have aq:=D.bl e.1
 have Y:=kB b e.1
 obtain ⟨pn,cn,evn,J,-⟩:=e.2.row
 subst evn
 have K:=(FB c).1
 have x:=J.ofI
 rw [AQ c,U2 K dD] at hD
 obtain ⟨L,y⟩:=eX (aL[0])
 rw [<- y] at hD
 refine A1 (.ixb Dm B6 rfl rfl (x.isp oO) (0) (rfl) oO)<|Ai (Rd.iis (L) (AS (BE _) rfl (x.cells (0) oO)) (by exact y.symm))<|Ab rfl<|A5<|A3 rfl<|A1 (.geq rfl rfl)<|By BQ rfl rfl ((Dn _ _)) (λaM aN q t=>?_) (λaZ aN q t=>?_)
 have a0:=kB Y t
 exact AE (DG aM (by rw [hD];exact AF q) (f _ a0))
 have au:=aq.bl t
 have av:=kB Y t
 rw [AQ q] at hD
 refine A0<|Ak<|A3 rfl<|A3 rfl<|A1 (.nck rfl)<|A1 (.fa BW rfl EL dD rfl)<|A1 (.fa Fv rfl Nd dD rfl)<|A1 (.fa D7 rfl B6 dD rfl)<|CT 19 ((FA ⟨{ s with pen:={ s.pen with fMiter:=L } },fo,sa,pa,cl,it,lo,te,li,ar,itv⟩).toArray) au B6 (λa' ab ac aU=>?_)
 have aw:=CI av (by exact Hc ac (by simp))
 refine A0<|BU (BK rfl ?_)
 refine GX _ _ hD rfl ⟨rfl,EC hO aw ab (λm=>?_)⟩
 have hq:=hR.mv m
 have d:=hq.st.pen
 exact { hq with st:={ hq.st with pen:=(by rw [<- d];rfl),penr:=hq.st.penr } }
 have ap:=dF U
 have hD:I0 V args op=OT V args:=by unfold I0;rw [A2 aS,A2 aS,A2 aS,A2 aS]
 refine Ak<|A3 rfl<|WL.cx BQ rfl rfl ((A4R G ha hb)) (λaO aP u C=>?_) (λb0 b1 aP u C=>?_)
 exact AE (DG aO (hD.trans u) C)
 obtain ⟨rfl,hF⟩:=C
 have ax:=hD.trans u
 refine A0<|BU (BK rfl ?_)
 exact GX _ _ ax rfl ⟨rfl,hF⟩
theorem A08 (op:l8_) (h:Ga B fs w bv F V args) (ha:args.length<=32) :
  Calls Tryz.prog 49 #[ptV bv,.string (bs op)] w (VwE B fs bv F w (Et V args op) args):=by
 obtain ⟨an,ao⟩:=h.base
 have x:=h
 obtain ⟨H,vp,its,hs,cs,rfl,hO,hR⟩:=h.mem
 have b:=hO.blk
 obtain ⟨s,fo,sa,pa,cl,it,lo,te,li,ar,itv⟩:=H
 have d:∀ w1,AL w.heap.size [bv] w w1->Below B w w1:=λw1 hK=>hK.below ao (by simpa using an)
 refine Av func49 rfl ntmps49 ?_
 have a:=AL.refl w.heap.size ([bv]) w
 refine A5<|A3 rfl<|A0<|AU<|A5<|A1 (.eqs rfl rfl)<|Ab rfl<|Ae rfl (λh1=>?_) (λh1=>?_)
 have ap:=dT h1
 have hD:Et V args op=(do let c <- ES args 1;return { V with s:={ V.s with fill:=c } }):=A7 aS
 refine Ak<|A3 rfl<|A3 rfl<|By BQ rfl rfl ((KL 1 x ha oO)) (λk4 w2 u v=>?_) (λa3 w2 u v=>?_)
 have L:=kB a v
 exact AE (DG k4 (by rw [hD,AF u]) (d _ L))
 have aq:=b.bl v
 have au:=kB a v
 rw [AQ u] at hD
 refine A1 (.nck rfl)<|A1 (.fa BW rfl EL dD rfl)<|A1 (.fa Fv rfl K7 dD rfl)<|Fp 6 ((FA ⟨{ s with fill:=a3 },fo,sa,pa,cl,it,lo,te,li,ar,itv⟩).toArray) aq F5 (λw7 a2 a4 aR=>?_)
 have av:=CI au (by exact Hc a4 (by simp))
 refine A0<|BU (BK rfl ?_)
 refine GX _ _ hD rfl ⟨rfl,EC hO av a2 (λm=>?_)⟩
 have hq:=hR.mv m
 exact { hq with st:={ hq.st with fill:=rfl } }
 have ap:=dF h1
 refine A5<|A1 (.eqs rfl rfl)<|Ab rfl<|Ae rfl (λh9=>?_) (λh9=>?_)
 have aw:=dT h9
 have hD:Et V args op=(do let c <- ES args 3;return { V with s:={ V.s with fill:=c } }):=by unfold Et;rw [A2 aS,A7 aS]
 refine Ak<|A3 rfl<|A3 rfl<|By BQ rfl rfl ((KL 3 x ha oO)) (λax ay e f=>?_) (λaz ay e f=>?_)
 have y:=kB a f
 exact AE (DG ax (by rw [hD,AF e]) (d _ y))
 have a5:=b.bl f
 have a6:=kB a f
 rw [AQ e] at hD
 refine A1 (.nck rfl)<|A1 (.fa BW rfl EL dD rfl)<|A1 (.fa Fv rfl K7 dD rfl)<|Fp 6 ((FA ⟨{ s with fill:=az },fo,sa,pa,cl,it,lo,te,li,ar,itv⟩).toArray) a5 F5 (λaT N P aM=>?_)
 have a7:=CI a6 (by exact Hc P (by simp))
 refine A0<|BU (BK rfl ?_)
 refine GX _ _ hD rfl ⟨rfl,EC hO a7 N (λm=>?_)⟩
 have hq:=hR.mv m
 exact { hq with st:={ hq.st with fill:=rfl } }
 have aw:=dF h9
 refine A5<|A1 (.eqs rfl rfl)<|Ab rfl<|Ae rfl (λA=>?_) (λA=>?_)
 have a8:=dT A
 have hD:Et V args op=(do let c <- ES args 4;return { V with s:={ V.s with fill:=c } }):=by unfold Et;rw [A2 aS,A2 aS,A7 aS]
 refine Ak<|A3 rfl<|A3 rfl<|By BQ rfl rfl ((KL 4 x ha oO)) (λaA aB g i=>?_) (λaC aB g i=>?_)
 have C:=kB a i
 exact AE (DG aA (by rw [hD,AF g]) (d _ C))
 have a9:=b.bl i
 have aa:=kB a i
 rw [AQ g] at hD
 refine A1 (.nck rfl)<|A1 (.fa BW rfl EL dD rfl)<|A1 (.fa Fv rfl K7 dD rfl)<|Fp 6 ((FA ⟨{ s with fill:=aC },fo,sa,pa,cl,it,lo,te,li,ar,itv⟩).toArray) a9 F5 (λaU Q R aN=>?_)
 have ab:=CI aa (by exact Hc R (by simp))
 refine A0<|BU (BK rfl ?_)
 refine GX _ _ hD rfl ⟨rfl,EC hO ab Q (λm=>?_)⟩
 have hq:=hR.mv m
 exact { hq with st:={ hq.st with fill:=rfl } }
 have a8:=dF A
 refine A5<|A1 (.eqs rfl rfl)<|Ab rfl<|Ae rfl (λD=>?_) (λD=>?_)
 have ac:=dT D
 have hD:Et V args op=(do let c <- ES args 1;return { V with s:={ V.s with stroke:=c } }):=by unfold Et;rw [A2 aS,A2 aS,A2 aS,A7 aS]
 refine Ak<|A3 rfl<|A3 rfl<|By BQ rfl rfl ((KL 1 x ha oO)) (λaD aE j k=>?_) (λaF aE j k=>?_)
 have E:=kB a k
 exact AE (DG aD (by rw [hD,AF j]) (d _ E))
 have ad:=b.bl k
 have ae:=kB a k
 rw [AQ j] at hD
 refine A1 (.nck rfl)<|A1 (.fa BW rfl EL dD rfl)<|A1 (.fa Fv rfl K7 dD rfl)<|Fp 11 ((FA ⟨{ s with stroke:=aF },fo,sa,pa,cl,it,lo,te,li,ar,itv⟩).toArray) ad F5 (λaV T U aO=>?_)
 have af:=CI ae (by exact Hc U (by simp))
 refine A0<|BU (BK rfl ?_)
 refine GX _ _ hD rfl ⟨rfl,EC hO af T (λm=>?_)⟩
 have hq:=hR.mv m
 exact { hq with st:={ hq.st with stroke:=rfl } }
 have ac:=dF D
 refine A5<|A1 (.eqs rfl rfl)<|Ab rfl<|Ae rfl (λG=>?_) (λG=>?_)
 have ag:=dT G
 have hD:Et V args op=(do let c <- ES args 3;return { V with s:={ V.s with stroke:=c } }):=by unfold Et;rw [A2 aS,A2 aS,A2 aS,A2 aS,A7 aS]
 refine Ak<|A3 rfl<|A3 rfl<|By BQ rfl rfl ((KL 3 x ha oO)) (λaG aH l o=>?_) (λaI aH l o=>?_)
 have J:=kB a o
 exact AE (DG aG (by rw [hD,AF l]) (d _ J))
 have ah:=b.bl o
 have ai:=kB a o
 rw [AQ l] at hD
 refine A1 (.nck rfl)<|A1 (.fa BW rfl EL dD rfl)<|A1 (.fa Fv rfl K7 dD rfl)<|Fp 11 ((FA ⟨{ s with stroke:=aI },fo,sa,pa,cl,it,lo,te,li,ar,itv⟩).toArray) ah F5 (λaW X Y aP=>?_)
 have aj:=CI ai (by exact Hc Y (by simp))
 refine A0<|BU (BK rfl ?_)
 refine GX _ _ hD rfl ⟨rfl,EC hO aj X (λm=>?_)⟩
 have hq:=hR.mv m
 exact { hq with st:={ hq.st with stroke:=rfl } }
 have ag:=dF G
 have hD:Et V args op=(do let c <- ES args 4;return { V with s:={ V.s with stroke:=c } }):=by unfold Et;rw [A2 aS,A2 aS,A2 aS,A2 aS,A2 aS]
 refine Ak<|A3 rfl<|A3 rfl<|By BQ rfl rfl ((KL 4 x ha oO)) (λaJ aK q t=>?_) (λaL aK q t=>?_)
 have K:=kB a t
 exact AE (DG aJ (by rw [hD,AF q]) (d _ K))
 have ak:=b.bl t
 have al:=kB a t
 rw [AQ q] at hD
 refine A1 (.nck rfl)<|A1 (.fa BW rfl EL dD rfl)<|A1 (.fa Fv rfl K7 dD rfl)<|Fp 11 ((FA ⟨{ s with stroke:=aL },fo,sa,pa,cl,it,lo,te,li,ar,itv⟩).toArray) ak F5 (λaX a0 a1 aQ=>?_)
 have am:=CI al (by exact Hc a1 (by simp))
 refine A0<|BU (BK rfl ?_)
 refine GX _ _ hD rfl ⟨rfl,EC hO am a0 (λm=>?_)⟩
 have hq:=hR.mv m
 exact { hq with st:={ hq.st with stroke:=rfl } }
end
end
section
def O9 (w:World) (g:Nat) (t:TypeId):Prop:=∃ cs,w.heap[g]?=some (.cells cs t (0,0))
theorem O9.uniq  {t t':TypeId} (h:O9 w g t) (h':O9 w g t'):t=t':=by
 obtain ⟨cs,h⟩:=h
 obtain ⟨cs',h'⟩:=h'
 rw [h] at h'
 simp only [Br,Obj.cells.injEq] at h'
 exact h'.2.1
theorem Be.ty  {b:Nat} {cs:Array Value} {t:TypeId} (h:Be w b cs t):O9 w b t:=⟨cs,h⟩
theorem AJ.ty  {L:Fq α} {l:List α} (h:AJ L e B w v l):∀ g,v.ownBlock=some g->O9 w g e:=λg hg=>by
 rcases h with ⟨rfl,-⟩ | ⟨g1,cap,cur,rfl,-,h1,-⟩
 · cases hg
 · cases hg;exact ⟨cur,h1⟩
theorem AJ.tyv  {L:Fq α} {t:TypeId} {l:List α} {b:Nat} (h:AJ L e B w v l) (hb:O9 w b t):∃ t'∈[t,e],O9 w (vb v b) t':=by
 unfold vb
 cases hv:v.ownBlock with
 | none=>exact ⟨t,by simp,hb⟩
 | some g=>exact ⟨e,by simp,h.ty g hv⟩
section
variable {B:Nat} {w w1:World} {bv:Nat} {H:QA} {vp:Value} {V:Vw} {its:List AN} {hs:List Vf} {cs:List PC}
theorem VwO.rest (hO:VwO B w bv H vp V its hs cs) {S:List Nat} (K:AL w.heap.size S w w1) (ts:List TypeId) (hS:∀ g∈S,∃ t∈ts,O9 w g t) :
  (74 ∉ ts → Be w1 bv (FA H).toArray 74) ∧ (97 ∉ ts → 94 ∉ ts → CU B w1 H.path 4096 V.path vp) ∧ (44 ∉ ts → AJ JW 44 B w1 H.items its) ∧
   (68 ∉ ts->AJ stY 68 B w1 H.saved hs.reverse)/\(99 ∉ ts->AJ NF 99 B w1 H.args cs):=by
 have key:∀ g t,O9 w g t->t ∉ ts->w1.heap[g]?=w.heap[g]?:=λg t a b=>by
  obtain ⟨c,d⟩:=a
  refine K.block g (BJ.1 d).1 λhm=>?_
  obtain ⟨t',e,f⟩:=hS g hm
  exact b (O9.uniq ⟨c,d⟩ f▸e)
 refine ⟨λh=>(key _ _ hO.blk.ty h).trans hO.blk,λa b=>⟨(key _ _ hO.pth.blk.ty a).trans hO.pth.blk,hO.pth.own.same λg hg=>key g _ (hO.pth.own.ty g hg) b,hO.pth.len,BA hO.pth.base K.size⟩,
  λh=>hO.oi.same λg hg=>key g _ (hO.oi.ty g hg) h,λh=>hO.os.same λg hg=>key g _ (hO.os.ty g hg) h,λh=>hO.oa.same λg hg=>key g _ (hO.oa.ty g hg) h⟩
end
theorem Ky  {L:Fq α} {t:TypeId} {l:List α} {b:Nat} (h:AJ L e B w v l) (hb:O9 w b t):∀ g∈[b,vb v b],∃ t'∈[t,e],O9 w g t':=λg hg=>by
 simp only [Ax,AK,Cl] at hg
 rcases hg with rfl | rfl
 · exact ⟨t,by simp,hb⟩
 · exact h.tyv hb
theorem LP {F:Nat->Prop} (h:∀ g,v.ownBlock=some g->F g) (hb:F bv:=by exact .inl rfl):∀ g∈[bv,vb v bv],F g\/N<=g:=λg hg=>by
 simp only [Ax,AK,Cl] at hg
 rcases hg with rfl | rfl
 · exact .inl hb
 ·
  unfold vb
  cases hv:v.ownBlock with
  | none=>exact .inl hb
  | some g=>exact .inl (h g hv)
theorem Gc  {b:Nat} (h:v.ownBlock=some g):vb v b=g:=by unfold vb;rw [h];rfl
theorem Z0 (v:Value) (b:Nat):vb v b=b\/v.ownBlock=some (vb v b):=by
 unfold vb
 cases v.ownBlock with
 | none=>exact .inl rfl
 | some g=>exact .inr rfl
theorem SvR.cons  {h:StH} {hs:List StH} {s:SB} {ss:List SB} (q:SvR Z w hs ss) (q0:Xj Z w h s):SvR Z w (h::hs) (s::ss):=by
 refine ⟨by simp [q.1],λi a b=>?_⟩
 cases i with
 | zero=>exact q0
 | succ i=>exact q.2 i (by simpa using a) (by simpa using b)
theorem SvR.head {Z:Nat->Prop} {w:World} {h:StH} {hs:List StH} {s:SB} {ss:List SB} (q:SvR Z w (h::hs) (s::ss)):Xj Z w h s/\SvR Z w hs ss :=
 ⟨q.2 0 (by simp) (by simp),by simpa using q.1,λi h1 h2=>q.2 (i+1) (by simpa using h1) (by simpa using h2)⟩
def A5i (V:Vw):Except Int Vw:=match V.saved with
 | []=>.error 22
 | s::r=>.ok { V with s:=s,saved:=r }
theorem A2n {V:Vw} {args:List PV}:FO V args [113]=(Dt args 0>>=λ_=>HG (decide (V.saved.length<32))>>=λ_=>.ok { V with saved:=V.s::V.saved }):=by
 unfold FO;rw [A7 rfl];rfl
theorem A2o {V:Vw} {args:List PV}:FO V args [81]=(Dt args 0>>=λ_=>A5i V):=by
 unfold FO A5i;rw [A2 dD,A7 rfl];cases V.saved <;> rfl
theorem A0p {V:Vw} {args:List PV} {op:l8_} (h1:¬ op=[113]) (h2:¬ op=[81]):FO V args op=(RU args>>=λm=>LF m V.s.ctm>>=λc=>.ok { V with s:={ V.s with ctm:=c } }):=by
 unfold FO;rw [A2 h1,A2 h2];rfl
section
variable {B:Nat} {fs:QD} {w:World} {bv:Nat} {F:Nat->Prop} {V:Vw} {args:List PV}
theorem PL  {H:QA} {its:List AN} {hs:List Vf} {cs:List PC} {sc:Vf} (hO:VwO B w bv H vp V its hs cs) (hR:VwR (Eh fs.c (GG bv H vp) w) w H fs V args its hs cs) (K:AL w.heap.size [bv,vb H.saved bv] w w1)
  (hk:Be w1 bv (FA { H with saved:=v1 }).toArray 74) (ho:AJ stY 68 B w1 v1 (hs.reverse++[sc])) (hn:∀ g,v1.ownBlock=some g->H.saved.ownBlock=some g\/w.heap.size<=g) (hsc:H.s=sc.h:=by rfl) :
  ∃ F1,Ga B fs w1 bv F1 { V with saved:=V.s::V.saved } args/\Dw (GG bv H vp) F1 w w1:=by
 obtain ⟨-,b,d,-,e⟩:=hO.rest K _ (Ky hO.os hO.blk.ty)
 have hC:Dw (GG bv H vp) (GG bv { H with saved:=v1 } vp) w w1:=CA K (LP (λg hg=>.inr (.inr (.inr (.inr (.inl hg)))))) (λg hg=>by
  rcases hg with a | a | a | a | a | a
  · exact .inl (.inl a)
  · exact .inl (.inr (.inl a))
  · exact .inl (.inr (.inr (.inl a)))
  · exact .inl (.inr (.inr (.inr (.inl a))))
  · exact (hn g a).imp (λh=>.inr (.inr (.inr (.inr (.inl h))))) id
  · exact .inl (.inr (.inr (.inr (.inr (.inr a))))))
 have hq:=hR.mv (Eh.mv (c:=fs.c) hC)
 refine ⟨_,⟨_,vp,its,sc::hs,cs,rfl,⟨hk,b dD dD,d dD,by rw [List.reverse_cons];exact ho,e dD,hO.lbv,hO.lbp⟩,?_⟩,hC⟩
 exact { hq with sv:=hq.sv.cons (hsc▸hq.st) }
theorem A3s:(Tryz.prog.info? 68).map (λi=>(i.zero,i.size,i.bytes))=some (some (.agg (stV ⟨Xu,MC 0,MC 0,K9,.slice none 0 0,0,0⟩).toArray),25,232):=by kernel_rfl
theorem A06 (op:l8_) (h:Ga B fs w bv F V args) (ha:args.length<=32) :
  Calls Tryz.prog 52 #[ptV bv,.string (bs op)] w (VwE B fs bv F w (FO V args op) args):=by
 obtain ⟨X,cj⟩:=h.base
 have h0:=h
 obtain ⟨H,vp,its,hs,cs,rfl,hO,hR⟩:=h.mem
 have c:=hO.blk
 have d:=hO.os
 obtain ⟨s,fo,sa,pa,cl,it,lo,te,li,ar,itv⟩:=H
 obtain ⟨sc,ck⟩:=hR.st.cells
 obtain ⟨ps,cps,esa,cm,-,dZ,-,-,d6,-⟩:=d.row
 unfold maxLen at d6
 simp only at ck esa
 subst ck
 subst esa
 have dN:=c.lt
 have co:=d.lt
 have aD:=cj
 have ap:=Iq.of h0
 have dO:=c.lt
 have d7:=hR.sv
 have dP:hs.reverse.length=hs.length:=E0
 have b5:Gz 25 ps cps 0=ps:=by
  unfold Gz
  split
  rfl;cases ps with
  | none=>rfl
  | some a=>rw [Option.map_some,Nat.zero_mul,Ff]
 have d':hs.length=V.saved.length:=by have:=d7.1;rw [B0] at this;exact this
 have G:∀ w1,AL w.heap.size [bv,vb (.slice ps hs.reverse.length cps) bv] w w1->Below B w w1:=λw1 hK=>hK.below cj (λk hk=>by
  simp only [Ax,AK,Cl] at hk;rcases hk with rfl | rfl;exact X;rcases Z0 (.slice ps hs.reverse.length cps) bv with h1 | h1;rw [h1];exact X;exact (co _ h1).1)
 refine Av func52 rfl ntmps52 ?_
 have ah:=AL.refl w.heap.size ([bv,vb (.slice ps hs.reverse.length cps) bv]) w
 refine A5<|A3 rfl<|A0<|AU<|A5<|A1 (.eqs rfl rfl)<|Ab rfl<|Ae rfl (λh1=>?_) (λh1=>?_)
 have d8:=dT h1
 have b6:op=[113]:=by assumption
 have hD:=A2n (V:=V) (args:=args)
 rw [<- b6] at hD
 refine A5<|A3 rfl<|WL.cx BQ rfl rfl ((Fs 0 (ap).get ha oO)) (λk4 w2 aq a7=>?_) (λa3 x5 w2 aq a7=>?_)
 have bG:=kB ah a7
 exact AE (DG k4 (by rw [hD,AF aq]) (G _ bG))
 have cq:=BA aD a7.1.size
 have d9:=AJ.below d a7.1
 have cn:=c.bl a7.1
 have b7:=kB ah a7.1
 rw [AQ aq] at hD
 refine A0<|A5<|A3 rfl<|A1 (.nck rfl)<|A1 (.fa BW rfl M2 dD rfl)<|Ai (Af (Sc _) rfl cn rfl)<|A1 (.lenS O7 rfl)<|A1 (.bis (decide (V.saved.length<32)) (.lss rfl rfl) (by exact DX.2 (by rw [E0];omega)))<|By BQ rfl rfl ((O6 _ _)) (λda db K D=>?_) (λe0 db K D=>?_)
 have b8:=kB b7 D
 exact AE (DG da (by rw [hD];exact AF K) (G _ b8))
 have bH:=BA cq D.size
 have cr:=AJ.below d9 D
 have ct:=cn.bl D
 have cu:=kB b7 D
 rw [AQ K] at hD
 have au:=K
 unfold HG at au
 have dQ:V.saved.length<32:=by
  split at au;exact dT aS;cases au
 refine A0<|DD 14 rfl Ci (λw'=>True/\True) (λe1 a8=>?_)
 have a9:=Df.le bH a8
 have av:=AJ.drew cr a8
 have i:=ct.drew a8
 have E:=CI cu (QL a8)
 refine Aa 0 rfl (.mv rfl) tU ?_
 refine Aa 1 rfl (.mv rfl) tU ?_
 refine Aa 2 rfl (.nck rfl) tU ?_
 refine Aa 3 rfl (.fa BW rfl M2 dD rfl) tU ?_
 refine Aa 5 rfl (.mv rfl) tU ?_
 refine Aa 6 rfl (.nck rfl) tU ?_
 refine Aa 7 rfl (.fa BW rfl EL dD rfl) tU ?_
 refine Ef 4 rfl 8 rfl ?_ ?_
 refine Ai (Af (Sc _) rfl i rfl)<|A0<|⟨tU,?_⟩
 refine Aq 8 rfl<|Ai (Cx (L:=stY) Fv rfl Q9 i (sc) (rfl) rfl)<|A0<|⟨tU,?_⟩
 refine Aq 9 rfl<|Cw (L:=stY) (ps:=_) ([sc]) O7 EL zeroValue68 rfl rfl rfl rfl rfl (by rfl) rfl rfl (λdc cv aw bI N dC=>?_)
 have bJ:=BA a9 N.size
 have cw:=GK av aw N
 have cy:=Bx aw i.lt
 have cz:=i.un N cy
 have b9:=DW aw E.size
 have ax:=CI E (Ik N b9)
 have dd:dc<=cv.heap.size:=by omega
 refine A0<|⟨tU,?_⟩
 refine Aq 10 rfl<|CV O7 A3s rfl rfl rfl cw rfl (bI).rowp (by simp only [A8,Ag,E0];omega) (bJ) rfl (λh=>D6 h (PA _ _)) (λde e2 aE dE aF aG=>?_)
 have cA:=cz.grown aF (λe=>BZ d c dD _ e rfl)
 have cB:=CI ax (Ce aF (λg hg=>.inl (by have hg:(Value.slice ps hs.reverse.length cps).ownBlock=some g:=hg;rw [Gc hg];simp)) ax.size)
 refine A0<|⟨tU,?_⟩
 refine Aa 11 rfl (.nck rfl) tU ?_
 refine Aa 12 rfl (.fa BW rfl M2 dD rfl) tU ?_
 refine Aq 13 rfl<|CT 26 ((FA ⟨sc.h,fo,de,pa,cl,it,lo,te,li,ar,itv⟩).toArray) cA M2 (λe3 bK aH dG=>?_) (h1:=(aE).one)
 have cC:=I4 aE aH (λg hg e=>by subst e;first | exact BZ d c dD _ hg rfl | (rcases aG _ hg with h1 | h1 <;> first | exact BZ d c dD _ h1 rfl | omega))
 have cD:=CI cB (by exact Hc aH (by simp))
 refine A0<|⟨tU,?_⟩
 refine Bl kR<|BU (BK rfl ?_)
 exact GX _ _ hD rfl ⟨rfl,PL hO hR cD bK cC (λg h1=>(aG g h1).imp id (BA ax.size))⟩
 refine Ai (Cx (L:=stY) Fv rfl Q9 i (sc) (rfl) rfl)<|A0<|⟨tU,?_⟩
 refine Ef 4 rfl 9 rfl ?_ ?_
 refine Ai (Af (Sc _) rfl i rfl)<|A0<|⟨tU,?_⟩
 refine Aq 9 rfl<|Cw (L:=stY) (ps:=_) ([sc]) O7 EL zeroValue68 rfl rfl rfl rfl rfl (by rfl) rfl rfl (λdf cE ay bL P dH=>?_)
 have aI:=BA a9 P.size
 have cF:=GK av ay P
 have cG:=Bx ay i.lt
 have cH:=i.un P cG
 have ba:=DW ay E.size
 have az:=CI E (Ik P ba)
 have dg:df<=cE.heap.size:=by omega
 refine A0<|⟨tU,?_⟩
 refine Aq 10 rfl<|CV O7 A3s rfl rfl rfl cF rfl (bL).rowp (by simp only [A8,Ag,E0];omega) (aI) rfl (λh=>D6 h (PA _ _)) (λdh e4 aJ bM aK aL=>?_)
 have cI:=cH.grown aK (λe=>BZ d c dD _ e rfl)
 have cJ:=CI az (Ce aK (λg hg=>.inl (by have hg:(Value.slice ps hs.reverse.length cps).ownBlock=some g:=hg;rw [Gc hg];simp)) az.size)
 have bN:=BA aI bM.size
 refine A0<|⟨tU,?_⟩
 refine Aa 11 rfl (.nck rfl) tU ?_
 refine Aa 12 rfl (.fa BW rfl M2 dD rfl) tU ?_
 refine Aq 13 rfl<|CT 26 ((FA ⟨sc.h,fo,dh,pa,cl,it,lo,te,li,ar,itv⟩).toArray) cI M2 (λe5 bO aa dI=>?_) (h1:=(aJ).one)
 have dJ:=BA bN aa.size
 have cK:=I4 aJ aa (λg hg e=>by subst e;first | exact BZ d c dD _ hg rfl | (rcases aL _ hg with h1 | h1 <;> first | exact BZ d c dD _ h1 rfl | omega))
 have cL:=CI cJ (by exact Hc aa (by simp))
 refine A0<|⟨tU,?_⟩
 refine Bl kR<|BU (BK rfl ?_)
 exact GX _ _ hD rfl ⟨rfl,PL hO hR cL bO cK (λg h1=>(aL g h1).imp id (BA az.size))⟩
 refine Cw (L:=stY) (ps:=_) ([sc]) O7 EL zeroValue68 rfl rfl rfl rfl rfl (by rfl) rfl rfl (λdi cM aA bP Q dK=>?_)
 have aM:=BA a9 Q.size
 have cN:=GK av aA Q
 have cO:=Bx aA i.lt
 have bb:=i.un Q cO
 have bc:=DW aA E.size
 have aB:=CI E (Ik Q bc)
 have dj:di<=cM.heap.size:=by omega
 refine A0<|⟨tU,?_⟩
 refine Aq 4 rfl<|Ai (Af (Sc _) rfl bb rfl)<|A0<|⟨tU,?_⟩
 refine Aq 10 rfl<|CV O7 A3s rfl rfl rfl cN rfl (bP).rowp (by simp only [A8,Ag,E0];omega) (aM) rfl (λh=>D6 h (PA _ _)) (λdk e6 aN bQ aO aP=>?_)
 have cP:=bb.grown aO (λe=>BZ d c dD _ e rfl)
 have cQ:=CI aB (Ce aO (λg hg=>.inl (by have hg:(Value.slice ps hs.reverse.length cps).ownBlock=some g:=hg;rw [Gc hg];simp)) aB.size)
 have bR:=BA aM bQ.size
 refine A0<|⟨tU,?_⟩
 refine Aa 11 rfl (.nck rfl) tU ?_
 refine Aa 12 rfl (.fa BW rfl M2 dD rfl) tU ?_
 refine Aq 13 rfl<|CT 26 ((FA ⟨sc.h,fo,dk,pa,cl,it,lo,te,li,ar,itv⟩).toArray) cP M2 (λe7 bS ab dL=>?_) (h1:=(aN).one)
 have dM:=BA bR ab.size
 have cR:=I4 aN ab (λg hg e=>by subst e;first | exact BZ d c dD _ hg rfl | (rcases aP _ hg with h1 | h1 <;> first | exact BZ d c dD _ h1 rfl | omega))
 have cS:=CI cQ (by exact Hc ab (by simp))
 refine A0<|⟨tU,?_⟩
 refine Bl kR<|BU (BK rfl ?_)
 exact GX _ _ hD rfl ⟨rfl,PL hO hR cS bS cR (λg h1=>(aP g h1).imp id (BA aB.size))⟩
 have d8:=dF h1
 refine A5<|A1 (.eqs rfl rfl)<|Ab rfl<|Ae rfl (λbd=>?_) (λbd=>?_)
 have cT:=dT bd
 have b6:op=[81]:=by assumption
 have hD:=A2o (V:=V) (args:=args)
 rw [<- b6] at hD
 refine A5<|A3 rfl<|WL.cx BQ rfl rfl ((Fs 0 (ap).get ha oO)) (λdl dm ac q=>?_) (λe8 e9 dm ac q=>?_)
 have be:=kB ah q
 exact AE (DG dl (by rw [hD,AF ac]) (G _ be))
 have bT:=BA aD q.1.size
 have cU:=AJ.below d q.1
 have bf:=c.bl q.1
 have bg:=Is cm q.1 (λh0=>cm.lt h0)
 have bh:=kB ah q.1
 rw [AQ ac] at hD
 refine A0<|A5<|A3 rfl<|A1 (.nck rfl)<|A1 (.fa BW rfl M2 dD rfl)<|Ai (Af (Sc _) rfl bf rfl)<|A1 (.iis ((hs.length:Int)) (.lenS O7 rfl) (by rw [E0]))<|Ab rfl<|A5<|A3 rfl<|A1 (.gtr rfl rfl)<|By BQ rfl rfl ((Dn _ _)) (λea dn ad t=>?_) (λeb dn ad t=>?_)
 have bi:=kB bh t
 obtain ⟨dp,rfl⟩:=Dl ad
 have dq:V.saved=[]:=CM (by (have:=dF dp);omega)
 exact AE (DG 22 (by rw [hD];unfold A5i;rw [dq]) (G _ bi))
 have bj:=BA bT t.size
 have cV:=AJ.below cU t
 have bU:=bf.bl t
 have bV:=Is bg t (λh0=>bg.lt h0)
 have bW:=kB bh t
 have ec:=dT (Ea ad)
 obtain ⟨h1,b,rfl⟩:∃ a l,hs=a::l:=List.exists_cons_of_length_pos oO
 obtain ⟨s1,dr,aQ⟩:∃ a l,V.saved=a::l:=List.exists_cons_of_length_pos oO
 have bk:(h1::b).reverse[b.length]'(by simp)=h1:=by simp
 have dR:(h1::b).length=b.length+1:=rfl
 have ed:(h1::b).reverse.length=b.length+1:=by simp
 have aC:FO V args op=.ok { V with s:=s1,saved:=dr }:=by rw [hD];unfold A5i;rw [aQ]
 refine A0<|DD 23 rfl Ci (λw'=>True/\True) (λdS u=>?_)
 have ai:=Df.le bj u
 have ae:=AJ.drew cV u
 have f:=bU.drew u
 have v:=bV.drew u
 have af:=CI bW (QL u)
 refine Aa 0 rfl (.mv rfl) tU ?_
 refine Aa 1 rfl (.mv rfl) tU ?_
 refine Aa 2 rfl (.mv rfl) tU ?_
 refine Aa 3 rfl (.nck rfl) tU ?_
 refine Aa 4 rfl (.fa BW rfl M2 dD rfl) tU ?_
 refine Aa 6 rfl (.mv rfl) tU ?_
 refine Aa 7 rfl (.sub rfl rfl (Bn oO)) tU ?_
 refine Aa 10 rfl (.mv rfl) tU ?_
 refine Aa 11 rfl (.nck rfl) tU ?_
 refine Aa 12 rfl (.fa BW rfl M2 dD rfl) tU ?_
 refine Aa 14 rfl (.mv rfl) tU ?_
 refine Aa 15 rfl (.sub rfl rfl (Bn oO)) tU ?_
 refine Ef 5 rfl 13 rfl ?_ ?_
 refine Ai (Af (Sc _) rfl f rfl)<|A0<|⟨tU,?_⟩
 refine Aa 8 rfl (.ixm O7 EL rfl rfl (v.isp oO) (b.length) oO oO) tU ?_
 refine Ef 9 rfl 13 rfl ?_ ?_
 refine Ai (Dy Fv rfl Q9 v (b.length) oO rfl)<|A0<|⟨tU,?_⟩
 refine Aq 13 rfl<|Ai (Af (Sc _) rfl f rfl)<|A0<|⟨tU,?_⟩
 refine Aa 16 rfl (.slmT O7 EL rfl rfl  (b.length) oO oO) tU ?_
 refine Aa 17 rfl (.nck rfl) tU ?_
 refine Aa 18 rfl (.fa BW rfl EL dD rfl) tU ?_
 refine Aq 19 rfl<|Fp 0 ((FA ⟨h1.h,fo,.slice ps (h1::b).reverse.length cps,pa,cl,it,lo,te,li,ar,itv⟩).toArray) f Q9 (λdU bm Y ds=>?_) (hn:=by rw [bk];rfl)
 have bn:=BA ai Y.size
 have bX:=I4 ae Y (λg hg e=>by subst e;first | exact BZ d c dD _ hg rfl | (rcases HF _ hg with h1 | h1 <;> first | exact BZ d c dD _ h1 rfl | omega))
 have bY:=CI af (by exact Hc Y (by simp))
 refine A0<|⟨tU,?_⟩
 refine Aa 20 rfl (.nck rfl) tU ?_
 refine Aa 21 rfl (.fa BW rfl M2 dD rfl) tU ?_
 refine Aq 22 rfl<|CT 26 ((FA ⟨h1.h,fo,.slice ps b.length cps,pa,cl,it,lo,te,li,ar,itv⟩).toArray) bm M2 (λbo bp a0 dt=>?_) (hn:=by rw [b5];rfl)
 have du:=BA bn a0.size
 have bZ:=I4 bX a0 (λg hg e=>by subst e;first | exact BZ d c dD _ hg rfl | (rcases HF _ hg with h1 | h1 <;> first | exact BZ d c dD _ h1 rfl | omega))
 have aR:=CI bY (by exact Hc a0 (by simp))
 refine A0<|⟨tU,?_⟩
 refine Bl kR<|BU (BK rfl ?_)
 have hS:=Ky d c.ty
 obtain ⟨-,r2,r3,r4,r5⟩:=hO.rest aR _ hS
 have a1:AJ stY 68 B bo (.slice ps b.length cps) b.reverse:=by
  have h2:=(bZ).cutc b.length (by rw [E0];exact Nat.le_succ _)
  rwa [show ((h1::b).reverse).take b.length=b.reverse by rw [List.reverse_cons,List.take_append_of_le_length (by simp),AR (by simp)]] at h2
 have hC:Dw (GG bv ⟨sc.h,fo,.slice ps (h1::b).reverse.length cps,pa,cl,it,lo,te,li,ar,itv⟩ vp) (GG bv ⟨h1.h,fo,.slice ps b.length cps,pa,cl,it,lo,te,li,ar,itv⟩ vp) w bo:=CA aR (LP (λg hg=>.inr (.inr (.inr (.inr (.inl hg)))))) (λg hg=>.inl (by unfold GG at hg ⊢;cases ps <;> exact hg))
 refine GX _ _ aC rfl ⟨rfl,_,⟨_,vp,its,b,cs,rfl,⟨bp,r2 dD dD,r3 dD,a1,r5 dD,X,hO.lbp⟩,?_⟩,hC⟩
 have hq:=hR.mv (Eh.mv hC)
 have J:=hq.sv
 rw [C3,aQ] at J
 obtain ⟨aj,ak⟩:=J.head
 exact { hq with st:=aj,sv:=ak }
 refine Ai (Af (Sc _) rfl f rfl)<|A0<|⟨tU,?_⟩
 refine Aa 16 rfl (.slmT O7 EL rfl rfl  (b.length) oO oO) tU ?_
 refine Aq 9 rfl<|Ai (Dy Fv rfl Q9 v (b.length) oO rfl)<|A0<|⟨tU,?_⟩
 refine Aa 17 rfl (.nck rfl) tU ?_
 refine Aa 18 rfl (.fa BW rfl EL dD rfl) tU ?_
 refine Aq 19 rfl<|Fp 0 ((FA ⟨h1.h,fo,.slice ps (h1::b).reverse.length cps,pa,cl,it,lo,te,li,ar,itv⟩).toArray) f Q9 (λdV bq a2 dv=>?_) (hn:=by rw [bk];rfl)
 have bt:=BA ai a2.size
 have b':=I4 ae a2 (λg hg e=>by subst e;first | exact BZ d c dD _ hg rfl | (rcases HF _ hg with h1 | h1 <;> first | exact BZ d c dD _ h1 rfl | omega))
 have c0:=CI af (by exact Hc a2 (by simp))
 refine A0<|⟨tU,?_⟩
 refine Aa 20 rfl (.nck rfl) tU ?_
 refine Aa 21 rfl (.fa BW rfl M2 dD rfl) tU ?_
 refine Aq 22 rfl<|CT 26 ((FA ⟨h1.h,fo,.slice ps b.length cps,pa,cl,it,lo,te,li,ar,itv⟩).toArray) bq M2 (λbu bw a4 dw=>?_) (hn:=by rw [b5];rfl)
 have dx:=BA bt a4.size
 have c2:=I4 b' a4 (λg hg e=>by subst e;first | exact BZ d c dD _ hg rfl | (rcases HF _ hg with h1 | h1 <;> first | exact BZ d c dD _ h1 rfl | omega))
 have aT:=CI c0 (by exact Hc a4 (by simp))
 refine A0<|⟨tU,?_⟩
 refine Bl kR<|BU (BK rfl ?_)
 have hS:=Ky d c.ty
 obtain ⟨-,r2,r3,r4,r5⟩:=hO.rest aT _ hS
 have a1:AJ stY 68 B bu (.slice ps b.length cps) b.reverse:=by
  have h2:=(c2).cutc b.length (by rw [E0];exact Nat.le_succ _)
  rwa [show ((h1::b).reverse).take b.length=b.reverse by rw [List.reverse_cons,List.take_append_of_le_length (by simp),AR (by simp)]] at h2
 have hC:Dw (GG bv ⟨sc.h,fo,.slice ps (h1::b).reverse.length cps,pa,cl,it,lo,te,li,ar,itv⟩ vp) (GG bv ⟨h1.h,fo,.slice ps b.length cps,pa,cl,it,lo,te,li,ar,itv⟩ vp) w bu:=CA aT (LP (λg hg=>.inr (.inr (.inr (.inr (.inl hg)))))) (λg hg=>.inl (by unfold GG at hg ⊢;cases ps <;> exact hg))
 refine GX _ _ aC rfl ⟨rfl,_,⟨_,vp,its,b,cs,rfl,⟨bw,r2 dD dD,r3 dD,a1,r5 dD,X,hO.lbp⟩,?_⟩,hC⟩
 have hq:=hR.mv (Eh.mv hC)
 have J:=hq.sv
 rw [C3,aQ] at J
 obtain ⟨aj,ak⟩:=J.head
 exact { hq with st:=aj,sv:=ak }
 refine Ai (Af (Sc _) rfl f rfl)<|A0<|⟨tU,?_⟩
 refine Aa 16 rfl (.slmT O7 EL rfl rfl  (b.length) oO oO) tU ?_
 refine Aq 5 rfl<|Ai (Af (Sc _) rfl f rfl)<|A0<|⟨tU,?_⟩
 refine Aa 8 rfl (.ixm O7 EL rfl rfl (v.isp oO) (b.length) oO oO) tU ?_
 refine Aq 9 rfl<|Ai (Dy Fv rfl Q9 v (b.length) oO rfl)<|A0<|⟨tU,?_⟩
 refine Aa 17 rfl (.nck rfl) tU ?_
 refine Aa 18 rfl (.fa BW rfl EL dD rfl) tU ?_
 refine Aq 19 rfl<|Fp 0 ((FA ⟨h1.h,fo,.slice ps (h1::b).reverse.length cps,pa,cl,it,lo,te,li,ar,itv⟩).toArray) f Q9 (λdW bx al dy=>?_) (hn:=by rw [bk];rfl)
 have c3:=I4 ae al (λg hg e=>by subst e;first | exact BZ d c dD _ hg rfl | (rcases HF _ hg with h1 | h1 <;> first | exact BZ d c dD _ h1 rfl | omega))
 have c4:=CI af (by exact Hc al (by simp))
 refine A0<|⟨tU,?_⟩
 refine Aa 20 rfl (.nck rfl) tU ?_
 refine Aa 21 rfl (.fa BW rfl M2 dD rfl) tU ?_
 refine Aq 22 rfl<|CT 26 ((FA ⟨h1.h,fo,.slice ps b.length cps,pa,cl,it,lo,te,li,ar,itv⟩).toArray) bx M2 (λbz bA am dz=>?_) (hn:=by rw [b5];rfl)
 have c5:=I4 c3 am (λg hg e=>by subst e;first | exact BZ d c dD _ hg rfl | (rcases HF _ hg with h1 | h1 <;> first | exact BZ d c dD _ h1 rfl | omega))
 have aU:=CI c4 (by exact Hc am (by simp))
 refine A0<|⟨tU,?_⟩
 refine Bl kR<|BU (BK rfl ?_)
 have hS:=Ky d c.ty
 obtain ⟨-,r2,r3,r4,r5⟩:=hO.rest aU _ hS
 have a1:AJ stY 68 B bz (.slice ps b.length cps) b.reverse:=by
  have h2:=(c5).cutc b.length (by rw [E0];exact Nat.le_succ _)
  rwa [show ((h1::b).reverse).take b.length=b.reverse by rw [List.reverse_cons,List.take_append_of_le_length (by simp),AR (by simp)]] at h2
 have hC:Dw (GG bv ⟨sc.h,fo,.slice ps (h1::b).reverse.length cps,pa,cl,it,lo,te,li,ar,itv⟩ vp) (GG bv ⟨h1.h,fo,.slice ps b.length cps,pa,cl,it,lo,te,li,ar,itv⟩ vp) w bz:=CA aU (LP (λg hg=>.inr (.inr (.inr (.inr (.inl hg)))))) (λg hg=>.inl (by unfold GG at hg ⊢;cases ps <;> exact hg))
 refine GX _ _ aC rfl ⟨rfl,_,⟨_,vp,its,b,cs,rfl,⟨bA,r2 dD dD,r3 dD,a1,r5 dD,X,hO.lbp⟩,?_⟩,hC⟩
 have hq:=hR.mv (Eh.mv hC)
 have J:=hq.sv
 rw [C3,aQ] at J
 obtain ⟨aj,ak⟩:=J.head
 exact { hq with st:=aj,sv:=ak }
 have cT:=dF bd
 have hD:=A0p (V:=V) (args:=args) (op:=op) aS aS
 refine DD 13 rfl Ci (λw'=>True/\True) (λcW T=>?_)
 have aV:=AJ.drew d T
 have aW:=Kc (w1:=cW) ap (λk hk hl=>(by obtain ⟨m,rfl⟩:=T;rfl))
 have ag:=c.drew T
 have U:=CI ah (QL T)
 refine Aa 0 rfl (.mv rfl) tU ?_
 refine Aa 1 rfl (.mv rfl) tU ?_
 refine Aa 3 rfl (.mv rfl) tU ?_
 refine Aa 4 rfl (.nck rfl) tU ?_
 refine Aa 5 rfl (.fa BW rfl EL dD rfl) tU ?_
 refine Aa 6 rfl (.fa Fv rfl HD dD rfl) tU ?_
 refine Ef 2 rfl 7 rfl ?_ ?_
 refine By BQ rfl rfl ((P6 (aW).get ha)) (λcX cY a5 x=>?_) (λdX cY a5 x=>?_)
 have b1:=kB U x
 exact AE (DG cX (by rw [hD,AF a5]) (G _ b1))
 have c6:=AJ.below aV x
 have aX:=ag.bl x
 have aY:=kB U x
 rw [AQ a5] at hD
 refine A0<|⟨tU,?_⟩
 refine Aq 7 rfl<|Ai (Cx (L:=Xt) DM rfl CY aX (sc.h.ctm) (rfl) rfl)<|A0<|⟨tU,?_⟩
 refine Aq 8 rfl<|By BQ rfl rfl ((FT _ _ _)) (λcZ c' j y=>?_) (λbB c' j y=>?_)
 have b2:=kB aY y
 exact AE (DG cZ (by rw [show sc.h.ctm=V.s.ctm from hR.st.ctm] at j;rw [hD];exact AF j) (G _ b2))
 have c7:=AJ.below c6 y
 have c8:=aX.bl y
 have c9:=kB aY y
 rw [show sc.h.ctm=V.s.ctm from hR.st.ctm] at j
 rw [AQ j] at hD
 refine A0<|⟨tU,?_⟩
 refine Aa 9 rfl (.nck rfl) tU ?_
 refine Aa 10 rfl (.fa BW rfl EL dD rfl) tU ?_
 refine Aa 11 rfl (.fa Fv rfl HD dD rfl) tU ?_
 refine Aq 12 rfl<|Fp 0 ((FA ⟨{ sc.h with ctm:=bB },fo,.slice ps hs.reverse.length cps,pa,cl,it,lo,te,li,ar,itv⟩).toArray) c8 CY (λd0 bC an dA=>?_)
 have ca:=I4 c7 an (λg hg e=>by subst e;first | exact BZ d c dD _ hg rfl | (rcases HF _ hg with h1 | h1 <;> first | exact BZ d c dD _ h1 rfl | omega))
 have aZ:=CI c9 (by exact Hc an (by simp))
 refine A0<|⟨tU,?_⟩
 refine Bl kR<|BU (BK rfl ?_)
 have hS:=Ky d c.ty
 obtain ⟨-,r2,r3,-,r5⟩:=hO.rest aZ _ hS
 have hC:Dw (GG bv ⟨sc.h,fo,.slice ps hs.reverse.length cps,pa,cl,it,lo,te,li,ar,itv⟩ vp) (GG bv ⟨{ sc.h with ctm:=bB },fo,.slice ps hs.reverse.length cps,pa,cl,it,lo,te,li,ar,itv⟩ vp) w d0:=CA aZ (LP (λg hg=>.inr (.inr (.inr (.inr (.inl hg)))))) (λg hg=>.inl hg)
 refine GX _ _ hD rfl ⟨rfl,_,⟨_,vp,its,hs,cs,rfl,⟨bC,r2 dD dD,r3 dD,ca,r5 dD,X,hO.lbp⟩,?_⟩,hC⟩
 have hq:=hR.mv (Eh.mv hC)
 exact { hq with st:={ hq.st with ctm:=rfl } }
 refine Ai (Cx (L:=Xt) DM rfl CY ag (sc.h.ctm) (rfl) rfl)<|A0<|⟨tU,?_⟩
 refine Aq 2 rfl<|By BQ rfl rfl ((P6 (aW).get ha)) (λd1 d2 a6 A=>?_) (λdY d2 a6 A=>?_)
 have b3:=kB U A
 exact AE (DG d1 (by rw [hD,AF a6]) (G _ b3))
 have cb:=AJ.below aV A
 have cc:=ag.bl A
 have a':=kB U A
 rw [AQ a6] at hD
 refine A0<|⟨tU,?_⟩
 refine Aq 8 rfl<|By BQ rfl rfl ((FT _ _ _)) (λd3 d4 o C=>?_) (λbD d4 o C=>?_)
 have b4:=kB a' C
 exact AE (DG d3 (by rw [show sc.h.ctm=V.s.ctm from hR.st.ctm] at o;rw [hD];exact AF o) (G _ b4))
 have cd:=AJ.below cb C
 have cf:=cc.bl C
 have cg:=kB a' C
 rw [show sc.h.ctm=V.s.ctm from hR.st.ctm] at o
 rw [AQ o] at hD
 refine A0<|⟨tU,?_⟩
 refine Aa 9 rfl (.nck rfl) tU ?_
 refine Aa 10 rfl (.fa BW rfl EL dD rfl) tU ?_
 refine Aa 11 rfl (.fa Fv rfl HD dD rfl) tU ?_
 refine Aq 12 rfl<|Fp 0 ((FA ⟨{ sc.h with ctm:=bD },fo,.slice ps hs.reverse.length cps,pa,cl,it,lo,te,li,ar,itv⟩).toArray) cf CY (λd5 bE ao dB=>?_)
 have ci:=I4 cd ao (λg hg e=>by subst e;first | exact BZ d c dD _ hg rfl | (rcases HF _ hg with h1 | h1 <;> first | exact BZ d c dD _ h1 rfl | omega))
 have b0:=CI cg (by exact Hc ao (by simp))
 refine A0<|⟨tU,?_⟩
 refine Bl kR<|BU (BK rfl ?_)
 have hS:=Ky d c.ty
 obtain ⟨-,r2,r3,-,r5⟩:=hO.rest b0 _ hS
 have hC:Dw (GG bv ⟨sc.h,fo,.slice ps hs.reverse.length cps,pa,cl,it,lo,te,li,ar,itv⟩ vp) (GG bv ⟨{ sc.h with ctm:=bD },fo,.slice ps hs.reverse.length cps,pa,cl,it,lo,te,li,ar,itv⟩ vp) w d5:=CA b0 (LP (λg hg=>.inr (.inr (.inr (.inr (.inl hg)))))) (λg hg=>.inl hg)
 refine GX _ _ hD rfl ⟨rfl,_,⟨_,vp,its,hs,cs,rfl,⟨bE,r2 dD dD,r3 dD,ci,r5 dD,X,hO.lbp⟩,?_⟩,hC⟩
 have hq:=hR.mv (Eh.mv hC)
 exact { hq with st:={ hq.st with ctm:=rfl } }
end
end
section
def Jh (N:Nat) (Q:World->Prop) (w:World):Prop:=∃ w0:World,w0.heap.size=N/\Q w0/\∀ k,k<N->w.heap[k]?=w0.heap[k]?
theorem Jh.of {Q:World->Prop} (h:Q w):Jh w.heap.size Q w:=⟨w,rfl,h,λ_ _=>rfl⟩
theorem Jh.same {N:Nat} {Q:World->Prop} {w w1:World} (h:Jh N Q w) (hb:∀ k,k<N->k<w.heap.size->w1.heap[k]?=w.heap[k]?):Jh N Q w1:=by
 obtain ⟨e,b,f,c⟩:=h
 refine ⟨e,b,f,λk hk=>(hb k hk ?_).trans (c k hk)⟩
 rcases BL k w.heap.size with a | a
 · exact a
 ·
  have d:=c k hk
  rw [CL a,Fd (b▸hk)] at d
  cases d
abbrev FP:=@Jh.same
theorem Jh.size  {Q:World->Prop} (h:Jh N Q w):N<=w.heap.size:=by
  obtain ⟨a,rfl,e,c⟩:=h
  rcases HR a.heap.size with d | d
  · omega
  · have b := c (a.heap.size - 1) oO
    rw [Fd (by omega:a.heap.size-1<a.heap.size)] at b
    have:=(BJ.1 b).1
    omega
theorem DJ  {m:Int} {P:D2} (h:Jh N (λw=>CU B w bp m P v) w):CU B w bp m P v:=by
 have hs:=h.size
 obtain ⟨c,rfl,a,b⟩:=h
 exact ⟨(b _ a.blk.lt).trans a.blk,a.own.same λg hg=>b g (a.own.lt g hg).2,a.len,BA a.base hs⟩
def UR:D2->List BH->Except Int D2
 | P,[]=>.ok P
 | P,a::r=>Dg (Fu 4096 P a)>>=λQ=>UR Q r
theorem I2 {m:M6}:∀ {k:Nat} {l:List Int} {q:List BH},l.length=2 * k->Dx m l=.ok q->q.length=k
 | 0,l,q,hl,h=>by
  obtain rfl:=CM hl
  cases h;rfl
 | k+1,[],q,hl,h=>by simp at hl
 | k+1,[x],q,hl,h=>by simp at hl;omega
 | k+1,x::y::r,q,hl,h=>by
  have h:(NO m x y>>=λp=>Dx m r>>=λq=>pure (p::q))=.ok q:=h
  obtain ⟨p,-,h⟩:=Cd h
  obtain ⟨q1,h2,h⟩:=Cd h
  obtain rfl:=Fe h
  have:=I2 (k:=k) (by simp at hl;omega) h2
  simp [this]
def VT (c:M6) (P:D2) (args:List PV):Except Int D2 :=
 Dt args 4>>=λn=>J7 (n.getD 0 0) (n.getD 2 0)>>=λx=>J7 (n.getD 1 0) (n.getD 3 0)>>=λy =>
  Dx c [n.getD 0 0,n.getD 1 0,x,n.getD 1 0,x,y,n.getD 0 0,y]>>=λl=>Dg (GV 4096 P (l.getD 0 FH))>>=λp0=>UR p0 (l.drop 1)>>=λp3=>Dg (GA 4096 p3)
theorem W8 {a b k:Int} (h:J7 a b=.error k):k=22:=by
 unfold J7 at h;split at h
 · cases h
 · cases h;rfl
theorem A1E  {γ:Type} {x:Except Int α} {y:Except Int β} {f:α->β->Except Int γ} {k:Int} (h:y=.error k) (hx:∀ j,x=.error j->j=k):(x>>=λa=>y>>=λb=>f a b)=.error k:=by
 cases hx0:x with
 | error j=>rw [hx j hx0];rfl
 | ok a=>rw [h];rfl
theorem GR {r:D2 × Int} {u:Unit} (h:R9 r.2=.ok u):Dg r=.ok r.1:=by rw [Zc,h];rfl
theorem Gu {r:D2 × Int} {k:Int} (h:R9 r.2=.error k):Dg r=.error k:=by rw [Zc,h];rfl
abbrev B08 (B:Nat) (bp:Nat) (vp:Value) (w:World) (res:Except Int D2):Ending->World->Prop :=
 HO 30 res (λP1 v w'=>v=.tuple #[]/\AL w.heap.size [bp,vb vp bp] w w'/\∃ v1,CU B w' bp 4096 P1 v1/\G4 w vp v1) (λw'=>Below B w w')
theorem CU.ctm  {P:D2} (h:CU B w bp 4096 P v) (hB:B<=bp) (hK:AL w.heap.size [bp,vb v bp] w w1):Below B w w1:=hK.below h.base (λk hk=>by
 simp only [Ax,AK,Cl] at hk
 rcases hk with rfl | rfl
 · exact hB
 ·
  rcases Z0 v bp with h1 | h1
  · rw [h1];exact hB
  · exact (h.own.lt _ h1).1)
theorem A1Y  {b:Nat} (h:∀ g,v1.ownBlock=some g->v.ownBlock=some g\/N<=g):vb v1 b=b\/vb v1 b=vb v b\/N<=vb v1 b:=by
 rcases Z0 v1 b with a | a
 · exact .inl a
 ·
  rcases h _ a with c | c
  · exact .inr (.inl (Gc c).symm)
  · exact .inr (.inr c)
theorem Z3  {P:D2} {b:Nat} {cs:Array Value} (hP:CU B w1 bp 4096 P v) (hb:Be w1 b cs 74):b≠bp/\b≠vb v bp:=by
 refine ⟨λe=>?_,λe=>?_⟩
 ·
  have c:=hb.ty;have a:=hP.blk.ty
  rw [e] at c
  exact D6 (c.uniq a) dD
 ·
  obtain ⟨t,ht,a⟩:=hP.own.tyv hP.blk.ty
  rw [<- e] at a
  have:=hb.ty.uniq a
  subst this
  exact D6 ht dD
theorem Wg  {a:Nat} (h:p=some (pA p)):(pA (Gz m p c a)).block=(pA p).block:=by
 unfold Gz
 split
 · rfl
 · rw [h];exact Fz _ _
section
variable {B:Nat} {fs:QD} {w:World} {bv:Nat} {F:Nat->Prop} {V:Vw} {args:List PV}
theorem Ul {H:QA} (h:Ga B fs w bv F V args) (ha:args.length<=32) (hbk:Be w bv (FA H).toArray 74) (hP:CU B w H.path 4096 V.path vp) (hc:H.s.ctm=V.s.ctm) (hlb:B<=H.path) :
  Calls Tryz.prog 83 #[ptV bv] w (B08 B H.path vp w (VT V.s.ctm V.path args)):=by
 have bz:=Iq.of h
 obtain ⟨s,fo,sa,pa,aD,it,lo,te,li,ar,itv⟩:=H
 simp only at hP hc hlb ⊢
 have ca:=hP.blk.lt
 have cE:=hbk.lt
 have cM:=Vr hP.own ca
 obtain ⟨cN,cO⟩:=Z3 hP hbk
 have a4:=λw1=>hP.ctm (w1:=w1) hlb
 obtain ⟨R,hD⟩:∃ R,VT V.s.ctm V.path args=R:=⟨_,rfl⟩
 rw [hD]
 unfold VT at hD
 have bA:=Jh.of (Q:=λw=>CU B w pa 4096 V.path vp) hP
 refine Av func83 rfl ntmps83 ?_
 have bm:=AL.refl w.heap.size ([pa,vb vp pa]) w
 refine A5<|A3 rfl<|WL.cx BQ rfl rfl ((Fs 4 (bz).get ha oO)) (λk3 w1 aa a8=>?_) (λa2 x4 w1 aa a8=>?_)
 have bd:=kB bm a8
 exact AE (DG k3 (by rw [<- hD,AF aa]) (a4 _ bd))
 have cb:=FP (w1:=w1) bA (λk hk hl=>a8.1.block k hl)
 have cc:=hbk.bl a8.1
 have cd:=kB bm a8.1
 obtain ⟨nl,rfl⟩:=eX a2
 obtain ⟨pn,cn,evn,cf,cP,-⟩:=a8.2.row
 subst evn
 have ax:=(FB aa).1
 have bn:=cf.ofI
 have cQ:=bn.lt
 rw [AQ aa,U2 ax dD,U2 ax dD,U2 ax dD,U2 ax dD] at hD
 refine Ab rfl<|De (α:=Int × Int) (λt=>[(0,ptV bv),(2,.slice pn nl.length cn),(3,Ah t.1),(4,Ah t.2)]) (λt w'=>AL w.heap.size [pa,vb vp pa] w w'/\Be w' bv (FA ⟨s,fo,sa,pa,aD,it,lo,te,li,ar,itv⟩).toArray 74/\AZ E5 w' pn nl/\Jh w.heap.size (λw=>CU B w pa 4096 V.path vp) w'/\J7 nl[0] nl[2]=.ok t.1/\J7 nl[1] nl[3]=.ok t.2) ?_ (λt w1 hR=>?_)
 refine DD 16 rfl Ci (λw'=>AZ E5 w' pn nl/\True) (λw9 ay=>?_)
 have bB:=FP (w1:=w9) cb (λk hk hl=>(by obtain ⟨m,rfl⟩:=ay;rfl))
 have bC:=cc.drew ay
 have e:=bn.drew ay
 have aE:=CI cd (QL ay)
 refine Aa 0 rfl (.mv rfl) ⟨e,tT⟩ ?_
 refine Aa 1 rfl (.ixb Dm B6 rfl rfl (e.isp oO) (0) (rfl) oO) ⟨e,tT⟩ ?_
 refine C8 2 rfl (λw' hw'=>AS (BE _) rfl ((hw'.1).cells (0) oO)) ⟨e,tT⟩ rfl ?_
 refine Aa 3 rfl (.mv rfl) ⟨e,tT⟩ ?_
 refine Aa 4 rfl (.ixb Dm B6 rfl rfl (e.isp oO) (2) (rfl) oO) ⟨e,tT⟩ ?_
 refine C8 5 rfl (λw' hw'=>AS (BE _) rfl ((hw'.1).cells (2) oO)) ⟨e,tT⟩ rfl ?_
 refine Aa 7 rfl (.mv rfl) ⟨e,tT⟩ ?_
 refine Aa 8 rfl (.ixb Dm B6 rfl rfl (e.isp oO) (1) (rfl) oO) ⟨e,tT⟩ ?_
 refine C8 9 rfl (λw' hw'=>AS (BE _) rfl ((hw'.1).cells (1) oO)) ⟨e,tT⟩ rfl ?_
 refine Aa 10 rfl (.mv rfl) ⟨e,tT⟩ ?_
 refine Aa 11 rfl (.ixb Dm B6 rfl rfl (e.isp oO) (3) (rfl) oO) ⟨e,tT⟩ ?_
 refine C8 12 rfl (λw' hw'=>AS (BE _) rfl ((hw'.1).cells (3) oO)) ⟨e,tT⟩ rfl ?_
 refine Aq 6 rfl<|By BQ rfl rfl ((YZ _ _ _)) (λcg bo ab L=>?_) (λcR bo ab L=>?_)
 have aF:=kB aE L
 exact AE (DG cg (by rw [<- hD];exact AF ab) (a4 _ aF))
 have bD:=FP (w1:=bo) bB (λk hk hl=>L.block k hl)
 have bE:=bC.bl L
 have ah:=AZ.below e L (λf=>e.lt f)
 have aG:=kB aE L
 have bG:=ab
 refine A0<|⟨⟨ah,tT⟩,?_⟩
 refine Aq 13 rfl<|By BQ rfl rfl ((YZ _ _ _)) (λci bp X P=>?_) (λcS bp X P=>?_)
 have aH:=kB aG P
 exact AE (DG ci (by rw [<- hD];exact A1E X (λj hj=>(W8 hj).trans (W8 X).symm)) (a4 _ aH))
 have bH:=FP (w1:=bp) bD (λk hk hl=>P.block k hl)
 have bI:=bE.bl P
 have ac:=AZ.below ah P (λf=>ah.lt f)
 have bJ:=kB aG P
 have bK:=X
 refine A0<|⟨⟨ac,tT⟩,?_⟩
 refine Aa 14 rfl (.as rfl) ⟨ac,tT⟩ ?_
 refine Aa 15 rfl (.as rfl) ⟨ac,tT⟩ ?_
 refine Bl kR ?_
 exact ⟨(_,_),⟨rfl,rfl,rfl,rfl,tT⟩,bJ,bI,ac,bH,bG,bK⟩
 obtain ⟨⟨x,y⟩,cj⟩:=eX t
 subst cj
 obtain ⟨j1,j2,j3,j4,j5,j6⟩:=hR
 simp only at j5 j6
 rw [AQ j5,AQ j6] at hD
 refine Aj<|DD 20 rfl Ci (λw'=>AZ E5 w' pn nl/\True) (λck ad=>?_)
 have bL:=FP (w1:=ck) j4 (λk hk hl=>(by obtain ⟨m,rfl⟩:=ad;rfl))
 have aI:=j2.drew ad
 have d:=j3.drew ad
 have aJ:=CI j1 (QL ad)
 refine Aa 0 rfl (.mv rfl) ⟨d,tT⟩ ?_
 refine Aa 1 rfl (.mv rfl) ⟨d,tT⟩ ?_
 refine Aa 2 rfl (.ixb Dm B6 rfl rfl (d.isp oO) (0) (rfl) oO) ⟨d,tT⟩ ?_
 refine C8 3 rfl (λw' hw'=>AS (BE _) rfl ((hw'.1).cells (0) oO)) ⟨d,tT⟩ rfl ?_
 refine Aa 4 rfl (.mv rfl) ⟨d,tT⟩ ?_
 refine Aa 5 rfl (.ixb Dm B6 rfl rfl (d.isp oO) (1) (rfl) oO) ⟨d,tT⟩ ?_
 refine C8 6 rfl (λw' hw'=>AS (BE _) rfl ((hw'.1).cells (1) oO)) ⟨d,tT⟩ rfl ?_
 refine Aa 7 rfl (.mv rfl) ⟨d,tT⟩ ?_
 refine Aa 8 rfl (.mv rfl) ⟨d,tT⟩ ?_
 refine Aa 9 rfl (.ixb Dm B6 rfl rfl (d.isp oO) (1) (rfl) oO) ⟨d,tT⟩ ?_
 refine C8 10 rfl (λw' hw'=>AS (BE _) rfl ((hw'.1).cells (1) oO)) ⟨d,tT⟩ rfl ?_
 refine Aa 11 rfl (.mv rfl) ⟨d,tT⟩ ?_
 refine Aa 12 rfl (.mv rfl) ⟨d,tT⟩ ?_
 refine Aa 13 rfl (.mv rfl) ⟨d,tT⟩ ?_
 refine Aa 14 rfl (.ixb Dm B6 rfl rfl (d.isp oO) (0) (rfl) oO) ⟨d,tT⟩ ?_
 refine C8 15 rfl (λw' hw'=>AS (BE _) rfl ((hw'.1).cells (0) oO)) ⟨d,tT⟩ rfl ?_
 refine Aa 16 rfl (.mv rfl) ⟨d,tT⟩ ?_
 refine Aq 17 rfl<|CF (ps:=_) Dm B6 PM rfl rfl rfl rfl rfl pR rfl (λcT bM ai be Y cB=>?_)
 have bN:=FP (w1:=bM) bL (λk hk hl=>Y.other k oO)
 have bO:=Bx ai aI.lt
 have aK:=aI.un Y bO
 have bf:=λf=>ai▸d.lt f
 have aj:=AZ.upd d Y (λf=>IU (bf f))
 have aL:=DW ai aJ.size
 have ak:=CI aJ (Ik Y aL)
 have hq:=AZ.lit (V:=E5) (l:=[nl[0],nl[1],x,nl[1],x,y,nl[0],y]) be (rfl)
 refine A0<|⟨⟨aj,tT⟩,?_⟩
 refine Aq 18 rfl<|WL.cx BQ rfl rfl ((MK bv ⟨s,fo,sa,pa,aD,it,lo,te,li,ar,itv⟩ _ [nl[0],nl[1],x,nl[1],x,y,nl[0],y] 8 4 _ aK hq rfl oO (FQ 8))) (λcm aM D E=>?_) (λco cU aM D E=>?_)
 have aN:=kB ak E
 exact AE (DG cm (by rw [hc] at D;rw [<- hD];exact AF D) (a4 _ aN))
 have bP:=FP (w1:=aM) bN (λk hk hl=>E.1.block k hl)
 have v:=aK.bl E.1
 have aO:=AZ.below aj E.1 (λf=>aj.lt f)
 have bQ:=kB ak E.1
 obtain ⟨ls,rfl⟩:=eX co
 obtain ⟨pl,cl,evl,am,bR,cF,-⟩:=E.2.row
 subst evl
 have cV:=I2 (k:=4) rfl D
 rw [hc] at D
 rw [AQ D,show ls.getD 0 FH=ls[0] by rw [Cc,A6 oO];rfl] at hD
 have aP:0<ls.length->w.heap.size<=(pA pl).block:=λf=>BA ak.size (bR _ (am.isp f))
 refine A0<|⟨⟨aO,tT⟩,?_⟩
 refine Aa 19 rfl (.as rfl) ⟨aO,tT⟩ ?_
 refine Bl kR<|Aj<|DD 9 rfl Ci (λw'=>w'.heap[bv]?=aM.heap[bv]?/\Bi Ep w' pl ls/\True) (λbq ae=>?_)
 have bS:=FP (w1:=bq) bP (λk hk hl=>(by obtain ⟨m,rfl⟩:=ae;rfl))
 have A:=v.drew ae
 have o:=am.drew ae
 have an:=CI bQ (QL ae)
 refine Aa 0 rfl (.mv rfl) ⟨(A).trans (v).symm,o,tT⟩ ?_
 refine Aa 1 rfl (.nck rfl) ⟨(A).trans (v).symm,o,tT⟩ ?_
 refine Aa 2 rfl (.fa BW rfl Pf dD rfl) ⟨(A).trans (v).symm,o,tT⟩ ?_
 refine C8 3 rfl (λw' hw'=>Af (PE _) rfl ((hw'.1).trans v) rfl) ⟨(A).trans (v).symm,o,tT⟩ rfl ?_
 refine Aa 4 rfl (.mv rfl) ⟨(A).trans (v).symm,o,tT⟩ ?_
 refine Aa 5 rfl (.ixm Gp Fa rfl rfl (o.isp oO) (0) (rfl) oO) ⟨(A).trans (v).symm,o,tT⟩ ?_
 refine C8 6 rfl (λw' hw'=>Dy CQ rfl Cb (hw'.2.1) (0) oO rfl) ⟨(A).trans (v).symm,o,tT⟩ rfl ?_
 refine Aq 7 rfl<|As (W1 B pa 4096 vp V.path ls[0] _ (DJ bS)) (λcq a5=>?_)
 have aQ:=DB A a5.1 A.lt (by simp only [Ax,AK,Cl,not_or,Bh];omega)
 have ao:=rk_ o a5.1 (λf=>⟨o.lt f,by (have q:=(aP) f;have q1:=o.lt f;simp only [Ax,AK,Cl,not_or,Bh];omega)⟩)
 have aR:=CI an (AL.wide a5.1 an.size (by simp <;> omega))
 obtain ⟨v1,cr,ct⟩:=a5.2
 have bT:=Jh.of (Q:=λw=>CU B w pa 4096 _ v1) cr
 have aS:=(o).lt
 have bt:=an.size
 obtain ⟨N,hN⟩:=eX bq.heap.size
 rw [<- hN] at aS bt
 have bU:N<=cq.heap.size:=hN▸(a5.1).size
 refine A0<|⟨⟨(aQ).trans (v).symm,ao,tT⟩,?_⟩
 refine Aq 8 rfl<|By BQ rfl rfl ((IT _ _)) (λcu aT af T=>?_) (λcW aT af T=>?_)
 have aU:=kB aR T
 exact AE (DG cu (by rw [<- hD];exact AF (Gu af)) (a4 _ aU))
 have aV:=FP (w1:=aT) bT (λk hk hl=>T.block k hl)
 have aW:=aQ.bl T
 have aX:=Is ao T (λf=>ao.lt f)
 have bV:=kB aR T
 rw [AQ (GR af)] at hD
 refine A0<|⟨⟨(aW).trans (v).symm,aX,tT⟩,?_⟩
 refine Bl kR<|Aj<|A5<|A3 rfl<|A1 (.slmF Gp Fa rfl rfl  (1) (rfl) oO)<|?_
 have cv:Bi Ep aT (Gz 2 pl cl 1) (ls.drop 1):=by
  have h2:=Bi.part (a:=1) (b:=4) (c:=cl) aX oO oO oO
  rwa [AR (by rw [B9];omega)] at h2
 have cX:(ls.drop 1).length=3:=by rw [B9];omega
 have bW:0<(ls.drop 1).length->w.heap.size<=(pA (Gz 2 pl cl 1)).block/\(pA (Gz 2 pl cl 1)).block<N:=λ_=>by
  rw [Wg (am.isp oO)];exact ⟨aP oO,aS oO⟩
 refine A1 (.lenS Gp rfl)<|A3 rfl<|A0<|AU<|Cf (α:=Nat × D2 × Value) (λt=>[(0,ptV bv),(53,.slice (Gz 2 pl cl 1) (ls.length-1) (cl-1)),(54,Ah ((ls.length-1:Nat):Int)),(55,Ah (t.1:Int))]) (λt w'=>AL w.heap.size [pa,vb vp pa] w w'/\Be w' bv (FA ⟨s,fo,sa,pa,aD,it,lo,te,li,ar,itv⟩).toArray 74/\Bi Ep w' (Gz 2 pl cl 1) (ls.drop 1)/\CU B w' pa 4096 t.2.1 t.2.2/\(∀ g,t.2.2.ownBlock=some g->vp.ownBlock=some g\/N<=g)/\N<=w'.heap.size/\t.1<=3/\(UR t.2.1 ((ls.drop 1).drop t.1)>>=λp3=>Dg (GA 4096 p3))=R) (λt=>3-t.1) ((0,_,_)) ⟨rfl,rfl,rfl,rfl,tT⟩ (⟨bV,aW,cv,DJ aV,λg hg=>hN▸ct g hg,BA bU (aV).size,G8 _,hD⟩) (λt w1 hR=>?_)
 obtain ⟨⟨i,Pi,vi⟩,cw⟩:=eX t
 subst cw
 obtain ⟨q1,q2,q3,q4,q5,aY,q6,q7⟩:=hR
 simp only at q4 q5 q6 q7
 have ap:=Jh.of (Q:=λw=>CU B w pa 4096 Pi vi) q4
 have cG:=Vr q4.own q4.blk.lt
 have cH:=A1Y (b:=pa) q5
 obtain ⟨cI,cJ⟩:=Z3 q4 q2
 refine A5<|A1 (.lss rfl rfl)<|A0<|Aj<|Ae rfl (λaZ=>?_) (λaZ=>?_)
 have bX:=dT aZ
 have bu:i<(ls.drop 1).length:=by omega
 have a9:(Dg (Fu 4096 Pi (ls.drop 1)[i])>>=λQ=>UR Q ((ls.drop 1).drop (i+1)))>>=(λp3=>Dg (GA 4096 p3))=R:=by rw [<- q7,Ar bu];rfl
 refine Ap<|Aj<|AU<|A5<|A1 (.ixm Gp Fa rfl rfl (q3.isp oO) (i) (rfl) oO)<|Ai (Dy CQ rfl Cb q3 (i) oO rfl)<|C1 LZ rfl (λbw bY aq bg a0 cC=>?_)
 have bZ:=FP (w1:=bY) ap (λk hk hl=>a0.other k oO)
 have b':=Bx aq q2.lt
 have c0:=q2.un a0 b'
 have az:=λf=>aq▸q3.lt f
 have c2:=Bi.upd q3 a0 (λf=>IU (az f))
 have a':=DW aq q1.size
 have c3:=CI q1 (Ik a0 a')
 refine AH rfl rfl bg Cb rfl rfl (λb0 u a1 cD=>?_)
 have c4:=FP (w1:=b0) bZ (λk hk hl=>a1.other k oM)
 have C:=c0.up a1
 have c5:=Bi.upd c2 a1 (λf=>IU (az f))
 have c6:=CI c3 (by exact Ik a1 oO)
 refine A0<|DD 7 rfl Ci (λw'=>w'.heap[bv]?=b0.heap[bv]?/\w'.heap[bw]?=b0.heap[bw]?/\True) (λcy a6=>?_)
 have au:=FP (w1:=cy) c4 (λk hk hl=>(by obtain ⟨m,rfl⟩:=a6;rfl))
 have G:=C.drew a6
 have J:=u.drew a6
 have av:=c5.drew a6
 have b1:=CI c6 (QL a6)
 refine Aa 0 rfl (.mv rfl) ⟨(G).trans (C).symm,(J).trans (u).symm,tT⟩ ?_
 refine Aa 1 rfl (.nck rfl) ⟨(G).trans (C).symm,(J).trans (u).symm,tT⟩ ?_
 refine Aa 2 rfl (.fa BW rfl Pf dD rfl) ⟨(G).trans (C).symm,(J).trans (u).symm,tT⟩ ?_
 refine C8 3 rfl (λw' hw'=>Af (PE _) rfl ((hw'.1).trans C) rfl) ⟨(G).trans (C).symm,(J).trans (u).symm,tT⟩ rfl ?_
 refine C8 4 rfl (λw' hw'=>BD rfl ((hw'.2.1).trans u) CQ rfl Cb) ⟨(G).trans (C).symm,(J).trans (u).symm,tT⟩ rfl ?_
 refine Aq 5 rfl<|As (W2 B pa 4096 vi Pi (ls.drop 1)[i] _ (DJ au)) (λcz U=>?_)
 have b2:=DB G U.1 G.lt (by simp only [Ax,AK,Cl,not_or,Bh];omega)
 have b3:=DB J U.1 J.lt (by simp only [Ax,AK,Cl,not_or,Bh];omega)
 have b4:=rk_ av U.1 (λf=>⟨av.lt f,by (have q:=(bW) f;have q1:=av.lt f;simp only [Ax,AK,Cl,not_or,Bh];omega)⟩)
 have b5:=CI b1 (AL.wide U.1 b1.size (by simp <;> omega))
 obtain ⟨v2,b6,b7⟩:=U.2
 have aw:=Jh.of (Q:=λw=>CU B w pa 4096 _ v2) b6
 have b8:∀ g,v2.ownBlock=some g->vp.ownBlock=some g\/N<=g:=λg hg=>(b7 g hg).elim (q5 g) (λh=>.inr (BA (BA aY (au).size) h))
 have c7:N<=cz.heap.size:=BA (BA aY (au).size) (U.1).size
 refine A0<|⟨⟨(b2).trans (C).symm,(b3).trans (u).symm,tT⟩,?_⟩
 refine Aq 6 rfl<|By BQ rfl rfl ((IT _ _)) (λcA bx ag K=>?_) (λcY bx ag K=>?_)
 have b9:=kB b5 K
 exact AE (DG cA (by rw [<- a9];exact AF (AF (Gu ag))) (a4 _ b9))
 have ba:=FP (w1:=bx) aw (λk hk hl=>K.block k hl)
 have bb:=b2.bl K
 have c8:=b3.bl K
 have bh:=Is b4 K (λf=>b4.lt f)
 have bi:=kB b5 K
 rw [AQ (GR ag)] at a9
 refine A0<|⟨⟨(bb).trans (C).symm,(c8).trans (u).symm,tT⟩,?_⟩
 refine Bl kR<|Ak<|A1 (.iis (((i+1:Nat):Int)) (.add rfl rfl (Bn oO)) oO)<|A3 rfl<|A0<|?_
 exact ⟨(i+1,_,v2),⟨rfl,rfl,rfl,rfl,tT⟩,⟨bi,bb,bh,DJ ba,b8,BA c7 (ba).size,oM,a9⟩,oM⟩
 have bX:=dF aZ
 have bu:i=3:=by omega
 have a9:Dg (GA 4096 Pi)=R:=by rw [<- q7,List.drop_of_length_le oO];rfl
 refine C7<|Ak<|A3 rfl<|A1 (.nck rfl)<|A1 (.fa BW rfl Pf dD rfl)<|Ai (Af (PE _) rfl q2 rfl)<|As (Pm B pa 4096 vi Pi _ (DJ ap)) (λcK aA=>?_)
 have aB:=CI q1 (AL.wide aA.1 q1.size (by simp <;> omega))
 obtain ⟨v2,b6,b7⟩:=aA.2
 have aw:=Jh.of (Q:=λw=>CU B w pa 4096 _ v2) b6
 have b8:∀ g,v2.ownBlock=some g->vp.ownBlock=some g\/N<=g:=λg hg=>(b7 g hg).elim (q5 g) (λh=>.inr (BA (BA aY (ap).size) h))
 refine By BQ rfl rfl ((IT _ _)) (λc9 bc a7 a3=>?_) (λcL bc a7 a3=>?_)
 have aC:=kB aB a3
 exact AE (DG c9 (by rw [<- a9];exact Gu a7) (a4 _ aC))
 have bj:=FP (w1:=bc) aw (λk hk hl=>a3.block k hl)
 have bk:=kB aB a3
 refine A0<|BU (BK rfl ?_)
 exact GX _ _ (a9.symm.trans (GR a7)) rfl ⟨rfl,bk,v2,DJ bj,λg hg=>(b8 g hg).imp id (λh=>BA bt h)⟩
end
end
section
def Jy (V:Vw) (x:Except Int D2):Except Int Vw:=x>>=λp=>.ok (KB V p)
theorem A7J {V:Vw} {args:List PV}:FY V args [109]=(Dt args 2>>=λn=>Dx V.s.ctm n>>=λl=>Jy V (Dg (GV 4096 V.path (l.getD 0 FH)))):=by unfold FY;rw [A7 rfl];rfl
theorem A7K {V:Vw} {args:List PV}:FY V args [108]=(Dt args 2>>=λn=>Dx V.s.ctm n>>=λl=>Jy V (Dg (Fu 4096 V.path (l.getD 0 FH)))):=by unfold FY;rw [A2 dD,A7 rfl];rfl
theorem A7M {V:Vw} {args:List PV}:FY V args [99]=(Dt args 6>>=λn=>Dx V.s.ctm n>>=λl=>Jy V (Dg (If 4096 V.path (l.getD 0 FH) (l.getD 1 FH) (l.getD 2 FH)))):=by
 unfold FY;rw [A2 dD,A2 dD,A7 rfl];rfl
theorem A7I {V:Vw} {args:List PV}:FY V args [118]=(Dt args 4>>=λn=>Dx V.s.ctm n>>=λl=>CS (decide (V.path.list.length≠0))>>=λ_=>Jy V (Dg (If 4096 V.path V.path.now (l.getD 0 FH) (l.getD 1 FH)))):=by
 unfold FY;rw [A2 dD,A2 dD,A2 dD,A7 rfl];rfl
theorem A7H {V:Vw} {args:List PV}:FY V args [121]=(Dt args 4>>=λn=>Dx V.s.ctm n>>=λl=>Jy V (Dg (If 4096 V.path (l.getD 0 FH) (l.getD 1 FH) (l.getD 1 FH)))):=by
 unfold FY;rw [A2 dD,A2 dD,A2 dD,A2 dD,A7 rfl];rfl
theorem A7L {V:Vw} {args:List PV}:FY V args [104]=(Dt args 0>>=λ_=>Jy V (Dg (GA 4096 V.path))):=by
 unfold FY;rw [A2 dD,A2 dD,A2 dD,A2 dD,A2 dD,A7 rfl];rfl
theorem A64 {V:Vw} {args:List PV} {op:l8_} (h1:¬ op=[109]) (h2:¬ op=[108]) (h3:¬ op=[99]) (h4:¬ op=[118]) (h5:¬ op=[121]) (h6:¬ op=[104]):FY V args op=Jy V (VT V.s.ctm V.path args):=by
 unfold FY VT Jy
 rw [A2 h1,A2 h2,A2 h3,A2 h4,A2 h5,A2 h6]
 cases hn:Dt args 4 with
 | error k=>rfl
 | ok n =>
  show (J7 (n.getD 0 0) (n.getD 2 0)>>=λx=>_)=((J7 (n.getD 0 0) (n.getD 2 0)>>=λx=>_)>>=_)
  cases hx:J7 (n.getD 0 0) (n.getD 2 0) with
  | error k=>rfl
  | ok x =>
   show (J7 (n.getD 1 0) (n.getD 3 0)>>=λy=>_)=((J7 (n.getD 1 0) (n.getD 3 0)>>=λy=>_)>>=_)
   cases hy:J7 (n.getD 1 0) (n.getD 3 0) with
   | error k=>rfl
   | ok y =>
    show (Dx V.s.ctm [n.getD 0 0,n.getD 1 0,x,n.getD 1 0,x,y,n.getD 0 0,y]>>=λl=>_)=((Dx V.s.ctm [n.getD 0 0,n.getD 1 0,x,n.getD 1 0,x,y,n.getD 0 0,y]>>=λl=>_)>>=_)
    cases hl:Dx V.s.ctm [n.getD 0 0,n.getD 1 0,x,n.getD 1 0,x,y,n.getD 0 0,y] with
    | error k=>rfl
    | ok l =>
     have j:=I2 (k:=4) rfl hl
     match l,j with
     | [a,b,c,d],_ =>
      show (Dg (GV 4096 V.path a)>>=λi=>Dg (Fu 4096 i b)>>=λe=>Dg (Fu 4096 e c)>>=λf=>Dg (Fu 4096 f d)>>=λg=>Dg (GA 4096 g)>>=λp=>.ok (KB V p)) =
       ((Dg (GV 4096 V.path a)>>=λi=>(Dg (Fu 4096 i b)>>=λe=>Dg (Fu 4096 e c)>>=λf=>Dg (Fu 4096 f d)>>=λg=>.ok g)>>=λg=>Dg (GA 4096 g))>>=λp=>.ok (KB V p))
      cases Dg (GV 4096 V.path a) with
      | error k=>rfl
      | ok i =>
       show (Dg (Fu 4096 i b)>>=λe=>_)=(((Dg (Fu 4096 i b)>>=λe=>_)>>=_)>>=_)
       cases Dg (Fu 4096 i b) with
       | error k=>rfl
       | ok e =>
        show (Dg (Fu 4096 e c)>>=λf=>_)=(((Dg (Fu 4096 e c)>>=λf=>_)>>=_)>>=_)
        cases Dg (Fu 4096 e c) with
        | error k=>rfl
        | ok f =>
         show (Dg (Fu 4096 f d)>>=λg=>_)=(((Dg (Fu 4096 f d)>>=λg=>_)>>=_)>>=_)
         cases Dg (Fu 4096 f d) with
         | error k=>rfl
         | ok g=>rfl
def V8 (P:D2):BH × Int:=if P.list.length=0 then (FH,10) else (P.now,0)
theorem A7S {P:D2} {u:Unit} (h:LU (V8 P).2=.ok u):decide (P.list.length≠0)=true/\P.now=(V8 P).1:=by
 have a:=MZ h
 unfold V8 at a ⊢
 split at a
 · cases a
 · next hn=>rw [A2 hn];exact ⟨Al hn,rfl⟩
theorem ZL {P:D2} {k:Int} (h:LU (V8 P).2=.error k):decide (P.list.length≠0)=false/\k=22:=by
 unfold LU at h
 split at h
 · cases h
 ·
  next hn =>
  cases h
  refine ⟨An λhl=>?_,rfl⟩
  unfold V8 at hn
  rw [A2 hl] at hn
  exact hn rfl
theorem A2I (B bp:Nat) (m:Int) (v:Value) (P:D2) (w:World) (h:CU B w bp m P v) :
  C9 80 #[ptV bp] w (.tuple #[.agg (D4 (V8 P).1).toArray,Ah (V8 P).2]) :=
 (W3 B bp m v P w h).mono λe w' ⟨h1,h2⟩=>⟨by rw [h1];unfold V8;split <;> rfl,h2⟩
theorem OL {l:List BH} {n:Nat} (h:l.length=n) (hi:i<n):l.getD i FH=l[i]'oO:=by
 rw [Cc,A6 oO];rfl
section
variable {B:Nat} {fs:QD} {w w1:World} {bv:Nat} {F:Nat->Prop} {V:Vw} {args:List PV}
theorem Ga.setPath {H:QA} {vp v1:Value} {its:List AN} {hs:List Vf} {cs:List PC} {P1:D2} (hO:VwO B w bv H vp V its hs cs) (hR:VwR (Eh fs.c (GG bv H vp) w) w H fs V args its hs cs)
  (K:AL w.heap.size [H.path,vb vp H.path] w w1) (hp:CU B w1 H.path 4096 P1 v1) (hg:G4 w vp v1):∃ F1,Ga B fs w1 bv F1 (KB V P1) args/\Dw (GG bv H vp) F1 w w1:=by
 obtain ⟨d,-,e,f,i⟩:=hO.rest K _ (Ky hO.pth.own hO.pth.blk.ty)
 have hC:Dw (GG bv H vp) (GG bv H v1) w w1:=CA K (LP (λg hg=>.inr (.inr (.inl hg))) (.inr (.inl rfl))) (λg b=>by
  rcases b with a | a | a | a
  · exact .inl (.inl a)
  · exact .inl (.inr (.inl a))
  · exact (hg g a).imp (λh=>.inr (.inr (.inl h))) id
  · exact .inl (.inr (.inr (.inr a))))
 have hq:=hR.mv (Eh.mv hC)
 exact ⟨_,⟨H,v1,its,hs,cs,rfl,⟨d dD,hp,e dD,f dD,i dD,hO.lbv,hO.lbp⟩,{ hq with }⟩,hC⟩
theorem A4Q (op:l8_) (h:Ga B fs w bv F V args) (ha:args.length<=32) :
  Calls Tryz.prog 53 #[ptV bv,.string (bs op)] w (VwE B fs bv F w (FY V args op) args):=by
 have e:=h
 obtain ⟨H,vp,its,hs,cs,rfl,hO,hR⟩:=h.mem
 have ak:=Iq.of e
 have v:=hO.blk
 have hP:=hO.pth
 have bZ:=hO.lbp
 have hc:=hR.st.ctm
 have aC:=@Ga.setPath B fs w
 obtain ⟨s,fo,sa,pa,b6,it,lo,te,li,ar,itv⟩:=H
 simp only at hP hc bZ
 have e4:=hP.blk.lt
 have en:=v.lt
 have eG:=Vr hP.own e4
 obtain ⟨eH,eI⟩:=Z3 hP v
 have y:=λw1=>hP.ctm (w1:=w1) bZ
 have am:=Jh.of (Q:=λw=>CU B w pa 4096 V.path vp) hP
 refine Av func53 rfl ntmps53 ?_
 have a6:=AL.refl w.heap.size ([pa,vb vp pa]) w
 refine A5<|A3 rfl<|A0<|AU<|A5<|A1 (.eqs rfl rfl)<|Ab rfl<|Ae rfl (λh1=>?_) (λh1=>?_)
 have e5:=dT h1
 have P:op=[109]:=by assumption
 have hD:=A7J (V:=V) (args:=args)
 rw [<- P] at hD
 refine DD 12 rfl Ci (λw'=>w'.heap[bv]?=w.heap[bv]?/\True) (λw2 bo=>?_)
 have e6:=Kc (w1:=w2) ak (λk hk hl=>(by obtain ⟨m,rfl⟩:=bo;rfl))
 have e7:=FP (w1:=w2) am (λk hk hl=>(by obtain ⟨m,rfl⟩:=bo;rfl))
 have de:=v.drew bo
 have df:=CI a6 (QL bo)
 have aL:=Dr (de.trans v.symm) BO
 refine Aa 0 rfl (.mv rfl) aL ?_
 refine Aa 1 rfl (.nck rfl) aL ?_
 refine Aa 2 rfl (.fa BW rfl Pf dD rfl) aL ?_
 refine C8 3 rfl (λw' hw'=>Af (PE _) rfl ((hw'.1).trans v) rfl) aL rfl ?_
 refine Aa 4 rfl (.mv rfl) aL ?_
 refine Aa 5 rfl (.mv rfl) aL ?_
 refine Aq 6 rfl<|WL.cx BQ rfl rfl ((Fs 2 (e6).get ha oO)) (λk9 w7 aO aM=>?_) (λa8 eJ w7 aO aM=>?_)
 have cB:=kB df aM
 exact AE (DG k9 (by rw [hD,AF aO]) (y _ cB))
 have dn:=FP (w1:=w7) e7 (λk hk hl=>aM.1.block k hl)
 have b8:=de.bl aM.1
 have b9:=kB df aM.1
 obtain ⟨nl,rfl⟩:=eX a8
 obtain ⟨pn,cn,evn,a9,bp,aa,-⟩:=aM.2.row
 subst evn
 have bq:=(FB aO).1
 have ab:=a9.ofI
 rw [AQ aO] at hD
 refine A0<|⟨⟨(b8).trans (v).symm,tT⟩,?_⟩
 refine Aq 7 rfl<|WL.cx BQ rfl rfl ((MK bv ⟨s,fo,sa,pa,b6,it,lo,te,li,ar,itv⟩ pn nl cn 1 _ b8 ab oO oO aa)) (λe8 dg U an=>?_) (λe9 eK dg U an=>?_)
 have b':=kB b9 an
 exact AE (DG e8 (by rw [hc] at U;rw [hD];exact AF U) (y _ b'))
 have dp:=FP (w1:=dg) dn (λk hk hl=>an.1.block k hl)
 have ba:=b8.bl an.1
 have bb:=kB b9 an.1
 obtain ⟨ls,rfl⟩:=eX e9
 obtain ⟨pl,cl,evl,l,K,aP,-⟩:=an.2.row
 subst evl
 have C:=I2 (k:=1) oO U
 rw [hc] at U
 rw [AQ U,OL C (i:=0) dD] at hD
 have a7:0<ls.length->w.heap.size<=(pA pl).block:=λe=>BA b9.size (K _ (l.isp e))
 refine A0<|?_
 have c0:=Dr (ba.trans v.symm) BO
 refine ⟨c0,?_⟩
 refine Aa 8 rfl (.ixm Gp Fa rfl rfl (l.isp oO) (0) (rfl) oO) c0 ?_
 refine Aq 9 rfl<|Ai (Dy CQ rfl Cb l (0) oO rfl)<|A0<|⟨c0,?_⟩
 refine Aq 10 rfl<|As (W1 B pa 4096 vp V.path ls[0] _ (DJ dp)) (λeL bc=>?_)
 have c2:=DB ba bc.1 ba.lt (by simp only [Ax,AK,Cl,not_or,Bh];omega)
 have c3:=CI bb (AL.wide bc.1 bb.size (by simp <;> omega))
 obtain ⟨v1,D,T⟩:=bc.2
 have A:=Jh.of (Q:=λw=>CU B w pa 4096 _ v1) D
 have E:=G4.mono T bb.size
 refine A0<|⟨⟨(c2).trans (v).symm,tT⟩,?_⟩
 refine Aq 11 rfl<|By BQ rfl rfl ((IT _ _)) (λea dh aQ aD=>?_) (λeM dh aQ aD=>?_)
 have c4:=kB c3 aD
 exact AE (DG ea (by rw [hD];exact AF (Gu aQ)) (y _ c4))
 have dq:=FP (w1:=dh) A (λk hk hl=>aD.block k hl)
 have dr:=c2.bl aD
 have ds:=kB c3 aD
 rw [Jy,AQ (GR aQ)] at hD
 refine A0<|⟨⟨(dr).trans (v).symm,tT⟩,?_⟩
 refine Bl kR<|BU (BK rfl ?_)
 exact GX _ _ hD rfl ⟨rfl,aC hO hR ds (DJ dq) E⟩
 have e5:=dF h1
 refine A5<|A1 (.eqs rfl rfl)<|Ab rfl<|Ae rfl (λc5=>?_) (λc5=>?_)
 have dt:=dT c5
 have P:op=[108]:=by assumption
 have hD:=A7K (V:=V) (args:=args)
 rw [<- P] at hD
 refine DD 12 rfl Ci (λw'=>w'.heap[bv]?=w.heap[bv]?/\True) (λdi aR=>?_)
 have du:=Kc (w1:=di) ak (λk hk hl=>(by obtain ⟨m,rfl⟩:=aR;rfl))
 have dv:=FP (w1:=di) am (λk hk hl=>(by obtain ⟨m,rfl⟩:=aR;rfl))
 have c6:=v.drew aR
 have c7:=CI a6 (QL aR)
 have aN:=Dr (c6.trans v.symm) BO
 refine Aa 0 rfl (.mv rfl) aN ?_
 refine Aa 1 rfl (.nck rfl) aN ?_
 refine Aa 2 rfl (.fa BW rfl Pf dD rfl) aN ?_
 refine C8 3 rfl (λw' hw'=>Af (PE _) rfl ((hw'.1).trans v) rfl) aN rfl ?_
 refine Aa 4 rfl (.mv rfl) aN ?_
 refine Aa 5 rfl (.mv rfl) aN ?_
 refine Aq 6 rfl<|WL.cx BQ rfl rfl ((Fs 2 (du).get ha oO)) (λeb dj av ao=>?_) (λec eN dj av ao=>?_)
 have c8:=kB c7 ao
 exact AE (DG eb (by rw [hD,AF av]) (y _ c8))
 have dw:=FP (w1:=dj) dv (λk hk hl=>ao.1.block k hl)
 have bd:=c6.bl ao.1
 have be:=kB c7 ao.1
 obtain ⟨nl,rfl⟩:=eX ec
 obtain ⟨pn,cn,evn,a9,bp,aa,-⟩:=ao.2.row
 subst evn
 have bq:=(FB av).1
 have ab:=a9.ofI
 rw [AQ av] at hD
 refine A0<|⟨⟨(bd).trans (v).symm,tT⟩,?_⟩
 refine Aq 7 rfl<|WL.cx BQ rfl rfl ((MK bv ⟨s,fo,sa,pa,b6,it,lo,te,li,ar,itv⟩ pn nl cn 1 _ bd ab oO oO aa)) (λed dk X ap=>?_) (λee eO dk X ap=>?_)
 have c9:=kB be ap
 exact AE (DG ed (by rw [hc] at X;rw [hD];exact AF X) (y _ c9))
 have dx:=FP (w1:=dk) dw (λk hk hl=>ap.1.block k hl)
 have bf:=bd.bl ap.1
 have bg:=kB be ap.1
 obtain ⟨ls,rfl⟩:=eX ee
 obtain ⟨pl,cl,evl,l,K,aP,-⟩:=ap.2.row
 subst evl
 have C:=I2 (k:=1) oO X
 rw [hc] at X
 rw [AQ X,OL C (i:=0) dD] at hD
 have a7:0<ls.length->w.heap.size<=(pA pl).block:=λe=>BA be.size (K _ (l.isp e))
 refine A0<|?_
 have ca:=Dr (bf.trans v.symm) BO
 refine ⟨ca,?_⟩
 refine Aa 8 rfl (.ixm Gp Fa rfl rfl (l.isp oO) (0) (rfl) oO) ca ?_
 refine Aq 9 rfl<|Ai (Dy CQ rfl Cb l (0) oO rfl)<|A0<|⟨ca,?_⟩
 refine Aq 10 rfl<|As (W2 B pa 4096 vp V.path ls[0] _ (DJ dx)) (λeP bh=>?_)
 have cb:=DB bf bh.1 bf.lt (by simp only [Ax,AK,Cl,not_or,Bh];omega)
 have cc:=CI bg (AL.wide bh.1 bg.size (by simp <;> omega))
 obtain ⟨v1,D,T⟩:=bh.2
 have A:=Jh.of (Q:=λw=>CU B w pa 4096 _ v1) D
 have E:=G4.mono T bg.size
 refine A0<|⟨⟨(cb).trans (v).symm,tT⟩,?_⟩
 refine Aq 11 rfl<|By BQ rfl rfl ((IT _ _)) (λef dl aT aE=>?_) (λeQ dl aT aE=>?_)
 have cd:=kB cc aE
 exact AE (DG ef (by rw [hD];exact AF (Gu aT)) (y _ cd))
 have dy:=FP (w1:=dl) A (λk hk hl=>aE.block k hl)
 have dz:=cb.bl aE
 have dA:=kB cc aE
 rw [Jy,AQ (GR aT)] at hD
 refine A0<|⟨⟨(dz).trans (v).symm,tT⟩,?_⟩
 refine Bl kR<|BU (BK rfl ?_)
 exact GX _ _ hD rfl ⟨rfl,aC hO hR dA (DJ dy) E⟩
 have dt:=dF c5
 refine A5<|A1 (.eqs rfl rfl)<|Ab rfl<|Ae rfl (λcf=>?_) (λcf=>?_)
 have dB:=dT cf
 have P:op=[99]:=by assumption
 have hD:=A7M (V:=V) (args:=args)
 rw [<- P] at hD
 refine A5<|A3 rfl<|A3 rfl<|WL.cx BQ rfl rfl ((Fs 6 (ak).get ha oO)) (λeg dm aw aq=>?_) (λeh eR dm aw aq=>?_)
 have cg:=kB a6 aq
 exact AE (DG eg (by rw [hD,AF aw]) (y _ cg))
 have dC:=FP (w1:=dm) am (λk hk hl=>aq.1.block k hl)
 have ci:=v.bl aq.1
 have bi:=kB a6 aq.1
 obtain ⟨nl,rfl⟩:=eX eh
 obtain ⟨pn,cn,evn,a9,bp,aa,-⟩:=aq.2.row
 subst evn
 have bq:=(FB aw).1
 have ab:=a9.ofI
 rw [AQ aw] at hD
 refine WL.cx BQ rfl rfl ((MK bv ⟨s,fo,sa,pa,b6,it,lo,te,li,ar,itv⟩ pn nl cn 3 _ ci ab oO oO aa)) (λei cj Y au=>?_) (λej eS cj Y au=>?_)
 have ck:=kB bi au
 exact AE (DG ei (by rw [hc] at Y;rw [hD];exact AF Y) (y _ ck))
 have dE:=FP (w1:=cj) dC (λk hk hl=>au.1.block k hl)
 have o:=ci.bl au.1
 have dG:=kB bi au.1
 obtain ⟨ls,rfl⟩:=eX ej
 obtain ⟨pl,cl,evl,l,K,aP,-⟩:=au.2.row
 subst evl
 have C:=I2 (k:=3) oO Y
 rw [hc] at Y
 rw [AQ Y,OL C (i:=0) dD,OL C (i:=1) dD,OL C (i:=2) dD] at hD
 have a7:0<ls.length->w.heap.size<=(pA pl).block:=λe=>BA bi.size (K _ (l.isp e))
 refine Ab rfl<|DD 15 rfl Ci (λw'=>w'.heap[bv]?=cj.heap[bv]?/\Bi Ep w' pl ls/\True) (λek aU=>?_)
 have dH:=FP (w1:=ek) dE (λk hk hl=>(by obtain ⟨m,rfl⟩:=aU;rfl))
 have x:=o.drew aU
 have a:=l.drew aU
 have aV:=CI dG (QL aU)
 refine Aa 0 rfl (.mv rfl) ⟨(x).trans (o).symm,a,tT⟩ ?_
 refine Aa 1 rfl (.nck rfl) ⟨(x).trans (o).symm,a,tT⟩ ?_
 refine Aa 2 rfl (.fa BW rfl Pf dD rfl) ⟨(x).trans (o).symm,a,tT⟩ ?_
 refine C8 3 rfl (λw' hw'=>Af (PE _) rfl ((hw'.1).trans o) rfl) ⟨(x).trans (o).symm,a,tT⟩ rfl ?_
 refine Aa 4 rfl (.mv rfl) ⟨(x).trans (o).symm,a,tT⟩ ?_
 refine Aa 5 rfl (.ixm Gp Fa rfl rfl (a.isp oO) (0) (rfl) oO) ⟨(x).trans (o).symm,a,tT⟩ ?_
 refine C8 6 rfl (λw' hw'=>Dy CQ rfl Cb (hw'.2.1) (0) oO rfl) ⟨(x).trans (o).symm,a,tT⟩ rfl ?_
 refine Aa 7 rfl (.mv rfl) ⟨(x).trans (o).symm,a,tT⟩ ?_
 refine Aa 8 rfl (.ixm Gp Fa rfl rfl (a.isp oO) (1) (rfl) oO) ⟨(x).trans (o).symm,a,tT⟩ ?_
 refine C8 9 rfl (λw' hw'=>Dy CQ rfl Cb (hw'.2.1) (1) oO rfl) ⟨(x).trans (o).symm,a,tT⟩ rfl ?_
 refine Aa 10 rfl (.mv rfl) ⟨(x).trans (o).symm,a,tT⟩ ?_
 refine Aa 11 rfl (.ixm Gp Fa rfl rfl (a.isp oO) (2) (rfl) oO) ⟨(x).trans (o).symm,a,tT⟩ ?_
 refine C8 12 rfl (λw' hw'=>Dy CQ rfl Cb (hw'.2.1) (2) oO rfl) ⟨(x).trans (o).symm,a,tT⟩ rfl ?_
 refine Aq 13 rfl<|As (Pk B pa 4096 vp V.path ls[0] ls[1] ls[2] _ (DJ dH)) (λeo ax=>?_)
 have bt:=DB x ax.1 x.lt (by simp only [Ax,AK,Cl,not_or,Bh];omega)
 have aW:=rk_ a ax.1 (λe=>⟨a.lt e,by (have q:=(a7) e;have q1:=a.lt e;simp only [Ax,AK,Cl,not_or,Bh];omega)⟩)
 have bu:=CI aV (AL.wide ax.1 aV.size (by simp <;> omega))
 obtain ⟨v1,D,T⟩:=ax.2
 have A:=Jh.of (Q:=λw=>CU B w pa 4096 _ v1) D
 have E:=G4.mono T aV.size
 refine A0<|⟨⟨(bt).trans (o).symm,aW,tT⟩,?_⟩
 refine Aq 14 rfl<|By BQ rfl rfl ((IT _ _)) (λdI cm aF a0=>?_) (λep cm aF a0=>?_)
 have bO:=kB bu a0
 exact AE (DG dI (by rw [hD];exact AF (Gu aF)) (y _ bO))
 have cC:=FP (w1:=cm) A (λk hk hl=>a0.block k hl)
 have cD:=bt.bl a0
 have cE:=Is aW a0 (λe=>aW.lt e)
 have cF:=kB bu a0
 rw [Jy,AQ (GR aF)] at hD
 refine A0<|⟨⟨(cD).trans (o).symm,cE,tT⟩,?_⟩
 refine Bl kR<|BU (BK rfl ?_)
 exact GX _ _ hD rfl ⟨rfl,aC hO hR cF (DJ cC) E⟩
 have dB:=dF cf
 refine A5<|A1 (.eqs rfl rfl)<|Ab rfl<|Ae rfl (λbj=>?_) (λbj=>?_)
 have cG:=dT bj
 have P:op=[118]:=by assumption
 have hD:=A7I (V:=V) (args:=args)
 rw [<- P] at hD
 refine A5<|A3 rfl<|A3 rfl<|WL.cx BQ rfl rfl ((Fs 4 (ak).get ha oO)) (λdJ co ac a1=>?_) (λdK eq co ac a1=>?_)
 have bP:=kB a6 a1
 exact AE (DG dJ (by rw [hD,AF ac]) (y _ bP))
 have cH:=FP (w1:=co) am (λk hk hl=>a1.1.block k hl)
 have bw:=v.bl a1.1
 have aX:=kB a6 a1.1
 obtain ⟨nl,rfl⟩:=eX dK
 obtain ⟨pn,cn,evn,a9,bp,aa,-⟩:=a1.2.row
 subst evn
 have bq:=(FB ac).1
 have ab:=a9.ofI
 rw [AQ ac] at hD
 refine WL.cx BQ rfl rfl ((MK bv ⟨s,fo,sa,pa,b6,it,lo,te,li,ar,itv⟩ pn nl cn 2 _ bw ab oO oO aa)) (λdL cq G a2=>?_) (λdM er cq G a2=>?_)
 have bQ:=kB aX a2
 exact AE (DG dL (by rw [hc] at G;rw [hD];exact AF G) (y _ bQ))
 have bx:=FP (w1:=cq) cH (λk hk hl=>a2.1.block k hl)
 have bz:=bw.bl a2.1
 have cI:=kB aX a2.1
 obtain ⟨ls,rfl⟩:=eX dM
 obtain ⟨pl,cl,evl,l,K,aP,-⟩:=a2.2.row
 subst evl
 have C:=I2 (k:=2) oO G
 rw [hc] at G
 rw [AQ G,OL C (i:=0) dD,OL C (i:=1) dD] at hD
 have a7:0<ls.length->w.heap.size<=(pA pl).block:=λe=>BA aX.size (K _ (l.isp e))
 refine Ab rfl<|A5<|A3 rfl<|A1 (.nck rfl)<|A1 (.fa BW rfl Pf dD rfl)<|Ai (Af (PE _) rfl bz rfl)<|As (A2I B pa 4096 vp V.path _ (DJ bx)) (λdN ay=>?_)
 have cJ:=FP (w1:=dN) bx (λk hk hl=>ay.block k hl)
 have bA:=bz.bl ay
 have bB:=Is l ay (λe=>l.lt e)
 have bC:=kB cI ay
 refine A3 rfl<|A1 (.ext rfl rfl)<|A1 (.ext rfl rfl)<|C1 LZ rfl (λcr cK aY ct ad el=>?_)
 have cL:=FP (w1:=cK) cJ (λk hk hl=>ad.other k oO)
 have cM:=Bx aY bA.lt
 have cN:=bA.un ad cM
 have b7:=λe=>aY▸bB.lt e
 have cO:=Bi.upd bB ad (λe=>IU (b7 e))
 have bR:=DW aY bC.size
 have cP:=CI bC (Ik ad bR)
 refine AH rfl rfl ct Cb rfl rfl (λdO cu ae em=>?_)
 have cQ:=FP (w1:=dO) cL (λk hk hl=>ae.other k oM)
 have cR:=cN.up ae
 have bD:=Bi.upd cO ae (λe=>IU (b7 e))
 have bE:=CI cP (by exact Ik ae oO)
 refine Ab rfl<|A5<|A3 rfl<|By BQ rfl rfl ((Lm _ _)) (λdP aZ af L=>?_) (λes aZ af L=>?_)
 have bS:=kB bE L
 exact AE (DG dP (by rw [hD,(ZL af).1,(ZL af).2];rfl) (y _ bS))
 have cS:=FP (w1:=aZ) cQ (λk hk hl=>L.block k hl)
 have f:=cR.bl L
 have g:=cu.bl L
 have cT:=Is bD L (λe=>bD.lt e)
 have cU:=kB bE L
 obtain ⟨dQ,dR⟩:=A7S af
 rw [dQ,AQ (show CS true=.ok () from rfl),dR] at hD
 refine A0<|DD 13 rfl Ci (λw'=>w'.heap[bv]?=aZ.heap[bv]?/\Bi Ep w' pl ls/\w'.heap[cr]?=aZ.heap[cr]?/\True) (λdS ag=>?_)
 have cV:=FP (w1:=dS) cS (λk hk hl=>(by obtain ⟨m,rfl⟩:=ag;rfl))
 have t:=f.drew ag
 have u:=g.drew ag
 have d:=cT.drew ag
 have a':=CI cU (QL ag)
 refine Aa 0 rfl (.mv rfl) ⟨(t).trans (f).symm,d,(u).trans (g).symm,tT⟩ ?_
 refine Aa 1 rfl (.nck rfl) ⟨(t).trans (f).symm,d,(u).trans (g).symm,tT⟩ ?_
 refine Aa 2 rfl (.fa BW rfl Pf dD rfl) ⟨(t).trans (f).symm,d,(u).trans (g).symm,tT⟩ ?_
 refine C8 3 rfl (λw' hw'=>Af (PE _) rfl ((hw'.1).trans f) rfl) ⟨(t).trans (f).symm,d,(u).trans (g).symm,tT⟩ rfl ?_
 refine C8 4 rfl (λw' hw'=>BD rfl ((hw'.2.2.1).trans g) CQ rfl Cb) ⟨(t).trans (f).symm,d,(u).trans (g).symm,tT⟩ rfl ?_
 refine Aa 5 rfl (.mv rfl) ⟨(t).trans (f).symm,d,(u).trans (g).symm,tT⟩ ?_
 refine Aa 6 rfl (.ixm Gp Fa rfl rfl (d.isp oO) (0) (rfl) oO) ⟨(t).trans (f).symm,d,(u).trans (g).symm,tT⟩ ?_
 refine C8 7 rfl (λw' hw'=>Dy CQ rfl Cb (hw'.2.1) (0) oO rfl) ⟨(t).trans (f).symm,d,(u).trans (g).symm,tT⟩ rfl ?_
 refine Aa 8 rfl (.mv rfl) ⟨(t).trans (f).symm,d,(u).trans (g).symm,tT⟩ ?_
 refine Aa 9 rfl (.ixm Gp Fa rfl rfl (d.isp oO) (1) (rfl) oO) ⟨(t).trans (f).symm,d,(u).trans (g).symm,tT⟩ ?_
 refine C8 10 rfl (λw' hw'=>Dy CQ rfl Cb (hw'.2.1) (1) oO rfl) ⟨(t).trans (f).symm,d,(u).trans (g).symm,tT⟩ rfl ?_
 refine Aq 11 rfl<|As (Pk B pa 4096 vp V.path (V8 V.path).1 ls[0] ls[1] _ (DJ cV)) (λet ah=>?_)
 have bG:=DB t ah.1 t.lt (by simp only [Ax,AK,Cl,not_or,Bh];omega)
 have bH:=DB u ah.1 u.lt (by simp only [Ax,AK,Cl,not_or,Bh];omega)
 have b0:=rk_ d ah.1 (λe=>⟨d.lt e,by (have q:=(a7) e;have q1:=d.lt e;simp only [Ax,AK,Cl,not_or,Bh];omega)⟩)
 have bI:=CI a' (AL.wide ah.1 a'.size (by simp <;> omega))
 obtain ⟨v1,D,T⟩:=ah.2
 have A:=Jh.of (Q:=λw=>CU B w pa 4096 _ v1) D
 have E:=G4.mono T a'.size
 refine A0<|⟨⟨(bG).trans (f).symm,b0,(bH).trans (g).symm,tT⟩,?_⟩
 refine Aq 12 rfl<|By BQ rfl rfl ((IT _ _)) (λdU cv aG N=>?_) (λeu cv aG N=>?_)
 have bT:=kB bI N
 exact AE (DG dU (by rw [hD];exact AF (Gu aG)) (y _ bT))
 have cW:=FP (w1:=cv) A (λk hk hl=>N.block k hl)
 have cX:=bG.bl N
 have cY:=bH.bl N
 have cZ:=Is b0 N (λe=>b0.lt e)
 have c':=kB bI N
 rw [Jy,AQ (GR aG)] at hD
 refine A0<|⟨⟨(cX).trans (f).symm,cZ,(cY).trans (g).symm,tT⟩,?_⟩
 refine Bl kR<|BU (BK rfl ?_)
 exact GX _ _ hD rfl ⟨rfl,aC hO hR c' (DJ cW) E⟩
 have cG:=dF bj
 refine A5<|A1 (.eqs rfl rfl)<|Ab rfl<|Ae rfl (λbk=>?_) (λbk=>?_)
 have d0:=dT bk
 have P:op=[121]:=by assumption
 have hD:=A7H (V:=V) (args:=args)
 rw [<- P] at hD
 refine A5<|A3 rfl<|A3 rfl<|WL.cx BQ rfl rfl ((Fs 4 (ak).get ha oO)) (λdV cw ai a3=>?_) (λdW ev cw ai a3=>?_)
 have bU:=kB a6 a3
 exact AE (DG dV (by rw [hD,AF ai]) (y _ bU))
 have d1:=FP (w1:=cw) am (λk hk hl=>a3.1.block k hl)
 have bJ:=v.bl a3.1
 have b1:=kB a6 a3.1
 obtain ⟨nl,rfl⟩:=eX dW
 obtain ⟨pn,cn,evn,a9,bp,aa,-⟩:=a3.2.row
 subst evn
 have bq:=(FB ai).1
 have ab:=a9.ofI
 rw [AQ ai] at hD
 refine WL.cx BQ rfl rfl ((MK bv ⟨s,fo,sa,pa,b6,it,lo,te,li,ar,itv⟩ pn nl cn 2 _ bJ ab oO oO aa)) (λdX bm J a4=>?_) (λdY ew bm J a4=>?_)
 have bV:=kB b1 a4
 exact AE (DG dX (by rw [hc] at J;rw [hD];exact AF J) (y _ bV))
 have d2:=FP (w1:=bm) d1 (λk hk hl=>a4.1.block k hl)
 have c:=bJ.bl a4.1
 have d3:=kB b1 a4.1
 obtain ⟨ls,rfl⟩:=eX dY
 obtain ⟨pl,cl,evl,l,K,aP,-⟩:=a4.2.row
 subst evl
 have C:=I2 (k:=2) oO J
 rw [hc] at J
 rw [AQ J,OL C (i:=0) dD,OL C (i:=1) dD] at hD
 have a7:0<ls.length->w.heap.size<=(pA pl).block:=λe=>BA b1.size (K _ (l.isp e))
 refine Ab rfl<|DD 15 rfl Ci (λw'=>w'.heap[bv]?=bm.heap[bv]?/\Bi Ep w' pl ls/\True) (λdZ az=>?_)
 have d4:=FP (w1:=dZ) d2 (λk hk hl=>(by obtain ⟨m,rfl⟩:=az;rfl))
 have j:=c.drew az
 have b:=l.drew az
 have b2:=CI d3 (QL az)
 refine Aa 0 rfl (.mv rfl) ⟨(j).trans (c).symm,b,tT⟩ ?_
 refine Aa 1 rfl (.nck rfl) ⟨(j).trans (c).symm,b,tT⟩ ?_
 refine Aa 2 rfl (.fa BW rfl Pf dD rfl) ⟨(j).trans (c).symm,b,tT⟩ ?_
 refine C8 3 rfl (λw' hw'=>Af (PE _) rfl ((hw'.1).trans c) rfl) ⟨(j).trans (c).symm,b,tT⟩ rfl ?_
 refine Aa 4 rfl (.mv rfl) ⟨(j).trans (c).symm,b,tT⟩ ?_
 refine Aa 5 rfl (.ixm Gp Fa rfl rfl (b.isp oO) (0) (rfl) oO) ⟨(j).trans (c).symm,b,tT⟩ ?_
 refine C8 6 rfl (λw' hw'=>Dy CQ rfl Cb (hw'.2.1) (0) oO rfl) ⟨(j).trans (c).symm,b,tT⟩ rfl ?_
 refine Aa 7 rfl (.mv rfl) ⟨(j).trans (c).symm,b,tT⟩ ?_
 refine Aa 8 rfl (.ixm Gp Fa rfl rfl (b.isp oO) (1) (rfl) oO) ⟨(j).trans (c).symm,b,tT⟩ ?_
 refine C8 9 rfl (λw' hw'=>Dy CQ rfl Cb (hw'.2.1) (1) oO rfl) ⟨(j).trans (c).symm,b,tT⟩ rfl ?_
 refine Aa 10 rfl (.mv rfl) ⟨(j).trans (c).symm,b,tT⟩ ?_
 refine Aa 11 rfl (.ixm Gp Fa rfl rfl (b.isp oO) (1) (rfl) oO) ⟨(j).trans (c).symm,b,tT⟩ ?_
 refine C8 12 rfl (λw' hw'=>Dy CQ rfl Cb (hw'.2.1) (1) oO rfl) ⟨(j).trans (c).symm,b,tT⟩ rfl ?_
 refine Aq 13 rfl<|As (Pk B pa 4096 vp V.path ls[0] ls[1] ls[1] _ (DJ d4)) (λex aA=>?_)
 have bK:=DB j aA.1 j.lt (by simp only [Ax,AK,Cl,not_or,Bh];omega)
 have b3:=rk_ b aA.1 (λe=>⟨b.lt e,by (have q:=(a7) e;have q1:=b.lt e;simp only [Ax,AK,Cl,not_or,Bh];omega)⟩)
 have bL:=CI b2 (AL.wide aA.1 b2.size (by simp <;> omega))
 obtain ⟨v1,D,T⟩:=aA.2
 have A:=Jh.of (Q:=λw=>CU B w pa 4096 _ v1) D
 have E:=G4.mono T b2.size
 refine A0<|⟨⟨(bK).trans (c).symm,b3,tT⟩,?_⟩
 refine Aq 14 rfl<|By BQ rfl rfl ((IT _ _)) (λd' cy aH a5=>?_) (λey cy aH a5=>?_)
 have bW:=kB bL a5
 exact AE (DG d' (by rw [hD];exact AF (Gu aH)) (y _ bW))
 have d5:=FP (w1:=cy) A (λk hk hl=>a5.block k hl)
 have d6:=bK.bl a5
 have d7:=Is b3 a5 (λe=>b3.lt e)
 have d8:=kB bL a5
 rw [Jy,AQ (GR aH)] at hD
 refine A0<|⟨⟨(d6).trans (c).symm,d7,tT⟩,?_⟩
 refine Bl kR<|BU (BK rfl ?_)
 exact GX _ _ hD rfl ⟨rfl,aC hO hR d8 (DJ d5) E⟩
 have d0:=dF bk
 refine A5<|A1 (.eqs rfl rfl)<|Ab rfl<|Ae rfl (λbn=>?_) (λbn=>?_)
 have d9:=dT bn
 have P:op=[104]:=by assumption
 have hD:=A7L (V:=V) (args:=args)
 rw [<- P] at hD
 refine A5<|A3 rfl<|WL.cx BQ rfl rfl ((Fs 0 (ak).get ha oO)) (λe0 cz aI aj=>?_) (λez eA cz aI aj=>?_)
 have bX:=kB a6 aj
 exact AE (DG e0 (by rw [hD,AF aI]) (y _ bX))
 have da:=FP (w1:=cz) am (λk hk hl=>aj.1.block k hl)
 have db:=v.bl aj.1
 have b4:=kB a6 aj.1
 rw [AQ aI] at hD
 refine A0<|Ak<|A3 rfl<|A1 (.nck rfl)<|A1 (.fa BW rfl Pf dD rfl)<|Ai (Af (PE _) rfl db rfl)<|As (Pm B pa 4096 vp V.path _ (DJ da)) (λeB bM=>?_)
 have bN:=CI b4 (AL.wide bM.1 b4.size (by simp <;> omega))
 obtain ⟨v1,D,T⟩:=bM.2
 have A:=Jh.of (Q:=λw=>CU B w pa 4096 _ v1) D
 have E:=G4.mono T b4.size
 refine By BQ rfl rfl ((IT _ _)) (λe1 cA aJ aB=>?_) (λeC cA aJ aB=>?_)
 have bY:=kB bN aB
 exact AE (DG e1 (by rw [hD];exact AF (Gu aJ)) (y _ bY))
 have dc:=FP (w1:=cA) A (λk hk hl=>aB.block k hl)
 have dd:=kB bN aB
 rw [Jy,AQ (GR aJ)] at hD
 refine A0<|BU (BK rfl ?_)
 exact GX _ _ hD rfl ⟨rfl,aC hO hR dd (DJ dc) E⟩
 have d9:=dF bn
 have hD:=A64 (V:=V) (args:=args) (op:=op) aS aS aS aS aS aS
 refine Ak<|A3 rfl<|WL.cx BQ rfl rfl ((Ul e ha v hP hc bZ)) (λe2 e3 aK b5=>?_) (λeD eF e3 aK b5=>?_)
 exact AE (DG e2 (by rw [hD,Jy,AF aK]) b5)
 obtain ⟨rfl,hK,v1,D,E⟩:=b5
 rw [Jy,AQ aK] at hD
 refine A0<|BU (BK rfl ?_)
 exact GX _ _ hD rfl ⟨rfl,aC hO hR hK D E⟩
end
end
end Go.Proofs.YthmhfjeojkbpfaaGreatDoor
