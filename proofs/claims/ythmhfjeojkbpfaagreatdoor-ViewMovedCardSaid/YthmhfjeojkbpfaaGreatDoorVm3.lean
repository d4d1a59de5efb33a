/-
  What the claim leans on, part 3: pruned and joined by my own tool out of the texts that stand in wip/ as templates.
-/
import Derived.Test.YthmhfjeojkbpfaaGreatDoorVm2
set_option maxHeartbeats 6400000
set_option maxRecDepth 100000
namespace Go.Proofs.YthmhfjeojkbpfaaGreatDoor
open Go.RowKit
open Go.Proofs.Tryz
variable {aft:Array Edge} {ops:Array Oper} {ats:Array TypeId} {refs:Bool} {R:Ending->World->Prop} {f:Fr} {dx dy fill last:Int} {sum:Int->List UInt8->Int} {ns:List Int} {A s z:List UInt8} {vs xs:List Value} {B N bp bv by' c cc cp d g i id m t t1:Nat} {F1 T Z:Nat->Prop} {x y:Operand} {p pc pp q:Option Addr} {P:Program} {pos:String} {α β:Type} {E e ta tb tx:TypeId} {v v' v1 vp:Value} {w w1 w2:World} {S':World->Prop}
section
def NU (c:UInt8):Int:=match A3x c with | some d=>(d:Int) | none=>-1
theorem K0 (c:UInt8):NU c=-1/\15<Er c\/NU c=Er c/\Er c<16:=by
 unfold NU A3x
 by_cases h:Er c<16
 · rw [A7 h];exact Or.inr ⟨rfl,h⟩
 · rw [A2 h];exact Or.inl ⟨rfl,oO⟩
theorem XR (c:UInt8) (w:World) :
  Calls Tryz.prog 198 #[.int .u8 (c.toNat:Int)] w λe w'=>e=.returned (Ah (NU c))/\w=w':=by
 obtain ⟨R,hR⟩:=eX (NU c)
 rw [<- hR]
 have hR':R=if 48<=c.toNat/\c.toNat<=57 then (c.toNat:Int)-48 else if 97<=c.toNat/\c.toNat<=102 then (c.toNat:Int)-87 else if 65<=c.toNat/\c.toNat<=70 then (c.toNat:Int)-55 else -1:=by
  rw [hR];unfold NU A3x
  by_cases h1:48<=c.toNat/\c.toNat<=57;rw [show Er c=c.toNat-48 by unfold Er;rw [A7 h1],A7 oO,A7 h1];show ((c.toNat-48:Nat):Int)=_;omega
  rw [A2 h1]
  by_cases k:97<=c.toNat/\c.toNat<=102;rw [show Er c=c.toNat-87 by unfold Er;rw [A2 h1,A7 oO],A7 oO,A7 k];show ((c.toNat-87:Nat):Int)=_;omega
  rw [A2 k]
  by_cases h3:65<=c.toNat/\c.toNat<=70;rw [show Er c=c.toNat-55 by unfold Er;rw [A2 h1,A2 oO,A7 oO],A7 oO,A7 h3];show ((c.toNat-55:Nat):Int)=_;omega
  rw [A2 h3,A2];unfold Er;rw [A2 h1]
  split
  omega
  split <;> omega
 refine Av func198 rfl ntmps198<|A5<|Ab rfl<|Aj<|AU<|A5<|A3 rfl<|A1 (.geq rfl rfl)<|A3 rfl<|B5 rfl rfl rfl (λd=>?_) (λd=>?_)
 have B:=dT d
 refine A3 rfl<|Au d<|A1 (.leq rfl rfl)<|A1 (.pkT rfl d rfl)<|Ab rfl<|Ae rfl (λk=>?_) (λk=>?_)
 have C:=dT k
 refine A5<|A3 rfl<|A1 (.sub rfl rfl (Un oO))<|A1 (.cvt Ln JL rfl (Bn oO))<|Ab rfl<|AI ?_
 exact ⟨El (by rw [hR'];(repeat' split) <;> omega),rfl⟩
 have C:=dF k
 refine A5<|A3 rfl<|A1 (.geq rfl rfl)<|A3 rfl<|B5 rfl rfl rfl (λf=>?_) (λf=>?_)
 have D:=dT f
 refine A3 rfl<|Au f<|A1 (.leq rfl rfl)<|A1 (.pkT rfl f rfl)<|Ab rfl<|Ae rfl (λq=>?_) (λq=>?_)
 have E:=dT q
 refine A5<|A3 rfl<|A1 (.sub rfl rfl (Un oO))<|A1 (.cvt Ln JL rfl (Bn oO))<|A1 (.add rfl rfl (Bn oO))<|Ab rfl<|AI ?_
 exact ⟨El (by rw [hR'];(repeat' split) <;> omega),rfl⟩
 have E:=dF q
 refine A5<|A3 rfl<|A1 (.geq rfl rfl)<|A3 rfl<|B5 rfl rfl rfl (λg=>?_) (λg=>?_)
 have F:=dT g
 refine A3 rfl<|Au g<|A1 (.leq rfl rfl)<|A1 (.pkT rfl g rfl)<|Ab rfl<|Ae rfl (λs=>?_) (λs=>?_)
 have G:=dT s
 refine A5<|A3 rfl<|A1 (.sub rfl rfl (Un oO))<|A1 (.cvt Ln JL rfl (Bn oO))<|A1 (.add rfl rfl (Bn oO))<|Ab rfl<|AI ?_
 exact ⟨El (by rw [hR'];(repeat' split) <;> omega),rfl⟩
 have G:=dF s
 refine Ap<|A5<|Ab rfl<|AI ?_
 exact ⟨El (by rw [hR'];(repeat' split) <;> omega),rfl⟩
 have F:=dF g
 refine Ac g<|A1 (.pkF rfl g rfl)<|Ab rfl<|E4 rfl rfl<|Ap<|A5<|Ab rfl<|AI ?_
 exact ⟨El (by rw [hR'];(repeat' split) <;> omega),rfl⟩
 have D:=dF f
 refine Ac f<|A1 (.pkF rfl f rfl)<|Ab rfl<|E4 rfl rfl<|A5<|A3 rfl<|A1 (.geq rfl rfl)<|A3 rfl<|B5 rfl rfl rfl (λi=>?_) (λi=>?_)
 have H:=dT i
 refine A3 rfl<|Au i<|A1 (.leq rfl rfl)<|A1 (.pkT rfl i rfl)<|Ab rfl<|Ae rfl (λt=>?_) (λt=>?_)
 have J:=dT t
 refine A5<|A3 rfl<|A1 (.sub rfl rfl (Un oO))<|A1 (.cvt Ln JL rfl (Bn oO))<|A1 (.add rfl rfl (Bn oO))<|Ab rfl<|AI ?_
 exact ⟨El (by rw [hR'];(repeat' split) <;> omega),rfl⟩
 have J:=dF t
 refine Ap<|A5<|Ab rfl<|AI ?_
 exact ⟨El (by rw [hR'];(repeat' split) <;> omega),rfl⟩
 have H:=dF i
 refine Ac i<|A1 (.pkF rfl i rfl)<|Ab rfl<|E4 rfl rfl<|Ap<|A5<|Ab rfl<|AI ?_
 exact ⟨El (by rw [hR'];(repeat' split) <;> omega),rfl⟩
 have B:=dF d
 refine Ac d<|A1 (.pkF rfl d rfl)<|Ab rfl<|E4 rfl rfl<|A5<|A3 rfl<|A1 (.geq rfl rfl)<|A3 rfl<|B5 rfl rfl rfl (λj=>?_) (λj=>?_)
 have K:=dT j
 refine A3 rfl<|Au j<|A1 (.leq rfl rfl)<|A1 (.pkT rfl j rfl)<|Ab rfl<|Ae rfl (λl=>?_) (λl=>?_)
 have u:=dT l
 refine A5<|A3 rfl<|A1 (.sub rfl rfl (Un oO))<|A1 (.cvt Ln JL rfl (Bn oO))<|A1 (.add rfl rfl (Bn oO))<|Ab rfl<|AI ?_
 exact ⟨El (by rw [hR'];(repeat' split) <;> omega),rfl⟩
 have u:=dF l
 refine A5<|A3 rfl<|A1 (.geq rfl rfl)<|A3 rfl<|B5 rfl rfl rfl (λa=>?_) (λa=>?_)
 have v:=dT a
 refine A3 rfl<|Au a<|A1 (.leq rfl rfl)<|A1 (.pkT rfl a rfl)<|Ab rfl<|Ae rfl (λm=>?_) (λm=>?_)
 have x:=dT m
 refine A5<|A3 rfl<|A1 (.sub rfl rfl (Un oO))<|A1 (.cvt Ln JL rfl (Bn oO))<|A1 (.add rfl rfl (Bn oO))<|Ab rfl<|AI ?_
 exact ⟨El (by rw [hR'];(repeat' split) <;> omega),rfl⟩
 have x:=dF m
 refine Ap<|A5<|Ab rfl<|AI ?_
 exact ⟨El (by rw [hR'];(repeat' split) <;> omega),rfl⟩
 have v:=dF a
 refine Ac a<|A1 (.pkF rfl a rfl)<|Ab rfl<|E4 rfl rfl<|Ap<|A5<|Ab rfl<|AI ?_
 exact ⟨El (by rw [hR'];(repeat' split) <;> omega),rfl⟩
 have K:=dF j
 refine Ac j<|A1 (.pkF rfl j rfl)<|Ab rfl<|E4 rfl rfl<|A5<|A3 rfl<|A1 (.geq rfl rfl)<|A3 rfl<|B5 rfl rfl rfl (λb=>?_) (λb=>?_)
 have y:=dT b
 refine A3 rfl<|Au b<|A1 (.leq rfl rfl)<|A1 (.pkT rfl b rfl)<|Ab rfl<|Ae rfl (λo=>?_) (λo=>?_)
 have A:=dT o
 refine A5<|A3 rfl<|A1 (.sub rfl rfl (Un oO))<|A1 (.cvt Ln JL rfl (Bn oO))<|A1 (.add rfl rfl (Bn oO))<|Ab rfl<|AI ?_
 exact ⟨El (by rw [hR'];(repeat' split) <;> omega),rfl⟩
 have A:=dF o
 refine Ap<|A5<|Ab rfl<|AI ?_
 exact ⟨El (by rw [hR'];(repeat' split) <;> omega),rfl⟩
 have y:=dF b
 refine Ac b<|A1 (.pkF rfl b rfl)<|Ab rfl<|E4 rfl rfl<|Ap<|A5<|Ab rfl<|AI ?_
 exact ⟨El (by rw [hR'];(repeat' split) <;> omega),rfl⟩
theorem Pe (k:Int) (s:l8_) (w:World) (hs:s.length<=100000000) :
  Calls Tryz.prog 155 #[Ah k,.string (bs s)] w (Ct 30 (if 127<s.length then .error 9 else .ok (⟨k,0,s⟩:Ka)) Ka.val (λ_ w'=>AD w w') (λw'=>AD w w')):=by
 refine Av func155 rfl ntmps155 ?_
 have g:=DR w
 refine A5<|C1 J0 rfl (λt q i b c m=>?_)
 have a:=uB g i c
 refine A0<|Aj<|A5<|A3 rfl<|A1 (.len JK rfl)<|A1 (.gtr rfl rfl)<|A0<|Ae rfl (λd=>?_) (λd=>?_)
 have j:=dT d
 refine Ak<|A1 (.mkI Mc rfl)<|FE rfl (AE ?_)
 exact BB 9 (by rw [A7 oO]) a
 have j:=dF d
 refine Ap<|A5<|A3 rfl<|A3 rfl<|?_
 refine A1 (.buildL (ps:=_) Jt rfl rfl rfl pS) ?_
 refine AH rfl rfl b BG rfl rfl (λu e f o=>?_)
 have l:=CP a oO f
 refine A0<|B2 (Ch rfl rfl (BF e Eo rfl BG)  ?_)
 exact Ct.ok ⟨k,0,s⟩ (by rw [A2 oO]) rfl l
theorem JO (p:Option Addr) (s:l8_) (c:Nat) (w:World) (hb:Ay w p s) (hs:s.length<=100000000) :
  Calls Tryz.prog 180 #[.slice p s.length c] w (Ct 30 (if 65535<s.length then .error 9 else .ok (⟨6,0,s⟩:Ka)) Ka.val (λ_ w'=>AD w w') (λw'=>AD w w')):=by
 refine Av func180 rfl ntmps180 ?_
 have k:=DR w
 refine A5<|C1 J0 rfl (λy x b e a t=>?_)
 have f:=λu=>b▸hb.lt u
 have m:=DQ hb a f
 have d:=uB k b a
 refine A0<|Aj<|A5<|A3 rfl<|A1 (.lenS BI rfl)<|A1 (.gtr rfl rfl)<|A0<|Ae rfl (λg=>?_) (λg=>?_)
 have o:=dT g
 refine Ak<|A1 (.mkI Mc rfl)<|FE rfl (AE ?_)
 exact BB 9 (by rw [A7 oO]) d
 have o:=dF g
 refine Ap<|A5<|A3 rfl<|Ai (MG (l:=s) BI Ln JK rfl (m))<|?_
 refine A1 (.buildL (ps:=_) Jt rfl rfl rfl pS) ?_
 refine AH rfl rfl e BG rfl rfl (λA i j v=>?_)
 have q:=CP d oO j
 refine A0<|B2 (Ch rfl rfl (BF i Eo rfl BG)  ?_)
 exact Ct.ok ⟨6,0,s⟩ (by rw [A2 oO]) rfl q
def Y1 (l:l8_) (t:Nat):Bool:=decide (t<l.length) && E1 l[t]!
theorem A7b {l:l8_} (h:Y1 l t=true):t<l.length/\C0 l t=C0 l (t+1):=by
 unfold Y1 at h
 simp only [A4,Ad] at h
 obtain ⟨a,b⟩:=h
 rw [getElem!_pos l t a] at b
 refine ⟨a,?_⟩
 unfold C0
 rw [GQ E1 l t a,A7 b,A8];omega
theorem A7c {l:l8_} (h:Y1 l t=false):C0 l t=t:=by
 unfold C0
 by_cases h1:t<l.length
 ·
  unfold Y1 at h
  rw [Al h1,BV,getElem!_pos l t h1] at h
  rw [GQ E1 l t h1,A2 (bF h)];rfl
 · rw [Bf oO];rfl
theorem A0D (x:UInt8) (w:World) (m:Nat):Calls Tryz.prog 182 #[.int .u8 (x.toNat:Int)] (w.drewN m) λe w'=>e=.returned (.bool (E1 x))/\∃ k,w'=w.drewN k :=
 (Uw x (w.drewN m)).mono λe w' h=>⟨h.1,m,h.2.symm⟩
theorem Pd (r:Nat) (p:Option Addr) (l:l8_) (c a:Nat) (w:World) (h:JJ w r p l c a) (hne:0<l.length->(pA p).block≠r) (hc:l.length<=c) (hl:l.length<=100000000) (ha:a<=l.length) :
  Calls Tryz.prog 154 #[ptV r] w λe w'=>e=.returned (.string (bs ((l.drop a).takeWhile E1)))/\JJ w' r p l c (C0 l a)/\Bo w.heap.size r w w':=by
 have hr:=h.1
 refine Av func154 rfl ntmps154<|A5<|Ab rfl<|A5<|A3 rfl<|A1 (.nck rfl)<|A1 (.fa DI rfl B6 dD rfl)<|Ai (Af (BE _) rfl hr rfl)<|Ab rfl<|Aj<|AU<|Cf (α:=Nat) (λt=>[(0,ptV r),(3,Ah (a:Int))]) (λt w'=>JJ w' r p l c t/\Bo w.heap.size r w w'/\a<=t/\t<=l.length/\C0 l t=C0 l a) (λt=>l.length-t) (a) ⟨rfl,rfl,tT⟩ (⟨h,Bo.refl _ _ _,FQ _,ha,rfl⟩) (λt J hR=>?_)
 obtain ⟨d,hT,u,ht,hw⟩:=hR
 refine Aj<|N7 22 (Y1 l t) ?_ (λJ o=>?_)
 refine Eg Ci kR<|AA (.mv rfl) rfl<|WQ.c1 BQ rfl rfl (λm=>(UQ r p l c t _ ⟨d.1,d.2⟩ m))<|AA (.mv rfl) rfl<|MD rfl rfl rfl (λb=>?_) (λb=>?_)
 have C:=dT b
 refine AA (.mv rfl) rfl<|C5 rfl rfl rfl b<|AA (.nck rfl) rfl<|C5 rfl rfl rfl b<|AA (.fa DI rfl Gr dD rfl) rfl<|C5 rfl rfl rfl b<|Du (λm=>Af (g22_ _) rfl d.1 rfl) rfl<|C5 rfl rfl rfl b<|AA (.mv rfl) rfl<|C5 rfl rfl rfl b<|AA (.nck rfl) rfl<|C5 rfl rfl rfl b<|AA (.fa DI rfl B6 dD rfl) rfl<|C5 rfl rfl rfl b<|Du (λm=>Af (BE _) rfl d.1 rfl) rfl<|C5 rfl rfl rfl b<|AA (.ixb BI Iy rfl rfl (d.2.isp oO) (t) oO oO) rfl<|C5 rfl rfl rfl b<|Du (λm=>AS (P3 _) rfl ((d.2.drewN m).cells (t) oO)) rfl<|C5 rfl rfl rfl b<|WQ.c1 BQ rfl rfl (λm=>(A0D _ _ m))<|AA (.pkT rfl b rfl) rfl<|Dk (λN D=>?_)
 exact ⟨Gm (CD rfl (by (by_cases hq:t<l.length) <;> (unfold Y1;first | (exfalso;omega) | (rw [getElem!_pos l t hq,Al hq];rfl) | (rw [An hq];simp_all;done)))),D⟩
 have C:=dF b
 refine Bj rfl rfl rfl b<|Bj rfl rfl rfl b<|Bj rfl rfl rfl b<|Bj rfl rfl rfl b<|Bj rfl rfl rfl b<|Bj rfl rfl rfl b<|Bj rfl rfl rfl b<|Bj rfl rfl rfl b<|Bj rfl rfl rfl b<|Bj rfl rfl rfl b<|AA (.pkF rfl b rfl) rfl<|Dk (λP E=>?_)
 exact ⟨Gm (CD rfl (by (by_cases hq:t<l.length) <;> (unfold Y1;first | (exfalso;omega) | (rw [getElem!_pos l t hq,Al hq];rfl) | (rw [An hq];simp_all;done)))),E⟩
 have g:=d.1.drew o
 have j:=d.2.drew o
 have q:=BY hT (Ob o)
 refine Ae rfl (λF=>?_) (λF=>?_)
 obtain ⟨s,K⟩:=A7b aS
 refine Ap<|AU<|Ak<|A3 rfl<|A1 (.nck rfl)<|A1 (.fa DI rfl B6 dD rfl)<|Ai (Af (BE _) rfl g rfl)<|A1 (.iis (((t+1:Nat):Int)) (.add rfl rfl (Bn oO)) oO)<|A1 (.nck rfl)<|A1 (.fa DI rfl B6 dD rfl)<|WL.st B6 rfl rfl rfl g (by exact Nat.le_of_ble_eq_true rfl) (λG i f H=>?_)
 have i:Be G r _ _:=i
 have f:E6 r _ _:=f
 have v:=Ay.upd j f hne
 have x:=BY q (BX f)
 refine A0<|?_
 exact ⟨t+1,⟨rfl,rfl,tT⟩,⟨⟨i,v⟩,x,oO,oO,oO⟩,oO⟩
 have s:=A7c aS
 refine C7<|Aj<|Eg Ci kR<|AA (.mv rfl) rfl<|AA (.nck rfl) rfl<|AA (.fa DI rfl Gr dD rfl) rfl<|Du (λm=>Af (g22_ _) rfl g rfl) rfl<|AA (.mv rfl) rfl<|AA (.mv rfl) rfl<|AA (.nck rfl) rfl<|AA (.fa DI rfl B6 dD rfl) rfl<|Du (λm=>Af (BE _) rfl g rfl) rfl<|AA (.slb BI Iy rfl rfl rfl  (a) (t) (rfl) (rfl) (u) oO) rfl<|Du (λm=>O0 BI Ln JK rfl rfl (j.drewN m) u ht hc) rfl<|AA (.as rfl) rfl<|Dk (λL k=>?_)
 have y:=g.drew k
 have A:=j.drew k
 have B:=BY q (Ob k)
 refine AI ?_
 exact ⟨Cv (by rw [<- Ti,<- hw,s]),⟨by rw [<- hw,s];exact y,A⟩,B⟩
theorem Pw {k e:Int} {l:l8_} (h:(if 127<(l.takeWhile E1).length then (.error 9:Except Int Ka) else .ok ⟨k,0,l.takeWhile E1⟩)=.error e):J9 k l=.error e:=by
 unfold J9
 split at h
 · next h1=>rw [A7 h1];cases h;rfl
 · cases h
theorem RN {k:Int} {l:l8_} {a:Ka} (h:(if 127<(l.takeWhile E1).length then (.error 9:Except Int Ka) else .ok ⟨k,0,l.takeWhile E1⟩)=.ok a):J9 k l=.ok (a,l.dropWhile E1):=by
 unfold J9
 split at h
 · cases h
 · next h1=>rw [A2 h1];cases h;rfl
theorem R1 (l:l8_) (t:Nat):((l.drop t).takeWhile E1).length<=l.length:=by
 have:=(List.takeWhile_sublist E1 (l:=l.drop t)).length_le
 rw [B9] at this;omega
def A4y (w0:World) (r:Nat) (p:Option Addr) (l:l8_) (c:Nat) (a:Ka × l8_) (w':World):Prop:=∃ k,a.2=l.drop k/\k<=l.length/\JJ w' r p l c k/\Bo w0.heap.size r w0 w'
theorem XP (r:Nat) (p:Option Addr) (l:l8_) (c t:Nat) (w:World) (h:JJ w r p l c t) (hne:0<l.length->(pA p).block≠r) (hc:l.length<=c) (hl:l.length<=100000000) (ht:t<=l.length) :
  Calls Tryz.prog 153 #[ptV r] w (Ct 30 (Mf (l.drop t)) (λa=>a.1.val) (A4y w r p l c) (λw'=>Bo w.heap.size r w w')):=by
 have hr:=h.1
 have hb:=h.2
 have hy:=A2q (l:=l) (s:=t) (d:=(l[t]?).getD 0) rfl
 refine Av func153 rfl ntmps153 ?_
 have R:=Bo.refl (w.heap.size) r w
 refine A5<|C1 J0 rfl (λb1 ax D E v aw=>?_)
 have ae:=Bx D hr.lt
 have af:=hr.un v ae
 have y:=λF=>D▸hb.lt F
 have ag:=DQ hb v y
 have O:=DW D R.size
 have T:=BY R (EH v O)
 refine A0<|Aj<|A5<|A3 rfl<|As (MR r p l c t 47 _ ⟨af,ag⟩ hne hl ht) (λw7 A=>?_)
 have B:=A.1.1
 have C:=Iw E A.2 E.lt oO
 have G:=A.1.2
 have f:=BY T (Gq A.2 T.size)
 refine A0<|Ae rfl (λah=>?_) (λah=>?_)
 obtain ⟨ai,aj⟩:=QH (x:=47) aS
 rw [A7 aS] at B
 rw [A7 (by rw [A6 ai,aj];rfl)] at hy
 refine A5<|A3 rfl<|As (Pd r p l c (t+1) _ ⟨B,G⟩ hne hc hl oO) (λay g=>?_)
 have U:=g.1.1
 have V:=Iw C g.2 C.lt oO
 have H:=g.1.2
 have i:=BY f (Gq g.2 f.size)
 refine By BQ rfl rfl ((Pe 5 _ _ (by have:=R1 l (t+1);omega))) (λak am j b=>?_) (λan am j b=>?_)
 have J:=BY i (Gq (JM b) i.size)
 exact AE (BB ak (by rw [hy];exact Pw j) J)
 have X:=U.bl b
 have Y:=V.bl b
 have Z:=Hk H b (λF=>H.lt F)
 have a1:=BY i (Gq (JM b) i.size)
 obtain ⟨a0,ao⟩:=eX an
 have K:=j
 refine AH rfl rfl Y BG rfl rfl (λaz P k au=>?_)
 have a2:=X.up k
 have a3:=DQ Z k y
 have a4:=BY a1 (EH k oO)
 refine A0<|B2 (Ch rfl rfl (BF P Eo rfl BG)  ?_)
 exact Ct.ok (_,l.drop (C0 l (t+1))) (by rw [hy,RN K,MI]) rfl ⟨_,rfl,(Fy l (t+1) oO).2,⟨a2,a3⟩,a4⟩
 rw [A2 (bF aS)] at B
 rw [A2 (by
  by_cases hq:t<l.length;rw [A6 hq];exact UM (x:=47) aS hq;rw [AO oO];decide)] at hy
 refine Ap<|A5<|A3 rfl<|As (Pd r p l c t _ ⟨B,G⟩ hne hc hl oO) (λaA m=>?_)
 have a5:=m.1.1
 have a6:=Iw C m.2 C.lt oO
 have L:=m.1.2
 have o:=BY f (Gq m.2 f.size)
 refine By BQ rfl rfl ((Pe 4 _ _ (by have:=R1 l t;omega))) (λap aq q e=>?_) (λar aq q e=>?_)
 have N:=BY o (Gq (JM e) o.size)
 exact AE (BB ap (by rw [hy];exact Pw q) N)
 have a7:=a5.bl e
 have a8:=a6.bl e
 have a9:=Hk L e (λF=>L.lt F)
 have aa:=BY o (Gq (JM e) o.size)
 obtain ⟨a0,ao⟩:=eX ar
 have K:=q
 refine AH rfl rfl a8 BG rfl rfl (λaB Q u av=>?_)
 have ab:=a7.up u
 have ac:=DQ a9 u y
 have ad:=BY aa (EH u oO)
 refine A0<|B2 (Ch rfl rfl (BF Q Eo rfl BG)  ?_)
 exact Ct.ok (_,l.drop (C0 l t)) (by rw [hy,RN K,MI]) rfl ⟨_,rfl,(Fy l t oO).2,⟨ab,ac⟩,ad⟩
end
section
theorem A6A (h d:Nat) (hh:h<16) (hd:d<16):bits .or .i64 ((h:Int) * 16) (d:Int)=(h:Int) * 16+d:=by
 have key:∀ h d:Fin 16,bits .or .i64 ((h.1:Int) * 16) (d.1:Int)=(h.1:Int) * 16+d.1:=by decide +kernel
 exact key ⟨h,hh⟩ ⟨d,hd⟩
theorem BM.shl4  {ty:TypeId} {a:Int} (hx:D3 f x=some (Ah a)) (r:Int) (hr:IntKind.i64.wrap (a * 16)=r):BM P (.binOp .shl tx x (.const (.int .u64 4)) ty) f (Ah r):=λρ hρ d ty' pos aft g w=>by
 have h4:ρ (.const (.int .u64 4))=.int .u64 4:=hρ _ _ rfl
 simp [execOp,hρ _ _ hx,h4,eqGuard,binOp,shift_shl_i64,hr]
theorem BM.or  {k:IntKind} {ty:TypeId} {a b r:Int} (hx:D3 f x=some (.int k a)) (hy:D3 f y=some (.int k b)) (hr:bits .or k a b=r):BM P (.binOp .or tx x y ty) f (.int k r):=λρ hρ d ty' pos aft g w=>by
 simp [execOp,hρ _ _ hx,hρ _ _ hy,eqGuard,binOp,intBits_or,hr]
theorem IG {l:l8_} {k:Int} (h:R7 l t=.error k):l.length<=t/\k=14:=by
 unfold R7 at h
 split at h
 · cases h
 · next h1=>cases h;exact ⟨List.getElem?_eq_none_iff.1 h1,rfl⟩
theorem Oc {l:l8_} {x:UInt8} (h:R7 l t=.ok x):∃ ht:t<l.length,x=l[t]'ht:=by
 unfold R7 at h
 split at h
 · next h1=>cases h;obtain ⟨a,b⟩:=C2.1 h1;exact ⟨a,b.symm⟩
 · cases h
theorem P9 {e:Int} {r:l8_} (h:(if 65535<s.length then (.error 9:Except Int Ka) else .ok ⟨6,0,s⟩)=.error e):HZ (some (s,r))=.error e:=by
 simp only [HZ]
 split at h
 · next h1=>rw [A7 h1];cases h;rfl
 · cases h
theorem R6  {r:l8_} {a:Ka} (h:(if 65535<s.length then (.error 9:Except Int Ka) else .ok ⟨6,0,s⟩)=.ok a):HZ (some (s,r))=.ok (a,r):=by
 simp only [HZ]
 split at h
 · cases h
 · next h1=>rw [A2 h1];cases h;rfl
theorem A2w (r:Nat) (p:Option Addr) (l:l8_) (c t:Nat) (w:World) (h:JJ w r p l c t) (hne:0<l.length->(pA p).block≠r) (hc:l.length<=c) (hl:l.length<=100000000) (ht:t<=l.length) :
  Calls Tryz.prog 181 #[ptV r] w (Ct 30 (HZ (Mw none [] (l.drop t))) (λa=>a.1.val) (A4y w r p l c) (λw'=>Bo w.heap.size r w w')):=by
 have hr:=h.1
 have hb:=h.2
 obtain ⟨R,hR⟩:=eX (Mw none [] (l.drop t))
 rw [<- hR]
 obtain ⟨a,rfl⟩:=eX t
 refine Av func181 rfl ntmps181 ?_
 have ar:=Bo.refl (w.heap.size) r w
 refine A5<|C1 J0 rfl (λb1 bH V av T bD=>?_)
 have bb:=Bx V hr.lt
 have bc:=hr.un T bb
 have U:=λC=>V▸hb.lt C
 have bd:=DQ hb T U
 have ag:=DW V ar.size
 have be:=BY ar (EH T ag)
 refine A0<|Aj ?_
 have au:0<l.length->(pA p).block<b1+1:=λC=>by have:=hb.lt C;omega
 refine Ak<|Ab rfl<|A5<|Ab rfl<|Aj<|AU<|Cf (α:=Value × l8_ × Option Nat × Nat) (λt=>[(0,ptV r),(2,ptV b1),(3,t.1),(4,Ah (Yv t.2.2.1))]) (λt w'=>JJ w' r p l c t.2.2.2/\Bo w.heap.size r w w'/\Be w' b1 #[Ah 0,Ah 0,.string ⟨#[]⟩] 147/\Cq 5 (b1+1) w' t.1 (Az t.2.1)/\Mw t.2.2.1 t.2.1 (l.drop t.2.2.2)=R/\(∀ x,t.2.2.1=some x->x<16)/\t.2.1.length<=t.2.2.2/\t.2.2.2<=l.length) (λt=>l.length-t.2.2.2) ((.slice none 0 0,[],none,a)) ⟨rfl,rfl,rfl,rfl,tT⟩ (⟨⟨bc,bd⟩,be,av,Cq.nil _ _ _,hR.symm,λx hx=>(by cases hx),G8 _,ht⟩) (λt w1 hR=>?_)
 obtain ⟨v,o,h,s⟩:=t
 obtain ⟨X,hT,Y,a1,hw,H,bf,hs⟩:=hR
 simp only at X hT Y a1 hw H bf hs ⊢
 refine AU<|A5<|A3 rfl<|By BQ rfl rfl ((MQ r p l c s _ ⟨X.1,X.2⟩ hne hl)) (λk9 w7 J D=>?_) (λa8 w7 J D=>?_)
 have ah:=BY hT (Gq D hT.size)
 exact AE (BB k9 (by rw [(IG J).2,<- hw,Bf (IG J).1];(first | done | rfl)) ah)
 have E:=IP a1 D.2 oO
 have f:=D.1.1
 have g:=Iw Y D.2 Y.lt oO
 have e:=D.1.2
 have b:=BY hT (Gq D.2 hT.size)
 obtain ⟨bg,hx⟩:=Oc J
 obtain ⟨x,bh⟩:=eX a8
 rw [<- bh] at hx ⊢
 have i:=A1e h o l s bg
 rw [<- hx] at i
 refine Ab rfl<|Aj<|A5<|A3 rfl<|As (NA x _) (λbI aw=>?_)
 obtain rfl:=aw
 refine A0<|Ae rfl (λbi=>?_) (λbi=>?_)
 refine C7 ?_
 exact ⟨(_,o,h,s+1),⟨rfl,rfl,rfl,rfl,tT⟩,⟨⟨f,e⟩,b,g,E,(by rw [<- hw,i,A7 aS]),H,oM,oM⟩,oM⟩
 refine Ap<|Aj<|A5<|A3 rfl<|A1 (.eql rfl rfl)<|A0<|Ae rfl (λa2=>?_) (λa2=>?_)
 have ax:=dT a2
 refine C7<|Aj<|A5<|A3 rfl<|A1 (.geq rfl rfl)<|A0<|Ae rfl (λa3=>?_) (λa3=>?_)
 have ay:=dT a3
 obtain ⟨y,rfl⟩:∃ y,h=some y:=by cases h with | none=>exfalso;have:Yv none=-1:=rfl;omega | some y=>exact ⟨y,rfl⟩
 have hy:=H y rfl
 have bj:Yv (some y)=(y:Int):=rfl
 refine Ak<|A3 rfl<|A3 rfl<|A1 (.iis ((y:Int) * 16) (.shl4 rfl _ (Bn oO)) oO)<|A1 (.cvt JL Ln rfl (Un oO))<|CF (ps:=_) BI Iy Qk rfl rfl rfl rfl rfl pR rfl (λbJ bE F ai j bw=>?_)
 have az:=Cq.new E F j
 have aA:=Bx F f.lt
 have aB:=f.un j aA
 have aC:=Bx F g.lt
 have a4:=g.un j aC
 have aj:=λC=>F▸e.lt C
 have aD:=DQ e j aj
 have a5:=DW F b.size
 have aE:=BY b (EH j a5)
 refine EP BI GB rfl rfl rfl az rfl ai rfl (by rw [Bc];omega) (a4.lt) rfl (λbK bL ak A bx=>?_)
 have aF:=aB.below A oO
 have aG:=a4.below A oO
 have a6:=Hk aD A au
 have K:=BY aE (JM (A.mono oO))
 have aH:=ED ak (ch ((y * 16:Nat):Int)) (by rw [K2 _ oO oO];omega)
 refine Ab rfl<|Aj ?_
 obtain ⟨q,cq,rfl,a7,bk⟩:=Cq.bytes aH
 refine Ak<|A3 rfl<|By BQ rfl rfl ((JO q _ cq _ a7 (by (simp only [A9,A8,Ag];omega)))) (λbm bn L m=>?_) (λbo bn L m=>?_)
 have a9:=BY K (Gq (JM m) K.size)
 exact AE (BB bm (by rw [<- hw,i,A2 (bF aS),A7 (CH (d:=62) aS)];exact P9 L) a9)
 have aI:=aF.bl m
 have aJ:=aG.bl m
 have aK:=Hk a6 m (λC=>a6.lt C)
 have aL:=BY K (Gq (JM m) K.size)
 obtain ⟨a0,bp⟩:=eX bo
 have aa:=L
 refine AH rfl rfl aJ BG rfl rfl (λbM am N bz=>?_)
 have aM:=aI.up N
 have aN:=DQ aK N U
 have aO:=BY aL (EH N oO)
 refine A0<|B2 (Ch rfl rfl (BF am Eo rfl BG)  ?_)
 exact Ct.ok (_,l.drop (s+1)) (by rw [<- hw,i,A2 (bF aS),A7 (CH (d:=62) aS)];exact R6 aa) rfl ⟨_,rfl,oO,⟨aM,aN⟩,aO⟩
 have ay:=dF a3
 obtain rfl:h=none:=by cases h with | none=>rfl | some y=>exfalso;have:Yv (some y)=(y:Int):=rfl;omega
 refine Ap<|Aj ?_
 obtain ⟨q,cq,rfl,a7,bk⟩:=Cq.bytes E
 refine Ak<|A3 rfl<|By BQ rfl rfl ((JO q _ cq _ a7 oO)) (λbq bt P u=>?_) (λbu bt P u=>?_)
 have ab:=BY b (Gq (JM u) b.size)
 exact AE (BB bq (by rw [<- hw,i,A2 (bF aS),A7 (CH (d:=62) aS)];exact P9 P) ab)
 have aP:=f.bl u
 have aQ:=g.bl u
 have aR:=Hk e u (λC=>e.lt C)
 have aT:=BY b (Gq (JM u) b.size)
 obtain ⟨a0,bp⟩:=eX bu
 have aa:=P
 refine AH rfl rfl aQ BG rfl rfl (λbN an Q bA=>?_)
 have aU:=aP.up Q
 have aV:=DQ aR Q U
 have aW:=BY aT (EH Q oO)
 refine A0<|B2 (Ch rfl rfl (BF an Eo rfl BG)  ?_)
 exact Ct.ok (_,l.drop (s+1)) (by rw [<- hw,i,A2 (bF aS),A7 (CH (d:=62) aS)];exact R6 aa) rfl ⟨_,rfl,oO,⟨aU,aV⟩,aW⟩
 have ax:=dF a2
 refine Ap<|A5<|A3 rfl<|As (XR x _) (λbO aX=>?_)
 obtain rfl:=aX
 have bv:=K0 x
 refine Ab rfl<|AU<|A5<|A3 rfl<|A1 (.lss rfl rfl)<|Ab rfl<|Ae rfl (λac=>?_) (λac=>?_)
 have aY:=dT ac
 refine Ak<|A1 (.mkI Mc rfl)<|FE rfl (AE ?_)
 exact BB 14 (by rw [<- hw,i,A2 (bF aS),A2 (DH (d:=62) aS),A7 oO];(first | done | rfl)) b
 have aY:=dF ac
 refine A5<|A3 rfl<|A1 (.lss rfl rfl)<|Ab rfl<|Ae rfl (λad=>?_) (λad=>?_)
 have aZ:=dT ad
 obtain rfl:h=none:=by cases h with | none=>rfl | some y=>exfalso;have:Yv (some y)=(y:Int):=rfl;omega
 refine Ak<|A3 rfl<|Ab rfl ?_
 exact ⟨(_,o,some (Er x),s+1),⟨rfl,rfl,rfl,M5 rfl (by show NU x=(Er x:Int);omega),tT⟩,⟨⟨f,e⟩,b,g,E,(by rw [<- hw,i,A2 (bF aS),A2 (DH (d:=62) aS),A2 oO]),λz hz=>(by obtain rfl:=Ei hz;omega),oM,oM⟩,oM⟩
 have aZ:=dF ad
 obtain ⟨y,rfl⟩:∃ y,h=some y:=by cases h with | none=>exfalso;have:Yv none=-1:=rfl;omega | some y=>exact ⟨y,rfl⟩
 have hy:=H y rfl
 have bj:Yv (some y)=(y:Int):=rfl
 refine A5<|A3 rfl<|A3 rfl<|A1 (.iis ((y:Int) * 16) (.shl4 rfl _ (Bn oO)) oO)<|A3 rfl<|A1 (.or rfl rfl (show bits .or .i64 ((y:Int) * 16) (NU x)=(y:Int) * 16+(Er x:Int) by rw [(bv.resolve_left (λh=>by have:=h.1;omega)).1];exact A6A _ _ hy oO))<|A1 (.cvt JL Ln rfl (Un oO))<|CF (ps:=_) BI Iy Qk rfl rfl rfl rfl rfl pR rfl (λbP bG G ao k bB=>?_)
 have a':=Cq.new E G k
 have b0:=Bx G f.lt
 have b2:=f.un k b0
 have b3:=Bx G g.lt
 have ae:=g.un k b3
 have ap:=λC=>G▸e.lt C
 have b4:=DQ e k ap
 have af:=DW G b.size
 have b5:=BY b (EH k af)
 refine EP BI GB rfl rfl rfl a' rfl ao rfl (by rw [Bc];omega) (ae.lt) rfl (λbQ bR aq B bC=>?_)
 have b6:=b2.below B oO
 have b7:=ae.below B oO
 have b8:=Hk b4 B au
 have b9:=BY b5 (JM (B.mono oO))
 have ba:=ED aq (ch ((y * 16+Er x:Nat):Int)) (by rw [K2 _ oO oO];omega)
 refine Ab rfl<|Ak<|Ab rfl ?_
 exact ⟨(_,o++[_],none,s+1),⟨rfl,rfl,rfl,rfl,tT⟩,⟨⟨b6,b8⟩,b9,b7,ba,(by rw [<- hw,i,A2 (bF aS),A2 (DH (d:=62) aS),A2 oO]),λz hz=>(by cases hz),oF,oM⟩,oM⟩
theorem Xp  {b:Nat} {c d:UInt8} {t:TypeId} (h:Be w b #[.int .u8 (c.toNat:Int),.int .u8 (d.toNat:Int)] t):Ay w (some ⟨b,0,none⟩) [c,d] :=
 ⟨λ_=>rfl,λj hj=>by
  have e1:(pA (some ⟨b,0,none⟩)).add j=⟨b,j,none⟩:=by
   show (⟨b,0,none⟩:Addr).add j=_
   unfold Addr.add;split
   · next h=>subst h;rfl
   · simp
  rw [e1,h.cell j]
  match j,hj with
  | 0,_=>rfl
  | 1,_=>rfl⟩
theorem Rh (r:Nat) (p:Option Addr) (l:l8_) (c t:Nat) (x:UInt8) (w:World) (h:JJ w r p l c t) (hne:0<l.length->(pA p).block≠r) (hc:l.length<=c) (hl:l.length<=100000000) (ht:t<=l.length) (hx:x≠0) :
  Calls Tryz.prog 152 #[ptV r,.int .u8 (x.toNat:Int)] w (Ct 30 (LH x (l.drop t)) (λa=>a.1.val) (A4y w r p l c) (λw'=>Bo w.heap.size r w w')):=by
 have hr:=h.1
 have hb:=h.2
 have hy:=A4n (l:=l) (s:=t) (c:=x) (d:=(l[t]?).getD 0) hx rfl
 refine Av func152 rfl ntmps152 ?_
 have N:=Bo.refl (w.heap.size) r w
 refine A5<|C1 J0 rfl (λb1 ax B C q av=>?_)
 have ad:=Bx B hr.lt
 have ae:=hr.un q ad
 have u:=λQ=>B▸hb.lt Q
 have af:=DQ hb q u
 have G:=DW B N.size
 have P:=BY N (EH q G)
 refine A0<|Aj<|AU<|A5<|A3 rfl<|A3 rfl<|As (MR r p l c t x _ ⟨ae,af⟩ hne hl ht) (λw7 y=>?_)
 have o:=y.1.1
 have A:=Iw C y.2 C.lt oO
 have v:=y.1.2
 have f:=BY P (Gq y.2 P.size)
 refine Ab rfl<|Ae rfl (λag=>?_) (λag=>?_)
 obtain ⟨ah,ai⟩:=QH (x:=x) aS
 rw [A7 aS] at o
 rw [A7 (by rw [A6 ah,ai];rfl)] at hy
 refine A5<|A3 rfl<|A3 rfl<|CF (ps:=_) BI Iy Qk rfl rfl rfl rfl rfl pR rfl (λay aw i H g aq=>?_)
 have T:=Bx i o.lt
 have U:=o.un g T
 have V:=Bx i A.lt
 have X:=A.un g V
 have J:=λQ=>i▸v.lt Q
 have Y:=DQ v g J
 have D:=DW i f.size
 have a1:=BY f (EH g D)
 refine Ai (MG (l:=[x,x]) BI Ln JK rfl (Xp H))<|?_
 refine A1 (.buildL (ps:=_) Jt rfl rfl rfl pS) ?_
 refine AH rfl rfl X BG rfl rfl (λaz K j ar=>?_)
 have a2:=U.up j
 have a3:=DQ Y j u
 have a4:=BY a1 (EH j oO)
 refine A0<|B2 (Ch rfl rfl (BF K Eo rfl BG)  ?_)
 exact Ct.ok (⟨3,0,[x,x]⟩,l.drop (t+1)) hy rfl ⟨_,rfl,oO,⟨a2,a3⟩,a4⟩
 rw [A2 (bF aS)] at o
 rw [A2 (by
  by_cases hq:t<l.length;rw [A6 hq];exact UM (x:=x) aS hq;rw [AO oO];exact λe=>hx e.symm)] at hy
 refine A5<|A3 rfl<|A1 (.eql rfl rfl)<|Ab rfl<|Ae rfl (λE=>?_) (λE=>?_)
 have a5:=dT E
 refine A5<|A3 rfl<|By BQ rfl rfl ((A2w r p l c t _ ⟨o,v⟩ hne hc hl ht)) (λaj ak k b=>?_) (λam ak k b=>?_)
 have F:=BY f (Gq b f.size)
 exact AE (BB aj (by rw [hy,A7 (CH aS)];exact k) F)
 obtain ⟨kr,an,ao,b⟩:=b
 have a6:=b.1.1
 have a7:=Iw A b.2 A.lt oO
 have a8:=b.1.2
 have a9:=BY f (Gq b.2 f.size)
 have ap:=k
 obtain ⟨a0,aA⟩:=eX am
 refine AH rfl rfl a7 BG rfl rfl (λaB L m au=>?_)
 have aa:=a6.up m
 have ab:=DQ a8 m u
 have ac:=BY a9 (EH m oO)
 refine A0<|B2 (Ch rfl rfl (BF L Eo rfl BG)  ?_)
 exact Ct.ok _ (by rw [hy,A7 (CH aS)];exact ap) rfl ⟨_,an,ao,⟨aa,ab⟩,ac⟩
 have a5:=dF E
 refine Ap<|Ak<|A1 (.mkI Mc rfl)<|FE rfl (AE ?_)
 exact BB 14 (by rw [hy,A2 (DH (d:=60) aS)]) f
end
section
theorem QG (l:l8_) (t:Nat) (ht:t<=l.length):t<=(if I1 l t 10 then t+1 else t)/\(if I1 l t 10 then t+1 else t)<=l.length/\l.drop (if I1 l t 10 then t+1 else t)=Jq (l.drop t):=by
 have e:I1 l t 10=lfB l t:=rfl
 rw [e]
 cases hb:lfB l t with
 | true=>have:=A8P hb;rw [A7 rfl];exact ⟨oO,oO,this.2.symm⟩
 | false=>rw [A2 (by simp)];exact ⟨FQ _,ht,(A8Q hb).symm⟩
theorem VK (B r:Nat) (p:Option Addr) (l:l8_) (c t:Nat) (x:UInt8) (v:Value) (o:l8_) (w:World) (h:JJ w r p l c t) (hne:0<l.length->(pA p).block≠r) (hl:l.length<=100000000) (ht:t<=l.length)
  (hrB:r<B) (hBw:B<=w.heap.size) (hpB:0<l.length->(pA p).block<B) (hown:Cq 5 B w v (Az o)) (hol:o.length<=500000000) :
  Calls Tryz.prog 178 #[ptV r,v,.int .u8 (x.toNat:Int)] w λe w'=>∃ v',e=.returned v'/\∃ k,JJ w' r p l c k/\Bo B r w w'/\Cq 5 B w' v' (Az (o++(Je x (l.drop t)).1))/\t<=k/\k<=l.length/\l.drop k=(Je x (l.drop t)).2:=by
 have hr:=h.1
 have hb:=h.2
 refine Av func178 rfl ntmps178 ?_
 have d:=Bo.refl (B) r w
 refine A5<|Ab rfl<|Aj<|A5<|A3 rfl<|A0<|AU<|A5<|A1 (.eql rfl rfl)<|Ab rfl<|Ae rfl (λh1=>?_) (λh1=>?_)
 have cF:=dT h1
 refine A5<|A3 rfl<|CF (ps:=_) BI Iy Qk rfl rfl rfl rfl rfl pR rfl (λb2 dl ab bw R d1=>?_)
 have cG:=Cq.new hown ab R
 have cH:=Bx ab hr.lt
 have cI:=hr.un R cH
 have bx:=λg=>ab▸hb.lt g
 have cJ:=DQ hb R bx
 have aK:=DW ab d.size
 have bp:=BY d (EH R (BA hBw aK))
 refine EP BI GB rfl rfl rfl cG rfl bw rfl (by rw [Bc];omega) ((BA hBw bp.size)) rfl (λv9 dm aL T cP=>?_)
 have bz:=cI.below T oO
 have bA:=Hk cJ T hpB
 have bB:=BY bp (JM (T.mono (FQ _)))
 have bC:=ED aL (10) (rfl)
 refine Ab rfl<|AI ?_
 exact ⟨_,rfl,t,⟨bz,bA⟩,bB,(by rw [show x=110 from CH aS,A3P];exact bC),FQ _,ht,(by rw [show x=110 from CH aS,A3P])⟩
 have cF:=dF h1
 refine A5<|A1 (.eql rfl rfl)<|Ab rfl<|Ae rfl (λai=>?_) (λai=>?_)
 have bD:=dT ai
 refine A5<|A3 rfl<|CF (ps:=_) BI Iy Qk rfl rfl rfl rfl rfl pR rfl (λdn d2 U aM s cQ=>?_)
 have bE:=Cq.new hown U s
 have bG:=Bx U hr.lt
 have bH:=hr.un s bG
 have aN:=λg=>U▸hb.lt g
 have bI:=DQ hb s aN
 have aj:=DW U d.size
 have ak:=BY d (EH s (BA hBw aj))
 refine EP BI GB rfl rfl rfl bE rfl aM rfl (by rw [Bc];omega) ((BA hBw ak.size)) rfl (λdp dq aO V cR=>?_)
 have bJ:=bH.below V oO
 have bK:=Hk bI V hpB
 have bL:=BY ak (JM (V.mono (FQ _)))
 have bM:=ED aO (13) (rfl)
 refine Ab rfl<|AI ?_
 exact ⟨_,rfl,t,⟨bJ,bK⟩,bL,(by rw [show x=114 from CH aS,A3O];exact bM),FQ _,ht,(by rw [show x=114 from CH aS,A3O])⟩
 have bD:=dF ai
 refine A5<|A1 (.eql rfl rfl)<|Ab rfl<|Ae rfl (λal=>?_) (λal=>?_)
 have bN:=dT al
 refine A5<|A3 rfl<|CF (ps:=_) BI Iy Qk rfl rfl rfl rfl rfl pR rfl (λdr d3 X aP y cS=>?_)
 have bO:=Cq.new hown X y
 have bP:=Bx X hr.lt
 have bQ:=hr.un y bP
 have aQ:=λg=>X▸hb.lt g
 have bR:=DQ hb y aQ
 have am:=DW X d.size
 have an:=BY d (EH y (BA hBw am))
 refine EP BI GB rfl rfl rfl bO rfl aP rfl (by rw [Bc];omega) ((BA hBw an.size)) rfl (λds dt aR a0 cT=>?_)
 have bS:=bQ.below a0 oO
 have bT:=Hk bR a0 hpB
 have bU:=BY an (JM (a0.mono (FQ _)))
 have bV:=ED aR (9) (rfl)
 refine Ab rfl<|AI ?_
 exact ⟨_,rfl,t,⟨bS,bT⟩,bU,(by rw [show x=116 from CH aS,A3N];exact bV),FQ _,ht,(by rw [show x=116 from CH aS,A3N])⟩
 have bN:=dF al
 refine A5<|A1 (.eql rfl rfl)<|Ab rfl<|Ae rfl (λao=>?_) (λao=>?_)
 have bW:=dT ao
 refine A5<|A3 rfl<|CF (ps:=_) BI Iy Qk rfl rfl rfl rfl rfl pR rfl (λdu d4 a1 aT A cU=>?_)
 have bX:=Cq.new hown a1 A
 have bY:=Bx a1 hr.lt
 have bZ:=hr.un A bY
 have aU:=λg=>a1▸hb.lt g
 have b':=DQ hb A aU
 have ap:=DW a1 d.size
 have aq:=BY d (EH A (BA hBw ap))
 refine EP BI GB rfl rfl rfl bX rfl aT rfl (by rw [Bc];omega) ((BA hBw aq.size)) rfl (λdv dw aV a2 cV=>?_)
 have c0:=bZ.below a2 oO
 have c2:=Hk b' a2 hpB
 have c3:=BY aq (JM (a2.mono (FQ _)))
 have c4:=ED aV (8) (rfl)
 refine Ab rfl<|AI ?_
 exact ⟨_,rfl,t,⟨c0,c2⟩,c3,(by rw [show x=98 from CH aS,A6O];exact c4),FQ _,ht,(by rw [show x=98 from CH aS,A6O])⟩
 have bW:=dF ao
 refine A5<|A1 (.eql rfl rfl)<|Ab rfl<|Ae rfl (λar=>?_) (λar=>?_)
 have c5:=dT ar
 refine A5<|A3 rfl<|CF (ps:=_) BI Iy Qk rfl rfl rfl rfl rfl pR rfl (λdx d5 a3 aW C cW=>?_)
 have c6:=Cq.new hown a3 C
 have c7:=Bx a3 hr.lt
 have c8:=hr.un C c7
 have aX:=λg=>a3▸hb.lt g
 have c9:=DQ hb C aX
 have au:=DW a3 d.size
 have av:=BY d (EH C (BA hBw au))
 refine EP BI GB rfl rfl rfl c6 rfl aW rfl (by rw [Bc];omega) ((BA hBw av.size)) rfl (λdy dz aY a4 cX=>?_)
 have ca:=c8.below a4 oO
 have cb:=Hk c9 a4 hpB
 have cc:=BY av (JM (a4.mono (FQ _)))
 have cd:=ED aY (12) (rfl)
 refine Ab rfl<|AI ?_
 exact ⟨_,rfl,t,⟨ca,cb⟩,cc,(by rw [show x=102 from CH aS,A3Q];exact cd),FQ _,ht,(by rw [show x=102 from CH aS,A3Q])⟩
 have c5:=dF ar
 refine A5<|A1 (.eql rfl rfl)<|Ab rfl<|Ae rfl (λaw=>?_) (λaw=>?_)
 have cf:=dT aw
 refine A5<|A3 rfl<|Ab rfl<|AI ?_
 exact ⟨_,rfl,t,⟨hr,hb⟩,d,(by rw [show x=10 from CH aS,A6Q,Bv];exact hown),FQ _,ht,(by rw [show x=10 from CH aS,A6Q])⟩
 have cf:=dF aw
 refine A5<|A1 (.eql rfl rfl)<|Ab rfl<|Ae rfl (λax=>?_) (λax=>?_)
 have cg:=dT ax
 have ay:x=13:=CH aS
 refine A5<|A3 rfl<|As (MR r p l c t 10 _ ⟨hr,hb⟩ hne hl ht) (λdA a5=>?_)
 have ci:=IP hown a5.2 oO
 have cj:=a5.1.1
 have ck:=a5.1.2
 have cl:=BY d (Gq a5.2 (BA hBw d.size))
 refine A0<|A5<|A3 rfl<|Ab rfl<|AI ?_
 exact ⟨_,rfl,_,⟨cj,ck⟩,cl,(by rw [ay,A6P,Bv];exact ci),(QG l t ht).1,(QG l t ht).2.1,(by rw [ay,A6P];exact (QG l t ht).2.2)⟩
 have cg:=dF ax
 refine Ap<|Aj<|A5<|A3 rfl<|A1 (.lss rfl rfl)<|A3 rfl<|B5 rfl rfl rfl (λH=>?_) (λH=>?_)
 have cm:=dF H
 refine A3 rfl<|Au H<|A1 (.gtr rfl rfl)<|A1 (.pkF rfl H rfl)<|A0<|Ae rfl (λaz=>?_) (λaz=>?_)
 have cn:=dT az
 refine A5<|A3 rfl<|A3 rfl<|CF (ps:=_) BI Iy Qk rfl rfl rfl rfl rfl pR rfl (λdB d6 a6 aZ D cY=>?_)
 have co:=Cq.new hown a6 D
 have cq:=Bx a6 hr.lt
 have cr:=hr.un D cq
 have a':=λg=>a6▸hb.lt g
 have ct:=DQ hb D a'
 have aA:=DW a6 d.size
 have aB:=BY d (EH D (BA hBw aA))
 refine EP BI GB rfl rfl rfl co rfl aZ rfl (by rw [Bc];omega) ((BA hBw aB.size)) rfl (λdC dE b0 a7 cZ=>?_)
 have cu:=cr.below a7 oO
 have cv:=Hk ct a7 hpB
 have cw:=BY aB (JM (a7.mono (FQ _)))
 have cy:=ED b0 (x) (rfl)
 refine Ab rfl<|AI ?_
 exact ⟨_,rfl,t,⟨cu,cv⟩,cw,(by rw [OQ _ oO oO oO oO oO oO oO oO];exact cy),FQ _,ht,(by rw [OQ _ oO oO oO oO oO oO oO oO])⟩
 have cn:=dF az
 refine Ap<|A5<|A3 rfl<|A1 (.sub rfl rfl (Un oO))<|A1 (.cvt Ln JL rfl (Bn oO))<|Ab rfl<|Aj<|A5<|Ab rfl<|AU ?_
 obtain ⟨tt,aC⟩:=eX t
 have bq:48<=(x.toNat:Int):=by omega
 have bt:(x.toNat:Int)<=55:=by omega
 refine Cf (α:=Nat × Nat × Nat) (λt=>[(0,ptV r),(1,v),(7,Ah (t.1:Int)),(8,Ah (t.2.1:Int))]) (λt w'=>JJ w' r p l c t.2.2/\Bo B r w w'/\Cq 5 B w' v (Az o)/\tt<=t.2.2/\t.2.2<=l.length/\(t.2.1=0/\t.1<=7\/t.2.1=1/\t.1<=63\/t.2.1=2/\t.1<=511)/\NJ (2-t.2.1) t.1 (l.drop t.2.2)=NJ 2 (x.toNat-48) (l.drop tt)) (λt=>2-t.2.1) ((x.toNat-48,0,tt)) ⟨rfl,rfl,M5 rfl oM,rfl,tT⟩ (⟨⟨by rw [aC];exact hr,hb⟩,d,hown,FQ _,by rw [aC];exact ht,Or.inl ⟨rfl,oM⟩,rfl⟩) (λt w1 hR=>?_)
 subst aC
 obtain ⟨m,k,u⟩:=t
 obtain ⟨f,hT,ac,bu,bv,hm,aD⟩:=hR
 simp only at f hT ac bu bv hm aD ⊢
 refine Aj<|N7 87 (UL l k u) ?_ (λdG a8=>?_)
 refine Eg Ci kR<|AA (.mv rfl) rfl<|AA (.lss rfl rfl) rfl<|AA (.mv rfl) rfl<|MD rfl rfl rfl (λJ=>?_) (λJ=>?_)
 have cz:=dT J
 refine AA (.mv rfl) rfl<|C5 rfl rfl rfl J<|WQ.c1 BQ rfl rfl (λm=>(UQ r p l c u _ ⟨f.1,f.2⟩ m))<|AA (.pkT rfl J rfl) rfl<|AA (.mv rfl) rfl<|MD rfl rfl rfl (λa=>?_) (λa=>?_)
 have cA:=dT a
 refine AA (.mv rfl) rfl<|C5 rfl rfl rfl a<|AA (.nck rfl) rfl<|C5 rfl rfl rfl a<|AA (.fa DI rfl Gr dD rfl) rfl<|C5 rfl rfl rfl a<|Du (λm=>Af (g22_ _) rfl f.1 rfl) rfl<|C5 rfl rfl rfl a<|AA (.mv rfl) rfl<|C5 rfl rfl rfl a<|AA (.nck rfl) rfl<|C5 rfl rfl rfl a<|AA (.fa DI rfl B6 dD rfl) rfl<|C5 rfl rfl rfl a<|Du (λm=>Af (BE _) rfl f.1 rfl) rfl<|C5 rfl rfl rfl a<|AA (.ixb BI Iy rfl rfl (f.2.isp oO) (u) oO oO) rfl<|C5 rfl rfl rfl a<|Du (λm=>AS (P3 _) rfl ((f.2.drewN m).cells (u) oO)) rfl<|C5 rfl rfl rfl a<|AA (.geq rfl rfl) rfl<|AA (.pkT rfl a rfl) rfl<|AA (.mv rfl) rfl<|MD rfl rfl rfl (λb=>?_) (λb=>?_)
 have cB:=dT b
 refine AA (.mv rfl) rfl<|C5 rfl rfl rfl b<|AA (.nck rfl) rfl<|C5 rfl rfl rfl b<|AA (.fa DI rfl Gr dD rfl) rfl<|C5 rfl rfl rfl b<|Du (λm=>Af (g22_ _) rfl f.1 rfl) rfl<|C5 rfl rfl rfl b<|AA (.mv rfl) rfl<|C5 rfl rfl rfl b<|AA (.nck rfl) rfl<|C5 rfl rfl rfl b<|AA (.fa DI rfl B6 dD rfl) rfl<|C5 rfl rfl rfl b<|Du (λm=>Af (BE _) rfl f.1 rfl) rfl<|C5 rfl rfl rfl b<|AA (.ixb BI Iy rfl rfl (f.2.isp oO) (u) oO oO) rfl<|C5 rfl rfl rfl b<|Du (λm=>AS (P3 _) rfl ((f.2.drewN m).cells (u) oO)) rfl<|C5 rfl rfl rfl b<|AA (.leq rfl rfl) rfl<|AA (.pkT rfl b rfl) rfl<|Dk (λdH cC=>?_)
 exact ⟨Gm (CD rfl (by (by_cases hq:u<l.length) <;> (unfold UL;first | (exfalso;omega) | (rw [getElem!_pos l u hq];(apply B1.2;(try simp only [A4,BC,AP,Ad,Aw,BN,BT,false_iff,iff_false,true_iff,iff_true]);omega)) | (apply B1.2;(try simp only [A4,BC,AP,Ad,Aw,BN,BT,false_iff,iff_false,true_iff,iff_true]);omega)))),cC⟩
 have cB:=dF b
 refine Bj rfl rfl rfl b<|Bj rfl rfl rfl b<|Bj rfl rfl rfl b<|Bj rfl rfl rfl b<|Bj rfl rfl rfl b<|Bj rfl rfl rfl b<|Bj rfl rfl rfl b<|Bj rfl rfl rfl b<|Bj rfl rfl rfl b<|Bj rfl rfl rfl b<|AA (.pkF rfl b rfl) rfl<|Dk (λd7 b1=>?_)
 exact ⟨Gm (CD rfl (by (by_cases hq:u<l.length) <;> (unfold UL;first | (exfalso;omega) | (rw [getElem!_pos l u hq];(apply B1.2;(try simp only [A4,BC,AP,Ad,Aw,BN,BT,false_iff,iff_false,true_iff,iff_true]);omega)) | (apply B1.2;(try simp only [A4,BC,AP,Ad,Aw,BN,BT,false_iff,iff_false,true_iff,iff_true]);omega)))),b1⟩
 have cA:=dF a
 refine Bj rfl rfl rfl a<|Bj rfl rfl rfl a<|Bj rfl rfl rfl a<|Bj rfl rfl rfl a<|Bj rfl rfl rfl a<|Bj rfl rfl rfl a<|Bj rfl rfl rfl a<|Bj rfl rfl rfl a<|Bj rfl rfl rfl a<|Bj rfl rfl rfl a<|AA (.pkF rfl a rfl) rfl<|AA (.mv rfl) rfl<|Bj rfl rfl rfl rfl<|Bj rfl rfl rfl rfl<|Bj rfl rfl rfl rfl<|Bj rfl rfl rfl rfl<|Bj rfl rfl rfl rfl<|Bj rfl rfl rfl rfl<|Bj rfl rfl rfl rfl<|Bj rfl rfl rfl rfl<|Bj rfl rfl rfl rfl<|Bj rfl rfl rfl rfl<|Bj rfl rfl rfl rfl<|AA (.pkF rfl rfl rfl) rfl<|Dk (λd8 b3=>?_)
 exact ⟨Gm (CD rfl (by (by_cases hq:u<l.length) <;> (unfold UL;first | (exfalso;omega) | (rw [getElem!_pos l u hq];(apply B1.2;(try simp only [A4,BC,AP,Ad,Aw,BN,BT,false_iff,iff_false,true_iff,iff_true]);omega)) | (apply B1.2;(try simp only [A4,BC,AP,Ad,Aw,BN,BT,false_iff,iff_false,true_iff,iff_true]);omega)))),b3⟩
 have cz:=dF J
 refine Bj rfl rfl rfl J<|AA (.pkF rfl J rfl) rfl<|AA (.mv rfl) rfl<|Bj rfl rfl rfl rfl<|Bj rfl rfl rfl rfl<|Bj rfl rfl rfl rfl<|Bj rfl rfl rfl rfl<|Bj rfl rfl rfl rfl<|Bj rfl rfl rfl rfl<|Bj rfl rfl rfl rfl<|Bj rfl rfl rfl rfl<|Bj rfl rfl rfl rfl<|Bj rfl rfl rfl rfl<|Bj rfl rfl rfl rfl<|AA (.pkF rfl rfl rfl) rfl<|AA (.mv rfl) rfl<|Bj rfl rfl rfl rfl<|Bj rfl rfl rfl rfl<|Bj rfl rfl rfl rfl<|Bj rfl rfl rfl rfl<|Bj rfl rfl rfl rfl<|Bj rfl rfl rfl rfl<|Bj rfl rfl rfl rfl<|Bj rfl rfl rfl rfl<|Bj rfl rfl rfl rfl<|Bj rfl rfl rfl rfl<|Bj rfl rfl rfl rfl<|AA (.pkF rfl rfl rfl) rfl<|Dk (λd9 b4=>?_)
 exact ⟨Gm (CD rfl (by (by_cases hq:u<l.length) <;> (unfold UL;first | (exfalso;omega) | (rw [getElem!_pos l u hq];(apply B1.2;(try simp only [A4,BC,AP,Ad,Aw,BN,BT,false_iff,iff_false,true_iff,iff_true]);omega)) | (apply B1.2;(try simp only [A4,BC,AP,Ad,Aw,BN,BT,false_iff,iff_false,true_iff,iff_true]);omega)))),b4⟩
 have ad:=Cq.drew ac a8
 have a9:=f.1.drew a8
 have aa:=f.2.drew a8
 have E:=BY hT (Ob a8)
 refine Ae rfl (λcD=>?_) (λcD=>?_)
 obtain ⟨da,cK,db,dc,K⟩:=A7r aS
 refine Ap<|Aj<|AU<|Ak<|A3 rfl<|A1 (.mul rfl rfl (Bn oO))<|A3 rfl<|By BQ rfl rfl ((MQ r p l c u _ ⟨a9,aa⟩ hne hl)) (λdd cE L i=>?_) (λde cE L i=>?_)
 exact D6 (IG L).1 oO
 have b5:=IP ad i.2 oO
 have b6:=i.1.1
 have b7:=i.1.2
 have b8:=BY E (Gq i.2 (BA hBw E.size))
 obtain ⟨dI,hx⟩:=Oc L
 rw [hx]
 refine A1 (.sub rfl rfl (Un oO))<|A1 (.cvt Ln JL rfl (Bn oO))<|A1 (.add rfl rfl (Bn oO))<|Ab rfl<|Ak<|A3 rfl<|A1 (.add rfl rfl (Bn oO))<|Ab rfl ?_
 exact ⟨(8 * m+((l[u]'cK).toNat-48),k+1,u+1),⟨rfl,rfl,M5 rfl oM,M5 rfl oM,tT⟩,⟨⟨b6,b7⟩,b8,b5,oM,oM,oM,by rw [<- aD,K m]⟩,oM⟩
 have K:=A7s aS m
 rw [aD] at K
 refine C7<|A5<|A3 rfl<|A3 rfl<|A1 (.cvt JL Ln rfl (show IntKind.u8.wrap (m:Int)=((m % 256:Nat):Int) by rw [IntKind.wrap_u8'];(first | done | rfl)))<|CF (ps:=_) BI Iy Qk rfl rfl rfl rfl rfl pR rfl (λdf c' F aE j cL=>?_)
 have b9:=Cq.new ad F j
 have ba:=Bx F a9.lt
 have bb:=a9.un j ba
 have aF:=λg=>F▸aa.lt g
 have bc:=DQ aa j aF
 have ag:=DW F E.size
 have ae:=BY E (EH j (BA hBw ag))
 refine EP BI GB rfl rfl rfl b9 rfl aE rfl (by rw [Bc];omega) ((BA hBw ae.size)) rfl (λdg dh aG P cM=>?_)
 have bd:=bb.below P oO
 have be:=Hk bc P hpB
 have bf:=BY ae (JM (P.mono (FQ _)))
 have bg:=ED aG (ch ((m % 256:Nat):Int)) (by rw [K2 _ oO oO])
 refine Ab rfl<|AI ?_
 exact ⟨_,rfl,u,⟨bd,be⟩,bf,(by rw [V4 _ bq bt,K];exact bg),bu,bv,(by rw [V4 _ bq bt,K])⟩
 have cm:=dT H
 refine Ac H<|A1 (.pkT rfl H rfl)<|A0<|E3 rfl rfl<|A5<|A3 rfl<|A3 rfl<|CF (ps:=_) BI Iy Qk rfl rfl rfl rfl rfl pR rfl (λdi d0 G aH q cN=>?_)
 have bh:=Cq.new hown G q
 have bi:=Bx G hr.lt
 have bj:=hr.un q bi
 have aI:=λg=>G▸hb.lt g
 have bk:=DQ hb q aI
 have ah:=DW G d.size
 have af:=BY d (EH q (BA hBw ah))
 refine EP BI GB rfl rfl rfl bh rfl aH rfl (by rw [Bc];omega) ((BA hBw af.size)) rfl (λdj dk aJ Q cO=>?_)
 have bl:=bj.below Q oO
 have bm:=Hk bk Q hpB
 have bn:=BY af (JM (Q.mono (FQ _)))
 have bo:=ED aJ (x) (rfl)
 refine Ab rfl<|AI ?_
 exact ⟨_,rfl,t,⟨bl,bm⟩,bn,(by rw [OQ _ oO oO oO oO oO oO oO oO];exact bo),FQ _,ht,(by rw [OQ _ oO oO oO oO oO oO oO oO])⟩
theorem A3M (x:UInt8) (r:l8_):(Je x r).1.length<=1:=by
 unfold Je
 repeat' split
 all_goals simp
theorem XQ (r:Nat) (p:Option Addr) (l:l8_) (c t:Nat) (w:World) (h:JJ w r p l c t) (hne:0<l.length->(pA p).block≠r) (hc:l.length<=c) (hl:l.length<=100000000) (ht:t<=l.length) :
  Calls Tryz.prog 151 #[ptV r] w (Ct 30 (HZ (Do 1 [] (l.drop t))) (λa=>a.1.val) (A4y w r p l c) (λw'=>Bo w.heap.size r w w')):=by
 have hr:=h.1
 have hb:=h.2
 obtain ⟨R,hR⟩:=eX (Do 1 [] (l.drop t))
 rw [<- hR]
 obtain ⟨a,rfl⟩:=eX t
 refine Av func151 rfl ntmps151 ?_
 have bv:=Bo.refl (w.heap.size) r w
 refine A5<|C1 J0 rfl (λb1 dk af bA a3 d5=>?_)
 have cr:=Bx af hr.lt
 have ct:=hr.un a3 cr
 have ag:=λG=>af▸hb.lt G
 have cu:=DQ hb a3 ag
 have aT:=DW af bv.size
 have cv:=BY bv (EH a3 aT)
 refine A0<|Aj ?_
 have a1:0<l.length->(pA p).block<b1+1:=λG=>by have:=hb.lt G;omega
 have dl:r<b1:=by have:=hr.lt;omega
 refine Ak<|Ab rfl<|A5<|Ab rfl<|AU<|Cf (α:=Value × l8_ × Nat × Nat) (λt=>[(0,ptV r),(2,ptV b1),(3,t.1),(4,Ah (t.2.2.1:Int))]) (λt w'=>JJ w' r p l c t.2.2.2/\Bo w.heap.size r w w'/\Be w' b1 #[Ah 0,Ah 0,.string ⟨#[]⟩] 147/\Cq 5 (b1+1) w' t.1 (Az t.2.1)/\Do t.2.2.1 t.2.1 (l.drop t.2.2.2)=R/\1<=t.2.2.1/\t.2.2.1<=t.2.2.2+1/\t.2.1.length<=t.2.2.2/\t.2.2.2<=l.length) (λt=>l.length-t.2.2.2) ((.slice none 0 0,[],1,a)) ⟨rfl,rfl,rfl,rfl,tT⟩ (⟨⟨ct,cu⟩,cv,bA,Cq.nil _ _ _,hR.symm,FQ _,oM,G8 _,ht⟩) (λt w1 hR=>?_)
 obtain ⟨v,o,d,s⟩:=t
 obtain ⟨ah,hT,ai,aj,hw,bw,cw,cy,hs⟩:=hR
 simp only at ah hT ai aj hw bw cw cy hs ⊢
 refine AU<|A5<|A3 rfl<|By BQ rfl rfl ((MQ r p l c s _ ⟨ah.1,ah.2⟩ hne hl)) (λk9 w7 V N=>?_) (λa8 w7 V N=>?_)
 have aU:=BY hT (Gq N hT.size)
 exact AE (BB k9 (by rw [(IG V).2,<- hw,Bf (IG V).1,Do.eq_def];(first | done | rfl)) aU)
 have i:=IP aj N.2 oO
 have g:=N.1.1
 have e:=Iw ai N.2 ai.lt oO
 have f:=N.1.2
 have b:=BY hT (Gq N.2 hT.size)
 obtain ⟨cz,hx⟩:=Oc V
 obtain ⟨x,cA⟩:=eX a8
 rw [<- cA] at hx ⊢
 have u:=A0A d o l s cz
 rw [<- hx] at u
 refine Ab rfl<|Aj<|A5<|A3 rfl<|A0<|AU<|A5<|A1 (.eql rfl rfl)<|Ab rfl<|Ae rfl (λak=>?_) (λak=>?_)
 have bB:=dT ak
 refine Ak<|A3 rfl<|A1 (.iis (((d+1:Nat):Int)) (.add rfl rfl (Bn oO)) oO)<|Ab rfl<|Aj<|A5<|A3 rfl<|A1 (.eql rfl rfl)<|A0<|Ae rfl (λam=>?_) (λam=>?_)
 have bC:=dT am
 refine Aj ?_
 obtain ⟨q,cq,rfl,P,an⟩:=Cq.bytes i
 refine Ak<|A3 rfl<|By BQ rfl rfl ((JO q _ cq _ P oO)) (λdm cB a6 ao=>?_) (λcC cB a6 ao=>?_)
 (exfalso;omega)
 have bD:=e.bl ao
 obtain ⟨a0,ap⟩:=eX cC
 have a7:=a6
 refine AH rfl rfl bD BG rfl rfl (λdn aV cX cY=>?_)
 refine A0<|B2 (Ch rfl rfl (BF aV Eo rfl BG)  ?_)
 (exfalso;omega)
 have bC:=dF am
 refine Ap<|Ak<|A3 rfl<|A3 rfl<|CF (ps:=_) BI Iy Qk rfl rfl rfl rfl rfl pR rfl (λdp d6 Q aW A cZ=>?_)
 have bE:=Cq.new i Q A
 have bG:=Bx Q g.lt
 have bH:=g.un A bG
 have bI:=Bx Q e.lt
 have aq:=e.un A bI
 have aX:=λG=>Q▸f.lt G
 have bJ:=DQ f A aX
 have ar:=DW Q b.size
 have bK:=BY b (EH A ar)
 refine EP BI GB rfl rfl rfl bE rfl aW rfl (by rw [Bc];omega) (aq.lt) rfl (λdq dr aY J c'=>?_)
 have bL:=bH.below J oO
 have bM:=aq.below J oO
 have bN:=Hk bJ J a1
 have bO:=BY bK (JM (J.mono oO))
 have bP:=ED aY (x) (rfl)
 refine Ab rfl ?_
 exact ⟨(_,o++[_],d+1,s+1),⟨rfl,rfl,rfl,rfl,tT⟩,⟨⟨bL,bN⟩,bO,bM,bP,(by rw [<- hw,u,show x=40 from CH aS,A7 rfl]),oM,oM,oF,oM⟩,oM⟩
 have bB:=dF ak
 refine A5<|A1 (.eql rfl rfl)<|Ab rfl<|Ae rfl (λau=>?_) (λau=>?_)
 have bQ:=dT au
 refine Ak<|A3 rfl<|A1 (.iis (((d-1:Nat):Int)) (.sub rfl rfl (Bn oO)) oO)<|Ab rfl<|Aj<|A5<|A3 rfl<|A1 (.eql rfl rfl)<|A0<|Ae rfl (λav=>?_) (λav=>?_)
 have bR:=dT av
 refine Aj ?_
 obtain ⟨q,cq,rfl,P,an⟩:=Cq.bytes i
 refine Ak<|A3 rfl<|By BQ rfl rfl ((JO q _ cq _ P oO)) (λcD cE X H=>?_) (λcF cE X H=>?_)
 have aw:=BY b (Gq (JM H) b.size)
 exact AE (BB cD (by rw [<- hw,u,show x=41 from CH aS,A2 dD,A7 rfl,A7 oO];exact P9 X) aw)
 have bS:=g.bl H
 have bT:=e.bl H
 have bU:=Hk f H (λG=>f.lt G)
 have bV:=BY b (Gq (JM H) b.size)
 obtain ⟨a0,ap⟩:=eX cF
 have a7:=X
 refine AH rfl rfl bT BG rfl rfl (λds aZ Y d0=>?_)
 have bW:=bS.up Y
 have bX:=DQ bU Y ag
 have bY:=BY bV (EH Y oO)
 refine A0<|B2 (Ch rfl rfl (BF aZ Eo rfl BG)  ?_)
 exact Ct.ok (_,l.drop (s+1)) (by rw [<- hw,u,show x=41 from CH aS,A2 dD,A7 rfl,A7 oO];exact R6 a7) rfl ⟨_,rfl,oO,⟨bW,bX⟩,bY⟩
 have bR:=dF av
 refine Ap<|Ak<|A3 rfl<|A3 rfl<|CF (ps:=_) BI Iy Qk rfl rfl rfl rfl rfl pR rfl (λdt d7 T a' B d1=>?_)
 have bZ:=Cq.new i T B
 have b':=Bx T g.lt
 have c0:=g.un B b'
 have c2:=Bx T e.lt
 have ax:=e.un B c2
 have b0:=λG=>T▸f.lt G
 have c3:=DQ f B b0
 have ay:=DW T b.size
 have c4:=BY b (EH B ay)
 refine EP BI GB rfl rfl rfl bZ rfl a' rfl (by rw [Bc];omega) (ax.lt) rfl (λdu dv b2 K d2=>?_)
 have c5:=c0.below K oO
 have c6:=ax.below K oO
 have c7:=Hk c3 K a1
 have c8:=BY c4 (JM (K.mono oO))
 have c9:=ED b2 (x) (rfl)
 refine Ab rfl ?_
 exact ⟨(_,o++[_],d-1,s+1),⟨rfl,rfl,rfl,rfl,tT⟩,⟨⟨c5,c7⟩,c8,c6,c9,(by rw [<- hw,u,show x=41 from CH aS,A2 dD,A7 rfl,A2 oO]),oM,oM,oF,oM⟩,oM⟩
 have bQ:=dF au
 refine A5<|A1 (.eql rfl rfl)<|Ab rfl<|Ae rfl (λaz=>?_) (λaz=>?_)
 have ca:=dT az
 refine A5<|A3 rfl<|A3 rfl<|A3 rfl<|By BQ rfl rfl ((MQ r p l c (s+1) _ ⟨g,f⟩ hne hl)) (λcG cH L m=>?_) (λcI cH L m=>?_)
 have aA:=BY b (Gq m b.size)
 exact AE (BB cG (by rw [(IG L).2,<- hw,u,show x=92 from CH aS,A2 dD,A2 dD,A7 rfl,Bf (IG L).1];(first | done | rfl)) aA)
 have cb:=IP i m.2 oO
 have cc:=m.1.1
 have aB:=Iw e m.2 e.lt oO
 have cd:=m.1.2
 have cf:=BY b (Gq m.2 b.size)
 obtain ⟨cg,bx⟩:=Oc L
 obtain ⟨y,cJ⟩:=eX cI
 rw [<- cJ] at bx ⊢
 refine DO BQ rfl rfl ((VK (b1+1) r p l c (s+1+1) y v o _ ⟨cc,cd⟩ hne hl oO oO (aB).lt a1 cb oO)) (λv2 dw ci=>?_)
 obtain ⟨k2,aC,bz,cK,d8,d9,cj⟩:=ci
 have ck:=Iw aB bz oO oO
 have cL:=BY cf (bz.mono oO)
 have da:=A3M y (l.drop (s+1+1))
 refine Ab rfl<|C7 ?_
 exact ⟨(v2,o++(Je y (l.drop (s+1+1))).1,d,k2),⟨rfl,rfl,rfl,rfl,tT⟩,⟨⟨aC.1,aC.2⟩,cL,ck,cK,(by rw [cj,<- hw,u,show x=92 from CH aS,A2 dD,A2 dD,A7 rfl,Ar cg,<- bx]),bw,oM,oF,oM⟩,oM⟩
 have ca:=dF az
 refine A5<|A1 (.eql rfl rfl)<|Ab rfl<|Ae rfl (λaD=>?_) (λaD=>?_)
 have cl:=dT aD
 refine A5<|A3 rfl<|As (MR r p l c (s+1) 10 _ ⟨g,f⟩ hne hl oO) (λdx U=>?_)
 have aE:=IP i U.2 oO
 have aF:=U.1.1
 have a4:=Iw e U.2 e.lt oO
 have aG:=U.1.2
 have aH:=BY b (Gq U.2 b.size)
 have cM:=QG l (s+1) oO
 refine A0<|Ak<|Ab rfl<|Aj<|A5<|A3 rfl<|A1 (.eql rfl rfl)<|A0<|Ae rfl (λaI=>?_) (λaI=>?_)
 have cm:=dT aI
 refine Aj ?_
 obtain ⟨q,cq,rfl,P,an⟩:=Cq.bytes aE
 refine Ak<|A3 rfl<|By BQ rfl rfl ((JO q _ cq _ P oO)) (λdy cN a9 aJ=>?_) (λcO cN a9 aJ=>?_)
 (exfalso;omega)
 have b3:=a4.bl aJ
 obtain ⟨a0,ap⟩:=eX cO
 have a7:=a9
 refine AH rfl rfl b3 BG rfl rfl (λdb aK cP cQ=>?_)
 refine A0<|B2 (Ch rfl rfl (BF aK Eo rfl BG)  ?_)
 (exfalso;omega)
 have cm:=dF aI
 refine Ap<|Ak<|A3 rfl<|A3 rfl<|CF (ps:=_) BI Iy Qk rfl rfl rfl rfl rfl pR rfl (λdc d3 C aL j cR=>?_)
 have b4:=Cq.new aE C j
 have b5:=Bx C aF.lt
 have b6:=aF.un j b5
 have b7:=Bx C a4.lt
 have aa:=a4.un j b7
 have aM:=λG=>C▸aG.lt G
 have b8:=DQ aG j aM
 have ad:=DW C aH.size
 have b9:=BY aH (EH j ad)
 refine EP BI GB rfl rfl rfl b4 rfl aL rfl (by rw [Bc];omega) (aa.lt) rfl (λdd de aN D cS=>?_)
 have ba:=b6.below D oO
 have bb:=aa.below D oO
 have bc:=Hk b8 D a1
 have bd:=BY b9 (JM (D.mono oO))
 have be:=ED aN (10) (rfl)
 refine Ab rfl ?_
 exact ⟨(_,o++[_],d,(if I1 l (s+1) 10 then s+1+1 else s+1)),⟨rfl,rfl,rfl,rfl,tT⟩,⟨⟨ba,bc⟩,bd,bb,be,(by show Do d (o++[10]) (l.drop (if I1 l (s+1) 10 then s+1+1 else s+1))=R;rw [cM.2.2,<- hw,u,show x=13 from CH aS,A2 dD,A2 dD,A2 dD,A7 rfl]),oM,oM,oF,oM⟩,oM⟩
 have cl:=dF aD
 refine Ap<|Aj<|A5<|A3 rfl<|A1 (.eql rfl rfl)<|A0<|Ae rfl (λa5=>?_) (λa5=>?_)
 have bf:=dT a5
 refine Aj ?_
 obtain ⟨q,cq,rfl,P,an⟩:=Cq.bytes i
 refine Ak<|A3 rfl<|By BQ rfl rfl ((JO q _ cq _ P oO)) (λdf cn a2 ab=>?_) (λco cn a2 ab=>?_)
 (exfalso;omega)
 have bg:=e.bl ab
 obtain ⟨a0,ap⟩:=eX co
 have a7:=a2
 refine AH rfl rfl bg BG rfl rfl (λdg aO cT cU=>?_)
 refine A0<|B2 (Ch rfl rfl (BF aO Eo rfl BG)  ?_)
 (exfalso;omega)
 have bf:=dF a5
 refine Ap<|Ak<|A3 rfl<|A3 rfl<|CF (ps:=_) BI Iy Qk rfl rfl rfl rfl rfl pR rfl (λdh d4 E aP k cV=>?_)
 have bh:=Cq.new i E k
 have bi:=Bx E g.lt
 have bj:=g.un k bi
 have bk:=Bx E e.lt
 have ac:=e.un k bk
 have aQ:=λG=>E▸f.lt G
 have bm:=DQ f k aQ
 have ae:=DW E b.size
 have bn:=BY b (EH k ae)
 refine EP BI GB rfl rfl rfl bh rfl aP rfl (by rw [Bc];omega) (ac.lt) rfl (λdi dj aR F cW=>?_)
 have bo:=bj.below F oO
 have bp:=ac.below F oO
 have bq:=Hk bm F a1
 have bt:=BY bn (JM (F.mono oO))
 have bu:=ED aR (x) (rfl)
 refine Ab rfl ?_
 exact ⟨(_,o++[_],d,s+1),⟨rfl,rfl,rfl,rfl,tT⟩,⟨⟨bo,bq⟩,bt,bp,bu,(by rw [<- hw,u,A2 (DH (d:=40) aS),A2 (DH (d:=41) aS),A2 (DH (d:=92) aS),A2 (DH (d:=13) aS)]),oM,oM,oF,oM⟩,oM⟩
end
section
theorem XO (r:Nat) (p:Option Addr) (l:l8_) (c n:Nat) (w:World) (h:JJ w r p l c n) (hne:0<l.length->(pA p).block≠r) (hc:l.length<=c) (hl:l.length<=100000000) (ht:n<=l.length) :
  Calls Tryz.prog 121 #[ptV r] w (Ct 30 (M0 (l.drop n)) (λa=>a.1.val) (A4y w r p l c) (λw'=>Bo w.heap.size r w w')):=by
 have hr:=h.1
 have hb:=h.2
 refine Av func121 rfl ntmps121 ?_
 have cL:=Bo.refl (w.heap.size) r w
 refine A5<|C1 J0 rfl (λb1 eM b7 b8 aE ey=>?_)
 have dL:=Bx b7 hr.lt
 have dM:=hr.un aE dL
 have d:=λh0=>b7▸hb.lt h0
 have dN:=DQ hb aE d
 have bJ:=DW b7 cL.size
 have cM:=BY cL (EH aE bJ)
 refine A0<|Aj ?_
 have eN:r<b1:=by have:=hr.lt;omega
 refine Ak<|A3 rfl<|As (A0v r p l c n _ ⟨dM,dN⟩ hne hl ht) (λw7 aI=>?_)
 have cN:=aI.1.1
 have dO:=Iw b8 aI.2 b8.lt oO
 have b9:=aI.1.2
 have cR:=BY cM (Gq aI.2 cM.size)
 have cO:=PP false l n
 have eO:=FU false l n
 generalize AY false l n=s at *
 refine A0<|Aj<|A5<|A3 rfl<|As (MS r p l c s _ ⟨cN,b9⟩) (λeP ae=>?_)
 have af:=cN.drew ae
 have ba:=dO.drew ae
 have ag:=b9.drew ae
 have bb:=BY cR (Ob ae)
 refine A1 (.not rfl)<|A0<|Ae rfl (λbc=>?_) (λbc=>?_)
 have cS:=(nT bc)
 refine A5<|A1 (.buildL (ps:=_) Jt rfl rfl rfl pZ) ?_
 refine AH rfl rfl ba BG rfl rfl (λeQ bK ah eh=>?_)
 have cT:=af.up ah
 have cU:=DQ ag ah d
 have cV:=BY bb (EH ah oO)
 refine A0<|B2 (Ch rfl rfl (BF bK Eo rfl BG)  ?_)
 exact Ct.ok (⟨0,0,[]⟩,[]) (A26 cO (by simp_all)) rfl ⟨s,by rw [Bf (by simp_all)],oO,⟨cT,cU⟩,cV⟩
 have cS:=(nF bc)
 have bd:s<l.length:=by simp_all
 have hT:=A4Y cO bd
 obtain ⟨x,hx⟩:=eX (l[s]'bd)
 rw [<- hx] at hT
 have cP:=Fy l s oO
 refine Ap<|Aj<|Aj<|Eg Ci kR<|AA (.mv rfl) rfl<|AA (.nck rfl) rfl<|AA (.fa DI rfl Gr dD rfl) rfl<|Du (λm=>Af (g22_ _) rfl af rfl) rfl<|AA (.mv rfl) rfl<|AA (.nck rfl) rfl<|AA (.fa DI rfl B6 dD rfl) rfl<|Du (λm=>Af (BE _) rfl af rfl) rfl<|AA (.ixb BI Iy rfl rfl (ag.isp oO) (s) oO oO) rfl<|Du (λm=>Rd.iis ((x.toNat:Int)) (AS (P3 _) rfl ((ag.drewN m).cells (s) oO)) (by rw [hx])) rfl<|AA (.as rfl) rfl<|Dk (λeR ai=>?_)
 have b:=af.drew ai
 have i:=ba.drew ai
 have j:=ag.drew ai
 have f:=BY bb (Ob ai)
 refine A5<|A3 rfl<|A0<|AU<|A5<|A1 (.eql rfl rfl)<|Ab rfl<|Ae rfl (λbe=>?_) (λbe=>?_)
 have cW:=dT be
 refine A5<|A3 rfl<|A1 (.nck rfl)<|A1 (.fa DI rfl B6 dD rfl)<|Ai (Af (BE _) rfl b rfl)<|A1 (.iis (((s+1:Nat):Int)) (.add rfl rfl (Bn oO)) oO)<|A1 (.nck rfl)<|A1 (.fa DI rfl B6 dD rfl)<|WL.st B6 rfl rfl rfl b (by exact Nat.le_of_ble_eq_true rfl) (λdP aj C ei=>?_)
 have aj:Be dP r _ _:=aj
 have C:E6 r _ _:=C
 have bf:=i.up C
 have cX:=Ay.upd j C hne
 have ak:=BY f (BX C)
 refine A0<|A5<|A3 rfl<|By BQ rfl rfl ((XQ r p l c (s+1) _ ⟨aj,cX⟩ hne hc hl oO)) (λdQ dR am k=>?_) (λdS dR am k=>?_)
 have bg:=BY ak (Gq k ak.size)
 exact AE (BB dQ (by rw [hT,show x=40 from CH aS,A2d];exact am) bg)
 obtain ⟨kr,a3,a4,k⟩:=k
 have cY:=k.1.1
 have cZ:=Iw bf k.2 bf.lt oO
 have c':=k.1.2
 have d0:=BY ak (Gq k.2 ak.size)
 have D:=am
 obtain ⟨a0,aJ⟩:=eX dS
 refine AH rfl rfl cZ BG rfl rfl (λeS bL an ej=>?_)
 have d1:=cY.up an
 have d2:=DQ c' an d
 have d3:=BY d0 (EH an oO)
 refine A0<|B2 (Ch rfl rfl (BF bL Eo rfl BG)  ?_)
 exact Ct.ok _ (by rw [hT,show x=40 from CH aS,A2d];exact D) rfl ⟨_,a3,a4,⟨d1,d2⟩,d3⟩
 have cW:=dF be
 refine A5<|A1 (.eql rfl rfl)<|Ab rfl<|Ae rfl (λbh=>?_) (λbh=>?_)
 have d4:=dT bh
 refine Ak<|A1 (.mkI Mc rfl)<|FE rfl (AE ?_)
 exact BB 14 (by rw [hT,show x=41 from CH aS,A72]) f
 have d4:=dF bh
 refine Aj<|A5<|A1 (.eql rfl rfl)<|Ab rfl<|Ae rfl (λaK=>?_) (λaK=>?_)
 have d5:=dT aK
 refine Ap<|E3 rfl aK<|A5<|A3 rfl<|A1 (.nck rfl)<|A1 (.fa DI rfl B6 dD rfl)<|Ai (Af (BE _) rfl b rfl)<|A1 (.iis (((s+1:Nat):Int)) (.add rfl rfl (Bn oO)) oO)<|A1 (.nck rfl)<|A1 (.fa DI rfl B6 dD rfl)<|WL.st B6 rfl rfl rfl b (by exact Nat.le_of_ble_eq_true rfl) (λdU ao E ek=>?_)
 have ao:Be dU r _ _:=ao
 have E:E6 r _ _:=E
 have bi:=i.up E
 have d6:=Ay.upd j E hne
 have ap:=BY f (BX E)
 refine A0<|A5<|A3 rfl<|A3 rfl<|By BQ rfl rfl ((Rh r p l c (s+1) x _ ⟨ao,d6⟩ hne hc hl oO (by rintro rfl;first | exact D6 (show (0:Int)=60 by assumption) dD | exact D6 (show (0:Int)=62 by assumption) dD))) (λdV dW aq o=>?_) (λdX dW aq o=>?_)
 have bj:=BY ap (Gq o ap.size)
 exact AE (BB dV (by rw [hT,show x=60 from CH aS,A2b,<- show x=60 from CH aS];exact aq) bj)
 obtain ⟨kr,a3,a4,o⟩:=o
 have d7:=o.1.1
 have d8:=Iw bi o.2 bi.lt oO
 have d9:=o.1.2
 have da:=BY ap (Gq o.2 ap.size)
 have D:=aq
 obtain ⟨a0,aJ⟩:=eX dX
 refine AH rfl rfl d8 BG rfl rfl (λeT bM ar el=>?_)
 have db:=d7.up ar
 have dc:=DQ d9 ar d
 have dd:=BY da (EH ar oO)
 refine A0<|B2 (Ch rfl rfl (BF bM Eo rfl BG)  ?_)
 exact Ct.ok _ (by rw [hT,show x=60 from CH aS,A2b,<- show x=60 from CH aS];exact D) rfl ⟨_,a3,a4,⟨db,dc⟩,dd⟩
 have d5:=dF aK
 refine Ak<|A1 (.eql rfl rfl)<|Ab rfl<|Ae rfl (λbk=>?_) (λbk=>?_)
 have de:=dT bk
 refine A5<|A3 rfl<|A1 (.nck rfl)<|A1 (.fa DI rfl B6 dD rfl)<|Ai (Af (BE _) rfl b rfl)<|A1 (.iis (((s+1:Nat):Int)) (.add rfl rfl (Bn oO)) oO)<|A1 (.nck rfl)<|A1 (.fa DI rfl B6 dD rfl)<|WL.st B6 rfl rfl rfl b (by exact Nat.le_of_ble_eq_true rfl) (λdY au F em=>?_)
 have au:Be dY r _ _:=au
 have F:E6 r _ _:=F
 have bm:=i.up F
 have df:=Ay.upd j F hne
 have av:=BY f (BX F)
 refine A0<|A5<|A3 rfl<|A3 rfl<|By BQ rfl rfl ((Rh r p l c (s+1) x _ ⟨au,df⟩ hne hc hl oO (by rintro rfl;first | exact D6 (show (0:Int)=60 by assumption) dD | exact D6 (show (0:Int)=62 by assumption) dD))) (λdZ d' aw q=>?_) (λe0 d' aw q=>?_)
 have bn:=BY av (Gq q av.size)
 exact AE (BB dZ (by rw [hT,show x=62 from CH aS,A2a,<- show x=62 from CH aS];exact aw) bn)
 obtain ⟨kr,a3,a4,q⟩:=q
 have dg:=q.1.1
 have dh:=Iw bm q.2 bm.lt oO
 have di:=q.1.2
 have dj:=BY av (Gq q.2 av.size)
 have D:=aw
 obtain ⟨a0,aJ⟩:=eX e0
 refine AH rfl rfl dh BG rfl rfl (λeU bN ax en=>?_)
 have dk:=dg.up ax
 have dl:=DQ di ax d
 have dm:=BY dj (EH ax oO)
 refine A0<|B2 (Ch rfl rfl (BF bN Eo rfl BG)  ?_)
 exact Ct.ok _ (by rw [hT,show x=62 from CH aS,A2a,<- show x=62 from CH aS];exact D) rfl ⟨_,a3,a4,⟨dk,dl⟩,dm⟩
 have de:=dF bk
 refine Aj<|A5<|A1 (.eql rfl rfl)<|Ab rfl<|Ae rfl (λaL=>?_) (λaL=>?_)
 have dn:=dT aL
 refine Ap<|E3 rfl aL<|A5<|A3 rfl<|A1 (.nck rfl)<|A1 (.fa DI rfl B6 dD rfl)<|Ai (Af (BE _) rfl b rfl)<|A1 (.iis (((s+1:Nat):Int)) (.add rfl rfl (Bn oO)) oO)<|A1 (.nck rfl)<|A1 (.fa DI rfl B6 dD rfl)<|WL.st B6 rfl rfl rfl b (by exact Nat.le_of_ble_eq_true rfl) (λe1 ay G eo=>?_)
 have ay:Be e1 r _ _:=ay
 have G:E6 r _ _:=G
 have bo:=i.up G
 have dp:=Ay.upd j G hne
 have dq:=BY f (BX G)
 refine A0<|Aj<|A5<|A3 rfl<|A1 (.eql rfl rfl)<|A0<|Ae rfl (λbp=>?_) (λbp=>?_)
 have dr:=dT bp
 refine A5<|A1 (.buildL (ps:=_) Jt rfl rfl rfl pS) ?_
 refine AH rfl rfl bo BG rfl rfl (λeV bO az ep=>?_)
 have ds:=ay.up az
 have dt:=DQ dp az d
 have du:=BY dq (EH az oO)
 refine A0<|B2 (Ch rfl rfl (BF bO Eo rfl BG)  ?_)
 exact Ct.ok (⟨7,0,[]⟩,l.drop (s+1)) (by rw [hT,show x=123 from CH aS,A51]) rfl ⟨_,rfl,oO,⟨ds,dt⟩,du⟩
 have dr:=dF bp
 refine Ap<|A5<|A1 (.buildL (ps:=_) Jt rfl rfl rfl pS) ?_
 refine AH rfl rfl bo BG rfl rfl (λeW bP eq er=>?_)
 refine A0<|B2 (Ch rfl rfl (BF bP Eo rfl BG)  ?_)
 (exfalso;omega)
 have dn:=dF aL
 refine Ak<|A1 (.eql rfl rfl)<|Ab rfl<|Ae rfl (λbq=>?_) (λbq=>?_)
 have dv:=dT bq
 refine A5<|A3 rfl<|A1 (.nck rfl)<|A1 (.fa DI rfl B6 dD rfl)<|Ai (Af (BE _) rfl b rfl)<|A1 (.iis (((s+1:Nat):Int)) (.add rfl rfl (Bn oO)) oO)<|A1 (.nck rfl)<|A1 (.fa DI rfl B6 dD rfl)<|WL.st B6 rfl rfl rfl b (by exact Nat.le_of_ble_eq_true rfl) (λe2 aA H es=>?_)
 have aA:Be e2 r _ _:=aA
 have H:E6 r _ _:=H
 have bt:=i.up H
 have dw:=Ay.upd j H hne
 have dx:=BY f (BX H)
 refine A0<|Aj<|A5<|A3 rfl<|A1 (.eql rfl rfl)<|A0<|Ae rfl (λbu=>?_) (λbu=>?_)
 have dy:=dT bu
 refine A5<|A1 (.buildL (ps:=_) Jt rfl rfl rfl pS) ?_
 refine AH rfl rfl bt BG rfl rfl (λeY bQ et eu=>?_)
 refine A0<|B2 (Ch rfl rfl (BF bQ Eo rfl BG)  ?_)
 (exfalso;omega)
 have dy:=dF bu
 refine Ap<|A5<|A1 (.buildL (ps:=_) Jt rfl rfl rfl pS) ?_
 refine AH rfl rfl bt BG rfl rfl (λez bv a5 e3=>?_)
 have bR:=aA.up a5
 have bS:=DQ dw a5 d
 have bT:=BY dx (EH a5 oO)
 refine A0<|B2 (Ch rfl rfl (BF bv Eo rfl BG)  ?_)
 exact Ct.ok (⟨8,0,[]⟩,l.drop (s+1)) (by rw [hT,show x=125 from CH aS,A50]) rfl ⟨_,rfl,oO,⟨bR,bS⟩,bT⟩
 have dv:=dF bq
 refine Aj<|A5<|A1 (.eql rfl rfl)<|Ab rfl<|Ae rfl (λaB=>?_) (λaB=>?_)
 have bU:=dT aB
 refine Ap<|E3 rfl aB<|A5<|A3 rfl<|A1 (.nck rfl)<|A1 (.fa DI rfl B6 dD rfl)<|Ai (Af (BE _) rfl b rfl)<|A1 (.iis (((s+1:Nat):Int)) (.add rfl rfl (Bn oO)) oO)<|A1 (.nck rfl)<|A1 (.fa DI rfl B6 dD rfl)<|WL.st B6 rfl rfl rfl b (by exact Nat.le_of_ble_eq_true rfl) (λdz J t e4=>?_)
 have J:Be dz r _ _:=J
 have t:E6 r _ _:=t
 have aM:=i.up t
 have aN:=Ay.upd j t hne
 have aO:=BY f (BX t)
 refine A0<|A5<|A3 rfl<|CF (ps:=_) BI Iy Qk rfl rfl rfl rfl rfl pR rfl (λeA ev U bw K e5=>?_)
 have bV:=Bx U J.lt
 have bW:=J.un K bV
 have bX:=Bx U aM.lt
 have bY:=aM.un K bX
 have bx:=λh0=>U▸aN.lt h0
 have bZ:=DQ aN K bx
 have b2:=DW U aO.size
 have b':=BY aO (EH K b2)
 refine Ai (MG (l:=[x]) BI Ln JK rfl (Ay.one bw rfl))<|?_
 refine A1 (.buildL (ps:=_) Jt rfl rfl rfl pS) ?_
 refine AH rfl rfl bY BG rfl rfl (λeB bz a6 e6=>?_)
 have c0:=bW.up a6
 have c2:=DQ bZ a6 d
 have c3:=BY b' (EH a6 oO)
 refine A0<|B2 (Ch rfl rfl (BF bz Eo rfl BG)  ?_)
 exact Ct.ok (⟨3,0,[x]⟩,l.drop (s+1)) (by rw [hT,show x=91 from CH aS,A71]) rfl ⟨_,rfl,oO,⟨c0,c2⟩,c3⟩
 have bU:=dF aB
 refine Ak<|A1 (.eql rfl rfl)<|Ab rfl<|Ae rfl (λaF=>?_) (λaF=>?_)
 have c4:=dT aF
 refine A5<|A3 rfl<|A1 (.nck rfl)<|A1 (.fa DI rfl B6 dD rfl)<|Ai (Af (BE _) rfl b rfl)<|A1 (.iis (((s+1:Nat):Int)) (.add rfl rfl (Bn oO)) oO)<|A1 (.nck rfl)<|A1 (.fa DI rfl B6 dD rfl)<|WL.st B6 rfl rfl rfl b (by exact Nat.le_of_ble_eq_true rfl) (λdA L u e7=>?_)
 have L:Be dA r _ _:=L
 have u:E6 r _ _:=u
 have aP:=i.up u
 have aQ:=Ay.upd j u hne
 have aR:=BY f (BX u)
 refine A0<|A5<|A3 rfl<|CF (ps:=_) BI Iy Qk rfl rfl rfl rfl rfl pR rfl (λeC ew V bA N e8=>?_)
 have c5:=Bx V L.lt
 have c6:=L.un N c5
 have c7:=Bx V aP.lt
 have c8:=aP.un N c7
 have bB:=λh0=>V▸aQ.lt h0
 have c9:=DQ aQ N bB
 have b3:=DW V aR.size
 have ca:=BY aR (EH N b3)
 refine Ai (MG (l:=[x]) BI Ln JK rfl (Ay.one bA rfl))<|?_
 refine A1 (.buildL (ps:=_) Jt rfl rfl rfl pS) ?_
 refine AH rfl rfl c8 BG rfl rfl (λeD bC a7 e9=>?_)
 have cb:=c6.up a7
 have cc:=DQ c9 a7 d
 have cd:=BY ca (EH a7 oO)
 refine A0<|B2 (Ch rfl rfl (BF bC Eo rfl BG)  ?_)
 exact Ct.ok (⟨3,0,[x]⟩,l.drop (s+1)) (by rw [hT,show x=93 from CH aS,A70]) rfl ⟨_,rfl,oO,⟨cb,cc⟩,cd⟩
 have c4:=dF aF
 refine A5<|A1 (.eql rfl rfl)<|Ab rfl<|Ae rfl (λaG=>?_) (λaG=>?_)
 have cf:=dT aG
 refine A5<|A3 rfl<|A1 (.nck rfl)<|A1 (.fa DI rfl B6 dD rfl)<|Ai (Af (BE _) rfl b rfl)<|A1 (.iis (((s+1:Nat):Int)) (.add rfl rfl (Bn oO)) oO)<|A1 (.nck rfl)<|A1 (.fa DI rfl B6 dD rfl)<|WL.st B6 rfl rfl rfl b (by exact Nat.le_of_ble_eq_true rfl) (λdB a8 v ea=>?_)
 have a8:Be dB r _ _:=a8
 have v:E6 r _ _:=v
 have aT:=i.up v
 have cg:=Ay.upd j v hne
 have X:=BY f (BX v)
 refine A0<|A5<|A3 rfl<|By BQ rfl rfl ((XP r p l c (s+1) _ ⟨a8,cg⟩ hne hc hl oO)) (λdC dE a9 g=>?_) (λdG dE a9 g=>?_)
 have b4:=BY X (Gq g X.size)
 exact AE (BB dC (by rw [hT,show x=47 from CH aS,A2c];exact a9) b4)
 obtain ⟨kr,a3,a4,g⟩:=g
 have ci:=g.1.1
 have cj:=Iw aT g.2 aT.lt oO
 have ck:=g.1.2
 have cl:=BY X (Gq g.2 X.size)
 have D:=a9
 obtain ⟨a0,aJ⟩:=eX dG
 refine AH rfl rfl cj BG rfl rfl (λeF bD aa eb=>?_)
 have cm:=ci.up aa
 have cn:=DQ ck aa d
 have co:=BY cl (EH aa oO)
 refine A0<|B2 (Ch rfl rfl (BF bD Eo rfl BG)  ?_)
 exact Ct.ok _ (by rw [hT,show x=47 from CH aS,A2c];exact D) rfl ⟨_,a3,a4,⟨cm,cn⟩,co⟩
 have cf:=dF aG
 refine Ap<|A5<|A3 rfl<|As (Pd r p l c s _ ⟨b,j⟩ hne hc hl oO) (λeG Y=>?_)
 have cq:=Y.1.1
 have cr:=Iw i Y.2 i.lt oO
 have aU:=Y.1.2
 have aV:=BY f (Gq Y.2 f.size)
 refine Ab rfl<|Aj ?_
 obtain ⟨T,cQ⟩:=eX (GO ((l.drop s).takeWhile E1))
 have hX:M0 (l.drop n)=if T.e≠0 then .error T.e else if T.ok then .ok (⟨T.kind,T.n,[]⟩,l.drop (C0 l s)) else J9 3 (l.drop s):=by rw [hT,A0h _ oO oO oO oO oO oO oO oO oO,hx,<- Ar bd,<- MI,cQ];rfl
 have ec:∀ w,C9 95 #[.string (bs ((l.drop s).takeWhile E1))] w T.val:=λw=>by rw [cQ];exact U7 _ w
 refine Ak<|A3 rfl<|As (ec _) (λeH a1=>?_)
 have aW:=cq.bl a1
 have aX:=cr.bl a1
 have aY:=Hk aU a1 (λh0=>aU.lt h0)
 have aZ:=BY aV (Gq (JM a1) aV.size)
 refine A3 rfl<|A1 (.ext rfl rfl)<|A1 (.ext rfl rfl)<|A1 (.ext rfl rfl)<|C1 J0 rfl (λeI ex a2 bE P ed=>?_)
 have ct:=Bx a2 aW.lt
 have cu:=aW.un P ct
 have cv:=Bx a2 aX.lt
 have cw:=aX.un P cv
 have aD:=λh0=>a2▸aY.lt h0
 have cy:=DQ aY P aD
 have b5:=DW a2 aZ.size
 have cz:=BY aZ (EH P b5)
 refine AH rfl rfl bE BG rfl rfl (λeJ bG Q ee=>?_)
 have a':=cu.up Q
 have b0:=cw.up Q
 have aC:=DQ cy Q aD
 have y:=BY cz (EH Q oO)
 refine DA rfl<|Ab rfl<|Aj<|AU<|A5<|A3 rfl<|A1 (.neq rfl rfl)<|Ab rfl<|Ae rfl (λaH=>?_) (λaH=>?_)
 have cA:=Kj aH
 refine Ak<|A3 rfl<|A1 (.mkI Mc rfl)<|FE rfl (AE ?_)
 exact BB T.e (by rw [hX,A7 aS]) y
 have cA:=Kk aH
 refine A5<|A3 rfl<|Ab rfl<|Ae rfl (λdH=>?_) (λdH=>?_)
 refine A5<|Ai (BD rfl bG Eo rfl BG)<|AH rfl rfl b0 BG rfl rfl (λeK bH ab ef=>?_)
 have cB:=a'.up ab
 have cC:=DQ aC ab d
 have cD:=BY y (EH ab oO)
 refine A0<|B2 (Ch rfl rfl (BF bH Eo rfl BG)  ?_)
 exact Ct.ok (⟨T.kind,T.n,[]⟩,l.drop (C0 l s)) (by rw [hX,A2 (λh=>h aS),A7 aS]) rfl ⟨_,rfl,cP.2,⟨cB,cC⟩,cD⟩
 refine Ap<|A5<|A3 rfl<|By BQ rfl rfl ((Pe 3 _ _ (by have:=R1 l s;omega))) (λdI dJ ac B=>?_) (λdK dJ ac B=>?_)
 have b6:=BY y (Gq (JM B) y.size)
 exact AE (BB dI (by rw [hX,A2 (λh=>h aS),A2 (bF aS)];exact Pw ac) b6)
 have cE:=a'.bl B
 have cF:=b0.bl B
 have cG:=Hk aC B (λh0=>aC.lt h0)
 have cH:=BY y (Gq (JM B) y.size)
 obtain ⟨a0,aJ⟩:=eX dK
 have D:=ac
 refine AH rfl rfl cF BG rfl rfl (λeL bI ad eg=>?_)
 have cI:=cE.up ad
 have cJ:=DQ cG ad d
 have cK:=BY cH (EH ad oO)
 refine A0<|B2 (Ch rfl rfl (BF bI Eo rfl BG)  ?_)
 exact Ct.ok (_,l.drop (C0 l s)) (by rw [hX,A2 (λh=>h aS),A2 (bF aS),RN D,MI]) rfl ⟨_,rfl,cP.2,⟨cI,cJ⟩,cK⟩
end
section
set_option maxRecDepth 4000
theorem Nz (b1 b2 b5:Nat) (w:World) :
  CallsD Tryz.prog 120 #[ptV b1,ptV b2,ptV b5] .returning w λe u' w'=>u'=.returning/\(∃ v,e=.returned v)/\w'=w:=by
 refine IS func120 rfl ntmps120 bL rfl<|Ab rfl<|A5<|A3 rfl<|A1 (.neNil0 kR rfl)<|A0<|E4 rfl rfl<|Ap<|BU (BK rfl ?_)
 exact ⟨⟨_,rfl⟩,rfl⟩
theorem VL (b1 b2 b5 B:Nat) (x y:Int) (z:ByteArray) (i j k:Int) (w:World) (h1:Be w b1 #[Ah x,Ah y,.string z] 147) (h2:Be w b2 #[Ah i] 3) (h5:Be w b5 #[Ah j] 30) (hB1:B<=b1) (h12:b1<b2) (h25:b2<b5) :
  CallsD Tryz.prog 120 #[ptV b1,ptV b2,ptV b5] (.panicking [{ v:=.iface 30 (Ah k),recovered:=false }]) w
   λe u' w'=>u'=.panicking [{ v:=.iface 30 (Ah k),recovered:=true }]/\(∃ v,e=.returned v) /\
    Be w' b1 #[Ah 0,Ah 0,.string ⟨#[]⟩] 147/\Be w' b2 #[Ah 0] 3/\Be w' b5 #[Ah k] 30/\Below B w w':=by
 refine IS func120 rfl ntmps120 bL rfl ?_
 have q:=Nh (B) w
 refine Ab rfl<|A5<|A3 rfl<|A1 (.neNil kR rfl)<|A0<|E3 rfl rfl<|A5<|A3 rfl<|A1 (.tas Mc rfl)<|A3 rfl<|A1 (.ext rfl rfl)<|A1 (.ext rfl rfl)<|DA rfl<|Ab rfl<|Aj<|A5<|A3 rfl<|A1 (.not rfl)<|A0<|E4 rfl rfl ?_
 refine Ap<|Ak<|A1 (.buildL (ps:=_) Jt rfl rfl rfl pZ) ?_
 refine A3 rfl<|AH rfl rfl h1 BG rfl rfl (λL g c F=>?_)
 have s:=h2.upd c oM
 have t:=h5.upd c oM
 have u:=CP q oO c
 refine WL.st B6 rfl rfl rfl s (by exact Nat.le_of_ble_eq_true rfl) (λG d a H=>?_)
 have d:Be G b2 _ _:=d
 have a:E6 b2 _ _:=a
 have C:=g.up a
 have D:=t.up a
 have E:=CP u oO a
 refine WL.st GJ rfl rfl rfl D (by exact Nat.le_of_ble_eq_true rfl) (λJ f b K=>?_)
 have f:Be J b5 _ _:=f
 have b:E6 b5 _ _:=b
 have l:=C.up b
 have m:=d.up b
 have o:=CP E oO b
 refine A0<|BU (BK rfl ?_)
 exact ⟨⟨_,rfl⟩,l,m,f,o⟩
theorem A0w (a:Int) (p:Option Addr) (l:l8_) (c:Nat) (w:World) (hb:Ay w p l) (hc:l.length<=c) (hl:l.length<=100000000) :
    Calls Tryz.prog 90 #[.slice p l.length c,Ah a] w λe w'=>e=.returned (GD l a).val/\AD w w':=by
  refine SA func90 rfl ntmps90 bL ?_;refine WD.seq<|Ak<|C1 J0 rfl (λb1 ba au a3 a4 b2=>?_);have ay:=λu=>au▸hb.lt u
  have av:=DQ hb a4 ay;refine C1 PM rfl (λb5 bb a5 a6 Q b3=>?_);have aH:=Bx a5 a3.lt;have aw:=a3.un Q aH;have az:=λu=>a5▸av.lt u
  have ax:=DQ av Q az;refine C1 zeroValue30 rfl (λa2 b4 v x g aQ=>?_);have aA:=Bx v aw.lt;have T:=aw.un g aA;have aB:=Bx v a6.lt;have U:=a6.un g aB;have ae:=λu=>v▸ax.lt u
  have a7:=DQ ax g ae;have a8:=uB (uB (uB (DR w) au a4) a5 Q) v g;refine A0<|WD.seq<|Fx 15 (decide (a<0\/(l.length:Int)<a)) ?_ ?_;refine Ak<|A3 rfl<|A1 (.lss rfl rfl)<|A3 rfl<|B5 rfl rfl rfl (λd=>?_) (λd=>?_)
  · have aC := dF d
    refine A3 rfl<|Au d<|A3 rfl<|Au d<|A1 (.lenS BI rfl)<|Au d<|A1 (.gtr rfl rfl)<|A1 (.pkF rfl d rfl)<|A0<|?_;exact ⟨Gm (CD rfl (by (apply B1.2;(try simp only [A4,BC,AP,Ad,Aw,BN,BT,false_iff,iff_false,true_iff,iff_true]);omega))),rfl⟩
  have aC:=dT d;refine Ac d<|Ac d<|Ac d<|A1 (.pkT rfl d rfl)<|A0<|?_;exact ⟨Gm (CD rfl (by (apply B1.2;(try simp only [A4,BC,AP,Ad,Aw,BN,BT,false_iff,iff_false,true_iff,iff_true]);omega))),rfl⟩;refine A4v rfl (λaD=>?_) (λaD=>?_)
  · skip
    refine A5<|A1 (.buildL (ps:=_) Jt rfl rfl rfl pZ) ?_;refine AH rfl rfl T BG rfl rfl (λbc af y aR=>?_);refine D1 (U.up y) B6 (λbd ag A aS=>?_);refine D1 ((x.up y).up A) GJ (λbe ah B aT=>?_);refine A0<|B2 ?_;exact O1 (Ir rfl rfl rfl rfl (BF ((af.up A).up B) Eo rfl BG) (Bt (ag.up B) (BE _) rfl) (Bt ah (GL _) rfl)) ⟨Cv (by unfold GD;rw [A7 oO];(first | done | rfl)),(CP (CP (CP a8 oO y) oO A) oO B)⟩
  obtain ⟨n,rfl⟩:=Int.eq_ofNat_of_zero_le (a:=a) oO;have hN:GD l (n:Int)=A0Z l (M0 (l.drop n)):=by unfold GD;rw [A2 oO];rfl
  refine Ap<|WD.defer rfl rfl<|WD.of<|A5<|A3 rfl<|A3 rfl<|?_;refine A1 (.buildL (ps:=_) A7W rfl rfl rfl pS) ?_;refine D5 rfl rfl (λaI b6 k ai f aU=>?_);have aE:=Bx k T.lt;have C:=T.un f aE;have aF:=Bx k U.lt;have D:=U.un f aF;have aG:=Bx k x.lt;have E:=x.un f aG;have aj:=λu=>k▸a7.lt u
  have F:=uB a8 k f;refine Ab rfl<|A5<|A3 rfl<|By BQ rfl rfl ((XO aI p l c n _ ⟨ai,(DQ a7 f aj)⟩ (λu=>by have:=hb.lt u;omega) hc hl oO)) (λaJ aK G b=>?_) (λaL aK G b=>?_);exact LL Zy (λw'=>_) (VL b1 b5 a2 w.heap.size _ _ _ _ _ aJ _ (Iw C b C.lt oO) (Iw D b D.lt oO) (Iw E b E.lt oO) oO oO oO)
    (λw' hS=>⟨_,Ir rfl rfl rfl rfl (BF hS.1 Eo rfl BG) (Bt hS.2.1 (BE _) rfl) (Bt hS.2.2.1 (GL _) rfl),Cv (by rw [hN,G];(first | done | rfl)),(EU F (Bo.below b F.size oO)).trans hS.2.2.2⟩)
  obtain ⟨kr,aM,a9,b⟩:=b;have aa:=G;obtain ⟨t0,rest⟩:=aL;obtain rfl:rest=l.drop kr:=aM;refine AH rfl rfl (Iw C b.2 C.lt oO) BG rfl rfl (λbf ak i aV=>?_);refine A0<|Aj<|Vc<|ME 8 rfl Ci (λbg m=>?_);have o:=ak.drew m;have V:=((Iw D b.2 D.lt oO).up i).drew m;have X:=((Iw E b.2 E.lt oO).up i).drew m;have a0:=(b.1.1.up i).drew m;have a1:=Df.below (CP (EU F (Bo.below b.2 F.size oO)) oO i) m;refine Bs 1 rfl (.mv rfl) rfl<|Bs 2 rfl (.nck rfl) rfl<|Bs 3 rfl (.fa DI rfl B6 dD rfl) rfl<|Em 0 rfl 4 rfl ?_ ?_;refine Ai (BD rfl o Eo rfl BG)<|A0<|Em 4 rfl 5 rfl ?_ ?_;refine Ai (Af (BE _) rfl a0 rfl)<|A0<|AG 5 rfl<|AH rfl rfl o BG rfl rfl (λbh am H aW=>?_);refine A0<|AG 6 rfl<|D1 (V.up H) B6 (λbi an J aX=>?_);refine A0<|AG 7 rfl<|D1 ((X.up H).up J) GJ (λbj ao K aY=>?_);refine A0<|Cg kR<|B2 ?_;exact Ew.ret Zy (λw'=>_) (Nz b1 b5 a2 _)
    (λw' hS=>by subst hS;exact ⟨_,Ir rfl rfl rfl rfl (BF ((am.up J).up K) Eo rfl BG) (Bt (an.up K) (BE _) rfl) (Bt ao (GL _) rfl),Cv (by rw [hN,aa,Pu _ _ _ a9];(first | done | rfl)),(CP (CP (CP a1 oO H) oO J) oO K)⟩)
  refine AH rfl rfl o BG rfl rfl (λbk ap j aZ=>?_);refine A0<|AG 4 rfl<|Ai (Af (BE _) rfl (a0.up j) rfl)<|A0<|AG 6 rfl<|D1 (V.up j) B6 (λbl aq L a'=>?_);refine A0<|AG 7 rfl<|D1 ((X.up j).up L) GJ (λbm ar P b0=>?_);refine A0<|Cg kR<|B2 ?_;exact Ew.ret Zy (λw'=>_) (Nz b1 b5 a2 _)
    (λw' hS=>by subst hS;exact ⟨_,Ir rfl rfl rfl rfl (BF ((ap.up L).up P) Eo rfl BG) (Bt (aq.up P) (BE _) rfl) (Bt ar (GL _) rfl),Cv (by rw [hN,aa,Pu _ _ _ a9];(first | done | rfl)),(CP (CP (CP a1 oO j) oO L) oO P)⟩)
  refine Ai (Af (BE _) rfl a0 rfl)<|A0<|AG 0 rfl<|Ai (BD rfl o Eo rfl BG)<|A0<|AG 5 rfl<|AH rfl rfl o BG rfl rfl (λb7 ab q aN=>?_);refine A0<|AG 6 rfl<|D1 (V.up q) B6 (λb8 ac s aO=>?_);refine A0<|AG 7 rfl<|D1 ((X.up q).up s) GJ (λb9 ad t aP=>?_);refine A0<|Cg kR<|B2 ?_;exact Ew.ret Zy (λw'=>_) (Nz b1 b5 a2 _)
    (λw' hS=>by subst hS;exact ⟨_,Ir rfl rfl rfl rfl (BF ((ab.up s).up t) Eo rfl BG) (Bt (ac.up t) (BE _) rfl) (Bt ad (GL _) rfl),Cv (by rw [hN,aa,Pu _ _ _ a9];(first | done | rfl)),(CP (CP (CP a1 oO q) oO s) oO t)⟩)
end
section
section
variable {P:Program} {f:Fr} {x y:Operand} {tx ty:TypeId} {a b r:Int} {k:IntKind}
theorem BM.shr6 (hx:D3 f x=some (.int .u8 a)) (hr:a.fdiv 64=r):BM P (.binOp .shr tx x (.const (.int .u64 6)) ty) f (.int .u8 r):=λρ hρ d ty' pos aft g w=>by
 have h4:ρ (.const (.int .u64 6))=.int .u64 6:=hρ _ _ rfl
 have e:(Op.shift .shr .u8 a .u64 6).run P w=.ok (.int .u8 r) w:=by
  subst hr;rfl
 simp [execOp,hρ _ _ hx,h4,eqGuard,binOp,e]
theorem BM.and (hx:D3 f x=some (.int k a)) (hy:D3 f y=some (.int k b)) (hr:bits .and k a b=r):BM P (.binOp .and tx x y ty) f (.int k r):=λρ hρ d ty' pos aft g w=>by
 simp [execOp,hρ _ _ hx,hρ _ _ hy,eqGuard,binOp,intBits_and,hr]
end
def A3h (c:UInt8):UInt8:=c ||| ((32:UInt8) * ((c >>> (6:UInt8)) &&& (1:UInt8)))
theorem A5D (c:UInt8):(c.toNat:Int).fdiv 64=((c >>> (6:UInt8)).toNat:Int):=by
 have key:∀ n:Fin 256,((UInt8.ofNat n.1).toNat:Int).fdiv 64=(((UInt8.ofNat n.1) >>> (6:UInt8)).toNat:Int):=by decide +kernel
 have h:=key ⟨c.toNat,CE c⟩
 have e:UInt8.ofNat (⟨c.toNat,CE c⟩:Fin 256).1=c:=UInt8.ofNat_toNat
 rw [e] at h
 exact h
theorem A5G (c:UInt8):bits .and .u8 ((c >>> (6:UInt8)).toNat:Int) 1=(((c >>> (6:UInt8)) &&& (1:UInt8)).toNat:Int):=by
 have key:∀ n:Fin 256,bits .and .u8 (((UInt8.ofNat n.1) >>> (6:UInt8)).toNat:Int) 1=((((UInt8.ofNat n.1) >>> (6:UInt8)) &&& (1:UInt8)).toNat:Int):=by decide +kernel
 have h:=key ⟨c.toNat,CE c⟩
 have e:UInt8.ofNat (⟨c.toNat,CE c⟩:Fin 256).1=c:=UInt8.ofNat_toNat
 rw [e] at h
 exact h
theorem A5E (c:UInt8):IntKind.u8.wrap (32 * (((c >>> (6:UInt8)) &&& (1:UInt8)).toNat:Int))=(((32:UInt8) * ((c >>> (6:UInt8)) &&& (1:UInt8))).toNat:Int):=by
 have key:∀ n:Fin 256,IntKind.u8.wrap (32 * ((((UInt8.ofNat n.1) >>> (6:UInt8)) &&& (1:UInt8)).toNat:Int))=(((32:UInt8) * (((UInt8.ofNat n.1) >>> (6:UInt8)) &&& (1:UInt8))).toNat:Int):=by decide +kernel
 have h:=key ⟨c.toNat,CE c⟩
 have e:UInt8.ofNat (⟨c.toNat,CE c⟩:Fin 256).1=c:=UInt8.ofNat_toNat
 rw [e] at h
 exact h
theorem A7x (c:UInt8):bits .or .u8 (c.toNat:Int) (((32:UInt8) * ((c >>> (6:UInt8)) &&& (1:UInt8))).toNat:Int)=((A3h c).toNat:Int):=by
 have key:∀ n:Fin 256,bits .or .u8 ((UInt8.ofNat n.1).toNat:Int) (((32:UInt8) * (((UInt8.ofNat n.1) >>> (6:UInt8)) &&& (1:UInt8))).toNat:Int)=((A3h (UInt8.ofNat n.1)).toNat:Int):=by decide +kernel
 have h:=key ⟨c.toNat,CE c⟩
 have e:UInt8.ofNat (⟨c.toNat,CE c⟩:Fin 256).1=c:=UInt8.ofNat_toNat
 rw [e] at h
 exact h
theorem A5F (c:UInt8):Lib.indexByte [48,49,50,51,52,53,54,55,56,57,97,98,99,100,101,102] (A3h c)=NU c:=by
 have key:∀ n:Fin 256,Lib.indexByte [48,49,50,51,52,53,54,55,56,57,97,98,99,100,101,102] (A3h (UInt8.ofNat n.1))=NU (UInt8.ofNat n.1):=by decide +kernel
 have h:=key ⟨c.toNat,CE c⟩
 have e:UInt8.ofNat (⟨c.toNat,CE c⟩:Fin 256).1=c:=UInt8.ofNat_toNat
 rw [e] at h
 exact h
theorem JU (c:UInt8) (w:World):Calls Tryz.prog 87 #[.int .u8 (c.toNat:Int)] w λe w'=>e=.returned (Ah (NU c))/\w=w':=by
 refine Av func87 rfl ntmps87<|A5<|Ab rfl<|A5<|A3 rfl<|A3 rfl<|A1 (.shr6 rfl (A5D c))<|A1 (.and rfl rfl (A5G c))<|A1 (.mul rfl rfl (A5E c))<|A1 (.or rfl rfl (A7x c))<|As (NM [48,49,50,51,52,53,54,55,56,57,97,98,99,100,101,102] (A3h c) _) (λb a=>?_)
 obtain rfl:=a
 refine Ab rfl<|AI ?_
 exact ⟨El (A5F c),rfl⟩
theorem ZF (c:UInt8) (w:World) (m:Nat):Calls Tryz.prog 87 #[.int .u8 (c.toNat:Int)] (w.drewN m) λe w'=>e=.returned (Ah (NU c))/\∃ k,w'=w.drewN k :=
 (JU c (w.drewN m)).mono λe w' h=>⟨h.1,m,h.2.symm⟩
theorem L9 (c:UInt8) (r:l8_):Ng (c::r)=if c=35 then (match r with | a::b::r'=>if Er a<16/\Er b<16 then (Ng r').map (ch ((16 * Er a+Er b:Nat):Int)::·) else none | _=>none) else (Ng r).map (c::·):=by
 match r with
 | []=>by_cases h:c=35 <;> simp [Ng,h]
 | [a]=>by_cases h:c=35 <;> simp [Ng,h]
 | a::b::r'=>by_cases h:c=35 <;> simp [Ng,h]
def Qy (acc s:l8_):Option (l8_):=(Ng s).map (acc++·)
theorem A3T (acc:l8_):Qy acc []=some acc:=by simp [Qy,Ng]
theorem YE (acc s:l8_) (i:Nat) (h:i<s.length) (hc:s[i]≠35):Qy acc (s.drop i)=Qy (acc++[s[i]]) (s.drop (i+1)):=by
 unfold Qy
 rw [Ar h,L9,A2 hc,Option.map_map]
 congr 1
 funext x
 simp
theorem YD (acc s:l8_) (i:Nat) (h:i<s.length) (hc:s[i]=35) (h2:s.length<=i+2):Qy acc (s.drop i)=none:=by
 unfold Qy
 rw [Ar h,L9,A7 hc]
 have hl:(s.drop (i+1)).length<=1:=by rw [B9];omega
 match s.drop (i+1),hl with
 | [],_=>rfl
 | [a],_=>rfl
theorem PI (acc s:l8_) (i:Nat) (h:i+2<s.length) (hc:s[i]=35):Qy acc (s.drop i)=if Er s[i+1]<16/\Er s[i+2]<16 then Qy (acc++[ch ((16 * Er s[i+1]+Er s[i+2]:Nat):Int)]) (s.drop (i+3)) else none:=by
 unfold Qy
 rw [Ar (show i<s.length by omega),L9,A7 hc,Ar (show i+1<s.length by omega),Ar (show i+1+1<s.length by omega)]
 simp only
 split
 ·
  rw [Option.map_map]
  congr 1
  funext x
  simp
 · rfl
theorem A5H (q:Option Addr) (s:l8_) (c:Nat) (x:UInt8) (w:World) (hb:Ay w q s) (hl:s.length<=1000000000) :
  Calls Tryz.prog 119 #[.slice q s.length c,.int .u8 (x.toNat:Int)] w λe w'=>(∃ a:Int,e=.returned (Ah a)/\(0<=a↔x∈s))/\w=w':=by
 refine Av func119 rfl ntmps119<|A5<|Ab rfl<|Aj<|A5<|A3 rfl<|A1 (.lenS BI rfl)<|A3 rfl<|A0<|AU<|Cf (α:=Nat) (λt=>[(0,.slice q s.length c),(1,.int .u8 (x.toNat:Int)),(7,Ah (s.length:Int)),(8,Ah (t:Int))]) (λt w'=>w=w'/\t<=s.length/\x ∉ s.take t) (λt=>s.length-t) (0) ⟨rfl,rfl,rfl,rfl,tT⟩ (⟨rfl,G8 _,by simp⟩) (λt k hR=>?_)
 obtain ⟨i,rfl⟩:=eX t
 obtain ⟨rfl,hi,b⟩:=hR
 refine A5<|A1 (.lss rfl rfl)<|A0<|Aj<|Ae rfl (λd=>?_) (λd=>?_)
 have g:=dT d
 refine Ap<|Aj<|AU<|A5<|A3 rfl<|Ab rfl<|A5<|A3 rfl<|A3 rfl<|A3 rfl<|A1 (.ixb BI Iy rfl rfl (hb.isp oO) (i) (rfl) oO)<|Ai (AS (P3 _) rfl (hb.cells (i) oO))<|A1 (.eql rfl rfl)<|A0<|Ae rfl (λf=>?_) (λf=>?_)
 have j:=dT f
 refine A5<|A3 rfl<|Ab rfl<|AI ?_
 exact ⟨⟨_,rfl,λ_=>by rw [show x=s[i]'oO from CH aS];exact AM _,λ_=>by omega⟩,rfl⟩
 have j:=dF f
 refine Ap<|Ak<|A1 (.iis (((i+1:Nat):Int)) (.add rfl rfl (Bn oO)) oO)<|A3 rfl<|A0<|?_
 exact ⟨i+1,⟨rfl,rfl,rfl,rfl,tT⟩,⟨rfl,oM,by
  rw [List.take_add_one,A6 oO,Option.toList_some,B4,Ao];exact λh=>h.elim b (DH aS)⟩,oM⟩
 have g:=dF d
 refine C7<|A5<|Ab rfl<|AI ?_
 exact ⟨⟨_,rfl,λh=>D6 h dD,λh=>by rw [show s.take i=s from AR oO] at b;exact D6 h b⟩,rfl⟩
theorem A5I (q:Option Addr) (s:l8_) (c:Nat) (x:UInt8) (w:World) (hb:Ay w q s) (hl:s.length<=1000000000) :
  Calls Tryz.prog 88 #[.slice q s.length c,.int .u8 (x.toNat:Int)] w λe w'=>e=.returned (.bool (decide (x∈s)))/\w=w':=by
 have hI:∀ b,Ay b q s->Calls Tryz.prog 119 #[.slice q s.length c,.int .u8 (x.toNat:Int)] b λe w'=>∃ a:{ a:Int // 0<=a↔x∈s },e=.returned (Ah a.1)/\b=w':=λb f =>
  (A5H q s c x b f hl).mono λe w' ⟨⟨a,g,i⟩,j⟩=>⟨⟨a,i⟩,g,j⟩
 refine Av func88 rfl ntmps88<|A5<|Ab rfl<|A5<|A3 rfl<|A3 rfl<|DO BQ rfl rfl ((hI _ hb)) (λa b d=>?_)
 obtain rfl:=d
 refine A1 (.geq rfl rfl)<|Ab rfl<|AI ?_
 exact ⟨EY (DX.2 a.2),rfl⟩
theorem TM (r:Nat) (p:Option Addr) (l:l8_) (c t:Nat) (refs:Bool) (w:World) (h:QB w r p l c t refs) (hne:0<l.length->(pA p).block≠r) (hc:l.length<=c) (hl:l.length<=100000000) (ht:t<=l.length) :
  Calls Tryz.prog 59 #[ptV r] w (Ct 30 (Jz l t) (λa=>.string (bs a.1)) (λa w'=>QB w' r p l c a.2 refs/\Bo w.heap.size r w w') (λw'=>Bo w.heap.size r w w')):=by
 have hr:=h.1
 have hb:=h.2
 obtain ⟨X,hX⟩:=eX (Jz l t)
 rw [<- hX]
 unfold Jz at hX
 have aN:=Fy l t ht
 have aO:=Tl l t
 have Q:∀ J,Ay J p l->∀ m,Calls Tryz.prog 64 #[.slice p l.length c,Ah (t:Int)] (J.drewN m) λe w'=>e=.returned (.tuple #[.string (bs (Ec l t)),Ah (C0 l t:Int)])/\∃ k,w'=J.drewN k:=λJ h1 m=>Uj p l c t J h1 hc ht hl m
 generalize Ec l t=s at hX aO Q
 generalize C0 l t=t1 at hX aN Q
 obtain ⟨D,hD⟩:=eX (Ng s)
 rw [<- hD] at hX
 refine Av func59 rfl ntmps59 ?_
 have aP:=Bo.refl (w.heap.size) r w
 refine A5<|Ab rfl<|Aj ?_
 have b8:r<w.heap.size:=hr.lt
 have ad:0<l.length->(pA p).block<w.heap.size:=λK=>hb.lt K
 refine Eg Ci kR<|AA (.mv rfl) rfl<|AA (.nck rfl) rfl<|AA (.fa CZ rfl Gr dD rfl) rfl<|Du (λm=>Af (g22_ _) rfl hr rfl) rfl<|AA (.mv rfl) rfl<|AA (.nck rfl) rfl<|AA (.fa CZ rfl B6 dD rfl) rfl<|Du (λm=>Af (BE _) rfl hr rfl) rfl<|WQ.c1 BQ rfl rfl (λm=>(Q _ hb m))<|AA (.mv rfl) rfl<|AA (.ext rfl rfl) rfl<|AA (.ext rfl rfl) rfl<|AA (.as rfl) rfl<|AA (.as rfl) rfl<|Dk (λJ T=>?_)
 have aQ:=hr.drew T
 have aR:=hb.drew T
 have aT:=BY aP (Ob T)
 refine A5<|A3 rfl<|A3 rfl<|A1 (.nck rfl)<|A1 (.fa CZ rfl B6 dD rfl)<|WL.st B6 rfl rfl rfl aQ (by exact Nat.le_of_ble_eq_true rfl) (λw5 L A b5=>?_)
 have L:Be w5 r _ _:=L
 have A:E6 r _ _:=A
 have aU:=Ay.upd aR A hne
 have aV:=BY aT (BX A)
 refine A0<|A5<|Ab rfl<|Aj<|A5<|Ab rfl<|AU<|Cf (α:=Value × l8_ × Nat) (λt=>[(0,ptV r),(3,.string (bs s)),(5,t.1),(6,Ah (t.2.2:Int))]) (λt w'=>QB w' r p l c t1 refs/\Bo w.heap.size r w w'/\Cq 5 w.heap.size w' t.1 (Az t.2.1)/\Qy t.2.1 (s.drop t.2.2)=D/\t.2.1.length<=t.2.2/\t.2.2<=s.length) (λt=>s.length-t.2.2) ((.slice none 0 0,[],0)) ⟨rfl,rfl,rfl,rfl,tT⟩ (⟨⟨L,aU⟩,aV,Cq.nil _ _ _,by rw [hD,Nt];simp [Qy],G8 _,G8 _⟩) (λt J hR=>?_)
 obtain ⟨v,o,i⟩:=t
 obtain ⟨g,hT,B,hw,aW,hi⟩:=hR
 simp only at g hT B hw aW hi ⊢
 refine Aj<|A5<|A3 rfl<|A3 rfl<|A1 (.len JK rfl)<|A1 (.lss rfl rfl)<|A0<|Ae rfl (λh8=>?_) (λh8=>?_)
 have aX:=dT h8
 refine Ap<|Aj<|AU<|A5<|A3 rfl<|A3 rfl<|A1 (.ix JK rfl rfl (i) (rfl) oO)<|Ab rfl<|Aj<|A5<|A3 rfl<|A1 (.eql rfl rfl)<|A0<|Ae rfl (λh9=>?_) (λh9=>?_)
 have aY:=dT h9
 have y:s[i]'oO=35:=CH aS
 refine Aj<|A5<|A3 rfl<|A1 (.add rfl rfl (Bn oO))<|A3 rfl<|A1 (.len JK rfl)<|A1 (.geq rfl rfl)<|A3 rfl<|B5 rfl rfl rfl (λb=>?_) (λb=>?_)
 have ag:=dF b
 refine A3 rfl<|Au b<|A3 rfl<|Au b<|A1 (.iis (((i+1:Nat):Int)) (.add rfl rfl (Bn oO)) oO)<|Au b<|A1 (.ix JK rfl rfl (i+1) (rfl) oO)<|Au b<|As (JU _ _) (λb9 ah=>?_)
 obtain rfl:=ah
 have ba:=K0 (s[i+1]'oO)
 refine Au b<|A1 (.lss rfl rfl)<|A1 (.pkF rfl b rfl)<|A3 rfl<|B5 rfl rfl rfl (λf=>?_) (λf=>?_)
 have ai:=dF f
 refine A3 rfl<|Au f<|A3 rfl<|Au f<|A1 (.iis (((i+2:Nat):Int)) (.add rfl rfl (Bn oO)) oO)<|Au f<|A1 (.ix JK rfl rfl (i+2) (rfl) oO)<|Au f<|As (JU _ _) (λbb aj=>?_)
 obtain rfl:=aj
 have aZ:=K0 (s[i+2]'oO)
 refine Au f<|A1 (.lss rfl rfl)<|A1 (.pkF rfl f rfl)<|A0<|Ae rfl (λU=>?_) (λU=>?_)
 have ak:=dT U
 refine Ak<|Gb BQ rfl ((D8 23 _)) (λbc al=>?_)
 obtain rfl:=al
 exact AE (BB 23 (by rw [hX,<- hw,PI _ _ _ oO y,A2 oO]) hT)
 have ak:=dF U
 refine Ap<|Aj<|Eg Ci kR<|AA (.mv rfl) rfl<|AA (.mv rfl) rfl<|AA (.iis (((i+1:Nat):Int)) (.add rfl rfl (Bn oO)) oO) rfl<|AA (.ix JK rfl rfl (i+1) (rfl) oO) rfl<|WQ.c1 BQ rfl rfl (λm=>(ZF (s[i+1]'oO) _ m))<|AA (.iis (((Er (s[i+1]'oO):Nat):Int) * 16) (.shl4 rfl _ (Bn oO)) oO) rfl<|AA (.mv rfl) rfl<|AA (.mv rfl) rfl<|AA (.iis (((i+2:Nat):Int)) (.add rfl rfl (Bn oO)) oO) rfl<|AA (.ix JK rfl rfl (i+2) (rfl) oO) rfl<|WQ.c1 BQ rfl rfl (λm=>(ZF (s[i+2]'oO) _ m))<|AA (.or rfl rfl (show bits .or .i64 (((Er (s[i+1]'oO):Nat):Int) * 16) (NU (s[i+2]'oO))=((Er (s[i+1]'oO):Nat):Int) * 16+((Er (s[i+2]'oO):Nat):Int) by rw [(aZ.resolve_left (λh=>by have:=h.1;omega)).1];exact A6A _ _ oO oO)) rfl<|AA (.cvt JL Ln rfl (Un oO)) rfl<|AA (.as rfl) rfl<|Dk (λbd C=>?_)
 have am:=Cq.drew B C
 have V:=g.1.drew C
 have a0:=g.2.drew C
 have a1:=BY hT (Ob C)
 refine Ak<|A3 rfl<|A1 (.add rfl rfl (Bn oO))<|Ab rfl<|Ak<|A3 rfl<|A3 rfl<|CF (ps:=_) BI Iy Qk rfl rfl rfl rfl rfl pR rfl (λbe b6 E a7 j b1=>?_)
 have an:=Cq.new am E j
 have ao:=Bx E V.lt
 have ap:=V.un j ao
 have a8:=λK=>E▸a0.lt K
 have aq:=DQ a0 j a8
 have a2:=DW E a1.size
 have a3:=BY a1 (EH j a2)
 refine EP BI GB rfl rfl rfl an rfl a7 rfl (by rw [Bc];omega) (a3.size) rfl (λbf bg a9 F b2=>?_)
 have ar:=ap.below F oO
 have au:=Hk aq F ad
 have av:=BY a3 (JM (F.mono (FQ _)))
 have aw:=ED a9 (ch ((16 * Er (s[i+1]'oO)+Er (s[i+2]'oO):Nat):Int)) (by rw [K2 _ oO oO];omega)
 refine Ab rfl<|Ak<|A3 rfl<|A1 (.add rfl rfl (Bn oO))<|Ab rfl ?_
 exact ⟨(_,o++[_],i+3),⟨rfl,rfl,rfl,M5 rfl oM,tT⟩,⟨⟨ar,au⟩,av,aw,by rw [<- hw,PI _ _ _ oO y,A7 oO],oF,oM⟩,oM⟩
 have ai:=dT f
 refine Ac f<|Ac f<|Ac f<|Ac f<|Ac f<|A1 (.pkT rfl f rfl)<|A0<|E3 rfl rfl<|Ak<|Gb BQ rfl ((D8 23 _)) (λbh ax=>?_)
 obtain rfl:=ax
 exact AE (BB 23 (by rw [hX,<- hw,PI _ _ _ oO y,A2 oO]) hT)
 have ag:=dT b
 refine Ac b<|Ac b<|Ac b<|Ac b<|Ac b<|A1 (.pkT rfl b rfl)<|A3 rfl<|Ac rfl<|Ac rfl<|Ac rfl<|Ac rfl<|Ac rfl<|Ac rfl<|A1 (.pkT rfl rfl rfl)<|A0<|E3 rfl rfl<|Ak<|Gb BQ rfl ((D8 23 _)) (λbi ay=>?_)
 obtain rfl:=ay
 exact AE (BB 23 (by rw [hX,<- hw,YD _ _ _ oO y oO]) hT)
 have aY:=dF h9
 have y:s[i]'oO≠35:=DH (d:=35) aS
 refine Ap<|Ak<|A3 rfl<|A3 rfl<|CF (ps:=_) BI Iy Qk rfl rfl rfl rfl rfl pR rfl (λa' b7 G aa u b3=>?_)
 have az:=Cq.new B G u
 have aA:r<a':=by rw [G];exact g.1.lt
 have aB:=g.1.un u aA
 have ab:=λK=>G▸g.2.lt K
 have aC:=Ay.upd g.2 u (λK=>IU (ab K))
 have a4:=DW G hT.size
 have a5:=BY hT (EH u a4)
 refine EP BI GB rfl rfl rfl az rfl aa rfl (by rw [Bc];omega) (a5.size) rfl (λbj bk ac H b4=>?_)
 have aD:=aB.below H oO
 have aE:=Hk aC H ad
 have aF:=BY a5 (JM (H.mono (FQ _)))
 have aG:=ED ac (s[i]'oO) (rfl)
 refine Ab rfl<|Ak<|A3 rfl<|A1 (.add rfl rfl (Bn oO))<|Ab rfl ?_
 exact ⟨(_,o++[_],i+1),⟨rfl,rfl,rfl,M5 rfl oM,tT⟩,⟨⟨aD,aE⟩,aF,aG,by rw [<- hw,YE _ _ _ oO y],oF,oM⟩,oM⟩
 have aX:=dF h8
 refine C7<|Aj<|AU<|Aj ?_
 obtain ⟨q,cq,rfl,ae,bl⟩:=Cq.bytes B
 have P:D=some o:=by rw [<- hw,show i=s.length by omega,Fl,A3T]
 refine Ak<|A3 rfl<|A1 (.lenS BI rfl)<|A1 (.eql rfl rfl)<|A3 rfl<|B5 rfl rfl rfl (λx=>?_) (λx=>?_)
 have aH:=dF x
 refine A3 rfl<|Au x<|As (A5I q o cq 0 _ ae oO) (λbm aI=>?_)
 obtain rfl:=aI
 refine A1 (.pkF rfl x rfl)<|Ab rfl<|Ae rfl (λb0=>?_) (λb0=>?_)
 refine Ak<|Gb BQ rfl ((D8 23 _)) (λbn aJ=>?_)
 obtain rfl:=aJ
 exact AE (BB 23 (by rw [hX,P];simp only [];rw [A7 (.inr (dT aS))]) hT)
 refine Aj ?_
 have af:¬ (o=[]\/0∈o):=λh=>h.elim (λh=>by rw [h] at *;simp_all) (λh=>by simp_all)
 refine Ak<|A3 rfl<|A1 (.lenS BI rfl)<|A1 (.gtr rfl rfl)<|Ab rfl<|Ae rfl (λa6=>?_) (λa6=>?_)
 have aK:=dT a6
 refine Ak<|Gb BQ rfl ((D8 25 _)) (λbo aL=>?_)
 obtain rfl:=aL
 exact AE (BB 25 (by rw [hX,P];simp only [];rw [A2 af,A7 oO]) hT)
 have aK:=dF a6
 refine Ap<|A5<|A3 rfl<|Ai (MG (l:=o) BI Ln JK rfl (ae))<|Ab rfl<|AI ?_
 exact Ct.ok (o,t1) (by rw [hX,P];simp only [];rw [A2 af,A2 oO]) rfl ⟨⟨g.1,g.2⟩,hT⟩
 have aH:=dT x
 refine Ac x<|A1 (.pkT rfl x rfl)<|Ab rfl<|E3 rfl rfl<|Ak<|Gb BQ rfl ((D8 23 _)) (λbp aM=>?_)
 obtain rfl:=aM
 exact AE (BB 23 (by rw [hX,P];simp only [];rw [A7 (.inl (CB.1 oO))]) hT)
end
section
theorem Xd (l:l8_) (i:Nat) (h:i<l.length):(l.drop i).all Jx=(Jx l[i] && (l.drop (i+1)).all Jx):=by
 rw [Ar h,B8]
theorem Ou {c:UInt8} (h:c=62\/(EF c=false/\NU c<0)):Jx c=false:=by
 rcases h with rfl | ⟨a,d⟩
 · rfl
 ·
  unfold Jx
  rcases K0 c with b | b
  · rw [a,An oO];simp
  · omega
theorem MV {c:UInt8} (h:c≠62) (h2:EF c=true\/¬ NU c<0):Jx c=true:=by
 unfold Jx
 rw [bne_iff_ne.2 h,BV]
 rcases h2 with h2 | h2
 · rw [h2];rfl
 ·
  rcases K0 c with a | a
  · omega
  · rw [Al a.2];simp
theorem A0J (r:Nat) (p:Option Addr) (l:l8_) (c t:Nat) (refs:Bool) (w:World) (h:QB w r p l c t refs) (hl:l.length<=100000000) (ht:t<l.length) :
  C9 91 #[ptV r] w (.bool (Q2 l t)):=by
 have hr:=h.1
 have hb:=h.2
 have hg:l[t]?=some l[t]:=A6 ht
 refine Av func91 rfl ntmps91 ?_
 have a1:=DR w
 refine A5<|Ab rfl<|A5<|Ab rfl<|Aj<|Aj<|Eg Ci kR<|AA (.mv rfl) rfl<|AA (.nck rfl) rfl<|AA (.fa CZ rfl Gr dD rfl) rfl<|Du (λm=>Af (g22_ _) rfl hr rfl) rfl<|AA (.mv rfl) rfl<|AA (.nck rfl) rfl<|AA (.fa CZ rfl B6 dD rfl) rfl<|Du (λm=>Af (BE _) rfl hr rfl) rfl<|AA (.ixb BI Iy rfl rfl (hb.isp oO) (t) (rfl) (ht)) rfl<|Du (λm=>AS (P3 _) rfl ((hb.drewN m).cells (t) (ht))) rfl<|AA (.eql rfl rfl) rfl<|Dk (λw1 v=>?_)
 have u:=hr.drew v
 have D:=hb.drew v
 have E:=Df.below a1 v
 refine Ae rfl (λF=>?_) (λF=>?_)
 have a2:=dT F
 refine Ak<|Ab rfl<|Aj<|A5<|A3 rfl<|A1 (.nck rfl)<|A1 (.fa CZ rfl B6 dD rfl)<|Ai (Af (BE _) rfl u rfl)<|A1 (.iis (((t+1:Nat):Int)) (.add rfl rfl (Bn oO)) oO)<|Ab rfl<|AU ?_
 obtain ⟨T0,x⟩:=eX t
 subst x
 refine Cf (α:=Nat × Int) (λt=>[(0,ptV r),(3,.int .u8 t.2),(4,Ah (t.1:Int))]) (λt w'=>AD w w'/\QB w' r p l c T0 refs/\T0+1<=t.1/\t.1<=l.length/\((t.2=62/\l[T0]?=some 60/\(l.drop (T0+1)).all Jx=(l.drop t.1).all Jx)\/(t.2=41/\l[T0]?≠some 60))) (λt=>l.length-t.1) ((T0+1,_)) ⟨rfl,rfl,rfl,tT⟩ (⟨E,⟨u,D⟩,FQ _,ht,by exact .inl ⟨rfl,by rw [hg,show l[T0]=60 from CH aS],rfl⟩⟩) (λt w1 hR=>?_)
 obtain ⟨i,z⟩:=t
 obtain ⟨hT,a,y,hi,hz⟩:=hR
 simp only at y hi hz ⊢
 refine Aj<|Fx 32 (decide (i<l.length/\z=62)) ?_ ?_
 refine Ak<|A3 rfl<|A3 rfl<|A1 (.nck rfl)<|A1 (.fa CZ rfl Gr dD rfl)<|Ai (Af (g22_ _) rfl a.1 rfl)<|A1 (.lenS BI rfl)<|A1 (.lss rfl rfl)<|A3 rfl<|B5 rfl rfl rfl (λs=>?_) (λs=>?_)
 have a3:=dT s
 refine A3 rfl<|Au s<|A1 (.eql rfl rfl)<|A1 (.pkT rfl s rfl)<|A0<|?_
 exact ⟨Gm (CD rfl (by (apply B1.2;(try simp) <;> omega))),rfl⟩
 have a3:=dF s
 refine Ac s<|A1 (.pkF rfl s rfl)<|A0<|?_
 exact ⟨Gm (CD rfl (by (apply B1.2;(try simp) <;> omega))),rfl⟩
 refine Ae rfl (λG=>?_) (λG=>?_)
 have a4:=dT G
 have b:l[T0]?=some 60/\(l.drop (T0+1)).all Jx=(l.drop i).all Jx:=by rcases hz with h | h;exact h.2;omega
 have j:=Xd l i oO
 refine Ap<|Aj<|AU<|A5<|A3 rfl<|A1 (.nck rfl)<|A1 (.fa CZ rfl Gr dD rfl)<|Ai (Af (g22_ _) rfl a.1 rfl)<|A3 rfl<|A1 (.ixb BI Iy rfl rfl (a.2.isp oO) (i) (rfl) oO)<|Ai (AS (P3 _) rfl (a.2.cells (i) oO))<|Ab rfl<|A5<|A3 rfl<|A1 (.eql rfl rfl)<|A3 rfl<|B5 rfl rfl rfl (λg=>?_) (λg=>?_)
 have a5:=dF g
 refine A3 rfl<|Au g<|As (Ls _ _) (λw9 a6=>?_)
 obtain rfl:=a6
 refine Au g<|A1 (.not rfl)<|Au g<|A3 rfl<|B5 rfl rfl rfl (λk=>?_) (λk=>?_)
 have H:=(nT k)
 refine A3 rfl<|EK rfl rfl rfl (by rw [(nT k)] <;> rfl)<|As (JU _ _) (λa7 J=>?_)
 obtain rfl:=J
 refine EK rfl rfl rfl (by rw [(nT k)] <;> rfl)<|A1 (.lss rfl rfl)<|Au g<|A1 (.pkT rfl (by rw [(nT k)] <;> rfl) rfl)<|A1 (.pkF rfl g rfl)<|A0<|Ae rfl (λA=>?_) (λA=>?_)
 have K:=dT A
 refine A5<|Ab rfl<|AI ?_
 exact ⟨EY (by unfold Q2;rw [A7 b.1,b.2,j,Ou (.inr ⟨aS,aS⟩)];rfl),hT⟩
 have K:=dF A
 refine Ap<|Ak<|A3 rfl<|A1 (.iis (((i+1:Nat):Int)) (.add rfl rfl (Bn oO)) oO)<|Ab rfl ?_
 exact ⟨(i+1,z),⟨rfl,rfl,rfl,tT⟩,⟨hT,⟨a.1,a.2⟩,oM,oM,.inl ⟨oO,b.1,by rw [b.2,j,MV (DH (d:=62) aS) (.inr aS),BV]⟩⟩,oM⟩
 have H:=(nF k)
 refine EO rfl rfl rfl (by rw [(nF k)] <;> rfl)<|EO rfl rfl rfl (by rw [(nF k)] <;> rfl)<|Au g<|A1 (.pkF rfl (by rw [(nF k)] <;> rfl) rfl)<|A1 (.pkF rfl g rfl)<|A0<|E4 rfl rfl<|Ap<|Ak<|A3 rfl<|A1 (.iis (((i+1:Nat):Int)) (.add rfl rfl (Bn oO)) oO)<|Ab rfl ?_
 exact ⟨(i+1,z),⟨rfl,rfl,rfl,tT⟩,⟨hT,⟨a.1,a.2⟩,oM,oM,.inl ⟨oO,b.1,by rw [b.2,j,MV (DH (d:=62) aS) (.inl aS),BV]⟩⟩,oM⟩
 have a5:=dT g
 refine Ac g<|Ac g<|Ac g<|G9<|G9<|G9<|Ac g<|A1 (.pkT rfl g rfl)<|A0<|E3 rfl rfl<|A5<|Ab rfl<|AI ?_
 exact ⟨EY (by unfold Q2;rw [A7 b.1,b.2,j,Ou (.inl (CH (d:=62) aS))];rfl),hT⟩
 have a4:=dF G
 refine C7<|A5<|Ab rfl<|AI ?_
 exact ⟨EY (by
  unfold Q2;rcases hz with h | h;rw [A7 h.2.1,h.2.2,Bf oO];rfl;rw [A2 h.2]),hT⟩
 have a2:=dF F
 refine Ap<|Aj<|A5<|A3 rfl<|A1 (.nck rfl)<|A1 (.fa CZ rfl B6 dD rfl)<|Ai (Af (BE _) rfl u rfl)<|A1 (.iis (((t+1:Nat):Int)) (.add rfl rfl (Bn oO)) oO)<|Ab rfl<|AU ?_
 obtain ⟨T0,x⟩:=eX t
 subst x
 refine Cf (α:=Nat × Int) (λt=>[(0,ptV r),(3,.int .u8 t.2),(4,Ah (t.1:Int))]) (λt w'=>AD w w'/\QB w' r p l c T0 refs/\T0+1<=t.1/\t.1<=l.length/\((t.2=62/\l[T0]?=some 60/\(l.drop (T0+1)).all Jx=(l.drop t.1).all Jx)\/(t.2=41/\l[T0]?≠some 60))) (λt=>l.length-t.1) ((T0+1,_)) ⟨rfl,rfl,rfl,tT⟩ (⟨E,⟨u,D⟩,FQ _,ht,by exact .inr ⟨rfl,by rw [hg];exact λh=>D6 (Ei h) (DH (d:=60) aS)⟩⟩) (λt w1 hR=>?_)
 obtain ⟨i,z⟩:=t
 obtain ⟨hT,a,y,hi,hz⟩:=hR
 simp only at y hi hz ⊢
 refine Aj<|Fx 32 (decide (i<l.length/\z=62)) ?_ ?_
 refine Ak<|A3 rfl<|A3 rfl<|A1 (.nck rfl)<|A1 (.fa CZ rfl Gr dD rfl)<|Ai (Af (g22_ _) rfl a.1 rfl)<|A1 (.lenS BI rfl)<|A1 (.lss rfl rfl)<|A3 rfl<|B5 rfl rfl rfl (λq=>?_) (λq=>?_)
 have L:=dT q
 refine A3 rfl<|Au q<|A1 (.eql rfl rfl)<|A1 (.pkT rfl q rfl)<|A0<|?_
 exact ⟨Gm (CD rfl (by (apply B1.2;(try simp) <;> omega))),rfl⟩
 have L:=dF q
 refine Ac q<|A1 (.pkF rfl q rfl)<|A0<|?_
 exact ⟨Gm (CD rfl (by (apply B1.2;(try simp) <;> omega))),rfl⟩
 refine Ae rfl (λB=>?_) (λB=>?_)
 have P:=dT B
 have b:l[T0]?=some 60/\(l.drop (T0+1)).all Jx=(l.drop i).all Jx:=by rcases hz with h | h;exact h.2;omega
 have j:=Xd l i oO
 refine Ap<|Aj<|AU<|A5<|A3 rfl<|A1 (.nck rfl)<|A1 (.fa CZ rfl Gr dD rfl)<|Ai (Af (g22_ _) rfl a.1 rfl)<|A3 rfl<|A1 (.ixb BI Iy rfl rfl (a.2.isp oO) (i) (rfl) oO)<|Ai (AS (P3 _) rfl (a.2.cells (i) oO))<|Ab rfl<|A5<|A3 rfl<|A1 (.eql rfl rfl)<|A3 rfl<|B5 rfl rfl rfl (λf=>?_) (λf=>?_)
 have Q:=dF f
 refine A3 rfl<|Au f<|As (Ls _ _) (λa8 T=>?_)
 obtain rfl:=T
 refine Au f<|A1 (.not rfl)<|Au f<|A3 rfl<|B5 rfl rfl rfl (λo=>?_) (λo=>?_)
 have V:=(nT o)
 refine A3 rfl<|EK rfl rfl rfl (by rw [(nT o)] <;> rfl)<|As (JU _ _) (λa9 X=>?_)
 obtain rfl:=X
 refine EK rfl rfl rfl (by rw [(nT o)] <;> rfl)<|A1 (.lss rfl rfl)<|Au f<|A1 (.pkT rfl (by rw [(nT o)] <;> rfl) rfl)<|A1 (.pkF rfl f rfl)<|A0<|Ae rfl (λC=>?_) (λC=>?_)
 have a0:=dT C
 refine A5<|Ab rfl<|AI ?_
 exact ⟨EY (by unfold Q2;rw [A7 b.1,b.2,j,Ou (.inr ⟨aS,aS⟩)];rfl),hT⟩
 have a0:=dF C
 refine Ap<|Ak<|A3 rfl<|A1 (.iis (((i+1:Nat):Int)) (.add rfl rfl (Bn oO)) oO)<|Ab rfl ?_
 exact ⟨(i+1,z),⟨rfl,rfl,rfl,tT⟩,⟨hT,⟨a.1,a.2⟩,oM,oM,.inl ⟨oO,b.1,by rw [b.2,j,MV (DH (d:=62) aS) (.inr aS),BV]⟩⟩,oM⟩
 have V:=(nF o)
 refine EO rfl rfl rfl (by rw [(nF o)] <;> rfl)<|EO rfl rfl rfl (by rw [(nF o)] <;> rfl)<|Au f<|A1 (.pkF rfl (by rw [(nF o)] <;> rfl) rfl)<|A1 (.pkF rfl f rfl)<|A0<|E4 rfl rfl<|Ap<|Ak<|A3 rfl<|A1 (.iis (((i+1:Nat):Int)) (.add rfl rfl (Bn oO)) oO)<|Ab rfl ?_
 exact ⟨(i+1,z),⟨rfl,rfl,rfl,tT⟩,⟨hT,⟨a.1,a.2⟩,oM,oM,.inl ⟨oO,b.1,by rw [b.2,j,MV (DH (d:=62) aS) (.inl aS),BV]⟩⟩,oM⟩
 have Q:=dT f
 refine Ac f<|Ac f<|Ac f<|G9<|G9<|G9<|Ac f<|A1 (.pkT rfl f rfl)<|A0<|E3 rfl rfl<|A5<|Ab rfl<|AI ?_
 exact ⟨EY (by unfold Q2;rw [A7 b.1,b.2,j,Ou (.inl (CH (d:=62) aS))];rfl),hT⟩
 have P:=dF B
 refine C7<|A5<|Ab rfl<|AI ?_
 exact ⟨EY (by
  unfold Q2;rcases hz with h | h;rw [A7 h.2.1,h.2.2,Bf oO];rfl;rw [A2 h.2]),hT⟩
theorem TL (r:Nat) (p:Option Addr) (l:l8_) (c t:Nat) (refs:Bool) (w:World) (h:QB w r p l c t refs) (hne:0<l.length->(pA p).block≠r) (hc:l.length<=c) (hl:l.length<=100000000) (ht:t<l.length) :
  Calls Tryz.prog 62 #[ptV r] w (Ct 30 (KM l t) (λa=>.agg (UJ 5 0 a.1).toArray) (λa w'=>QB w' r p l c a.2 refs/\Bo w.heap.size r w w') (λw'=>Bo w.heap.size r w w')):=by
 have hr:=h.1
 have hb:=h.2
 obtain ⟨X,hX⟩:=eX (KM l t)
 rw [<- hX]
 unfold KM at hX
 have hN:∀ w1,Ay w1 p l->Calls Tryz.prog 90 #[.slice p l.length c,Ah (t:Int)] w1 λe w'=>e=.returned (GD l t).val/\AD w1 w':=λw1 h1=>A0w t p l c w1 h1 hc hl
 have bg:=RI l t oO
 generalize GD l t=N at hX hN bg
 refine Av func62 rfl ntmps62 ?_
 have cG:=Bo.refl (w.heap.size) r w
 refine A5<|C1 JE rfl (λb1 eu aN cI aq e5=>?_)
 have dG:=Bx aN hr.lt
 have dH:=hr.un aq dG
 have ar:=λb=>aN▸hb.lt b
 have dI:=DQ hb aq ar
 have bh:=DW aN cG.size
 have dJ:=BY cG (EH aq bh)
 refine A0<|?_
 obtain ⟨t0,y⟩:=eX t
 refine De (α:=Nat) (λt=>[(0,ptV r),(2,ptV b1),(3,ptV t),(4,Ah N.at'),(5,Ah N.e)]) (λt w'=>Bo w.heap.size r w w'/\Be w' r #[.slice p l.length c,Ah (t0:Int),.bool refs] 112/\Ay w' p l/\Be w' b1 (UJ 0 0 []).toArray 99/\Be w' t #[Ah N.k,Ah N.n,.string (bs N.s)] 147/\b1<t) ?_ (λt w1 hR=>?_)
 refine ME 17 rfl Ci (λw7 aB=>?_)
 have g:=dH.drew aB
 have q:=cI.drew aB
 have d:=dI.drew aB
 have f:=BY dJ (Ob aB)
 refine Bs 0 rfl (.mv rfl) rfl<|Bs 1 rfl (.nck rfl) rfl<|Bs 2 rfl (.fa CZ rfl Gr dD rfl) rfl<|Bs 4 rfl (.mv rfl) rfl<|Bs 5 rfl (.nck rfl) rfl<|Bs 6 rfl (.fa CZ rfl B6 dD rfl) rfl<|Ug [3,7,13] kR rfl ⟨⟨_,rfl,?_⟩,⟨_,rfl,?_⟩,⟨_,rfl,?_⟩,tT⟩
 refine Ai (Af (g22_ _) rfl g rfl)<|A0<|Em 7 rfl 13 rfl ?_ ?_
 refine Ai (Af (BE _) rfl g rfl)<|A0<|Em 8 rfl 13 rfl ?_ ?_
 refine As (hN _ d) (λev af=>?_)
 have aO:=g.bl af
 have aP:=q.bl af
 have aQ:=Hk d af (λb=>d.lt b)
 have aR:=BY f (Gq (JM af) f.size)
 refine A0<|Bs 9 rfl (.mv rfl) rfl<|Bs 10 rfl (.ext rfl rfl) rfl<|Bs 11 rfl (.ext rfl rfl) rfl<|Bs 12 rfl (.ext rfl rfl) rfl<|AG 13 rfl<|C1 J0 rfl (λew e6 ag bi P dV=>?_)
 have cJ:=Bx ag aO.lt
 have cK:=aO.un P cJ
 have cL:=Bx ag aP.lt
 have cM:=aP.un P cL
 have aC:=λb=>ag▸aQ.lt b
 have cN:=DQ aQ P aC
 have aT:=DW ag aR.size
 have cO:=BY aR (EH P aT)
 refine A0<|AG 14 rfl<|AH rfl rfl bi BG rfl rfl (λex bj Q dW=>?_)
 have cP:=cK.up Q
 have cQ:=cM.up Q
 have cR:=DQ cN Q aC
 have cS:=BY cO (EH Q oO)
 refine A0<|Bs 15 rfl (.as rfl) rfl<|Bs 16 rfl (.as rfl) rfl<|Cg kR ?_
 exact ⟨_,⟨rfl,rfl,rfl,rfl,rfl,tT⟩,cS,by rw [y];exact cP,cR,cQ,bj,oO⟩
 refine C1 J0 rfl (λey e7 ah bk T dX=>?_)
 have cT:=Bx ah g.lt
 have cU:=g.un T cT
 have cV:=Bx ah q.lt
 have cW:=q.un T cV
 have aD:=λb=>ah▸d.lt b
 have au:=DQ d T aD
 have aU:=DW ah f.size
 have aV:=BY f (EH T aU)
 refine A0<|AG 8 rfl<|As (hN _ au) (λez a7=>?_)
 have cX:=cU.bl a7
 have cY:=cW.bl a7
 have cZ:=bk.bl a7
 have c':=Hk au a7 (λb=>au.lt b)
 have d0:=BY aV (Gq (JM a7) aV.size)
 refine A0<|Bs 9 rfl (.mv rfl) rfl<|Bs 10 rfl (.ext rfl rfl) rfl<|Bs 11 rfl (.ext rfl rfl) rfl<|Bs 12 rfl (.ext rfl rfl) rfl<|AG 14 rfl<|AH rfl rfl cZ BG rfl rfl (λeA bm U dY=>?_)
 have d1:=cX.up U
 have d2:=cY.up U
 have d3:=DQ c' U aD
 have d4:=BY d0 (EH U oO)
 refine A0<|Bs 15 rfl (.as rfl) rfl<|Bs 16 rfl (.as rfl) rfl<|Cg kR ?_
 exact ⟨_,⟨rfl,rfl,rfl,rfl,rfl,tT⟩,d4,by rw [y];exact d1,d3,d2,bm,oO⟩
 refine C1 J0 rfl (λeB e8 ai bn V dZ=>?_)
 have d5:=Bx ai g.lt
 have aW:=g.un V d5
 have d6:=Bx ai q.lt
 have d7:=q.un V d6
 have aE:=λb=>ai▸d.lt b
 have av:=DQ d V aE
 have aX:=DW ai f.size
 have aY:=BY f (EH V aX)
 refine A0<|AG 7 rfl<|Ai (Af (BE _) rfl aW rfl)<|A0<|AG 8 rfl<|As (hN _ av) (λeC a8=>?_)
 have d8:=aW.bl a8
 have d9:=d7.bl a8
 have da:=bn.bl a8
 have db:=Hk av a8 (λb=>av.lt b)
 have dc:=BY aY (Gq (JM a8) aY.size)
 refine A0<|Bs 9 rfl (.mv rfl) rfl<|Bs 10 rfl (.ext rfl rfl) rfl<|Bs 11 rfl (.ext rfl rfl) rfl<|Bs 12 rfl (.ext rfl rfl) rfl<|AG 14 rfl<|AH rfl rfl da BG rfl rfl (λeD bo a0 d'=>?_)
 have dd:=d8.up a0
 have de:=d9.up a0
 have df:=DQ db a0 aE
 have dg:=BY dc (EH a0 oO)
 refine A0<|Bs 15 rfl (.as rfl) rfl<|Bs 16 rfl (.as rfl) rfl<|Cg kR ?_
 exact ⟨_,⟨rfl,rfl,rfl,rfl,rfl,tT⟩,dg,by rw [y];exact dd,df,de,bo,oO⟩
 refine Ai (Af (BE _) rfl g rfl)<|A0<|Em 3 rfl 13 rfl ?_ ?_
 refine Ai (Af (g22_ _) rfl g rfl)<|A0<|Em 8 rfl 13 rfl ?_ ?_
 refine As (hN _ d) (λeF aj=>?_)
 have aZ:=g.bl aj
 have a':=q.bl aj
 have b0:=Hk d aj (λb=>d.lt b)
 have b2:=BY f (Gq (JM aj) f.size)
 refine A0<|Bs 9 rfl (.mv rfl) rfl<|Bs 10 rfl (.ext rfl rfl) rfl<|Bs 11 rfl (.ext rfl rfl) rfl<|Bs 12 rfl (.ext rfl rfl) rfl<|AG 13 rfl<|C1 J0 rfl (λeG e9 ak bp a1 e0=>?_)
 have dh:=Bx ak aZ.lt
 have di:=aZ.un a1 dh
 have dj:=Bx ak a'.lt
 have dk:=a'.un a1 dj
 have aF:=λb=>ak▸b0.lt b
 have dl:=DQ b0 a1 aF
 have b4:=DW ak b2.size
 have dm:=BY b2 (EH a1 b4)
 refine A0<|AG 14 rfl<|AH rfl rfl bp BG rfl rfl (λeH bq a2 e1=>?_)
 have dn:=di.up a2
 have dp:=dk.up a2
 have dq:=DQ dl a2 aF
 have dr:=BY dm (EH a2 oO)
 refine A0<|Bs 15 rfl (.as rfl) rfl<|Bs 16 rfl (.as rfl) rfl<|Cg kR ?_
 exact ⟨_,⟨rfl,rfl,rfl,rfl,rfl,tT⟩,dr,by rw [y];exact dn,dq,dp,bq,oO⟩
 refine C1 J0 rfl (λeI ea am bt a3 e2=>?_)
 have ds:=Bx am g.lt
 have dt:=g.un a3 ds
 have du:=Bx am q.lt
 have dv:=q.un a3 du
 have aG:=λb=>am▸d.lt b
 have aw:=DQ d a3 aG
 have b5:=DW am f.size
 have b6:=BY f (EH a3 b5)
 refine A0<|AG 8 rfl<|As (hN _ aw) (λeJ a9=>?_)
 have dw:=dt.bl a9
 have dx:=dv.bl a9
 have dy:=bt.bl a9
 have dz:=Hk aw a9 (λb=>aw.lt b)
 have dA:=BY b6 (Gq (JM a9) b6.size)
 refine A0<|Bs 9 rfl (.mv rfl) rfl<|Bs 10 rfl (.ext rfl rfl) rfl<|Bs 11 rfl (.ext rfl rfl) rfl<|Bs 12 rfl (.ext rfl rfl) rfl<|AG 14 rfl<|AH rfl rfl dy BG rfl rfl (λeb b7 A dK=>?_)
 have bu:=dw.up A
 have bv:=dx.up A
 have bw:=DQ dz A aG
 have bx:=BY dA (EH A oO)
 refine A0<|Bs 15 rfl (.as rfl) rfl<|Bs 16 rfl (.as rfl) rfl<|Cg kR ?_
 exact ⟨_,⟨rfl,rfl,rfl,rfl,rfl,tT⟩,bx,by rw [y];exact bu,bw,bv,b7,oO⟩
 refine C1 J0 rfl (λec e3 a4 b8 B dL=>?_)
 have bz:=Bx a4 g.lt
 have aH:=g.un B bz
 have bA:=Bx a4 q.lt
 have bB:=q.un B bA
 have ao:=λb=>a4▸d.lt b
 have an:=DQ d B ao
 have aL:=DW a4 f.size
 have aI:=BY f (EH B aL)
 refine A0<|AG 3 rfl<|Ai (Af (g22_ _) rfl aH rfl)<|A0<|AG 8 rfl<|As (hN _ an) (λed C=>?_)
 have bC:=aH.bl C
 have bD:=bB.bl C
 have bE:=b8.bl C
 have bG:=Hk an C (λb=>an.lt b)
 have bH:=BY aI (Gq (JM C) aI.size)
 refine A0<|Bs 9 rfl (.mv rfl) rfl<|Bs 10 rfl (.ext rfl rfl) rfl<|Bs 11 rfl (.ext rfl rfl) rfl<|Bs 12 rfl (.ext rfl rfl) rfl<|AG 14 rfl<|AH rfl rfl bE BG rfl rfl (λee b9 D dM=>?_)
 have bI:=bC.up D
 have bJ:=bD.up D
 have bK:=DQ bG D ao
 have bL:=BY bH (EH D oO)
 refine A0<|Bs 15 rfl (.as rfl) rfl<|Bs 16 rfl (.as rfl) rfl<|Cg kR ?_
 exact ⟨_,⟨rfl,rfl,rfl,rfl,rfl,tT⟩,bL,by rw [y];exact bI,bK,bJ,b9,oO⟩
 refine C1 J0 rfl (λef e4 a5 ap E dN=>?_)
 have bM:=Bx a5 g.lt
 have u:=g.un E bM
 have bN:=Bx a5 q.lt
 have aJ:=q.un E bN
 have aa:=λb=>a5▸d.lt b
 have v:=DQ d E aa
 have aM:=DW a5 f.size
 have a6:=BY f (EH E aM)
 refine A0<|Em 3 rfl 7 rfl ?_ ?_
 refine Ai (Af (g22_ _) rfl u rfl)<|A0<|AG 7 rfl<|Ai (Af (BE _) rfl u rfl)<|A0<|AG 8 rfl<|As (hN _ v) (λeg F=>?_)
 have bO:=u.bl F
 have bP:=aJ.bl F
 have bQ:=ap.bl F
 have bR:=Hk v F (λb=>v.lt b)
 have bS:=BY a6 (Gq (JM F) a6.size)
 refine A0<|Bs 9 rfl (.mv rfl) rfl<|Bs 10 rfl (.ext rfl rfl) rfl<|Bs 11 rfl (.ext rfl rfl) rfl<|Bs 12 rfl (.ext rfl rfl) rfl<|AG 14 rfl<|AH rfl rfl bQ BG rfl rfl (λeh ba G dO=>?_)
 have bT:=bO.up G
 have bU:=bP.up G
 have bV:=DQ bR G aa
 have bW:=BY bS (EH G oO)
 refine A0<|Bs 15 rfl (.as rfl) rfl<|Bs 16 rfl (.as rfl) rfl<|Cg kR ?_
 exact ⟨_,⟨rfl,rfl,rfl,rfl,rfl,tT⟩,bW,by rw [y];exact bT,bV,bU,ba,oO⟩
 refine Ai (Af (BE _) rfl u rfl)<|A0<|AG 3 rfl<|Ai (Af (g22_ _) rfl u rfl)<|A0<|AG 8 rfl<|As (hN _ v) (λei H=>?_)
 have bX:=u.bl H
 have bY:=aJ.bl H
 have bZ:=ap.bl H
 have b':=Hk v H (λb=>v.lt b)
 have c0:=BY a6 (Gq (JM H) a6.size)
 refine A0<|Bs 9 rfl (.mv rfl) rfl<|Bs 10 rfl (.ext rfl rfl) rfl<|Bs 11 rfl (.ext rfl rfl) rfl<|Bs 12 rfl (.ext rfl rfl) rfl<|AG 14 rfl<|AH rfl rfl bZ BG rfl rfl (λej bb J dP=>?_)
 have c2:=bX.up J
 have c3:=bY.up J
 have c4:=DQ b' J aa
 have c5:=BY c0 (EH J oO)
 refine A0<|Bs 15 rfl (.as rfl) rfl<|Bs 16 rfl (.as rfl) rfl<|Cg kR ?_
 exact ⟨_,⟨rfl,rfl,rfl,rfl,rfl,tT⟩,c5,by rw [y];exact c2,c4,c3,bb,oO⟩
 obtain ⟨b3,rfl⟩:=eX t
 subst y
 obtain ⟨hT,bc,hb2,cH,bd,eK⟩:=hR
 refine Aj<|AU<|A5<|A3 rfl<|A1 (.eql rfl rfl)<|A3 rfl<|B5 rfl rfl rfl (λx=>?_) (λx=>?_)
 have c6:=dT x
 refine A3 rfl<|Au x<|As (A0J r p l c t0 refs _ ⟨bc,hb2⟩ hl ht) (λek K=>?_)
 have c7:=bc.bl K
 have c8:=cH.bl K
 have aK:=bd.bl K
 have c9:=Hk hb2 K (λb=>hb2.lt b)
 have L:=BY hT (Gq (JM K) hT.size)
 refine A1 (.pkT rfl x rfl)<|Ab rfl<|Ae rfl (λdB=>?_) (λdB=>?_)
 refine Ak<|Gb BQ rfl ((D8 24 _)) (λel ca=>?_)
 obtain rfl:=ca
 exact AE (BB 24 (by rw [hX,A7 ⟨aS,aS⟩]) L)
 refine A5<|A3 rfl<|A1 (.eql rfl rfl)<|Ab rfl<|Ae rfl (λax=>?_) (λax=>?_)
 have cb:=dT ax
 refine Ak<|Gb BQ rfl ((D8 25 _)) (λem cc=>?_)
 obtain rfl:=cc
 exact AE (BB 25 (by rw [hX,A2 (by rintro ⟨h1,h2⟩;simp_all),A7 aS]) L)
 have cb:=dF ax
 refine A5<|A3 rfl<|A1 (.neq rfl rfl)<|A3 rfl<|B5 rfl rfl rfl (λm=>?_) (λm=>?_)
 have cd:=Kk m
 refine A1 (.fa Eo rfl B6 dD rfl)<|Au m<|Ai (Af (BE _) rfl aK rfl)<|Au m<|A1 (.neq rfl rfl)<|A1 (.pkF rfl m rfl)<|Ab rfl<|Ae rfl (λay=>?_) (λay=>?_)
 have cf:=Kj ay
 refine Ak<|Gb BQ rfl ((D8 23 _)) (λen cg=>?_)
 obtain rfl:=cg
 exact AE (BB 23 (by rw [hX,A2 (by rintro ⟨h1,h2⟩;simp_all),A2 aS,A7 (.inr aS)]) L)
 have cf:=Kk ay
 refine Ap<|A5<|A3 rfl<|A1 (.iis (((N.at'.toNat:Nat):Int)) (.mv rfl) oO)<|A1 (.nck rfl)<|A1 (.fa CZ rfl B6 dD rfl)<|WL.st B6 rfl rfl rfl c7 (by exact Nat.le_of_ble_eq_true rfl) (λdC ab i dQ=>?_)
 have ab:Be dC r _ _:=ab
 have i:E6 r _ _:=i
 have ci:=c8.up i
 have cj:=aK.up i
 have ck:=Ay.upd c9 i hne
 have cl:=BY L (BX i)
 refine A0<|A5<|A1 (.fa Eo rfl M1 dD rfl)<|Ai (Af (Li _) rfl cj rfl)<|?_
 refine A1 (.buildL (ps:=_) Hj rfl rfl rfl pS) ?_
 refine AH rfl rfl ci Bb rfl rfl (λeo be ac dR=>?_)
 have cm:=ab.up ac
 have cn:=DQ ck ac ar
 have co:=BY cl (EH ac oO)
 refine A0<|B2 (Ch rfl rfl (BF be CO rfl Bb)  ?_)
 exact Ct.ok (N.s,N.at'.toNat) (by rw [hX,A2 (by rintro ⟨h1,h2⟩;simp_all),A2 aS,A2 oO]) rfl ⟨⟨cm,cn⟩,co⟩
 have cd:=Kj m
 refine Ac m<|Ac m<|A1 (.pkT rfl m rfl)<|Ab rfl<|E3 rfl rfl<|Ak<|Gb BQ rfl ((D8 23 _)) (λep cq=>?_)
 obtain rfl:=cq
 exact AE (BB 23 (by rw [hX,A2 (by rintro ⟨h1,h2⟩;simp_all),A2 aS,A7 (.inl aS)]) L)
 have c6:=dF x
 refine Ac x<|A1 (.pkF rfl x rfl)<|Ab rfl<|E4 rfl rfl<|A5<|A3 rfl<|A1 (.eql rfl rfl)<|Ab rfl<|Ae rfl (λaz=>?_) (λaz=>?_)
 have cr:=dT az
 refine Ak<|Gb BQ rfl ((D8 25 _)) (λeq ct=>?_)
 obtain rfl:=ct
 exact AE (BB 25 (by rw [hX,A2 (by rintro ⟨h1,h2⟩;simp_all),A7 aS]) hT)
 have cr:=dF az
 refine A5<|A3 rfl<|A1 (.neq rfl rfl)<|A3 rfl<|B5 rfl rfl rfl (λo=>?_) (λo=>?_)
 have cu:=Kk o
 refine A1 (.fa Eo rfl B6 dD rfl)<|Au o<|Ai (Af (BE _) rfl bd rfl)<|Au o<|A1 (.neq rfl rfl)<|A1 (.pkF rfl o rfl)<|Ab rfl<|Ae rfl (λaA=>?_) (λaA=>?_)
 have cv:=Kj aA
 refine Ak<|Gb BQ rfl ((D8 23 _)) (λer cw=>?_)
 obtain rfl:=cw
 exact AE (BB 23 (by rw [hX,A2 (by rintro ⟨h1,h2⟩;simp_all),A2 aS,A7 (.inr aS)]) hT)
 have cv:=Kk aA
 refine Ap<|A5<|A3 rfl<|A1 (.iis (((N.at'.toNat:Nat):Int)) (.mv rfl) oO)<|A1 (.nck rfl)<|A1 (.fa CZ rfl B6 dD rfl)<|WL.st B6 rfl rfl rfl bc (by exact Nat.le_of_ble_eq_true rfl) (λdE ad j dS=>?_)
 have ad:Be dE r _ _:=ad
 have j:E6 r _ _:=j
 have cy:=cH.up j
 have cz:=bd.up j
 have cA:=Ay.upd hb2 j hne
 have cB:=BY hT (BX j)
 refine A0<|A5<|A1 (.fa Eo rfl M1 dD rfl)<|Ai (Af (Li _) rfl cz rfl)<|?_
 refine A1 (.buildL (ps:=_) Hj rfl rfl rfl pS) ?_
 refine AH rfl rfl cy Bb rfl rfl (λes bf ae dU=>?_)
 have cC:=ad.up ae
 have cD:=DQ cA ae ar
 have cE:=BY cB (EH ae oO)
 refine A0<|B2 (Ch rfl rfl (BF bf CO rfl Bb)  ?_)
 exact Ct.ok (N.s,N.at'.toNat) (by rw [hX,A2 (by rintro ⟨h1,h2⟩;simp_all),A2 aS,A2 oO]) rfl ⟨⟨cC,cD⟩,cE⟩
 have cu:=Kj o
 refine Ac o<|Ac o<|A1 (.pkT rfl o rfl)<|Ab rfl<|E3 rfl rfl<|Ak<|Gb BQ rfl ((D8 23 _)) (λet cF=>?_)
 obtain rfl:=cF
 exact AE (BB 23 (by rw [hX,A2 (by rintro ⟨h1,h2⟩;simp_all),A2 aS,A7 (.inl aS)]) hT)
def Ty (l:l8_) (t:Nat):Except Int UInt8:=match l[AY false l t]? with | none=>.error 24 | some x=>.ok x
theorem Pn (r:Nat) (p:Option Addr) (l:l8_) (c t:Nat) (refs:Bool) (w:World) (h:QB w r p l c t refs) (hne:0<l.length->(pA p).block≠r) (hl:l.length<=100000000) (ht:t<=l.length) :
  Calls Tryz.prog 89 #[ptV r] w (Ct 30 (Ty l t) (λx=>.int .u8 (x.toNat:Int)) (λ_ w'=>QB w' r p l c (AY false l t) refs/\Bo w.heap.size r w w') (λw'=>Bo w.heap.size r w w')):=by
 have hr:=h.1
 have hb:=h.2
 unfold Ty
 obtain ⟨s,hs⟩:=eX (AY false l t)
 rw [<- hs]
 have hS:∀ A,Ay A p l->Calls Tryz.prog 42 #[.slice p l.length c,Ah (t:Int)] A λe w'=>e=.returned (Ah (s:Int))/\A=w':=λA h1=>(Po p l c t A h1 hl).mono λe w' h=>⟨by rw [h.1,S7 l t ht,hs],h.2⟩
 refine Av func89 rfl ntmps89 ?_
 have a0:=Bo.refl (w.heap.size) r w
 refine A5<|Ab rfl<|Aj<|ME 13 rfl Ci (λA B=>?_)
 have f:=hr.drew B
 have y:=hb.drew B
 have H:=BY a0 (Ob B)
 refine Bs 0 rfl (.mv rfl) rfl<|Bs 1 rfl (.mv rfl) rfl<|Bs 2 rfl (.nck rfl) rfl<|Bs 3 rfl (.fa CZ rfl Gr dD rfl) rfl<|Bs 5 rfl (.mv rfl) rfl<|Bs 6 rfl (.nck rfl) rfl<|Bs 7 rfl (.fa CZ rfl B6 dD rfl) rfl<|Em 4 rfl 8 rfl ?_ ?_
 refine Ai (Af (g22_ _) rfl f rfl)<|A0<|AG 8 rfl<|Ai (Af (BE _) rfl f rfl)<|A0<|AG 9 rfl<|As (hS _ y) (λw5 a1=>?_)
 obtain rfl:=a1
 refine A0<|Bs 10 rfl (.nck rfl) rfl<|Bs 11 rfl (.fa CZ rfl B6 dD rfl) rfl<|AG 12 rfl<|WL.st B6 rfl rfl rfl f (by exact Nat.le_of_ble_eq_true rfl) (λw6 d g a6=>?_)
 have d:Be w6 r _ _:=d
 have g:E6 r _ _:=g
 have a2:=Ay.upd y g hne
 have a3:=BY H (BX g)
 refine A0<|Cg kR<|Aj<|Aj<|Eg Ci kR<|AA (.mv rfl) rfl<|AA (.nck rfl) rfl<|AA (.fa CZ rfl B6 dD rfl) rfl<|Du (λm=>Af (BE _) rfl d rfl) rfl<|AA (.mv rfl) rfl<|AA (.nck rfl) rfl<|AA (.fa CZ rfl Gr dD rfl) rfl<|Du (λm=>Af (g22_ _) rfl d rfl) rfl<|AA (.lenS BI rfl) rfl<|AA (.geq rfl rfl) rfl<|Dk (λw9 C=>?_)
 have i:=d.drew C
 have j:=a2.drew C
 have D:=BY a3 (Ob C)
 refine Ae rfl (λE=>?_) (λE=>?_)
 have J:=dT E
 refine Ak<|Gb BQ rfl ((D8 24 _)) (λa7 K=>?_)
 obtain rfl:=K
 exact AE (BB 24 (by rw [AO oO]) D)
 have J:=dF E
 refine Ap<|Aj<|Eg Ci kR<|AA (.mv rfl) rfl<|AA (.nck rfl) rfl<|AA (.fa CZ rfl Gr dD rfl) rfl<|Du (λm=>Af (g22_ _) rfl i rfl) rfl<|AA (.mv rfl) rfl<|AA (.nck rfl) rfl<|AA (.fa CZ rfl B6 dD rfl) rfl<|Du (λm=>Af (BE _) rfl i rfl) rfl<|AA (.ixb BI Iy rfl rfl (j.isp oO) (s) (rfl) oO) rfl<|Du (λm=>AS (P3 _) rfl ((j.drewN m).cells (s) oO)) rfl<|AA (.as rfl) rfl<|Dk (λa8 k=>?_)
 have L:=i.drew k
 have M:=j.drew k
 have N:=BY D (Ob k)
 refine AI ?_
 exact Ct.ok (l[s]'oO) (by rw [A6 oO]) rfl ⟨⟨L,M⟩,N⟩
 refine Ai (Af (BE _) rfl f rfl)<|A0<|AG 4 rfl<|Ai (Af (g22_ _) rfl f rfl)<|A0<|AG 9 rfl<|As (hS _ y) (λa9 O=>?_)
 obtain rfl:=O
 refine A0<|Bs 10 rfl (.nck rfl) rfl<|Bs 11 rfl (.fa CZ rfl B6 dD rfl) rfl<|AG 12 rfl<|WL.st B6 rfl rfl rfl f (by exact Nat.le_of_ble_eq_true rfl) (λa4 a b a5=>?_)
 have a:Be a4 r _ _:=a
 have b:E6 r _ _:=b
 have P:=Ay.upd y b hne
 have Q:=BY H (BX b)
 refine A0<|Cg kR<|Aj<|Aj<|Eg Ci kR<|AA (.mv rfl) rfl<|AA (.nck rfl) rfl<|AA (.fa CZ rfl B6 dD rfl) rfl<|Du (λm=>Af (BE _) rfl a rfl) rfl<|AA (.mv rfl) rfl<|AA (.nck rfl) rfl<|AA (.fa CZ rfl Gr dD rfl) rfl<|Du (λm=>Af (g22_ _) rfl a rfl) rfl<|AA (.lenS BI rfl) rfl<|AA (.geq rfl rfl) rfl<|Dk (λaa o=>?_)
 have q:=a.drew o
 have u:=P.drew o
 have F:=BY Q (Ob o)
 refine Ae rfl (λG=>?_) (λG=>?_)
 have T:=dT G
 refine Ak<|Gb BQ rfl ((D8 24 _)) (λab U=>?_)
 obtain rfl:=U
 exact AE (BB 24 (by rw [AO oO]) F)
 have T:=dF G
 refine Ap<|Aj<|Eg Ci kR<|AA (.mv rfl) rfl<|AA (.nck rfl) rfl<|AA (.fa CZ rfl Gr dD rfl) rfl<|Du (λm=>Af (g22_ _) rfl q rfl) rfl<|AA (.mv rfl) rfl<|AA (.nck rfl) rfl<|AA (.fa CZ rfl B6 dD rfl) rfl<|Du (λm=>Af (BE _) rfl q rfl) rfl<|AA (.ixb BI Iy rfl rfl (u.isp oO) (s) (rfl) oO) rfl<|Du (λm=>AS (P3 _) rfl ((u.drewN m).cells (s) oO)) rfl<|AA (.as rfl) rfl<|Dk (λac v=>?_)
 have V:=q.drew v
 have X:=u.drew v
 have Y:=BY F (Ob v)
 refine AI ?_
 exact Ct.ok (l[s]'oO) (by rw [A6 oO]) rfl ⟨⟨V,X⟩,Y⟩
end
section
structure IR (w:World) (S:Nat->Prop) (cs:List PC) (acc:List PV):Prop where
 len:cs.length=acc.length
 sub:∀ i (h:i<cs.length) (h2:i<acc.length),Dv w S cs[i] acc[i]
theorem IR.nil (w:World) (S:Nat->Prop):IR w S [] []:=⟨rfl,λi h=>by simp at h⟩
theorem IR.same {w w1:World} {S:Nat->Prop} {cs:List PC} {acc:List PV} (h:IR w S cs acc) (hb:∀ k,S k->k<w.heap.size->w1.heap[k]?=w.heap[k]?):IR w1 S cs acc:=⟨h.len,λi h1 h2=>(h.sub i h1 h2).same hb⟩
abbrev NL:=@IR.same
theorem IR.mono  {S:Nat->Prop} {cs:List PC} {acc:List PV} (h:IR w S cs acc) (hST:∀ k,S k->k<w.heap.size->T k):IR w T cs acc:=⟨h.len,λi h1 h2=>(h.sub i h1 h2).mono hST⟩
theorem IQ  {S:Nat->Prop} {cs:List PC} {acc:List PV} (h:IR w S cs acc) (hb:∀ k,S k->k<w.heap.size->w1.heap[k]?=w.heap[k]?) (hT:∀ k,S k->k<w.heap.size->T k):IR w1 T cs acc :=
 ((h.mono (T:=λk=>S k/\k<w.heap.size) (λk hk hl=>⟨hk,hl⟩)).same (λk hk _=>hb k hk.1 hk.2)).mono (λk hk _=>hT k hk.1 hk.2)
theorem IR.push  {S:Nat->Prop} {cs:List PC} {acc:List PV} {x:PC} {o:PV} (h:IR w S cs acc) (hx:Dv w S x o):IR w S (cs++[x]) (acc++[o]) :=
  ⟨by simp [h.len], fun i h1 h2 => by
    have hl:=h.len
    rcases BL i cs.length with h3 | h3
    · rw [GM h3, GM oO]
      exact h.sub i h3 oO
    · obtain rfl : i = cs.length := by simp at h1; omega
      rw [Gx (FQ _),Gx oO]
      simpa [hl] using hx⟩
theorem SE  {S:Nat->Prop} {k n:Int} {kp lp:Option Addr} {kl kc lc:Nat} {keys:List (l8_)} {cs:List PC} {acc:List PV} (hk:SC S w (.slice kp kl kc) keys) (hr:Xl S w (.slice lp cs.length lc) cs) (h:IR w S cs acc) :
  Dv w S ⟨k,n,s,kp,kl,kc,lp,cs.length,lc⟩ (.mk k n s keys acc):=Dv.mk ⟨k,n,s,kp,kl,kc,lp,cs.length,lc⟩ keys acc cs hk hr h.len h.sub
theorem Qa:(Tryz.prog.info? 99).map (λi=>(i.zero,i.size,i.bytes))=some (some (.agg (UJ 0 0 []).toArray),6,104):=by kernel_rfl
def A8c (w:World) (r:Nat) (p:Option Addr) (l:l8_) (c:Nat) (refs:Bool) (a:PV × Nat) (v:Value) (w':World):Prop :=
 ∃ x:PC,v=.agg (pcV x).toArray/\Dv w' (λk=>w.heap.size<=k) x a.1/\QB w' r p l c a.2 refs/\Bo w.heap.size r w w'
def A4A (p:Option Addr) (l:l8_) (c:Nat) (refs:Bool) (D:Int):Prop :=
 ∀ (r t:Nat) (w:World),QB w r p l c t refs->(0<l.length->(pA p).block≠r)->t<l.length ->
  Calls Tryz.prog 46 #[ptV r,Ah D] w (HO 30 (FW refs l D.toNat t) (A8c w r p l c refs) (λw'=>Bo w.heap.size r w w'))
theorem Rc {l:l8_} {x:UInt8} (h:Ty l t=.ok x):l[AY false l t]?=some x:=by
 unfold Ty at h
 split at h
 · cases h
 · next h1=>rw [h1];cases h;rfl
theorem JN {l:l8_} {k:Int} (h:Ty l t=.error k):l[AY false l t]?=none/\k=24:=by
 unfold Ty at h
 split at h
 · next h1=>cases h;exact ⟨h1,rfl⟩
 · cases h
theorem H7 (l:l8_) (t:Nat) (ht:t<=l.length):t<=AY false l t:=by
 unfold AY
 have a:=H6 (l.drop t) false
 rw [B9] at a
 omega
theorem Yp {obj:Nat->Ni} {l:l8_} {f:Nat} {acc:List PV} (hf:0<f):Ii obj l f acc t=(match l[AY false l t]? with
  | none=>.error 24
  | some c=>if c=93 then .ok (acc,AY false l t+1) else if 65535<=acc.length then .error 25 else match obj (AY false l t) with | .error k=>.error k | .ok (o,t')=>Ii obj l (f-1) (acc++[o]) t'):=by
 cases f with
 | zero=>omega
 | succ f=>rfl
theorem A0K (p:Option Addr) (l:l8_) (c:Nat) (refs:Bool) (D:Int) (hO:A4A p l c refs D) (hadv:∀ t o t',t<l.length->FW refs l D.toNat t=.ok (o,t')->t<t'/\t'<=l.length) (r t:Nat) (w:World) (h:QB w r p l c t refs) (hne:0<l.length->(pA p).block≠r) (hl:l.length<=100000000) (ht:t<=l.length) :
  Calls Tryz.prog 61 #[ptV r,Ah D] w (HO 30 (RY (Ii (FW refs l D.toNat) l (l.length+1) [] t)) (A8c w r p l c refs) (λw'=>Bo w.heap.size r w w')):=by
 have hr:=h.1
 have hb:=h.2
 have d7:0<l.length->(pA p).block<w.heap.size:=λX=>hb.lt X
 obtain ⟨R,hR⟩:=eX (Ii (FW refs l D.toNat) l (l.length+1) [] t)
 rw [<- hR]
 obtain ⟨t0,d8⟩:=eX t
 subst d8
 refine Av func61 rfl ntmps61 ?_
 have c2:=Bo.refl (w.heap.size) r w
 refine A5<|C1 JE rfl (λb1 dL aG aH am dH=>?_)
 have d9:=Bx aG hr.lt
 have a9:=hr.un am d9
 have aI:=λX=>aG▸hb.lt X
 have c3:=DQ hb am aI
 have bf:=DW aG c2.size
 have c4:=BY c2 (EH am bf)
 refine A0<|?_
 refine A5<|A1 (.buildL (ps:=_) Hj rfl rfl rfl pS) ?_
 refine C1 JE rfl (λA dM ax c9 ab dI=>?_)
 have da:=Bx ax a9.lt
 have db:=a9.un ab da
 have ca:=Bx ax aH.lt
 have cb:=aH.un ab ca
 have Q:=λX=>ax▸c3.lt X
 have cc:=DQ c3 ab Q
 have bg:=DW ax c4.size
 have cd:=BY c4 (EH ab bg)
 refine AH rfl rfl c9 Bb rfl rfl (λdN bh a0 dA=>?_)
 have cf:=db.up a0
 have cg:=cb.up a0
 have ci:=DQ cc a0 Q
 have cj:=BY cd (EH a0 oO)
 refine A0<|Aj<|AU ?_
 have aJ:0<l.length->(pA p).block<A+1:=λX=>by have:=d7 X;omega
 have dO:r<A:=by omega
 refine Cf (α:=Value × List PC × List PV × Nat × Nat) (λt=>[(0,ptV r),(1,Ah D),(4,ptV b1),(5,ptV A)]) (λt w'=>QB w' r p l c t.2.2.2.1 refs/\Bo w.heap.size r w w'/\Be w' b1 (UJ 0 0 []).toArray 99/\Be w' A #[Ah 6,Ah 0,.string ⟨#[]⟩,.slice none 0 0,t.1,.slice none 0 0] 99/\AJ NF 99 (A+1) w' t.1 t.2.1/\IR w' (λk=>A<k/\t.1.ownBlock≠some k) t.2.1 t.2.2.1/\Ii (FW refs l D.toNat) l t.2.2.2.2 t.2.2.1 t.2.2.2.1=R/\l.length<t.2.2.2.2+t.2.2.2.1/\t.2.2.2.1<=l.length/\t.2.2.1.length<=65535) (λt=>t.2.2.2.2) ((.slice none 0 0,[],[],t0,l.length+1)) ⟨rfl,rfl,rfl,rfl,tT⟩ (⟨⟨cf,ci⟩,cj,cg,bh,AJ.nil _ _ _ _,IR.nil _ _,hR.symm,oM,ht,by simp⟩) (λt w1 hR=>?_)
 obtain ⟨v,cs,acc,t,f⟩:=t
 obtain ⟨aK,hT,c5,a9,an,ao,hw,dc,aL,dd⟩:=hR
 simp only at aK a9 an ao hw dc aL dd ⊢
 have J:=Yp (obj:=FW refs l D.toNat) (l:=l) (acc:=acc) (t:=t) (f:=f) oO
 have dJ:=H7 l t aL
 have dP:=ao.len
 obtain ⟨pl,cl,rfl,-⟩:=an.row
 refine Aj<|A5<|A3 rfl<|By BQ rfl rfl ((Pn r p l c t refs _ ⟨aK.1,aK.2⟩ hne hl aL)) (λde c6 a1 u=>?_) (λdf c6 a1 u=>?_)
 have aM:=BY hT (Gq u hT.size)
 exact AE (DG de (by rw [<- hw,J,(JN a1).1,(JN a1).2];rfl) aM)
 have aN:=Ek an u.2 oO
 have aO:=NL (w1:=c6) ao (λk hk hl=>u.2.block k hl oO)
 have ap:=u.1.1
 have aP:=Iw c5 u.2 c5.lt oO
 have aq:=Iw a9 u.2 a9.lt oO
 have aQ:=u.1.2
 have ar:=BY hT (Gq u.2 hT.size)
 have aR:=Rc a1
 rw [aR] at J
 obtain ⟨ay,dg⟩:=C2.1 aR
 obtain ⟨x0,dh⟩:=eX df
 rw [<- dh] at J dg aR ⊢
 generalize AY false l t=s at *
 refine A1 (.neq rfl rfl)<|A0<|Ae rfl (λaT=>?_) (λaT=>?_)
 have ck:=Kj aT
 refine Ap<|AU<|Aj<|A5<|A1 (.fa CO rfl F8 dD rfl)<|Ai (Af (He _) rfl aq rfl)<|A1 (.lenS Fi rfl)<|A1 (.geq rfl rfl)<|A0<|Ae rfl (λaU=>?_) (λaU=>?_)
 have cm:=dT aU
 refine Ak<|Gb BQ rfl ((D8 25 _)) (λdQ cn=>?_)
 obtain rfl:=cn
 exact AE (DG 25 (by rw [<- hw,J];simp only [];rw [A2 (DH (d:=93) aS),A7 oO];rfl) ar)
 have cm:=dF aU
 refine Ap<|ME 9 rfl Ci (λdi K=>?_)
 have ac:=AJ.drew aN K
 have aV:=NL (w1:=di) aO (λk hk hl=>(by obtain ⟨m,rfl⟩:=K;rfl))
 have aW:=ap.drew K
 have ad:=aP.drew K
 have N:=aq.drew K
 have aX:=aQ.drew K
 have B:=BY ar (Ob K)
 refine Bs 0 rfl (.fa CO rfl F8 dD rfl) rfl<|Bs 2 rfl (.mv rfl) rfl<|Bs 3 rfl (.mv rfl) rfl<|Em 1 rfl 4 rfl ?_ ?_
 refine Ai (Af (He _) rfl N rfl)<|A0<|AG 4 rfl<|WL.cx BQ rfl rfl ((hO r s _ ⟨aW,aX⟩ hne ay)) (λdj dk ae au=>?_) (λdl dR dk ae au=>?_)
 have aY:=BY B (Gq au B.size)
 exact AE (DG dj (by rw [<- hw,J];simp only [];rw [A2 (DH (d:=93) aS),A2 oO,ae];rfl) aY)
 have aa:=ae
 obtain ⟨oX,tX⟩:=dl
 obtain ⟨x1,rfl,aZ,a3,C⟩:=au
 have az:=hadv s oX tX ay aa
 have aA:=Ek ac C oO
 have af:=NL aV (λk hk hl=>C.block k hl (by have:=hk.1;omega))
 have P:=Iw ad C (ad).lt oO
 have E:=Iw N C (N).lt oO
 have a4:=BY B (Gq C B.size)
 have av:=aZ.mono (T:=λk=>A<k/\(Value.slice pl cs.length cl).ownBlock≠some k) (λk hk _=>⟨by have:=(N).lt;omega,λe=>by have:=((ac).lt k e).2;omega⟩)
 have a2:=af.push av
 have a5:=a3.1
 have a6:=a3.2
 refine A0<|AG 5 rfl<|Cw (L:=NF) (ps:=_) ([x1]) Fi II JE rfl rfl rfl rfl rfl (by rfl) rfl rfl (λdm a' Y bi x dB=>?_)
 have co:=GK aA Y x
 have cq:=NL (w1:=a') a2 (λk hk hl=>x.other k oO)
 have cr:=Bx Y a5.lt
 have ct:=a5.un x cr
 have cu:=Bx Y P.lt
 have cv:=P.un x cu
 have cw:=Bx Y E.lt
 have b0:=E.un x cw
 have bj:=λX=>Y▸a6.lt X
 have cy:=DQ a6 x bj
 have b2:=DW Y a4.size
 have cz:=BY a4 (EH x b2)
 have dn:dm<=a'.heap.size:=by omega
 refine A0<|AG 6 rfl<|CV Fi Qa rfl rfl rfl co rfl (bi).rowp oE ((b0).lt) rfl (λh=>nomatch h) (λdp dS aB U bk bl=>?_)
 have cA:=ct.below U oO
 have cB:=cv.below U oO
 have cC:=b0.below U oO
 have cD:=IQ (T:=λk=>A<k/\(dp).ownBlock≠some k) cq (λk hk hl=>bk.block k hl (λe=>hk.2 e.symm)) (λk hk hl=>⟨hk.1,λe=>by rcases bl k e with h | h;exact hk.2 h;omega⟩)
 have cE:=Hk cy U aJ
 have cF:=BY cz (JM (U.mono oO))
 refine A0<|Bs 7 rfl (.fa CO rfl F8 dD rfl) rfl<|AG 8 rfl<|WL.st F8 rfl rfl (aB).one cC (by exact Nat.le_of_ble_eq_true rfl) (λc7 ag j dC=>?_)
 have ag:Be c7 A _ _:=ag
 have j:E6 A _ _:=j
 have cG:=D0 aB j oM
 have cH:=NL (w1:=c7) cD (λk hk hl=>j.other k oM)
 have cI:=cA.up j
 have cJ:=cB.up j
 have cK:=DQ cE j Q
 have cL:=BY cF (EH j oO)
 refine A0<|Cg kR ?_
 exact ⟨(_,cs++[x1],acc++[oX],tX,f-1),⟨rfl,rfl,rfl,rfl,tT⟩,⟨⟨cI,cK⟩,cL,cJ,ag,cG,cH,by rw [<- hw,J];simp only [];rw [A2 (DH (d:=93) aS),A2 oO,aa],oM,az.2,oF⟩,oM⟩
 refine WL.cx BQ rfl rfl ((hO r s _ ⟨aW,aX⟩ hne ay)) (λdq dr ah aw=>?_) (λds dU dr ah aw=>?_)
 have b3:=BY B (Gq aw B.size)
 exact AE (DG dq (by rw [<- hw,J];simp only [];rw [A2 (DH (d:=93) aS),A2 oO,ah];rfl) b3)
 have aa:=ah
 obtain ⟨oX,tX⟩:=ds
 obtain ⟨x1,rfl,aZ,a3,C⟩:=aw
 have az:=hadv s oX tX ay aa
 have aA:=Ek ac C oO
 have af:=NL aV (λk hk hl=>C.block k hl (by have:=hk.1;omega))
 have P:=Iw ad C (ad).lt oO
 have E:=Iw N C (N).lt oO
 have a4:=BY B (Gq C B.size)
 have av:=aZ.mono (T:=λk=>A<k/\(Value.slice pl cs.length cl).ownBlock≠some k) (λk hk _=>⟨by have:=(N).lt;omega,λe=>by have:=((ac).lt k e).2;omega⟩)
 have a2:=af.push av
 have a5:=a3.1
 have a6:=a3.2
 refine A0<|Em 1 rfl 5 rfl ?_ ?_
 refine Ai (Af (He _) rfl E rfl)<|A0<|AG 5 rfl<|Cw (L:=NF) (ps:=_) ([x1]) Fi II JE rfl rfl rfl rfl rfl (by rfl) rfl rfl (λdt b4 Z bm y dE=>?_)
 have cM:=GK aA Z y
 have cN:=NL (w1:=b4) a2 (λk hk hl=>y.other k oO)
 have cO:=Bx Z a5.lt
 have cP:=a5.un y cO
 have cQ:=Bx Z P.lt
 have cR:=P.un y cQ
 have cS:=Bx Z E.lt
 have b5:=E.un y cS
 have bn:=λX=>Z▸a6.lt X
 have cT:=DQ a6 y bn
 have b6:=DW Z a4.size
 have cU:=BY a4 (EH y b6)
 have du:dt<=b4.heap.size:=by omega
 refine A0<|AG 6 rfl<|CV Fi Qa rfl rfl rfl cM rfl (bm).rowp oE ((b5).lt) rfl (λh=>nomatch h) (λdv dV aC V bo bp=>?_)
 have cV:=cP.below V oO
 have cW:=cR.below V oO
 have cX:=b5.below V oO
 have cY:=IQ (T:=λk=>A<k/\(dv).ownBlock≠some k) cN (λk hk hl=>bo.block k hl (λe=>hk.2 e.symm)) (λk hk hl=>⟨hk.1,λe=>by rcases bp k e with h | h;exact hk.2 h;omega⟩)
 have cZ:=Hk cT V aJ
 have c':=BY cU (JM (V.mono oO))
 refine A0<|Bs 7 rfl (.fa CO rfl F8 dD rfl) rfl<|AG 8 rfl<|WL.st F8 rfl rfl (aC).one cX (by exact Nat.le_of_ble_eq_true rfl) (λc8 ai q dG=>?_)
 have ai:Be c8 A _ _:=ai
 have q:E6 A _ _:=q
 have d0:=D0 aC q oM
 have d1:=NL (w1:=c8) cY (λk hk hl=>q.other k oM)
 have d2:=cV.up q
 have bq:=cW.up q
 have bt:=DQ cZ q Q
 have bu:=BY c' (EH q oO)
 refine A0<|Cg kR ?_
 exact ⟨(_,cs++[x1],acc++[oX],tX,f-1),⟨rfl,rfl,rfl,rfl,tT⟩,⟨⟨d2,bt⟩,bu,bq,ai,d0,d1,by rw [<- hw,J];simp only [];rw [A2 (DH (d:=93) aS),A2 oO,aa],oM,az.2,oF⟩,oM⟩
 refine Cw (L:=NF) (ps:=_) ([x1]) Fi II JE rfl rfl rfl rfl rfl (by rfl) rfl rfl (λd3 aD H b8 i dw=>?_)
 have bv:=GK aA H i
 have bw:=NL (w1:=aD) a2 (λk hk hl=>i.other k oO)
 have bx:=Bx H a5.lt
 have bz:=a5.un i bx
 have bA:=Bx H P.lt
 have bB:=P.un i bA
 have bC:=Bx H E.lt
 have aj:=E.un i bC
 have b9:=λX=>H▸a6.lt X
 have bD:=DQ a6 i b9
 have aF:=DW H a4.size
 have bE:=BY a4 (EH i aF)
 have d6:d3<=aD.heap.size:=by omega
 refine A0<|AG 1 rfl<|Ai (Af (He _) rfl aj rfl)<|A0<|AG 6 rfl<|CV Fi Qa rfl rfl rfl bv rfl (b8).rowp oE ((aj).lt) rfl (λh=>nomatch h) (λd4 dK ak F ba bb=>?_)
 have bG:=bz.below F oO
 have bH:=bB.below F oO
 have bI:=aj.below F oO
 have bJ:=IQ (T:=λk=>A<k/\(d4).ownBlock≠some k) bw (λk hk hl=>ba.block k hl (λe=>hk.2 e.symm)) (λk hk hl=>⟨hk.1,λe=>by rcases bb k e with h | h;exact hk.2 h;omega⟩)
 have bK:=Hk bD F aJ
 have bL:=BY bE (JM (F.mono oO))
 refine A0<|Bs 7 rfl (.fa CO rfl F8 dD rfl) rfl<|AG 8 rfl<|WL.st F8 rfl rfl (ak).one bI (by exact Nat.le_of_ble_eq_true rfl) (λbc a7 a dx=>?_)
 have a7:Be bc A _ _:=a7
 have a:E6 A _ _:=a
 have bM:=D0 ak a oM
 have bN:=NL (w1:=bc) bJ (λk hk hl=>a.other k oM)
 have bO:=bG.up a
 have bP:=bH.up a
 have bQ:=DQ bK a Q
 have bR:=BY bL (EH a oO)
 refine A0<|Cg kR ?_
 exact ⟨(_,cs++[x1],acc++[oX],tX,f-1),⟨rfl,rfl,rfl,rfl,tT⟩,⟨⟨bO,bQ⟩,bR,bP,a7,bM,bN,by rw [<- hw,J];simp only [];rw [A2 (DH (d:=93) aS),A2 oO,aa],oM,az.2,oF⟩,oM⟩
 have ck:=Kk aT
 refine C7<|A5<|A3 rfl<|A1 (.nck rfl)<|A1 (.fa CZ rfl B6 dD rfl)<|Ai (Af (BE _) rfl ap rfl)<|A1 (.iis (((s+1:Nat):Int)) (.add rfl rfl (Bn oO)) oO)<|A1 (.nck rfl)<|A1 (.fa CZ rfl B6 dD rfl)<|WL.st B6 rfl rfl rfl ap (by exact Nat.le_of_ble_eq_true rfl) (λbd a8 b dy=>?_)
 have a8:Be bd r _ _:=a8
 have b:E6 r _ _:=b
 have bS:=D0 aN b oM
 have bT:=NL (w1:=bd) aO (λk hk hl=>b.other k oM)
 have bU:=aP.up b
 have bV:=aq.up b
 have bW:=Ay.upd aQ b hne
 have bX:=BY ar (BX b)
 refine A0<|A5<|Ai (BD rfl bV CO rfl Bb)<|AH rfl rfl bU Bb rfl rfl (λd5 be G dz=>?_)
 have aE:=D0 bS G oM
 have bY:=NL (w1:=d5) bT (λk hk hl=>G.other k oM)
 have bZ:=a8.up G
 have b':=DQ bW G aI
 have c0:=BY bX (EH G oO)
 refine A0<|B2 (Ch rfl rfl (BF be CO rfl Bb)  ?_)
 exact GX (.mk 6 0 [] [] acc,s+1) _ (by rw [<- hw,J];simp only [];rw [A7 (CH (d:=93) aS)];rfl) rfl ⟨⟨6,0,[],none,0,0,pl,cs.length,cl⟩,rfl,SE ⟨AJ.nil _ _ _ _,λg h=>by cases h⟩ ⟨(aE).base (λg hg=>G8 _),λg hg=>by have:=(aE).lt g hg;omega⟩ ((bY).mono (λk hk _=>by have:=hk.1;omega)),⟨bZ,b'⟩,c0⟩
end
section
theorem A9T:(Tryz.prog.info? 9).map (λi=>(i.zero,i.size,i.bytes))=some (some (.string ⟨#[]⟩),1,16):=by kernel_rfl
theorem A3i (q:Option Addr) (s:List (l8_)) (c:Nat) (x:l8_) (w:World) (hb:AZ VB w q s) (hl:s.length<=1000000000) :
  Calls Tryz.prog 51 #[.slice q s.length c,.string (bs x)] w λe w'=>∃ a:{ a:Int // 0<=a↔x∈s },e=.returned (Ah a.1)/\w=w':=by
 refine Av func51 rfl ntmps51<|A5<|Ab rfl<|Aj<|A5<|A3 rfl<|A1 (.lenS R4 rfl)<|A3 rfl<|A0<|AU<|Cf (α:=Nat) (λt=>[(0,.slice q s.length c),(1,.string (bs x)),(7,Ah (s.length:Int)),(8,Ah (t:Int))]) (λt w'=>w=w'/\t<=s.length/\x ∉ s.take t) (λt=>s.length-t) (0) ⟨rfl,rfl,rfl,rfl,tT⟩ (⟨rfl,G8 _,by simp⟩) (λt k hR=>?_)
 obtain ⟨i,rfl⟩:=eX t
 obtain ⟨rfl,hi,b⟩:=hR
 refine A5<|A1 (.lss rfl rfl)<|A0<|Aj<|Ae rfl (λd=>?_) (λd=>?_)
 have g:=dT d
 refine Ap<|Aj<|AU<|A5<|A3 rfl<|Ab rfl<|A5<|A3 rfl<|A3 rfl<|A3 rfl<|A1 (.ixb R4 M1 rfl rfl (hb.isp oO) (i) (rfl) oO)<|Ai (AS (Li _) rfl (hb.cells (i) oO))<|A1 (.eqs rfl rfl)<|A0<|Ae rfl (λf=>?_) (λf=>?_)
 have j:=dT f
 refine A5<|A3 rfl<|Ab rfl<|AI ?_
 exact ⟨⟨(i:Int),λ_=>by rw [show x=s[i]'oO by assumption];exact AM _,λ_=>by omega⟩,rfl,rfl⟩
 have j:=dF f
 refine Ap<|Ak<|A1 (.iis (((i+1:Nat):Int)) (.add rfl rfl (Bn oO)) oO)<|A3 rfl<|A0<|?_
 exact ⟨i+1,⟨rfl,rfl,rfl,rfl,tT⟩,⟨rfl,oM,by
  rw [List.take_add_one,A6 oO,Option.toList_some,B4,Ao];exact λh=>h.elim b aS⟩,oM⟩
 have g:=dF d
 refine C7<|A5<|Ab rfl<|AI ?_
 exact ⟨⟨-1,λh=>D6 h dD,λh=>by rw [show s.take i=s from AR oO] at b;exact D6 h b⟩,rfl,rfl⟩
theorem A3k (q:Option Addr) (s:List (l8_)) (c:Nat) (x:l8_) (w:World) (hb:AZ VB w q s) (hl:s.length<=1000000000) :
  Calls Tryz.prog 92 #[.slice q s.length c,.string (bs x)] w λe w'=>e=.returned (.bool (decide (x∈s)))/\w=w':=by
 refine Av func92 rfl ntmps92<|A5<|Ab rfl<|A5<|A3 rfl<|A3 rfl<|DO BQ rfl rfl ((A3i q s c x _ hb hl)) (λa d b=>?_)
 obtain rfl:=b
 refine A1 (.geq rfl rfl)<|Ab rfl<|AI ?_
 exact ⟨EY (DX.2 a.2),rfl⟩
theorem RO {l:l8_} {k:l8_} (ht:t<=l.length) (h:Jz l t=.ok (k,t1)):t<=t1/\t1<=l.length:=by
 have hw:=Fy l t ht
 unfold Jz at h
 split at h
 · cases h
 ·
  split at h
  · cases h
  ·
   split at h
   · cases h
   · cases h;exact hw
theorem Wf {obj:Nat->Ni} {l:l8_} {f:Nat} {ks:List (l8_)} {os:List PV} (hf:0<f):Ho obj l f ks os t=(match l[AY false l t]? with
  | none=>.error 24
  | some c =>
   if c=62/\l.length<=AY false l t+1 then .error 24
   else if c=62/\l[AY false l t+1]?=some 62 then .ok (ks,os,AY false l t+2)
   else if c≠47 then .error 23
   else match Jz l (AY false l t+1) with
    | .error k=>.error k
    | .ok (k,t1) =>
     if k∈ks then .error 23
     else if 65535<=os.length then .error 25
     else match l[AY false l t1]? with
      | none=>.error 24
      | some _=>match obj (AY false l t1) with
       | .error k=>.error k
       | .ok (o,t')=>Ho obj l (f-1) (ks++[k]) (os++[o]) t'):=by
 cases f with
 | zero=>omega
 | succ f=>rfl
theorem A37 {l:l8_} (h:I1 l t 62=true):l[t]?=some 62:=by
 obtain ⟨a,b⟩:=QH h
 rw [A6 a,b]
theorem Wo {l:l8_} (h:I1 l t 62=false):l[t]?≠some 62:=λe=>by
 obtain ⟨h1,h2⟩:=C2.1 e
 exact UM h h1 h2
theorem Yc (p:Option Addr) (l:l8_) (c:Nat) (refs:Bool) (D:Int) (hO:A4A p l c refs D) (hadv:∀ t o t',t<l.length->FW refs l D.toNat t=.ok (o,t')->t<t'/\t'<=l.length) (r t:Nat) (w:World) (h:QB w r p l c t refs) (hne:0<l.length->(pA p).block≠r) (hc:l.length<=c) (hl:l.length<=100000000) (ht:t<=l.length) :
  Calls Tryz.prog 63 #[ptV r,Ah D] w (HO 30 (NG (Ho (FW refs l D.toNat) l (l.length+1) [] [] t)) (A8c w r p l c refs) (λw'=>Bo w.heap.size r w w')):=by
 have hr:=h.1
 have hb:=h.2
 have fC:0<l.length->(pA p).block<w.heap.size:=λh0=>hb.lt h0
 obtain ⟨R,hR⟩:=eX (Ho (FW refs l D.toNat) l (l.length+1) [] [] t)
 rw [<- hR]
 obtain ⟨t0,fD⟩:=eX t
 subst fD
 refine Av func63 rfl ntmps63 ?_
 have eF:=Bo.refl (w.heap.size) r w
 refine A5<|C1 JE rfl (λb1 gm bZ b' be g6=>?_)
 have fE:=Bx bZ hr.lt
 have aK:=hr.un be fE
 have c0:=λh0=>bZ▸hb.lt h0
 have eG:=DQ hb be c0
 have cH:=DW bZ eF.size
 have eH:=BY eF (EH be cH)
 refine A0<|?_
 refine A5<|A1 (.buildL (ps:=_) Hj rfl rfl rfl pS) ?_
 refine C1 JE rfl (λP go bt eM aM g7=>?_)
 have fF:=Bx bt aK.lt
 have fG:=aK.un aM fF
 have eN:=Bx bt b'.lt
 have eO:=b'.un aM eN
 have aa:=λh0=>bt▸eG.lt h0
 have eP:=DQ eG aM aa
 have cI:=DW bt eH.size
 have eQ:=BY eH (EH aM cI)
 refine AH rfl rfl eM Bb rfl rfl (λgp cJ ao g2=>?_)
 have eR:=fG.up ao
 have eS:=eO.up ao
 have eT:=DQ eP ao aa
 have eU:=BY eQ (EH ao oO)
 refine A0<|AU ?_
 have bu:0<l.length->(pA p).block<P+1:=λh0=>by have:=fC h0;omega
 refine Cf (α:=Value × Value × List (l8_) × List PC × List PV × Nat × Nat) (λt=>[(0,ptV r),(1,Ah D),(4,ptV b1),(5,ptV P)]) (λt w'=>QB w' r p l c t.2.2.2.2.2.1 refs/\Bo w.heap.size r w w'/\Be w' b1 (UJ 0 0 []).toArray 99/\Be w' P #[Ah 7,Ah 0,.string ⟨#[]⟩,t.1,t.2.1,.slice none 0 0] 99/\AJ A2m 9 (P+1) w' t.1 t.2.2.1/\AJ NF 99 (P+1) w' t.2.1 t.2.2.2.1/\(∀ g,t.1.ownBlock=some g->t.2.1.ownBlock≠some g)/\IR w' (λk=>P<k/\t.1.ownBlock≠some k/\t.2.1.ownBlock≠some k) t.2.2.2.1 t.2.2.2.2.1/\Ho (FW refs l D.toNat) l t.2.2.2.2.2.2 t.2.2.1 t.2.2.2.2.1 t.2.2.2.2.2.1=R/\l.length<t.2.2.2.2.2.2+t.2.2.2.2.2.1/\t.2.2.2.2.2.1<=l.length/\t.2.2.2.2.1.length<=65535/\t.2.2.1.length=t.2.2.2.2.1.length) (λt=>t.2.2.2.2.2.2) ((.slice none 0 0,.slice none 0 0,[],[],[],t0,l.length+1)) ⟨rfl,rfl,rfl,rfl,tT⟩ (⟨⟨eR,eT⟩,eU,eS,cJ,AJ.nil _ _ _ _,AJ.nil _ _ _ _,λg h=>(by cases h),IR.nil _ _,hR.symm,oM,ht,G8 _,rfl⟩) (λt w1 hR=>?_)
 obtain ⟨kv,v,ks,cs,acc,t,f⟩:=t
 obtain ⟨c2,hT,eI,aK,aN,bf,bg,bh,hw,fH,c3,fI,fJ⟩:=hR
 simp only at c2 aK aN bf bg bh hw fH c3 fI fJ ⊢
 have H:=Wf (obj:=FW refs l D.toNat) (l:=l) (ks:=ks) (os:=acc) (t:=t) (f:=f) oO
 have g8:=H7 l t c3
 have gq:=bh.len
 obtain ⟨pl,cl,rfl,-⟩:=bf.row
 obtain ⟨pk,ck,rfl,-⟩:=aN.row
 refine AU<|Aj<|A5<|A3 rfl<|By BQ rfl rfl ((Pn r p l c t refs _ ⟨c2.1,c2.2⟩ hne hl c3)) (λfK eJ ap N=>?_) (λfL eJ ap N=>?_)
 have c4:=BY hT (Gq N hT.size)
 exact AE (DG fK (by rw [<- hw,H,(JN ap).1,(JN ap).2];rfl) c4)
 have eV:=Ek aN N.2 oO
 have eW:=Ek bf N.2 oO
 have eY:=NL (w1:=eJ) bh (λk hk hl=>N.2.block k hl oO)
 have bi:=N.1.1
 have eZ:=Iw eI N.2 eI.lt oO
 have e':=Iw aK N.2 aK.lt oO
 have f0:=N.1.2
 have f1:=BY hT (Gq N.2 hT.size)
 have c5:=Rc ap
 rw [c5] at H
 obtain ⟨gr,fM⟩:=C2.1 c5
 obtain ⟨x0,fN⟩:=eX fL
 rw [<- fN] at H fM c5 ⊢
 generalize AY false l t=s at *
 refine Ab rfl<|AU<|N7 11 (decide ((x0.toNat:Int)=62/\(l.length:Int)<=(s:Int)+1)) ?_ (λfO a2=>?_)
 refine Eg Ci kR<|AA (.mv rfl) rfl<|AA (.eql rfl rfl) rfl<|AA (.mv rfl) rfl<|MD rfl rfl rfl (λb=>?_) (λb=>?_)
 have f2:=dT b
 refine AA (.mv rfl) rfl<|C5 rfl rfl rfl b<|AA (.nck rfl) rfl<|C5 rfl rfl rfl b<|AA (.fa CZ rfl B6 dD rfl) rfl<|C5 rfl rfl rfl b<|Du (λm=>Af (BE _) rfl bi rfl) rfl<|C5 rfl rfl rfl b<|AA (.iis ((s:Int)+1) (.add rfl rfl (Bn oO)) oO) rfl<|C5 rfl rfl rfl b<|AA (.mv rfl) rfl<|C5 rfl rfl rfl b<|AA (.nck rfl) rfl<|C5 rfl rfl rfl b<|AA (.fa CZ rfl Gr dD rfl) rfl<|C5 rfl rfl rfl b<|Du (λm=>Af (g22_ _) rfl bi rfl) rfl<|C5 rfl rfl rfl b<|AA (.lenS BI rfl) rfl<|C5 rfl rfl rfl b<|AA (.geq rfl rfl) rfl<|AA (.pkT rfl b rfl) rfl<|AA (.as rfl) rfl<|Dk (λgs f3=>?_)
 exact ⟨Gm (CD rfl (by (apply B1.2;(try simp) <;> omega))),f3⟩
 have f2:=dF b
 refine Bj rfl rfl rfl b<|Bj rfl rfl rfl b<|Bj rfl rfl rfl b<|Bj rfl rfl rfl b<|Bj rfl rfl rfl b<|Bj rfl rfl rfl b<|Bj rfl rfl rfl b<|Bj rfl rfl rfl b<|Bj rfl rfl rfl b<|Bj rfl rfl rfl b<|AA (.pkF rfl b rfl) rfl<|AA (.as rfl) rfl<|Dk (λgt f4=>?_)
 exact ⟨Gm (CD rfl (by (apply B1.2;(try simp) <;> omega))),f4⟩
 have f5:=AJ.drew eV a2
 have f6:=AJ.drew eW a2
 have f7:=NL (w1:=fO) eY (λk hk hl=>(by obtain ⟨m,rfl⟩:=a2;rfl))
 have bj:=bi.drew a2
 have f8:=eZ.drew a2
 have f9:=e'.drew a2
 have bk:=f0.drew a2
 have c6:=BY f1 (Ob a2)
 refine Ae rfl (λc7=>?_) (λc7=>?_)
 have fb:=dT c7
 refine Ak<|Gb BQ rfl ((D8 24 _)) (λgv fc=>?_)
 obtain rfl:=fc
 exact AE (DG 24 (by rw [<- hw,H];(try simp only []);rw [A7 ⟨CH (d:=62) (show (x0.toNat:Int)=62 by omega),oO⟩];rfl) c6)
 have fb:=dF c7
 have a3:¬ (x0=62/\l.length<=s+1):=λh=>by (have h2:(x0.toNat:Int)=62:=by rw [h.1];rfl);omega
 refine N7 28 (decide ((x0.toNat:Int)=62) && I1 l (s+1) 62) ?_ (λfP a4=>?_)
 refine Eg Ci kR<|AA (.mv rfl) rfl<|AA (.eql rfl rfl) rfl<|AA (.mv rfl) rfl<|MD rfl rfl rfl (λa=>?_) (λa=>?_)
 have fd:=dT a
 refine AA (.mv rfl) rfl<|C5 rfl rfl rfl a<|AA (.nck rfl) rfl<|C5 rfl rfl rfl a<|AA (.fa CZ rfl Gr dD rfl) rfl<|C5 rfl rfl rfl a<|Du (λm=>Af (g22_ _) rfl bj rfl) rfl<|C5 rfl rfl rfl a<|AA (.mv rfl) rfl<|C5 rfl rfl rfl a<|AA (.nck rfl) rfl<|C5 rfl rfl rfl a<|AA (.fa CZ rfl B6 dD rfl) rfl<|C5 rfl rfl rfl a<|Du (λm=>Af (BE _) rfl bj rfl) rfl<|C5 rfl rfl rfl a<|AA (.iis (((s+1:Nat):Int)) (.add rfl rfl (Bn oO)) oO) rfl<|C5 rfl rfl rfl a<|AA (.ixb BI Iy rfl rfl (bk.isp oO) (s+1) oO oO) rfl<|C5 rfl rfl rfl a<|Du (λm=>AS (P3 _) rfl ((bk.drewN m).cells (s+1) oO)) rfl<|C5 rfl rfl rfl a<|AA (.eql rfl rfl) rfl<|AA (.pkT rfl a rfl) rfl<|AA (.as rfl) rfl<|Dk (λgw fe=>?_)
 exact ⟨Gm (CD rfl (by (rw [show decide ((x0.toNat:Int)=62)=true from Al aS,BV];unfold I1;rw [show decide (s+1<l.length)=true from Al oO,BV,getElem!_pos l (s+1) oO];rfl))),fe⟩
 have fd:=dF a
 refine Bj rfl rfl rfl a<|Bj rfl rfl rfl a<|Bj rfl rfl rfl a<|Bj rfl rfl rfl a<|Bj rfl rfl rfl a<|Bj rfl rfl rfl a<|Bj rfl rfl rfl a<|Bj rfl rfl rfl a<|Bj rfl rfl rfl a<|Bj rfl rfl rfl a<|Bj rfl rfl rfl a<|AA (.pkF rfl a rfl) rfl<|AA (.as rfl) rfl<|Dk (λgx ff=>?_)
 exact ⟨Gm (CD rfl (by (rw [show decide ((x0.toNat:Int)=62)=false from An aS];rfl))),ff⟩
 have c8:=AJ.drew f5 a4
 have c9:=AJ.drew f6 a4
 have ca:=NL (w1:=fP) f7 (λk hk hl=>(by obtain ⟨m,rfl⟩:=a4;rfl))
 have aO:=bj.drew a4
 have cb:=f8.drew a4
 have cc:=f9.drew a4
 have cd:=bk.drew a4
 have bl:=BY c6 (Ob a4)
 refine Ae rfl (λfQ=>?_) (λfQ=>?_)
 have bm:(x0.toNat:Int)=62/\I1 l (s+1) 62=true:=by simp_all
 have gz:=(QH bm.2).1
 refine A5<|A3 rfl<|A1 (.nck rfl)<|A1 (.fa CZ rfl B6 dD rfl)<|Ai (Af (BE _) rfl aO rfl)<|A1 (.iis (((s+2:Nat):Int)) (.add rfl rfl (Bn oO)) oO)<|A1 (.nck rfl)<|A1 (.fa CZ rfl B6 dD rfl)<|WL.st B6 rfl rfl rfl aO (by exact Nat.le_of_ble_eq_true rfl) (λeK aP G g3=>?_)
 have aP:Be eK r _ _:=aP
 have G:E6 r _ _:=G
 have fg:=D0 c8 G oM
 have fh:=D0 c9 G oM
 have fi:=NL (w1:=eK) ca (λk hk hl=>G.other k oM)
 have fj:=cb.up G
 have fk:=cc.up G
 have fl:=Ay.upd cd G hne
 have fm:=BY bl (BX G)
 refine A0<|A5<|Ai (BD rfl fk CO rfl Bb)<|AH rfl rfl fj Bb rfl rfl (λfR cK ab g4=>?_)
 have cf:=D0 fg ab oM
 have bv:=D0 fh ab oM
 have cL:=NL (w1:=fR) fi (λk hk hl=>ab.other k oM)
 have cM:=aP.up ab
 have cN:=DQ fl ab c0
 have cO:=BY fm (EH ab oO)
 refine A0<|B2 (Ch rfl rfl (BF cK CO rfl Bb)  ?_)
 exact GX (.mk 7 0 [] ks acc,s+2) _ (by rw [<- hw,H];(try simp only []);rw [A2 a3,A7 ⟨CH (d:=62) bm.1,A37 bm.2⟩];rfl) rfl ⟨⟨7,0,[],pk,ks.length,ck,pl,cs.length,cl⟩,rfl,SE ⟨(cf).base (λg hg=>G8 _),λg hg=>by have:=(cf).lt g hg;omega⟩ ⟨(bv).base (λg hg=>G8 _),λg hg=>by have:=(bv).lt g hg;omega⟩ ((cL).mono (λk hk _=>by have:=hk.1;omega)),⟨cM,cN⟩,cO⟩
 have ad:¬ (x0=62/\l[s+1]?=some 62):=λh=>by (have h2:(x0.toNat:Int)=62:=by rw [h.1];rfl);(have h3:=Wo (l:=l) (t:=s+1) (by simp_all));exact h3 h.2
 refine A5<|A3 rfl<|A1 (.neq rfl rfl)<|Ab rfl<|Ae rfl (λbn=>?_) (λbn=>?_)
 have cP:=Kj bn
 refine Ak<|Gb BQ rfl ((D8 23 _)) (λg9 cQ=>?_)
 obtain rfl:=cQ
 exact AE (DG 23 (by rw [<- hw,H];(try simp only []);rw [A2 a3,A2 ad,A7 (DH (d:=47) aS)];rfl) bl)
 have cP:=Kk bn
 have af:x0=47:=CH (d:=47) aS
 refine Ap<|A5<|A3 rfl<|A1 (.nck rfl)<|A1 (.fa CZ rfl B6 dD rfl)<|Ai (Af (BE _) rfl aO rfl)<|A1 (.iis (((s+1:Nat):Int)) (.add rfl rfl (Bn oO)) oO)<|A1 (.nck rfl)<|A1 (.fa CZ rfl B6 dD rfl)<|WL.st B6 rfl rfl rfl aO (by exact Nat.le_of_ble_eq_true rfl) (λcg az i fS=>?_)
 have az:Be cg r _ _:=az
 have i:E6 r _ _:=i
 have cR:=D0 c8 i oM
 have cS:=D0 c9 i oM
 have cT:=NL (w1:=cg) ca (λk hk hl=>i.other k oM)
 have bw:=cb.up i
 have bx:=cc.up i
 have cU:=Ay.upd cd i hne
 have aq:=BY bl (BX i)
 refine A0<|A5<|A3 rfl<|By BQ rfl rfl ((TM r p l c (s+1) refs _ ⟨az,cU⟩ hne hc hl oO)) (λfn ci aA y=>?_) (λfo ci aA y=>?_)
 have bR:=BY aq (Gq y aq.size)
 exact AE (DG fn (by rw [<- hw,H];(try simp only []);rw [A2 a3,A2 ad,A2 (by rw [af];simp),aA];rfl) bR)
 have bz:=Ek cR y.2 oO
 have cV:=Ek cS y.2 oO
 have cW:=NL (w1:=ci) cT (λk hk hl=>y.2.block k hl oO)
 have bA:=y.1.1
 have bB:=Iw bw y.2 bw.lt oO
 have ag:=Iw bx y.2 bx.lt oO
 have bC:=y.1.2
 have ar:=BY aq (Gq y.2 aq.size)
 have ah:=aA
 obtain ⟨kX,t1⟩:=fo
 have eL:=RO oO ah
 simp only [] at *
 refine Ab rfl<|Aj<|A5<|A1 (.fa CO rfl sizeOf23 dD rfl)<|Ai (Af (isAgg23 _) rfl ag rfl)<|A3 rfl<|As (A3k pk ks ck kX _ ((bz).rowp.strs) oO) (λga cX=>?_)
 obtain rfl:=cX
 refine A0<|Ae rfl (λfp=>?_) (λfp=>?_)
 refine Ak<|Gb BQ rfl ((D8 23 _)) (λgb cY=>?_)
 obtain rfl:=cY
 exact AE (DG 23 (by rw [<- hw,H];(try simp only []);rw [A2 a3,A2 ad,A2 (by rw [af];simp),ah];(try simp only []);rw [A7 (dT aS)];rfl) ar)
 refine Ap<|Aj<|A5<|A1 (.fa CO rfl F8 dD rfl)<|Ai (Af (He _) rfl ag rfl)<|A1 (.lenS Fi rfl)<|A1 (.geq rfl rfl)<|A0<|Ae rfl (λbo=>?_) (λbo=>?_)
 have cZ:=dT bo
 refine Ak<|Gb BQ rfl ((D8 25 _)) (λgc c'=>?_)
 obtain rfl:=c'
 exact AE (DG 25 (by rw [<- hw,H];(try simp only []);rw [A2 a3,A2 ad,A2 (by rw [af];simp),ah];(try simp only []);rw [A2 (dF aS),A7 oO];rfl) ar)
 have cZ:=dF bo
 refine Ap<|A5<|A1 (.fa CO rfl sizeOf23 dD rfl)<|Ai (Af (isAgg23 _) rfl ag rfl)<|A3 rfl<|CF (ps:=_) R4 M1 z9_ rfl rfl rfl rfl rfl pR rfl (λge d0 U cj B fT=>?_)
 have d1:=GK bz U B
 have aQ:=GK cV U B
 have d2:=NL (w1:=d0) cW (λk hk hl=>B.other k oO)
 have d3:=Bx U bA.lt
 have d4:=bA.un B d3
 have d5:=Bx U bB.lt
 have d6:=bB.un B d5
 have d7:=Bx U ag.lt
 have bD:=ag.un B d7
 have cm:=λh0=>U▸bC.lt h0
 have d8:=DQ bC B cm
 have bS:=DW U ar.size
 have d9:=BY ar (EH B bS)
 have fU:=Bi.lit (V:=A2m) (l:=[kX]) cj (rfl)
 have fV:=(aQ).lt
 refine CV R4 A9T rfl rfl rfl d1 rfl fU oE ((bD).lt) rfl (λh=>nomatch h) (λbp gf a' a5 b0 b2=>?_)
 have da:=d4.below a5 oO
 have db:=d6.below a5 oO
 have dc:=bD.below a5 oO
 have dd:=IQ (T:=λk=>P<k/\(bp).ownBlock≠some k/\(Value.slice pl cs.length cl).ownBlock≠some k) d2 (λk hk hl=>b0.block k hl (λe=>hk.2.1 e.symm)) (λk hk hl=>⟨hk.1,λe=>by rcases b2 k e with h | h;exact hk.2.1 h;omega,hk.2.2⟩)
 have de:=AJ.same aQ (λg hg=>b0.block g ((aQ).lt g hg).2 (λhx=>bg g hx.symm hg))
 have df:=Hk d8 a5 bu
 have dg:=BY d9 (JM (a5.mono oO))
 have ac:∀ g,(bp).ownBlock=some g->(Value.slice pl cs.length cl).ownBlock≠some g:=λg hg=>by rcases b2 g hg with h | h;exact bg g h;exact λh2=>by have:=fV g h2;omega
 obtain ⟨an,rfl⟩:=eX bp
 refine A1 (.fa CO rfl sizeOf23 dD rfl)<|WL.st sizeOf23 rfl rfl (a').one dc (by exact Nat.le_of_ble_eq_true rfl) (λcn ai j fW=>?_)
 have ai:Be cn P _ _:=ai
 have j:E6 P _ _:=j
 have dh:=D0 a' j oM
 have di:=D0 de j oM
 have dj:=NL (w1:=cn) dd (λk hk hl=>j.other k oM)
 have dk:=da.up j
 have bE:=db.up j
 have dl:=DQ df j aa
 have au:=BY dg (EH j oO)
 refine A0<|A5<|A3 rfl<|By BQ rfl rfl ((Pn r p l c t1 refs _ ⟨dk,dl⟩ hne hl eL.2)) (λfq co aj A=>?_) (λgg co aj A=>?_)
 have bT:=BY au (Gq A au.size)
 exact AE (DG fq (by rw [<- hw,H];(try simp only []);rw [A2 a3,A2 ad,A2 (by rw [af];simp),ah];(try simp only []);rw [A2 (dF aS),A2 oO,(JN aj).1,(JN aj).2];rfl) bT)
 have dm:=Ek dh A.2 oO
 have dn:=Ek di A.2 oO
 have dp:=NL (w1:=co) dj (λk hk hl=>A.2.block k hl oO)
 have dq:=A.1.1
 have dr:=Iw bE A.2 bE.lt oO
 have ds:=Iw ai A.2 ai.lt oO
 have dt:=A.1.2
 have du:=BY au (Gq A.2 au.size)
 have am:=Rc aj
 obtain ⟨aR,-⟩:=C2.1 am
 have g5:=H7 l t1 eL.2
 refine A0<|ME 9 rfl Ci (λfr J=>?_)
 have av:=AJ.drew dm J
 have aw:=AJ.drew dn J
 have bG:=NL (w1:=fr) dp (λk hk hl=>(by obtain ⟨m,rfl⟩:=J;rfl))
 have bH:=dq.drew J
 have ax:=dr.drew J
 have X:=ds.drew J
 have bI:=dt.drew J
 have K:=BY du (Ob J)
 refine Bs 0 rfl (.fa CO rfl F8 dD rfl) rfl<|Bs 2 rfl (.mv rfl) rfl<|Bs 3 rfl (.mv rfl) rfl<|Em 1 rfl 4 rfl ?_ ?_
 refine Ai (Af (He _) rfl X rfl)<|A0<|AG 4 rfl<|WL.cx BQ rfl rfl ((hO r _ _ ⟨bH,bI⟩ hne aR)) (λfs cq aB aT=>?_) (λft gh cq aB aT=>?_)
 have bU:=BY K (Gq aT K.size)
 exact AE (DG fs (by rw [<- hw,H];(try simp only []);rw [A2 a3,A2 ad,A2 (by rw [af];simp),ah];(try simp only []);rw [A2 (dF aS),A2 oO,am];(try simp only []);rw [aB];rfl) bU)
 have aL:=aB
 obtain ⟨oX,tX⟩:=ft
 obtain ⟨x1,rfl,cr,aC,Q⟩:=aT
 have bJ:=hadv _ oX tX aR aL
 have bK:=Ek aw Q oO
 have bL:=Ek av Q oO
 have aU:=NL (w1:=cq) bG (λk hk hl=>Q.block k hl (by have:=hk.1;omega))
 have ae:=Iw ax Q (ax).lt oO
 have a6:=Iw X Q (X).lt oO
 have aD:=BY K (Gq Q K.size)
 have bq:=cr.mono (T:=λk=>P<k/\an.ownBlock≠some k/\(Value.slice pl cs.length cl).ownBlock≠some k) (λk hk _=>⟨by have:=(X).lt;omega,λe=>by have:=((av).lt k e).2;omega,λe=>by have:=((aw).lt k e).2;omega⟩)
 have ay:=aU.push bq
 have aE:=aC.1
 have aF:=aC.2
 refine A0<|AG 5 rfl<|Cw (L:=NF) (ps:=_) ([x1]) Fi II JE rfl rfl rfl rfl rfl (by rfl) rfl rfl (λfu bM Y ct C fX=>?_)
 have aV:=GK bL Y C
 have dv:=GK bK Y C
 have dw:=NL (w1:=bM) ay (λk hk hl=>C.other k oO)
 have dx:=Bx Y aE.lt
 have dy:=aE.un C dx
 have dz:=Bx Y ae.lt
 have dA:=ae.un C dz
 have dB:=Bx Y a6.lt
 have bN:=a6.un C dB
 have cu:=λh0=>Y▸aF.lt h0
 have dC:=DQ aF C cu
 have bV:=DW Y aD.size
 have dE:=BY aD (EH C bV)
 have fz:fu<=bM.heap.size:=by omega
 refine A0<|AG 6 rfl ?_
 have b3:=(aV).lt
 refine CV Fi Qa rfl rfl rfl dv rfl (ct).rowp oE ((bN).lt) rfl (λh=>nomatch h) (λcv gi b4 a7 b5 b6=>?_)
 have dG:=dy.below a7 oO
 have dH:=dA.below a7 oO
 have dI:=bN.below a7 oO
 have dJ:=IQ (T:=λk=>P<k/\an.ownBlock≠some k/\(cv).ownBlock≠some k) dw (λk hk hl=>b5.block k hl (λe=>hk.2.2 e.symm)) (λk hk hl=>⟨hk.1,hk.2.1,λe=>by rcases b6 k e with h | h;exact hk.2.2 h;omega⟩)
 have dK:=AJ.same aV (λg hg=>b5.block g ((aV).lt g hg).2 (λhx=>ac g hg hx.symm))
 have dL:=Hk dC a7 bu
 have dM:=BY dE (JM (a7.mono oO))
 have ak:∀ g,an.ownBlock=some g->(cv).ownBlock≠some g:=λg hg h2=>by rcases b6 g h2 with h | h;exact ac g hg h;have:=b3 g hg;omega
 refine A0<|Bs 7 rfl (.fa CO rfl F8 dD rfl) rfl<|AG 8 rfl<|WL.st F8 rfl rfl (b4).one dI (by exact Nat.le_of_ble_eq_true rfl) (λcw aG q fY=>?_)
 have aG:Be cw P _ _:=aG
 have q:E6 P _ _:=q
 have dN:=D0 dK q oM
 have dO:=D0 b4 q oM
 have dP:=NL (w1:=cw) dJ (λk hk hl=>q.other k oM)
 have dQ:=dG.up q
 have dR:=dH.up q
 have dS:=DQ dL q aa
 have dU:=BY dM (EH q oO)
 refine A0<|Cg kR ?_
 exact ⟨(_,_,ks++[kX],cs++[x1],acc++[oX],tX,f-1),⟨rfl,rfl,rfl,rfl,tT⟩,⟨⟨dQ,dS⟩,dU,dR,aG,dN,dO,ak,dP,by rw [<- hw,H];(try simp only []);rw [A2 a3,A2 ad,A2 (by rw [af];simp),ah];(try simp only []);rw [A2 (dF aS),A2 oO,am];(try simp only []);rw [aL],oM,bJ.2,oF,oF⟩,oM⟩
 refine WL.cx BQ rfl rfl ((hO r _ _ ⟨bH,bI⟩ hne aR)) (λfv cy aH aW=>?_) (λfw gj cy aH aW=>?_)
 have bW:=BY K (Gq aW K.size)
 exact AE (DG fv (by rw [<- hw,H];(try simp only []);rw [A2 a3,A2 ad,A2 (by rw [af];simp),ah];(try simp only []);rw [A2 (dF aS),A2 oO,am];(try simp only []);rw [aH];rfl) bW)
 have aL:=aH
 obtain ⟨oX,tX⟩:=fw
 obtain ⟨x1,rfl,cr,aC,Q⟩:=aW
 have bJ:=hadv _ oX tX aR aL
 have bK:=Ek aw Q oO
 have bL:=Ek av Q oO
 have aU:=NL (w1:=cy) bG (λk hk hl=>Q.block k hl (by have:=hk.1;omega))
 have ae:=Iw ax Q (ax).lt oO
 have a6:=Iw X Q (X).lt oO
 have aD:=BY K (Gq Q K.size)
 have bq:=cr.mono (T:=λk=>P<k/\an.ownBlock≠some k/\(Value.slice pl cs.length cl).ownBlock≠some k) (λk hk _=>⟨by have:=(X).lt;omega,λe=>by have:=((av).lt k e).2;omega,λe=>by have:=((aw).lt k e).2;omega⟩)
 have ay:=aU.push bq
 have aE:=aC.1
 have aF:=aC.2
 refine A0<|Em 1 rfl 5 rfl ?_ ?_
 refine Ai (Af (He _) rfl a6 rfl)<|A0<|AG 5 rfl<|Cw (L:=NF) (ps:=_) ([x1]) Fi II JE rfl rfl rfl rfl rfl (by rfl) rfl rfl (λfx bO a0 cz E fZ=>?_)
 have aX:=GK bL a0 E
 have dV:=GK bK a0 E
 have dW:=NL (w1:=bO) ay (λk hk hl=>E.other k oO)
 have dX:=Bx a0 aE.lt
 have dY:=aE.un E dX
 have dZ:=Bx a0 ae.lt
 have d':=ae.un E dZ
 have e0:=Bx a0 a6.lt
 have bP:=a6.un E e0
 have cA:=λh0=>a0▸aF.lt h0
 have e1:=DQ aF E cA
 have bX:=DW a0 aD.size
 have e2:=BY aD (EH E bX)
 have fA:fx<=bO.heap.size:=by omega
 refine A0<|AG 6 rfl ?_
 have b3:=(aX).lt
 refine CV Fi Qa rfl rfl rfl dV rfl (cz).rowp oE ((bP).lt) rfl (λh=>nomatch h) (λcB gk b8 a8 b9 ba=>?_)
 have e3:=dY.below a8 oO
 have e4:=d'.below a8 oO
 have e5:=bP.below a8 oO
 have e6:=IQ (T:=λk=>P<k/\an.ownBlock≠some k/\(cB).ownBlock≠some k) dW (λk hk hl=>b9.block k hl (λe=>hk.2.2 e.symm)) (λk hk hl=>⟨hk.1,hk.2.1,λe=>by rcases ba k e with h | h;exact hk.2.2 h;omega⟩)
 have e7:=AJ.same aX (λg hg=>b9.block g ((aX).lt g hg).2 (λhx=>ac g hg hx.symm))
 have e8:=Hk e1 a8 bu
 have e9:=BY e2 (JM (a8.mono oO))
 have ak:∀ g,an.ownBlock=some g->(cB).ownBlock≠some g:=λg hg h2=>by rcases ba g h2 with h | h;exact ac g hg h;have:=b3 g hg;omega
 refine A0<|Bs 7 rfl (.fa CO rfl F8 dD rfl) rfl<|AG 8 rfl<|WL.st F8 rfl rfl (b8).one e5 (by exact Nat.le_of_ble_eq_true rfl) (λcC aI u f'=>?_)
 have aI:Be cC P _ _:=aI
 have u:E6 P _ _:=u
 have ea:=D0 e7 u oM
 have eb:=D0 b8 u oM
 have ec:=NL (w1:=cC) e6 (λk hk hl=>u.other k oM)
 have ed:=e3.up u
 have ee:=e4.up u
 have ef:=DQ e8 u aa
 have eg:=BY e9 (EH u oO)
 refine A0<|Cg kR ?_
 exact ⟨(_,_,ks++[kX],cs++[x1],acc++[oX],tX,f-1),⟨rfl,rfl,rfl,rfl,tT⟩,⟨⟨ed,ef⟩,eg,ee,aI,ea,eb,ak,ec,by rw [<- hw,H];(try simp only []);rw [A2 a3,A2 ad,A2 (by rw [af];simp),ah];(try simp only []);rw [A2 (dF aS),A2 oO,am];(try simp only []);rw [aL],oM,bJ.2,oF,oF⟩,oM⟩
 refine Cw (L:=NF) (ps:=_) ([x1]) Fi II JE rfl rfl rfl rfl rfl (by rfl) rfl rfl (λfy bQ a1 cD F g0=>?_)
 have aY:=GK bL a1 F
 have eh:=GK bK a1 F
 have ei:=NL (w1:=bQ) ay (λk hk hl=>F.other k oO)
 have ej:=Bx a1 aE.lt
 have ek:=aE.un F ej
 have el:=Bx a1 ae.lt
 have em:=ae.un F el
 have en:=Bx a1 a6.lt
 have aZ:=a6.un F en
 have cE:=λh0=>a1▸aF.lt h0
 have eo:=DQ aF F cE
 have bY:=DW a1 aD.size
 have ep:=BY aD (EH F bY)
 have fB:fy<=bQ.heap.size:=by omega
 refine A0<|AG 1 rfl<|Ai (Af (He _) rfl aZ rfl)<|A0<|AG 6 rfl ?_
 have b3:=(aY).lt
 refine CV Fi Qa rfl rfl rfl eh rfl (cD).rowp oE ((aZ).lt) rfl (λh=>nomatch h) (λcF gl bb a9 bc bd=>?_)
 have eq:=ek.below a9 oO
 have er:=em.below a9 oO
 have es:=aZ.below a9 oO
 have et:=IQ (T:=λk=>P<k/\an.ownBlock≠some k/\(cF).ownBlock≠some k) ei (λk hk hl=>bc.block k hl (λe=>hk.2.2 e.symm)) (λk hk hl=>⟨hk.1,hk.2.1,λe=>by rcases bd k e with h | h;exact hk.2.2 h;omega⟩)
 have eu:=AJ.same aY (λg hg=>bc.block g ((aY).lt g hg).2 (λhx=>ac g hg hx.symm))
 have ev:=Hk eo a9 bu
 have ew:=BY ep (JM (a9.mono oO))
 have ak:∀ g,an.ownBlock=some g->(cF).ownBlock≠some g:=λg hg h2=>by rcases bd g h2 with h | h;exact ac g hg h;have:=b3 g hg;omega
 refine A0<|Bs 7 rfl (.fa CO rfl F8 dD rfl) rfl<|AG 8 rfl<|WL.st F8 rfl rfl (bb).one es (by exact Nat.le_of_ble_eq_true rfl) (λcG aJ x g1=>?_)
 have aJ:Be cG P _ _:=aJ
 have x:E6 P _ _:=x
 have ex:=D0 eu x oM
 have ey:=D0 bb x oM
 have ez:=NL (w1:=cG) et (λk hk hl=>x.other k oM)
 have eA:=eq.up x
 have eB:=er.up x
 have eC:=DQ ev x aa
 have eD:=BY ew (EH x oO)
 refine A0<|Cg kR ?_
 exact ⟨(_,_,ks++[kX],cs++[x1],acc++[oX],tX,f-1),⟨rfl,rfl,rfl,rfl,tT⟩,⟨⟨eA,eC⟩,eD,eB,aJ,ex,ey,ak,ez,by rw [<- hw,H];(try simp only []);rw [A2 a3,A2 ad,A2 (by rw [af];simp),ah];(try simp only []);rw [A2 (dF aS),A2 oO,am];(try simp only []);rw [aL],oM,bJ.2,oF,oF⟩,oM⟩
end
section
theorem TX {obj:Nat->Ni} {l:l8_} (hobj:∀ t o t',t<l.length->obj t=.ok (o,t')->t<t'/\t'<=l.length):∀ (f:Nat) (acc:List PV) (t:Nat) (os:List PV) (t':Nat),t<=l.length->Ii obj l f acc t=.ok (os,t')->t<t'/\t'<=l.length
 | 0,_,_,_,_,_,h=>by cases h
 | f+1,acc,t,os,t',ht,h=>by
  have hs:=H7 l t ht
  simp only [Ii] at h
  cases hg:l[AY false l t]? with
  | none=>rw [hg] at h;cases h
  | some c =>
   obtain ⟨hlt,-⟩:=C2.1 hg
   rw [hg] at h
   simp only at h
   split at h
   · cases h;omega
   ·
    split at h
    · cases h
    ·
     cases ho:obj (AY false l t) with
     | error k=>rw [ho] at h;cases h
     | ok a =>
      obtain ⟨o,t1⟩:=a
      rw [ho] at h
      have h1:=hobj _ _ _ hlt ho
      have h2:=TX hobj f _ _ _ _ h1.2 h
      omega
theorem Ry {obj:Nat->Ni} {l:l8_} (hobj:∀ t o t',t<l.length->obj t=.ok (o,t')->t<t'/\t'<=l.length):∀ (f:Nat) (ks:List (l8_)) (acc:List PV) (t:Nat) (ks':List (l8_)) (os:List PV) (t':Nat),t<=l.length->Ho obj l f ks acc t=.ok (ks',os,t')->t<t'/\t'<=l.length
 | 0,_,_,_,_,_,_,_,h=>by cases h
 | f+1,ks,acc,t,ks',os,t',ht,h=>by
  have hs:=H7 l t ht
  simp only [Ho] at h
  cases hg:l[AY false l t]? with
  | none=>rw [hg] at h;cases h
  | some c =>
   obtain ⟨hlt,-⟩:=C2.1 hg
   rw [hg] at h
   simp only at h
   split at h
   · cases h
   ·
    split at h
    ·
     next hq =>
     obtain ⟨h2,-⟩:=C2.1 hq.2
     cases h;omega
    ·
     split at h
     · cases h
     ·
      cases hn:Jz l (AY false l t+1) with
      | error k=>rw [hn] at h;cases h
      | ok a =>
       obtain ⟨k,t1⟩:=a
       rw [hn] at h
       have hle:=RO oO hn
       simp only at h
       split at h
       · cases h
       ·
        split at h
        · cases h
        ·
         have hs1:=H7 l t1 hle.2
         cases hg1:l[AY false l t1]? with
         | none=>rw [hg1] at h;cases h
         | some c1 =>
          obtain ⟨hlt1,-⟩:=C2.1 hg1
          rw [hg1] at h
          simp only at h
          cases ho:obj (AY false l t1) with
          | error k=>rw [ho] at h;cases h
          | ok a =>
           obtain ⟨o,t2⟩:=a
           rw [ho] at h
           have h1:=hobj _ _ _ hlt1 ho
           have h2:=Ry hobj f _ _ _ _ _ _ h1.2 h
           omega
theorem A0l {l:l8_} {t':Nat} (ht:t<=l.length) (h:KM l t=.ok (s,t')):t<t'/\t'<=l.length:=by
 have a:=RI l t ht
 unfold KM at h
 split at h
 · cases h
 ·
  split at h
  · cases h
  ·
   split at h
   · cases h
   · cases h;omega
theorem Vj {l:l8_} (ht:t<=l.length) (h:Ec l t≠[]):t<C0 l t/\C0 l t<=l.length:=by
 have b:=Fy l t ht
 refine ⟨?_,b.2⟩
 rcases BL t (C0 l t) with a | a
 · exact a
 · exact D6 (by unfold Ec;rw [show C0 l t-t=0 by omega,A6W]) h
theorem A34:(M4 []).2.2=false:=by kernel_rfl
theorem A2E (refs:Bool) (l:l8_) (t:Nat):(Mk refs l [] t).isSome=false:=by
 unfold Mk
 have:(I6 [] 4096).2=false:=by rfl
 rw [this];simp
theorem Rm  {l:l8_} (ht:t<=l.length):t<=Y2 (Mk refs l s t) t/\Y2 (Mk refs l s t) t<=l.length:=by
 have d:=H7 l t ht
 have a:=FU false l t
 have b:=Fy l _ a
 have e:=H7 l _ b.2
 have c:=FU false l (C0 l (AY false l t))
 have f:=Fy l _ c
 unfold Mk
 split
 ·
  split
  ·
   split
   ·
    show t<=C0 l _/\C0 l _<=l.length
    omega
   · exact ⟨FQ _,ht⟩
  · exact ⟨FQ _,ht⟩
 · exact ⟨FQ _,ht⟩
theorem A0M  {l:l8_} (ht:t<l.length) (h:(Fm refs l t).ok=true):t<(Fm refs l t).np/\(Fm refs l t).np<=l.length:=by
  by_cases hw:Ec l t=[]
  · exfalso
    unfold Fm at h
    rw [hw,A2E,A34] at h
    simp at h
  · have a := Vj oO hw
    have b:=Rm (refs:=refs) (s:=Ec l t) a.2
    unfold Fm
    split
    · exact a
    · split
      · exact a
      · split
        · exact a
        · split
          · exact ⟨by show t<Y2 _ _;omega,b.2⟩
          · split
            · exact a
            · exact a
theorem RD (refs:Bool) (l:l8_):∀ (d t:Nat) (o:PV) (t':Nat),t<l.length->FW refs l d t=.ok (o,t')->t<t'/\t'<=l.length:=by
 have e:∀ t (o:PV) t',t<l.length->LT l (t+1)=.ok (o,t')->t<t'/\t'<=l.length:=λt o t' ht h=>by
  unfold LT at h
  cases hn:Jz l (t+1) with
  | error k=>rw [hn] at h;cases h
  | ok a =>
   obtain ⟨k,g⟩:=a
   rw [hn] at h
   have f:=RO oO hn
   cases h;omega
 have b:∀ t (o:PV) t',t<l.length->J1 l t=.ok (o,t')->t<t'/\t'<=l.length:=λt o t' ht h=>by
  unfold J1 at h
  cases hn:KM l t with
  | error k=>rw [hn] at h;cases h
  | ok a =>
   obtain ⟨k,g⟩:=a
   rw [hn] at h
   have f:=A0l oO hn
   cases h;exact f
 have c:∀ t (o:PV) t',t<l.length->Jn (Fm refs l t)=.ok (o,t')->t<t'/\t'<=l.length:=λt o t' ht h=>by
  unfold Jn at h
  split at h
  · next hok=>have:=A0M ht hok;cases h;exact this
  · cases h
 intro d
 induction d with
 | zero =>
  intro t o t' ht h
  simp only [FW] at h
  rw [A6 ht] at h
  simp only at h
  split at h
  · exact e t o t' ht h
  ·
   split at h
   · cases h
   ·
    split at h
    · exact b t o t' ht h
    ·
     split at h
     ·
      split at h
      · cases h
      ·
       split at h
       · exact b t o t' ht h
       · cases h
     · exact c t o t' ht h
 | succ d ih =>
  intro t o t' ht h
  simp only [FW] at h
  rw [A6 ht] at h
  simp only at h
  split at h
  · exact e t o t' ht h
  ·
   split at h
   ·
    unfold RY at h
    cases hn:Ii (FW refs l d) l (l.length+1) [] (t+1) with
    | error k=>rw [hn] at h;cases h
    | ok a =>
     obtain ⟨os,g⟩:=a
     rw [hn] at h
     have:=TX ih _ _ _ _ _ oO hn
     cases h;omega
   ·
    split at h
    · exact b t o t' ht h
    ·
     split at h
     ·
      split at h
      · cases h
      ·
       split at h
       · exact b t o t' ht h
       ·
        unfold NG at h
        cases hn:Ho (FW refs l d) l (l.length+1) [] [] (t+2) with
        | error k=>rw [hn] at h;cases h
        | ok a =>
         obtain ⟨ks,os,g⟩:=a
         rw [hn] at h
         have:=Ry ih _ _ _ _ _ _ _ oO hn
         cases h;omega
     · exact c t o t' ht h
theorem Oz (refs:Bool) (l:l8_) (d:Int) (t:Nat) (x:UInt8) (h:l[t]?=some x):FW refs l d.toNat t =
    if x=47 then LT l (t+1)
    else if x=91 then (if d<1 then .error 25 else RY (Ii (FW refs l (d-1).toNat) l (l.length+1) [] (t+1)))
    else if x=40 then J1 l t
    else if x=60 then (if l.length<=t+1 then .error 24 else if l[t+1]?≠some 60 then J1 l t else if d<1 then .error 25 else NG (Ho (FW refs l (d-1).toNat) l (l.length+1) [] [] (t+2)))
    else Jn (Fm refs l t):=by
  by_cases hd:d<1
  · rw [show d.toNat = 0 by omega, A7 hd]
    simp only [FW,h]
    rw [A7 hd]
  · rw [show d.toNat = (d - 1).toNat + 1 by omega, A2 hd]
    simp only [FW,h]
    rw [A2 hd]
theorem PX (p:Option Addr) (l:l8_) (c:Nat) (refs:Bool) (hc:l.length<=c) (hl:l.length<=100000000) (D:Int) (hD:-9223372036854775808<D/\D<=1000000000) (hO:1<=D->A4A p l c refs (D-1)):A4A p l c refs D:=by
 intro r t w h f ht
 have hr:=h.1
 have hb:=h.2
 obtain ⟨X,hX⟩:=eX (FW refs l D.toNat t)
 rw [<- hX]
 have hg:l[t]?=some l[t]:=A6 ht
 rw [Oz refs l D t l[t] hg] at hX
 obtain ⟨Wd,bp⟩:=eX (Fm refs l t)
 have cg:∀ w1,QB w1 r p l c t refs->Calls Tryz.prog 47 #[ptV r] w1 λe w'=>e=.returned Wd.val/\QB w' r p l c Wd.np refs/\Bo w1.heap.size r w1 w':=λw1 h1=>by rw [bp];exact TK r p l c t refs w1 h1 f hc hl oO
 rw [<- bp] at hX
 refine Av func46 rfl ntmps46 ?_
 have bq:=Bo.refl (w.heap.size) r w
 refine A5<|C1 JE rfl (λb1 cY aw bt ad cT=>?_)
 have ci:=Bx aw hr.lt
 have ax:=hr.un ad ci
 have b:=λh0=>aw▸hb.lt h0
 have ay:=DQ hb ad b
 have b5:=DW aw bq.size
 have cj:=BY bq (EH ad b5)
 refine A0<|Aj<|Aj<|Eg Ci kR<|AA (.mv rfl) rfl<|AA (.nck rfl) rfl<|AA (.fa CZ rfl Gr dD rfl) rfl<|Du (λm=>Af (g22_ _) rfl ax rfl) rfl<|AA (.mv rfl) rfl<|AA (.nck rfl) rfl<|AA (.fa CZ rfl B6 dD rfl) rfl<|Du (λm=>Af (BE _) rfl ax rfl) rfl<|AA (.ixb BI Iy rfl rfl (ay.isp oO) (t) (rfl) (ht)) rfl<|Du (λm=>Rd.iis ((l[t].toNat:Int)) (AS (P3 _) rfl ((ay.drewN m).cells (t) (ht))) oO) rfl<|AA (.as rfl) rfl<|Dk (λw7 aq=>?_)
 have g:=ax.drew aq
 have F:=bt.drew aq
 have G:=ay.drew aq
 have a:=BY cj (Ob aq)
 refine A5<|A3 rfl<|A0<|AU<|A5<|A1 (.eql rfl rfl)<|Ab rfl<|Ae rfl (λaz=>?_) (λaz=>?_)
 have bu:=dT az
 have aA:l[t]=47:=CH aS
 rw [A7 aA] at hX
 refine A5<|A3 rfl<|A1 (.nck rfl)<|A1 (.fa CZ rfl B6 dD rfl)<|Ai (Af (BE _) rfl g rfl)<|A1 (.iis (((t+1:Nat):Int)) (.add rfl rfl (Bn oO)) oO)<|A1 (.nck rfl)<|A1 (.fa CZ rfl B6 dD rfl)<|WL.st B6 rfl rfl rfl g (by exact Nat.le_of_ble_eq_true rfl) (λck N i cK=>?_)
 have N:Be ck r _ _:=N
 have i:E6 r _ _:=i
 have aB:=F.up i
 have bv:=Ay.upd G i f
 have P:=BY a (BX i)
 refine A0<|A5<|A3 rfl<|By BQ rfl rfl ((TM r p l c (t+1) refs _ ⟨N,bv⟩ f hc hl oO)) (λcl cm Q u=>?_) (λcn cm Q u=>?_)
 have aC:=BY P (Gq u P.size)
 exact AE (DG cl (by rw [hX];unfold LT;rw [Q]) aC)
 have bw:=u.1.1
 have bx:=Iw aB u.2 aB.lt oO
 have bz:=u.1.2
 have bA:=BY P (Gq u.2 P.size)
 have a9:=Q
 obtain ⟨sN,tN⟩:=cn
 refine A1 (.buildL (ps:=_) Hj rfl rfl rfl pS) ?_
 refine AH rfl rfl bx Bb rfl rfl (λcZ b6 U cL=>?_)
 have bB:=bw.up U
 have bC:=DQ bz U b
 have bD:=BY bA (EH U oO)
 refine A0<|B2 (Ch rfl rfl (BF b6 CO rfl Bb)  ?_)
 exact GX (K8 4 0 sN,tN) _ (by rw [hX];unfold LT;rw [a9]) rfl ⟨M3 4 0 sN,rfl,Dv.zero _ _ _ _ _,⟨bB,bC⟩,bD⟩
 have bu:=dF az
 have aA:l[t]≠47:=DH (d:=47) aS
 rw [A2 aA] at hX
 refine A5<|A1 (.eql rfl rfl)<|Ab rfl<|Ae rfl (λaD=>?_) (λaD=>?_)
 have bE:=dT aD
 have aE:l[t]=91:=CH aS
 rw [A7 aE] at hX
 refine Aj<|A5<|A3 rfl<|A1 (.lss rfl rfl)<|A0<|Ae rfl (λaF=>?_) (λaF=>?_)
 have bG:=dT aF
 refine Ak<|Gb BQ rfl ((D8 25 _)) (λc' bH=>?_)
 obtain rfl:=bH
 exact AE (DG 25 (by rw [hX,A7 oO]) a)
 have bG:=dF aF
 refine Ap<|A5<|A3 rfl<|A1 (.nck rfl)<|A1 (.fa CZ rfl B6 dD rfl)<|Ai (Af (BE _) rfl g rfl)<|A1 (.iis (((t+1:Nat):Int)) (.add rfl rfl (Bn oO)) oO)<|A1 (.nck rfl)<|A1 (.fa CZ rfl B6 dD rfl)<|WL.st B6 rfl rfl rfl g (by exact Nat.le_of_ble_eq_true rfl) (λco V j cM=>?_)
 have V:Be co r _ _:=V
 have j:E6 r _ _:=j
 have ae:=F.up j
 have bI:=Ay.upd G j f
 have H:=BY a (BX j)
 refine A0<|A5<|A3 rfl<|A3 rfl<|A1 (.sub rfl rfl (Bn oO))<|WL.cx BQ rfl rfl ((A0K p l c refs (D-1) (hO oO) (RD refs l _) r (t+1) _ ⟨V,bI⟩ f hl oO)) (λcq cr Y af=>?_) (λct d0 cr Y af=>?_)
 have aG:=BY H (Gq af H.size)
 exact AE (DG cq (by rw [hX,A2 oO,Y]) aG)
 have aH:=Y
 obtain ⟨oX,tX⟩:=ct
 obtain ⟨x1,rfl,aI,J,aa⟩:=af
 have ag:=aI.mono (T:=λk=>b1<k/\w.heap.size<=k) (λk hk _=>by have h1:=(ae).lt;have h2:=H.size;omega)
 have ah:=Iw ae aa (ae).lt oO
 have aJ:=BY H (Gq aa H.size)
 have aK:=J.1
 have aL:=J.2
 refine AH rfl rfl ah Bb rfl rfl (λcu b7 B cN=>?_)
 have bJ:=Dv.same (w1:=cu) ag (λk hk hl=>B.other k oM)
 have bK:=aK.upd B oM
 have bL:=DQ aL B b
 have bM:=BY aJ (EH B oO)
 refine A0<|B2 (Ch rfl rfl (BF b7 CO rfl Bb)  ?_)
 exact GX (oX,tX) _ (by rw [hX,A2 oO,aH]) rfl ⟨x1,rfl,(bJ).mono (λk hk _=>hk.2),⟨bK,bL⟩,bM⟩
 have bE:=dF aD
 have aE:l[t]≠91:=DH (d:=91) aS
 rw [A2 aE] at hX
 refine A5<|A1 (.eql rfl rfl)<|Ab rfl<|Ae rfl (λaM=>?_) (λaM=>?_)
 have bN:=dT aM
 have aN:l[t]=40:=CH aS
 rw [A7 aN] at hX
 refine A5<|A3 rfl<|By BQ rfl rfl ((TL r p l c t refs _ ⟨g,G⟩ f hc hl ht)) (λcv cw a0 v=>?_) (λcy cw a0 v=>?_)
 have aO:=BY a (Gq v a.size)
 exact AE (DG cv (by rw [hX];unfold J1;rw [a0]) aO)
 have bO:=v.1.1
 have bP:=Iw F v.2 F.lt oO
 have bQ:=v.1.2
 have bR:=BY a (Gq v.2 a.size)
 have a9:=a0
 obtain ⟨sN,tN⟩:=cy
 refine AH rfl rfl bP Bb rfl rfl (λd1 b8 a1 cO=>?_)
 have bS:=bO.up a1
 have bT:=DQ bQ a1 b
 have bU:=BY bR (EH a1 oO)
 refine A0<|B2 (Ch rfl rfl (BF b8 CO rfl Bb)  ?_)
 exact GX (K8 5 0 sN,tN) _ (by rw [hX];unfold J1;rw [a9]) rfl ⟨M3 5 0 sN,rfl,Dv.zero _ _ _ _ _,⟨bS,bT⟩,bU⟩
 have bN:=dF aM
 have aN:l[t]≠40:=DH (d:=40) aS
 rw [A2 aN] at hX
 refine A5<|A1 (.eql rfl rfl)<|Ab rfl<|Ae rfl (λaP=>?_) (λaP=>?_)
 have bV:=dT aP
 have aQ:l[t]=60:=CH aS
 rw [A7 aQ] at hX
 refine Aj<|Aj<|Eg Ci kR<|AA (.mv rfl) rfl<|AA (.nck rfl) rfl<|AA (.fa CZ rfl B6 dD rfl) rfl<|Du (λm=>Af (BE _) rfl g rfl) rfl<|AA (.iis ((t:Int)+1) (.add rfl rfl (Bn oO)) oO) rfl<|AA (.mv rfl) rfl<|AA (.nck rfl) rfl<|AA (.fa CZ rfl Gr dD rfl) rfl<|Du (λm=>Af (g22_ _) rfl g rfl) rfl<|AA (.lenS BI rfl) rfl<|AA (.geq rfl rfl) rfl<|Dk (λd2 a2=>?_)
 have ai:=g.drew a2
 have bW:=F.drew a2
 have aj:=G.drew a2
 have aR:=BY a (Ob a2)
 refine Ae rfl (λaT=>?_) (λaT=>?_)
 have bX:=dT aT
 refine Ak<|Gb BQ rfl ((D8 24 _)) (λd3 bY=>?_)
 obtain rfl:=bY
 exact AE (DG 24 (by rw [hX,A7 oO]) aR)
 have bX:=dF aT
 have bZ:t+1<l.length:=by omega
 have ab:l[t+1]?=some l[t+1]:=A6 bZ
 refine Ap<|Aj<|Aj<|Eg Ci kR<|AA (.mv rfl) rfl<|AA (.nck rfl) rfl<|AA (.fa CZ rfl Gr dD rfl) rfl<|Du (λm=>Af (g22_ _) rfl ai rfl) rfl<|AA (.mv rfl) rfl<|AA (.nck rfl) rfl<|AA (.fa CZ rfl B6 dD rfl) rfl<|Du (λm=>Af (BE _) rfl ai rfl) rfl<|AA (.iis (((t+1:Nat):Int)) (.add rfl rfl (Bn oO)) oO) rfl<|AA (.ixb BI Iy rfl rfl (aj.isp oO) (t+1) oO oO) rfl<|Du (λm=>AS (P3 _) rfl ((aj.drewN m).cells (t+1) oO)) rfl<|AA (.neq rfl rfl) rfl<|Dk (λd4 a3=>?_)
 have ak:=ai.drew a3
 have am:=bW.drew a3
 have aU:=aj.drew a3
 have x:=BY aR (Ob a3)
 refine Ae rfl (λaV=>?_) (λaV=>?_)
 have b':=Kj aV
 refine A5<|A3 rfl<|By BQ rfl rfl ((TL r p l c t refs _ ⟨ak,aU⟩ f hc hl ht)) (λcz cA a4 y=>?_) (λcB cA a4 y=>?_)
 have aW:=BY x (Gq y x.size)
 exact AE (DG cz (by rw [hX,A2 oO,A7 (by rw [ab];exact λe=>DH (d:=60) aS (Ei e))];unfold J1;rw [a4]) aW)
 have c0:=y.1.1
 have c2:=Iw am y.2 am.lt oO
 have c3:=y.1.2
 have c4:=BY x (Gq y.2 x.size)
 have a9:=a4
 obtain ⟨sN,tN⟩:=cB
 refine AH rfl rfl c2 Bb rfl rfl (λd5 b9 a5 cP=>?_)
 have c5:=c0.up a5
 have c6:=DQ c3 a5 b
 have c7:=BY c4 (EH a5 oO)
 refine A0<|B2 (Ch rfl rfl (BF b9 CO rfl Bb)  ?_)
 exact GX (K8 5 0 sN,tN) _ (by rw [hX,A2 oO,A7 (by rw [ab];exact λe=>DH (d:=60) aS (Ei e))];unfold J1;rw [a9]) rfl ⟨M3 5 0 sN,rfl,Dv.zero _ _ _ _ _,⟨c5,c6⟩,c7⟩
 have b':=Kk aV
 refine Ap<|Aj<|A5<|A3 rfl<|A1 (.lss rfl rfl)<|A0<|Ae rfl (λaX=>?_) (λaX=>?_)
 have c8:=dT aX
 refine Ak<|Gb BQ rfl ((D8 25 _)) (λd6 c9=>?_)
 obtain rfl:=c9
 exact AE (DG 25 (by rw [hX,A2 oO,A2 (λe=>e (by rw [ab,show l[t+1]=60 from CH (d:=60) aS])),A7 oO]) x)
 have c8:=dF aX
 refine Ap<|A5<|A3 rfl<|A1 (.nck rfl)<|A1 (.fa CZ rfl B6 dD rfl)<|Ai (Af (BE _) rfl ak rfl)<|A1 (.iis (((t+2:Nat):Int)) (.add rfl rfl (Bn oO)) oO)<|A1 (.nck rfl)<|A1 (.fa CZ rfl B6 dD rfl)<|WL.st B6 rfl rfl rfl ak (by exact Nat.le_of_ble_eq_true rfl) (λcC a6 o cQ=>?_)
 have a6:Be cC r _ _:=a6
 have o:E6 r _ _:=o
 have an:=am.up o
 have ca:=Ay.upd aU o f
 have K:=BY x (BX o)
 refine A0<|A5<|A3 rfl<|A3 rfl<|A1 (.sub rfl rfl (Bn oO))<|WL.cx BQ rfl rfl ((Yc p l c refs (D-1) (hO oO) (RD refs l _) r (t+2) _ ⟨a6,ca⟩ f hc hl oO)) (λcD cE a7 ao=>?_) (λcF d7 cE a7 ao=>?_)
 have aY:=BY K (Gq ao K.size)
 exact AE (DG cD (by rw [hX,A2 oO,A2 (λe=>e (by rw [ab,show l[t+1]=60 from CH (d:=60) aS])),A2 oO,a7]) aY)
 have aH:=a7
 obtain ⟨oX,tX⟩:=cF
 obtain ⟨x1,rfl,aI,J,aa⟩:=ao
 have ag:=aI.mono (T:=λk=>b1<k/\w.heap.size<=k) (λk hk _=>by have h1:=(an).lt;have h2:=K.size;omega)
 have ah:=Iw an aa (an).lt oO
 have aJ:=BY K (Gq aa K.size)
 have aK:=J.1
 have aL:=J.2
 refine AH rfl rfl ah Bb rfl rfl (λcG ba C cR=>?_)
 have cb:=Dv.same (w1:=cG) ag (λk hk hl=>C.other k oM)
 have cc:=aK.upd C oM
 have cd:=DQ aL C b
 have cf:=BY aJ (EH C oO)
 refine A0<|B2 (Ch rfl rfl (BF ba CO rfl Bb)  ?_)
 exact GX (oX,tX) _ (by rw [hX,A2 oO,A2 (λe=>e (by rw [ab,show l[t+1]=60 from CH (d:=60) aS])),A2 oO,aH]) rfl ⟨x1,rfl,(cb).mono (λk hk _=>hk.2),⟨cc,cd⟩,cf⟩
 have bV:=dF aP
 have aQ:l[t]≠60:=DH (d:=60) aS
 rw [A2 aQ] at hX
 refine Ap<|A5<|A3 rfl<|As (cg _ ⟨g,G⟩) (λd8 a8=>?_)
 have aZ:=a8.1.1
 have a':=Iw F a8.2 F.lt oO
 have b0:=a8.1.2
 have ar:=BY a (Gq a8.2 a.size)
 refine A3 rfl<|A1 (.ext rfl rfl)<|A1 (.ext rfl rfl)<|A1 (.ext rfl rfl)<|C1 JE rfl (λcU cS E b2 q cH=>?_)
 have bb:=Bx E aZ.lt
 have bc:=aZ.un q bb
 have bd:=Bx E a'.lt
 have be:=a'.un q bd
 have ac:=λh0=>E▸b0.lt h0
 have bf:=DQ b0 q ac
 have av:=DW E ar.size
 have bg:=BY ar (EH q av)
 refine AH rfl rfl b2 Bb rfl rfl (λcV b3 s cI=>?_)
 have bh:=bc.up s
 have bi:=be.up s
 have bj:=DQ bf s ac
 have au:=BY bg (EH s oO)
 refine DA rfl<|Ab rfl<|Aj<|A5<|A3 rfl<|A1 (.not rfl)<|A0<|Ae rfl (λap=>?_) (λap=>?_)
 have bk:=(nT ap)
 refine Ak<|Gb BQ rfl ((D8 23 _)) (λcW bl=>?_)
 obtain rfl:=bl
 exact AE (DG 23 (by rw [hX];unfold Jn;rw [A2 (bF aS)]) au)
 have bk:=(nF ap)
 refine Ap<|A5<|Ai (BD rfl b3 CO rfl Bb)<|AH rfl rfl bi Bb rfl rfl (λcX b4 L cJ=>?_)
 have bm:=bh.up L
 have bn:=DQ bj L b
 have bo:=BY au (EH L oO)
 refine A0<|B2 (Ch rfl rfl (BF b4 CO rfl Bb)  ?_)
 exact GX (K8 Wd.kind Wd.n [],Wd.np) _ (by rw [hX];unfold Jn;rw [A7 aS]) rfl ⟨M3 Wd.kind Wd.n [],rfl,Dv.zero _ _ _ _ _,⟨bm,bn⟩,bo⟩
end
section
theorem Xn (p:Option Addr) (l:l8_) (c:Nat) (refs:Bool) (hc:l.length<=c) (hl:l.length<=100000000):∀ (n:Nat) (D:Int),D.toNat<=n->-9223372036854775808<D/\D<=1000000000->A4A p l c refs D
 | 0,D,hn,hD=>PX p l c refs hc hl D hD λh=>by omega
 | n+1,D,hn,hD=>PX p l c refs hc hl D hD λh=>Xn p l c refs hc hl n (D-1) oO oO
def O2 (k:Int):Prop:=k=23\/k=24\/k=25
theorem O2.ne {k:Int} (h:O2 k):k≠0:=by unfold O2 at h;omega
theorem TP {l:l8_} {k:Int} (h:Jz l t=.error k):O2 k:=by
 unfold Jz at h
 split at h
 · cases h;exact .inl rfl
 ·
  split at h
  · cases h;exact .inl rfl
  ·
   split at h
   · cases h;exact .inr (.inr rfl)
   · cases h
theorem A0k {l:l8_} {k:Int} (h:KM l t=.error k):O2 k:=by
 unfold KM at h
 split at h
 · cases h;exact .inr (.inl rfl)
 ·
  split at h
  · cases h;exact .inr (.inr rfl)
  ·
   split at h
   · cases h;exact .inl rfl
   · cases h
theorem TW {obj:Nat->Ni} {l:l8_} (hobj:∀ t k,obj t=.error k->O2 k):∀ (f:Nat) (acc:List PV) (t:Nat) (k:Int),Ii obj l f acc t=.error k->O2 k
 | 0,_,_,_,h=>by cases h;exact .inr (.inl rfl)
 | f+1,acc,t,k,h=>by
  simp only [Ii] at h
  split at h
  · cases h;exact .inr (.inl rfl)
  ·
   split at h
   · cases h
   ·
    split at h
    · cases h;exact .inr (.inr rfl)
    ·
     split at h
     · next ho=>cases h;exact hobj _ _ ho
     · exact TW hobj f _ _ _ h
theorem Rx {obj:Nat->Ni} {l:l8_} (hobj:∀ t k,obj t=.error k->O2 k):∀ (f:Nat) (ks:List (l8_)) (acc:List PV) (t:Nat) (k:Int),Ho obj l f ks acc t=.error k->O2 k
 | 0,_,_,_,_,h=>by cases h;exact .inr (.inl rfl)
 | f+1,ks,acc,t,k,h=>by
  simp only [Ho] at h
  split at h
  · cases h;exact .inr (.inl rfl)
  ·
   split at h
   · cases h;exact .inr (.inl rfl)
   ·
    split at h
    · cases h
    ·
     split at h
     · cases h;exact .inl rfl
     ·
      split at h
      · next hn=>cases h;exact TP hn
      ·
       split at h
       · cases h;exact .inl rfl
       ·
        split at h
        · cases h;exact .inr (.inr rfl)
        ·
         split at h
         · cases h;exact .inr (.inl rfl)
         ·
          split at h
          · next ho=>cases h;exact hobj _ _ ho
          · exact Rx hobj f _ _ _ _ h
theorem Wk (refs:Bool) (l:l8_):∀ (d t:Nat) (k:Int),FW refs l d t=.error k->O2 k:=by
 have b:∀ t (k:Int),LT l t=.error k->O2 k:=λt k h=>by
  unfold LT at h
  split at h
  · next hn=>cases h;exact TP hn
  · cases h
 have c:∀ t (k:Int),J1 l t=.error k->O2 k:=λt k h=>by
  unfold J1 at h
  split at h
  · next hn=>cases h;exact A0k hn
  · cases h
 have a:∀ t (k:Int),Jn (Fm refs l t)=.error k->O2 k:=λt k h=>by
  unfold Jn at h
  split at h
  · cases h
  · cases h;exact .inl rfl
 intro d
 induction d with
 | zero =>
  intro t k h
  simp only [FW] at h
  repeat' split at h
  all_goals first | exact b _ _ h | exact c _ _ h | exact a _ _ h | (cases h;first | exact .inl rfl | exact .inr (.inl rfl) | exact .inr (.inr rfl))
 | succ d ih =>
  have f:∀ t (k:Int),RY (Ii (FW refs l d) l (l.length+1) [] t)=.error k->O2 k:=λt k h=>by
   unfold RY at h
   split at h
   · next hn=>cases h;exact TW ih _ _ _ _ hn
   · cases h
  have e:∀ t (k:Int),NG (Ho (FW refs l d) l (l.length+1) [] [] t)=.error k->O2 k:=λt k h=>by
   unfold NG at h
   split at h
   · next hn=>cases h;exact Rx ih _ _ _ _ _ hn
   · cases h
  intro t k h
  simp only [FW] at h
  repeat' split at h
  all_goals first | exact b _ _ h | exact c _ _ h | exact a _ _ h | exact f _ _ h | exact e _ _ h | (cases h;first | exact .inl rfl | exact .inr (.inl rfl) | exact .inr (.inr rfl))
def GH (l:l8_) (a:Int):PV × l8_ × Int × Int :=
 if a<0\/(l.length:Int)<a then (K8 0 0 [],[],0,21)
 else if h:AY false l a.toNat<l.length then
  (if E1 l[AY false l a.toNat] then
   (K8 (Fm false l (AY false l a.toNat)).kind (Fm false l (AY false l a.toNat)).n [],if (Fm false l (AY false l a.toNat)).ok then [] else (Fm false l (AY false l a.toNat)).word,(Fm false l (AY false l a.toNat)).np,0)
  else match FW false l 32 (AY false l a.toNat) with
   | .ok (o,t')=>(o,[],t',0)
   | .error k=>(K8 0 0 [],[],0,k))
 else (K8 0 0 [],[],0,26)
def B07 (B:Nat) (R:PV × l8_ × Int × Int) (e:Ending) (w':World):Prop :=
 ∃ x:PC,e=.returned (.tuple #[.agg (pcV x).toArray,.string (bs R.2.1),Ah R.2.2.1,Ah R.2.2.2])/\Dv w' (λk=>B<=k) x R.1
section
variable {P:Program} {fn:Func} {f:Fr} {w:World}
theorem Co {a b c d:Tmp} {tc td:TypeId} {pa pb pc pd:Addr} {x y z u:Value} (hr:fn.results=#[.cell a ta,.cell b tb,.cell c tc,.cell d td]) (ha:look f a=some (.pointer (some pa))) (hb:look f b=some (.pointer (some pb))) (hc:look f c=some (.pointer (some pc))) (hd:look f d=some (.pointer (some pd)))
  (hx:(loadVar ta pa).run P w=.ok x w) (hy:(loadVar tb pb).run P w=.ok y w) (hz:(loadVar tc pc).run P w=.ok z w) (hu:(loadVar td pd).run P w=.ok u w):En P fn f w (.tuple #[x,y,z,u]):=λtmps hh=>by
 have e1:=hh _ _ ha;have e2:=hh _ _ hb;have e3:=hh _ _ hc;have e4:=hh _ _ hd
 simp only [Ba] at e1 e2 e3 e4
 simp [results,hr,e1,e2,e3,e4,asAddr,hx,hy,hz,hu]
end
theorem DU (b1 b2 b3 b5:Nat) (w:World) (h:Be w b5 #[Ah 0] 30) :
  CallsD Tryz.prog 43 #[ptV b5,ptV b1,ptV b2,ptV b3] .returning w λe u' w'=>u'=.returning/\(∃ v,e=.returned v)/\w'=w:=by
 refine IS func43 rfl ntmps43 bL rfl<|As (A1f _ _) (λb a=>?_)
 obtain rfl:=a
 refine A0<|A5<|Ai (Af (GL _) rfl h rfl)<|A1 (.neq rfl rfl)<|A0<|E4 rfl rfl<|Ap<|BU (BK rfl ?_)
 exact ⟨⟨_,rfl⟩,rfl⟩
theorem XC (b1 b2 b3 b5 B:Nat) (c0 c1 c2 c3 c4 c5:Value) (s:l8_) (i j k:Int) (w:World) (h1:Be w b1 [c0,c1,c2,c3,c4,c5].toArray 99) (h2:Be w b2 #[.string (bs s)] 9) (h3:Be w b3 #[Ah i] 3) (h5:Be w b5 #[Ah j] 30) (hB1:B<=b1) (h12:b1<b2) (h23:b2<b3) (h35:b3<b5) (hk:k≠0) :
  CallsD Tryz.prog 43 #[ptV b5,ptV b1,ptV b2,ptV b3] (.panicking [{ v:=.iface 30 (Ah k),recovered:=false }]) w
   λe u' w'=>u'=.panicking [{ v:=.iface 30 (Ah k),recovered:=true }]/\(∃ v,e=.returned v) /\
    Be w' b1 (UJ 0 0 []).toArray 99/\Be w' b2 #[.string (bs [])] 9/\Be w' b3 #[Ah 0] 3/\Be w' b5 #[Ah k] 30/\Below B w w':=by
 refine IS func43 rfl ntmps43 bL rfl ?_
 have A:=Nh (B) w
 refine WL.c1 BQ rfl rfl ((A1g b5 B _ k _ h5 oO)) (λT C=>?_)
 obtain ⟨l,g⟩:=C
 have hb1:=(h1).upd g oO
 have hb2:=(h2).upd g oO
 have hb3:=(h3).upd g oO
 have D:=CP A oO g
 refine A0<|A5<|Ai (Af (GL _) rfl l rfl)<|A1 (.bis (true) (.neq rfl rfl) (by simp [hk]))<|A0<|E3 rfl rfl ?_
 refine Ak<|A1 (.buildL (ps:=_) Hj rfl rfl rfl pZ) ?_
 refine AH rfl rfl hb1 Bb rfl rfl (λU m c N=>?_)
 have E:=l.upd c oM
 have F:=hb2.upd c oM
 have G:=hb3.upd c oM
 have H:=CP D oO c
 refine WL.st M1 rfl rfl rfl F (by exact Nat.le_of_ble_eq_true rfl) (λP f b Q=>?_)
 have f:Be P b2 _ _:=f
 have b:E6 b2 _ _:=b
 have J:=E.up b
 have K:=m.up b
 have o:=G.up b
 have q:=CP H oO b
 refine WL.st B6 rfl rfl rfl o (by exact Nat.le_of_ble_eq_true rfl) (λL d a M=>?_)
 have d:Be L b3 _ _:=d
 have a:E6 b3 _ _:=a
 have t:=J.up a
 have u:=K.up a
 have x:=f.up a
 have y:=CP q oO a
 refine A0<|BU (BK rfl ?_)
 exact ⟨⟨_,rfl⟩,u,x,d,t,y⟩
end
section
theorem Yd (p:Option Addr) (l:l8_) (c:Nat) (a:Int) (w:World) (hb:Ay w p l) (hc:l.length<=c) (hl:l.length<=100000000) :
    Calls Tryz.prog 34 #[.slice p l.length c,Ah a] w λe w'=>B07 w.heap.size (GH l a) e w'/\AD w w':=by
  obtain ⟨R,hR⟩:=eX (GH l a);rw [<- hR];unfold GH at hR;obtain ⟨t,ht⟩:=eX (AY false l (L6 l a));have eW:∀ w1,Ay w1 p l->Calls Tryz.prog 42 #[.slice p l.length c,Ah a] w1 λe w'=>e=.returned (Ah (t:Int))/\w1=w':=λw1 h1=>by rw [ht];exact Po p l c a w1 h1 hl
  have hE:t<=l.length:=by rw [ht];exact FU _ _ _
  have eY:¬ (a<0\/(l.length:Int)<a)->AY false l a.toNat=t:=λh=>by rw [ht];unfold L6;rw [A2 h]
  obtain ⟨X,hX⟩:=eX (Fm false l t);have eZ:∀ r w1,QB w1 r p l c t false->(0<l.length->(pA p).block≠r)->Calls Tryz.prog 47 #[ptV r] w1 λe w'=>e=.returned X.val/\QB w' r p l c X.np false/\Bo w1.heap.size r w1 w':=λr w1 h1 h2=>by rw [hX];exact TK r p l c t false w1 h1 h2 hc hl oO
  refine SA func34 rfl ntmps34 bL ?_;refine WD.seq<|Ak<|C1 JE rfl (λy hF e3 d2 d3 gH=>?_);have d4:=λh0=>e3▸hb.lt h0
  have e4:=DQ hb d3 d4;refine C1 z9_ rfl (λb hG d5 d6 cy gI=>?_);have e':=Bx d5 d2.lt;have e5:=d2.un cy e';have cz:=λh0=>d5▸e4.lt h0
  have e6:=DQ e4 cy cz;refine C1 PM rfl (λg gJ bN cE bh gs=>?_);have e7:=Bx bN e5.lt;have d7:=e5.un bh e7;have e8:=Bx bN d6.lt;have d8:=d6.un bh e8;have dN:=λh0=>bN▸e6.lt h0
  have d9:=DQ e6 bh dN;have da:=uB (uB (uB (DR w) e3 d3) d5 cy) bN bh;refine C1 zeroValue30 rfl (λi gK bb bi ar gt=>?_);have e9:=Bx bb d7.lt;have bO:=d7.un ar e9;have ea:=Bx bb d8.lt;have bP:=d8.un ar ea;have eb:=Bx bb cE.lt;have bQ:=cE.un ar eb;have dO:=λh0=>bb▸d9.lt h0
  have cA:=DQ d9 ar dO;have cB:=uB da bb ar;have f0:=DW bb da.size;refine A0<|WD.seq<|Fx 17 (decide (a<0\/(l.length:Int)<a)) ?_ ?_;refine Ak<|A3 rfl<|A1 (.lss rfl rfl)<|A3 rfl<|B5 rfl rfl rfl (λa4=>?_) (λa4=>?_)
  · have ec := dF a4
    refine A3 rfl<|Au a4<|A3 rfl<|Au a4<|A1 (.lenS BI rfl)<|Au a4<|A1 (.gtr rfl rfl)<|A1 (.pkF rfl a4 rfl)<|A0<|?_;exact ⟨Gm (CD rfl (by (simp;omega))),rfl⟩
  have ec:=dT a4;refine Ac a4<|Ac a4<|Ac a4<|A1 (.pkT rfl a4 rfl)<|A0<|?_;exact ⟨Gm (CD rfl (by (simp;omega))),rfl⟩;refine A4v rfl (λed=>?_) (λed=>?_)
  · skip
    rw [A7 aS] at hR;subst hR;refine A5<|A1 (.buildL (ps:=_) Hj rfl rfl rfl pZ) ?_;refine AH rfl rfl bO Bb rfl rfl (λhH dP bj gv=>?_);refine D1 (bP.up bj) M1 (λhI dQ bk gw=>?_);refine D1 ((bQ.up bj).up bk) B6 (λhJ dR bl gx=>?_);refine D1 (((bi.up bj).up bk).up bl) GJ (λhK dS bm gz=>?_);have cC:=(dQ.up bl).up bm;refine A0<|B2 ?_;exact O1 (Co rfl rfl rfl rfl rfl (BF (((dP.up bk).up bl).up bm) CO rfl Bb) (Bt cC (Li _) rfl) (Bt (dR.up bm) (BE _) rfl) (Bt dS (GL _) rfl)) ⟨⟨M3 0 0 [],Cv rfl,Dv.zero _ _ _ _ _⟩,(CP (CP (CP (CP cB oO bj) oO bk) oO bl) oO bm)⟩
  rw [A2 aS,eY aS] at hR;refine Ap<|WD.seq<|Ak<|A3 rfl<|A3 rfl<|As (eW _ cA) (λhL ee=>?_);obtain rfl:=ee;refine Ab rfl<|WD.seq<|A5<|A3 rfl<|A3 rfl<|A1 (.lenS BI rfl)<|A1 (.eql rfl rfl)<|A0<|A4v rfl (λef=>?_) (λef=>?_)
  · skip
    rw [dif_neg oO] at hR;subst hR;refine A5<|A1 (.buildL (ps:=_) Hj rfl rfl rfl pZ) ?_;refine AH rfl rfl bO Bb rfl rfl (λhM dU bn gA=>?_);refine D1 (bP.up bn) M1 (λhN dV bo gC=>?_);refine D1 ((bQ.up bn).up bo) B6 (λhO dW bp gD=>?_);have cD:=dV.up bp;refine D1 (((bi.up bn).up bo).up bp) GJ (λhP dX bq gE=>?_);refine A0<|B2 ?_;exact O1 (Co rfl rfl rfl rfl rfl (BF (((dU.up bo).up bp).up bq) CO rfl Bb) (Bt (cD.up bq) (Li _) rfl) (Bt (dW.up bq) (BE _) rfl) (Bt dX (GL _) rfl)) ⟨⟨M3 0 0 [],Cv rfl,Dv.zero _ _ _ _ _⟩,(CP (CP (CP (CP cB oO bn) oO bo) oO bp) oO bq)⟩
  have bR:t<l.length:=by omega
  rw [dif_pos bR] at hR;refine Ap<|WD.defer rfl rfl<|WD.of<|A5<|A3 rfl<|A3 rfl<|?_;refine A1 (.buildL (ps:=_) A7X rfl rfl rfl pS) ?_;refine D5 rfl rfl (λc4 gL bc bS am gF=>?_);have eg:=Bx bc bO.lt;have bd:=bO.un am eg;have eh:=Bx bc bP.lt;have be:=bP.un am eh;have ei:=Bx bc bQ.lt;have bf:=bQ.un am ei;have ej:=Bx bc bi.lt;have bg:=bi.un am ej;have dY:=λh0=>bc▸cA.lt h0
  have bT:=DQ cA am dY;have ap:=uB cB bc am;refine Ab rfl<|Aj<|A5<|A3 rfl<|A3 rfl<|A1 (.ixb BI Iy rfl rfl (bT.isp oO) (t) (rfl) (bR))<|Ai (AS (P3 _) rfl (bT.cells (t) (bR)))<|As (Om _ _) (λhQ ek=>?_);obtain rfl:=ek;refine A1 (.not rfl)<|A0<|Ae rfl (λdb=>?_) (λdb=>?_)
  · have el := (nT db)
    refine A5<|A3 rfl<|WL.cx BQ rfl rfl ((Xn p l c false hc hl 32 32 dD dD c4 t _ ⟨bS,bT⟩ (λh0=>by have:=hb.lt h0;omega) bR)) (λf1 f2 au aq=>?_) (λf3 hT f2 au aq=>?_);exact LL L7 (λw'=>_) (XC y b g i w.heap.size _ _ _ _ _ _ [] _ _ f1 _ (Iw bd aq (bd).lt oO) (Iw be aq (be).lt oO) (Iw bf aq (bf).lt oO) (Iw bg aq (bg).lt oO) oO oO oO oO (Wk false l _ _ _ au).ne)
      (λw' hS=>⟨_,Co rfl rfl rfl rfl rfl (BF hS.1 CO rfl Bb) (Bt hS.2.1 (Li _) rfl) (Bt hS.2.2.1 (BE _) rfl) (Bt hS.2.2.2.1 (GL _) rfl),⟨M3 0 0 [],Cv (by rw [hR,A2 (bF (nT aS)),show FW false l 32 t=_ from au];rfl),by rw [hR,A2 (bF (nT aS)),show FW false l 32 t=_ from au];exact Dv.zero _ _ _ _ _⟩,(EU ap (Bo.below aq ap.size oO)).trans hS.2.2.2.2⟩)
    have f4:=au;obtain ⟨oX,tX⟩:=f3;obtain ⟨x1,rfl,f5,em,c5⟩:=aq;have en:=f5.mono (T:=λk=>c4<k/\w.heap.size<=k) (λk hk _=>by have h1:=(bS).lt;have h2:=ap.size;omega);have cC:=Iw be c5 (be).lt oO;have cD:=Iw bg c5 (bg).lt oO;have f6:=em.1;rw [A2 (bF (nT aS)),show FW false l 32 t=_ from f4] at hR;subst hR;refine AH rfl rfl (Iw bd c5 (bd).lt oO) Bb rfl rfl (λf7 dZ an gG=>?_);refine A0<|Aj<|Vc<|ME 9 rfl Ci (λeo a2=>?_);have bU:=Dv.same (w1:=eo) (Dv.same (w1:=f7) en (λk hk hl=>an.other k oM)) (λk hk hl=>(by obtain ⟨m,rfl⟩:=a2;rfl));have av:=dZ.drew a2;have bV:=(cC.up an).drew a2;have bW:=((Iw bf c5 (bf).lt oO).up an).drew a2;have bX:=(cD.up an).drew a2;have bY:=(f6.upd an oM).drew a2;have bZ:=Df.below (CP (EU ap (Bo.below c5 ap.size oO)) oO an) a2;refine Bs 1 rfl (.mv rfl) rfl<|Bs 2 rfl (.nck rfl) rfl<|Bs 3 rfl (.fa CZ rfl B6 dD rfl) rfl<|Em 0 rfl 4 rfl ?_ ?_;refine Ai (BD rfl av CO rfl Bb)<|A0<|Em 4 rfl 5 rfl ?_ ?_;refine Ai (Af (BE _) rfl bY rfl)<|A0<|AG 5 rfl<|AH rfl rfl av Bb rfl rfl (λep dc a5 f8=>?_);refine A0<|AG 6 rfl<|D1 (bV.up a5) M1 (λeq dd a6 f9=>?_);refine A0<|AG 7 rfl<|D1 ((bW.up a5).up a6) B6 (λer de a7 fb=>?_);refine A0<|AG 8 rfl<|D1 (((bX.up a5).up a6).up a7) GJ (λes c6 a8 fc=>?_);have d':=Dv.same (w1:=es) (Dv.same (w1:=er) (Dv.same (w1:=eq) (Dv.same (w1:=ep) bU (λk hk hl=>a5.other k oM)) (λk hk hl=>a6.other k oM)) (λk hk hl=>a7.other k oM)) (λk hk hl=>a8.other k oM);refine A0<|Cg kR<|B2 ?_;exact Ew.ret L7 (λw'=>_) (DU y b g i _ c6) (λw' hS=>by subst hS;exact ⟨_,Co rfl rfl rfl rfl rfl (BF (((dc.up a6).up a7).up a8) CO rfl Bb) (Bt ((dd.up a7).up a8) (Li _) rfl) (Bt (de.up a8) (BE _) rfl) (Bt c6 (GL _) rfl),⟨x1,Cv rfl,(d').mono (λk hk _=>hk.2)⟩,(CP (CP (CP (CP bZ oO a5) oO a6) oO a7) oO a8)⟩)
    refine AH rfl rfl av Bb rfl rfl (λet c7 B fd=>?_);have cF:=Dv.same (w1:=et) bU (λk hk hl=>B.other k oM);have cG:=bV.up B;have cH:=bW.up B;have cI:=bX.up B;have cJ:=bY.up B;have cK:=CP bZ oO B;refine A0<|Em 4 rfl 6 rfl ?_ ?_;refine Ai (Af (BE _) rfl cJ rfl)<|A0<|AG 6 rfl<|D1 cG M1 (λeu df a9 fe=>?_);refine A0<|AG 7 rfl<|D1 (cH.up a9) B6 (λev dg aa ff=>?_);refine A0<|AG 8 rfl<|D1 ((cI.up a9).up aa) GJ (λew c8 ab fg=>?_);have e0:=Dv.same (w1:=ew) (Dv.same (w1:=ev) (Dv.same (w1:=eu) cF (λk hk hl=>a9.other k oM)) (λk hk hl=>aa.other k oM)) (λk hk hl=>ab.other k oM);refine A0<|Cg kR<|B2 ?_;exact Ew.ret L7 (λw'=>_) (DU y b g i _ c8) (λw' hS=>by subst hS;exact ⟨_,Co rfl rfl rfl rfl rfl (BF (((c7.up a9).up aa).up ab) CO rfl Bb) (Bt ((df.up aa).up ab) (Li _) rfl) (Bt (dg.up ab) (BE _) rfl) (Bt c8 (GL _) rfl),⟨x1,Cv rfl,(e0).mono (λk hk _=>hk.2)⟩,(CP (CP (CP cK oO a9) oO aa) oO ab)⟩);refine D1 cG M1 (λex dh C fh=>?_);refine A0<|AG 4 rfl<|Ai (Af (BE _) rfl (cJ.up C) rfl)<|A0<|AG 7 rfl<|D1 (cH.up C) B6 (λey di ac fi=>?_);refine A0<|AG 8 rfl<|D1 ((cI.up C).up ac) GJ (λez c9 ad fj=>?_);have e1:=Dv.same (w1:=ez) (Dv.same (w1:=ey) (Dv.same (w1:=ex) cF (λk hk hl=>C.other k oM)) (λk hk hl=>ac.other k oM)) (λk hk hl=>ad.other k oM);refine A0<|Cg kR<|B2 ?_;exact Ew.ret L7 (λw'=>_) (DU y b g i _ c9) (λw' hS=>by subst hS;exact ⟨_,Co rfl rfl rfl rfl rfl (BF (((c7.up C).up ac).up ad) CO rfl Bb) (Bt ((dh.up ac).up ad) (Li _) rfl) (Bt (di.up ad) (BE _) rfl) (Bt c9 (GL _) rfl),⟨x1,Cv rfl,(e1).mono (λk hk _=>hk.2)⟩,(CP (CP (CP cK oO C) oO ac) oO ad)⟩);refine Ai (Af (BE _) rfl bY rfl)<|A0<|AG 0 rfl<|Ai (BD rfl av CO rfl Bb)<|A0<|AG 5 rfl<|AH rfl rfl av Bb rfl rfl (λeA dj ae fk=>?_)
    refine A0<|AG 6 rfl<|D1 (bV.up ae) M1 (λeB dk af fl=>?_);refine A0<|AG 7 rfl<|D1 ((bW.up ae).up af) B6 (λeC dl ag fm=>?_);refine A0<|AG 8 rfl<|D1 (((bX.up ae).up af).up ag) GJ (λeD ca ah fn=>?_);have e2:=Dv.same (w1:=eD) (Dv.same (w1:=eC) (Dv.same (w1:=eB) (Dv.same (w1:=eA) bU (λk hk hl=>ae.other k oM)) (λk hk hl=>af.other k oM)) (λk hk hl=>ag.other k oM)) (λk hk hl=>ah.other k oM);refine A0<|Cg kR<|B2 ?_;exact Ew.ret L7 (λw'=>_) (DU y b g i _ ca) (λw' hS=>by subst hS;exact ⟨_,Co rfl rfl rfl rfl rfl (BF (((dj.up af).up ag).up ah) CO rfl Bb) (Bt ((dk.up ag).up ah) (Li _) rfl) (Bt (dl.up ah) (BE _) rfl) (Bt ca (GL _) rfl),⟨x1,Cv rfl,(e2).mono (λk hk _=>hk.2)⟩,(CP (CP (CP (CP bZ oO ae) oO af) oO ag) oO ah)⟩)
  have el:=(nF db);refine Ap<|A5<|A3 rfl<|As (eZ c4 _ ⟨bS,bT⟩ (λh0=>by have:=hb.lt h0;omega)) (λgM a3=>?_);rw [A7 (nF aS),<- hX] at hR;subst hR;refine A3 rfl<|A1 (.ext rfl rfl)<|A1 (.ext rfl rfl)<|A1 (.ext rfl rfl)<|AH rfl rfl (Iw bd a3.2 bd.lt oO) Bb rfl rfl (λgN dm D fo=>?_);refine D1 ((Iw be a3.2 be.lt oO).up D) M1 (λgO cb E fp=>?_);have cL:=dm.up E;have cM:=((Iw bf a3.2 bf.lt oO).up D).up E;have cN:=((Iw bg a3.2 bg.lt oO).up D).up E;have cO:=(a3.1.1.up D).up E;have cP:=DQ (DQ a3.1.2 D d4) E cz;have cQ:=CP (CP (EU ap (Bo.below a3.2 ap.size oO)) oO D) oO E;refine Ab rfl<|De (α:=Unit) (λt=>[(4,ptV y),(5,ptV b),(6,ptV g),(7,ptV i),(8,ptV c4)]) (λt w'=>Be w' y (pcV (M3 X.kind X.n [])).toArray 99/\Be w' b #[.string (bs (if X.ok then [] else X.word))] 9/\Be w' g #[Ah 0] 3/\Be w' i #[Ah 0] 30/\QB w' c4 p l c X.np false/\AD w w') ?_ (λt w1 hR=>?_);refine A5<|A3 rfl<|A0<|Ae rfl (λeF=>?_) (λeF=>?_);refine Ak<|WL.st M1 rfl rfl rfl cb (by exact Nat.le_of_ble_eq_true rfl) (λeG bt s fq=>?_);have bt:Be eG b _ _:=bt;have s:E6 b _ _:=s;refine A0<|?_;exact ⟨(),⟨rfl,rfl,rfl,rfl,rfl,tT⟩,(cL.up s),by rw [show X.ok=_ by assumption];exact bt,(cM.up s),(cN.up s),⟨(cO.up s),(DQ cP s cz)⟩,(CP cQ oO s)⟩;refine Ap ?_;exact ⟨(),⟨rfl,rfl,rfl,rfl,rfl,tT⟩,cL,by rw [show X.ok=_ by assumption];exact cb,cM,cN,⟨cO,cP⟩,cQ⟩;obtain ⟨fr,fs,ft,fu,fv,fw⟩:=hR
  generalize (if X.ok then [] else X.word)=sX at *;refine Aj<|Vc<|ME 10 rfl Ci (λgP ao=>?_);have d:=fr.drew ao;have f:=fs.drew ao;have j:=ft.drew ao;have o:=fu.drew ao;have A:=fv.1.drew ao;have q:=Df.below fw ao;refine Bs 2 rfl (.mv rfl) rfl<|Bs 3 rfl (.nck rfl) rfl<|Bs 4 rfl (.fa CZ rfl B6 dD rfl) rfl<|Ug [0,1,5] kR rfl ⟨⟨_,rfl,?_⟩,⟨_,rfl,?_⟩,⟨_,rfl,?_⟩,tT⟩;refine Ai (BD rfl d CO rfl Bb)<|A0<|Ug [1,5,6] kR rfl ⟨⟨_,rfl,?_⟩,⟨_,rfl,?_⟩,⟨_,rfl,?_⟩,tT⟩;refine Ai (Af (Li _) rfl f rfl)<|A0<|Em 5 rfl 6 rfl ?_ ?_;refine Ai (Af (BE _) rfl A rfl)<|A0<|AG 6 rfl<|AH rfl rfl d Bb rfl rfl (λgQ dn aw fx=>?_);refine A0<|AG 7 rfl<|WL.st M1 rfl rfl rfl (f.up aw) (by exact Nat.le_of_ble_eq_true rfl) (λeH bu F fy=>?_);have bu:Be eH b _ _:=bu;have F:E6 b _ _:=F;refine A0<|AG 8 rfl<|D1 ((j.up aw).up F) B6 (λgR dp ax fz=>?_);refine A0<|AG 9 rfl<|D1 (((o.up aw).up F).up ax) GJ (λgS cc ay fA=>?_);refine A0<|Cg kR<|B2 ?_;exact Ew.ret L7 (λw'=>_) (DU y b g i _ cc) (λw' hS=>by subst hS;exact ⟨_,Co rfl rfl rfl rfl rfl (BF (((dn.up F).up ax).up ay) CO rfl Bb) (Bt ((bu.up ax).up ay) (Li _) rfl) (Bt (dp.up ay) (BE _) rfl) (Bt cc (GL _) rfl),⟨M3 X.kind X.n [],Cv rfl,Dv.zero _ _ _ _ _⟩,(CP (CP (CP (CP q oO aw) oO F) oO ax) oO ay)⟩);refine AH rfl rfl d Bb rfl rfl (λgT cd ai fB=>?_);have cR:=f.up ai;have cS:=j.up ai;have cT:=o.up ai;have cU:=A.up ai;have cV:=CP q oO ai;refine A0<|Em 5 rfl 7 rfl ?_ ?_;refine Ai (Af (BE _) rfl cU rfl)<|A0<|AG 7 rfl<|WL.st M1 rfl rfl rfl cR (by exact Nat.le_of_ble_eq_true rfl) (λeI bv G fC=>?_);have bv:Be eI b _ _:=bv;have G:E6 b _ _:=G;refine A0<|AG 8 rfl<|D1 (cS.up G) B6 (λgU dq az fD=>?_)
  refine A0<|AG 9 rfl<|D1 ((cT.up G).up az) GJ (λgV cf aA fE=>?_);refine A0<|Cg kR<|B2 ?_;exact Ew.ret L7 (λw'=>_) (DU y b g i _ cf) (λw' hS=>by subst hS;exact ⟨_,Co rfl rfl rfl rfl rfl (BF (((cd.up G).up az).up aA) CO rfl Bb) (Bt ((bv.up az).up aA) (Li _) rfl) (Bt (dq.up aA) (BE _) rfl) (Bt cf (GL _) rfl),⟨M3 X.kind X.n [],Cv rfl,Dv.zero _ _ _ _ _⟩,(CP (CP (CP cV oO G) oO az) oO aA)⟩);refine WL.st M1 rfl rfl rfl cR (by exact Nat.le_of_ble_eq_true rfl) (λeJ bw u fF=>?_);have bw:Be eJ b _ _:=bw;have u:E6 b _ _:=u;refine A0<|AG 5 rfl<|Ai (Af (BE _) rfl (cU.up u) rfl)<|A0<|AG 8 rfl<|D1 (cS.up u) B6 (λgW dr aB fG=>?_);refine A0<|AG 9 rfl<|D1 ((cT.up u).up aB) GJ (λgX cg aC fH=>?_);refine A0<|Cg kR<|B2 ?_;exact Ew.ret L7 (λw'=>_) (DU y b g i _ cg) (λw' hS=>by subst hS;exact ⟨_,Co rfl rfl rfl rfl rfl (BF (((cd.up u).up aB).up aC) CO rfl Bb) (Bt ((bw.up aB).up aC) (Li _) rfl) (Bt (dr.up aC) (BE _) rfl) (Bt cg (GL _) rfl),⟨M3 X.kind X.n [],Cv rfl,Dv.zero _ _ _ _ _⟩,(CP (CP (CP cV oO u) oO aB) oO aC)⟩);refine Ai (Af (BE _) rfl A rfl)<|A0<|Em 1 rfl 6 rfl ?_ ?_;refine Ai (Af (Li _) rfl f rfl)<|A0<|AG 6 rfl<|AH rfl rfl d Bb rfl rfl (λgY ds aD fI=>?_);refine A0<|AG 7 rfl<|WL.st M1 rfl rfl rfl (f.up aD) (by exact Nat.le_of_ble_eq_true rfl) (λeK bx H fJ=>?_);have bx:Be eK b _ _:=bx;have H:E6 b _ _:=H;refine A0<|AG 8 rfl<|D1 ((j.up aD).up H) B6 (λgZ dt aE fK=>?_);refine A0<|AG 9 rfl<|D1 (((o.up aD).up H).up aE) GJ (λg' ci aF fL=>?_);refine A0<|Cg kR<|B2 ?_;exact Ew.ret L7 (λw'=>_) (DU y b g i _ ci) (λw' hS=>by subst hS;exact ⟨_,Co rfl rfl rfl rfl rfl (BF (((ds.up H).up aE).up aF) CO rfl Bb) (Bt ((bx.up aE).up aF) (Li _) rfl) (Bt (dt.up aF) (BE _) rfl) (Bt ci (GL _) rfl),⟨M3 X.kind X.n [],Cv rfl,Dv.zero _ _ _ _ _⟩,(CP (CP (CP (CP q oO aD) oO H) oO aE) oO aF)⟩)
  refine AH rfl rfl d Bb rfl rfl (λh3 du aG fM=>?_);have cW:=f.up aG;refine A0<|AG 1 rfl<|Ai (Af (Li _) rfl cW rfl)<|A0<|AG 7 rfl<|WL.st M1 rfl rfl rfl cW (by exact Nat.le_of_ble_eq_true rfl) (λeL bz J fN=>?_);have bz:Be eL b _ _:=bz;have J:E6 b _ _:=J;refine A0<|AG 8 rfl<|D1 ((j.up aG).up J) B6 (λh4 dv aH fO=>?_);refine A0<|AG 9 rfl<|D1 (((o.up aG).up J).up aH) GJ (λh5 cj aI fP=>?_);refine A0<|Cg kR<|B2 ?_;exact Ew.ret L7 (λw'=>_) (DU y b g i _ cj) (λw' hS=>by subst hS;exact ⟨_,Co rfl rfl rfl rfl rfl (BF (((du.up J).up aH).up aI) CO rfl Bb) (Bt ((bz.up aH).up aI) (Li _) rfl) (Bt (dv.up aI) (BE _) rfl) (Bt cj (GL _) rfl),⟨M3 X.kind X.n [],Cv rfl,Dv.zero _ _ _ _ _⟩,(CP (CP (CP (CP q oO aG) oO J) oO aH) oO aI)⟩);refine AH rfl rfl d Bb rfl rfl (λh6 bA aj fQ=>?_);have aJ:=f.up aj;have b':=j.up aj;have c0:=o.up aj;have c2:=A.up aj;have c3:=CP q oO aj;refine A0<|Em 1 rfl 5 rfl ?_ ?_;refine Ai (Af (Li _) rfl aJ rfl)<|A0<|Em 5 rfl 7 rfl ?_ ?_;refine Ai (Af (BE _) rfl c2 rfl)<|A0<|AG 7 rfl<|WL.st M1 rfl rfl rfl aJ (by exact Nat.le_of_ble_eq_true rfl) (λeM bB K fR=>?_);have bB:Be eM b _ _:=bB;have K:E6 b _ _:=K;refine A0<|AG 8 rfl<|D1 (b'.up K) B6 (λh7 dw aK fS=>?_);refine A0<|AG 9 rfl<|D1 ((c0.up K).up aK) GJ (λh8 ck aL fT=>?_);refine A0<|Cg kR<|B2 ?_;exact Ew.ret L7 (λw'=>_) (DU y b g i _ ck) (λw' hS=>by subst hS;exact ⟨_,Co rfl rfl rfl rfl rfl (BF (((bA.up K).up aK).up aL) CO rfl Bb) (Bt ((bB.up aK).up aL) (Li _) rfl) (Bt (dw.up aL) (BE _) rfl) (Bt ck (GL _) rfl),⟨M3 X.kind X.n [],Cv rfl,Dv.zero _ _ _ _ _⟩,(CP (CP (CP c3 oO K) oO aK) oO aL)⟩)
  refine WL.st M1 rfl rfl rfl aJ (by exact Nat.le_of_ble_eq_true rfl) (λeN bC v fU=>?_);have bC:Be eN b _ _:=bC;have v:E6 b _ _:=v;refine A0<|AG 5 rfl<|Ai (Af (BE _) rfl (c2.up v) rfl)<|A0<|AG 8 rfl<|D1 (b'.up v) B6 (λh9 dx aM fV=>?_);refine A0<|AG 9 rfl<|D1 ((c0.up v).up aM) GJ (λha cl aN fW=>?_);refine A0<|Cg kR<|B2 ?_;exact Ew.ret L7 (λw'=>_) (DU y b g i _ cl) (λw' hS=>by subst hS;exact ⟨_,Co rfl rfl rfl rfl rfl (BF (((bA.up v).up aM).up aN) CO rfl Bb) (Bt ((bC.up aM).up aN) (Li _) rfl) (Bt (dx.up aN) (BE _) rfl) (Bt cl (GL _) rfl),⟨M3 X.kind X.n [],Cv rfl,Dv.zero _ _ _ _ _⟩,(CP (CP (CP c3 oO v) oO aM) oO aN)⟩);refine Ai (Af (BE _) rfl c2 rfl)<|A0<|AG 1 rfl<|Ai (Af (Li _) rfl aJ rfl)<|A0<|AG 7 rfl<|WL.st M1 rfl rfl rfl aJ (by exact Nat.le_of_ble_eq_true rfl) (λeO bD L fX=>?_);have bD:Be eO b _ _:=bD;have L:E6 b _ _:=L;refine A0<|AG 8 rfl<|D1 (b'.up L) B6 (λhe dy aO fY=>?_);refine A0<|AG 9 rfl<|D1 ((c0.up L).up aO) GJ (λhf cm aP fZ=>?_);refine A0<|Cg kR<|B2 ?_;exact Ew.ret L7 (λw'=>_) (DU y b g i _ cm) (λw' hS=>by subst hS;exact ⟨_,Co rfl rfl rfl rfl rfl (BF (((bA.up L).up aO).up aP) CO rfl Bb) (Bt ((bD.up aO).up aP) (Li _) rfl) (Bt (dy.up aP) (BE _) rfl) (Bt cm (GL _) rfl),⟨M3 X.kind X.n [],Cv rfl,Dv.zero _ _ _ _ _⟩,(CP (CP (CP c3 oO L) oO aO) oO aP)⟩);refine Ai (Af (Li _) rfl f rfl)<|A0<|Em 0 rfl 5 rfl ?_ ?_;refine Ai (BD rfl d CO rfl Bb)<|A0<|Em 5 rfl 6 rfl ?_ ?_;refine Ai (Af (BE _) rfl A rfl)<|A0<|AG 6 rfl<|AH rfl rfl d Bb rfl rfl (λhg dz aQ f'=>?_);refine A0<|AG 7 rfl<|WL.st M1 rfl rfl rfl (f.up aQ) (by exact Nat.le_of_ble_eq_true rfl) (λeP bE P g0=>?_)
  have bE:Be eP b _ _:=bE;have P:E6 b _ _:=P;refine A0<|AG 8 rfl<|D1 ((j.up aQ).up P) B6 (λhh dA aR g1=>?_);refine A0<|AG 9 rfl<|D1 (((o.up aQ).up P).up aR) GJ (λhi cn aT g2=>?_);refine A0<|Cg kR<|B2 ?_;exact Ew.ret L7 (λw'=>_) (DU y b g i _ cn) (λw' hS=>by subst hS;exact ⟨_,Co rfl rfl rfl rfl rfl (BF (((dz.up P).up aR).up aT) CO rfl Bb) (Bt ((bE.up aR).up aT) (Li _) rfl) (Bt (dA.up aT) (BE _) rfl) (Bt cn (GL _) rfl),⟨M3 X.kind X.n [],Cv rfl,Dv.zero _ _ _ _ _⟩,(CP (CP (CP (CP q oO aQ) oO P) oO aR) oO aT)⟩);refine AH rfl rfl d Bb rfl rfl (λhj co ak g3=>?_);have cX:=f.up ak;have cY:=j.up ak;have cZ:=o.up ak;have c':=A.up ak;have d0:=CP q oO ak;refine A0<|Em 5 rfl 7 rfl ?_ ?_;refine Ai (Af (BE _) rfl c' rfl)<|A0<|AG 7 rfl<|WL.st M1 rfl rfl rfl cX (by exact Nat.le_of_ble_eq_true rfl) (λeQ bG Q g4=>?_);have bG:Be eQ b _ _:=bG;have Q:E6 b _ _:=Q;refine A0<|AG 8 rfl<|D1 (cY.up Q) B6 (λhm dB aU g5=>?_);refine A0<|AG 9 rfl<|D1 ((cZ.up Q).up aU) GJ (λhn cq aV g6=>?_);refine A0<|Cg kR<|B2 ?_;exact Ew.ret L7 (λw'=>_) (DU y b g i _ cq) (λw' hS=>by subst hS;exact ⟨_,Co rfl rfl rfl rfl rfl (BF (((co.up Q).up aU).up aV) CO rfl Bb) (Bt ((bG.up aU).up aV) (Li _) rfl) (Bt (dB.up aV) (BE _) rfl) (Bt cq (GL _) rfl),⟨M3 X.kind X.n [],Cv rfl,Dv.zero _ _ _ _ _⟩,(CP (CP (CP d0 oO Q) oO aU) oO aV)⟩);refine WL.st M1 rfl rfl rfl cX (by exact Nat.le_of_ble_eq_true rfl) (λeR bH x g7=>?_);have bH:Be eR b _ _:=bH;have x:E6 b _ _:=x;refine A0<|AG 5 rfl<|Ai (Af (BE _) rfl (c'.up x) rfl)<|A0<|AG 8 rfl<|D1 (cY.up x) B6 (λho dC aW g8=>?_);refine A0<|AG 9 rfl<|D1 ((cZ.up x).up aW) GJ (λhp cr aX g9=>?_)
  refine A0<|Cg kR<|B2 ?_;exact Ew.ret L7 (λw'=>_) (DU y b g i _ cr) (λw' hS=>by subst hS;exact ⟨_,Co rfl rfl rfl rfl rfl (BF (((co.up x).up aW).up aX) CO rfl Bb) (Bt ((bH.up aW).up aX) (Li _) rfl) (Bt (dC.up aX) (BE _) rfl) (Bt cr (GL _) rfl),⟨M3 X.kind X.n [],Cv rfl,Dv.zero _ _ _ _ _⟩,(CP (CP (CP d0 oO x) oO aW) oO aX)⟩);refine Ai (Af (BE _) rfl A rfl)<|A0<|AG 0 rfl<|Ai (BD rfl d CO rfl Bb)<|A0<|AG 6 rfl<|AH rfl rfl d Bb rfl rfl (λhq dE aY ga=>?_);refine A0<|AG 7 rfl<|WL.st M1 rfl rfl rfl (f.up aY) (by exact Nat.le_of_ble_eq_true rfl) (λeS bI U gb=>?_);have bI:Be eS b _ _:=bI;have U:E6 b _ _:=U;refine A0<|AG 8 rfl<|D1 ((j.up aY).up U) B6 (λhr dG aZ gc=>?_);refine A0<|AG 9 rfl<|D1 (((o.up aY).up U).up aZ) GJ (λhs ct a' ge=>?_);refine A0<|Cg kR<|B2 ?_;exact Ew.ret L7 (λw'=>_) (DU y b g i _ ct) (λw' hS=>by subst hS;exact ⟨_,Co rfl rfl rfl rfl rfl (BF (((dE.up U).up aZ).up a') CO rfl Bb) (Bt ((bI.up aZ).up a') (Li _) rfl) (Bt (dG.up a') (BE _) rfl) (Bt ct (GL _) rfl),⟨M3 X.kind X.n [],Cv rfl,Dv.zero _ _ _ _ _⟩,(CP (CP (CP (CP q oO aY) oO U) oO aZ) oO a')⟩);refine Ai (Af (BE _) rfl A rfl)<|A0<|Em 0 rfl 1 rfl ?_ ?_;refine Ai (BD rfl d CO rfl Bb)<|A0<|Em 1 rfl 6 rfl ?_ ?_;refine Ai (Af (Li _) rfl f rfl)<|A0<|AG 6 rfl<|AH rfl rfl d Bb rfl rfl (λhu dH b0 gf=>?_);refine A0<|AG 7 rfl<|WL.st M1 rfl rfl rfl (f.up b0) (by exact Nat.le_of_ble_eq_true rfl) (λeT bJ V gg=>?_);have bJ:Be eT b _ _:=bJ;have V:E6 b _ _:=V;refine A0<|AG 8 rfl<|D1 ((j.up b0).up V) B6 (λhv dI b2 gh=>?_);refine A0<|AG 9 rfl<|D1 (((o.up b0).up V).up b2) GJ (λhx cu b3 gi=>?_)
  refine A0<|Cg kR<|B2 ?_;exact Ew.ret L7 (λw'=>_) (DU y b g i _ cu) (λw' hS=>by subst hS;exact ⟨_,Co rfl rfl rfl rfl rfl (BF (((dH.up V).up b2).up b3) CO rfl Bb) (Bt ((bJ.up b2).up b3) (Li _) rfl) (Bt (dI.up b3) (BE _) rfl) (Bt cu (GL _) rfl),⟨M3 X.kind X.n [],Cv rfl,Dv.zero _ _ _ _ _⟩,(CP (CP (CP (CP q oO b0) oO V) oO b2) oO b3)⟩);refine AH rfl rfl d Bb rfl rfl (λhy dJ b4 gj=>?_);have d1:=f.up b4;refine A0<|AG 1 rfl<|Ai (Af (Li _) rfl d1 rfl)<|A0<|AG 7 rfl<|WL.st M1 rfl rfl rfl d1 (by exact Nat.le_of_ble_eq_true rfl) (λeU bK a0 gk=>?_);have bK:Be eU b _ _:=bK;have a0:E6 b _ _:=a0;refine A0<|AG 8 rfl<|D1 ((j.up b4).up a0) B6 (λhz dK b6 gl=>?_);refine A0<|AG 9 rfl<|D1 (((o.up b4).up a0).up b6) GJ (λhA cv b7 gm=>?_);refine A0<|Cg kR<|B2 ?_;exact Ew.ret L7 (λw'=>_) (DU y b g i _ cv) (λw' hS=>by subst hS;exact ⟨_,Co rfl rfl rfl rfl rfl (BF (((dJ.up a0).up b6).up b7) CO rfl Bb) (Bt ((bK.up b6).up b7) (Li _) rfl) (Bt (dK.up b7) (BE _) rfl) (Bt cv (GL _) rfl),⟨M3 X.kind X.n [],Cv rfl,Dv.zero _ _ _ _ _⟩,(CP (CP (CP (CP q oO b4) oO a0) oO b6) oO b7)⟩);refine Ai (Af (Li _) rfl f rfl)<|A0<|AG 0 rfl<|Ai (BD rfl d CO rfl Bb)<|A0<|AG 6 rfl<|AH rfl rfl d Bb rfl rfl (λhB dL b8 go=>?_);refine A0<|AG 7 rfl<|WL.st M1 rfl rfl rfl (f.up b8) (by exact Nat.le_of_ble_eq_true rfl) (λeV bM a1 gp=>?_);have bM:Be eV b _ _:=bM;have a1:E6 b _ _:=a1;refine A0<|AG 8 rfl<|D1 ((j.up b8).up a1) B6 (λhC dM b9 gq=>?_);refine A0<|AG 9 rfl<|D1 (((o.up b8).up a1).up b9) GJ (λhD cw ba gr=>?_);refine A0<|Cg kR<|B2 ?_;exact Ew.ret L7 (λw'=>_) (DU y b g i _ cw) (λw' hS=>by subst hS;exact ⟨_,Co rfl rfl rfl rfl rfl (BF (((dL.up a1).up b9).up ba) CO rfl Bb) (Bt ((bM.up b9).up ba) (Li _) rfl) (Bt (dM.up ba) (BE _) rfl) (Bt cw (GL _) rfl),⟨M3 X.kind X.n [],Cv rfl,Dv.zero _ _ _ _ _⟩,(CP (CP (CP (CP q oO b8) oO a1) oO b9) oO ba)⟩)
end
section
theorem A2M  {l:l8_} (ht:t<=l.length):(Fm refs l t).np<=l.length:=by
 have a:=Fy l t ht
 have b:=Rm (refs:=refs) (s:=Ec l t) a.2
 unfold Fm
 repeat' split
 all_goals first | exact a.2 | exact b.2
end
section
theorem A28 {l:l8_} {a:Nat} (ha:a<=l.length) (h:(GH l a).2.2.2=0):(a:Int)<(GH l a).2.2.1/\(GH l a).2.2.1<=(l.length:Int):=by
 unfold GH at h ⊢
 rw [A2 oO] at h ⊢
 have d:=H7 l a ha
 rw [show (a:Int).toNat=a from rfl] at h ⊢
 split at h
 ·
  next hlt =>
  rw [dif_pos hlt]
  split at h
  ·
   next hreg =>
   rw [A7 hreg]
   have b:Ec l (AY false l a)≠[]:=by
    rw [Vk,Ar hlt,List.takeWhile_cons,A7 hreg]
    exact PA _ _
   have c:=Vj oO b
   have e:=Rm (refs:=false) (s:=Ec l (AY false l a)) c.2
   have f:AY false l a<(Fm false l (AY false l a)).np:=by
    unfold Fm
    repeat' split
    all_goals first | exact c.1 | (show AY false l a<Y2 _ _;omega)
   have g:=A2M (refs:=false) (l:=l) (t:=AY false l a) oO
   show (a:Int)<((Fm false l (AY false l a)).np:Int)/\((Fm false l (AY false l a)).np:Int)<=l.length
   omega
  ·
   next hreg =>
   rw [A2 hreg]
   cases ho:FW false l 32 (AY false l a) with
   | ok q =>
    obtain ⟨o,t'⟩:=q
    have:=RD false l 32 _ _ _ hlt ho
    show (a:Int)<(t':Int)/\(t':Int)<=l.length
    omega
   | error k =>
    rw [ho] at h
    exact D6 h (Wk false l _ _ _ ho).ne
 · cases h
end
section
theorem A0e {l:l8_} {t:Ka} (h:M0 l=.ok (t,s)):t.text.length<=65535:=by
 have hn:∀ {k:Int} {l:l8_} {t:Ka} {r:l8_},J9 k l=.ok (t,r)->t.text.length<=65535:=λh=>by
  obtain ⟨-,rfl,a⟩:=L0 h
  exact BA a dD
 have ht:∀ {o:Option (l8_ × l8_)} {t:Ka} {r:l8_},HZ o=.ok (t,r)->t.text.length<=65535:=λh=>by
  obtain ⟨_,-,rfl,a⟩:=MO h
  exact a
 unfold M0 at h
 split at h
 · cases h;exact G8 _
 ·
  split at h
  · exact ht h
  ·
   split at h
   · cases h
   ·
    split at h
    ·
     unfold LH at h
     split at h
     ·
      split at h
      · cases h;exact (show (2:Nat)<=65535 by decide)
      ·
       split at h
       · exact ht h
       · cases h
     ·
      split at h
      · exact ht h
      · cases h
    ·
     split at h
     · cases h;exact G8 _
     ·
      split at h
      · cases h;exact G8 _
      ·
       split at h
       · cases h;exact (show (1:Nat)<=65535 by decide)
       ·
        split at h
        ·
         unfold Mf at h
         split at h
         ·
          split at h
          · exact hn h
          · exact hn h
         · exact hn h
        ·
         unfold Tj at h
         simp only at h
         split at h
         · cases h
         ·
          split at h
          · cases h;exact G8 _
          · exact hn h
theorem A0j {l:l8_} (h:KM l t=.ok (s,t1)):s.length<=65535:=by
 have hx:(GD l t).s.length<=65535:=by
  unfold GD
  split
  · exact G8 _
  ·
   cases hk:M0 (l.drop (t:Int).toNat) with
   | error e=>exact G8 _
   | ok r=>exact A0e (s:=r.2) hk
 unfold KM at h
 repeat' split at h
 all_goals first | (cases h;done) | (cases h;exact hx)
theorem A11 {l:l8_} (h:Jz l t=.ok (s,t1)):s.length<=65535:=by
 unfold Jz at h
 split at h
 · cases h
 ·
  split at h
  · cases h
  ·
   split at h
   · cases h
   · cases h;omega
theorem TV {obj:Nat->Ni} {l:l8_}:∀ (f:Nat) (acc:List PV) (t:Nat) {os:List PV} {t1:Nat},acc.length<=65535->Ii obj l f acc t=.ok (os,t1)->os.length<=65535
 | 0,_,_,_,_,_,h=>by cases h
 | f+1,acc,t,os,t1,ha,h=>by
  unfold Ii at h
  split at h
  · cases h
  ·
   split at h
   · cases h;exact ha
   ·
    split at h
    · cases h
    ·
     split at h
     · cases h
     · exact TV f _ _ oF h
theorem Rw {obj:Nat->Ni} {l:l8_}:∀ (f:Nat) (ks:List (l8_)) (acc:List PV) (t:Nat) {ks1:List (l8_)} {os:List PV} {t1:Nat},acc.length<=65535->Ho obj l f ks acc t=.ok (ks1,os,t1)->os.length<=65535
 | 0,_,_,_,_,_,_,_,h=>by cases h
 | f+1,ks,acc,t,ks1,os,t1,ha,h=>by
  unfold Ho at h
  split at h
  · cases h
  ·
   split at h
   · cases h
   ·
    split at h
    · cases h;exact ha
    ·
     split at h
     · cases h
     ·
      split at h
      · cases h
      ·
       split at h
       · cases h
       ·
        split at h
        · cases h
        ·
         split at h
         · cases h
         ·
          split at h
          · cases h
          · exact Rw f _ _ _ oF h
def Xv (o:PV):Prop:=(TI o).length<=65535/\(NC o).length<=65535
theorem Xv.zero (k n:Int):Xv (K8 k n []):=⟨G8 _,G8 _⟩
theorem Pa {l:l8_} {o:PV} (h:J1 l t=.ok (o,t1)):Xv o:=by
 unfold J1 at h
 split at h
 · cases h
 · next s t' hk=>cases h;exact ⟨A0j hk,G8 _⟩
theorem TQ {l:l8_} {o:PV} (h:LT l t=.ok (o,t1)):Xv o:=by
 unfold LT at h
 split at h
 · cases h
 · next s t' hk=>cases h;exact ⟨A11 hk,G8 _⟩
theorem Ru {X:WR} {o:PV} (h:Jn X=.ok (o,t1)):Xv o:=by
 unfold Jn at h
 split at h
 · cases h;exact Xv.zero _ _
 · cases h
theorem A33  {l:l8_} {o:PV} (h:FW refs l d t=.ok (o,t1)):Xv o:=by
 cases d with
 | zero =>
  unfold FW at h
  split at h
  · cases h
  ·
   repeat' split at h
   all_goals first | (cases h;done) | exact TQ h | exact Pa h | exact Ru h
 | succ d =>
  unfold FW at h
  split at h
  · cases h
  ·
   split at h
   · exact TQ h
   ·
    split at h
    ·
     unfold RY at h
     split at h
     · cases h
     · next os t' hk=>cases h;exact ⟨G8 _,TV _ _ _ (G8 _) hk⟩
    ·
     split at h
     · exact Pa h
     ·
      split at h
      ·
       split at h
       · cases h
       ·
        split at h
        · exact Pa h
        ·
         unfold NG at h
         split at h
         · cases h
         · next ks os t' hk=>cases h;exact ⟨G8 _,Rw _ _ _ _ (G8 _) hk⟩
      · exact Ru h
theorem A27 (l:l8_) (a:Int):Xv (GH l a).1:=by
 unfold GH
 split
 · exact Xv.zero _ _
 ·
  split
  ·
   split
   · exact Xv.zero _ _
   ·
    split
    · next o t' hk=>exact A33 hk
    · exact Xv.zero _ _
  · exact Xv.zero _ _
def Jm (sum:Int->l8_->Int) (fs:List LO) (l:l8_):Nat->Int->Vw->List PV->Except Int Vw
 | 0,_,_,_=>.error 0
 | f+1,a,v,args =>
  if (GH l a).2.2.2=26 then (CS (decide ((args.length:Int)=0) && decide ((v.saved.length:Int)=0) && !v.inText)>>=λ_=>.ok v)
  else if (GH l a).2.2.2≠0 then .error (GH l a).2.2.2
  else if (GH l a).2.1=[] then (HG (decide ((args.length:Int)<32))>>=λ_=>Jm sum fs l f (GH l a).2.2.1 v (args++[(GH l a).1]))
  else (KK sum fs v args (GH l a).2.1>>=λv1=>Jm sum fs l f (GH l a).2.2.1 v1 [])
end
section
theorem A0B (d:Nat) (o r:l8_):Do d o (41::r)=if d=1 then some (o,r) else Do (d-1) (o++[41]) r:=by rw [Do.eq_def];rfl
theorem TB (d:Nat) (o r:l8_) (e:UInt8):Do d o (92::e::r)=Do d (o++(Je e r).1) (Je e r).2:=by rw [Do.eq_def];rfl
theorem UB (d:Nat) (o r:l8_) (c:UInt8) (h1:c≠40) (h2:c≠41) (h3:c≠92) (h4:c≠13):Do d o (c::r)=Do d (o++[c]) r:=by
 rw [Do.eq_def];simp only;rw [A2 h1,A2 h2,A2 h3,A2 h4]
theorem A4Z (r:l8_):M0 (40::r)=HZ (Do 1 [] r):=rfl
def Ps (c:UInt8):l8_:=[92,ch (48+(c.toNat:Int) / 64),ch (48+(c.toNat:Int) / 8 % 8),ch (48+(c.toNat:Int) % 8)]
theorem A3L:∀ (c:UInt8) (r:l8_),Je (ch (48+(c.toNat:Int) / 64)) (ch (48+(c.toNat:Int) / 8 % 8)::ch (48+(c.toNat:Int) % 8)::r)=([c],r):=by
 intro c r
 have hc:c.toNat<256:=CE c
 have d:((ch (48+(c.toNat:Int) / 64)).toNat:Int)=48+(c.toNat:Int) / 64:=K2 _ oO oO
 have f:((ch (48+(c.toNat:Int) / 8 % 8)).toNat:Int)=48+(c.toNat:Int) / 8 % 8:=K2 _ oO oO
 have g:((ch (48+(c.toNat:Int) % 8)).toNat:Int)=48+(c.toNat:Int) % 8:=K2 _ oO oO
 rw [V4 _ oO oO]
 have a:Qr (ch (48+(c.toNat:Int) / 8 % 8))=true:=by simp only [Qr,A4,Ad];omega
 have b:Qr (ch (48+(c.toNat:Int) % 8))=true:=by simp only [Qr,A4,Ad];omega
 simp only [NJ,a,b,if_true]
 have e:((8 * (8 * ((ch (48+(c.toNat:Int) / 64)).toNat-48)+((ch (48+(c.toNat:Int) / 8 % 8)).toNat-48))+((ch (48+(c.toNat:Int) % 8)).toNat-48)) % 256:Nat)=c.toNat:=by omega
 rw [e]
 simp only [CR,and_true,DT]
 exact UInt8.toNat_inj.1 (by have:=K2 (c.toNat:Int) oO oO;omega)
def Ev:l8_:=[48,49,50,51,52,53,54,55,56,57,97,98,99,100,101,102,65,66,67,68,69,70]
end
section
def Gn:List Nat->Nat
 | []=>0
 | x::r=>x * 10 ^ r.length+Gn r
theorem A4U (d:List Nat) (h:∀ x∈d,x<10):Gn d<10 ^ d.length:=by
 induction d with
 | nil=>simp [Gn]
 | cons x r ih =>
  have a:=ih λy hy=>h y (by simp [hy])
  have b:=h x (by simp)
  rw [Gn,A8,Nat.pow_succ]
  have c:x * 10 ^ r.length<=9 * 10 ^ r.length:=Cz _ oO
  omega
theorem PN (a b:List Nat):Gn (a++b)=Gn a * 10 ^ b.length+Gn b:=by
 induction a with
 | nil=>simp [Gn]
 | cons x r ih =>
  rw [G5,Gn,Gn,ih,A9,Nat.pow_add,Nat.add_mul,Nat.mul_assoc,A8l]
theorem R3 (k:Nat):Gn (List.replicate k 0)=0:=by
 induction k with
 | zero=>rfl
 | succ k ih=>rw [List.replicate_succ,Gn,ih];simp
theorem ZI (d:List Nat):Gn (Jr d).1+(Jr d).2 * 10 ^ d.length=2 * Gn d:=by
 induction d with
 | nil=>rfl
 | cons x r ih =>
  have hl:=QP r
  simp only [Jr,Gn,hl,A8,Nat.pow_succ]
  have a:(2 * x+(Jr r).2) % 10+10 * ((2 * x+(Jr r).2) / 10)=2 * x+(Jr r).2:=Nat.mod_add_div _ _
  have b:((2 * x+(Jr r).2) % 10) * 10 ^ r.length+(2 * x+(Jr r).2) / 10 * (10 ^ r.length * 10)=(2 * x+(Jr r).2) * 10 ^ r.length:=by
   conv=>rhs;rw [<- a,Nat.add_mul]
   rw [Nat.mul_comm (10 ^ r.length) 10,<- Nat.mul_assoc,Nat.mul_comm _ 10]
  have c:(2 * x+(Jr r).2) * 10 ^ r.length=2 * (x * 10 ^ r.length)+(Jr r).2 * 10 ^ r.length:=by rw [Nat.add_mul,Nat.mul_assoc]
  omega
theorem XX (k:Nat):∀ (n:Int) (d:List Nat),(Gh k n d).2.length=d.length:=by
 induction k with
 | zero=>intro n d;rfl
 | succ k ih=>intro n d;rw [Gh,ih,QP]
theorem XW (k:Nat):∀ (n:Nat) (d:List Nat),∃ m:Nat,(Gh k (n:Int) d).1=(m:Int)/\m * 10 ^ d.length+Gn (Gh k (n:Int) d).2=2 ^ k * (n * 10 ^ d.length+Gn d):=by
 induction k with
 | zero=>intro n d;exact ⟨n,rfl,by simp [Gh]⟩
 | succ k ih =>
  intro n d
  obtain ⟨m,b,a⟩:=ih (2 * n+(Jr d).2) (Jr d).1
  rw [QP] at a
  have hv:=ZI d
  have hc:((2 * n+(Jr d).2:Nat):Int)=2 * (n:Int)+((Jr d).2:Int):=by omega
  rw [Gh,<- hc]
  refine ⟨m,b,a.trans ?_⟩
  rw [Nat.pow_succ,Nat.mul_assoc]
  congr 1
  rw [Nat.add_mul,Nat.mul_assoc]
  omega
theorem RJ (l:l8_):Dd l=Gn (Bu l):=by
 have key:∀ (l:l8_) (n:Nat),l.foldl (λn c=>10 * n+(c.toNat-48)) n=n * 10 ^ l.length+Gn (Bu l):=by
  intro l
  induction l with
  | nil=>intro n;simp [Bu,Gn]
  | cons c r ih =>
   intro n
   have hl:(Bu r).length=r.length:=Fb r
   have hd:Bu (c::r)=(c.toNat-48)::Bu r:=rfl
   rw [DS,ih,hd,Gn,hl,A8,Nat.pow_succ,Nat.add_mul,Nat.mul_comm 10 n,Nat.mul_assoc,Nat.mul_comm 10 (10 ^ r.length),A8l]
 have:=key l 0
 rw [Nat.zero_mul,Ey] at this
 exact this
theorem Y4 (W R:l8_) (N f:Nat) (hW:∀ c∈W,C4 c=true) (hN:Dd W=N) (hN5:N<=99999) (hR:∀ c∈R,C4 c=true) (hv:Gn (Bu R) * 65536=f * 10 ^ R.length) :
  Y5 W R=some ((N * 65536+f:Nat):Int):=by
 have ht:¬ 5<(W.dropWhile (· == 48)).length:=λh=>by have:=(A0c W hW).1 h;omega
 unfold Y5
 rw [A2 ht,RK,hN]
 obtain ⟨m,k,j⟩:=XW 16 N (Bu R)
 have hd:=SK 16 (N:Int) (Bu R) (Qd R hR)
 have hl:=XX 16 (N:Int) (Bu R)
 have d:=A4U _ hd
 rw [Fb] at j hl
 rw [hl] at d
 have g:=ZI (Gh 16 (N:Int) (Bu R)).2
 rw [hl] at g
 generalize (Gh 16 (N:Int) (Bu R)).2=D at *
 generalize hP:10 ^ R.length=P at *
 have i:0<P:=by rw [<- hP];exact Nat.pow_pos dD
 have e:m * P+Gn D=(N * 65536+f) * P:=by
  rw [j,Nat.add_mul,<- hv]
  have:(2:Nat) ^ 16=65536:=by decide
  rw [this,Nat.mul_add,<- Nat.mul_assoc,Nat.mul_comm 65536 N,Nat.mul_comm 65536 (Gn _)]
 have hm:m=N * 65536+f:=by
  have a:(m * P+Gn D) / P=m:=by rw [Nat.mul_comm,Nat.mul_add_div i,Nat.div_eq_of_lt d];rfl
  have b:((N * 65536+f) * P) / P=N * 65536+f:=Nat.mul_div_cancel _ i
  rw [<- a,e,b]
 have hD:Gn D=0:=by rw [hm] at e;omega
 have hc:(Jr D).2=0:=by
  rw [hD] at g
  rcases HR (Jr D).2 with h | h
  · exact h
  · have:=Cz P h;omega
 rw [k,hc,hm,Int.natCast_zero,Int.add_zero]
theorem S6 (k:Nat) (h:k<10):C4 (ch (48+(k:Int)))=true/\(ch (48+(k:Int))).toNat=48+k:=by
 have e:(ch (48+(k:Int))).toNat=48+k:=by
  unfold ch
  rw [show (48+(k:Int)).toNat=48+k by omega,UInt8.toNat_ofNat']
  omega
 exact ⟨by unfold C4;rw [e,Al (show 48<=48+k by omega),Al (show 48+k<=57 by omega)];rfl,e⟩
theorem A1l (k:Nat):∀ f:Nat,k<=16->f<65536->2 ^ (16-k) ∣ f->(∀ c∈HM k f,C4 c=true)/\Gn (Bu (HM k f)) * 65536=f * 10 ^ (HM k f).length:=by
 induction k with
 | zero =>
  intro f _ hf hd
  obtain ⟨c,hc⟩:=hd
  have:f=0:=by simp at hc;omega
  subst this
  exact ⟨by simp [HM],by simp [HM,Bu,Gn]⟩
 | succ k ih =>
  intro f hk hf hd
  rw [HM]
  split
  · next h=>subst h;exact ⟨by simp,by simp [Bu,Gn]⟩
  ·
   have b:2 ^ (16-k) ∣ f * 10:=by
    have e:16-k=(16-(k+1))+1:=by omega
    rw [e,Nat.pow_succ]
    exact Nat.mul_dvd_mul hd ⟨5,rfl⟩
   have d:2 ^ (16-k) ∣ 65536:=by
    rw [show (65536:Nat)=2 ^ 16 from rfl]
    exact Nat.pow_dvd_pow 2 oO
   obtain ⟨g,i⟩:=ih (f * 10 % 65536) oO oO ((Nat.dvd_mod_iff d).2 b)
   obtain ⟨c1,j⟩:=S6 (f * 10 / 65536) oO
   refine ⟨λc hc=>?_,?_⟩
   ·
    rcases Ax.1 hc with rfl | hc
    · exact c1
    · exact g c hc
   ·
    have a:Bu (ch (48+((f * 10 / 65536:Nat):Int))::HM k (f * 10 % 65536))=(f * 10 / 65536)::Bu (HM k (f * 10 % 65536)):=by
     show (_-48)::_=_
     rw [j];congr 1;omega
    rw [a,Gn,Fb,A8,Nat.pow_succ]
    generalize Gn (Bu (HM k (f * 10 % 65536)))=V at *
    generalize 10 ^ (HM k (f * 10 % 65536)).length=P at *
    have hm:=Nat.mod_add_div (f * 10) 65536
    generalize f * 10 % 65536=r at *
    generalize f * 10 / 65536=q at *
    rw [Nat.add_mul,i,Nat.mul_comm P 10,<- Nat.mul_assoc,<- hm,Nat.add_mul,Nat.mul_right_comm,Nat.mul_comm q 65536]
    omega
theorem A1k (f:Nat) (h:f<65536):(∀ c∈Jc f,C4 c=true)/\Gn (Bu (Jc f)) * 65536=f * 10 ^ (Jc f).length :=
 A1l 16 f oO h (by simp)
theorem Qe (n:Nat):(∀ c∈Eb n,C4 c=true)/\Dd (Eb n)=n/\Eb n≠[]:=by
  induction n using Nat.strongRecOn with
  | _ n ih =>
    by_cases h:n<10
    · rw [JZ n h]
      obtain ⟨c1,a⟩:=S6 n h
      exact ⟨by simpa using c1,by simp [Dd,a],by simp⟩
    · rw [Sj n oO]
      obtain ⟨b,d,e⟩:=ih (n / 10) oO
      obtain ⟨c1,a⟩:=S6 (n % 10) oO
      refine ⟨λc hc=>?_,?_,by simp⟩
      · rcases B4.1 hc with hc | hc
        · exact b c hc
        · rw [Ao.1 hc];exact c1
      · rw [RL,d,a];omega
theorem LX (a b:l8_):Bu (a++b)=Bu a++Bu b:=by simp [Bu]
theorem My (k:Nat):Bu (List.replicate k 48)=List.replicate k 0:=by simp [Bu]
theorem A0a (R:l8_) (f k:Nat) (h:Gn (Bu R) * 65536=f * 10 ^ R.length):Gn (Bu (R++List.replicate k 48)) * 65536=f * 10 ^ (R++List.replicate k 48).length:=by
 rw [LX,My,PN,R3,Nat.add_zero,A9,I5,I5,Nat.pow_add,<- Nat.mul_assoc,<- h,Nat.mul_right_comm]
theorem Wp (k:Nat) (W:l8_):Dd (List.replicate k 48++W)=Dd W:=by
 rw [RJ,RJ,LX,My,PN,R3,Nat.zero_mul,Ey]
theorem U5 (k:Nat) (c:UInt8) (h:c∈List.replicate k (48:UInt8)):C4 c=true:=by
 rw [List.mem_replicate] at h;rw [h.2];rfl
def SJ (m:Option Bool):l8_:=match m with | none=>[] | some true=>[45] | some false=>[43]
def neg (m:Option Bool):Bool:=match m with | some true=>true | _=>false
theorem PQ (m:Option Bool) (l:l8_) (h:∀ c r,l=c::r->C4 c=true):AW (SJ m++l)=(neg m,l):=by
 match m with
 | some true=>rfl
 | some false=>rfl
 | none =>
  cases l with
  | nil=>rfl
  | cons c r=>exact VF c r (h c r rfl)
theorem A3y (W X:l8_) (hW:∀ c∈W,C4 c=true) (h0:W≠[]):∀ c r,W++X=c::r->C4 c=true:=by
 intro c r e
 cases W with
 | nil=>exact D6 rfl h0
 | cons d W =>
  simp only [G5,DT] at e
  rw [<- e.1];exact hW d (by simp)
theorem A35 (W:l8_) (hW:∀ c∈W,C4 c=true):46 ∉ W:=λh=>D6 (hW 46 h) dD
theorem A3g (W R:l8_) (hW:∀ c∈W,C4 c=true) (hR:∀ c∈R,C4 c=true) (h0:W≠[]):Ih (W++46::R)=true:=by
 have hl:0<W.length:=List.length_pos_iff.2 h0
 unfold Ih
 rw [LD R W (A35 W hW)]
 simp only [A4,At,Ad]
 exact ⟨⟨hW,hR⟩,oO⟩
theorem Yg (m:Option Bool) (W R:l8_) (N f:Nat) (hW:∀ c∈W,C4 c=true) (h0:W≠[]) (hR:∀ c∈R,C4 c=true) (hN:Dd W=N) (hN5:N<=99999)
  (hv:Gn (Bu R) * 65536=f * 10 ^ R.length) (hfit:Am (if neg m then -((N * 65536+f:Nat):Int) else ((N * 65536+f:Nat):Int))=true) :
  Mm (SJ m++(W++46::R))=(if neg m then -((N * 65536+f:Nat):Int) else ((N * 65536+f:Nat):Int),true):=by
 rw [A0P,PQ m _ (A3y W _ hW h0)]
 simp only
 rw [A3g W R hW hR h0,A7 rfl,LD R W (A35 W hW)]
 simp only
 rw [Y4 W R N f hW hN hN5 hR hv]
 unfold XK
 simp only [hfit,if_true]
theorem A0r (n:Int):Mh n=SJ (if n<0 then some true else none):=by unfold Mh SJ;split <;> rfl
theorem A7w (n:Int):(if neg (if n<0 then some true else none) then -((n.natAbs / 65536 * 65536+n.natAbs % 65536:Nat):Int) else ((n.natAbs / 65536 * 65536+n.natAbs % 65536:Nat):Int))=n:=by
 have h:n.natAbs / 65536 * 65536+n.natAbs % 65536=n.natAbs:=by omega
 rw [h]
 by_cases hn:n<0
 · rw [A7 hn];simp only [neg,if_true];omega
 · rw [A2 hn];simp only [neg,BN,if_false];omega
theorem Rn (n:Int):∃ R,Oj n=SJ (if n<0 then some true else none)++(ID n++46::R)/\R≠[]/\R.length<=16/\(∀ c∈R,C4 c=true)/\Gn (Bu R) * 65536=(n.natAbs % 65536) * 10 ^ R.length:=by
  obtain ⟨a,b⟩:=A1k (n.natAbs % 65536) oO
  unfold Oj
  rw [A0r]
  by_cases h0:LR n=[]
  · refine ⟨[48], by rw [A7 h0]; simp, by simp, by simp, by simp; decide, ?_⟩
    rw [(Ph n).1 h0];simp [Bu,Gn]
  · refine ⟨LR n,by rw [A2 h0];simp,h0,N0 _,a,b⟩
theorem Ll (n:Int) (h1:-2147483648<=n) (h2:n<=2147483647):(∀ c∈ID n,C4 c=true)/\ID n≠[]/\Dd (ID n)=n.natAbs / 65536/\n.natAbs / 65536<=99999/\(ID n).length<=5:=by
 obtain ⟨a,b,c⟩:=Qe (n.natAbs / 65536)
 exact ⟨a,c,b,oO,Mz 4 _ oO⟩
theorem Yf (m:Option Bool) (n:Int) (a k:Nat) (h1:-2147483648<=n) (h2:n<=2147483647) (R:l8_) (hR:∀ c∈R,C4 c=true) (hv:Gn (Bu R) * 65536=(n.natAbs % 65536) * 10 ^ R.length) (hm:neg m=decide (n<0)) :
  Mm (SJ m++((List.replicate a 48++ID n)++46::(R++List.replicate k 48)))=(n,true):=by
 obtain ⟨b,d,e,f,g⟩:=Ll n h1 h2
 have hn:(if neg m then -((n.natAbs / 65536 * 65536+n.natAbs % 65536:Nat):Int) else ((n.natAbs / 65536 * 65536+n.natAbs % 65536:Nat):Int))=n:=by
  have:=A7w n
  rw [hm]
  by_cases h:n<0
  · rw [A7 h] at this;rw [Al h];exact this
  · rw [A2 h] at this;rw [An h];exact this
 rw [Yg m _ _ (n.natAbs / 65536) (n.natAbs % 65536) (λc hc=>(B4.1 hc).elim (U5 a c) (b c)) (by simp [d]) (λc hc=>(B4.1 hc).elim (hR c) (U5 k c)) (by rw [Wp,e]) f (A0a R _ k hv) (by rw [hn];exact N2 h1 h2),hn]
end
section
inductive AV where
 | mk (kind n:Int) (text:l8_) (keys:List (l8_)) (list:List AV) (data:l8_)
def AV.kind:AV->Int | .mk k _ _ _ _ _=>k
def AV.n:AV->Int | .mk _ n _ _ _ _=>n
def AV.text:AV->l8_ | .mk _ _ t _ _ _=>t
def A9u:AV->List (l8_) | .mk _ _ _ ks _ _=>ks
def AV.list:AV->List AV | .mk _ _ _ _ l _=>l
def AV.data:AV->l8_ | .mk _ _ _ _ _ d=>d
mutual
/-- an object without its data -/
def pvO:AV->PV
 | .mk k n t ks l _=>.mk k n t ks (pvL l)
def pvL:List AV->List PV
 | []=>[]
 | o::r=>pvO o::pvL r
end
def KY (c:UInt8):Bool:=decide (c.toNat<33) || decide (126<c.toNat) || c == 35 || NV c
def Yl (c:UInt8):l8_:=if KY c then [35,Ev[c.toNat / 16]!,Ev[c.toNat % 16]!] else [c]
def nmT (s:l8_):l8_:=47::s.flatMap Yl
def Xr (c:UInt8):l8_:=if c=40\/c=41\/c=92 then [92,c] else if c.toNat<32\/126<c.toNat then Ps c else [c]
def Qm (s:l8_):l8_:=40::(s.flatMap Xr++[41])
def A8q (d:l8_):l8_:=[32,47,76,101,110,103,116,104,32]++E9 (d.length:Int)++[32,62,62,10,115,116,114,101,97,109,10]++d++[10,101,110,100,115,116,114,101,97,109]
mutual
/-- an object as it is written -/
def prO:AV->l8_
 | .mk k n t ks l d =>
  if k=0 then [110,117,108,108]
  else if k=1 then (if n=1 then [116,114,117,101] else [102,97,108,115,101])
  else if k=2 then E9 n
  else if k=3 then Oj (norm n)
  else if k=4 then nmT t
  else if k=5 then Qm t
  else if k=8 then E9 n++[32,48,32,82]
  else if k=6 then 91::((prB l).drop 1++[93])
  else 60::60::(prP ks l++(if k=7 then [32,62,62] else A8q d))
/-- objects,each with a blank ahead -/
def prB:List AV->l8_
 | []=>[]
 | o::r=>32::(prO o++prB r)
/-- names and objects,each with a blank ahead -/
def prP:List (l8_)->List AV->l8_
 | k::ks,o::r=>32::(nmT k++32::(prO o++prP ks r))
 | _,_=>[]
end
def A10 (s:l8_):Prop:=s≠[]/\0 ∉ s/\s.length<=127
inductive Snd:Int->Bool->AV->Prop
 | null (D:Int) (st:Bool):Snd D st (.mk 0 0 [] [] [] [])
 | bool (D:Int) (st:Bool) (n:Int) (h:n=0\/n=1):Snd D st (.mk 1 n [] [] [] [])
 | num (D:Int) (st:Bool) (k n:Int) (hk:k=2\/k=3) (h:Am n=true):Snd D st (.mk k n [] [] [] [])
 | name (D:Int) (st:Bool) (t:l8_) (h:A10 t):Snd D st (.mk 4 0 t [] [] [])
 | text (D:Int) (st:Bool) (t:l8_) (h:t.length<=65535):Snd D st (.mk 5 0 t [] [] [])
 | ref (D:Int) (st:Bool) (n:Int) (h:1<=n/\n<=4096):Snd D st (.mk 8 n [] [] [] [])
 | arr (D:Int) (st:Bool) (l:List AV) (hD:1<=D) (hl:l.length<=65535) (h:∀ o∈l,Snd (D-1) false o):Snd D st (.mk 6 0 [] [] l [])
 | dict (D:Int) (st:Bool) (k:Int) (ks:List (l8_)) (l:List AV) (d:l8_) (hk:(k=7/\d=[])\/(k=9/\st=true/\d.length<=1048576/\[76,101,110,103,116,104] ∉ ks)) (hD:1<=D) (hl:l.length<=65535) (hkl:ks.length=l.length)
   (hn:∀ x∈ks,A10 x) (hnd:ks.Nodup) (h:∀ o∈l,Snd (D-1) false o):Snd D st (.mk k 0 [] ks l d)
mutual
/-- how many lists are within one another -/
def dpO:AV->Nat
 | .mk k _ _ _ l _=>if k=6\/k=7 then dpL l+1 else 0
def dpL:List AV->Nat
 | []=>0
 | o::r=>max (dpO o) (dpL r)
end
theorem Z4 (c:UInt8):(Xr c).length<=4:=by unfold Xr Ps;split <;> (try split) <;> simp
theorem flat_len {f:UInt8->l8_} {k:Nat} (hf:∀ c,(f c).length<=k):∀ s:l8_,(s.flatMap f).length<=k * s.length
 | []=>by simp
 | c::s=>by
  have h1:=hf c;have h2:=flat_len hf s
  rw [CG,A9,A8,Nat.mul_add,Nat.mul_one];omega
theorem EA (n:Int) (h:-9223372036854775808<=n) (h':n<=9223372036854775807):(E9 n).length<=21:=by
 have:=La n h h'
 rwa [BR] at this
theorem N3 {n:Int} (h:Am n=true):-2147483648<=n/\n<=2147483647:=by simpa [Am] using h
theorem Pv {n:Int} (h:Am n=true):norm n=n:=by unfold norm;rw [A7 h]
end
section
def Vh (r:l8_):Prop:=∀ c r',r=c::r'->E1 c=false
theorem Vh.cons {c:UInt8} {r:l8_} (h:E1 c=false):Vh (c::r):=λc' r' e=>by cases e;exact h
theorem A20  {r:l8_} (hA:∀ x∈A,E1 x=true) (hr:Vh r):(A++r).takeWhile E1=A:=by
 induction A with
 | nil =>
  cases r with
  | nil=>rfl
  | cons c r=>rw [CJ,List.takeWhile_cons,hr c r rfl];rfl
 | cons a A ih=>rw [G5,List.takeWhile_cons,hA a (by simp),A7 rfl,ih λx hx=>hA x (by simp [hx])]
section
variable {l:l8_} {t:Nat}
theorem Uk  {r:l8_} (ht:t<=l.length) (h:l.drop t=A++r) (hA:∀ x∈A,E1 x=true) (hr:Vh r):Ec l t=A/\C0 l t=l.length-r.length/\l.drop (C0 l t)=r:=by
 have a:Ec l t=A:=by rw [Vk,h,A20 hA hr]
 have hl:=Bk List.length h
 rw [B9,A9] at hl
 have b:C0 l t=t+A.length:=by unfold C0;rw [h,A20 hA hr]
 refine ⟨a,oO,?_⟩
 rw [b,<- Kv,h,List.drop_left]
theorem Ur {x:l8_} (h:E7 false (l.drop t)=x):AY false l t=l.length-x.length/\l.drop (AY false l t)=x:=⟨by unfold AY;rw [h],by rw [PP,h]⟩
end
theorem Lo {c:UInt8} {r:l8_} (h:EF c=false) (h37:c≠37):E7 false (c::r)=c::r:=by simp [E7,h,h37]
theorem J3 (r:l8_):E7 false (32::r)=E7 false r:=by simp [E7,EF]
theorem Sw {q:UInt8->Prop} [DecidablePred q] (key:∀ n:Fin 256,q (UInt8.ofNat n.1)) (c:UInt8):q c:=by
 have h:=key ⟨c.toNat,CE c⟩
 have e:UInt8.ofNat (⟨c.toNat,CE c⟩:Fin 256).1=c:=UInt8.ofNat_toNat
 rw [e] at h
 exact h
theorem A5v (c:UInt8):∀ x∈Yl c,E1 x=true:=Sw (q:=λc=>∀ x∈Yl c,E1 x=true) (by decide +kernel) c
theorem A5w (c:UInt8):(KY c=true->Yl c=[35,Ev[c.toNat / 16]!,Ev[c.toNat % 16]!]/\Er Ev[c.toNat / 16]!<16/\Er Ev[c.toNat % 16]!<16/\ch ((16 * Er Ev[c.toNat / 16]!+Er Ev[c.toNat % 16]! : Nat):Int)=c)/\(KY c=false->Yl c=[c]/\c≠35) :=
 Sw (q:=λc=>(KY c=true->Yl c=[35,Ev[c.toNat / 16]!,Ev[c.toNat % 16]!]/\Er Ev[c.toNat / 16]!<16/\Er Ev[c.toNat % 16]!<16/\ch ((16 * Er Ev[c.toNat / 16]!+Er Ev[c.toNat % 16]! : Nat):Int)=c)/\(KY c=false->Yl c=[c]/\c≠35)) (by decide +kernel) c
theorem U8:∀ s:l8_,Ng (s.flatMap Yl)=some s
 | []=>rfl
 | c::s=>by
  have ih:=U8 s
  have hd:=A5w c
  rw [CG]
  cases hn:KY c with
  | true =>
   obtain ⟨h1,h2,h3,h4⟩:=hd.1 hn
   rw [h1]
   show Ng (35::Ev[c.toNat / 16]! :: Ev[c.toNat % 16]! :: s.flatMap Yl)=_
   rw [L9,A7 rfl]
   simp only
   rw [A7 ⟨h2,h3⟩,ih,h4];rfl
  | false =>
   obtain ⟨h1,h2⟩:=hd.2 hn
   rw [h1]
   show Ng (c::s.flatMap Yl)=_
   rw [L9,A2 h2,ih];rfl
theorem A3b (s:l8_):∀ x∈s.flatMap Yl,E1 x=true:=λx hx=>by
 obtain ⟨c,-,hc⟩:=List.mem_flatMap.1 hx
 exact A5v c x hc
theorem A3c {l:l8_} {r:l8_} (ht:t<=l.length) (h:l.drop t=s.flatMap Yl++r) (hs:A10 s) (hr:Vh r):Jz l t=.ok (s,l.length-r.length):=by
 obtain ⟨a,b,-⟩:=Uk ht h (A3b s) hr
 unfold Jz
 rw [a,U8]
 simp only
 rw [A2 (λh=>h.elim hs.1 hs.2.1),A2 (by have:=hs.2.2;omega),b]
theorem UA (c:UInt8) (o r:l8_):Do 1 o (Xr c++r)=Do 1 (o++[c]) r:=by
 unfold Xr
 split
 ·
  next h =>
  show Do 1 o (92::c::r)=_
  rw [TB]
  have he:Je c r=([c],r):=by rcases h with rfl | rfl | rfl <;> rfl
  rw [he]
 ·
  next h =>
  split
  ·
   show Do 1 o (92::ch (48+(c.toNat:Int) / 64)::ch (48+(c.toNat:Int) / 8 % 8)::ch (48+(c.toNat:Int) % 8)::r)=_
   rw [TB,A3L]
  ·
   next h2 =>
   exact UB _ _ _ _ (λe=>h (.inl e)) (λe=>h (.inr (.inl e))) (λe=>h (.inr (.inr e))) (λe=>by subst e;exact h2 (.inl dD))
theorem PS:∀ (s o r:l8_),Do 1 o (s.flatMap Xr++r)=Do 1 (o++s) r
 | [],o,r=>by simp
 | c::s,o,r=>by rw [CG,AB,UA,PS s];simp
theorem A2g {l:l8_} {r:l8_} (ht:t<=l.length) (h:l.drop t=Qm s++r) (hs:s.length<=65535):KM l t=.ok (s,l.length-r.length):=by
 have hl:=Bk List.length h
 have hN:GD l (t:Int)=⟨6,0,s,((l.length-r.length:Nat):Int),0⟩:=by
  unfold GD
  rw [A2 oO]
  rw [show (t:Int).toNat=t from rfl,h,show Qm s++r=40::(s.flatMap Xr++(41::r)) by simp [Qm],A4Z,PS,A0B,A7 rfl]
  simp only [HZ,CJ]
  rw [A2 oO]
  rfl
 unfold KM
 rw [hN]
 simp
theorem MA (n:Int) (h:Am n=true):∃ m:Option Bool,∃ W:l8_,E9 n=SJ m++W/\neg m=decide (n<0)/\(∀ c∈W,C4 c=true)/\W≠[]/\Dd W=n.natAbs/\W.length<=10:=by
 have hf:=N3 h
 obtain ⟨a,b,c⟩:=Qe n.natAbs
 have hl:=Mz 9 n.natAbs oO
 unfold E9
 by_cases hn:n<0
 · exact ⟨some true,Eb n.natAbs,by rw [A7 hn];rfl,by rw [Al hn];rfl,a,c,b,oO⟩
 · exact ⟨none,Eb n.natAbs,by rw [A2 hn];rfl,by rw [An hn];rfl,a,c,b,oO⟩
theorem V5 (c:UInt8) (h:C4 c=true):E1 c=true:=Sw (q:=λc=>C4 c=true->E1 c=true) (by decide +kernel) c h
theorem Zd (m:Option Bool):∀ x∈SJ m,E1 x=true:=by
 match m with
 | none=>exact λx hx=>by cases hx
 | some true=>exact λx hx=>by simp [SJ] at hx;subst hx;decide
 | some false=>exact λx hx=>by simp [SJ] at hx;subst hx;decide
theorem Ze (m:Option Bool) {x:UInt8} (h1:x≠45) (h2:x≠43):x ∉ SJ m:=by
 match m with
 | none=>exact λh=>by cases h
 | some true=>simp [SJ];exact h1
 | some false=>simp [SJ];exact h2
theorem ZH (n:Int) (h:Am n=true):∀ x∈E9 n,E1 x=true:=by
 obtain ⟨m,W,e,-,hW,-⟩:=MA n h
 rw [e]
 exact λx hx=>(B4.1 hx).elim (Zd m x) λhx=>V5 x (hW x hx)
theorem A65 (n:Int) (h:Am n=true):GO (E9 n)=IF n:=by
 obtain ⟨m,W,e,hm,hW,d,hv,hl⟩:=MA n h
 have hf:=N3 h
 have hs:(SJ m).length<=1:=by match m with
  | none=>simp [SJ]
  | some true=>simp [SJ]
  | some false=>simp [SJ]
 have hr:Kf (E9 n)=false:=by
  unfold Kf
  rw [V7 35 _ (by rw [e];exact λhx=>(B4.1 hx).elim (Ze m dD dD) λhx=>D6 (hW 35 hx) dD)]
  rfl
 rw [Up _ (by rw [e,A9];omega) hr]
 have hw:GN (E9 n)=(n,true):=by
  unfold GN
  rw [e,PQ m W λc r hc=>hW c (by rw [hc];simp)]
  simp only
  have f:(W.isEmpty || !W.all C4)=false:=by
   rw [At.2 hW]
   cases W with
   | nil=>exact D6 rfl d
   | cons a b=>rfl
  rw [f]
  simp only [BN,if_false]
  rw [VN,hv,hm]
  have g:(min n.natAbs 1099511627776)=n.natAbs:=by omega
  rw [g]
  have i:(if decide (n<0)=true then -(n.natAbs:Int) else (n.natAbs:Int))=n:=by
   by_cases hn:n<0
   · rw [Al hn,A7 rfl];omega
   · rw [An hn,A2 dD];omega
  rw [i]
  simp [hf]
 rw [hw];rfl
theorem A3S (n:Int) (h:Am n=true):(E9 n).contains 46=false:=by
 obtain ⟨m,W,e,-,hW,-⟩:=MA n h
 cases hc:(E9 n).contains 46 with
 | false=>rfl
 | true =>
  rw [List.contains_iff_mem,e] at hc
  exact D6 hc λhx=>(B4.1 hx).elim (Ze m dD dD) λhx=>D6 (hW 46 hx) dD
theorem A7O (n:Int) (h:Am n=true):(E9 n).all PW=true:=by
 obtain ⟨m,W,e,-,hW,-⟩:=MA n h
 rw [At,e]
 intro x hx
 rcases B4.1 hx with hx | hx
 ·
  match m with
  | none=>cases hx
  | some true=>simp [SJ] at hx;subst hx;decide
  | some false=>simp [SJ] at hx;subst hx;decide
 · unfold PW;rw [hW x hx];rfl
theorem Wn (n:Int) (h:Am n=true):M4 (E9 n)=(2,n,true):=by
 unfold M4
 rw [A3S n h,A65 n h,A7O n h]
 rfl
theorem Y3 (n:Int) (h:Am n=true):Lt (Oj n)=(n,true)/\(Oj n).contains 46=true/\(∀ x∈Oj n,E1 x=true):=by
 have hf:=N3 h
 obtain ⟨a,b,c,d,f⟩:=Ll n hf.1 hf.2
 obtain ⟨R,e,g,rl,hR,hv⟩:=Rn n
 have hm:neg (if n<0 then some true else none)=decide (n<0):=by split <;> simp_all [neg]
 refine ⟨?_,?_,?_⟩
 ·
  unfold Lt
  have hs:(SJ (if n<0 then some true else none)).length<=1:=by split <;> simp [SJ]
  rw [A2 (by rw [e];simp only [A9,A8];omega),e]
  have:=Yf (if n<0 then some true else none) n 0 0 hf.1 hf.2 R hR hv hm
  simpa using this
 · rw [List.contains_iff_mem,e];simp
 ·
  rw [e]
  intro x hx
  rcases B4.1 hx with hx | hx
  · exact Zd _ x hx
  ·
   rcases B4.1 hx with hx | hx
   · exact V5 x (a x hx)
   ·
    rcases Ax.1 hx with rfl | hx
    · decide
    · exact V5 x (hR x hx)
theorem OS (n:Int) (h:Am n=true):∃ c r,E9 n=c::r/\(C4 c=true\/c=45\/c=43):=by
 obtain ⟨m,W,e,-,hW,b,-⟩:=MA n h
 cases W with
 | nil=>exact D6 rfl b
 | cons a W =>
  match m with
  | none=>exact ⟨a,W,e,.inl (hW a (by simp))⟩
  | some true=>exact ⟨45,a::W,e,.inr (.inl rfl)⟩
  | some false=>exact ⟨43,a::W,e,.inr (.inr rfl)⟩
theorem A0G (n:Int) (h:Am n=true):∃ c r,Oj n=c::r/\(C4 c=true\/c=45\/c=43):=by
 have hf:=N3 h
 obtain ⟨b,d,-⟩:=Ll n hf.1 hf.2
 obtain ⟨R,e,-⟩:=Rn n
 by_cases hn:n<0
 · rw [A7 hn] at e;exact ⟨45,_,e,.inr (.inl rfl)⟩
 ·
  rw [A2 hn] at e
  cases hw:ID n with
  | nil=>exact D6 hw d
  | cons a W=>rw [hw] at e;exact ⟨a,_,e,.inl (b a (by rw [hw];simp))⟩
end
end Go.Proofs.YthmhfjeojkbpfaaGreatDoor
