/-
  What the claim leans on, part 4: pruned and joined by my own tool out of the texts that stand in wip/ as templates.
-/
import Derived.Test.YthmhfjeojkbpfaaGreatDoorVm3
set_option maxHeartbeats 6400000
set_option maxRecDepth 100000
namespace Go.Proofs.YthmhfjeojkbpfaaGreatDoor
open Go.RowKit
open Go.Proofs.Tryz
variable {aft:Array Edge} {ops:Array Oper} {ats:Array TypeId} {refs:Bool} {R:Ending->World->Prop} {f:Fr} {dx dy fill last:Int} {sum:Int->List UInt8->Int} {ns:List Int} {A s z:List UInt8} {vs xs:List Value} {B N bp bv by' c cc cp d g i id m t t1:Nat} {F1 T Z:Nat->Prop} {x y:Operand} {p pc pp q:Option Addr} {P:Program} {pos:String} {α β:Type} {E e ta tb tx:TypeId} {v v' v1 vp:Value} {w w1 w2:World} {S':World->Prop}
section
def A3I (x:l8_):l8_:=(E7 false x).takeWhile E1
def A7Y (x:l8_):l8_:=(E7 false x).dropWhile E1
def NoR (k:Int) (r:l8_):Prop:=k=2->¬ (A3I r=[48]/\A3I (A7Y r)=[82])
section
variable {l:l8_} {t:Nat}
theorem Kl {c:UInt8} {r:l8_} (h:l.drop t=c::r):l[t]?=some c/\t<l.length/\l.drop (t+1)=r:=by
 have a:(l.drop t)[0]?=some c:=by rw [h];rfl
 rw [List.getElem?_drop] at a
 refine ⟨a,(C2.1 a).1,?_⟩
 rw [<- Kv,h];rfl
end
def Wz (c:UInt8):Bool:=!EF c && !(c == 37) && !(c == 93) && !(c == 62) && !(c == 82)
theorem Mo {c:UInt8} (h:C4 c=true\/c=45\/c=43):Wz c=true/\c≠47/\c≠91/\c≠40/\c≠60/\c≠110/\c≠116/\c≠102:=by
 have key:∀ c:UInt8,(C4 c=true\/c=45\/c=43)->Wz c=true/\c≠47/\c≠91/\c≠40/\c≠60/\c≠110/\c≠116/\c≠102 :=
  Sw (q:=λc=>(C4 c=true\/c=45\/c=43)->Wz c=true/\c≠47/\c≠91/\c≠40/\c≠60/\c≠110/\c≠116/\c≠102) (by decide +kernel)
 exact key c h
theorem UW {c:UInt8} (h:Wz c=true):EF c=false/\c≠37/\c≠93/\c≠62/\c≠82:=by
 simp only [Wz,A4,AP,DZ] at h
 exact ⟨h.1.1.1.1,h.1.1.1.2,h.1.1.2,h.1.2,h.2⟩
def B0q (o:AV):Prop:=∀ (l:l8_) (t:Nat) (rest:l8_) (d:Nat),t<=l.length->l.drop t=prO o++rest->Vh rest->NoR o.kind rest->FW true l d t=if dpO o<=d then .ok (pvO o,l.length-rest.length) else .error 25
theorem Tw  {l r:l8_} (ht:t<=l.length) (h:l.drop t=A++r):l.drop (l.length-r.length)=r/\l.length-r.length<=l.length/\r.length<=l.length:=by
 have hl:=Bk List.length h
 rw [B9,A9] at hl
 refine ⟨?_,oO,oO⟩
 rw [show l.length-r.length=t+A.length by omega,<- Kv,h,List.drop_left]
end
section
structure QX (l:l8_) (a:Nat) (x:l8_):Prop where
 le:a<=l.length
 at_:E7 false (l.drop a)=x
 len:x.length<=l.length-a
theorem QX.of {l:l8_} {a:Nat} {x:l8_} (ha:a<=l.length) (h:E7 false (l.drop a)=x):QX l a x :=
 ⟨ha,h,by have:=H6 (l.drop a) false;rw [h,B9] at this;exact this⟩
theorem QX.skip {l:l8_} {a:Nat} {x:l8_} (h:QX l a x):AY false l a=l.length-x.length/\l.drop (AY false l a)=x:=Ur h.at_
theorem Xm  {l r x:l8_} (ht:t<=l.length) (h:l.drop t=A++r) (hx:E7 false r=x):QX l (l.length-r.length) x:=by
 obtain ⟨a,b,-⟩:=Tw ht h
 exact .of b (by rw [a,hx])
theorem KO (r:l8_):E7 false (10::r)=E7 false r:=by simp [E7,EF]
def Hd (x:l8_):Prop:=E7 false x=x
theorem Hd.cons {c:UInt8} {r:l8_} (h:EF c=false) (h37:c≠37):Hd (c::r):=Lo h h37
theorem Hd.app  {r:l8_} (h:∃ c q,A=c::q/\EF c=false/\c≠37):Hd (A++r):=by
 obtain ⟨c,q,rfl,a,b⟩:=h
 exact .cons a b
theorem Ue (r:l8_):Vh (32::r):=.cons dD
theorem Qg (r:l8_):Vh (10::r):=.cons dD
theorem A97 (r:l8_):Vh (93::r):=.cons dD
theorem Z5 {l:l8_} {a:Nat} {rest:l8_} (h:QX l a (A++rest)) (hA:∀ x∈A,E1 x=true) (h0:A≠[]) (hr:Vh rest) :
  ∃ W,W=Fm false l (AY false l a)/\Ec l (AY false l a)=A/\C0 l (AY false l a)=l.length-rest.length /\
   GH l (a:Int)=(K8 W.kind W.n [],if W.ok then [] else W.word,(W.np:Int),0):=by
 obtain ⟨j,b⟩:=h.skip
 have d:=FU false l a
 obtain ⟨f,g,k⟩:=Uk d b hA hr
 refine ⟨_,rfl,f,g,?_⟩
 cases A with
 | nil=>exact D6 rfl h0
 | cons c q =>
  obtain ⟨i,e,-⟩:=Kl (show l.drop (AY false l a)=c::(q++rest) from b)
  have hc:l[AY false l a]=c:=by
   have:=i
   rw [A6 e] at this
   exact Ei this
  unfold GH
  rw [A2 (by have:=h.le;omega)]
  simp only [Int.toNat_natCast]
  rw [dif_pos e,hc,A7 (hA c (by simp))]
theorem A2F (l s:l8_) (t:Nat):Mk false l s t=none:=by unfold Mk;simp
theorem Rt (l:l8_) (t:Nat) (k n:Int) (s:l8_) (hs:Ec l t=s) (hh:∃ c r,s=c::r/\(C4 c=true\/c=45\/c=43)) (hn:M4 s=(k,n,true)):Fm false l t=⟨k,n,s,true,C0 l t⟩:=by
 obtain ⟨c,r,e,hc⟩:=hh
 have hq:=Mo hc
 unfold Fm
 rw [hs,A2 (by rw [e];intro h;exact hq.2.2.2.2.2.1 (List.cons.inj h).1),A2 (by rw [e];intro h;exact hq.2.2.2.2.2.2.1 (List.cons.inj h).1),A2 (by rw [e];intro h;exact hq.2.2.2.2.2.2.2 (List.cons.inj h).1),A2F,hn]
 simp
theorem Z6 {l:l8_} {a:Nat} {rest:l8_} {k n:Int} (h:QX l a (A++rest)) (hA:∀ x∈A,E1 x=true) (hh:∃ c r,A=c::r/\(C4 c=true\/c=45\/c=43)) (hr:Vh rest) (hn:M4 A=(k,n,true)) :
  GH l (a:Int)=(K8 k n [],[],((l.length-rest.length:Nat):Int),0):=by
 obtain ⟨c,r,e,hc⟩:=hh
 obtain ⟨W,hW,b,d,ht⟩:=Z5 h hA (by rw [e];simp) hr
 rw [ht,hW,Rt l _ k n A b ⟨c,r,e,hc⟩ hn,d];rfl
theorem A23 {l:l8_} {a:Nat} {rest:l8_} (h:QX l a (A++rest)) (hA:∀ x∈A,E1 x=true) (h0:A≠[]) (hr:Vh rest) (hn:(M4 A).2.2=false) (h1:A≠[110,117,108,108]) (h2:A≠[116,114,117,101]) (h3:A≠[102,97,108,115,101]) :
  GH l (a:Int)=(K8 0 0 [],A,((l.length-rest.length:Nat):Int),0):=by
 obtain ⟨W,hW,b,c,ht⟩:=Z5 h hA h0 hr
 have:W=⟨0,0,A,false,l.length-rest.length⟩:=by
  rw [hW]
  unfold Fm
  rw [b,A2 h1,A2 h2,A2 h3,A2F,hn,c]
  simp
 rw [ht,this];rfl
theorem Uq {l:l8_} {a:Nat} {c:UInt8} {r:l8_} {o:PV} {t':Nat} (h:QX l a (c::r)) (hc:E1 c=false) (ho:FW false l 32 (AY false l a)=.ok (o,t')):GH l (a:Int)=(o,[],(t':Int),0):=by
 obtain ⟨g,e⟩:=h.skip
 obtain ⟨f,b,-⟩:=Kl e
 have d:l[AY false l a]=c:=by
  have:=f
  rw [A6 b] at this
  exact Ei this
 unfold GH
 rw [A2 (by have:=h.le;omega)]
 simp only [Int.toNat_natCast]
 rw [dif_pos b,d,hc,ho];rfl
theorem A4X {l:l8_} {a:Nat} (h:QX l a []):GH l (a:Int)=(K8 0 0 [],[],0,26):=by
 obtain ⟨b,-⟩:=h.skip
 unfold GH
 rw [A2 (by have:=h.le;omega)]
 simp only [Int.toNat_natCast]
 rw [dif_neg (by rw [b];simp)]
theorem A22 {l:l8_} {a:Nat} {rest:l8_} (h:QX l a (Qm s++rest)) (hs:s.length<=65535):GH l (a:Int)=(K8 5 0 s,[],((l.length-rest.length:Nat):Int),0):=by
 obtain ⟨f,b⟩:=h.skip
 have d:=FU false l a
 refine Uq (c:=40) (r:=(s.flatMap Xr++[41])++rest) (by have h':=h;unfold Qm at h';exact h') dD ?_
 obtain ⟨e,-,-⟩:=Kl (show l.drop (AY false l a)=40::((s.flatMap Xr++[41])++rest) from b)
 have:=Oz false l (32:Int) (AY false l a) 40 e
 rw [A2 dD,A2 dD,A7 rfl] at this
 rw [show (32:Nat)=(32:Int).toNat from rfl,this]
 unfold J1
 rw [A2g d b hs]
theorem A24 {l:l8_} {a:Nat} {rest:l8_} (h:QX l a (47::(s.flatMap Yl++rest))) (hs:A10 s) (hr:Vh rest):GH l (a:Int)=(K8 4 0 s,[],((l.length-rest.length:Nat):Int),0):=by
 obtain ⟨f,b⟩:=h.skip
 refine Uq (c:=47) (r:=s.flatMap Yl++rest) h dD ?_
 obtain ⟨d,g,e⟩:=Kl b
 have:=Oz false l (32:Int) (AY false l a) 47 d
 rw [A7 rfl] at this
 rw [show (32:Nat)=(32:Int).toNat from rfl,this]
 unfold LT
 rw [A3c oO e hs hr]
theorem PU (n:Int) (h:n.natAbs % 65536=0):DC n=E9 (n / 65536):=by
 unfold DC
 rw [A7 ((Ph n).2 h),Bv]
 unfold Mh ID E9
 by_cases hn:n<0
 · rw [A7 hn,A7 oO,show (n / 65536).natAbs=n.natAbs / 65536 by omega];rfl
 · rw [A2 hn,A2 oO,show (n / 65536).natAbs=n.natAbs / 65536 by omega];rfl
theorem Ya (n:Int) (h:n.natAbs % 65536≠0):DC n=Oj n:=by
 have a:LR n≠[]:=λe=>h ((Ph n).1 e)
 unfold DC Oj
 rw [A2 a,A2 a]
def G7 (n:Int):PV:=if n.natAbs % 65536=0 then K8 2 (n / 65536) [] else K8 3 n []
theorem A7u (m:Int):EE (K8 2 m [])=((IA m).1,decide ((IA m).2=0)):=by unfold EE;rw [A2 (by simp [K8,ND]),A7 (by simp [K8,ND])];rfl
theorem A7t (m:Int):EE (K8 3 m [])=(m,Am m):=by simp [EE,K8,ND,Xs]
theorem OA {n:Int} (h:Am n=true):EE (G7 n)=(n,true):=by
 obtain ⟨a,b⟩:=N3 h
 unfold G7
 split
 ·
  rw [A7u]
  unfold IA
  rw [A2 oO]
  simp only [CR,decide_true,and_true]
  omega
 · rw [A7t,h]
theorem J6 {n:Int} (h:Am n=true):(∀ x∈DC n,E1 x=true)/\(∃ c r,DC n=c::r/\(C4 c=true\/c=45\/c=43))/\∃ k m,M4 (DC n)=(k,m,true)/\K8 k m []=G7 n:=by
  obtain ⟨e,f⟩:=N3 h
  by_cases hn:n.natAbs % 65536=0
  · have hf : Am (n / 65536) = true := by simp [Am]; omega
    rw [PU n hn]
    exact ⟨ZH _ hf,OS _ hf,2,n / 65536,Wn _ hf,by unfold G7;rw [A7 hn]⟩
  · rw [Ya n hn]
    obtain ⟨a,b,d⟩:=Y3 n h
    exact ⟨d,A0G n h,3,n,by unfold M4;rw [b,a];rfl,by unfold G7;rw [A2 hn]⟩
theorem Rs {n:Int} (h:Am n=true) (r:l8_):Hd (DC n++r):=by
 obtain ⟨-,⟨c,q,e,hc⟩,-⟩:=J6 h
 have:=UW (Mo hc).1
 exact .app ⟨c,q,e,this.1,this.2.1⟩
theorem A0d {l:l8_} {a:Nat} {n:Int} {rest:l8_} (h:QX l a (DC n++rest)) (hf:Am n=true) (hr:Vh rest):GH l (a:Int)=(G7 n,[],((l.length-rest.length:Nat):Int),0):=by
 obtain ⟨b,c,k,m,d,e⟩:=J6 hf
 rw [Z6 h b c hr d,e]
theorem Z7 {l:l8_} {a:Nat} {n:Int} {rest:l8_} (h:QX l a (E9 n++rest)) (hf:Am n=true) (hr:Vh rest):GH l (a:Int)=(K8 2 n [],[],((l.length-rest.length:Nat):Int),0) :=
 Z6 h (ZH n hf) (OS n hf) hr (Wn n hf)
theorem A7P {n:Int} (h:Am n=true) (r:l8_):Hd (E9 n++r):=by
 obtain ⟨c,q,e,hc⟩:=OS n h
 have:=UW (Mo hc).1
 exact .app ⟨c,q,e,this.1,this.2.1⟩
def EB:List Int->l8_
 | []=>[]
 | n::r=>32::(DC n++EB r)
theorem A0X {l:l8_} {n:Int} {rest:l8_} (ht:t<=l.length) (h:l.drop t=DC n++rest) (hf:Am n=true) (hr:Vh rest):FW false l d t=.ok (G7 n,l.length-rest.length):=by
 obtain ⟨a,⟨c,r,e,hc⟩,k,m,b,f⟩:=J6 hf
 obtain ⟨g,i,-⟩:=Uk ht h a hr
 have hq:=Mo hc
 have j:=(Kl (show l.drop t=c::(r++rest) by rw [h,e];rfl)).1
 have:=Oz false l (d:Int) t c j
 rw [Int.toNat_natCast,A2 hq.2.1,A2 hq.2.2.1,A2 hq.2.2.2.1,A2 hq.2.2.2.2.1] at this
 rw [this]
 rw [Rt l t k m _ g ⟨c,r,e,hc⟩ b,i]
 simp [Jn,f]
theorem A4c (r:List Int) (x:l8_):Vh (EB r++93::x):=by
 cases r with
 | nil=>exact A97 _
 | cons n r=>exact Ue _
theorem RX (l:l8_) (d:Nat) (rest:l8_):∀ (r:List Int) (acc:List PV) (t f:Nat),(∀ n∈r,Am n=true)->t<=l.length->E7 false (l.drop t)=(EB r).drop 1++93::rest->r.length<f->acc.length+r.length<=65535 ->
  Ii (FW false l d) l f acc t=.ok (acc++r.map G7,l.length-rest.length)
 | [],acc,t,f,_,ht,h,hf,_=>by
  obtain ⟨f,rfl⟩:∃ g,f=g+1:=⟨f-1,oO⟩
  obtain ⟨e1,e2⟩:=Ur h
  obtain ⟨g1,g2,g3⟩:=Kl (show l.drop (AY false l t)=93::rest from e2)
  unfold Ii
  rw [g1]
  have h3:=Bk List.length g3
  rw [B9] at h3
  simp only [if_true,Da,Bv]
  rw [show AY false l t+1=l.length-rest.length by omega]
 | n::r,acc,t,f,hr,ht,h,hf,hl=>by
  obtain ⟨f,rfl⟩:∃ g,f=g+1:=⟨f-1,by simp at hf;omega⟩
  have hn:=hr n (by simp)
  have h':E7 false (l.drop t)=DC n++(EB r++93::rest):=by rw [h];simp [EB]
  obtain ⟨e1,e2⟩:=Ur h'
  have a:=FU false l t
  obtain ⟨-,⟨c,q,ec,hc⟩,-⟩:=J6 hn
  have hq:=Mo hc
  have hh:=UW hq.1
  obtain ⟨g1,g2,-⟩:=Kl (show l.drop (AY false l t)=c::(q++(EB r++93::rest)) by rw [e2,ec];rfl)
  have ho:=A0X (d:=d) a e2 hn (A4c r rest)
  obtain ⟨b,e,i⟩:=Tw a e2
  have ih:=RX l d rest r (acc++[G7 n]) (l.length-(EB r++93::rest).length) f (λm hm=>hr m (by simp [hm])) e (by
   rw [b]
   cases r with
   | nil=>exact Lo dD dD
   | cons m r =>
    show E7 false (32::(DC m++EB r++93::rest))=_
    rw [J3,AB]
    have:=Rs (hr m (by simp)) (EB r++93::rest)
    unfold Hd at this
    rw [this];simp [EB]) (by simp only [A8] at hf;omega) (by simp only [A9,A8,Ag] at hl ⊢;omega)
  unfold Ii
  rw [g1]
  simp only
  rw [A2 hh.2.2.1,ho]
  simp only
  rw [A2 (by simp only [A8] at hl;omega),ih]
  simp
theorem U9:∀ r:List Int,r.length<=(EB r).length
 | []=>FQ _
 | n::r=>by have:=U9 r;simp only [EB,A8,A9];omega
theorem A25 {l:l8_} {a:Nat} {r:List Int} {rest:l8_} (h:QX l a (91::((EB r).drop 1++93::rest))) (hr:∀ n∈r,Am n=true) (hl:r.length<=65535):GH l (a:Int)=(.mk 6 0 [] [] (r.map G7),[],((l.length-rest.length:Nat):Int),0):=by
 obtain ⟨g,d⟩:=h.skip
 refine Uq h dD ?_
 obtain ⟨e,i,c⟩:=Kl d
 have:=Oz false l (32:Int) (AY false l a) 91 e
 rw [A2 dD,A7 rfl,A2 dD] at this
 rw [show (32:Nat)=(32:Int).toNat from rfl,this]
 have b:=Bk List.length c
 have f:=U9 r
 simp only [B9,A9,A8] at b
 rw [RX l ((32:Int)-1).toNat rest r [] _ _ hr oO (by
  rw [c]
  cases r with
  | nil=>exact Lo dD dD
  | cons n r =>
   rw [show (EB (n::r)).drop 1++93::rest=DC n++(EB r++93::rest) by simp [EB]]
   exact Rs (hr n (by simp)) _) oO (by simpa using hl)]
 rfl
end
section
section
variable {sum:Int->l8_->Int} {fs:List LO} {l:l8_}
def E2 (sum:Int->l8_->Int) (fs:List LO) (l:l8_) (v:Vw) (args:List PV) (x:l8_) (v':Vw) (args':List PV) (y:l8_):Prop :=
 ∀ (a f:Nat),QX l a x->x.length<f->∃ (a' f':Nat),QX l a' y/\y.length<f'/\Jm sum fs l f (a:Int) v args=Jm sum fs l f' (a':Int) v' args'
def Bad (sum:Int->l8_->Int) (fs:List LO) (l:l8_) (v:Vw) (args:List PV) (x:l8_):Prop :=
 ∀ (a f:Nat),QX l a x->x.length<f->∃ k:Int,k≠0/\Jm sum fs l f (a:Int) v args=.error k
theorem E2.refl (v:Vw) (args:List PV) (x:l8_):E2 sum fs l v args x v args x:=λa f h hf=>⟨a,f,h,hf,rfl⟩
theorem E2.trans {v v1 v2:Vw} {a a1 a2:List PV} {x x1 x2:l8_} (h:E2 sum fs l v a x v1 a1 x1) (h2:E2 sum fs l v1 a1 x1 v2 a2 x2):E2 sum fs l v a x v2 a2 x2:=λp f hp hf=>by
 obtain ⟨p1,f1,h1,h3,h4⟩:=h p f hp hf
 obtain ⟨p2,f2,h5,h6,h7⟩:=h2 p1 f1 h1 h3
 exact ⟨p2,f2,h5,h6,h4.trans h7⟩
theorem E2.bad {v v1:Vw} {a a1:List PV} {x x1:l8_} (h:E2 sum fs l v a x v1 a1 x1) (h2:Bad sum fs l v1 a1 x1):Bad sum fs l v a x:=λp f hp hf=>by
 obtain ⟨p1,f1,h1,h3,h4⟩:=h p f hp hf
 obtain ⟨k,h5,h6⟩:=h2 p1 f1 h1 h3
 exact ⟨k,h5,h4.trans h6⟩
theorem PD {v:Vw} {args:List PV} {r y:l8_} {o:PV} (ht:∀ a:Nat,QX l a (A++r)->GH l (a:Int)=(o,[],((l.length-r.length:Nat):Int),0)) (hA:A≠[]) (hy:E7 false r=y) (hn:args.length<32) :
  E2 sum fs l v args (A++r) v (args++[o]) y:=λa f hp hf=>by
 obtain ⟨f,rfl⟩:∃ g,f=g+1:=⟨f-1,oO⟩
 have hq:=Xm (FU false l a) hp.skip.2 hy
 have hl:=H6 r false
 rw [hy] at hl
 have hA1:0<A.length:=List.length_pos_iff.2 hA
 rw [A9] at hf
 refine ⟨_,f,hq,oO,?_⟩
 conv=>lhs;unfold Jm
 rw [ht a hp]
 simp only
 rw [A2 dD,A2 dD,A7 BO]
 unfold HG
 rw [A7 (Al oO)]
 rfl
def Ks (A:l8_):Prop:=(∀ x∈A,E1 x=true)/\A≠[]/\(M4 A).2.2=false/\A≠[110,117,108,108]/\A≠[116,114,117,101]/\A≠[102,97,108,115,101]
theorem Ks.hd  (h:Ks A) (r:l8_):Hd (A++r):=by
 cases hA:A with
 | nil=>exact D6 hA h.2.1
 | cons c q =>
  have hc:=h.1 c (by rw [hA];simp)
  unfold E1 at hc
  simp only [A4,AP] at hc
  exact .cons hc.1 (λe=>by rw [e] at hc;exact D6 hc.2 dD)
theorem Sb {v v':Vw} {args:List PV} {r y:l8_} (hA:Ks A) (hr:Vh r) (hy:E7 false r=y) (ho:KK sum fs v args A=.ok v'):E2 sum fs l v args (A++r) v' [] y:=λa f hp hf=>by
 obtain ⟨h1,h2,h3,h4,h5,h6⟩:=hA
 obtain ⟨f,rfl⟩:∃ g,f=g+1:=⟨f-1,oO⟩
 have hq:=Xm (FU false l a) hp.skip.2 hy
 have hl:=H6 r false
 rw [hy] at hl
 have hA1:0<A.length:=List.length_pos_iff.2 h2
 rw [A9] at hf
 refine ⟨_,f,hq,oO,?_⟩
 conv=>lhs;unfold Jm
 rw [A23 hp h1 h2 hr h3 h4 h5 h6]
 simp only
 rw [A2 dD,A2 dD,A2 h2,ho]
 rfl
theorem A4i {v:Vw} {args:List PV} {r:l8_} {k:Int} (hA:Ks A) (hr:Vh r) (ho:KK sum fs v args A=.error k) (hk:k≠0):Bad sum fs l v args (A++r):=λa f hp hf=>by
 obtain ⟨h1,h2,h3,h4,h5,h6⟩:=hA
 obtain ⟨f,rfl⟩:∃ g,f=g+1:=⟨f-1,oO⟩
 refine ⟨k,hk,?_⟩
 conv=>lhs;unfold Jm
 rw [A23 hp h1 h2 hr h3 h4 h5 h6]
 simp only
 rw [A2 dD,A2 dD,A2 h2,ho]
 rfl
theorem A7B {v:Vw} {a f:Nat} (h:QX l a []) (hf:0<f) (hs:v.saved=[]) (hi:v.inText=false):Jm sum fs l f (a:Int) v []=.ok v:=by
 obtain ⟨f,rfl⟩:∃ g,f=g+1:=⟨f-1,oO⟩
 unfold Jm
 rw [A4X h]
 simp only
 rw [A7 BO,hs,hi]
 rfl
def F3 (ns:List Int):l8_:=ns.flatMap λn=>DC n++[32]
theorem RF (n:Int) (ns:List Int) (y:l8_):F3 (n::ns)++y=DC n++32::(F3 ns++y):=by simp [F3]
theorem RE (ns:List Int) (hf:∀ n∈ns,Am n=true) {y:l8_} (hy:Hd y):Hd (F3 ns++y):=by
 cases ns with
 | nil=>exact hy
 | cons n ns=>rw [RF];exact Rs (hf n (by simp)) _
theorem QN {v:Vw}:∀ (ns:List Int) (args:List PV) {y:l8_},(∀ n∈ns,Am n=true)->Hd y->args.length+ns.length<=32->E2 sum fs l v args (F3 ns++y) v (args++ns.map G7) y
 | [],args,y,_,_,_=>by simpa [F3] using E2.refl v args y
 | n::ns,args,y,hf,hy,hn=>by
  have hf':∀ m∈ns,Am m=true:=λm hm=>hf m (by simp [hm])
  have hp:=J6 (hf n (by simp))
  rw [RF]
  rw [A8] at hn
  have h1:E2 sum fs l v args (DC n++32::(F3 ns++y)) v (args++[G7 n]) (F3 ns++y) :=
   PD (λa h=>A0d h (hf n (by simp)) (Ue _)) (by obtain ⟨-,⟨c,q,e,-⟩,-⟩:=hp;rw [e];simp) (by rw [J3];exact RE ns hf' hy) oO
  have h2:=QN (v:=v) ns (args++[G7 n]) hf' hy oF
  rw [AB] at h2
  exact h1.trans h2
theorem KX (ns:List Int) (hf:∀ n∈ns,Am n=true):Dt (ns.map G7) ns.length=.ok ns:=by
 unfold Dt
 rw [A7 ⟨B0 ..,At.2 λo ho=>by
  obtain ⟨n,hn,rfl⟩:=FR.1 ho
  rw [OA (hf n hn)]⟩,List.map_map]
 congr 1
 conv=>rhs;rw [<- List.map_id ns]
 refine List.map_congr_left λn hn=>?_
 show (EE (G7 n)).1=n
 rw [OA (hf n hn)]
def CX (ns:List Int) (A:l8_):l8_:=F3 ns++(A++[10])
theorem Lz {v v':Vw} {y:l8_} (hf:∀ n∈ns,Am n=true) (hn:ns.length<=32) (hA:Ks A) (hy:Hd y) (ho:KK sum fs v (ns.map G7) A=.ok v'):E2 sum fs l v [] (CX ns A++y) v' [] y:=by
 have a:=QN (sum:=sum) (fs:=fs) (l:=l) (v:=v) ns [] (y:=A++10::y) hf (hA.hd _) (by simpa using hn)
 rw [show CX ns A++y=F3 ns++(A++10::y) by simp [CX]]
 exact a.trans (Sb hA (Qg _) (by rw [KO];exact hy) ho)
theorem A4j {v:Vw} {y:l8_} {k:Int} (hf:∀ n∈ns,Am n=true) (hn:ns.length<=32) (hA:Ks A) (ho:KK sum fs v (ns.map G7) A=.error k) (hk:k≠0):Bad sum fs l v [] (CX ns A++y):=by
 have a:=QN (sum:=sum) (fs:=fs) (l:=l) (v:=v) ns [] (y:=A++10::y) hf (hA.hd _) (by simpa using hn)
 rw [show CX ns A++y=F3 ns++(A++10::y) by simp [CX]]
 exact a.bad (A4i hA (Qg _) ho hk)
theorem OD  (hf:∀ n∈ns,Am n=true) (hA:Ks A) (y:l8_):Hd (CX ns A++y):=by
 rw [show CX ns A++y=F3 ns++(A++10::y) by simp [CX]]
 exact RE ns hf (hA.hd _)
end
def GC (dx dy:Int) (p:BH):BH:=⟨p.fX+dx,p.fY+dy⟩
theorem A0R (n:Int):Ov (n * 65536) 65536=n:=by
 unfold Ov
 rw [Int.mul_tmod_left,Int.mul_tdiv_cancel n dD]
 simp
theorem mul_one {n:Int} (h:Am n=true):FN n 65536=(n,0)/\FN 65536 n=(n,0):=by
 have a:Am 65536=true:=by decide
 unfold FN
 rw [h,a,Int.mul_comm 65536 n,A0R]
 unfold Mb
 rw [h]
 exact ⟨rfl,rfl⟩
theorem mul_zero {n:Int} (h:Am n=true):FN n 0=(0,0)/\FN 0 n=(0,0):=by
 have a:Am 0=true:=by decide
 unfold FN
 rw [h,a,Int.mul_zero,Int.zero_mul]
 decide
theorem add_zero {n:Int} (h:Am n=true):LI 0 n=(n,0)/\LI n 0=(n,0):=by
 have a:Am 0=true:=by decide
 unfold LI
 rw [h,a,Int.zero_add,Int.add_zero]
 unfold Mb
 rw [h]
 exact ⟨rfl,rfl⟩
theorem Xg {a b:Int} (ha:Am a=true) (hb:Am b=true):LI a b=if Am (a+b)=true then (a+b,0) else (0,18):=by
 unfold LI
 rw [ha,hb];rfl
theorem FS:Am 0=true:=by decide
theorem Oy:Am 65536=true:=by decide
theorem A6u  {x y:Int} (hx:Am x=true) (hy:Am y=true) (hd:Am dx=true):Kz 0 65536 x 0 y [dx]=if Am (x+dx)=true then (x+dx,0) else (0,18):=by
 unfold Kz
 rw [(mul_one hx).2,(mul_zero hy).2]
 simp only [KN]
 rw [(add_zero hx).1]
 simp only
 rw [A7 BO,(add_zero hx).2]
 simp only
 rw [A7 BO,Xg hx hd]
 split <;> simp [EV,KN]
theorem Vu  {x y e:Int} (hx:Am x=true) (hy:Am y=true) (hd:Am dy=true):Kz e 0 x 65536 y [dy]=if Am (y+dy)=true then (y+dy,e) else (0,EV e 18):=by
 unfold Kz
 rw [(mul_zero hx).2,(mul_one hy).2]
 simp only [KN]
 rw [(add_zero FS).1]
 simp only
 rw [A7 BO,(add_zero hy).1]
 simp only
 rw [A7 BO,Xg hy hd]
 split <;> simp [EV] <;> split <;> simp_all
theorem A7y  {x y:Int} (hdx:Am dx=true) (hdy:Am dy=true) (hx:Am x=true) (hy:Am y=true):NO (It dx dy) x y=if BP (GC dx dy ⟨x,y⟩)=true then .ok (GC dx dy ⟨x,y⟩) else .error 22:=by
 unfold NO Gk It
 simp only
 rw [A6u hx hy hdx]
 unfold BP GC
 simp only
 by_cases h1:Am (x+dx)=true
 ·
  rw [A7 h1]
  simp only
  rw [Vu hx hy hdy,h1]
  by_cases h2:Am (y+dy)=true
  · rw [A7 h2,h2];simp [IL]
  ·
   rw [A2 h2]
   have a:Am (y+dy)=false:=by simpa using h2
   rw [a];simp [IL,EV]
 ·
  rw [A2 h1]
  have b:Am (x+dx)=false:=by simpa using h1
  simp only
  rw [Vu hx hy hdy,b]
  split <;> simp [IL,EV]
end
section
def FK (ps:List BH):List Int:=ps.flatMap λp=>[p.fX,p.fY]
theorem UT {dx dy:Int} (hdx:Am dx=true) (hdy:Am dy=true):∀ ps:List BH,(∀ p∈ps,BP p=true)->Dx (It dx dy) (FK ps)=if (ps.all λp=>BP (GC dx dy p))=true then .ok (ps.map (GC dx dy)) else .error 22
 | [],_=>rfl
 | p::ps,h=>by
  have hp:=h p (by simp)
  unfold BP at hp
  rw [A4] at hp
  have ih:=UT hdx hdy ps λq hq=>h q (by simp [hq])
  show Dx (It dx dy) (p.fX::p.fY::FK ps)=_
  unfold Dx
  rw [A7y hdx hdy hp.1 hp.2,ih]
  show _=if ((BP (GC dx dy p)) && ps.all λp=>BP (GC dx dy p))=true then _ else _
  generalize BP (GC dx dy p)=b1
  generalize (ps.all λp=>BP (GC dx dy p))=b2
  cases b1 <;> cases b2 <;> rfl
def Ez (s:Cm):List BH:=if s.fKind=1\/s.fKind=2 then [s.fP_0] else if s.fKind=3 then [s.fP_0,s.fP_1,s.fP_2] else []
def GT (s:Cm):l8_:=if s.fKind=1 then [109] else if s.fKind=2 then [108] else if s.fKind=3 then [99] else [104]
def Np (dx dy:Int) (s:Cm):Cm:=if s.fKind=1\/s.fKind=2 then { s with fP_0:=GC dx dy s.fP_0 } else if s.fKind=3 then ⟨s.fKind,GC dx dy s.fP_0,GC dx dy s.fP_1,GC dx dy s.fP_2⟩ else s
def Pr (dx dy:Int) (s:Cm):Bool:=(Ez s).all λp=>BP (GC dx dy p)
theorem RP (dx dy:Int) (s:Cm):(Np dx dy s).fKind=s.fKind:=by unfold Np;split;rfl;split <;> rfl
theorem S4 (l:List Cm) (s:Cm):HL (l++[s])=s.fKind:=by simp [HL]
theorem A9F:Ks [109]:=⟨dD,dD,by decide +kernel,dD,dD,dD⟩
theorem A9G:Ks [108]:=⟨dD,dD,by decide +kernel,dD,dD,dD⟩
theorem A9L:Ks [99]:=⟨dD,dD,by decide +kernel,dD,dD,dD⟩
theorem A9J:Ks [104]:=⟨dD,dD,by decide +kernel,dD,dD,dD⟩
theorem Od (s:Cm):Ks (GT s):=by
 unfold GT
 split
 · exact A9F
 ·
  split
  · exact A9G
  ·
   split
   · exact A9L
   · exact A9J
theorem QZ {p:BH} (h:Hu p=true):p=FH:=by
 unfold Hu at h
 simp only [A4,Ad] at h
 cases p
 simp only at h
 unfold FH
 rw [h.1,h.2]
structure Te (s:Cm) (last:Int):Prop where
 kind:s.fKind=1\/s.fKind=2\/s.fKind=3\/s.fKind=4
 fol:if s.fKind=1 then last≠1 else last≠0/\last≠4
 f0:BP s.fP_0=true
 f1:BP s.fP_1=true
 f2:BP s.fP_2=true
 z12:s.fKind≠3->s.fP_1=FH/\s.fP_2=FH
 z0:s.fKind=4->s.fP_0=FH
theorem A0u {s:Cm} (h:HV s last=true):Te s last:=by
 unfold HV at h
 simp only [A4,Ad] at h
 obtain ⟨⟨⟨c,b⟩,d⟩,a⟩:=h
 have hk:s.fKind=1\/s.fKind=2\/s.fKind=3\/s.fKind=4:=by
  unfold Hn at c
  split at c
  · omega
  ·
   split at c
   · omega
   · split at c <;> omega
 simp only [B8,List.all_nil,A4,Bool.and_true] at d
 refine ⟨hk,?_,d.1,d.2.1,d.2.2,λhn=>?_,λhn=>?_⟩
 ·
  unfold ON at b
  split
  · rename_i h;rw [A7 h] at b;exact dT b
  · rename_i h;rw [A2 h,A4] at b;exact ⟨dT b.1,dT b.2⟩
 ·
  have:([s.fP_1,s.fP_2]:List BH).all Hu=true:=by
   rcases hk with hk | hk | hk | hk
   · rw [hk] at a;exact a
   · rw [hk] at a;exact a
   · exact D6 hk hn
   ·
    rw [hk] at a
    have a:([s.fP_0,s.fP_1,s.fP_2]:List BH).all Hu=true:=a
    rw [B8,A4] at a;exact a.2
  simp only [B8,List.all_nil,A4,Bool.and_true] at this
  exact ⟨QZ this.1,QZ this.2⟩
 ·
  rw [hn] at a
  have a:([s.fP_0,s.fP_1,s.fP_2]:List BH).all Hu=true:=a
  rw [B8,A4] at a
  exact QZ a.1
section
variable {sum:Int->l8_->Int} {fs:List LO} {l:l8_} {dx dy:Int}
theorem Iv  (a:α) (f:α->Except Int β):((Except.ok a:Except Int α)>>=f)=f a:=rfl
theorem JV {v:Vw} {args:List PV} (hi:v.inText=false) (hA:A=[109]\/A=[108]\/A=[99]\/A=[104]):KK sum fs v args A=FY v args A:=by
  unfold KK
  rcases hA with rfl | rfl | rfl | rfl <;>
  · rw [A2 dD, A2 dD, A2 dD, A2 dD, hi]
    rw [show CS (!false)=Except.ok () from rfl]
    rw [Iv,A2 dD,A7 dD]
theorem N1 {ps:List BH} (h:∀ p∈ps,BP p=true):∀ n∈FK ps,Am n=true:=λn hn=>by
 obtain ⟨p,hp,hn⟩:=List.mem_flatMap.1 hn
 have:=h p hp
 unfold BP at this
 rw [A4] at this
 simp only [Ax,AK,Cl] at hn
 rcases hn with rfl | rfl
 · exact this.1
 · exact this.2
theorem A5J {ps:List BH} (hdx:Am dx=true) (hdy:Am dy=true) (hf:∀ p∈ps,BP p=true) (h:(ps.all λp=>BP (GC dx dy p))=true):Dx (It dx dy) (FK ps)=.ok (ps.map (GC dx dy)):=by
 rw [UT hdx hdy ps hf,A7 h]
theorem A5K {ps:List BH} (hdx:Am dx=true) (hdy:Am dy=true) (hf:∀ p∈ps,BP p=true) (h:(ps.all λp=>BP (GC dx dy p))=false):Dx (It dx dy) (FK ps)=.error 22:=by
 rw [UT hdx hdy ps hf,A2 (by rw [h];exact Bool.false_ne_true)]
theorem A2v {v:Vw} {s:Cm} (hdx:Am dx=true) (hdy:Am dy=true) (hi:v.inText=false) (hm:v.s.ctm=It dx dy) (hs:Te s (HL v.path.list)) (hl:v.path.list.length+1<=4096) (ho:Pr dx dy s=true) :
    ∃ p,p.list=v.path.list++[Np dx dy s]/\KK sum fs v ((FK (Ez s)).map G7) (GT s)=.ok (KB v p):=by
  have i:∀ p∈Ez s,BP p=true:=by
    unfold Ez
    split
    · intro p hp;rw [Ao.1 hp];exact hs.f0
    · split
      · intro p hp
        simp only [Ax,AK,Cl] at hp
        rcases hp with rfl | rfl | rfl
        · exact hs.f0
        · exact hs.f1
        · exact hs.f2
      · intro p hp;cases hp
  have c:=KX (FK (Ez s)) (N1 i)
  have e:=A5J hdx hdy i ho
  obtain ⟨k,a,f,d⟩:=s
  obtain ⟨hk,b,-,-,-,hz,j⟩:=hs
  simp only at hk b hz j
  unfold Pr at ho
  rcases hk with rfl | rfl | rfl | rfl
  · have g : BP (GC dx dy a) = true := by simpa [Ez] using ho
    obtain ⟨rfl,rfl⟩:=hz dD
    rw [A7 rfl] at b
    refine ⟨⟨v.path.list++[GI 1 (GC dx dy a)],GC dx dy a,GC dx dy a⟩,rfl,?_⟩
    rw [show GT ⟨1,a,FH,FH⟩=[109] from rfl,JV hi (.inl rfl)]
    unfold FY
    rw [A7 rfl,hm]
    rw [show Ez ⟨1,a,FH,FH⟩=[a] from rfl] at c e ⊢
    rw [show (2:Nat)=(FK [a]).length from rfl,c]
    show (Dx _ _>>=_)=_
    rw [e]
    show (Dg (GV 4096 v.path (GC dx dy a))>>=_)=_
    have hp:GV 4096 v.path (GC dx dy a)=(⟨v.path.list++[GI 1 (GC dx dy a)],GC dx dy a,GC dx dy a⟩,0):=by
      unfold GV
      have hq:Gt 4096 v.path (GC dx dy a) [GI 1 (GC dx dy a)]=(⟨v.path.list++[GI 1 (GC dx dy a)],v.path.start,GC dx dy a⟩,0):=by
        unfold Gt
        rw [A2 oE]
      rw [g,A2 dD,A2 b,hq]
      rfl
    rw [hp];rfl
  · have g : BP (GC dx dy a) = true := by simpa [Ez] using ho
    obtain ⟨rfl,rfl⟩:=hz dD
    rw [A2 dD] at b
    refine ⟨⟨v.path.list++[GI 2 (GC dx dy a)],v.path.start,GC dx dy a⟩,rfl,?_⟩
    rw [show GT ⟨2,a,FH,FH⟩=[108] from rfl,JV hi (.inr (.inl rfl))]
    unfold FY
    rw [A2 dD,A7 rfl,hm]
    rw [show Ez ⟨2,a,FH,FH⟩=[a] from rfl] at c e ⊢
    rw [show (2:Nat)=(FK [a]).length from rfl,c]
    show (Dx _ _>>=_)=_
    rw [e]
    show (Dg (Fu 4096 v.path (GC dx dy a))>>=_)=_
    have hp:Fu 4096 v.path (GC dx dy a)=(⟨v.path.list++[GI 2 (GC dx dy a)],v.path.start,GC dx dy a⟩,0):=by
      unfold Fu FI
      rw [g,A2 dD,A2 b.1,A2 b.2]
      unfold Gt
      rw [A2 oE]
    rw [hp];rfl
  · have ho : BP (GC dx dy a) = true ∧ BP (GC dx dy f) = true ∧ BP (GC dx dy d) = true := by simpa [Ez] using ho
    rw [A2 dD] at b
    refine ⟨⟨v.path.list++[⟨3,GC dx dy a,GC dx dy f,GC dx dy d⟩],v.path.start,GC dx dy d⟩,rfl,?_⟩
    rw [show GT ⟨3,a,f,d⟩=[99] from rfl,JV hi (.inr (.inr (.inl rfl)))]
    unfold FY
    rw [A2 dD,A2 dD,A7 rfl,hm]
    rw [show Ez ⟨3,a,f,d⟩=[a,f,d] from rfl] at c e ⊢
    rw [show (6:Nat)=(FK [a,f,d]).length from rfl,c]
    show (Dx _ _>>=_)=_
    rw [e]
    show (Dg (If 4096 v.path (GC dx dy a) (GC dx dy f) (GC dx dy d))>>=_)=_
    have hp:If 4096 v.path (GC dx dy a) (GC dx dy f) (GC dx dy d)=(⟨v.path.list++[⟨3,GC dx dy a,GC dx dy f,GC dx dy d⟩],v.path.start,GC dx dy d⟩,0):=by
      unfold If FI
      rw [ho.1,ho.2.1,ho.2.2,A2 dD,A2 b.1,A2 b.2]
      unfold Gt
      rw [A2 oE]
    rw [hp];rfl
  · obtain ⟨rfl, rfl⟩ := hz dD
    obtain rfl:=j rfl
    rw [A2 dD] at b
    refine ⟨⟨v.path.list++[GI 4 FH],v.path.start,v.path.start⟩,rfl,?_⟩
    rw [show GT ⟨4,FH,FH,FH⟩=[104] from rfl,JV hi (.inr (.inr (.inr rfl)))]
    unfold FY
    rw [A2 dD,A2 dD,A2 dD,A2 dD,A2 dD,A7 rfl]
    rw [show Ez ⟨4,FH,FH,FH⟩=[] from rfl] at c ⊢
    rw [show (0:Nat)=(FK []).length from rfl,c]
    show NZ v=_
    unfold NZ
    have hp:GA 4096 v.path=(⟨v.path.list++[GI 4 FH],v.path.start,v.path.start⟩,0):=by
      unfold GA
      rw [A2 oO]
      unfold Gt
      rw [A2 oE]
    rw [hp];rfl
theorem A74 {v:Vw} {s:Cm} (hdx:Am dx=true) (hdy:Am dy=true) (hi:v.inText=false) (hm:v.s.ctm=It dx dy) (hs:Te s (HL v.path.list)) (ho:Pr dx dy s=false) :
  KK sum fs v ((FK (Ez s)).map G7) (GT s)=.error 22:=by
 have f:∀ p∈Ez s,BP p=true:=by
  unfold Ez
  split
  · intro p hp;rw [Ao.1 hp];exact hs.f0
  ·
   split
   ·
    intro p hp
    simp only [Ax,AK,Cl] at hp
    rcases hp with rfl | rfl | rfl
    · exact hs.f0
    · exact hs.f1
    · exact hs.f2
   · intro p hp;cases hp
 have b:=KX (FK (Ez s)) (N1 f)
 have c:=A5K hdx hdy f ho
 obtain ⟨k,a,d,e⟩:=s
 have hk:=hs.kind
 simp only at hk
 rcases hk with rfl | rfl | rfl | rfl
 ·
  rw [show GT ⟨1,a,d,e⟩=[109] from rfl,JV hi (.inl rfl)]
  unfold FY
  rw [A7 rfl,hm]
  rw [show Ez ⟨1,a,d,e⟩=[a] from rfl] at b c ⊢
  rw [show (2:Nat)=(FK [a]).length from rfl,b]
  show (Dx _ _>>=_)=_
  rw [c];rfl
 ·
  rw [show GT ⟨2,a,d,e⟩=[108] from rfl,JV hi (.inr (.inl rfl))]
  unfold FY
  rw [A2 dD,A7 rfl,hm]
  rw [show Ez ⟨2,a,d,e⟩=[a] from rfl] at b c ⊢
  rw [show (2:Nat)=(FK [a]).length from rfl,b]
  show (Dx _ _>>=_)=_
  rw [c];rfl
 ·
  rw [show GT ⟨3,a,d,e⟩=[99] from rfl,JV hi (.inr (.inr (.inl rfl)))]
  unfold FY
  rw [A2 dD,A2 dD,A7 rfl,hm]
  rw [show Ez ⟨3,a,d,e⟩=[a,d,e] from rfl] at b c ⊢
  rw [show (6:Nat)=(FK [a,d,e]).length from rfl,b]
  show (Dx _ _>>=_)=_
  rw [c];rfl
 · exact D6 (show Pr dx dy ⟨4,a,d,e⟩=true from rfl) (by rw [ho];decide)
def Nc (s:Cm):l8_:=CX (FK (Ez s)) (GT s)
def Ed (l:List Cm):l8_:=l.flatMap Nc
theorem Gf {s:Cm} (hs:Te s last):(∀ n∈FK (Ez s),Am n=true)/\(FK (Ez s)).length<=32:=by
  unfold Ez
  split
  · exact ⟨N1 (λp hp=>by rw [Ao.1 hp];exact hs.f0),by simp [FK]⟩
  · split
    · refine ⟨N1 (fun p hp => ?_), by simp [FK]⟩
      simp only [Ax,AK,Cl] at hp
      rcases hp with rfl | rfl | rfl
      · exact hs.f0
      · exact hs.f1
      · exact hs.f2
    · exact ⟨λn hn=>(by cases hn),by simp [FK]⟩
theorem Rv (ls:List Cm) (h:DE last ls=true) {y:l8_} (hy:Hd y):Hd (Ed ls++y):=by
 cases ls with
 | nil=>exact hy
 | cons s ls =>
  unfold DE at h
  rw [A4] at h
  rw [show Ed (s::ls)++y=CX (FK (Ez s)) (GT s)++(Ed ls++y) by simp [Ed,Nc]]
  exact OD (Gf (A0u h.1)).1 (Od s) _
theorem UX (hdx:Am dx=true) (hdy:Am dy=true):∀ (ls:List Cm) (v:Vw) {y:l8_},v.inText=false->v.s.ctm=It dx dy->DE (HL v.path.list) ls=true->v.path.list.length+ls.length<=4096->Hd y->(ls.all (Pr dx dy))=true ->
  ∃ p,p.list=v.path.list++ls.map (Np dx dy)/\E2 sum fs l v [] (Ed ls++y) (KB v p) [] y
 | [],v,y,_,_,_,_,_,_=>⟨v.path,by simp,by simpa [Ed,KB] using E2.refl v [] y⟩
 | s::ls,v,y,hi,hm,hs,hl,hy,ho=>by
  unfold DE at hs
  rw [A4] at hs
  rw [B8,A4] at ho
  rw [A8] at hl
  have hk:=A0u hs.1
  obtain ⟨p,hp,h1⟩:=A2v (sum:=sum) (fs:=fs) hdx hdy hi hm hk oO ho.1
  obtain ⟨q,hq,h2⟩:=UX hdx hdy ls (KB v p) (y:=y) hi hm (by
   show DE (HL p.list) ls=true
   rw [hp,S4,RP];exact hs.2) (by
   show p.list.length+ls.length<=4096
   rw [hp,A9];simp only [A8,Ag];omega) hy ho.2
  refine ⟨q,by rw [hq];show p.list++_=_;rw [hp];simp,?_⟩
  rw [show Ed (s::ls)++y=CX (FK (Ez s)) (GT s)++(Ed ls++y) by simp [Ed,Nc]]
  exact (Lz (Gf hk).1 (Gf hk).2 (Od s) (Rv ls hs.2 hy) h1).trans h2
theorem Sv (hdx:Am dx=true) (hdy:Am dy=true):∀ (ls:List Cm) (v:Vw) {y:l8_},v.inText=false->v.s.ctm=It dx dy->DE (HL v.path.list) ls=true->v.path.list.length+ls.length<=4096->Hd y->(ls.all (Pr dx dy))=false ->
  Bad sum fs l v [] (Ed ls++y)
 | [],v,y,_,_,_,_,_,ho=>by cases ho
 | s::ls,v,y,hi,hm,hs,hl,hy,ho=>by
  unfold DE at hs
  rw [A4] at hs
  rw [A8] at hl
  have hk:=A0u hs.1
  rw [show Ed (s::ls)++y=CX (FK (Ez s)) (GT s)++(Ed ls++y) by simp [Ed,Nc]]
  cases h1:Pr dx dy s with
  | false=>exact A4j (Gf hk).1 (Gf hk).2 (Od s) (A74 hdx hdy hi hm hk h1) dD
  | true =>
   rw [B8,h1,BV] at ho
   obtain ⟨p,hp,h2⟩:=A2v (sum:=sum) (fs:=fs) hdx hdy hi hm hk oO h1
   have h3:=Sv hdx hdy ls (KB v p) (y:=y) hi hm (by
    show DE (HL p.list) ls=true
    rw [hp,S4,RP];exact hs.2) (by
    show p.list.length+ls.length<=4096
    rw [hp,A9];simp only [A8,Ag];omega) hy ho
   exact (Lz (Gf hk).1 (Gf hk).2 (Od s) (Rv ls hs.2 hy) h2).bad h3
end
end
section
def M8 (t:l8_):Prop:=∀ y,Hd y->Hd (t++y)
theorem M8.nil:M8 []:=λ_ h=>h
theorem M8.app {a b:l8_} (ha:M8 a) (hb:M8 b):M8 (a++b):=λy h=>by rw [AB];exact ha _ (hb y h)
theorem M8.ite {c:Prop} [Decidable c] {a b:l8_} (ha:c->M8 a) (hb:¬ c->M8 b):M8 (if c then a else b):=by
 split
 · exact ha ‹_›
 · exact hb ‹_›
theorem M8.line  (hf:∀ n∈ns,Am n=true) (hA:Ks A):M8 (CX ns A):=λy _=>OD hf hA y
theorem M8.op  (hA:Ks A) (b:l8_):M8 (A++b):=λy _=>by rw [AB];exact hA.hd _
theorem M8.path {ls:List Cm} (h:DE last ls=true):M8 (Ed ls):=λy hy=>Rv ls h hy
theorem Hd.nil:Hd []:=rfl
theorem A8v:Ks [119]:=⟨dD,dD,by decide +kernel,dD,dD,dD⟩
theorem A9O:Ks [74]:=⟨dD,dD,by decide +kernel,dD,dD,dD⟩
theorem A9I:Ks [106]:=⟨dD,dD,by decide +kernel,dD,dD,dD⟩
theorem A7o:Ks [77]:=⟨dD,dD,by decide +kernel,dD,dD,dD⟩
theorem A7m:Ks [100]:=⟨dD,dD,by decide +kernel,dD,dD,dD⟩
theorem A9K:Ks [103]:=⟨dD,dD,by decide +kernel,dD,dD,dD⟩
theorem A8w:Ks [114,103]:=⟨dD,dD,by decide +kernel,dD,dD,dD⟩
theorem A9H:Ks [107]:=⟨dD,dD,by decide +kernel,dD,dD,dD⟩
theorem A9P:Ks [71]:=⟨dD,dD,by decide +kernel,dD,dD,dD⟩
theorem A8H:Ks [82,71]:=⟨dD,dD,by decide +kernel,dD,dD,dD⟩
theorem A9N:Ks [75]:=⟨dD,dD,by decide +kernel,dD,dD,dD⟩
theorem A7l:Ks [113]:=⟨dD,dD,by decide +kernel,dD,dD,dD⟩
theorem A7n:Ks [81]:=⟨dD,dD,by decide +kernel,dD,dD,dD⟩
theorem A9M:Ks [87]:=⟨dD,dD,by decide +kernel,dD,dD,dD⟩
theorem A8F:Ks [87,42]:=⟨dD,dD,by decide +kernel,dD,dD,dD⟩
theorem A8D:Ks [110]:=⟨dD,dD,by decide +kernel,dD,dD,dD⟩
theorem A8E:Ks [102]:=⟨dD,dD,by decide +kernel,dD,dD,dD⟩
theorem A6B:Ks [102,42]:=⟨dD,dD,by decide +kernel,dD,dD,dD⟩
theorem A8G:Ks [83]:=⟨dD,dD,by decide +kernel,dD,dD,dD⟩
theorem A8I:Ks [66,84]:=⟨dD,dD,by decide +kernel,dD,dD,dD⟩
theorem A6F:Ks [69,84]:=⟨dD,dD,by decide +kernel,dD,dD,dD⟩
theorem A6E:Ks [84,102]:=⟨dD,dD,by decide +kernel,dD,dD,dD⟩
theorem A6D:Ks [84,109]:=⟨dD,dD,by decide +kernel,dD,dD,dD⟩
theorem A2W:Ks [84,106]:=⟨dD,dD,by decide +kernel,dD,dD,dD⟩
theorem A6C:Ks [99,109]:=⟨dD,dD,by decide +kernel,dD,dD,dD⟩
section
variable {sum:Int->l8_->Int} {fs:List LO} {l:l8_}
theorem Km {v v':Vw} {y:l8_} (hA:Ks A) (hy:Hd y) (ho:KK sum fs v [] A=.ok v'):E2 sum fs l v [] (A++10::y) v' [] y:=Sb hA (Qg _) (by rw [KO];exact hy) ho
theorem A1i {v v':Vw} {y:l8_} (hA:Ks A) (hy:Hd y) (ho:KK sum fs v [] A=.ok v'):E2 sum fs l v [] (A++32::y) v' [] y:=Sb hA (Ue _) (by rw [J3];exact hy) ho
def setPen (v:Vw) (p:DP):Vw:={ v with s:={ v.s with pen:=p } }
theorem VG (v:Vw):setPen v v.s.pen=v:=rfl
theorem Mn {v:Vw} {args:List PV} (hA:A∈GU):KK sum fs v args A=I0 v args A:=by unfold KK;rw [A7 hA]
theorem Wm {n:Int} (h:Am n=true):Dt [G7 n] 1=.ok [n]:=KX [n] (λm hm=>by rw [Ao.1 hm];exact h)
theorem A8x {v:Vw} {n:Int} (h:Am n=true) (h0:0<=n):KK sum fs v [G7 n] [119]=.ok (setPen v { v.s.pen with fWidth:=n }):=by
 rw [Mn dD]
 unfold I0
 rw [A7 rfl,Wm h,Iv]
 show (CS (decide (n ≥ 0))>>=_)=_
 unfold CS
 rw [A7 (Al h0)]
 rfl
theorem A8A {v:Vw} {n:Int} (h:Am n=true) (h0:65536<=n):KK sum fs v [G7 n] [77]=.ok (setPen v { v.s.pen with fMiter:=n }):=by
 rw [Mn dD]
 unfold I0
 rw [A2 dD,A2 dD,A2 dD,A7 rfl,Wm h,Iv]
 show (CS (decide (n ≥ 65536))>>=_)=_
 unfold CS
 rw [A7 (Al h0)]
 rfl
theorem Tn {n:Int} (h:0<=n/\n<=2):Jk [K8 2 n []]=.ok n:=by
 unfold Jk
 exact A7 ⟨rfl,h.1,h.2⟩
theorem A8B {v:Vw} {n:Int} (h:0<=n/\n<=2):KK sum fs v [K8 2 n []] [74]=.ok (setPen v { v.s.pen with fCap:=n }):=by
 rw [Mn dD]
 unfold I0
 rw [A2 dD,A7 rfl,Tn h,Iv]
 rfl
theorem A8y {v:Vw} {n:Int} (h:0<=n/\n<=2):KK sum fs v [K8 2 n []] [106]=.ok (setPen v { v.s.pen with fJoin:=n }):=by
 rw [Mn dD]
 unfold I0
 rw [A2 dD,A2 dD,A7 rfl,Tn h,Iv]
 rfl
theorem W5:∀ (ns:List Int),(∀ n∈ns,Am n=true/\0<=n)->Qp (ns.map G7)=.ok ns
 | [],_=>rfl
 | n::ns,h=>by
  have hn:=h n (by simp)
  have ih:=W5 ns λm hm=>h m (by simp [hm])
  rw [C3]
  unfold Qp
  rw [OA hn.1]
  unfold CS
  rw [A7 (by simp only [BV];exact Al hn.2),Iv,ih];rfl
theorem A8z {v:Vw} {ph:Int} (h:∀ n∈ns,Am n=true/\0<=n) (h1:Am ph=true) (h2:0<=ph) (h3:ns.length<=11) (h4:ns.length=0\/0<G6 ns) :
  KK sum fs v [.mk 6 0 [] [] (ns.map G7),G7 ph] [100]=.ok (setPen v { v.s.pen with pfDash:=none,fDash:=ns,cfDash:=0,fPhase:=ph }):=by
 rw [Mn dD]
 unfold I0
 rw [A2 dD,A2 dD,A2 dD,A2 dD]
 unfold OT
 simp only
 rw [OA h1,show ND (PV.mk 6 0 [] [] (ns.map G7))=6 from rfl,show NC (PV.mk 6 0 [] [] (ns.map G7))=ns.map G7 from rfl,W5 ns h]
 unfold CS
 rw [A7 (Al rfl),Iv,A7 (by simp only [BV];exact Al h2),Iv,Iv,A7 (by
  rw [A4,BC,Ad,Ad,Ad]
  exact ⟨h3,h4⟩),Iv]
 rfl
def Dh (old p:Int) (f:Int->l8_):l8_:=if p≠old then f p else []
def Es (p:DP):l8_:=91::((EB p.fDash).drop 1++93::32::CX [p.fPhase] [100])
def Dp (n:Int) (A:l8_):l8_:=E9 n++32::(A++[10])
def Nf (old p:DP):l8_ :=
 Dh old.fWidth p.fWidth (λn=>CX [n] [119])++Dh old.fCap p.fCap (λn=>Dp n [74])++Dh old.fJoin p.fJoin (λn=>Dp n [106])++Dh old.fMiter p.fMiter (λn=>CX [n] [77]) ++
  (if p.fPhase≠old.fPhase\/p.fDash≠old.fDash then Es p else [])
theorem LG {n:Int} (h:Am n=true) (A:l8_):M8 (Dp n A):=λy _=>by
 unfold Dp
 rw [AB]
 exact A7P h _
theorem Qf (p:DP):M8 (Es p):=λy _=>Hd.cons dD dD
theorem A3C {v v':Vw} {n:Int} {y:l8_} (h:Am n=true) (hA:Ks A) (hy:Hd y) (ho:KK sum fs v [K8 2 n []] A=.ok v'):E2 sum fs l v [] (Dp n A++y) v' [] y:=by
 obtain ⟨c,r,e,-⟩:=OS n h
 have b:E2 sum fs l v [] (E9 n++32::(A++10::y)) v ([]++[K8 2 n []]) (A++10::y) :=
  PD (λa hp=>Z7 hp h (Ue _)) (by rw [e];simp) (by rw [J3];exact hA.hd _) (by simp)
 rw [show Dp n A++y=E9 n++32::(A++10::y) by simp [Dp]]
 exact b.trans (Sb hA (Qg _) (by rw [KO];exact hy) ho)
theorem A5V {v:Vw} {p:DP} {y:l8_} (hy:Hd y) (h:∀ n∈p.fDash,Am n=true/\0<=n) (h1:Am p.fPhase=true) (h2:0<=p.fPhase) (h3:p.fDash.length<=11) (h4:p.fDash.length=0\/0<G6 p.fDash) :
  E2 sum fs l v [] (Es p++y) (setPen v { v.s.pen with pfDash:=none,fDash:=p.fDash,cfDash:=0,fPhase:=p.fPhase }) [] y:=by
 have hn:Hd (F3 [p.fPhase]++([100]++10::y)):=RE _ (λm hm=>by rw [Ao.1 hm];exact h1) (A7m.hd _)
 have b:E2 sum fs l v [] ((91::((EB p.fDash).drop 1++[93]))++32::(F3 [p.fPhase]++([100]++10::y))) v ([]++[.mk 6 0 [] [] (p.fDash.map G7)]) (F3 [p.fPhase]++([100]++10::y)) :=
  PD (λa hp=>A25 (by simpa using hp) (λn hn=>(h n hn).1) oO) (by simp) (by rw [J3];exact hn) (by simp)
 have c:=QN (sum:=sum) (fs:=fs) (l:=l) (v:=v) [p.fPhase] [.mk 6 0 [] [] (p.fDash.map G7)] (y:=[100]++10::y) (λm hm=>by rw [Ao.1 hm];exact h1) (A7m.hd _) (by simp)
 rw [show Es p++y=(91::((EB p.fDash).drop 1++[93]))++32::(F3 [p.fPhase]++([100]++10::y)) by simp [Es,CX]]
 exact (b.trans c).trans (Sb A7m (Qg _) (by rw [KO];exact hy) (A8z h h1 h2 h3 h4))
structure M7 (p:DP):Prop where
 w:Am p.fWidth=true/\0<=p.fWidth
 c:0<=p.fCap/\p.fCap<=2
 j:0<=p.fJoin/\p.fJoin<=2
 m:Am p.fMiter=true/\65536<=p.fMiter
 ph:Am p.fPhase=true/\0<=p.fPhase
 d:∀ n∈p.fDash,Am n=true/\0<=n
 dl:p.fDash.length<=11
 ds:p.fDash.length=0\/0<G6 p.fDash
theorem A2k (ns:List Int) (a:Int):ns.foldl (· + ·) a=a+ns.foldl (· + ·) 0:=by
 induction ns generalizing a with
 | nil=>simp
 | cons n ns ih=>rw [DS,DS,ih,ih (0+n)];omega
theorem Tv (n:Int) (ns:List Int):G6 (n::ns)=n+G6 ns:=by
 unfold G6
 rw [DS,A2k];omega
theorem A2j:∀ ns:List Int,(∀ n∈ns,0<=n)->0<=G6 ns
 | [],_=>Int.le_refl _
 | n::ns,h=>by
  have:=A2j ns λm hm=>h m (by simp [hm])
  have:=h n (by simp)
  rw [Tv];omega
theorem Za:∀ ns:List Int,(∀ n∈ns,0<=n)->(ns.any λn=>decide (0<n))=true->0<G6 ns
 | [],_,h=>by cases h
 | n::ns,h,ha=>by
  have h0:=A2j ns λm hm=>h m (by simp [hm])
  have h1:=h n (by simp)
  rw [List.any_cons,BC] at ha
  rw [Tv]
  rcases ha with ha | ha
  · have:=dT ha;omega
  · have:=Za ns (λm hm=>h m (by simp [hm])) ha;omega
theorem A9D {p:DP} (h:KT p=true):M7 p:=by
 unfold KT KS at h
 simp only [A4,AP,Ee,Aw,BT,BC] at h
 obtain ⟨⟨⟨⟨⟨⟨⟨⟨⟨⟨⟨⟨g,d⟩,i⟩,j⟩,k⟩,l⟩,m⟩,e⟩,o⟩,b⟩,f⟩,c⟩,a⟩:=h
 have hd:∀ n∈p.fDash,Am n=true/\0<=n:=λn hn=>by
  have:=At.1 c n hn
  unfold IB at this
  rw [A4,Ad] at this
  exact ⟨this.2,this.1⟩
 refine ⟨⟨d,oO⟩,⟨oO,oO⟩,⟨oO,oO⟩,⟨e,oO⟩,⟨b,oO⟩,hd,oO,?_⟩
 rcases a with a | a
 · exact .inl (by rw [List.isEmpty_iff.1 a];rfl)
 · exact .inr (Za _ (λn hn=>(hd n hn).2) a)
theorem IO {n:Int} (h:0<=n/\n<=2):Am n=true:=by simp [Am];omega
theorem Zj {old p:DP} (h:M7 p):M8 (Nf old p):=by
 have d:∀ {a b:Int} {f:Int->l8_},M8 (f b)->M8 (Dh a b f):=λhf=>by
  unfold Dh
  exact .ite (λ_=>hf) (λ_=>.nil)
 unfold Nf
 exact (((((d (.line (λm hm=>by rw [Ao.1 hm];exact h.w.1) A8v)).app (d (LG (IO h.c) _))).app (d (LG (IO h.j) _))).app (d (.line (λm hm=>by rw [Ao.1 hm];exact h.m.1) A7o))).app (.ite (λ_=>Qf p) (λ_=>.nil)))
theorem A7A {v:Vw} {old p:DP} {y:l8_} (h:M7 p) (hv:FM v.s.pen=FM old) (hy:Hd y):∃ q,FM q=FM p/\E2 sum fs l v [] (Nf old p++y) (setPen v q) [] y:=by
  obtain ⟨E,D,C,x,A,t,B,d,F⟩:∃ E D C x A t B d,v.s.pen=⟨E,D,C,x,A,t,B,d⟩:=⟨_,_,_,_,_,_,_,_,rfl⟩
  obtain ⟨V,c1,X,Y,R,Z,T,U⟩:=old
  obtain ⟨g,i,j,e,u,o,w,c⟩:=p
  rw [F] at hv
  simp only [FM,DP.mk.injEq] at hv
  obtain ⟨rfl,rfl,rfl,rfl,-,rfl,-,rfl⟩:=hv
  have hs:∀ {n:Int} {m:Int},m∈[n]->Am n=true->Am m=true:=λhm hn=>by rw [Ao.1 hm];exact hn
  have k:=h
  obtain ⟨kw,kc,kj,km,kph,kd,kdl,kds⟩:=h
  simp only at kw kc kj km kph kd kdl kds
  have G:∀ {a b:Int} {f:Int->l8_},M8 (f b)->M8 (Dh a b f):=λhf=>by
    unfold Dh
    exact .ite (λ_=>hf) (λ_=>.nil)
  have J:M8 (if c≠d\/o≠t then Es ⟨g,i,j,e,u,o,w,c⟩ else []):=.ite (λ_=>Qf _) (λ_=>.nil)
  have K:=(G (a:=x) (b:=e) (f:=λn=>CX [n] [77]) (.line (λm hm=>hs hm km.1) A7o)).app J
  have L:=(G (a:=C) (b:=j) (f:=λn=>Dp n [106]) (LG (IO kj) _)).app K
  have M:=(G (a:=D) (b:=i) (f:=λn=>Dp n [74]) (LG (IO kc) _)).app L
  have N:E2 sum fs l v [] (Dh E g (λn=>CX [n] [119])++(((Dh D i (λn=>Dp n [74]))++((Dh C j (λn=>Dp n [106]))++((Dh x e (λn=>CX [n] [77]))++(if c≠d\/o≠t then Es ⟨g,i,j,e,u,o,w,c⟩ else []))))++y)) (setPen v ⟨g,D,C,x,A,t,B,d⟩) [] (((Dh D i (λn=>Dp n [74]))++((Dh C j (λn=>Dp n [106]))++((Dh x e (λn=>CX [n] [77]))++(if c≠d\/o≠t then Es ⟨g,i,j,e,u,o,w,c⟩ else []))))++y):=by
    unfold Dh
    by_cases hw:g≠E
    · rw [A7 hw]
      have:=Lz (sum:=sum) (fs:=fs) (l:=l) (v:=v) (ns:=[g]) (λm hm=>hs hm kw.1) (by simp) A8v (M y hy) (A8x kw.1 kw.2)
      rw [F] at this
      exact this
    · obtain rfl : g = E := by omega
      rw [A2 hw,CJ,<- F,VG]
      exact E2.refl _ _ _
  have O:E2 sum fs l (setPen v ⟨g,D,C,x,A,t,B,d⟩) [] (Dh D i (λn=>Dp n [74])++(((Dh C j (λn=>Dp n [106]))++((Dh x e (λn=>CX [n] [77]))++(if c≠d\/o≠t then Es ⟨g,i,j,e,u,o,w,c⟩ else [])))++y)) (setPen v ⟨g,i,C,x,A,t,B,d⟩) [] (((Dh C j (λn=>Dp n [106]))++((Dh x e (λn=>CX [n] [77]))++(if c≠d\/o≠t then Es ⟨g,i,j,e,u,o,w,c⟩ else [])))++y):=by
    unfold Dh
    by_cases hw:i≠D
    · rw [A7 hw]
      exact A3C (IO kc) A9O (L y hy) (A8B kc)
    · obtain rfl : i = D := by omega
      rw [A2 hw,CJ]
      exact E2.refl _ _ _
  have P:E2 sum fs l (setPen v ⟨g,i,C,x,A,t,B,d⟩) [] (Dh C j (λn=>Dp n [106])++(((Dh x e (λn=>CX [n] [77]))++(if c≠d\/o≠t then Es ⟨g,i,j,e,u,o,w,c⟩ else []))++y)) (setPen v ⟨g,i,j,x,A,t,B,d⟩) [] (((Dh x e (λn=>CX [n] [77]))++(if c≠d\/o≠t then Es ⟨g,i,j,e,u,o,w,c⟩ else []))++y):=by
    unfold Dh
    by_cases hw:j≠C
    · rw [A7 hw]
      exact A3C (IO kj) A9I (K y hy) (A8y kj)
    · obtain rfl : j = C := by omega
      rw [A2 hw,CJ]
      exact E2.refl _ _ _
  have Q:E2 sum fs l (setPen v ⟨g,i,j,x,A,t,B,d⟩) [] (Dh x e (λn=>CX [n] [77])++((if c≠d\/o≠t then Es ⟨g,i,j,e,u,o,w,c⟩ else [])++y)) (setPen v ⟨g,i,j,e,A,t,B,d⟩) [] ((if c≠d\/o≠t then Es ⟨g,i,j,e,u,o,w,c⟩ else [])++y):=by
    unfold Dh
    by_cases hw:e≠x
    · rw [A7 hw]
      exact Lz (ns:=[e]) (λm hm=>hs hm km.1) (by simp) A7o (J y hy) (A8A km.1 km.2)
    · obtain rfl : e = x := by omega
      rw [A2 hw,CJ]
      exact E2.refl _ _ _
  have H:∃ q,FM q=FM ⟨g,i,j,e,u,o,w,c⟩/\E2 sum fs l (setPen v ⟨g,i,j,e,A,t,B,d⟩) [] ((if c≠d\/o≠t then Es ⟨g,i,j,e,u,o,w,c⟩ else [])++y) (setPen v q) [] y:=by
    by_cases hw:c≠d\/o≠t
    · rw [A7 hw]
      exact ⟨⟨g,i,j,e,none,o,0,c⟩,rfl,A5V (p:=⟨g,i,j,e,u,o,w,c⟩) hy kd kph.1 kph.2 kdl kds⟩
    · rw [A2 hw, CJ]
      obtain ⟨rfl,rfl⟩:c=d/\o=t:=by
        rw [not_or] at hw
        exact ⟨Classical.not_not.1 hw.1,Classical.not_not.1 hw.2⟩
      exact ⟨⟨g,i,j,e,A,o,B,c⟩,rfl,E2.refl _ _ _⟩
  obtain ⟨q,hq,H⟩:=H
  refine ⟨q,hq,?_⟩
  have:=(((N.trans (by rw [AB];exact O)).trans (by rw [AB];exact P)).trans (by rw [AB];exact Q)).trans H
  unfold Nf
  simp only [AB] at this ⊢
  exact this
end
end
section
instance A94:DecidableEq Cj:=λa b=>decidable_of_iff (a.fSpace=b.fSpace/\a.fPart_0=b.fPart_0/\a.fPart_1=b.fPart_1/\a.fPart_2=b.fPart_2/\a.fPart_3=b.fPart_3) (by cases a;cases b;simp)
def Zh (a b:BH):Bool:=decide (a.fX=b.fX) && decide (a.fY=b.fY)
def sgB (a b:Cm):Bool:=decide (a.fKind=b.fKind) && (Zh a.fP_0 b.fP_0 && Zh a.fP_1 b.fP_1 && Zh a.fP_2 b.fP_2)
def KJ {α:Type} (f:α->α->Bool):List α->List α->Bool
 | [],[]=>true
 | a::r,b::s=>f a b && KJ f r s
 | _,_=>false
def clB (a b:Bm):Bool:=decide (a.fEvenOdd=b.fEvenOdd) && KJ sgB a.fPath b.fPath
def A43 (a b:List Bm):Bool:=KJ clB a b
theorem Y9 {a b:BH}:Zh a b=true↔a=b:=by
 unfold Zh
 rw [A4,Ad,Ad]
 cases a;cases b;simp
theorem A2s {a b:Cm}:sgB a b=true↔a=b:=by
 unfold sgB
 rw [A4,A4,A4,Ad,Y9,Y9,Y9]
 cases a;cases b;simp [and_assoc]
theorem QU {α β:Type} {f:α->α->Bool} {g:α->β} (h:∀ a b,f a b=true↔g a=g b):∀ a b:List α,KJ f a b=true↔a.map g=b.map g
 | [],[]=>by simp [KJ]
 | [],b::s=>by simp [KJ]
 | a::r,[]=>by simp [KJ]
 | a::r,b::s=>by
  unfold KJ
  rw [A4,h,QU h r s]
  simp
theorem A7T {a b:Bm}:clB a b=true↔FL a=FL b:=by
 unfold clB FL
 rw [A4,Ad,QU (f:=sgB) (g:=id) (λa b=>A2s)]
 cases a;cases b;simp [and_comm]
theorem ZO {a b:List Bm}:A43 a b=true↔a.map FL=b.map FL:=QU (f:=clB) (g:=FL) (λ_ _=>A7T) a b
def Js (c:Cj):List Int:=(Cy c).take c.fSpace.toNat
def Lb (big:Bool) (n:Int):l8_:=if n=1 then (if big then [71] else [103]) else if n=3 then (if big then [82,71] else [114,103]) else (if big then [75] else [107])
def OW (big:Bool) (c:Cj):l8_:=CX (Js c) (Lb big c.fSpace)
def A2u (big:Bool) (v:Vw) (c:Cj):Vw:=if big then { v with s:={ v.s with stroke:=c } } else { v with s:={ v.s with fill:=c } }
theorem X7 (big:Bool) (n:Int):Ks (Lb big n):=by
 unfold Lb
 cases big
 ·
  split
  · exact A9K
  ·
   split
   · exact A8w
   · exact A9H
 ·
  split
  · exact A9P
  ·
   split
   · exact A8H
   · exact A9N
structure Tg (c:Cj):Prop where
 sp:(c.fSpace=1/\c.fPart_1=0/\c.fPart_2=0/\c.fPart_3=0)\/(c.fSpace=3/\c.fPart_3=0)\/c.fSpace=4
 p0:0<=c.fPart_0/\c.fPart_0<=65536
 p1:0<=c.fPart_1/\c.fPart_1<=65536
 p2:0<=c.fPart_2/\c.fPart_2<=65536
 p3:0<=c.fPart_3/\c.fPart_3<=65536
theorem B01 {c:Cj} (h:Fw c=true):Tg c:=by
 unfold Fw Jl Jw Cy at h
 simp only [A4,BC,Ad,B3,HS,AP,SH,Aw,BT] at h
 obtain ⟨hs,⟨⟨⟨e,j⟩,f,a⟩,g,b⟩,i,d⟩:=h
 have a:(1:Int)<c.fSpace\/c.fPart_1=0:=a
 have b:(2:Int)<c.fSpace\/c.fPart_2=0:=b
 have d:(3:Int)<c.fSpace\/c.fPart_3=0:=d
 refine ⟨?_,e,f,g,i⟩
 omega
theorem Oq {x:Int} (h:0<=x/\x<=65536):DF x=x:=by unfold DF;omega
theorem A60 {x:Int} (h:0<=x/\x<=65536):Am x=true:=by simp [Am];omega
theorem IN {c:Cj} (h:Tg c):(∀ n∈Js c,Am n=true)/\(Js c).length<=32:=by
 refine ⟨λn hn=>?_,by unfold Js Cy;rw [AT];simp only [A8,Ag];omega⟩
 have:=DK hn
 unfold Cy at this
 simp only [Ax,AK,Cl] at this
 rcases this with rfl | rfl | rfl | rfl
 · exact A60 h.p0
 · exact A60 h.p1
 · exact A60 h.p2
 · exact A60 h.p3
section
variable {sum:Int->l8_->Int} {fs:List LO} {l:l8_} {dx dy:Int}
theorem KW {v:Vw} {args:List PV} (hA:A∈GY):KK sum fs v args A=Et v args A:=by
 unfold KK
 rw [A2 (λh=>?_),A7 hA]
 unfold GY at hA
 unfold GU at h
 simp only [Ax,AK,Cl] at hA h
 rcases hA with rfl | rfl | rfl | rfl | rfl | rfl <;> revert h <;> decide
theorem A5p {v:Vw} {c:Cj} (big:Bool) (h:Tg c):KK sum fs v ((Js c).map G7) (Lb big c.fSpace)=.ok (A2u big v c):=by
  have hn:=KX (Js c) (IN h).1
  obtain ⟨hs,g,i,j,k⟩:=h
  obtain ⟨n,a,b,d,e⟩:=c
  simp only at hs g i j k
  have f:=Oq g
  have l:=Oq i
  have m:=Oq j
  have o:=Oq k
  have qz:DF 0=0:=by decide
  rcases hs with ⟨rfl,rfl,rfl,rfl⟩ | ⟨rfl,rfl⟩ | rfl
  · rw [show Js ⟨1, a, 0, 0, 0⟩ = [a] from rfl] at hn ⊢
    have hn:Dt ([a].map G7) 1=.ok [a]:=hn
    have hw:ES ([a].map G7) 1=.ok ⟨1,a,0,0,0⟩:=by
      unfold ES
      rw [hn,Iv]
      show Except.ok (⟨1,DF a,DF 0,DF 0,DF 0⟩:Cj)=_
      rw [f,qz]
    cases big
    · rw [show Lb false 1 = [103] from rfl, KW dD]
      unfold Et
      rw [A7 rfl,hw];rfl
    · rw [show Lb true 1 = [71] from rfl, KW dD]
      unfold Et
      rw [A2 dD,A2 dD,A2 dD,A7 rfl,hw];rfl
  · rw [show Js ⟨3, a, b, d, 0⟩ = [a, b, d] from rfl] at hn ⊢
    have hn:Dt ([a,b,d].map G7) 3=.ok [a,b,d]:=hn
    have hw:ES ([a,b,d].map G7) 3=.ok ⟨3,a,b,d,0⟩:=by
      unfold ES
      rw [hn,Iv]
      show Except.ok (⟨3,DF a,DF b,DF d,DF 0⟩:Cj)=_
      rw [f,l,m,qz]
    cases big
    · rw [show Lb false 3 = [114, 103] from rfl, KW dD]
      unfold Et
      rw [A2 dD,A7 rfl,hw];rfl
    · rw [show Lb true 3 = [82, 71] from rfl, KW dD]
      unfold Et
      rw [A2 dD,A2 dD,A2 dD,A2 dD,A7 rfl,hw];rfl
  · rw [show Js ⟨4, a, b, d, e⟩ = [a, b, d, e] from rfl] at hn ⊢
    have hn:Dt ([a,b,d,e].map G7) 4=.ok [a,b,d,e]:=hn
    have hw:ES ([a,b,d,e].map G7) 4=.ok ⟨4,a,b,d,e⟩:=by
      unfold ES
      rw [hn,Iv]
      show Except.ok (⟨4,DF a,DF b,DF d,DF e⟩:Cj)=_
      rw [f,l,m,o]
    cases big
    · rw [show Lb false 4 = [107] from rfl, KW dD]
      unfold Et
      rw [A2 dD,A2 dD,A7 rfl,hw];rfl
    · rw [show Lb true 4 = [75] from rfl, KW dD]
      unfold Et
      rw [A2 dD,A2 dD,A2 dD,A2 dD,A2 dD,hw];rfl
theorem A3B {v:Vw} {c:Cj} {y:l8_} (big:Bool) (h:Tg c) (hy:Hd y):E2 sum fs l v [] (OW big c++y) (A2u big v c) [] y :=
 Lz (IN h).1 (IN h).2 (X7 big _) hy (A5p big h)
theorem ZN (big:Bool) {c:Cj} (h:Tg c):M8 (OW big c):=.line (IN h).1 (X7 big _)
def Q5 (dx dy:Int) (c:Bm):Bm:=⟨none,c.fPath.map (Np dx dy),0,c.fEvenOdd⟩
def Q4 (dx dy:Int) (c:Bm):Bool:=c.fPath.all (Pr dx dy)
def FD (c:Bm):l8_:=Ed c.fPath++(if c.fEvenOdd then [87,42,32,110,10] else [87,32,110,10])
theorem A2Y {v:Vw} {args:List PV} (hi:v.inText=false) (hA:A=[87]\/A=[87,42]):KK sum fs v args A=(Dt args 0>>=λ_=>.ok { v with clip:=A.length }):=by
  unfold KK
  rcases hA with rfl | rfl <;>
  · rw [A2 dD, A2 dD, A2 dD, A2 dD, hi]
    rw [show CS (!false)=Except.ok () from rfl]
    rw [Iv,A2 dD,A2 dD,A7 dD]
    rfl
theorem MX {v:Vw} {args:List PV} (hi:v.inText=false) (hA:A=[110]\/A=[102]\/A=[102,42]\/A=[83]):KK sum fs v args A=Jo v args A:=by
  unfold KK
  rcases hA with rfl | rfl | rfl | rfl <;>
  · rw [A2 dD, A2 dD, A2 dD, A2 dD, hi]
    rw [show CS (!false)=Except.ok () from rfl]
    rw [Iv,A2 dD,A2 dD,A2 dD]
theorem Ig:Dt [] 0=.ok []:=rfl
theorem ZB {v:Vw} {c:Bm} {y:l8_} (hdx:Am dx=true) (hdy:Am dy=true) (hi:v.inText=false) (hm:v.s.ctm=It dx dy) (hp:v.path.list=[]) (hc:Fo c=true) (hl:v.s.clips.length<16) (hy:Hd y) (ho:Q4 dx dy c=true) :
  E2 sum fs l v [] (FD c++y) { v with s:={ v.s with clips:=v.s.clips++[Q5 dx dy c] },clip:=0,path:=Ie } [] y:=by
 unfold Fo EZ at hc
 rw [A4,A4,Ad,AP] at hc
 obtain ⟨d,j,k⟩:=hc
 have f:c.fPath≠[]:=λe=>by rw [e] at d;cases d
 have b:=List.length_pos_iff.2 f
 have hg:HL v.path.list=0:=by rw [hp];rfl
 have key:∀ (A:l8_) (n:Nat),(A=[87]\/A=[87,42])->A.length=n->decide ((n:Int)=2)=c.fEvenOdd->Ks A->E2 sum fs l v [] (Ed c.fPath++(A++32::([110]++10::y))) { v with s:={ v.s with clips:=v.s.clips++[Q5 dx dy c] },clip:=0,path:=Ie } [] y:=λA n hA hn he hO=>by
  obtain ⟨p,a,m⟩:=UX (sum:=sum) (fs:=fs) (l:=l) hdx hdy c.fPath v (y:=A++32::([110]++10::y)) hi hm (by rw [hg];exact k) (by rw [hp];simpa using j) (hO.hd _) ho
  rw [hp,CJ] at a
  have o:E2 sum fs l (KB v p) [] (A++32::([110]++10::y)) { v with path:=p,clip:=(n:Int) } [] ([110]++10::y):=by
   refine A1i hO (A8D.hd _) ?_
   rw [A2Y (v:=KB v p) hi hA,Ig,Iv,hn];rfl
  have q:E2 sum fs l { v with path:=p,clip:=(n:Int) } [] ([110]++10::y) { v with s:={ v.s with clips:=v.s.clips++[Q5 dx dy c] },clip:=0,path:=Ie } [] y:=by
   refine Km A8D hy ?_
   rw [MX (v:={ v with path:=p,clip:=(n:Int) }) hi (.inl rfl)]
   unfold Jo
   rw [Ig,Iv]
   unfold IY
   rw [A2 dD,Iv,A2 dD,A2 dD,A2 dD,A2 dD,A2 dD]
   unfold DY
   rw [show Mx { v with path:=p,clip:=(n:Int) } 0=.ok { v with path:=p,clip:=(n:Int) } from A2 (λh=>D6 h.2 dD),Iv,
    show JF { v with path:=p,clip:=(n:Int) } { v with path:=p,clip:=(n:Int) } false=.ok { v with path:=p,clip:=(n:Int) } from A2 (λh=>D6 h.2 dD),Iv]
   have g:FZ { v with path:=p,clip:=(n:Int) }=.ok (v.s.clips++[Q5 dx dy c]):=by
    unfold FZ
    have i:(n:Int) > 0:=by rcases hA with rfl | rfl <;> (rw [<- hn];decide)
    rw [A7 (show ({ v with path:=p,clip:=(n:Int) }:Vw).clip > 0 from i)]
    show (CS (decide (p.list.length > 0))>>=_)=_
    unfold CS
    rw [A7 (Al (by rw [a,B0];exact b)),Iv]
    show (HG (decide (v.s.clips.length<16))>>=_)=_
    unfold HG
    rw [A7 (Al hl),Iv]
    show Except.ok (v.s.clips++[(⟨none,p.list,0,decide ((n:Int)=2)⟩:Bm)])=_
    rw [a,he];rfl
   rw [g,Iv]
   rfl
  exact (m.trans o).trans q
 unfold FD
 cases he:c.fEvenOdd with
 | true =>
  rw [A7 rfl,AB]
  exact key [87,42] 2 (.inr rfl) rfl (by rw [he];rfl) A8F
 | false =>
  rw [A2 dD,AB]
  exact key [87] 1 (.inl rfl) rfl (by rw [he];rfl) A9M
theorem A4l {v:Vw} {c:Bm} {y:l8_} (hdx:Am dx=true) (hdy:Am dy=true) (hi:v.inText=false) (hm:v.s.ctm=It dx dy) (hp:v.path.list=[]) (hc:Fo c=true) (ho:Q4 dx dy c=false) :
  Bad sum fs l v [] (FD c++y):=by
 unfold Fo EZ at hc
 rw [A4,A4,Ad,AP] at hc
 obtain ⟨d,a,b⟩:=hc
 unfold FD
 rw [AB]
 refine Sv hdx hdy c.fPath v hi hm (by rw [hp];exact b) (by rw [hp];simpa using a) ?_ ho
 split
 · exact Hd.cons dD dD
 · exact Hd.cons dD dD
theorem A46 {c:Bm} (hc:Fo c=true):M8 (FD c):=by
 unfold Fo EZ at hc
 rw [A4,A4] at hc
 unfold FD
 refine (M8.path hc.2.2).app (.ite (λ_ y _=>Hd.cons dD dD) (λ_ y _=>Hd.cons dD dD))
theorem A2X {v:Vw} {args:List PV} (hi:v.inText=false) (hA:A=[113]\/A=[81]\/A=[99,109]):KK sum fs v args A=FO v args A:=by
  unfold KK
  rcases hA with rfl | rfl | rfl <;>
  · rw [A2 dD, A2 dD, A2 dD, A2 dD, hi]
    rw [show CS (!false)=Except.ok () from rfl]
    rw [Iv,A7 dD]
theorem A9Y {v:Vw} {y:l8_} (hi:v.inText=false) (hs:v.saved.length<32) (hy:Hd y):E2 sum fs l v [] ([113,10]++y) { v with saved:=v.s::v.saved } [] y:=by
 refine Km (A:=[113]) A7l hy ?_
 rw [A2X hi (.inl rfl)]
 unfold FO
 rw [A7 rfl,Ig,Iv]
 unfold HG
 rw [A7 (Al hs)]
 rfl
theorem A8W {v:Vw} {s:SB} {r:List SB} {y:l8_} (hi:v.inText=false) (hs:v.saved=s::r) (hy:Hd y):E2 sum fs l v [] ([81,10]++y) { v with s:=s,saved:=r } [] y:=by
 refine Km (A:=[81]) A7n hy ?_
 rw [A2X hi (.inr (.inl rfl))]
 unfold FO
 rw [A2 dD,A7 rfl,Ig,Iv,hs]
 rfl
theorem A0z:IH O3=(65536,0):=by decide +kernel
theorem A2y (dx dy:Int):Lr (It dx dy)=.ok 65536:=by
 have h:IH (It dx dy)=(65536,0):=(show IH (It dx dy)=IH O3 from rfl).trans A0z
 unfold Lr
 rw [h];rfl
theorem P8 {n:Int} (h:Am n=true):GP 65536 n=.ok n:=by
 unfold GP
 rw [(mul_one h).1];rfl
theorem R5:∀ ns:List Int,(∀ n∈ns,Am n=true)->HU 65536 ns=.ok ns
 | [],_=>rfl
 | n::ns,h=>by
  unfold HU
  rw [P8 (h n (by simp)),Iv,R5 ns λm hm=>h m (by simp [hm])];rfl
theorem A0x {s:SB} (hm:s.ctm=It dx dy) (h:M7 s.pen):Ia s=.ok (FM s.pen):=by
 unfold Ia
 rw [hm,A2y,Iv,P8 h.w.1,Iv,P8 h.ph.1,Iv,R5 _ (λn hn=>(h.d n hn).1),Iv,A2 (λhc=>by rcases h.ds with a | a <;> omega)]
 rfl
def A7Z (v:Vw) (it:AN):Vw:={ v with items:=v.items++[it],clip:=0,path:=Ie }
theorem YM {v:Vw} {it:AN} (h:v.items.length<4096):FG v it=.ok { v with items:=v.items++[it] }:=by
 unfold FG HG
 rw [A7 (Al h)];rfl
theorem A5T {v:Vw} {k:Int} {y:l8_} (hk:k=1\/k=2) (hi:v.inText=false) (hc:v.clip=0) (hp:v.path.list≠[]) (hn:v.items.length<4096) (hy:Hd y) :
  E2 sum fs l v [] ((if k=1 then [102,10] else [102,42,10])++y) (A7Z v (FJ k v.path.list v.s.fill K9 v.s.clips)) [] y:=by
 have b:=List.length_pos_iff.2 hp
 have d:FZ v=.ok v.s.clips:=A2 (by rw [hc];decide)
 have a:∀ k:Int,k > 0->DY v k false=.ok (A7Z v (FJ k v.path.list v.s.fill K9 v.s.clips)):=λk hk=>by
  unfold DY
  rw [show Mx v k=FG v (FJ k v.path.list v.s.fill K9 v.s.clips) from A7 ⟨b,hk⟩,YM hn,Iv,
   show ∀ c:Vw,JF v c false=.ok c from λc=>A2 (λh=>D6 h.2 dD),Iv,d,Iv]
  rfl
 rcases hk with rfl | rfl
 ·
  refine Km (A:=[102]) A8E hy ?_
  rw [MX hi (.inr (.inl rfl))]
  unfold Jo IY
  rw [Ig,Iv,A2 dD,Iv,A2 dD,A7 dD,a 1 dD]
 ·
  refine Km (A:=[102,42]) A6B hy ?_
  rw [MX hi (.inr (.inr (.inl rfl)))]
  unfold Jo IY
  rw [Ig,Iv,A2 dD,Iv,A2 dD,A2 dD,A7 dD,a 2 dD]
theorem A1h {v:Vw} {y:l8_} (hi:v.inText=false) (hc:v.clip=0) (hp:v.path.list≠[]) (hm:v.s.ctm=It dx dy) (hk:M7 v.s.pen) (hn:v.items.length<4096) (hy:Hd y) :
  E2 sum fs l v [] ([83,10]++y) (A7Z v (FJ 3 v.path.list v.s.stroke (FM v.s.pen) v.s.clips)) [] y:=by
 have a:=List.length_pos_iff.2 hp
 have b:FZ v=.ok v.s.clips:=A2 (by rw [hc];decide)
 refine Km (A:=[83]) A8G hy ?_
 rw [MX hi (.inr (.inr (.inr rfl)))]
 unfold Jo IY
 rw [Ig,Iv,A2 dD,Iv,A7 dD]
 unfold DY
 rw [show Mx v 0=.ok v from A2 (λh=>D6 h.2 dD),Iv,
  show JF v v true=(Ia v.s>>=λp=>FG v (FJ 3 v.path.list v.s.stroke p v.s.clips)) from A7 ⟨a,rfl⟩,A0x hm hk,Iv,YM hn,Iv,b,Iv]
 rfl
theorem WE {n:Int} (h:0<=n/\n<=13):A10 (70::E9 n)/\(70::E9 n).flatMap Yl=70::E9 n:=by
 obtain ⟨a,b⟩:=h
 obtain rfl | rfl | rfl | rfl | rfl | rfl | rfl | rfl | rfl | rfl | rfl | rfl | rfl | rfl:n=0\/n=1\/n=2\/n=3\/n=4\/n=5\/n=6\/n=7\/n=8\/n=9\/n=10\/n=11\/n=12\/n=13:=by omega
 all_goals exact ⟨⟨dD,by decide +kernel,by decide +kernel⟩,by decide +kernel⟩
def Ju (x:AN):l8_ :=
 [66,84,10]++((47::70::E9 x.fFont)++(32::49::32::84::102::10::(CX (Ej x) [84,109]++(Qm x.fBytes++[32,84,106,10,69,84,10]))))
theorem Ow {v:Vw} {args:List PV} (hA:A∈Hl):KK sum fs v args A=JR sum fs v args A:=by
 have a:A ∉ GU:=by unfold Hl at hA;simp only [Ax,AK,Cl] at hA;rcases hA with rfl | rfl | rfl | rfl | rfl | rfl <;> decide
 have b:A ∉ GY:=by unfold Hl at hA;simp only [Ax,AK,Cl] at hA;rcases hA with rfl | rfl | rfl | rfl | rfl | rfl <;> decide
 unfold KK
 rw [A2 a,A2 b,A7 hA]
theorem MN {v:Vw} {args:List PV} (hi:v.inText=true) (hA:A≠[66,84]):JR sum fs v args A=(if A=[69,84] then (Dt args 0>>=λ_=>.ok { v with inText:=false }) else if A=[84,102] then IZ fs v args
  else if A=[84,109] then (RU args>>=λm=>.ok { v with line:=m,text:=m,lost:=false }) else if A=[84,100] then (Dt args 2>>=λn=>LF (It (n.getD 0 0) (n.getD 1 0)) v.line>>=λm=>.ok { v with line:=m,text:=m,lost:=false }) else FX sum v args):=by
 unfold JR
 rw [show CS (decide (v.inText=true↔A≠[66,84]))=.ok () from A7 (Al ⟨λ_=>hA,λ_=>hi⟩),Iv,A2 hA]
 rfl
theorem WV {a b:Int} (ha:Am a=true) (hb:Am b=true):IM (It dx dy) a b=((a,b),0):=by
 unfold IM It
 simp only
 have c:Kz 0 65536 a 0 b []=(a,0):=by
  unfold Kz
  rw [(mul_one ha).2,(mul_zero hb).2]
  simp only [KN]
  rw [(add_zero ha).1]
  simp only
  rw [A7 BO,(add_zero ha).2]
  rfl
 have d:Kz 0 0 a 65536 b []=(b,0):=by
  unfold Kz
  rw [(mul_zero ha).2,(mul_one hb).2]
  simp only [KN]
  rw [(add_zero FS).1]
  simp only
  rw [A7 BO,(add_zero hb).1]
  rfl
 rw [c]
 simp only
 rw [d]
 rfl
theorem A4m {a b:Int} (hdx:Am dx=true) (hdy:Am dy=true) (ha:Am a=true) (hb:Am b=true):(Am (a+dx)=true/\Am (b+dy)=true->Gk (It dx dy) a b=((a+dx,b+dy),0))/\(¬ (Am (a+dx)=true/\Am (b+dy)=true)->(Gk (It dx dy) a b).2≠0):=by
 unfold Gk It
 simp only
 rw [A6u ha hb hdx]
 refine ⟨λh=>?_,λh=>?_⟩
 ·
  rw [A7 h.1]
  simp only
  rw [Vu ha hb hdy,A7 h.2]
  rfl
 ·
  by_cases h1:Am (a+dx)=true
  ·
   rw [A7 h1]
   simp only
   rw [Vu ha hb hdy,A2 (λc=>h ⟨h1,c⟩)]
   simp [IL,EV]
  ·
   rw [A2 h1]
   simp only
   rw [Vu ha hb hdy]
   split <;> simp [IL,EV]
structure A8d (m:M6):Prop where
 a:Am m.a=true
 b:Am m.b=true
 c:Am m.c=true
 d:Am m.d=true
 e:Am m.e=true
 f:Am m.f=true
theorem YL {m:M6} (hdx:Am dx=true) (hdy:Am dy=true) (h:A8d m):(Am (m.e+dx)=true/\Am (m.f+dy)=true->LF m (It dx dy)=.ok ⟨m.a,m.b,m.c,m.d,m.e+dx,m.f+dy⟩)/\(¬ (Am (m.e+dx)=true/\Am (m.f+dy)=true)->LF m (It dx dy)=.error 22):=by
 obtain ⟨g,i⟩:=A4m hdx hdy h.e h.f
 have hc:Di m (It dx dy)=if (Gk (It dx dy) m.e m.f).2≠0 then (Xu,(Gk (It dx dy) m.e m.f).2) else (⟨m.a,m.b,m.c,m.d,(Gk (It dx dy) m.e m.f).1.1,(Gk (It dx dy) m.e m.f).1.2⟩,0):=by
  unfold Di
  rw [WV h.a h.b,WV h.c h.d]
  simp only
  rw [A2 (by simp),A2 (by simp)]
 unfold LF
 rw [hc]
 refine ⟨λhf=>?_,λhf=>?_⟩
 · rw [g hf];rfl
 ·
  have:=i hf
  rw [A7 this]
  exact A2 this
theorem Xa {m:M6} (h:A8d m):LF (m6S 65536 65536) m=.ok m:=by
 have two:∀ {a c more:Int},Am a=true->Am c=true->Am more=true->∀ e,Kz e a 0 c 0 [more]=(more,e):=λha hc hm e=>by
  unfold Kz
  rw [(mul_zero ha).1,(mul_zero hc).1]
  simp only [KN]
  rw [(add_zero FS).1]
  simp only
  rw [A7 BO,(add_zero FS).1]
  simp only
  rw [A7 BO,(add_zero hm).1]
  by_cases he:e=0 <;> simp [EV,he]
 have g:∀ {a c:Int},Am a=true->Am c=true->Kz 0 a 65536 c 0 []=(a,0):=λha hc=>by
  unfold Kz
  rw [(mul_one ha).1,(mul_zero hc).1]
  simp only [KN]
  rw [(add_zero ha).1]
  simp only
  rw [A7 BO,(add_zero ha).2]
  rfl
 have i:∀ {a c:Int},Am a=true->Am c=true->Kz 0 a 0 c 65536 []=(c,0):=λha hc=>by
  unfold Kz
  rw [(mul_zero ha).1,(mul_one hc).1]
  simp only [KN]
  rw [(add_zero FS).1]
  simp only
  rw [A7 BO,(add_zero hc).1]
  rfl
 have j:IM m 65536 0=((m.a,m.b),0):=by
  unfold IM
  simp only
  rw [g h.a h.c]
  simp only
  rw [g h.b h.d];rfl
 have k:IM m 0 65536=((m.c,m.d),0):=by
  unfold IM
  simp only
  rw [i h.a h.c]
  simp only
  rw [i h.b h.d];rfl
 have l:Gk m 0 0=((m.e,m.f),0):=by
  unfold Gk
  simp only
  rw [two h.a h.c h.e]
  simp only
  rw [two h.b h.d h.f];rfl
 unfold LF Di m6S
 simp only
 rw [j]
 simp only
 rw [k]
 simp only
 rw [l]
 rfl
end
end
section
def SG (dx dy:Int) (x:AN):AN:=⟨x.fKind,none,x.fPath.map (Np dx dy),0,x.fColor,none,x.fClips.map (Q5 dx dy),0,FM x.fPen,x.fFont,x.fMatrix_0,x.fMatrix_1,x.fMatrix_2,x.fMatrix_3,if x.fKind=4 then x.fMatrix_4+dx else x.fMatrix_4,if x.fKind=4 then x.fMatrix_5+dy else x.fMatrix_5,none,x.fBytes,0⟩
def Q3 (dx dy:Int) (x:AN):Bool:=x.fPath.all (Pr dx dy) && x.fClips.all (Q4 dx dy) && (!decide (x.fKind=4) || (Am (x.fMatrix_4+dx) && Am (x.fMatrix_5+dy)))
structure A1J (x:AN):Prop where
 font:0<=x.fFont/\x.fFont<=13
 bytes:x.fBytes≠[]/\x.fBytes.length<=65535
 mat:∀ n∈Ej x,Am n=true
 path:x.fPath=[]
 pen:FM x.fPen=K9
structure B09 (x:AN):Prop where
 kind:x.fKind=1\/x.fKind=2\/x.fKind=3
 font:x.fFont=0
 mat:x.fMatrix_0=0/\x.fMatrix_1=0/\x.fMatrix_2=0/\x.fMatrix_3=0/\x.fMatrix_4=0/\x.fMatrix_5=0
 bytes:x.fBytes=[]
 path:x.fPath≠[]
 len:x.fPath.length<=4096
 segs:DE 0 x.fPath=true
 pen:x.fKind=3->M7 x.fPen
 none:x.fKind≠3->FM x.fPen=K9
structure JD (x:AN):Prop where
 col:Tg x.fColor
 cl:x.fClips.length<=16
 clips:∀ c∈x.fClips,Fo c=true
 txt:x.fKind=4->A1J x
 pnt:x.fKind≠4->B09 x
theorem TO {p:DP} (h:Ki p=true):FM p=K9:=by
 unfold Ki at h
 simp only [A4,Ad] at h
 obtain ⟨⟨⟨⟨⟨a,b⟩,e⟩,f⟩,i⟩,g⟩:=h
 obtain ⟨w,c,j,m,pd,d,cd,ph⟩:=p
 simp only at a b e f i g
 have:d=[]:=CB.1 oO
 subst a b e f g this
 rfl
theorem S5 {x:AN} (h:E8 x=true):JD x:=by
  unfold E8 ET at h
  rw [A4,A4,A4,Ad] at h
  obtain ⟨⟨o,q,d⟩,b⟩:=h
  refine ⟨B01 o,oO,λc hc=>At.1 d c hc,λhk=>?_,λhk=>?_⟩
  · rw [A7 hk] at b
    unfold GW at b
    simp only [A4,Ad] at b
    obtain ⟨⟨⟨⟨⟨⟨f,g⟩,i⟩,k⟩,j⟩,l⟩,a⟩:=b
    exact ⟨⟨f,g⟩,⟨λe=>by rw [e] at i;simp at i,oO⟩,λn hn=>At.1 j n hn,CB.1 oO,TO a⟩
  · rw [A2 hk] at b
    unfold LS OC EZ at b
    simp only [A4,Ad,AP,Aw] at b
    obtain ⟨⟨⟨⟨⟨f,g⟩,i⟩,k⟩,j,l⟩,a⟩:=b
    have m:x.fKind=1\/x.fKind=2\/x.fKind=3:=by
      split at a
      · omega
      · split at a
        · omega
        · cases a
    refine ⟨m,f,g,CB.1 oO,λe=>k (by rw [e];rfl),j,l,λd=>?_,λd=>?_⟩
    · rw [A2 oO, A7 d] at a
      exact A9D a
    · rw [A7 oO] at a
      exact TO a
section
variable {sum:Int->l8_->Int} {fs:List LO} {l:l8_} {dx dy:Int}
def Iz (x:AN):M6:=⟨x.fMatrix_0,x.fMatrix_1,x.fMatrix_2,x.fMatrix_3,x.fMatrix_4,x.fMatrix_5⟩
theorem RS {x:AN} (h:∀ n∈Ej x,Am n=true):A8d (Iz x):=by
 unfold Ej at h
 exact ⟨h _ (by simp [Iz]),h _ (by simp [Iz]),h _ (by simp [Iz]),h _ (by simp [Iz]),h _ (by simp [Iz]),h _ (by simp [Iz])⟩
def MH (fs:List LO) (n:Int):Prop:=∃ f,fs.find? (λf=>decide (f.name=70::E9 n))=some f/\f.font=n
theorem Vy (x:AN) (y:l8_):Hd (Qm x.fBytes++([32,84,106,10,69,84,10]++y)):=Hd.cons dD dD
theorem WA {v:Vw} {x:AN} {y:l8_} (hi:v.inText=false) (hx:A1J x) (hft:MH fs x.fFont) :
  ∃ v1,v1={ v with s:={ v.s with font:=x.fFont,size:=65536 },inText:=true,lost:=false,text:=Iz x,line:=Iz x } /\
   E2 sum fs l v [] (Ju x++y) v1 [K8 5 0 x.fBytes] ([84,106]++10::([69,84]++10::y)):=by
 obtain ⟨f,b,c⟩:=hft
 obtain ⟨d,g⟩:=WE hx.font
 have hL:∀ n∈Ej x,Am n=true:=hx.mat
 have i:Hd (CX (Ej x) [84,109]++(Qm x.fBytes++([32,84,106,10,69,84,10]++y))):=OD hL A6D _
 have j:E2 sum fs l v [] ([66,84]++10::((47::70::E9 x.fFont)++(32::([49]++32::([84,102]++10::(CX (Ej x) [84,109]++(Qm x.fBytes++([32,84,106,10,69,84,10]++y)))))))) { v with inText:=true,lost:=false,text:=O3,line:=O3 } [] ((47::70::E9 x.fFont)++(32::([49]++32::([84,102]++10::(CX (Ej x) [84,109]++(Qm x.fBytes++([32,84,106,10,69,84,10]++y))))))):=by
  refine Km A8I (Hd.cons dD dD) ?_
  rw [Ow dD]
  unfold JR
  rw [hi,show CS (decide (false=true↔([66,84]:l8_)≠[66,84]))=.ok () from rfl,Iv,A7 rfl,Ig,Iv]
  rfl
 have k:E2 sum fs l { v with inText:=true,lost:=false,text:=O3,line:=O3 } [] ((47::70::E9 x.fFont)++(32::([49]++32::([84,102]++10::(CX (Ej x) [84,109]++(Qm x.fBytes++([32,84,106,10,69,84,10]++y))))))) { v with inText:=true,lost:=false,text:=O3,line:=O3 } ([]++[K8 4 0 (70::E9 x.fFont)]) ([49]++32::([84,102]++10::(CX (Ej x) [84,109]++(Qm x.fBytes++([32,84,106,10,69,84,10]++y))))):=by
  refine PD (λa hp=>?_) (by simp) (by rw [J3];exact Lo dD dD) (by simp)
  exact A24 (s:=70::E9 x.fFont) (by rw [g];exact hp) d (Ue _)
 have m:E2 sum fs l { v with inText:=true,lost:=false,text:=O3,line:=O3 } ([]++[K8 4 0 (70::E9 x.fFont)]) ([49]++32::([84,102]++10::(CX (Ej x) [84,109]++(Qm x.fBytes++([32,84,106,10,69,84,10]++y))))) { v with inText:=true,lost:=false,text:=O3,line:=O3 } ([]++[K8 4 0 (70::E9 x.fFont)]++[K8 2 1 []]) ([84,102]++10::(CX (Ej x) [84,109]++(Qm x.fBytes++([32,84,106,10,69,84,10]++y)))):=by
  refine PD (λa hp=>?_) (by simp) (by rw [J3];exact A6E.hd _) (by simp)
  have e:E9 1=[49]:=by decide +kernel
  exact Z7 (n:=1) (by rw [e];exact hp) dD (Ue _)
 have o:E2 sum fs l { v with inText:=true,lost:=false,text:=O3,line:=O3 } ([]++[K8 4 0 (70::E9 x.fFont)]++[K8 2 1 []]) ([84,102]++10::(CX (Ej x) [84,109]++(Qm x.fBytes++([32,84,106,10,69,84,10]++y)))) { v with s:={ v.s with font:=x.fFont,size:=65536 },inText:=true,lost:=false,text:=O3,line:=O3 } [] (CX (Ej x) [84,109]++(Qm x.fBytes++([32,84,106,10,69,84,10]++y))):=by
  refine Sb A6E (Qg _) (by rw [KO];exact i) ?_
  rw [Ow dD,MN rfl dD,A2 dD,A7 rfl]
  unfold IZ
  show (CS true>>=λ_=>CS true>>=λ_=>_)=_
  rw [show CS true=.ok () from rfl,Iv,Iv]
  show (match fs.find? (λf=>decide (f.name=70::E9 x.fFont)) with | none=>_ | some f=>_)=_
  rw [b]
  show Except.ok _=_
  rw [c];rfl
 have q:E2 sum fs l { v with s:={ v.s with font:=x.fFont,size:=65536 },inText:=true,lost:=false,text:=O3,line:=O3 } [] (CX (Ej x) [84,109]++(Qm x.fBytes++([32,84,106,10,69,84,10]++y))) { v with s:={ v.s with font:=x.fFont,size:=65536 },inText:=true,lost:=false,text:=Iz x,line:=Iz x } [] (Qm x.fBytes++([32,84,106,10,69,84,10]++y)):=by
  refine Lz hL (by simp [Ej]) A6D (Vy x y) ?_
  rw [Ow dD,MN rfl dD,A2 dD,A2 dD,A7 rfl]
  have hm:RU ((Ej x).map G7)=.ok (Iz x):=by
   unfold RU
   rw [show Dt ((Ej x).map G7) 6=.ok (Ej x) from KX (Ej x) hL]
   rfl
  rw [hm]
  rfl
 have t:E2 sum fs l { v with s:={ v.s with font:=x.fFont,size:=65536 },inText:=true,lost:=false,text:=Iz x,line:=Iz x } [] (Qm x.fBytes++([32,84,106,10,69,84,10]++y)) { v with s:={ v.s with font:=x.fFont,size:=65536 },inText:=true,lost:=false,text:=Iz x,line:=Iz x } ([]++[K8 5 0 x.fBytes]) ([84,106]++10::([69,84]++10::y)) :=
  PD (λa hp=>A22 hp hx.bytes.2) (by simp [Qm]) ((J3 _).trans (A2W.hd _)) (by simp)
 refine ⟨_,rfl,?_⟩
 have:=((((j.trans k).trans m).trans o).trans q).trans t
 rw [show Ju x++y=[66,84]++10::((47::70::E9 x.fFont)++(32::([49]++32::([84,102]++10::(CX (Ej x) [84,109]++(Qm x.fBytes++([32,84,106,10,69,84,10]++y))))))) by simp [Ju]]
 exact this
theorem S0 {v:Vw} {x:AN} (hi:v.inText=true):KK sum fs v [K8 5 0 x.fBytes] [84,106]=FX sum v [K8 5 0 x.fBytes]:=by
 rw [Ow dD,MN hi dD,A2 dD,A2 dD,A2 dD,A2 dD]
theorem OG {v:Vw} {x:AN} (hx:A1J x) (hf:v.s.font=x.fFont) (hl:v.lost=false):FX sum v [K8 5 0 x.fBytes]=PR sum v x.fBytes:=by
 unfold FX
 show (CS (true && decide (v.s.font ≥ 0) && !v.lost)>>=λ_=>if x.fBytes=[] then _ else _)=_
 rw [hf,hl,Al (show x.fFont ≥ 0 from hx.font.1),show CS (true && true && !false)=.ok () from rfl,Iv,A2 hx.bytes.1]
 rfl
theorem A5S {v:Vw} {x:AN} {y:l8_} (hdx:Am dx=true) (hdy:Am dy=true) (hi:v.inText=false) (hm:v.s.ctm=It dx dy) (hx:A1J x) (hft:MH fs x.fFont) (hn:v.items.length<4096) (hy:Hd y) (ho:Am (x.fMatrix_4+dx)=true/\Am (x.fMatrix_5+dy)=true) :
  ∃ v',E2 sum fs l v [] (Ju x++y) v' [] y/\v'.inText=false/\v'.clip=v.clip/\v'.path=v.path/\v'.saved=v.saved/\v'.s={ v.s with font:=x.fFont,size:=65536 } /\
   v'.items=v.items++[Il v.s.fill v.s.clips x.fFont ⟨x.fMatrix_0,x.fMatrix_1,x.fMatrix_2,x.fMatrix_3,x.fMatrix_4+dx,x.fMatrix_5+dy⟩ x.fBytes]:=by
 obtain ⟨a,b,i⟩:=WA (sum:=sum) (l:=l) (v:=v) (x:=x) (y:=y) hi hx hft
 have hM:=RS hx.mat
 have e:PR sum a x.fBytes=.ok { { a with items:=a.items++[Il v.s.fill v.s.clips x.fFont ⟨x.fMatrix_0,x.fMatrix_1,x.fMatrix_2,x.fMatrix_3,x.fMatrix_4+dx,x.fMatrix_5+dy⟩ x.fBytes] } with lost:=(L5 sum a x.fBytes).2,text:=(L5 sum a x.fBytes).1 }:=by
  unfold PR
  rw [show a.s.size=65536 by rw [b],show a.text=Iz x by rw [b],Xa hM,Iv,show a.s.ctm=It dx dy by rw [b];exact hm,(YL hdx hdy hM).1 ho,Iv,YM (by rw [b];exact hn),Iv]
  subst b
  rfl
 have f:E2 sum fs l a [K8 5 0 x.fBytes] ([84,106]++10::([69,84]++10::y)) { { a with items:=a.items++[Il v.s.fill v.s.clips x.fFont ⟨x.fMatrix_0,x.fMatrix_1,x.fMatrix_2,x.fMatrix_3,x.fMatrix_4+dx,x.fMatrix_5+dy⟩ x.fBytes] } with lost:=(L5 sum a x.fBytes).2,text:=(L5 sum a x.fBytes).1 } [] ([69,84]++10::y):=by
  refine Sb A2W (Qg _) (by rw [KO];exact A6F.hd _) ?_
  rw [S0 (by rw [b]),OG hx (by rw [b]) (by rw [b]),e]
 have g:a.inText=true:=by rw [b]
 obtain ⟨c,d⟩:∃ c,c=({ { a with items:=a.items++[Il v.s.fill v.s.clips x.fFont ⟨x.fMatrix_0,x.fMatrix_1,x.fMatrix_2,x.fMatrix_3,x.fMatrix_4+dx,x.fMatrix_5+dy⟩ x.fBytes] } with lost:=(L5 sum a x.fBytes).2,text:=(L5 sum a x.fBytes).1 }:Vw):=⟨_,rfl⟩
 rw [<- d] at f
 have j:E2 sum fs l c [] ([69,84]++10::y) { c with inText:=false } [] y:=Km A6F hy (by
  rw [Ow dD,MN (v:=c) (by rw [d];exact g) dD,A7 rfl,Ig,Iv])
 refine ⟨_,(i.trans f).trans j,rfl,?_,?_,?_,?_,?_⟩
 all_goals (subst d b;rfl)
theorem A4h {v:Vw} {x:AN} {y:l8_} (hdx:Am dx=true) (hdy:Am dy=true) (hi:v.inText=false) (hm:v.s.ctm=It dx dy) (hx:A1J x) (hft:MH fs x.fFont) (ho:¬ (Am (x.fMatrix_4+dx)=true/\Am (x.fMatrix_5+dy)=true)) :
  Bad sum fs l v [] (Ju x++y):=by
 obtain ⟨b,a,c⟩:=WA (sum:=sum) (l:=l) (v:=v) (x:=x) (y:=y) hi hx hft
 have hM:=RS hx.mat
 refine c.bad (A4i A2W (Qg _) (k:=22) ?_ dD)
 rw [S0 (by rw [a]),OG hx (by rw [a]) (by rw [a])]
 unfold PR
 rw [show b.s.size=65536 by rw [a],show b.text=Iz x by rw [a],Xa hM,Iv,show b.s.ctm=It dx dy by rw [a];exact hm,(YL hdx hdy hM).2 ho]
 rfl
structure SD where
 fill:Cj
 stroke:Cj
 pen:DP
structure P4 where
 so:SD
 outer:SD
 clips:List Bm
def so0:SD:=⟨MC 1,MC 1,Vp.s.pen⟩
def Hi:P4:=⟨so0,so0,[]⟩
def qB (st:P4) (x:AN):Bool:=decide (x.fClips.length<st.clips.length) || !A43 st.clips (x.fClips.take st.clips.length)
def nC (st:P4) (x:AN):Nat:=if qB st x then 0 else st.clips.length
def H0 (st:P4) (x:AN):SD:=if qB st x then st.outer else st.so
def gB (st:P4) (x:AN):Bool:=decide (nC st x=0) && !x.fClips.isEmpty
def kW (so:SD) (x:AN):l8_:=if x.fKind=3 then (if x.fColor≠so.stroke then OW true x.fColor else [])++Nf so.pen x.fPen else (if x.fColor≠so.fill then OW false x.fColor else [])
def Tx (so:SD) (x:AN):SD:=if x.fKind=3 then { so with stroke:=x.fColor,pen:=x.fPen } else { so with fill:=x.fColor }
def oW (x:AN):l8_:=if x.fKind=1 then [102,10] else if x.fKind=2 then [102,42,10] else if x.fKind=3 then [83,10] else Ju x
def LW (st:P4) (x:AN):l8_ :=
 (if qB st x then [81,10] else [])++((if gB st x then [113,10] else [])++((x.fClips.drop (nC st x)).flatMap FD++(kW (H0 st x) x++(Ed x.fPath++oW x))))
def NW (st:P4) (x:AN):P4:=⟨Tx (H0 st x) x,if gB st x then H0 st x else st.outer,x.fClips⟩
def FC:P4->List AN->l8_
 | st,[]=>if st.clips.isEmpty then [] else [81,10]
 | st,x::r=>LW st x++FC (NW st x) r
structure SoM (s:SB) (so:SD):Prop where
 fill:s.fill=so.fill
 stroke:s.stroke=so.stroke
 pen:FM s.pen=FM so.pen
structure VI (dx dy:Int) (st:P4) (its:List AN) (v:Vw):Prop where
 inText:v.inText=false
 clip:v.clip=0
 path:v.path.list=[]
 ctm:v.s.ctm=It dx dy
 so:SoM v.s st.so
 clips:v.s.clips=st.clips.map (Q5 dx dy)
 cok:∀ c∈st.clips,Q4 dx dy c=true
 saved:(st.clips=[]/\v.saved=[])\/(st.clips≠[]/\∃ s0,v.saved=[s0]/\SoM s0 st.outer/\s0.clips=[]/\s0.ctm=It dx dy)
 items:v.items=its
theorem A8O {a b:Bm} (h:FL a=FL b):Q5 dx dy a=Q5 dx dy b/\Q4 dx dy a=Q4 dx dy b:=by
 unfold FL at h
 simp only [Bm.mk.injEq] at h
 unfold Q5 Q4
 rw [h.2.1,h.2.2.2]
 exact ⟨rfl,rfl⟩
theorem Zo:∀ {a b:List Bm},a.map FL=b.map FL->a.map (Q5 dx dy)=b.map (Q5 dx dy)/\((∀ c∈a,Q4 dx dy c=true)->∀ c∈b,Q4 dx dy c=true)
 | [],[],_=>⟨rfl,λh=>h⟩
 | [],b::s,h=>by cases h
 | a::r,[],h=>by cases h
 | a::r,b::s,h=>by
  rw [C3,C3,DT] at h
  obtain ⟨e1,e2⟩:=A8O (dx:=dx) (dy:=dy) h.1
  obtain ⟨i1,i2⟩:=Zo h.2
  refine ⟨by rw [C3,C3,e1,i1],λhc c hm=>?_⟩
  rcases Ax.1 hm with rfl | hm
  · rw [<- e2];exact hc a (by simp)
  · exact i2 (λc hc'=>hc c (by simp [hc'])) c hm
end
end
section
section
variable {sum:Int->l8_->Int} {fs:List LO} {l:l8_} {dx dy:Int}
theorem Lc:∀ cs:List Bm,(∀ c∈cs,Fo c=true)->M8 (cs.flatMap FD)
 | [],_=>.nil
 | c::cs,h=>by
  rw [CG]
  exact (A46 (h c (by simp))).app (Lc cs λd hd=>h d (by simp [hd]))
theorem WB (hdx:Am dx=true) (hdy:Am dy=true):∀ (cs:List Bm) (v:Vw) {y:l8_},v.inText=false->v.clip=0->v.path.list=[]->v.s.ctm=It dx dy->(∀ c∈cs,Fo c=true)->v.s.clips.length+cs.length<=16->(∀ c∈cs,Q4 dx dy c=true)->Hd y ->
  ∃ v',E2 sum fs l v [] (cs.flatMap FD++y) v' [] y/\v'.inText=false/\v'.clip=0/\v'.path.list=[]/\v'.saved=v.saved/\v'.items=v.items/\v'.s={ v.s with clips:=v.s.clips++cs.map (Q5 dx dy) }
 | [],v,y,hi,hc,hp,_,_,_,_,_=>⟨v,E2.refl _ _ _,hi,hc,hp,rfl,rfl,by rw [Da,Bv]⟩
 | c::cs,v,y,hi,hc,hp,hm,hk,hl,ho,hy=>by
  rw [A8] at hl
  have g1:=ZB (sum:=sum) (fs:=fs) (l:=l) (v:=v) (c:=c) (y:=cs.flatMap FD++y) hdx hdy hi hm hp (hk c (by simp)) oO (Lc cs (λd hd=>hk d (by simp [hd])) y hy) (ho c (by simp))
  obtain ⟨v',g2,e1,e2,e3,e4,e5,e6⟩:=WB hdx hdy cs { v with s:={ v.s with clips:=v.s.clips++[Q5 dx dy c] },clip:=0,path:=Ie } (y:=y) hi rfl rfl hm (λd hd=>hk d (by simp [hd])) (by
   show (v.s.clips++[Q5 dx dy c]).length+cs.length<=16
   rw [A9,Ck];omega) (λd hd=>ho d (by simp [hd])) hy
  refine ⟨v',?_,e1,e2,e3,e4,e5,?_⟩
  · rw [CG,AB];exact g1.trans g2
  ·
   rw [e6]
   show ({ v.s with clips:=v.s.clips++[Q5 dx dy c]++cs.map (Q5 dx dy) }:SB)=_
   rw [AB];rfl
theorem Uf (hdx:Am dx=true) (hdy:Am dy=true):∀ (cs:List Bm) (v:Vw) {y:l8_},v.inText=false->v.clip=0->v.path.list=[]->v.s.ctm=It dx dy->(∀ c∈cs,Fo c=true)->v.s.clips.length+cs.length<=16->cs.all (Q4 dx dy)=false->Hd y ->
  Bad sum fs l v [] (cs.flatMap FD++y)
 | [],v,y,_,_,_,_,_,_,ho,_=>by cases ho
 | c::cs,v,y,hi,hc,hp,hm,hk,hl,ho,hy=>by
  rw [A8] at hl
  rw [CG,AB]
  cases h1:Q4 dx dy c with
  | false=>exact A4l hdx hdy hi hm hp (hk c (by simp)) h1
  | true =>
   rw [B8,h1,BV] at ho
   have g1:=ZB (sum:=sum) (fs:=fs) (l:=l) (v:=v) (c:=c) (y:=cs.flatMap FD++y) hdx hdy hi hm hp (hk c (by simp)) oO (Lc cs (λd hd=>hk d (by simp [hd])) y hy) h1
   exact g1.bad (Uf hdx hdy cs { v with s:={ v.s with clips:=v.s.clips++[Q5 dx dy c] },clip:=0,path:=Ie } (y:=y) hi rfl rfl hm (λd hd=>hk d (by simp [hd])) (by
    show (v.s.clips++[Q5 dx dy c]).length+cs.length<=16
    rw [A9,Ck];omega) ho hy)
structure VM (dx dy:Int) (so outer:SD) (cl all:List Bm) (its:List AN) (v:Vw):Prop where
 inText:v.inText=false
 clip:v.clip=0
 path:v.path.list=[]
 ctm:v.s.ctm=It dx dy
 so:SoM v.s so
 clips:v.s.clips=cl.map (Q5 dx dy)
 saved:(all=[]/\v.saved=[])\/(all≠[]/\∃ s0,v.saved=[s0]/\SoM s0 outer/\s0.clips=[]/\s0.ctm=It dx dy)
 items:v.items=its
theorem A7d {st:P4} {x:AN} (h:qB st x=true):st.clips≠[]:=λe=>by
 unfold qB at h
 rw [e] at h
 simp [A43,KJ] at h
theorem A6y {st:P4} {x:AN} (h:qB st x=false):st.clips.length<=x.fClips.length/\st.clips.map FL=(x.fClips.take st.clips.length).map FL:=by
 unfold qB at h
 rw [Ee,Aw,BT] at h
 exact ⟨oO,ZO.1 h.2⟩
theorem A3z {st:P4} {its:List AN} {v:Vw} {x:AN} (h:VI dx dy st its v) (hz:Hd z) :
    ∃ vb,E2 sum fs l v [] ((if qB st x then [81,10] else [])++((if gB st x then [113,10] else [])++z)) vb [] z /\
      VM dx dy (H0 st x) (if gB st x then H0 st x else st.outer) (x.fClips.take (nC st x)) x.fClips its vb/\(∀ c∈x.fClips.take (nC st x),Q4 dx dy c=true):=by
  have u:Hd ((if gB st x then [113,10] else [])++z):=by
    split
    · exact A7l.hd (10::z)
    · exact hz
  have hQ:∃ va,E2 sum fs l v [] ((if qB st x then [81,10] else [])++((if gB st x then [113,10] else [])++z)) va [] ((if gB st x then [113,10] else [])++z) /\
      va.inText=false/\va.clip=0/\va.path.list=[]/\va.s.ctm=It dx dy/\SoM va.s (H0 st x)/\va.s.clips=(x.fClips.take (nC st x)).map (Q5 dx dy)/\va.items=its/\(∀ c∈x.fClips.take (nC st x),Q4 dx dy c=true) /\
      ((nC st x=0/\va.saved=[])\/(nC st x≠0/\x.fClips≠[]/\∃ b,va.saved=[b]/\SoM b st.outer/\b.clips=[]/\b.ctm=It dx dy)):=by
    cases hq:qB st x with
    | true =>
      have f:=A7d hq
      rcases h.saved with ⟨e,-⟩ | ⟨-,b,a,j,D,E⟩
      · exact D6 e f
      · have hn : nC st x = 0 := by unfold nC; rw [hq]; rfl
        have hs:H0 st x=st.outer:=by unfold H0;rw [hq];rfl
        refine ⟨{ v with s:=b,saved:=[] },A8W h.inText a u,h.inText,h.clip,h.path,E,hs▸j,?_,h.items,?_,.inl ⟨hn,rfl⟩⟩
        · rw [hn];exact D
        · rw [hn];intro c hc;cases hc
    | false =>
      obtain ⟨i,he⟩:=A6y hq
      have hn:nC st x=st.clips.length:=by unfold nC;rw [hq];rfl
      have hs:H0 st x=st.so:=by unfold H0;rw [hq];rfl
      obtain ⟨F,G⟩:=Zo (dx:=dx) (dy:=dy) he
      refine ⟨v,E2.refl _ _ _,h.inText,h.clip,h.path,h.ctm,hs▸h.so,by rw [hn,h.clips,F],h.items,hn▸G h.cok,?_⟩
      rcases h.saved with ⟨e,a⟩ | ⟨e,a⟩
      · exact .inl ⟨by rw [hn,e];rfl,a⟩
      · refine .inr ⟨by rw [hn]; exact fun k => e (CB.1 k), fun k => ?_, a⟩
        rw [k] at i
        exact e (CB.1 (by simpa using i))
  obtain ⟨va,g,m,w,y,o,q,t,A,B,C⟩:=hQ
  cases hg:gB st x with
  | true =>
    have hg':=hg
    unfold gB at hg'
    rw [A4,Ad,AP] at hg'
    have f:x.fClips≠[]:=λe=>by rw [e] at hg';cases hg'.2
    rcases C with ⟨d,a⟩ | ⟨d,-⟩
    · rw [hg] at g
      refine ⟨{ va with saved:=va.s::va.saved },g.trans (A9Y m (by rw [a];decide) hz),⟨m,w,y,o,q,t,.inr ⟨f,va.s,by rw [a],q,by rw [t,d];rfl,o⟩,A⟩,B⟩
    · exact D6 hg'.1 d
  | false =>
    rw [hg] at g
    refine ⟨va,g,⟨m,w,y,o,q,t,?_,A⟩,B⟩
    rcases C with ⟨d,a⟩ | ⟨d,j,a⟩
    · left
      refine ⟨?_,a⟩
      have hg':=hg
      unfold gB at hg'
      rw [Al d,BV,BT] at hg'
      exact List.isEmpty_iff.1 hg'
    · exact .inr ⟨j,a⟩
theorem Wt {so:SD} {x:AN} (hx:JD x):M8 (kW so x):=by
 unfold kW
 refine .ite (λhk=>?_) (λ_=>.ite (λ_=>ZN _ hx.col) (λ_=>.nil))
 exact (M8.ite (λ_=>ZN _ hx.col) (λ_=>.nil)).app (Zj ((hx.pnt oO).pen hk))
theorem A3A {so outer:SD} {its:List AN} {v:Vw} {x:AN} {n:Nat} (hdx:Am dx=true) (hdy:Am dy=true) (h:VM dx dy so outer (x.fClips.take n) x.fClips its v) (hx:JD x) (hz:Hd z) (ho:∀ c∈x.fClips,Q4 dx dy c=true) :
  ∃ vd,E2 sum fs l v [] ((x.fClips.drop n).flatMap FD++(kW so x++z)) vd [] z/\VM dx dy (Tx so x) outer x.fClips x.fClips its vd:=by
 have F:=hx.cl
 have k:v.s.clips.length+(x.fClips.drop n).length<=16:=by
  rw [h.clips,B0,AT,B9];omega
 obtain ⟨a,B,m,o,t,C,D,u⟩:=WB (sum:=sum) (fs:=fs) (l:=l) hdx hdy (x.fClips.drop n) v (y:=kW so x++z) h.inText h.clip h.path h.ctm (λc hc=>hx.clips c (DL hc)) k (λc hc=>ho c (DL hc)) (Wt hx z hz)
 have e:a.s.clips=x.fClips.map (Q5 dx dy):=by
  rw [u]
  show v.s.clips++_=_
  rw [h.clips,<- Bp,Fh]
 have f:a.s.ctm=It dx dy:=by rw [u];exact h.ctm
 have b:SoM a.s so:=by rw [u];exact ⟨h.so.fill,h.so.stroke,h.so.pen⟩
 have g:(x.fClips=[]/\a.saved=[])\/(x.fClips≠[]/\∃ s0,a.saved=[s0]/\SoM s0 outer/\s0.clips=[]/\s0.ctm=It dx dy):=by rw [C];exact h.saved
 have i:a.items=its:=by rw [D];exact h.items
 have key:∃ vd,E2 sum fs l a [] (kW so x++z) vd [] z/\VM dx dy (Tx so x) outer x.fClips x.fClips its vd:=by
  unfold kW Tx
  by_cases hk:x.fKind=3
  ·
   rw [A7 hk,A7 hk]
   have hp:=(hx.pnt oO).pen hk
   have w:=Zj (old:=so.pen) hp z hz
   have gc:∃ d,E2 sum fs l a [] ((if x.fColor≠so.stroke then OW true x.fColor else [])++(Nf so.pen x.fPen++z)) d [] (Nf so.pen x.fPen++z)/\d={ a with s:={ a.s with stroke:=x.fColor } }:=by
    by_cases hc:x.fColor≠so.stroke
    ·
     rw [A7 hc]
     exact ⟨_,A3B true hx.col w,rfl⟩
    ·
     rw [A2 hc]
     refine ⟨a,E2.refl _ _ _,?_⟩
     have:a.s.stroke=x.fColor:=b.stroke.trans (Classical.not_not.1 hc).symm
     rw [<- this]
   obtain ⟨d,gc,j⟩:=gc
   have A:FM d.s.pen=FM so.pen:=by rw [j];exact b.pen
   obtain ⟨q,hq,gp⟩:=A7A (sum:=sum) (fs:=fs) (l:=l) (v:=d) (old:=so.pen) (p:=x.fPen) (y:=z) hp A hz
   refine ⟨setPen d q,?_,?_⟩
   · rw [AB];exact gc.trans gp
   ·
    subst j
    exact ⟨m,o,t,f,⟨b.fill,rfl,hq⟩,e,g,i⟩
  ·
   rw [A2 hk,A2 hk]
   by_cases hc:x.fColor≠so.fill
   ·
    rw [A7 hc]
    exact ⟨_,A3B false hx.col hz,⟨m,o,t,f,⟨rfl,b.stroke,b.pen⟩,e,g,i⟩⟩
   ·
    rw [A2 hc]
    exact ⟨a,E2.refl _ _ _,⟨m,o,t,f,⟨b.fill.trans (Classical.not_not.1 hc).symm,b.stroke,b.pen⟩,e,g,i⟩⟩
 obtain ⟨vd,E,hv⟩:=key
 exact ⟨vd,B.trans E,hv⟩
theorem Wl (x:AN):M8 (oW x):=by
 unfold oW
 refine .ite (λ_ y _=>A8E.hd _) (λ_=>.ite (λ_ y _=>A6B.hd _) (λ_=>.ite (λ_ y _=>A8G.hd _) (λ_ y _=>?_)))
 exact Hd.cons dD dD
theorem UK {x:AN} (hx:JD x):M8 (Ed x.fPath):=by
 by_cases hk:x.fKind=4
 · rw [(hx.txt hk).path];exact .nil
 · exact .path (hx.pnt hk).segs
theorem A5U {so outer:SD} {its:List AN} {v:Vw} {x:AN} (hdx:Am dx=true) (hdy:Am dy=true) (h:VM dx dy (Tx so x) outer x.fClips x.fClips its v) (hx:JD x) (hft:x.fKind=4->MH fs x.fFont) (hn:its.length<4096) (hz:Hd z) (ho:Q3 dx dy x=true) :
    ∃ v',E2 sum fs l v [] (Ed x.fPath++(oW x++z)) v' [] z/\VI dx dy ⟨Tx so x,outer,x.fClips⟩ (its++[SG dx dy x]) v':=by
  unfold Q3 at ho
  rw [A4,A4] at ho
  obtain ⟨⟨E,F⟩,u⟩:=ho
  have f:∀ c∈x.fClips,Q4 dx dy c=true:=At.1 F
  by_cases hk:x.fKind=4
  · have ht := hx.txt hk
    rw [Al hk,Bool.not_true,Bool.false_or,A4] at u
    obtain ⟨v',g,O,P,Q,R,C,T⟩:=A5S (sum:=sum) (l:=l) (v:=v) (x:=x) (y:=z) hdx hdy h.inText h.ctm ht (hft hk) (by rw [h.items];exact hn) hz u
    have eo:oW x=Ju x:=by unfold oW;rw [A2 oO,A2 oO,A2 oO]
    rw [ht.path,eo]
    refine ⟨v',g,⟨O,P.trans h.clip,by rw [Q];exact h.path,by rw [C];exact h.ctm,by rw [C];exact ⟨h.so.fill,h.so.stroke,h.so.pen⟩,by rw [C];exact h.clips,f,by rw [R];exact h.saved,?_⟩⟩
    rw [T,h.items]
    congr 1
    have hf:v.s.fill=x.fColor:=by rw [h.so.fill];unfold Tx;rw [A2 oO]
    unfold SG Il
    rw [hf,h.clips,A7 hk,A7 hk,hk,ht.path,ht.pen]
    rfl
  · have hp := hx.pnt hk
    obtain ⟨p,i,t⟩:=UX (sum:=sum) (fs:=fs) (l:=l) hdx hdy x.fPath v (y:=oW x++z) h.inText h.ctm (by rw [h.path];exact hp.segs) (by rw [h.path];simpa using hp.len) (Wl x z hz) E
    rw [h.path,CJ] at i
    have o:p.list≠[]:=λe=>by
      rw [i] at e
      exact hp.path (List.map_eq_nil_iff.1 e)
    obtain ⟨G,H,J,K,L,M⟩:=hp.mat
    by_cases hk3:x.fKind=3
    · have hs : v.s.stroke = x.fColor := by rw [h.so.stroke]; unfold Tx; rw [A7 hk3]
      have A:FM v.s.pen=FM x.fPen:=by have:=h.so.pen;unfold Tx at this;rw [A7 hk3] at this;exact this
      have N:M7 v.s.pen:=by
        have q:=hp.pen hk3
        have e:∀ {a b:DP},FM a=FM b->M7 b->M7 a:=λ{a b} e q=>by
          unfold FM at e
          simp only [DP.mk.injEq] at e
          obtain ⟨f1,f2,f3,f4,-,f5,-,f6⟩:=e
          exact ⟨by rw [f1];exact q.w,by rw [f2];exact q.c,by rw [f3];exact q.j,by rw [f4];exact q.m,by rw [f6];exact q.ph,by rw [f5];exact q.d,by rw [f5];exact q.dl,by rw [f5];exact q.ds⟩
        exact e A q
      have D:=A1h (sum:=sum) (fs:=fs) (l:=l) (v:=KB v p) (y:=z) h.inText h.clip o h.ctm N (by show v.items.length<4096;rw [h.items];exact hn) hz
      have eo:oW x=[83,10]:=by unfold oW;rw [A2 oO,A2 oO,A7 hk3]
      rw [eo] at t ⊢
      refine ⟨_,t.trans D,⟨h.inText,rfl,rfl,h.ctm,h.so,h.clips,f,h.saved,?_⟩⟩
      show v.items++[FJ 3 p.list v.s.stroke (FM v.s.pen) v.s.clips]=_
      rw [h.items,i,hs,A,h.clips]
      unfold FJ SG
      rw [A2 hk,A2 hk,hk3,hp.font,G,H,J,K,L,M,hp.bytes]
    · have B : x.fKind = 1 ∨ x.fKind = 2 := by rcases hp.kind with h | h | h; exact .inl h; exact .inr h; exact D6 h hk3
      have hf:v.s.fill=x.fColor:=by rw [h.so.fill];unfold Tx;rw [A2 hk3]
      have D:=A5T (sum:=sum) (fs:=fs) (l:=l) (v:=KB v p) (k:=x.fKind) (y:=z) B h.inText h.clip o (by show v.items.length<4096;rw [h.items];exact hn) hz
      have eo:oW x=if x.fKind=1 then [102,10] else [102,42,10]:=by unfold oW;rcases B with e | e <;> rw [e] <;> rfl
      rw [eo] at t ⊢
      refine ⟨_,t.trans D,⟨h.inText,rfl,rfl,h.ctm,h.so,h.clips,f,h.saved,?_⟩⟩
      show v.items++[FJ x.fKind p.list v.s.fill K9 v.s.clips]=_
      rw [h.items,i,hf,h.clips]
      unfold FJ SG
      rw [A2 hk,A2 hk,hp.font,G,H,J,K,L,M,hp.bytes,hp.none hk3]
theorem A6k {so outer:SD} {its:List AN} {v:Vw} {x:AN} (hdx:Am dx=true) (hdy:Am dy=true) (h:VM dx dy (Tx so x) outer x.fClips x.fClips its v) (hx:JD x) (hft:x.fKind=4->MH fs x.fFont) (hz:Hd z) (hc:x.fClips.all (Q4 dx dy)=true) (ho:Q3 dx dy x=false) :
  Bad sum fs l v [] (Ed x.fPath++(oW x++z)):=by
 unfold Q3 at ho
 rw [hc,Bool.and_true] at ho
 by_cases hk:x.fKind=4
 ·
  have ht:=hx.txt hk
  rw [Al hk,ht.path,List.all_nil,BV,Bool.not_true,Bool.false_or] at ho
  have eo:oW x=Ju x:=by unfold oW;rw [A2 oO,A2 oO,A2 oO]
  rw [ht.path,eo]
  exact A4h hdx hdy h.inText h.ctm ht (hft hk) (λa=>by rw [a.1,a.2] at ho;cases ho)
 ·
  have hp:=hx.pnt hk
  rw [An hk,Bool.not_false,Bool.true_or,Bool.and_true] at ho
  exact Sv hdx hdy x.fPath v h.inText h.ctm (by rw [h.path];exact hp.segs) (by rw [h.path];simpa using hp.len) (Wl x z hz) ho
theorem Zz {st:P4} {its:List AN} {v:Vw} {x:AN} (hdx:Am dx=true) (hdy:Am dy=true) (h:VI dx dy st its v) (hx:JD x) (hft:x.fKind=4->MH fs x.fFont) (hn:its.length<4096) (hz:Hd z) (ho:Q3 dx dy x=true) :
  ∃ v',E2 sum fs l v [] (LW st x++z) v' [] z/\VI dx dy (NW st x) (its++[SG dx dy x]) v':=by
 have ho':=ho
 unfold Q3 at ho'
 rw [A4,A4] at ho'
 have a:Hd (Ed x.fPath++(oW x++z)):=UK hx _ (Wl x z hz)
 have b:Hd ((x.fClips.drop (nC st x)).flatMap FD++(kW (H0 st x) x++(Ed x.fPath++(oW x++z)))):=Lc _ (λc hc=>hx.clips c (DL hc)) _ (Wt hx _ a)
 obtain ⟨vb,d,e,-⟩:=A3z (sum:=sum) (fs:=fs) (l:=l) (x:=x) h b
 obtain ⟨vd,f,g⟩:=A3A (sum:=sum) (fs:=fs) (l:=l) hdx hdy e hx a (At.1 ho'.1.2)
 obtain ⟨v',i,j⟩:=A5U (sum:=sum) (fs:=fs) (l:=l) hdx hdy g hx hft hn hz ho
 refine ⟨v',?_,j⟩
 have:=(d.trans f).trans i
 unfold LW
 simp only [AB] at this ⊢
 exact this
theorem A4k {st:P4} {its:List AN} {v:Vw} {x:AN} (hdx:Am dx=true) (hdy:Am dy=true) (h:VI dx dy st its v) (hx:JD x) (hft:x.fKind=4->MH fs x.fFont) (hz:Hd z) (ho:Q3 dx dy x=false) :
  Bad sum fs l v [] (LW st x++z):=by
 have f:Hd (Ed x.fPath++(oW x++z)):=UK hx _ (Wl x z hz)
 have j:Hd ((x.fClips.drop (nC st x)).flatMap FD++(kW (H0 st x) x++(Ed x.fPath++(oW x++z)))):=Lc _ (λc hc=>hx.clips c (DL hc)) _ (Wt hx _ f)
 obtain ⟨vb,k,a,i⟩:=A3z (sum:=sum) (fs:=fs) (l:=l) (x:=x) h j
 have e:LW st x++z=(if qB st x then [81,10] else [])++((if gB st x then [113,10] else [])++((x.fClips.drop (nC st x)).flatMap FD++(kW (H0 st x) x++(Ed x.fPath++(oW x++z))))):=by
  unfold LW;simp only [AB]
 rw [e]
 refine k.bad ?_
 cases hc:(x.fClips.drop (nC st x)).all (Q4 dx dy) with
 | false =>
  refine Uf hdx hdy _ vb a.inText a.clip a.path a.ctm (λc hc=>hx.clips c (DL hc)) ?_ hc (Wt hx _ f)
  have:=hx.cl
  rw [a.clips,B0,AT,B9];omega
 | true =>
  have b:∀ c∈x.fClips,Q4 dx dy c=true:=λc d=>by
   rw [<- Fh (nC st x) x.fClips] at d
   rcases B4.1 d with g | g
   · exact i c g
   · exact At.1 hc c g
  obtain ⟨vd,m,o⟩:=A3A (sum:=sum) (fs:=fs) (l:=l) hdx hdy a hx f b
  exact m.bad (A6k hdx hdy o hx hft hz (At.2 b) ho)
theorem A3n {st:P4} {x:AN} (hx:JD x):M8 (LW st x):=by
 unfold LW
 refine (M8.ite (λ_=>M8.op A7n [10]) (λ_=>.nil)).app ((M8.ite (λ_=>M8.op A7l [10]) (λ_=>.nil)).app ((Lc _ (λc hc=>hx.clips c (DL hc))).app ((Wt hx).app ((UK hx).app (Wl x)))))
theorem OU:∀ (xs:List AN) (st:P4),(∀ x∈xs,JD x)->Hd (FC st xs)
 | [],st,_=>by
  unfold FC
  split
  · exact Hd.nil
  · exact A7n.hd [10]
 | x::xs,st,h=>by
  unfold FC
  exact A3n (h x (by simp)) _ (OU xs _ λy hy=>h y (by simp [hy]))
theorem ZA (hdx:Am dx=true) (hdy:Am dy=true):∀ (xs:List AN) (st:P4) (its:List AN) (v:Vw),VI dx dy st its v->(∀ x∈xs,JD x)->(∀ x∈xs,x.fKind=4->MH fs x.fFont)->its.length+xs.length<=4096->xs.all (Q3 dx dy)=true ->
    ∃ v',E2 sum fs l v [] (FC st xs) v' [] []/\v'.saved=[]/\v'.inText=false/\v'.items=its++xs.map (SG dx dy)
  | [],st,its,v,h,_,_,_,_=>by
    unfold FC
    rcases h.saved with ⟨e,e1⟩ | ⟨e,s0,e1,-⟩
    · rw [e]
      exact ⟨v,E2.refl _ _ _,e1,h.inText,by rw [h.items];simp⟩
    · rw [A2 (by rw [List.isEmpty_iff]; exact e)]
      exact ⟨_,A8W (y:=[]) h.inText e1 Hd.nil,rfl,h.inText,by rw [Da,Bv];exact h.items⟩
  | x::xs,st,its,v,h,hx,hf,hn,ho=>by
    rw [B8,A4] at ho
    rw [A8] at hn
    obtain ⟨v1,g1,h1⟩:=Zz (sum:=sum) (fs:=fs) (l:=l) hdx hdy h (hx x (by simp)) (hf x (by simp)) oO (OU xs (NW st x) λy hy=>hx y (by simp [hy])) ho.1
    obtain ⟨v2,g2,e1,e2,e3⟩:=ZA hdx hdy xs (NW st x) _ v1 h1 (λy hy=>hx y (by simp [hy])) (λy hy=>hf y (by simp [hy])) (by rw [A9,Ck];omega) ho.2
    exact ⟨v2,g1.trans g2,e1,e2,by rw [e3];simp⟩
theorem Xc (hdx:Am dx=true) (hdy:Am dy=true):∀ (xs:List AN) (st:P4) (its:List AN) (v:Vw),VI dx dy st its v->(∀ x∈xs,JD x)->(∀ x∈xs,x.fKind=4->MH fs x.fFont)->its.length+xs.length<=4096->xs.all (Q3 dx dy)=false ->
  Bad sum fs l v [] (FC st xs)
 | [],st,its,v,h,_,_,_,ho=>by cases ho
 | x::xs,st,its,v,h,hx,hf,hn,ho=>by
  rw [A8] at hn
  have hz:=OU xs (NW st x) λy hy=>hx y (by simp [hy])
  cases h1:Q3 dx dy x with
  | false=>exact A4k hdx hdy h (hx x (by simp)) (hf x (by simp)) hz h1
  | true =>
   rw [B8,h1,BV] at ho
   obtain ⟨v1,g1,h1⟩:=Zz (sum:=sum) (fs:=fs) (l:=l) hdx hdy h (hx x (by simp)) (hf x (by simp)) oO hz h1
   exact g1.bad (Xc hdx hdy xs (NW st x) _ v1 h1 (λy hy=>hx y (by simp [hy])) (λy hy=>hf y (by simp [hy])) (by rw [A9,Ck];omega) ho)
end
end
section
def cmT (dx dy:Int):l8_:=CX [65536,0,0,65536,dx,dy] [99,109]
theorem A42 (a b:Int):cmT (a * 65536) (b * 65536)=[49,32,48,32,48,32,49,32]++E9 a++[32]++E9 b++[32,99,109,10]:=by
 have c:DC 65536=[49]:=by decide +kernel
 have d:DC 0=[48]:=by decide +kernel
 have hp:∀ n:Int,DC (n * 65536)=E9 n:=λn=>by rw [PU _ oO,Int.mul_ediv_cancel _ dD]
 unfold cmT CX F3
 simp only [CG,List.flatMap_nil,c,d,hp,AB,CJ,G5]
def A1X (dx dy:Int):Vw:={ Vp with s:={ Vp.s with ctm:=It dx dy } }
theorem A8o (dx dy:Int):VI dx dy Hi [] (A1X dx dy):=⟨rfl,rfl,rfl,rfl,⟨rfl,rfl,rfl⟩,rfl,λc hc=>(by cases hc),.inl ⟨rfl,rfl⟩,rfl⟩
theorem A7D  (h1:Am dx=true) (h2:Am dy=true):∀ n∈[65536,0,0,65536,dx,dy],Am n=true:=λn hn=>by
 simp only [Ax,AK,Cl] at hn
 rcases hn with rfl | rfl | rfl | rfl | rfl | rfl
 · exact Oy
 · exact FS
 · exact FS
 · exact Oy
 · exact h1
 · exact h2
theorem A5o  {fs:List LO} (h1:Am dx=true) (h2:Am dy=true):KK sum fs Vp ([65536,0,0,65536,dx,dy].map G7) [99,109]=.ok (A1X dx dy):=by
 unfold KK
 rw [A2 dD,A2 dD,A2 dD,A2 dD]
 rw [show CS (!Vp.inText)=Except.ok () from rfl,Iv,A7 dD]
 unfold FO
 rw [A2 dD,A2 dD]
 unfold RU
 have hn:=KX [65536,0,0,65536,dx,dy] (A7D h1 h2)
 rw [show (6:Nat)=[65536,0,0,65536,dx,dy].length from rfl,hn]
 have hc:=(YL (m:=⟨65536,0,0,65536,dx,dy⟩) FS FS ⟨Oy,FS,FS,Oy,h1,h2⟩).1 ⟨by simpa using h1,by simpa using h2⟩
 show (LF (⟨65536,0,0,65536,dx,dy⟩:M6) (It 0 0)>>=_)=_
 rw [hc,Iv]
 simp only [Int.add_zero]
 rfl
theorem A13  {fs:List LO} {xs:List AN} {l:l8_} (hdx:Am dx=true) (hdy:Am dy=true) (hx:∀ x∈xs,E8 x=true) (hf:∀ x∈xs,x.fKind=4->MH fs x.fFont) (hn:xs.length<=4096) (hl:l=cmT dx dy++FC Hi xs) :
    (xs.all (Q3 dx dy)=true->∃ V,Jm sum fs l (l.length+1) 0 Vp []=.ok V/\V.items=xs.map (SG dx dy))/\(xs.all (Q3 dx dy)=false->∃ k:Int,k≠0/\Jm sum fs l (l.length+1) 0 Vp []=.error k):=by
  have hk:∀ x∈xs,JD x:=λx h=>S5 (hx x h)
  have hc:=OU xs Hi hk
  have c:E2 sum fs l Vp [] (cmT dx dy++FC Hi xs) (A1X dx dy) [] (FC Hi xs):=Lz (A7D hdx hdy) bL A6C hc (A5o hdx hdy)
  have hp:QX l 0 (cmT dx dy++FC Hi xs):=.of (G8 _) (by rw [Nt,hl];exact OD (A7D hdx hdy) A6C _)
  have b:(cmT dx dy++FC Hi xs).length<l.length+1:=by rw [hl];exact Nat.lt_succ_self _
  refine ⟨λho=>?_,λho=>?_⟩
  · obtain ⟨v, g, i, j, m⟩ := ZA (sum := sum) (fs := fs) (l := l) hdx hdy xs Hi [] (A1X dx dy) (A8o dx dy) hk hf (by simpa using hn) ho
    obtain ⟨a,f,d,e,he⟩:=(c.trans g) 0 (l.length+1) hp b
    exact ⟨v,he.trans (A7B d e i j),by rw [m,CJ]⟩
  · exact (c.bad (Xc (sum:=sum) (fs:=fs) (l:=l) hdx hdy xs Hi [] (A1X dx dy) (A8o dx dy) hk hf (by simpa using hn) ho)) 0 (l.length+1) hp b
theorem A59  {s:Cm} {k:Int} (h:HV s k=true) (ho:Pr dx dy s=true):HV (Np dx dy s) k=true:=by
  have hs:=A0u h
  obtain ⟨n,i,e,g⟩:=s
  have hk:=hs.kind
  simp only at hk
  unfold HV at h ⊢
  simp only [B8,List.all_nil,A4,Ad] at h
  rcases hk with rfl | rfl | rfl | rfl
  · have j : BP (GC dx dy i) = true := by simpa [Pr, Ez] using ho
    obtain ⟨⟨⟨-,a⟩,-,b,c,-⟩,d⟩:=h
    have d:([e,g]:List BH).all Hu=true:=d
    show (decide (0<=Hn 1) && ON 1 k && [GC dx dy i,e,g].all BP && ([e,g]:List BH).all Hu)=true
    rw [a,d,B8,B8,B8,j,b,c];rfl
  · have j : BP (GC dx dy i) = true := by simpa [Pr, Ez] using ho
    obtain ⟨⟨⟨-,a⟩,-,b,c,-⟩,d⟩:=h
    have d:([e,g]:List BH).all Hu=true:=d
    show (decide (0<=Hn 2) && ON 2 k && [GC dx dy i,e,g].all BP && ([e,g]:List BH).all Hu)=true
    rw [a,d,B8,B8,B8,j,b,c];rfl
  · have j : BP (GC dx dy i) = true ∧ BP (GC dx dy e) = true ∧ BP (GC dx dy g) = true := by simpa [Pr, Ez] using ho
    obtain ⟨⟨⟨-,a⟩,-⟩,-⟩:=h
    show (decide (0<=Hn 3) && ON 3 k && [GC dx dy i,GC dx dy e,GC dx dy g].all BP && ([]:List BH).all Hu)=true
    rw [a,B8,B8,B8,j.1,j.2.1,j.2.2];rfl
  · obtain ⟨⟨⟨-, a⟩, f, b, c, -⟩, d⟩ := h
    have d:([i,e,g]:List BH).all Hu=true:=d
    show (decide (0<=Hn 4) && ON 4 k && [i,e,g].all BP && ([i,e,g]:List BH).all Hu)=true
    rw [a,d,B8,B8,B8,f,b,c];rfl
theorem VH {dx dy:Int}:∀ {ls:List Cm} {k:Int},DE k ls=true->ls.all (Pr dx dy)=true->DE k (ls.map (Np dx dy))=true
 | [],_,_,_=>rfl
 | s::ls,k,h,ho=>by
  unfold DE at h
  rw [A4] at h
  rw [B8,A4] at ho
  show (HV (Np dx dy s) k && DE (Np dx dy s).fKind (ls.map (Np dx dy)))=true
  rw [A59 h.1 ho.1,RP,VH h.2 ho.2];rfl
theorem Wc  {ls:List Cm} (h:EZ ls=true) (ho:ls.all (Pr dx dy)=true):EZ (ls.map (Np dx dy))=true:=by
 unfold EZ at h ⊢
 rw [A4] at h ⊢
 rw [B0]
 exact ⟨h.1,VH h.2 ho⟩
theorem A47  {c:Bm} (h:Fo c=true) (ho:Q4 dx dy c=true):Fo (Q5 dx dy c)=true:=by
 unfold Fo at h ⊢
 rw [A4] at h ⊢
 refine ⟨?_,Wc h.2 ho⟩
 have:=h.1
 show (!(c.fPath.map (Np dx dy)).isEmpty)=true
 cases hc:c.fPath with
 | nil=>rw [hc] at this;exact this
 | cons a r=>rfl
theorem Ww  {x:AN} (h:E8 x=true) (ho:Q3 dx dy x=true):E8 (SG dx dy x)=true:=by
 unfold Q3 at ho
 rw [A4,A4] at ho
 obtain ⟨⟨j,k⟩,i⟩:=ho
 unfold E8 at h ⊢
 rw [A4,A4] at h ⊢
 obtain ⟨⟨hc,f⟩,h⟩:=h
 refine ⟨⟨hc,?_⟩,?_⟩
 ·
  unfold ET at f ⊢
  rw [A4] at f ⊢
  refine ⟨by rw [show (SG dx dy x).fClips=x.fClips.map (Q5 dx dy) from rfl,B0];exact f.1,At.2 λc hm=>?_⟩
  obtain ⟨d,hd,rfl⟩:=FR.1 (show c∈x.fClips.map (Q5 dx dy) from hm)
  exact A47 (At.1 f.2 d hd) (At.1 k d hd)
 ·
  by_cases hk:x.fKind=4
  ·
   rw [A7 hk,A4,A4] at h
   rw [A7 (show (SG dx dy x).fKind=4 from hk),A4,A4]
   obtain ⟨⟨g,l⟩,m⟩:=h
   rw [Al hk,Bool.not_true,Bool.false_or,A4] at i
   refine ⟨⟨?_,by rw [show (SG dx dy x).fPath=x.fPath.map (Np dx dy) from rfl,B0];exact l⟩,m⟩
   unfold GW Ej SG at *
   rw [A7 hk,A7 hk]
   simp only [B8,List.all_nil,A4,Bool.and_true] at g ⊢
   obtain ⟨f1,o,q,s,t,-,-⟩:=g
   exact ⟨f1,o,q,s,t,i.1,i.2⟩
  ·
   rw [A2 hk,A4] at h
   rw [A2 (show ¬ (SG dx dy x).fKind=4 from hk),A4]
   refine ⟨?_,h.2⟩
   have g:=h.1
   unfold LS at g ⊢
   rw [A4,A4,A4,A4] at g ⊢
   obtain ⟨⟨⟨⟨a,b⟩,c⟩,d⟩,e⟩:=g
   refine ⟨⟨⟨⟨a,?_⟩,c⟩,by rw [show (SG dx dy x).fPath=x.fPath.map (Np dx dy) from rfl,B0];exact d⟩,Wc e j⟩
   unfold OC SG at *
   rw [A2 hk,A2 hk]
   exact b
theorem A1G {xs:List AN} {f:AN->Bool} (hi:i<xs.length) (h:f xs[i]=false):xs.all f=false:=by
 cases ha:xs.all f with
 | false=>rfl
 | true=>rw [At.1 ha _ (AM hi)] at h;cases h
end
section
theorem A9Z:Tryz.prog.eqGuardType Tryz.prog.depth 94=false:=by kernel_rfl
theorem A7F:Tryz.prog.eqGuardType Tryz.prog.depth 37=false:=by kernel_rfl
theorem Qn  (w:World) (d:Nat) (t e:TypeId) (n k:Nat) (cs ds:Array Value) (b:Nat->Bool) (ht:P.underlying t=some (.array n e)) (hsz:∀ w,(sizeOf e).run P w=.ok k w)
  (hp:∀ i,i<n->∃ v u,(part e cs (i * k)).run P w=.ok v w/\(part e ds (i * k)).run P w=.ok u w/\(Op.equalIn (d+1) e v u).run P w=.ok (b i) w) :
  (Op.equalIn (d+2) t (.agg cs) (.agg ds)).run P w=.ok ((List.range' 0 n 1).all b) w:=by
 rw [Op.equalIn]
 simp only [Bq,B7 ht,AX,hsz,Std.Legacy.Range.forIn_eq_forIn_range',Std.Legacy.Range.size,Nat.sub_zero,Nat.add_sub_cancel,Nat.div_one]
 have hl:∀ i∈List.range' 0 n 1,i<n:=λi hi=>by simpa using (List.mem_range'_1.1 hi).2
 generalize List.range' 0 n 1=l at hl ⊢
 induction l with
 | nil=>simp
 | cons i l ih =>
  obtain ⟨v,u,pv,pu,pe⟩:=hp i (hl i (by simp))
  simp only [List.forIn_cons,Bq,pv,pu,pe,AX,B8]
  cases hb:b i with
  | false=>simp
  | true =>
   simp only [Bool.not_true,BN,if_false,CC,AX,BV]
   exact ih λj hj=>hl j (by simp [hj])
theorem A62 (x y:BH) (d:Nat) (w:World):(Op.equalIn (d+3) 57 (.agg (D4 x).toArray) (.agg (D4 y).toArray)).run Tryz.prog w=.ok (Zh x y) w:=by
 unfold D4 Zh
 by_cases h1:x.fX=y.fX
 · by_cases h2:x.fY=y.fY <;> simp only [h1,h2] <;> go_simp
 · simp only [h1] ;go_simp
def Y8 (s:Cm):List Value:=D4 s.fP_0++D4 s.fP_1++D4 s.fP_2
theorem We (x:Cm) (i:Nat) (h:i<3) (w:World):(part 57 (Y8 x).toArray (i * 2)).run Tryz.prog w=.ok (.agg (D4 ([x.fP_0,x.fP_1,x.fP_2].getD i ⟨0,0⟩)).toArray) w:=by
 obtain rfl | rfl | rfl:i=0\/i=1\/i=2:=by omega
 all_goals (unfold part;go_simp;rfl)
theorem A3R (x y:Cm) (w:World):(Op.equalIn 9999 92 (.agg (Y8 x).toArray) (.agg (Y8 y).toArray)).run Tryz.prog w=.ok (Zh x.fP_0 y.fP_0 && (Zh x.fP_1 y.fP_1 && (Zh x.fP_2 y.fP_2 && true))) w :=
 Qn w 9997 92 57 3 2 _ _ (λi=>Zh ([x.fP_0,x.fP_1,x.fP_2].getD i ⟨0,0⟩) ([y.fP_0,y.fP_1,y.fP_2].getD i ⟨0,0⟩)) K4 Fa λi hi=>⟨_,_,We x i hi w,We y i hi w,A62 _ _ 9995 w⟩
theorem A8M (x y:Cm) (w:World):(binOp .neq 94 (.agg (Iu x).toArray) (.agg (Iu y).toArray)).run Tryz.prog w=.ok (.bool (!sgB x y)) w:=by
 have h:=A3R x y
 unfold Y8 D4 at h
 simp only [G5,CJ,Bool.and_true,Bool.and_assoc] at h
 unfold Iu D4 sgB
 by_cases hk:x.fKind=y.fKind
 ·
  simp only [hk]
  go_simp
  clear h
  generalize Zh x.fP_0 y.fP_0=a
  generalize Zh x.fP_1 y.fP_1=b
  generalize Zh x.fP_2 y.fP_2=c
  cases a <;> cases b <;> cases c <;> simp
 ·
  simp only [hk]
  go_simp
theorem A6G (x y:Cj) (w:World):(binOp .neq 37 (.agg (DV x).toArray) (.agg (DV y).toArray)).run Tryz.prog w=.ok (.bool (!decide (x=y))) w:=by
 have h:=H8 w 9997 35 3 4 Vt JL B6 (Cy x) (Cy y) rfl rfl
 unfold Cy at h
 simp only [C3,Da,JX] at h
 have hd:decide (x=y)=(decide (x.fSpace=y.fSpace) && ([x.fPart_0,x.fPart_1,x.fPart_2,x.fPart_3] == [y.fPart_0,y.fPart_1,y.fPart_2,y.fPart_3])):=by
  cases x;cases y
  simp only [Cj.mk.injEq]
  rw [B1]
  simp
 rw [hd]
 unfold DV
 by_cases hk:x.fSpace=y.fSpace
 ·
  simp only [hk]
  go_simp
  clear h hd
  by_cases h0:x.fPart_0=y.fPart_0 <;> by_cases h1:x.fPart_1=y.fPart_1 <;> by_cases h2:x.fPart_2=y.fPart_2 <;> by_cases h3:x.fPart_3=y.fPart_3 <;> simp [h0,h1,h2,h3]
 ·
  simp only [hk]
  go_simp
theorem A92 (x y:Cj) (h:x=y) (w:World):(binOp .eql 37 (.agg (DV x).toArray) (.agg (DV y).toArray)).run Tryz.prog w=.ok (.bool (decide True)) w:=by
 subst h
 have h:=H8 w 9997 35 3 4 Vt JL B6 (Cy x) (Cy x) rfl rfl
 rw [beq_self_eq_true] at h
 unfold Cy at h
 simp only [C3,Da,JX] at h
 unfold DV
 go_simp
theorem A91 (a0 a1 a2 a3 a4 a5:Int) (w:World):(binOp .eql 42 (.agg #[Ah a0,Ah a1,Ah a2,Ah a3,Ah a4,Ah a5]) (.agg #[Ah a0,Ah a1,Ah a2,Ah a3,Ah a4,Ah a5])).run Tryz.prog w=.ok (.bool (decide True)) w:=by
 have h:=H8 w 9998 42 3 6 DM JL B6 [a0,a1,a2,a3,a4,a5] [a0,a1,a2,a3,a4,a5] rfl rfl
 rw [beq_self_eq_true] at h
 simp only [C3,Da,JX] at h
 go_simp
end
section
theorem A0E (p q:Option Addr) (l:l8_) (c d:Nat) (w:World) (ha:Ay w p l) (hb:Ay w q l) (hl:l.length<=9223372036854775807) :
  C9 41 #[.slice p l.length c,.slice q l.length d] w (.bool true):=by
 have j:0<l.length->(pA p).block<w.heap.size:=λb=>ha.lt b
 have k:0<l.length->(pA q).block<w.heap.size:=λb=>hb.lt b
 refine Av func41 rfl ntmps41 ?_
 have o:=DR w
 refine A5<|Ab rfl<|Aj<|A5<|A3 rfl<|A1 (.lenS BI rfl)<|A3 rfl<|A1 (.lenS BI rfl)<|A1 (.neq rfl rfl)<|A0<|Ae rfl (λf=>?_) (λf=>?_)
 have u:=Kj f
 omega
 have u:=Kk f
 refine Ap<|Aj<|A5<|Ab rfl<|AU<|Cf (α:=Nat) (λt=>[(0,.slice p l.length c),(1,.slice q l.length d),(5,Ah (t:Int))]) (λt w'=>AD w w'/\t<=l.length) (λt=>l.length-t) (0) ⟨rfl,rfl,rfl,tT⟩ (⟨o,G8 _⟩) (λt B hR=>?_)
 obtain ⟨s,rfl⟩:=eX t
 obtain ⟨hT,hs⟩:=hR
 have a:=ha.below hT j
 have hb1:=hb.below hT k
 refine Aj<|A5<|A3 rfl<|A3 rfl<|A1 (.lenS BI rfl)<|A1 (.lss rfl rfl)<|A0<|Ae rfl (λg=>?_) (λg=>?_)
 have v:=dT g
 refine Ap<|Aj<|AU<|Aj<|Eg Ci kR<|AA (.mv rfl) rfl<|AA (.mv rfl) rfl<|AA (.ixb BI Iy rfl rfl (a.isp oO) (s) oO oO) rfl<|Du (λm=>AS (P3 _) rfl ((a.drewN m).cells (s) oO)) rfl<|AA (.mv rfl) rfl<|AA (.mv rfl) rfl<|AA (.ixb BI Iy rfl rfl (hb1.isp oO) (s) oO oO) rfl<|Du (λm=>AS (P3 _) rfl ((hb1.drewN m).cells (s) oO)) rfl<|AA (.neq rfl rfl) rfl<|Dk (λC x=>?_)
 have y:=Df.below hT x
 refine Ae rfl (λi=>?_) (λi=>?_)
 have A:=Kj i
 exact D6 rfl aS
 have A:=Kk i
 refine Ap<|Ak<|A3 rfl<|A1 (.iis (((s+1:Nat):Int)) (.add rfl rfl (Bn oO)) oO)<|Ab rfl ?_
 exact ⟨s+1,⟨rfl,rfl,rfl,tT⟩,⟨y,oM⟩,oM⟩
 have v:=dF g
 refine C7<|A5<|Ab rfl<|AI ?_
 exact ⟨rfl,hT⟩
theorem A0F  {l l2:l8_} (he:l=l2) (ha:Ay w p l) (hb:Ay w q l2) (hl:l.length<=9223372036854775807) :
  C9 41 #[.slice p l.length c,.slice q l2.length d] w (.bool true):=by
 subst he;exact A0E p q l c d w ha hb hl
theorem A7E  {f:α->β} {l m:List α} (h:l.map f=m.map f):l.length=m.length:=by
 have:=Bk List.length h
 simpa using this
theorem A90  {f:α->β} {l m:List α} (h:l.map f=m.map f) (hi:i<l.length) (hj:i<m.length):f l[i]=f m[i]:=by
 have:=Bk (·[i]?) h
 simpa [List.getElem?_map,hi,hj] using this
theorem Xf {α:Type} {f:α->α->Bool}:∀ {a b:List α},KJ f a b=true->a.length=b.length
 | [],[],_=>rfl
 | [],b::s,h=>by cases h
 | a::r,[],h=>by cases h
 | a::r,b::s,h=>by
  unfold KJ at h
  rw [A4] at h
  simp [Xf h.2]
theorem ZY  {f:α->α->Bool} {a b:List α} (h:a.length≠b.length):KJ f a b=false:=by
 cases he:KJ f a b with
 | false=>rfl
 | true=>exact D6 (Xf he) h
theorem Ld  {f:α->α->Bool} {a b:List α} (h1:i<a.length) (h2:i<b.length):KJ f (a.drop i) (b.drop i)=(f a[i] b[i] && KJ f (a.drop (i+1)) (b.drop (i+1))):=by
 rw [Ar h1,Ar h2];rfl
theorem Nm (p q:Option Addr) (l l2:List Cm) (c d:Nat) (w:World) (ha:Bi EX w p l) (hb:Bi EX w q l2) (hl:l.length<=9223372036854775807) :
  Calls Tryz.prog 39 #[.slice p l.length c,.slice q l2.length d] w λe w'=>e=.returned (.bool (KJ sgB l l2))/\Df w w':=by
 refine Av func39 rfl ntmps39<|A5<|Ab rfl<|Aj<|A5<|A3 rfl<|A1 (.lenS Fk rfl)<|A3 rfl<|A1 (.lenS Fk rfl)<|A1 (.neq rfl rfl)<|A0<|Ae rfl (λi=>?_) (λi=>?_)
 have k:=Kj i
 refine A5<|Ab rfl<|AI ?_
 exact ⟨Bw (Bk Value.bool (ZY (show l.length≠l2.length by omega)).symm),by exact Df.refl _⟩
 have k:=Kk i
 have o:l.length=l2.length:=by omega
 refine Ap<|Aj<|A5<|Ab rfl<|AU<|Cf (α:=Nat) (λt=>[(0,.slice p l.length c),(1,.slice q l2.length d),(5,Ah (t:Int))]) (λt w'=>Df w w'/\t<=l.length/\KJ sgB (l.drop t) (l2.drop t)=KJ sgB l l2) (λt=>l.length-t) (0) ⟨rfl,rfl,rfl,tT⟩ (⟨Df.refl _,G8 _,rfl⟩) (λt x hR=>?_)
 obtain ⟨s,rfl⟩:=eX t
 obtain ⟨hT,hs,hA⟩:=hR
 have b:=ha.drew hT
 have hb1:=hb.drew hT
 refine Aj<|A5<|A3 rfl<|A3 rfl<|A1 (.lenS Fk rfl)<|A1 (.lss rfl rfl)<|A0<|Ae rfl (λj=>?_) (λj=>?_)
 have u:=dT j
 have a:s<l.length:=by omega
 have f:s<l2.length:=by omega
 refine Ap<|Aj<|AU<|Aj<|Eg Ci kR<|AA (.mv rfl) rfl<|AA (.mv rfl) rfl<|AA (.ixm Fk K5 rfl rfl (b.isp oO) (s) (rfl) oO) rfl<|Du (λm=>Dy I3 rfl Jb (b.drewN m) (s) oO rfl) rfl<|AA (.mv rfl) rfl<|AA (.mv rfl) rfl<|AA (.ixm Fk K5 rfl rfl (hb1.isp oO) (s) (rfl) oO) rfl<|Du (λm=>Dy I3 rfl Jb (hb1.drewN m) (s) oO rfl) rfl<|AA (.bis (!sgB l[s] l2[s]) (.neAgg rfl rfl A9Z (A8M _ _)) (by rfl)) rfl<|Dk (λy g=>?_)
 refine Ae rfl (λv=>?_) (λv=>?_)
 refine A5<|Ab rfl<|AI ?_
 exact ⟨Bw (Bk Value.bool (show false=_ by rw [<- hA,Ld a f,show sgB l[s] l2[s]=false by simp_all];rfl)),hT.trans g⟩
 refine Ap<|Ak<|A3 rfl<|A1 (.iis (((s+1:Nat):Int)) (.add rfl rfl (Bn oO)) oO)<|Ab rfl ?_
 exact ⟨s+1,⟨rfl,rfl,rfl,tT⟩,⟨hT.trans g,oM,by rw [<- hA,Ld a f,show sgB l[s] l2[s]=true by simp_all];rfl⟩,oM⟩
 have u:=dF j
 have a:s=l.length:=by omega
 refine C7<|A5<|Ab rfl<|AI ?_
 exact ⟨Bw (Bk Value.bool (show true=_ by rw [<- hA,a,Fl,o,Fl];rfl)),by exact hT⟩
theorem Mj (p q:Option Addr) (l l2:List Bm) (c d:Nat) (w:World) (ha:Bi G0 w p l) (hb:Bi G0 w q l2) (hal:∀ x∈l,Hs w x) (hbl:∀ x∈l2,Hs w x) (hl:l.length<=9223372036854775807) :
  Calls Tryz.prog 25 #[.slice p l.length c,.slice q l2.length d] w λe w'=>e=.returned (.bool (A43 l l2))/\Df w w':=by
 unfold A43
 refine Av func25 rfl ntmps25<|A5<|Ab rfl<|Aj<|A5<|A3 rfl<|A1 (.lenS Fj rfl)<|A3 rfl<|A1 (.lenS Fj rfl)<|A1 (.neq rfl rfl)<|A0<|Ae rfl (λk=>?_) (λk=>?_)
 have v:=Kj k
 refine A5<|Ab rfl<|AI ?_
 exact ⟨Bw (Bk Value.bool (ZY (show l.length≠l2.length by omega)).symm),by exact Df.refl _⟩
 have v:=Kk k
 have y:l.length=l2.length:=by omega
 refine Ap<|Aj<|A5<|Ab rfl<|AU<|Cf (α:=Nat) (λt=>[(0,.slice p l.length c),(1,.slice q l2.length d),(5,Ah (t:Int))]) (λt w'=>Df w w'/\t<=l.length/\KJ clB (l.drop t) (l2.drop t)=KJ clB l l2) (λt=>l.length-t) (0) ⟨rfl,rfl,rfl,tT⟩ (⟨Df.refl _,G8 _,rfl⟩) (λt F hR=>?_)
 obtain ⟨s,rfl⟩:=eX t
 obtain ⟨hT,hs,hA⟩:=hR
 have f:=ha.drew hT
 have hb1:=hb.drew hT
 refine Aj<|A5<|A3 rfl<|A3 rfl<|A1 (.lenS Fj rfl)<|A1 (.lss rfl rfl)<|A0<|Ae rfl (λo=>?_) (λo=>?_)
 have A:=dT o
 have b:s<l.length:=by omega
 have g:s<l2.length:=by omega
 have i:=hal _ (AM b)
 have B:=hbl _ (AM g)
 refine Ap<|Aj<|AU<|Aj<|Eg Ci kR<|AA (.mv rfl) rfl<|AA (.mv rfl) rfl<|AA (.ixm Fj K6 rfl rfl (f.isp oO) (s) (rfl) oO) rfl<|AA (.fa Na rfl P2 dD rfl) rfl<|Du (λm=>AS (g4_ _) rfl (((f.drewN m).field (s) oO 1 dD).trans rfl)) rfl<|AA (.mv rfl) rfl<|AA (.mv rfl) rfl<|AA (.ixm Fj K6 rfl rfl (hb1.isp oO) (s) (rfl) oO) rfl<|AA (.fa Na rfl P2 dD rfl) rfl<|Du (λm=>AS (g4_ _) rfl (((hb1.drewN m).field (s) oO 1 dD).trans rfl)) rfl<|AA (.neb u4_ rfl rfl) rfl<|AA (.mv rfl) rfl<|MD rfl rfl rfl (λa=>?_) (λa=>?_)
 have C:=Kk a
 refine AA (.mv rfl) rfl<|C5 rfl rfl rfl a<|AA (.mv rfl) rfl<|C5 rfl rfl rfl a<|AA (.ixm Fj K6 rfl rfl (f.isp oO) (s) (rfl) oO) rfl<|C5 rfl rfl rfl a<|AA (.fa Na rfl HE dD rfl) rfl<|C5 rfl rfl rfl a<|Du (λm=>AS (JG _) rfl (((f.drewN m).field (s) oO 0 dD).trans rfl)) rfl<|C5 rfl rfl rfl a<|AA (.mv rfl) rfl<|C5 rfl rfl rfl a<|AA (.mv rfl) rfl<|C5 rfl rfl rfl a<|AA (.ixm Fj K6 rfl rfl (hb1.isp oO) (s) (rfl) oO) rfl<|C5 rfl rfl rfl a<|AA (.fa Na rfl HE dD rfl) rfl<|C5 rfl rfl rfl a<|Du (λm=>AS (JG _) rfl (((hb1.drewN m).field (s) oO 0 dD).trans rfl)) rfl<|C5 rfl rfl rfl a<|WQ.c1 BQ rfl rfl (λm=>((Nm _ _ _ _ _ _ _ (i.drew (hT.trans ⟨m,rfl⟩)).row_fPath (B.drew (hT.trans ⟨m,rfl⟩)).row_fPath i.sl_fPath.len).mono λe w' h=>⟨h.1,Df.trans ⟨m,rfl⟩ h.2⟩))<|C5 rfl rfl rfl a<|AA (.not rfl) rfl<|AA (.pkF rfl a rfl) rfl<|Dk (λG j=>?_)
 refine Ae rfl (λu=>?_) (λu=>?_)
 have D:=(nT u)
 refine A5<|Ab rfl<|AI ?_
 exact ⟨Bw (Bk Value.bool (show false=_ by rw [<- hA,Ld b g,show clB l[s] l2[s]=false by unfold clB;simp_all];rfl)),hT.trans j⟩
 have D:=(nF u)
 refine Ap<|Ak<|A3 rfl<|A1 (.iis (((s+1:Nat):Int)) (.add rfl rfl (Bn oO)) oO)<|Ab rfl ?_
 exact ⟨s+1,⟨rfl,rfl,rfl,tT⟩,⟨hT.trans j,oM,by rw [<- hA,Ld b g,show clB l[s] l2[s]=true by unfold clB;simp_all];rfl⟩,oM⟩
 have C:=Kj a
 refine Bj rfl rfl rfl a<|Bj rfl rfl rfl a<|Bj rfl rfl rfl a<|Bj rfl rfl rfl a<|Bj rfl rfl rfl a<|Bj rfl rfl rfl a<|Bj rfl rfl rfl a<|Bj rfl rfl rfl a<|Bj rfl rfl rfl a<|Bj rfl rfl rfl a<|Bj rfl rfl rfl a<|AA (.pkT rfl a rfl) rfl<|Dk (λH E=>?_)
 refine E3 rfl rfl<|A5<|Ab rfl<|AI ?_
 exact ⟨Bw (Bk Value.bool (show false=_ by rw [<- hA,Ld b g,show clB l[s] l2[s]=false by unfold clB;simp_all];rfl)),hT.trans E⟩
 have A:=dF o
 have b:s=l.length:=by omega
 refine C7<|A5<|Ab rfl<|AI ?_
 exact ⟨Bw (Bk Value.bool (show true=_ by rw [<- hA,b,Fl,y,Fl];rfl)),by exact hT⟩
end
section
theorem Nn (n:Int) (w:World) (h:Am n=false) :
  C9 40 #[Ah n] w (.string (bs [48])):=by
 go_enter func40,ntmps40
 go_wp2_with (go_at_call 15;refine (Gs _ _).mono ?_;rintro e a ⟨rfl,rfl⟩)
 go_ret
 exact ⟨rfl,Nh _ _⟩
theorem So (n:Int) (h:0<=n):E9 n=Eb n.toNat:=by
 unfold E9;rw [A2 oO];congr 1;omega
theorem TJ (n m:Int) (hm:m=(n.natAbs:Int)):DC n=Mh n++E9 (m / 65536)++(if 0<m % 65536 then [46] else [])++Jc (m % 65536).toNat:=by
  subst hm
  rw [So _ oO]
  have a:((n.natAbs:Int) / 65536).toNat=n.natAbs / 65536:=by omega
  have b:((n.natAbs:Int) % 65536).toNat=n.natAbs % 65536:=by omega
  rw [a,b]
  unfold DC ID LR
  by_cases h0:n.natAbs % 65536=0
  · have hc : ¬ (0 : Int) < (n.natAbs : Int) % 65536 := by omega
    simp [hc,h0,LA]
  · have hc : (0 : Int) < (n.natAbs : Int) % 65536 := by omega
    simp [hc,WC _ (show 0<n.natAbs % 65536 by omega) oO]
theorem A7V:(⟨#[]⟩:ByteArray)=bs []:=rfl
theorem A4a (c:UInt8):(⟨#[c]⟩:ByteArray)=bs [c]:=rfl
theorem SP (n:Int) (w:World) (h:0<=n) (h':n<=2147483647) :
    C9 40 #[Ah n] w (.string (bs (DC n))):=by
  have hf:=N2 (n:=n) oO h'
  have hd:=La (n / 65536) oO oO
  have hP:=TJ n n oO
  rw [Mh,A2 oO] at hP
  by_cases hr:0<n % 65536
  all_goals
    first | rw [A7 hr] at hP | rw [A2 hr] at hP
    have HP:=EJ hP;clear hP
    go_enter func40,ntmps40
    go_wp2_with first | (go_at_call 15;refine (Gs _ _).mono ?_;rintro e c ⟨rfl,rfl⟩) | (go_at_call 12;go_must (refine (Ib _ _ oO oO).mono ?_);rintro e c ⟨rfl,hb1⟩)
    go_loopw [3,4] (λs r wr=>∃ (t:l8_) (m:Nat),s=.string (bs t)/\r=Ah m/\m<65536/\AD w wr/\t.length+(Jc m).length<=60/\DC n=t++Jc m) (λ_ r _=>(Jc (intOf r).toNat).length)
    case atStart =>
      have hl:=N0 (n % 65536).toNat
      rw [BR] at hd
      refine ⟨_,(n % 65536).toNat,?_,by go_num,oO,hb1,?_,HP.out⟩
      · simp [A7V,A4a,G1]
      · simp;omega
    case round =>
      obtain ⟨t,m,rfl,rfl,hm,hb,i,hp⟩:=hrel
      have Hp:=EJ hp;clear hp HP
      by_cases hm0:0<m
      · have b := NQ m hm0 hm
        have Hst:=EJ b;clear b
        have d:=Bk List.length Hst.out
        simp only [A8] at d
        have l:(bs t).size<=60:=by rw [BR];omega
        have o:=La ((m:Int) * 10 / 65536) oO oO
        clear hd hb1
        have f:=hb.size
        go_wp2_with (go_at_call 12;go_must (refine (Ib _ _ oO oO).mono ?_);rintro e c ⟨rfl,hb1⟩)
        have g:E9 ((m:Int) * 10 / 65536)=[ch (48+((m * 10 / 65536:Nat):Int))]:=by
          rw [So _ oO,JZ _ oO,Int.toNat_of_nonneg oO,Int.natCast_ediv,Int.natCast_mul];rfl
        refine ⟨⟨t++E9 ((m:Int) * 10 / 65536),m * 10 % 65536,by rw [G1],by go_num,oO,hb.trans (hb1.mono f),?_,?_⟩,?_⟩
        · rw [g];simp;omega
        · rw [Hp.out,Hst.out,g];simp
        · have j : ((m : Int) * 10 % 65536).toNat = m * 10 % 65536 := by omega
          have k:((m:Int)).toNat=m:=by omega
          simp only [intOf,j,k];omega
      · have a : m = 0 := by omega
        have Hm:=EJ a;clear a
        go_wp2
        go_ret
        exact ⟨Zg (by rw [Hp.out,Hm.out,LA,Bv]),hb⟩
theorem SQ (k:Int) (w:World) (h:0<k) (h':k<=2147483648) :
    Calls Tryz.prog 40 #[Ah (-k)] w λe w'=>e=.returned (.string (bs (DC (-k))))/\AD w w':=by
  have hf:=N2 (n:=-k) oO oO
  have hd:=La (k / 65536) oO oO
  have hP:=TJ (-k) k oO
  rw [Mh,A7 oO] at hP
  by_cases hr:0<k % 65536
  all_goals
    first | rw [A7 hr] at hP | rw [A2 hr] at hP
    have HP:=EJ hP;clear hP
    go_enter func40,ntmps40
    go_wp2_with first | (go_at_call 15;refine (Gs _ _).mono ?_;rintro e c ⟨rfl,rfl⟩) | (go_at_call 12;go_must (refine (Ib _ _ oO oO).mono ?_);rintro e c ⟨rfl,hb1⟩)
    go_loopw [3,4] (λs r wr=>∃ (t:l8_) (m:Nat),s=.string (bs t)/\r=Ah m/\m<65536/\AD w wr/\t.length+(Jc m).length<=60/\DC (-k)=t++Jc m) (λ_ r _=>(Jc (intOf r).toNat).length)
    case atStart =>
      have hl:=N0 (k % 65536).toNat
      rw [BR] at hd
      refine ⟨_,(k % 65536).toNat,?_,by go_num,oO,hb1,?_,HP.out⟩
      · simp [A4a,G1]
      · simp;omega
    case round =>
      obtain ⟨t,m,rfl,rfl,hm,hb,i,hp⟩:=hrel
      have Hp:=EJ hp;clear hp HP
      by_cases hm0:0<m
      · have b := NQ m hm0 hm
        have Hst:=EJ b;clear b
        have d:=Bk List.length Hst.out
        simp only [A8] at d
        have o:(bs t).size<=60:=by rw [BR];omega
        have q:=La ((m:Int) * 10 / 65536) oO oO
        clear hd hb1
        have f:=hb.size
        go_wp2_with (go_at_call 12;go_must (refine (Ib _ _ oO oO).mono ?_);rintro e c ⟨rfl,hb1⟩)
        have g:E9 ((m:Int) * 10 / 65536)=[ch (48+((m * 10 / 65536:Nat):Int))]:=by
          rw [So _ oO,JZ _ oO,Int.toNat_of_nonneg oO,Int.natCast_ediv,Int.natCast_mul];rfl
        refine ⟨⟨t++E9 ((m:Int) * 10 / 65536),m * 10 % 65536,by rw [G1],by go_num,oO,hb.trans (hb1.mono f),?_,?_⟩,?_⟩
        · rw [g];simp;omega
        · rw [Hp.out,Hst.out,g];simp
        · have j : ((m : Int) * 10 % 65536).toNat = m * 10 % 65536 := by omega
          have l:((m:Int)).toNat=m:=by omega
          simp only [intOf,j,l];omega
      · have a : m = 0 := by omega
        have Hm:=EJ a;clear a
        go_wp2
        go_ret
        exact ⟨Zg (by rw [Hp.out,Hm.out,LA,Bv]),hb⟩
theorem TD (n:Int) (w:World) :
    Calls Tryz.prog 40 #[Ah n] w λe w'=>e=.returned (.string (bs (DC (norm n))))/\AD w w':=by
  have a:DC 0=[48]:=by
    have hz:LR 0=[]:=rfl
    have hd:Eb 0=[48]:=by rw [JZ 0 oO];rfl
    simp [DC,Mh,ID,hz,hd]
  unfold norm
  by_cases h1:n < -2147483648
  · rw [OP h1];simp only [BN,if_false,a];exact Nn n w (OP h1)
  · by_cases h2 : 2147483647 < n
    · rw [WK h2];simp only [BN,if_false,a];exact Nn n w (WK h2)
    · rw [N2 oO oO]
      by_cases h3:n<0
      · have h := SQ (-n) w oO oO
        rw [Int.neg_neg] at h;exact h
      · exact SP n w oO oO
theorem W4 (n:Int):(bs (DC (norm n))).size<=60:=by
 have a:=XJ (norm n)
 have b:=Vl (norm n) (A5t n) (A5u n)
 have c:=XZ (norm n)
 rw [BR] at *
 unfold DC
 split <;> simp <;> omega
end
section
theorem Dc {a b:Value} (h:a=b):Ending.returned a=.returned b:=by rw [h]
def KV (x:Int × Int):Value:=.tuple #[Ah x.1,Ah x.2]
theorem In {a b:Int} {x:Int × Int} (h:x=(a,b)):Ending.returned (.tuple #[Ah a,Ah b])=.returned (KV x):=by rw [h];rfl
theorem V0 (p:Option Addr) (l:List Int) (c:Nat) (w:World) (hr:AZ E5 w p l) (hl:l.length<=9223372036854775807) :
  Calls Tryz.prog 140 #[.slice p l.length c] w λe w'=>e=.returned (.bool (l.all Am))/\w=w':=by
 refine Av func140 rfl ntmps140<|A5<|Ab rfl<|Aj<|A5<|A3 rfl<|A1 (.lenS Dm rfl)<|A3 rfl<|A0<|AU<|Cf (α:=Nat) (λt=>[(5,.slice p l.length c),(6,Ah (l.length:Int)),(7,Ah (t:Int))]) (λt w'=>w=w'/\t<=l.length/\∀ j (h:j<l.length),j<t->Am l[j]=true) (λt=>l.length-t) (0) ⟨rfl,rfl,rfl,tT⟩ (⟨rfl,G8 _,λj _ h=>D6 h oO⟩) (λt o hR=>?_)
 obtain ⟨i,rfl⟩:=eX t
 obtain ⟨rfl,hi,a⟩:=hR
 refine A5<|A1 (.lss rfl rfl)<|A0<|Aj<|Ae rfl (λb=>?_) (λb=>?_)
 have f:=dT b
 refine Ap<|Aj<|AU<|A5<|A1 (.ixb Dm B6 rfl rfl (hr.isp oO) (i) (rfl) oO)<|Ai (AS (BE _) rfl (hr.cells (i) oO))<|Ab rfl<|A5<|A3 rfl<|As (Jd _ _) (λq g=>?_)
 obtain rfl:=g
 refine A1 (.not rfl)<|A0<|Ae rfl (λd=>?_) (λd=>?_)
 have k:=(nT d)
 refine A5<|Ab rfl<|AI ?_
 first
 | exact ⟨Dc (Bk _ (Eq.symm (List.all_eq_false.2 ⟨l[i]'oO,AM _,by simp_all⟩))),rfl⟩
 | exact ⟨Dc (Bk _ (Eq.symm (At.2 λx hx=>by
   obtain ⟨j,hj,rfl⟩:=List.mem_iff_getElem.1 hx;exact a j hj oO))),rfl⟩
 have k:=(nF d)
 refine Ap<|Ak<|A1 (.iis (((i+1:Nat):Int)) (.add rfl rfl (Bn oO)) oO)<|A3 rfl<|A0<|?_
 exact ⟨i+1,⟨rfl,rfl,rfl,tT⟩,⟨rfl,oM,λj h hj=>by
  rcases Cp.1 hj with m | rfl;exact a j h m
  simp_all⟩,oM⟩
 have f:=dF b
 refine C7<|A5<|Ab rfl<|AI ?_
 first
 | exact ⟨Dc (Bk _ (Eq.symm (List.all_eq_false.2 ⟨l[i]'oO,AM _,by simp_all⟩))),rfl⟩
 | exact ⟨Dc (Bk _ (Eq.symm (At.2 λx hx=>by
   obtain ⟨j,hj,rfl⟩:=List.mem_iff_getElem.1 hx;exact a j hj oO))),rfl⟩
theorem NS (n:Int) (w:World):Calls Tryz.prog 141 #[Ah n] w λe w'=>e=.returned (KV (Mb n))/\w=w':=by
 refine Av func141 rfl ntmps141<|A5<|DA rfl<|Ab rfl<|Aj<|A5<|A3 rfl<|As (Jd _ _) (λd b=>?_)
 obtain rfl:=b
 refine A1 (.not rfl)<|A0<|Ae rfl (λa=>?_) (λa=>?_)
 have c:=(nT a)
 refine A5<|DA rfl<|Ab rfl<|B2 (EG rfl rfl rfl ?_)
 exact ⟨In (by unfold Mb;rw [A2 (by simp_all)]),rfl⟩
 have c:=(nF a)
 refine Ap<|A5<|A3 rfl<|DA rfl<|Ab rfl<|B2 (EG rfl rfl rfl ?_)
 exact ⟨In (by unfold Mb;rw [A7 (by simp_all)]),rfl⟩
theorem ZC (a b:Int) (w:World):C9 146 #[Ah a,Ah b] w (KV (LI a b)):=by
 refine Av func146 rfl ntmps146 ?_
 have c:=DR w
 refine A5<|DA rfl<|Ab rfl<|Aj<|A5<|A3 rfl<|A3 rfl<|CF (ps:=_) Dm B6 PM rfl rfl rfl rfl rfl pR rfl (λx v d i j u=>?_)
 have f:=uB c d j
 have t:=DW d c.size
 have m:=AZ.lit (V:=E5) (l:=[a,b]) i (rfl)
 refine WL.c1 BQ rfl rfl ((V0 _ [a,b] 2 _ m (by simp))) (λy o=>?_)
 obtain rfl:=o
 refine A1 (.not rfl)<|A0<|Ae rfl (λk=>?_) (λk=>?_)
 have q:=(nT k)
 refine A5<|DA rfl<|Ab rfl<|B2 (EG rfl rfl rfl ?_)
 exact ⟨In (by unfold LI;rw [A2 (by simp_all)]),f⟩
 have q:=(nF k)
 have g:Am a=true/\Am b=true:=by simp_all
 have B:=Ko g.1
 have C:=Ko g.2
 refine Ap<|A5<|A3 rfl<|A3 rfl<|A1 (.add rfl rfl (Bn oO))<|As (NS _ _) (λD s=>?_)
 obtain rfl:=s
 refine A1 (.ext rfl rfl)<|A1 (.ext rfl rfl)<|DA rfl<|Ab rfl<|B2 (EG rfl rfl rfl ?_)
 exact ⟨Dc (by unfold LI;rw [A7 (by simp_all)];rfl),f⟩
theorem A5Z (a b:Int) (w:World):C9 197 #[Ah a,Ah b] w (KV (J2 a b)):=by
 refine Av func197 rfl ntmps197 ?_
 have c:=DR w
 refine A5<|DA rfl<|Ab rfl<|Aj<|A5<|A3 rfl<|A3 rfl<|CF (ps:=_) Dm B6 PM rfl rfl rfl rfl rfl pR rfl (λx v d i j u=>?_)
 have f:=uB c d j
 have t:=DW d c.size
 have m:=AZ.lit (V:=E5) (l:=[a,b]) i (rfl)
 refine WL.c1 BQ rfl rfl ((V0 _ [a,b] 2 _ m (by simp))) (λy o=>?_)
 obtain rfl:=o
 refine A1 (.not rfl)<|A0<|Ae rfl (λk=>?_) (λk=>?_)
 have q:=(nT k)
 refine A5<|DA rfl<|Ab rfl<|B2 (EG rfl rfl rfl ?_)
 exact ⟨In (by unfold J2;rw [A2 (by simp_all)]),f⟩
 have q:=(nF k)
 have g:Am a=true/\Am b=true:=by simp_all
 have B:=Ko g.1
 have C:=Ko g.2
 refine Ap<|A5<|A3 rfl<|A3 rfl<|A1 (.sub rfl rfl (Bn oO))<|As (NS _ _) (λD s=>?_)
 obtain rfl:=s
 refine A1 (.ext rfl rfl)<|A1 (.ext rfl rfl)<|DA rfl<|Ab rfl<|B2 (EG rfl rfl rfl ?_)
 exact ⟨Dc (by unfold J2;rw [A7 (by simp_all)];rfl),f⟩
theorem A3F (a b:Int) (w:World) (ha:-4611686018427387904<=a/\a<=4611686018427387904) (hb:0<b/\b<=2147483648) :
  C9 142 #[Ah a,Ah b] w (Ah (Ov a b)):=by
 have l:=Int.tmod_lt_of_pos a hb.1
 have d:=Int.lt_tmod_of_pos a hb.1
 have f:-4611686018427387904<=a.tdiv b/\a.tdiv b<=4611686018427387904:=by
  have:=Int.natAbs_tdiv_le_natAbs a b
  omega
 refine Av func142 rfl ntmps142 ?_
 have g:=DR w
 refine A5<|Ab rfl<|Aj<|A5<|A3 rfl<|A1 (.bis (false) (.lss rfl rfl) (by exact An oO))<|A0<|E4 rfl rfl<|Ap<|Aj<|Eg Ci kR<|AA (.mv rfl) rfl<|AA (.mv rfl) rfl<|AA (.quo rfl rfl oO (Bn oO)) rfl<|AA (.mv rfl) rfl<|AA (.mv rfl) rfl<|AA (.rem rfl rfl oO rfl) rfl<|AA (.as rfl) rfl<|AA (.as rfl) rfl<|Dk (λm i=>?_)
 have c:=Df.below g i
 refine Aj<|AU<|A5<|A3 rfl<|A1 (.mul rfl rfl (Bn oO))<|A3 rfl<|A1 (.geq rfl rfl)<|Ab rfl<|Ae rfl (λd=>?_) (λd=>?_)
 have j:=dT d
 refine Ak<|A3 rfl<|A1 (.add rfl rfl (Bn oO))<|Ab rfl<|A5<|A3 rfl<|Ab rfl<|AI ?_
 exact ⟨Dc (by unfold Ov;first | rw [A7 oO] | rw [A2 oO,A7 oO] | rw [A2 oO,A2 oO]),c⟩
 have j:=dF d
 refine A5<|A3 rfl<|A1 (.mul rfl rfl (Bn oO))<|A3 rfl<|A1 (.geq rfl rfl)<|Ab rfl<|Ae rfl (λf=>?_) (λf=>?_)
 have k:=dT f
 refine Ak<|A3 rfl<|A1 (.sub rfl rfl (Bn oO))<|Ab rfl<|A5<|A3 rfl<|Ab rfl<|AI ?_
 exact ⟨Dc (by unfold Ov;first | rw [A7 oO] | rw [A2 oO,A7 oO] | rw [A2 oO,A2 oO]),c⟩
 have k:=dF f
 refine Ap<|A5<|A3 rfl<|Ab rfl<|AI ?_
 exact ⟨Dc (by unfold Ov;first | rw [A7 oO] | rw [A2 oO,A7 oO] | rw [A2 oO,A2 oO]),c⟩
end
section
open Go.RowKit Go.WideShapes Go.ChangeShapes
structure B0A (o:Option Nat) (w w1:World):Prop where
 os:w1.os=w.os
 tape:w1.tape=w.tape
 output:w1.output=w.output
 size:w1.heap.size=w.heap.size
 block:∀ k,o≠some k->w1.heap[k]?=w.heap[k]?
theorem Be.grown  {row:Option Nat} {cs:Array Value} {t:TypeId} (h:Be w c cs t) (hg:w.grownBy w1 row) (hc:row≠some c):Be w1 c cs t:=(hg.block c h.lt λe=>hc e.symm).trans h
theorem AJ.cutc  {L:Fq α} {n:Nat} {l:List α} (h:AJ L e B w (.slice p n c) l) (k:Nat) (hk:k<=l.length):AJ L e B w (.slice p k c) (l.take k):=by
 rcases h with ⟨d,rfl⟩ | ⟨g,cap,cur,d,hB,hg,j,f,i,b⟩
 ·
  cases d
  obtain rfl:k=0:=by simpa using hk
  exact .inl ⟨rfl,by simp⟩
 ·
  cases d
  have a:(l.take k).length=k:=by rw [AT];omega
  refine .inr ⟨g,c,cur,by rw [a],hB,hg,by rw [a];omega,f,i,?_⟩
  rw [a,<- L.flat_take,<- b,List.take_take,Nat.min_eq_left (Cz _ hk)]
theorem AL.wide  {B':Nat} {S S':List Nat} {a b:World} (h:AL B' S a b) (hB:B<=B') (hS:∀ g∈S,g∈S'\/B<=g):AL B S' a b:=⟨h.os,h.tape,h.output,h.size,λi hi hn=>h.block i oO λhm=>(hS i hm).elim hn λq=>by omega⟩
end
section
section
variable {P:Program} {n:Sh} {f:Fr}
theorem A82  {Q:Exit->Fr->World->Prop} {rest:List Oper} {ty:Nat} {t:TypeId} {p:Addr} {b o:Nat} {cs:Array Value} (new:Array Value)
  (hs:∀ w,(sizeOf t).run P w=.ok 1 w) (hx:D3 f x=some (.pointer (some p))) (hp:p=⟨b,o,none⟩) (hy:D3 f y=some v) (h1:v.oneCell'=true) (hb:Be w b cs tb) (ho:o<cs.size) (hn:cs.setIfInBounds o v=new)
  (k:∀ w1,Be w1 b new tb->E6 b w w1->w1.heap.size=w.heap.size->WL P n ops Q rest f w1):WL P n ops Q (⟨none,.store t x y,ty,pos,aft,none⟩::rest) f w:=by
 subst hp
 exact WL.st hs hx hy h1 hb ho λw1 hk hu a=>k w1 (hn▸hk) hu a
theorem CT  {n:Sh} {Q:Exit->Fr->World->Prop} {rest:List Oper} {ty:Nat} {t:TypeId} {b:Nat} {cs:Array Value} (o:Nat) (new:Array Value) (hb:Be w b cs tb) (hs:∀ w,(sizeOf t).run P w=.ok 1 w) (k:∀ w1,Be w1 b new tb->E6 b w w1->w1.heap.size=w.heap.size->WL P n ops Q rest f w1) (hx:D3 f x=some (.pointer (some ⟨b,o,none⟩)):=by rfl) (hy:D3 f y=some v:=by rfl) (h1:v.oneCell'=true:=by rfl) (ho:o<cs.size:=by first | decide | exact Nat.le_of_ble_eq_true rfl) (hn:cs.setIfInBounds o v=new:=by rfl):WL P n ops Q (⟨none,.store t x y,ty,pos,aft,none⟩::rest) f w:=A82 (o:=o) new hs hx rfl hy h1 hb ho hn k
theorem A83  {Q:Exit->Fr->World->Prop} {rest:List Oper} {ty:Nat} {t:TypeId} {p:Addr} {b o:Nat} {cs:Array Value} (new:Array Value)
  (hx:D3 f x=some (.pointer (some p))) (hp:p=⟨b,o,none⟩) (hy:D3 f y=some (.agg vs.toArray)) (hb:Be w b cs tb) (hi:(P.info? t).map (·.size)=some vs.length) (h1:A0W vs=true) (ho:o+vs.length<=cs.size) (hn:(cs.toList.take o++vs++cs.toList.drop (o+vs.length)).toArray=new)
  (k:∀ w1,Be w1 b new tb->E6 b w w1->w1.heap.size=w.heap.size->WL P n ops Q rest f w1):WL P n ops Q (⟨none,.store t x y,ty,pos,aft,none⟩::rest) f w:=by
 subst hp
 have a:=run_storeCells_at P b o tb vs 0 cs w hb oO (RB h1)
 simp only [Nat.add_zero] at a
 have c:=hb.lt
 refine Sz (w':=w.setRow b (cs.toList.take o++vs++cs.toList.drop (o+vs.length)).toArray) (λρ hρ=>?_)
  (k _ (hn▸setRow_heap w b cs _ tb _ hb) (E6.setRow _ _ _) (by simp [World.setRow]))
 cases hq:P.info? t with
 | none=>simp [hq] at hi
 | some i =>
  have hs:i.size=vs.length:=by simpa [hq] using hi
  unfold execOp;simp [hρ _ _ hx,hρ _ _ hy,Instr.storeAt,Instr.sureAddr,storeVar,Bq,sizeOf,typeInfo,hq,hs,Value.cells,a]
theorem Fp  {n:Sh} {Q:Exit->Fr->World->Prop} {rest:List Oper} {ty:Nat} {t:TypeId} {b:Nat} {cs:Array Value} (o:Nat) (new:Array Value) (hb:Be w b cs tb) {z:Nat} (hi:(P.info? t).map (·.size)=some z) (k:∀ w1,Be w1 b new tb->E6 b w w1->w1.heap.size=w.heap.size->WL P n ops Q rest f w1) (hx:D3 f x=some (.pointer (some ⟨b,o,none⟩)):=by rfl) (hy:D3 f y=some (.agg vs.toArray):=by rfl) (h1:A0W vs=true:=by rfl) (ho:o+vs.length<=cs.size:=by first | decide | exact Nat.le_of_ble_eq_true rfl) (hn:(cs.toList.take o++vs++cs.toList.drop (o+vs.length)).toArray=new:=by rfl) (hl:vs.length=z:=by rfl):WL P n ops Q (⟨none,.store t x y,ty,pos,aft,none⟩::rest) f w:=A83 (o:=o) new hx rfl hy hb (hl▸hi) h1 ho hn k
end
end
section
theorem V3 (a b:Int) (w:World):C9 103 #[Ah a,Ah b] w (KV (FN a b)):=by
 refine Av func103 rfl ntmps103 ?_
 have j:=DR w
 refine A5<|DA rfl<|Ab rfl<|Aj<|A5<|A3 rfl<|A3 rfl<|CF (ps:=_) Dm B6 PM rfl rfl rfl rfl rfl pR rfl (λB y k f g v=>?_)
 have c:=uB j k g
 have m:=AZ.lit (V:=E5) (l:=[a,b]) f (rfl)
 refine WL.c1 BQ rfl rfl ((V0 _ [a,b] 2 _ m (by simp))) (λC o=>?_)
 obtain rfl:=o
 refine A1 (.not rfl)<|A0<|Ae rfl (λi=>?_) (λi=>?_)
 have q:=(nT i)
 refine A5<|DA rfl<|Ab rfl<|B2 (EG rfl rfl rfl ?_)
 exact ⟨In (by unfold FN;rw [A2 (by simp_all)]),c⟩
 have q:=(nF i)
 have d:Am a=true/\Am b=true:=by simp_all
 have x:=A12 d.1 d.2
 refine Ap<|A5<|A3 rfl<|A3 rfl<|A1 (.mul rfl rfl (Bn oO))<|WL.c1 BQ rfl rfl ((A3F _ _ _ x dD)) (λD s=>?_)
 have t:=DN c s
 refine As (NS _ _) (λE u=>?_)
 obtain rfl:=u
 refine A1 (.ext rfl rfl)<|A1 (.ext rfl rfl)<|DA rfl<|Ab rfl<|B2 (EG rfl rfl rfl ?_)
 exact ⟨Dc (by unfold FN;rw [A7 (by simp_all)];rfl),t⟩
theorem A5Y (p:Option Addr) (l:List Int) (c:Nat) (w:World) (hr:AZ E5 w p l) (hl:l.length<=9223372036854775807) :
  C9 205 #[.slice p l.length c] w (KV (KN 0 l)):=by
 refine Av func205 rfl ntmps205 ?_
 have m:=DR w
 refine A5<|DA rfl<|Ab rfl<|A5<|Ab rfl<|Aj<|A5<|A3 rfl<|A1 (.lenS Dm rfl)<|A3 rfl<|A0<|AU<|Cf (α:=Nat × Int) (λt=>[(4,Ah t.2),(8,.slice p l.length c),(9,Ah (l.length:Int)),(10,Ah (t.1:Int))]) (λt w'=>AD w w'/\AZ E5 w' p l/\t.1<=l.length/\KN t.2 (l.drop t.1)=KN 0 l) (λt=>l.length-t.1) ((0,0)) ⟨rfl,rfl,rfl,rfl,tT⟩ (⟨m,hr,G8 _,rfl⟩) (λt D hR=>?_)
 obtain ⟨⟨i,s⟩,o⟩:=eX t
 subst o
 obtain ⟨q,a,B,b⟩:=hR
 simp only at B b
 refine A5<|A1 (.lss rfl rfl)<|A0<|Aj<|Ae rfl (λj=>?_) (λj=>?_)
 have u:=dT j
 have v:i<l.length:=by omega
 have d:KN s (l.drop i)=if (LI s l[i]).2=0 then KN (LI s l[i]).1 (l.drop (i+1)) else (0,(LI s l[i]).2):=by rw [Ar v,KN]
 refine Ap<|Aj<|AU<|A5<|A1 (.ixb Dm B6 rfl rfl (a.isp oO) (i) (rfl) oO)<|Ai (AS (BE _) rfl (a.cells (i) oO))<|Ab rfl<|A5<|Ab rfl<|A5<|A3 rfl<|A3 rfl<|As (ZC _ _ _) (λE f=>?_)
 have x:=AZ.below a f (λC=>a.lt C)
 have g:=DN q f
 refine A3 rfl<|A1 (.ext rfl rfl)<|A1 (.ext rfl rfl)<|DA rfl<|Ab rfl<|A5<|A3 rfl<|A1 (.neq rfl rfl)<|A0<|Ae rfl (λk=>?_) (λk=>?_)
 have y:=Kj k
 refine A5<|A3 rfl<|DA rfl<|Ab rfl<|B2 (EG rfl rfl rfl ?_)
 exact ⟨In (by rw [<- b,d,A2 aS]),g⟩
 have y:=Kk k
 refine Ap<|Ak<|A1 (.iis (((i+1:Nat):Int)) (.add rfl rfl (Bn oO)) oO)<|A3 rfl<|A0<|?_
 exact ⟨(i+1,(LI s l[i]).1),⟨rfl,rfl,rfl,rfl,tT⟩,⟨g,x,oM,by rw [<- b,d,A7 aS]⟩,oM⟩
 have u:=dF j
 refine C7<|A5<|A3 rfl<|DA rfl<|Ab rfl<|B2 (EG rfl rfl rfl ?_)
 exact ⟨In (by rw [<- b,Bf oO];rfl),q⟩
def stC (e:Int):Array Value:=#[Ah e]
theorem OB (bs_:Nat) (s n e:Int) (w:World) (h:Be w bs_ (stC s) 216) :
  Calls Tryz.prog 174 #[ptV bs_,Ah n,Ah e] w λr w'=>r=.returned (Ah n)/\AL w.heap.size [bs_] w w'/\Be w' bs_ (stC (EV s e)) 216:=by
 refine Av func174 rfl ntmps174 ?_
 have a:=AL.refl w.heap.size ([bs_]) w
 refine A5<|Ab rfl<|Aj<|A5<|A3 rfl<|A1 (.nck rfl)<|A1 (.fa Tr rfl GJ dD rfl)<|Ai (Af (GL _) rfl h rfl)<|A1 (.eql rfl rfl)<|A0<|Ae rfl (λd=>?_) (λd=>?_)
 have g:=dT d
 refine Ak<|A3 rfl<|A3 rfl<|A1 (.nck rfl)<|A1 (.fa Tr rfl GJ dD rfl)<|CT 0 (stC e) h GJ (λj b f i=>?_)
 have c:=CI a (by exact Hc f (by simp))
 refine A0<|A5<|A3 rfl<|Ab rfl<|AI ?_
 first
 | exact ⟨rfl,c,by unfold EV;rw [A7 aS];exact b⟩
 | exact ⟨rfl,c,by unfold EV;rw [A2 aS];exact b⟩
 have g:=dF d
 refine Ap<|A5<|A3 rfl<|Ab rfl<|AI ?_
 first
 | exact ⟨rfl,a,by unfold EV;rw [A7 aS];exact h⟩
 | exact ⟨rfl,a,by unfold EV;rw [A2 aS];exact h⟩
theorem QJ (bs_:Nat) (s a b:Int) (w:World) (h:Be w bs_ (stC s) 216) :
  Calls Tryz.prog 195 #[ptV bs_,Ah a,Ah b] w λr w'=>r=.returned (Ah (FN a b).1)/\AL w.heap.size [bs_] w w'/\Be w' bs_ (stC (EV s (FN a b).2)) 216:=by
 refine Av func195 rfl ntmps195 ?_
 have f:=AL.refl w.heap.size ([bs_]) w
 refine A5<|Ab rfl<|A5<|A3 rfl<|A3 rfl<|A3 rfl<|As (V3 _ _ _) (λk c=>?_)
 have g:=h.bl c
 have d:=kB f c
 refine A1 (.ext rfl rfl)<|A1 (.ext rfl rfl)<|As (OB bs_ s _ _ _ g) (λl e=>?_)
 have i:=CI d (AL.wide e.1 d.size (by simp <;> omega))
 have j:=e.2
 refine Ab rfl<|AI ?_
 exact ⟨rfl,i,j⟩
theorem Zp (bs_:Nat) (s a b:Int) (w:World) (h:Be w bs_ (stC s) 216) :
  Calls Tryz.prog 173 #[ptV bs_,Ah a,Ah b] w λr w'=>r=.returned (Ah (J2 a b).1)/\AL w.heap.size [bs_] w w'/\Be w' bs_ (stC (EV s (J2 a b).2)) 216:=by
 refine Av func173 rfl ntmps173 ?_
 have f:=AL.refl w.heap.size ([bs_]) w
 refine A5<|Ab rfl<|A5<|A3 rfl<|A3 rfl<|A3 rfl<|As (A5Z _ _ _) (λk c=>?_)
 have g:=h.bl c
 have d:=kB f c
 refine A1 (.ext rfl rfl)<|A1 (.ext rfl rfl)<|As (OB bs_ s _ _ _ g) (λl e=>?_)
 have i:=CI d (AL.wide e.1 d.size (by simp <;> omega))
 have j:=e.2
 refine Ab rfl<|AI ?_
 exact ⟨rfl,i,j⟩
theorem A5z (bs_:Nat) (s:Int) (p:Option Addr) (l:List Int) (c:Nat) (w:World) (h:Be w bs_ (stC s) 216) (hr:AZ E5 w p l) (hl:l.length<=9223372036854775807) :
  Calls Tryz.prog 196 #[ptV bs_,.slice p l.length c] w λr w'=>r=.returned (Ah (KN 0 l).1)/\AL w.heap.size [bs_] w w'/\Be w' bs_ (stC (EV s (KN 0 l).2)) 216:=by
 refine Av func196 rfl ntmps196 ?_
 have e:=AL.refl w.heap.size ([bs_]) w
 refine A5<|Ab rfl<|A5<|A3 rfl<|A3 rfl<|As (A5Y p l c _ hr hl) (λj a=>?_)
 have f:=h.bl a
 have b:=kB e a
 refine A1 (.ext rfl rfl)<|A1 (.ext rfl rfl)<|As (OB bs_ s _ _ _ f) (λk d=>?_)
 have g:=CI b (AL.wide d.1 b.size (by simp <;> omega))
 have i:=d.2
 refine Ab rfl<|AI ?_
 exact ⟨rfl,g,i⟩
def QM:Fq Int:=⟨1,λn=>[Ah n],dD,λ_=>rfl,λx u hu=>by simp only [Ao] at hu;subst hu;rfl⟩
theorem A3m (l:List Int):QM.flat l=l.map E5:=by
 unfold Fq.flat
 induction l with
 | nil=>rfl
 | cons a r ih=>rw [CG,ih];rfl
theorem AJ.ofI  {l:List Int} (h:Cq e B w v (l.map E5)):AJ QM e B w v l:=by
 have hl:(l.map E5).length=l.length:=B0 _
 refine AJ.of ?_
 rw [A3m,<- hl];exact h
theorem Bi.ofI  {l:List Int} (h:Bi QM w p l):AZ E5 w p l:=⟨h.isp,λj hj=>by
 have:=h.cells j hj 0 dD
 rw [show j * QM.m+0=j by show j * 1+0=j;omega] at this
 exact this⟩
theorem AZ.toI  {l:List Int} (h:AZ E5 w p l):Bi QM w p l:=⟨h.isp,λj hj k hk=>by
 obtain rfl:k=0:=by have:k<1:=hk;omega
 have:=h.cells j hj
 rw [show j * QM.m+0=j by show j * 1+0=j;omega]
 exact this⟩
theorem Wy:(Tryz.prog.info? 3).map (λi=>(i.zero,i.size,i.bytes))=some (some (Ah 0),1,8):=by kernel_rfl
theorem QI (bs_:Nat) (s a x c y:Int) (p:Option Addr) (l:List Int) (cl:Nat) (w:World) (h:Be w bs_ (stC s) 216) (hr:Bi QM w p l) (hl:l.length<=1000) (hcl:l=[]->cl=0\/p≠none) (hpb:0<l.length->(pA p).block≠bs_) :
  Calls Tryz.prog 168 #[ptV bs_,Ah a,Ah x,Ah c,Ah y,.slice p l.length cl] w λr w'=>r=.returned (Ah (Kz s a x c y l).1)/\AL w.heap.size [bs_] w w'/\Be w' bs_ (stC (Kz s a x c y l).2) 216:=by
 refine Av func168 rfl ntmps168 ?_
 have D:=AL.refl w.heap.size ([bs_]) w
 refine A5<|Ab rfl<|A5<|A3 rfl<|A3 rfl<|A3 rfl<|As (QJ bs_ s a x _ h) (λw1 e=>?_)
 have E:=rk_ hr e.1 (λb=>⟨hr.lt b,by simpa using (hpb) b⟩)
 have F:=CI D (AL.wide e.1 D.size (by simp <;> omega))
 have Q:=e.2
 refine A3 rfl<|A3 rfl<|A3 rfl<|As (QJ bs_ _ c y _ Q) (λw4 f=>?_)
 have G:=rk_ E f.1 (λb=>⟨E.lt b,by simpa using (hpb) b⟩)
 have H:=CI F (AL.wide f.1 F.size (by simp <;> omega))
 have J:=f.2
 refine CF (ps:=_) Dm B6 PM rfl rfl rfl rfl rfl pR rfl (λY R i K d a0=>?_)
 have T:=Bx i J.lt
 have U:=J.un d T
 have q:=λb=>i▸G.lt b
 have L:=Bi.upd G d (λb=>IU (q b))
 have t:=DW i H.size
 have j:=CI H (Ik d t)
 have N:=Cq.lit (m:=2) K rfl (by unfold maxLen;omega)
 have u:Y<=R.heap.size:=by omega
 have v:=AJ.ofI (l:=[(FN a x).1,(FN c y).1]) N
 refine Ab rfl<|A5<|A3 rfl<|A3 rfl<|A3 rfl<|CV Dm Wy rfl rfl rfl v rfl L oE (u) rfl (hcl) (λa1 a2 A B C X=>?_)
 have O:=U.below B oO
 have k:=CI j (Ce C (λg hg=>.inr (by cases hg;omega)) j.size)
 obtain ⟨p6,c6,e6,h6,-⟩:=(A).row
 subst e6
 refine WL.c1 BQ rfl rfl ((A5z bs_ _ _ _ _ _ O h6.ofI (by rw [A9];simp only [A8,Ag];omega))) (λa3 o=>?_)
 have P:=CI k (AL.wide o.1 k.size (by simp <;> omega))
 have V:=o.2
 refine Ab rfl<|AI ?_
 exact ⟨rfl,P,V⟩
end
section
open Go.RowKit Go.WideShapes Go.ChangeShapes
def WH (P:Program) (n:Sh) (ops:Array Oper) (Q:Exit->Fr->World->Prop) (S:World->Prop) (fuel:Nat) (listed:Array Bool) (f:Fr) (w:World):Prop:=∀ a,LK n f a->wpAnyH P .any ops (Hq n Q) S fuel listed a w
def dropS (d:Nat):Fr->Fr
 | []=>[]
 | (i,v)::f=>bif Nat.beq i d then dropS d f else (i,v)::dropS d f
theorem RW {d i:Nat}:∀ (f:Fr),look (dropS d f) i=if i=d then none else look f i
 | []=>by simp [dropS,look]
 | (j, v) :: f => by
  have ih:=RW (d:=d) (i:=i) f
  unfold dropS
  cases h:Nat.beq j d with
  | true =>
   obtain rfl:j=d:=D9 h
   rw [cond_true,ih]
   by_cases hi:i=j
   · rw [A7 hi,A7 hi]
   ·
    have hb:Nat.beq j i=false:=by
     cases hq:Nat.beq j i with
     | true=>exact D6 (D9 hq).symm hi
     | false=>rfl
    rw [A2 hi,A2 hi]
    show look f i=(bif Nat.beq j i then some v else look f i)
    rw [hb,cond_false]
  | false =>
   rw [cond_false]
   show (bif Nat.beq j i then some v else look (dropS d f) i)=if i=d then none else (bif Nat.beq j i then some v else look f i)
   cases hb:Nat.beq j i with
   | true =>
    obtain rfl:j=i:=D9 hb
    have a:j≠d:=λq=>by rw [q,Nat.beq_refl] at h;cases h
    rw [cond_true,cond_true,A2 a]
   | false=>rw [cond_false,cond_false,ih]
theorem LK.dropS {n:Sh} {g:Fr} {a:Act} (h:LK n g (a.put (some d) v)) (_:Nat.blt d n.n=true):LK n (dropS d g) a:=by
 refine ⟨h.1,by simpa [Act.put] using h.2.1,λi u hu=>?_⟩
 rw [RW] at hu
 by_cases hi:i=d
 · rw [A7 hi] at hu;cases hu
 ·
  rw [A2 hi] at hu
  have:=h.2.2 i u hu
  simp only [Act.put,Ba] at this ⊢
  rwa [Array.getElem?_setIfInBounds_ne (λq=>hi q.symm)] at this
def PnK (g0:Fr) (Q:Exit->Fr->World->Prop):Exit->Fr->World->Prop
 | .panic c,f,w=>Sub g0 f/\Q (.panic c) g0 w
 | e,f,w=>Q e f w
section
variable {P:Program} {n:Sh} {f:Fr} {ops:Array Oper} {Q:Exit->Fr->World->Prop} {w:World} {fuel:Nat} {listed:Array Bool} {S:World->Prop}
theorem DD  {l:List Oper} (N:Nat) (hN:l.length=N) (hm:P.follows .mixedOrders=true) (S:World->Prop) (h:∀ w1,Df w w1->WH P n l.toArray Q S N (Array.replicate N false) f w1):W P n (.region id l.toArray true) Q f w:=by
 unfold W
 exact λa ha=>wp_region_held (S:=S) hm (by
  subst hN
  have:=h (w.drewN 1) ⟨1,rfl⟩ a ha
  rw [show l.toArray.size=l.length by simp]
  exact this)
theorem C8 (i:Nat) {ty:Nat} {op:Op} (hi:ops[i]?=some ⟨some d,op,ty,pos,aft,none⟩) (hp:∀ w',S w'->Rd P op f w' v) (hS:S w) (hd:Nat.blt d n.n=true)
  (k:WH P n ops Q S fuel (listed.setIfInBounds i true) ((d,v)::f) w) (hs:Region.noSelect ops=true:=by kernel_rfl) (hf:Region.free .any ops listed i=true:=by kernel_rfl)
  (hr:(Region.ready .any ops listed).contains i=true:=by kernel_rfl) (hQ:∀ c f w,Q (.panic c) f w->Q (.panic c) (dropS d f) w:=by first | exact λc f w h=>QE h | exact λc f w h=>h | exact λc f w h=>pnK_drop rfl h):WH P n ops Q S (fuel+1) listed f w:=by
 intro a ha
 refine wpAnyH_take hi hs hf hr ?_ (.inl ⟨by simp [Region.wanted],λw' hw'=>hp w' hw' _ ha.agr _ _ _ _ _⟩) hS (k _ (ha.put hd v))
 rintro c b w' ⟨g,hg,hq⟩
 exact ⟨dropS d g,hg.dropS hd,hQ c g w' hq⟩
theorem A9n (i:Nat) {ty:Nat} {op:Op} (hi:ops[i]?=some ⟨some d,op,ty,pos,aft,none⟩) (hp:BM P op f v) (hS:S w) (hd:Nat.blt d n.n=true)
  (k:WH P n ops Q S fuel (listed.setIfInBounds i true) ((d,v)::f) w) (hs:Region.noSelect ops=true:=by kernel_rfl) (hf:Region.free .any ops listed i=true:=by kernel_rfl)
  (hr:(Region.ready .any ops listed).contains i=true:=by kernel_rfl) (hQ:∀ c f w,Q (.panic c) f w->Q (.panic c) (dropS d f) w:=by first | exact λc f w h=>QE h | exact λc f w h=>h | exact λc f w h=>pnK_drop rfl h):WH P n ops Q S (fuel+1) listed f w :=
 C8 i hi (λ_ _=>hp.rd) hS hd k hs hf hr hQ
theorem Aa  {n:Sh} {Q:Exit->Fr->World->Prop} {fuel:Nat} {listed:Array Bool} {S:World->Prop} (i:Nat) {ty:Nat} {op:Op} (hi:ops[i]?=some ⟨some d,op,ty,pos,aft,none⟩) (hp:BM P op f v) (hS:S w) (k:WH P n ops Q S fuel (listed.setIfInBounds i true) ((d,v)::f) w) (hd:Nat.blt d n.n=true:=by rfl) (hs:Region.noSelect ops=true:=by kernel_rfl) (hf:Region.free .any ops listed i=true:=by kernel_rfl) (hr:(Region.ready .any ops listed).contains i=true:=by kernel_rfl) (hQ:∀ c f w,Q (.panic c) f w->Q (.panic c) (dropS d f) w:=by first | exact λc f w h=>QE h | exact λc f w h=>h | exact λc f w h=>pnK_drop rfl h):WH P n ops Q S (fuel+1) listed f w:=A9n i hi hp hS hd k hs hf hr hQ
theorem WH.op (j:Nat) {o:Oper} (hi:ops[j]?=some o) (h:WL P n ops (nx (λf' w'=>S w'/\WH P n ops Q S fuel (listed.setIfInBounds j true) f' w') Q) [o] f w) (a:Act) (ha:LK n f a) :
  wpOp P ops (Hq n Q) j (λa' w'=>S w'/\wpAnyH P .any ops (Hq n Q) S fuel (listed.setIfInBounds j true) a' w') a w:=by
 unfold WL at h
 have:=h a ha
 unfold wpOp
 simp only [hi]
 have conv:∀ (e:Exit) (a:Act) (w:World),Hq n (nx (λf' w'=>S w'/\WH P n ops Q S fuel (listed.setIfInBounds j true) f' w') Q) e a w->Exit.then (λa' w'=>S w'/\wpAnyH P .any ops (Hq n Q) S fuel (listed.setIfInBounds j true) a' w') (Hq n Q) e a w:=by
  rintro e a w ⟨g,hg,hq⟩
  cases e with
  | normal=>exact ⟨hq.1,hq.2 a hg⟩
  | _=>exact ⟨g,hg,hq⟩
 unfold wpList at this
 split
 ·
  next hwt =>
  rw [A7 hwt] at this
  refine this.imp (λh=>?_) λ⟨b,a',w',c⟩=>⟨b,a',w',conv _ _ _ c⟩
  have h':o.wp P a w (λa' w'=>S w'/\wpAnyH P .any ops (Hq n Q) S fuel (listed.setIfInBounds j true) a' w') (Hq n (nx (λf' w'=>S w'/\WH P n ops Q S fuel (listed.setIfInBounds j true) f' w') Q)) :=
   Oper.wp_mono (λa w h=>conv .normal a w h) h
  exact Tp h' λe a w he h=>by
   cases e with
   | normal=>exact D6 rfl he
   | _=>exact conv _ a w h
 ·
  next hwt =>
  rw [A2 hwt] at this
  exact conv .normal _ _ this
theorem Aq (i:Nat) {o:Oper} (hi:ops[i]?=some o) (h:WL P n ops (nx (λf' w'=>S w'/\WH P n ops Q S fuel (listed.setIfInBounds i true) f' w') Q) [o] f w) (hr:Region.ready .any ops listed=[i]:=by kernel_rfl):WH P n ops Q S (fuel+1) listed f w:=by
 intro a ha
 refine wpAnyH_all hr (by simp) λj hj=>?_
 obtain rfl:j=i:=by simpa using hj
 exact WH.op j hi h a ha
theorem Ef (i:Nat) {o:Oper} (hi:ops[i]?=some o) (k:Nat) {o2:Oper} (hk:ops[k]?=some o2) (h:WL P n ops (nx (λf' w'=>S w'/\WH P n ops Q S fuel (listed.setIfInBounds i true) f' w') Q) [o] f w)
    (h2:WL P n ops (nx (λf' w'=>S w'/\WH P n ops Q S fuel (listed.setIfInBounds k true) f' w') Q) [o2] f w) (hr:Region.ready .any ops listed=[i,k]:=by kernel_rfl):WH P n ops Q S (fuel+1) listed f w:=by
  intro a ha
  refine wpAnyH_all hr (by simp) λj hj=>?_
  rcases Ax.1 hj with rfl | hj
  · exact WH.op j hi h a ha
  · obtain rfl : j = k := by simpa using hj
    exact WH.op j hk h2 a ha
theorem Bl (hr:Region.ready .any ops listed=[]) (h:Q .normal f w):WH P n ops Q S fuel listed f w:=λ_ ha=>wpAnyH_done hr ⟨f,ha,h⟩ fuel
end
attribute [irreducible] WH
end
section
def ptR (r:(Int × Int) × Int):Value:=.tuple #[.agg #[Ah r.1.1,Ah r.1.2],Ah r.2]
theorem A6z  {b:Nat} (h:c<b):(pA (some (⟨b,0,none⟩:Addr))).block≠c:=Nat.ne_of_gt h
theorem TR (bs_:Nat) (s x y:Int) (w:World) (h:Be w bs_ (stC s) 216) :
  C9 169 #[ptV bs_,Ah x,Ah y] w (ptR (IL s x y)):=by
 refine Av func169 rfl ntmps169 ?_
 have v:=DR w
 refine A5<|C1 LZ rfl (λL A l d e H=>?_)
 have B:=Bx l h.lt
 have a:=h.un e B
 have m:=uB v l e
 refine Ab rfl<|Aj<|A5<|A3 rfl<|A1 (.nck rfl)<|A1 (.fa Tr rfl GJ dD rfl)<|Ai (Af (GL _) rfl a rfl)<|A1 (.neq rfl rfl)<|A0<|Ae rfl (λq=>?_) (λq=>?_)
 have C:=Kj q
 refine Aj<|DD 7 rfl Ci (λw'=>w'.heap[bs_]?=A.heap[bs_]?/\True) (λN f=>?_)
 have o:=a.drew f
 have D:=d.drew f
 have E:=Df.below m f
 have b:=Dr (o.trans a.symm) BO
 refine Aa 0 rfl (.buildL (ps:=_) LY rfl rfl rfl pZ) b ?_
 refine Aa 1 rfl (.mv rfl) b ?_
 refine Aa 2 rfl (.nck rfl) b ?_
 refine Aa 3 rfl (.fa Tr rfl GJ dD rfl) b ?_
 refine C8 4 rfl (λw' hw'=>Af (GL _) rfl ((hw'.1).trans a) rfl) b rfl ?_
 refine Aq 5 rfl<|AH rfl rfl D Cb rfl rfl (λJ i c F=>?_)
 have g:=o.up c
 have t:=CP E oO c
 refine A0<|⟨⟨(g).trans (a).symm,tT⟩,?_⟩
 refine Aa 6 rfl (.as rfl) ⟨(g).trans (a).symm,tT⟩ ?_
 refine Bl kR<|B2 (EQ rfl rfl (BF i CQ rfl Cb) rfl ?_)
 exact ⟨Dc (by unfold IL;rw [A7 aS];rfl),t⟩
 have C:=Kk q
 refine Ap<|A5<|A3 rfl<|A3 rfl<|?_
 refine A1 (.buildL (ps:=_) LY rfl rfl rfl pS) ?_
 refine AH rfl rfl d Cb rfl rfl (λK j k G=>?_)
 have u:=CP m oO k
 refine Ab rfl<|B2 (EQ rfl rfl (BF j CQ rfl Cb) rfl ?_)
 exact ⟨Dc (by unfold IL;rw [A2 (by simp_all)];rfl),u⟩
theorem TT (m:M6) (x y:Int) (w:World) :
  C9 138 #[.agg (M9 m).toArray,.agg #[Ah x,Ah y]] w (ptR (Gk m x y)):=by
 obtain ⟨a,b,c,d,e,f⟩:=m
 simp only [M9]
 refine Av func138 rfl ntmps138 ?_
 have aB:=DR w
 refine A5<|D5 rfl rfl (λb1 aS aC D ab aM=>?_)
 have aD:=uB aB aC ab
 refine D5 rfl rfl (λb3 aT a7 E F aN=>?_)
 have aE:=Bx a7 D.lt
 have a8:=D.un F aE
 have aF:=uB aD a7 F
 refine C1 LZ rfl (λb7 aU G H u aO=>?_)
 have aG:=Bx G a8.lt
 have a9:=a8.un u aG
 have ac:=Bx G E.lt
 have J:=E.un u ac
 have ad:=uB aF G u
 refine Ab rfl<|A5<|C1 zeroValue216 rfl (λK aP q C i aI=>?_)
 have ae:=Bx q a9.lt
 have j:=a9.un i ae
 have af:=Bx q J.lt
 have s:=J.un i af
 have ag:=Bx q H.lt
 have L:=H.un i ag
 have ah:=uB ad q i
 refine A0<|A5<|A1 (.ixr1 DM B6 rfl rfl 0 rfl oO)<|Ai (Af (BE _) rfl j rfl)<|A1 (.fa CQ rfl B6 dD rfl)<|Ai (Af (BE _) rfl s rfl)<|A1 (.ixr1 DM B6 rfl rfl 2 rfl oO)<|Ai (Af (BE _) rfl j rfl)<|A1 (.fa CQ rfl B6 dD rfl)<|Ai (Af (BE _) rfl s rfl)<|A1 (.ixr1 DM B6 rfl rfl 4 rfl oO)<|Ai (Af (BE _) rfl j rfl)<|CF (ps:=_) Dm B6 PM rfl rfl rfl rfl rfl pR rfl (λaV aQ k a1 g aJ=>?_)
 have ai:=Bx k j.lt
 have N:=j.un g ai
 have aj:=Bx k s.lt
 have P:=s.un g aj
 have ak:=Bx k L.lt
 have Q:=L.un g ak
 have am:=Bx k C.lt
 have an:=C.un g am
 have T:=uB ah k g
 have ao:=Cq.lit (m:=1) a1 rfl (by unfold maxLen;omega)
 have a2:=AJ.ofI (l:=[e]) ao
 refine WL.c1 BQ rfl rfl ((QI K 0 a x c y _ [e] 1 _ an (a2).rowp (by simp) (λh=>by simp at h) (λ_=>A6z oO))) (λaW o=>?_)
 have v:=DB N o.1 N.lt (by simp only [Ax,AK,Cl,not_or,Bh];omega)
 have U:=DB P o.1 P.lt (by simp only [Ax,AK,Cl,not_or,Bh];omega)
 have V:=DB Q o.1 Q.lt (by simp only [Ax,AK,Cl,not_or,Bh];omega)
 have ap:=EU T (AL.below o.1 T.size (by simp <;> omega))
 have aa:=o.2
 refine Ab rfl<|A5<|A1 (.ixr1 DM B6 rfl rfl 1 rfl oO)<|Ai (Af (BE _) rfl v rfl)<|A1 (.fa CQ rfl B6 dD rfl)<|Ai (Af (BE _) rfl U rfl)<|A1 (.ixr1 DM B6 rfl rfl 3 rfl oO)<|Ai (Af (BE _) rfl v rfl)<|A1 (.fa CQ rfl B6 dD rfl)<|Ai (Af (BE _) rfl U rfl)<|A1 (.ixr1 DM B6 rfl rfl 5 rfl oO)<|Ai (Af (BE _) rfl v rfl)<|CF (ps:=_) Dm B6 PM rfl rfl rfl rfl rfl pR rfl (λaX aR A a3 t aK=>?_)
 have aq:=Bx A V.lt
 have X:=V.un t aq
 have ar:=Bx A aa.lt
 have au:=aa.un t ar
 have Y:=uB ap A t
 have av:=Cq.lit (m:=1) a3 rfl (by unfold maxLen;omega)
 have a4:=AJ.ofI (l:=[f]) av
 refine WL.c1 BQ rfl rfl ((QI K _ b x d y _ [f] 1 _ au (a4).rowp (by simp) (λh=>by simp at h) (λ_=>A6z oO))) (λaY B=>?_)
 have aw:=DB X B.1 X.lt (by simp only [Ax,AK,Cl,not_or,Bh];omega)
 have ax:=EU Y (AL.below B.1 Y.size (by simp <;> omega))
 have aH:=B.2
 refine Ab rfl<|A5<|A3 rfl<|A3 rfl<|As (TR K _ _ _ _ aH) (λaZ a0=>?_)
 have ay:=aw.bl a0
 have az:=DN ax a0
 refine A1 (.ext rfl rfl)<|A1 (.ext rfl rfl)<|AH rfl rfl ay Cb rfl rfl (λa' a5 a6 aL=>?_)
 have aA:=CP az oO a6
 refine Ab rfl<|B2 (EQ rfl rfl (BF a5 CQ rfl Cb) rfl ?_)
 exact ⟨rfl,aA⟩
theorem TS (m:M6) (x y:Int) (w:World) :
  C9 137 #[.agg (M9 m).toArray,.agg #[Ah x,Ah y]] w (ptR (IM m x y)):=by
 obtain ⟨a,b,c,d,e,f⟩:=m
 simp only [M9]
 refine Av func137 rfl ntmps137 ?_
 have a8:=DR w
 refine A5<|D5 rfl rfl (λb1 an a9 s V ai=>?_)
 have aa:=uB a8 a9 V
 refine D5 rfl rfl (λb3 ao Q t u aj=>?_)
 have ab:=Bx Q s.lt
 have T:=s.un u ab
 have ac:=uB aa Q u
 refine C1 LZ rfl (λb7 ap v A o ak=>?_)
 have ad:=Bx v T.lt
 have U:=T.un o ad
 have X:=Bx v t.lt
 have B:=t.un o X
 have Y:=uB ac v o
 refine Ab rfl<|A5<|C1 zeroValue216 rfl (λC am j L g ag=>?_)
 have a0:=Bx j U.lt
 have k:=U.un g a0
 have a1:=Bx j B.lt
 have l:=B.un g a1
 have a2:=Bx j A.lt
 have D:=A.un g a2
 have E:=uB Y j g
 refine A0<|A5<|A1 (.ixr1 DM B6 rfl rfl 0 rfl oO)<|Ai (Af (BE _) rfl k rfl)<|A1 (.fa CQ rfl B6 dD rfl)<|Ai (Af (BE _) rfl l rfl)<|A1 (.ixr1 DM B6 rfl rfl 2 rfl oO)<|Ai (Af (BE _) rfl k rfl)<|A1 (.fa CQ rfl B6 dD rfl)<|Ai (Af (BE _) rfl l rfl)<|WL.c1 BQ rfl rfl ((QI C 0 a x c y _ [] 0 _ L (Bi.nil _) (by simp) (λ_=>.inl rfl) (λh=>by simp at h))) (λaq i=>?_)
 have F:=DB k i.1 k.lt (by simp only [Ax,AK,Cl,not_or,Bh];omega)
 have G:=DB l i.1 l.lt (by simp only [Ax,AK,Cl,not_or,Bh];omega)
 have H:=DB D i.1 D.lt (by simp only [Ax,AK,Cl,not_or,Bh];omega)
 have J:=EU E (AL.below i.1 E.size (by simp <;> omega))
 have ae:=i.2
 refine Ab rfl<|A5<|A1 (.ixr1 DM B6 rfl rfl 1 rfl oO)<|Ai (Af (BE _) rfl F rfl)<|A1 (.fa CQ rfl B6 dD rfl)<|Ai (Af (BE _) rfl G rfl)<|A1 (.ixr1 DM B6 rfl rfl 3 rfl oO)<|Ai (Af (BE _) rfl F rfl)<|A1 (.fa CQ rfl B6 dD rfl)<|Ai (Af (BE _) rfl G rfl)<|WL.c1 BQ rfl rfl ((QI C _ b x d y _ [] 0 _ ae (Bi.nil _) (by simp) (λ_=>.inl rfl) (λh=>by simp at h))) (λar q=>?_)
 have a3:=DB H q.1 H.lt (by simp only [Ax,AK,Cl,not_or,Bh];omega)
 have a4:=EU J (AL.below q.1 J.size (by simp <;> omega))
 have af:=q.2
 refine Ab rfl<|A5<|A3 rfl<|A3 rfl<|As (TR C _ _ _ _ af) (λau K=>?_)
 have a5:=a3.bl K
 have a6:=DN a4 K
 refine A1 (.ext rfl rfl)<|A1 (.ext rfl rfl)<|AH rfl rfl a5 Cb rfl rfl (λav N P ah=>?_)
 have a7:=CP a6 oO P
 refine Ab rfl<|B2 (EQ rfl rfl (BF N CQ rfl Cb) rfl ?_)
 exact ⟨rfl,a7⟩
theorem Su:Tryz.prog.built 42=λCy=>Instr.fill (λi=>some (i * 1,1)) #[Ah 0,Ah 0,Ah 0,Ah 0,Ah 0,Ah 0] Cy:=by kernel_rfl
theorem Lv (w:World):C9 17 #[] w (.agg (M9 O3).toArray):=by
 refine Av func17 rfl ntmps17 ?_
 have e:=DR w
 refine A5<|C1 Ql rfl (λm l f a b j=>?_)
 have g:=uB e f b
 refine A0<|?_
 refine A5<|A1 (.build (cs:=(M9 O3).toArray) rfl (by rw [Su];rfl)) ?_
 refine AH rfl rfl a CY rfl rfl (λo c d k=>?_)
 have i:=CP g oO d
 refine A0<|B2 (Ch rfl rfl (BF c DM rfl CY)  ?_)
 exact ⟨rfl,i⟩
theorem KE (x y:Int) (w:World):C9 73 #[Ah x,Ah y] w (.agg (M9 (It x y)).toArray):=by
 refine Av func73 rfl ntmps73 ?_
 have e:=DR w
 refine A5<|C1 Ql rfl (λm l f a b j=>?_)
 have g:=uB e f b
 refine A0<|A5<|A3 rfl<|A3 rfl<|?_
 refine A1 (.build (cs:=(M9 (It x y)).toArray) rfl (by rw [Su];rfl)) ?_
 refine AH rfl rfl a CY rfl rfl (λo c d k=>?_)
 have i:=CP g oO d
 refine A0<|B2 (Ch rfl rfl (BF c DM rfl CY)  ?_)
 exact ⟨rfl,i⟩
theorem Q6 (x y:Int) (w:World):C9 100 #[Ah x,Ah y] w (.agg (M9 (m6S x y)).toArray):=by
 refine Av func100 rfl ntmps100 ?_
 have e:=DR w
 refine A5<|C1 Ql rfl (λm l f a b j=>?_)
 have g:=uB e f b
 refine A0<|A5<|A3 rfl<|A3 rfl<|?_
 refine A1 (.build (cs:=(M9 (m6S x y)).toArray) rfl (by rw [Su];rfl)) ?_
 refine AH rfl rfl a CY rfl rfl (λo c d k=>?_)
 have i:=CP g oO d
 refine A0<|B2 (Ch rfl rfl (BF c DM rfl CY)  ?_)
 exact ⟨rfl,i⟩
end
section
def m6R (r:M6 × Int):Value:=.tuple #[.agg (M9 r.1).toArray,Ah r.2]
theorem RT (m k:M6) (w:World) :
  C9 99 #[.agg (M9 m).toArray,.agg (M9 k).toArray] w (m6R (Di m k)):=by
 obtain ⟨a,b,c,d,e,f⟩:=m
 obtain ⟨u,hu⟩:=eX (IM k a b)
 obtain ⟨v,hv⟩:=eX (IM k c d)
 obtain ⟨t,ht⟩:=eX (Gk k e f)
 have bd:Di ⟨a,b,c,d,e,f⟩ k=if u.2≠0 then (Xu,u.2) else if v.2≠0 then (Xu,v.2) else if t.2≠0 then (Xu,t.2) else (⟨u.1.1,u.1.2,v.1.1,v.1.2,t.1.1,t.1.2⟩,0):=by rw [hu,hv,ht];rfl
 rw [bd]
 obtain ⟨⟨u1,u2⟩,ue⟩:=u
 obtain ⟨⟨v1,v2⟩,ve⟩:=v
 obtain ⟨⟨t1,t2⟩,te⟩:=t
 simp only
 obtain ⟨ka,kb,kc,kd,ke,kf⟩:=k
 simp only [M9]
 refine Av func99 rfl ntmps99 ?_
 have be:=DR w
 refine A5<|D5 rfl rfl (λb1 bG bf G az bx=>?_)
 have bg:=uB be bf az
 refine D5 rfl rfl (λb3 bH ax H J bz=>?_)
 have bh:=Bx ax G.lt
 have ay:=G.un J bh
 have bi:=uB bg ax J
 refine C1 Ql rfl (λb7 bI K aA D bA=>?_)
 have bj:=Bx K ay.lt
 have L:=ay.un D bj
 have aB:=Bx K H.lt
 have N:=H.un D aB
 have aC:=uB bi K D
 refine Ab rfl<|A5<|Ai (BD rfl N DM rfl CY)<|A1 (.ixr1 DM B6 rfl rfl 0 rfl oO)<|Ai (Af (BE _) rfl L rfl)<|A1 (.ixr1 DM B6 rfl rfl 1 rfl oO)<|Ai (Af (BE _) rfl L rfl)<|?_
 refine A1 (.buildL (ps:=_) LY rfl rfl rfl pS) ?_
 refine As (TS ⟨ka,kb,kc,kd,ke,kf⟩ a b _) (λbJ y=>?_)
 have P:=L.bl y
 have Q:=N.bl y
 have T:=aA.bl y
 have aD:=DN aC y
 rw [<- hu]
 simp only [ptR]
 refine A3 rfl<|A1 (.ext rfl rfl)<|A1 (.ext rfl rfl)<|C1 LZ rfl (λbK bB A ai j bm=>?_)
 have aE:=Bx A P.lt
 have aF:=P.un j aE
 have aG:=Bx A Q.lt
 have aH:=Q.un j aG
 have aI:=Bx A T.lt
 have aJ:=T.un j aI
 have aK:=uB aD A j
 refine AH rfl rfl ai Cb rfl rfl (λbL aj l bn=>?_)
 have E:=aF.up l
 have U:=aH.up l
 have V:=aJ.up l
 have X:=CP aK oO l
 refine Ab rfl<|Aj<|A5<|A3 rfl<|A1 (.neq rfl rfl)<|A0<|Ae rfl (λY=>?_) (λY=>?_)
 have aL:=Kj Y
 refine A5<|A1 (.build (cs:=(M9 Xu).toArray) rfl (by rw [Su];rfl)) ?_
 refine A3 rfl<|AH rfl rfl V CY rfl rfl (λbM ak am bo=>?_)
 have aM:=CP X oO am
 refine Ab rfl<|B2 (EQ rfl rfl (BF ak DM rfl CY) rfl ?_)
 exact ⟨Dc (by rw [A7 oO];rfl),aM⟩
 have aL:=Kk Y
 refine Ap<|A5<|Ai (BD rfl U DM rfl CY)<|A1 (.ixr1 DM B6 rfl rfl 2 rfl oO)<|Ai (Af (BE _) rfl E rfl)<|A1 (.ixr1 DM B6 rfl rfl 3 rfl oO)<|Ai (Af (BE _) rfl E rfl)<|?_
 refine A1 (.buildL (ps:=_) LY rfl rfl rfl pS) ?_
 refine As (TS ⟨ka,kb,kc,kd,ke,kf⟩ c d _) (λbN s=>?_)
 have a0:=E.bl s
 have a1:=U.bl s
 have a2:=V.bl s
 have a3:=aj.bl s
 have aN:=DN X s
 rw [<- hv]
 simp only [ptR]
 refine A3 rfl<|A1 (.ext rfl rfl)<|A1 (.ext rfl rfl)<|C1 LZ rfl (λbO bC x an g bp=>?_)
 have aO:=Bx x a0.lt
 have aP:=a0.un g aO
 have aQ:=Bx x a1.lt
 have aR:=a1.un g aQ
 have aS:=Bx x a2.lt
 have aT:=a2.un g aS
 have aU:=Bx x a3.lt
 have aV:=a3.un g aU
 have aW:=uB aN x g
 refine AH rfl rfl an Cb rfl rfl (λbP ao i bq=>?_)
 have a4:=aP.up i
 have aX:=aR.up i
 have a5:=aT.up i
 have aY:=aV.up i
 have a6:=CP aW oO i
 refine Ab rfl<|Aj<|A5<|A3 rfl<|A1 (.neq rfl rfl)<|A0<|Ae rfl (λa7=>?_) (λa7=>?_)
 have aZ:=Kj a7
 refine A5<|A1 (.build (cs:=(M9 Xu).toArray) rfl (by rw [Su];rfl)) ?_
 refine A3 rfl<|AH rfl rfl a5 CY rfl rfl (λbQ ap aq bt=>?_)
 have a':=CP a6 oO aq
 refine Ab rfl<|B2 (EQ rfl rfl (BF ap DM rfl CY) rfl ?_)
 exact ⟨Dc (by rw [A2 oO,A7 oO];rfl),a'⟩
 have aZ:=Kk a7
 refine Ap<|A5<|Ai (BD rfl aX DM rfl CY)<|A1 (.ixr1 DM B6 rfl rfl 4 rfl oO)<|Ai (Af (BE _) rfl a4 rfl)<|A1 (.ixr1 DM B6 rfl rfl 5 rfl oO)<|Ai (Af (BE _) rfl a4 rfl)<|?_
 refine A1 (.buildL (ps:=_) LY rfl rfl rfl pS) ?_
 refine As (TT ⟨ka,kb,kc,kd,ke,kf⟩ e f _) (λbR B=>?_)
 have a8:=a5.bl B
 have a9:=aY.bl B
 have aa:=ao.bl B
 have b0:=DN a6 B
 rw [<- ht]
 simp only [ptR]
 refine A3 rfl<|A1 (.ext rfl rfl)<|A1 (.ext rfl rfl)<|C1 LZ rfl (λbS bD C ar o bu=>?_)
 have b2:=Bx C a8.lt
 have b4:=a8.un o b2
 have b5:=Bx C a9.lt
 have b6:=a9.un o b5
 have b8:=Bx C aa.lt
 have b9:=aa.un o b8
 have ba:=uB b0 C o
 refine AH rfl rfl ar Cb rfl rfl (λbT F q bv=>?_)
 have ab:=b4.up q
 have ac:=b6.up q
 have ad:=b9.up q
 have ae:=CP ba oO q
 refine Ab rfl<|Aj<|A5<|A3 rfl<|A1 (.neq rfl rfl)<|A0<|Ae rfl (λaf=>?_) (λaf=>?_)
 have bb:=Kj af
 refine A5<|A1 (.build (cs:=(M9 Xu).toArray) rfl (by rw [Su];rfl)) ?_
 refine A3 rfl<|AH rfl rfl ab CY rfl rfl (λbU au av bw=>?_)
 have bc:=CP ae oO av
 refine Ab rfl<|B2 (EQ rfl rfl (BF au DM rfl CY) rfl ?_)
 exact ⟨Dc (by rw [A2 oO,A2 oO,A7 oO];rfl),bc⟩
 have bb:=Kk af
 refine Ap<|A5<|A1 (.fa CQ rfl B6 dD rfl)<|Ai (Af (BE _) rfl ac rfl)<|A1 (.fa CQ rfl B6 dD rfl)<|Ai (Af (BE _) rfl ac rfl)<|A1 (.fa CQ rfl B6 dD rfl)<|Ai (Af (BE _) rfl ad rfl)<|A1 (.fa CQ rfl B6 dD rfl)<|Ai (Af (BE _) rfl ad rfl)<|A1 (.fa CQ rfl B6 dD rfl)<|Ai (Af (BE _) rfl F rfl)<|A1 (.fa CQ rfl B6 dD rfl)<|Ai (Af (BE _) rfl F rfl)<|?_
 refine A1 (.build (cs:=(M9 ⟨u1,u2,v1,v2,t1,t2⟩).toArray) rfl (by rw [Su];rfl)) ?_
 refine AH rfl rfl ab CY rfl rfl (λbE ag ah bk=>?_)
 have aw:=CP ae oO ah
 refine Ab rfl<|B2 (EQ rfl rfl (BF ag DM rfl CY) rfl ?_)
 exact ⟨Dc (by rw [A2 oO,A2 oO,A2 oO];rfl),aw⟩
theorem A5A (bs_:Nat) (m:M6) (w:World) (h:Be w bs_ (stC 0) 216) :
  Calls Tryz.prog 172 #[ptV bs_,.agg (M9 m).toArray] w λr w'=>r=.returned (Ah (Sl m).1)/\AL w.heap.size [bs_] w w'/\Be w' bs_ (stC (Sl m).2) 216:=by
 obtain ⟨a,b,c,d,e,f⟩:=m
 simp only [M9]
 refine Av func172 rfl ntmps172 ?_
 have A:=AL.refl w.heap.size ([bs_]) w
 refine A5<|D5 rfl rfl (λF G B g l Q=>?_)
 have H:=Bx B h.lt
 have J:=h.un l H
 have y:=DW B A.size
 have K:=CI A (Ik l y)
 refine Ab rfl<|Aj<|DD 14 rfl Ci (λw'=>w'.heap[F]?=G.heap[F]?/\True) (λU o=>?_)
 have L:=J.drew o
 have q:=g.drew o
 have C:=CI K (QL o)
 have i:=Dr (q.trans g.symm) BO
 refine Aa 0 rfl (.mv rfl) i ?_
 refine Aa 1 rfl (.ixr1 DM B6 rfl rfl 0 rfl oO) i ?_
 refine C8 2 rfl (λw' hw'=>Af (BE _) rfl ((hw'.1).trans g) rfl) i rfl ?_
 refine Aa 3 rfl (.ixr1 DM B6 rfl rfl 3 rfl oO) i ?_
 refine C8 4 rfl (λw' hw'=>Af (BE _) rfl ((hw'.1).trans g) rfl) i rfl ?_
 refine Aa 6 rfl (.mv rfl) i ?_
 refine Aa 7 rfl (.ixr1 DM B6 rfl rfl 1 rfl oO) i ?_
 refine C8 8 rfl (λw' hw'=>Af (BE _) rfl ((hw'.1).trans g) rfl) i rfl ?_
 refine Aa 9 rfl (.ixr1 DM B6 rfl rfl 2 rfl oO) i ?_
 refine C8 10 rfl (λw' hw'=>Af (BE _) rfl ((hw'.1).trans g) rfl) i rfl ?_
 refine Aq 5 rfl<|As (QJ bs_ 0 a d _ L) (λV s=>?_)
 have j:=DB q s.1 q.lt (by simp only [Ax,AK,Cl,not_or,Bh];omega)
 have t:=CI C (AL.wide s.1 C.size (by simp <;> omega))
 have N:=s.2
 refine A0<|⟨⟨(j).trans (g).symm,tT⟩,?_⟩
 refine Aq 11 rfl<|As (QJ bs_ _ b c _ N) (λR k=>?_)
 have D:=DB j k.1 j.lt (by simp only [Ax,AK,Cl,not_or,Bh];omega)
 have u:=CI t (AL.wide k.1 t.size (by simp <;> omega))
 have O:=k.2
 refine A0<|?_
 have v:=Dr (D.trans g.symm) BO
 refine ⟨v,?_⟩
 refine Aa 12 rfl (.as rfl) v ?_
 refine Aa 13 rfl (.as rfl) v ?_
 refine Bl kR<|A5<|A3 rfl<|A3 rfl<|A3 rfl<|As (Zp bs_ _ _ _ _ O) (λT x=>?_)
 have E:=CI u (AL.wide x.1 u.size (by simp <;> omega))
 have P:=x.2
 refine Ab rfl<|AI ?_
 exact ⟨rfl,E,P⟩
section
variable {P:Program} {f:Fr}
theorem BM.shrV  {k ky:IntKind} {ty:TypeId} {a b:Int} (hx:D3 f x=some (.int k a)) (hy:D3 f y=some (.int ky b)) (h0:0<=b) (h1:b<=k.bits) (r:Int) (hr:a / 2 ^ b.toNat=r):BM P (.binOp .shr tx x y ty) f (.int k r):=λρ hρ d ty' pos aft g w=>by
 have e:=shift_shr k ky a b h0 h1
 rw [hr] at e
 simp [execOp,hρ _ _ hx,hρ _ _ hy,eqGuard,binOp_shr,e]
end
theorem A1C:∀ k<25,(Fc.getD k 0) / 2=Fc.getD (k+1) 0:=by decide
theorem A4f:∀ k<26,(0<Fc.getD k 0↔k<25)/\0<=Fc.getD k 0/\Fc.getD k 0<=16777216:=by decide
theorem A4e:∀ k<25,2 * Fc.getD (k+1) 0<=Fc.getD k 0:=by decide
theorem A1D:∀ k<25,Fc.drop k=Fc.getD k 0::Fc.drop (k+1):=by decide
theorem A4g:Fc.drop 25=[]:=by decide
theorem A6v {a b:Int} (h0:0<=a) (h:a<=b):a * a<=b * b:=Int.mul_le_mul h h h0 oO
theorem A3G (a:Int) (w:World):Calls Tryz.prog 175 #[Ah a] w λe w'=>e=.returned (KV (Me a))/\w=w':=by
 refine Av func175 rfl ntmps175<|A5<|DA rfl<|Ab rfl<|Aj<|A5<|A3 rfl<|As (Jd _ _) (λB m=>?_)
 obtain rfl:=m
 refine A1 (.not rfl)<|A3 rfl<|B5 rfl rfl rfl (λc=>?_) (λc=>?_)
 have o:=(nF c)
 refine A3 rfl<|EK rfl rfl rfl (by rw [(nF c)] <;> rfl)<|A1 (.lss rfl rfl)<|A1 (.pkF rfl (by rw [(nF c)] <;> rfl) rfl)<|A0<|Ae rfl (λg=>?_) (λg=>?_)
 have q:=dT g
 refine A5<|DA rfl<|Ab rfl<|B2 (EG rfl rfl rfl ?_)
 exact ⟨In (by unfold Me;rw [A2 (by simp_all)]),rfl⟩
 have q:=dF g
 have hf:Am a=true/\0<=a:=by simp_all
 have H:=Ko hf.1
 have J:=hf.2
 refine Ap<|A5<|A3 rfl<|A1 (.mul rfl rfl (Bn oO))<|Ab rfl<|A5<|Ab rfl<|Aj<|A5<|Ab rfl<|AU<|Cf (α:=Nat × Int) (λt=>[(4,Ah (a * 65536)),(5,Ah t.2),(6,Ah (Fc.getD t.1 0))]) (λt w'=>w=w'/\t.1<=25/\0<=t.2/\t.2+2 * Fc.getD t.1 0<=33554432/\t.2<=33554431/\Og (Fc.drop t.1) (a * 65536) t.2=Og Fc (a * 65536) 0) (λt=>25-t.1) ((0,0)) ⟨rfl,rfl,rfl,tT⟩ (⟨rfl,dD,dD,dD,dD,rfl⟩) (λt B hR=>?_)
 obtain ⟨⟨k,r⟩,s⟩:=eX t
 subst s
 obtain ⟨rfl,C,D,E,F,d⟩:=hR
 simp only at C D E F d
 dsimp only
 obtain ⟨u,K,L⟩:=A4f k oO
 have N:=A6v (a:=r+Fc.getD k 0) (b:=33554432) oO oO
 have P:0<=(r+Fc.getD k 0) * (r+Fc.getD k 0):=Int.mul_nonneg oO oO
 have Q:=A6v (a:=r) (b:=33554432) oO oO
 have R:0<=r * r:=Int.mul_nonneg oO oO
 refine Aj<|A5<|A3 rfl<|A1 (.gtr rfl rfl)<|A0<|Ae rfl (λi=>?_) (λi=>?_)
 have v:=dT i
 have hk:k<25:=u.1 aS
 have hd:=A1D k hk
 have hh:=A1C k hk
 have G:=A4e k hk
 refine Ap<|Aj<|AU<|A5<|A3 rfl<|A3 rfl<|A1 (.add rfl rfl (Bn oO))<|A3 rfl<|A3 rfl<|A1 (.add rfl rfl (Bn oO))<|A1 (.mul rfl rfl (Bn oO))<|A3 rfl<|A1 (.leq rfl rfl)<|A0<|Ae rfl (λj=>?_) (λj=>?_)
 have x:=dT j
 refine Ak<|A3 rfl<|A3 rfl<|A1 (.add rfl rfl (Bn oO))<|Ab rfl<|Ak<|A3 rfl<|A1 (.shrV rfl rfl dD dD (Fc.getD (k+1) 0) (by rw [<- hh];rfl))<|Ab rfl ?_
 exact ⟨(k+1,r+Fc.getD k 0),⟨rfl,rfl,rfl,tT⟩,⟨rfl,oM,oM,oM,oM,by rw [<- d,hd,Og,A7 aS]⟩,oM⟩
 have x:=dF j
 refine Ap<|Ak<|A3 rfl<|A1 (.shrV rfl rfl dD dD (Fc.getD (k+1) 0) (by rw [<- hh];rfl))<|Ab rfl ?_
 exact ⟨(k+1,r),⟨rfl,rfl,rfl,tT⟩,⟨rfl,oM,oM,oM,oM,by rw [<- d,hd,Og,A2 aS]⟩,oM⟩
 have v:=dF i
 refine C7<|Aj<|Aj ?_
 obtain rfl:k=25:=by have:=u.2;omega
 have f:Og Fc (a * 65536) 0=r:=by rw [<- d,A4g];rfl
 refine Ak<|A3 rfl<|A3 rfl<|A3 rfl<|A1 (.mul rfl rfl (Bn oO))<|A1 (.sub rfl rfl (Bn oO))<|A3 rfl<|A1 (.gtr rfl rfl)<|A0<|Ae rfl (λl=>?_) (λl=>?_)
 have y:=dT l
 refine Ak<|A3 rfl<|A1 (.add rfl rfl (Bn oO))<|Ab rfl<|A5<|A3 rfl<|DA rfl<|Ab rfl<|B2 (EG rfl rfl rfl ?_)
 exact ⟨In (by unfold Me VD;rw [A7 (by simp_all),f];simp only;rw [A7 aS]),rfl⟩
 have y:=dF l
 refine Ap<|A5<|A3 rfl<|DA rfl<|Ab rfl<|B2 (EG rfl rfl rfl ?_)
 exact ⟨In (by unfold Me VD;rw [A7 (by simp_all),f];simp only;rw [A2 aS]),rfl⟩
 have o:=(nT c)
 refine EO rfl rfl rfl (by rw [(nT c)] <;> rfl)<|A1 (.pkT rfl (by rw [(nT c)] <;> rfl) rfl)<|A0<|E3 rfl rfl<|A5<|DA rfl<|Ab rfl<|B2 (EG rfl rfl rfl ?_)
 exact ⟨In (by unfold Me;rw [A2 (by simp_all)]),rfl⟩
end
section
theorem A7N (m:M6):(Sl m).1<=2147483647/\-2147483648<=(Sl m).1:=by
 have:=Ko (A0o (FN m.a m.d).1 (FN m.b m.c).1)
 exact ⟨this.2,this.1⟩
theorem A14 (m:M6) (w:World):C9 147 #[.agg (M9 m).toArray] w (KV (IH m)):=by
 have hd:=A7N m
 obtain ⟨d,a⟩:=eX (Sl m)
 have H:IH m=(if EV (if d.1<0 then ((J2 0 d.1).1,EV d.2 (J2 0 d.1).2) else d).2 (Me (max (if d.1<0 then ((J2 0 d.1).1,EV d.2 (J2 0 d.1).2) else d).1 0)).2≠0 then (0,EV (if d.1<0 then ((J2 0 d.1).1,EV d.2 (J2 0 d.1).2) else d).2 (Me (max (if d.1<0 then ((J2 0 d.1).1,EV d.2 (J2 0 d.1).2) else d).1 0)).2) else ((Me (max (if d.1<0 then ((J2 0 d.1).1,EV d.2 (J2 0 d.1).2) else d).1 0)).1,0)):=by rw [a];rfl
 rw [H]
 rw [<- a] at hd
 refine Av func147 rfl ntmps147 ?_
 have J:=DR w
 refine A5<|D5 rfl rfl (λb1 a0 K b x V=>?_)
 have L:=uB J K x
 refine DA rfl<|Ab rfl<|A5<|C1 zeroValue216 rfl (λc a1 q y e X=>?_)
 have N:=Bx q b.lt
 have P:=b.un e N
 have s:=uB L q e
 refine A0<|A5<|Ai (BD rfl P DM rfl CY)<|As (A5A c m _ y) (λw7 u=>?_)
 have f:=EU s (AL.below u.1 s.size (by simp <;> omega))
 have g:=u.2
 rw [<- a] at g
 rw [<- a]
 refine Ab rfl<|De (α:=Int × Int) (λt=>[(4,ptV c),(5,Ah t.1)]) (λt w'=>AD w w'/\Be w' c (stC t.2) 216/\t=(if d.1<0 then ((J2 0 d.1).1,EV d.2 (J2 0 d.1).2) else d)) ?_ (λt w1 hR=>?_)
 refine A5<|A3 rfl<|A1 (.lss rfl rfl)<|A0<|Ae rfl (λi=>?_) (λi=>?_)
 have B:=dT i
 refine Ak<|A3 rfl<|As (Zp c _ _ _ _ g) (λa2 j=>?_)
 have C:=EU f (AL.below j.1 f.size (by simp <;> omega))
 have Q:=j.2
 refine Ab rfl ?_
 exact ⟨((J2 0 d.1).1,EV d.2 (J2 0 d.1).2),⟨rfl,rfl,tT⟩,C,Q,(A7 aS).symm⟩
 have B:=dF i
 refine Ap ?_
 exact ⟨d,⟨rfl,rfl,tT⟩,f,g,(A2 aS).symm⟩
 obtain ⟨T,Y,j3⟩:=hR
 rw [<- j3]
 have U:max t.1 0=(if 0 > t.1 then 0 else t.1):=by split <;> omega
 obtain ⟨S,hS⟩:=eX (Me (if 0 > t.1 then 0 else t.1))
 rw [U,<- hS]
 refine A5<|A3 rfl<|A1 (.max2 rfl rfl)<|As (A3G _ _) (λa3 D=>?_)
 obtain rfl:=D
 rw [<- hS]
 simp only [KV]
 refine A1 (.ext rfl rfl)<|A1 (.ext rfl rfl)<|As (OB c _ _ _ _ Y) (λa4 k=>?_)
 have l:=EU T (AL.below k.1 T.size (by simp <;> omega))
 have v:=k.2
 refine Ab rfl<|Aj<|A5<|A1 (.fa Tr rfl GJ dD rfl)<|Ai (Af (GL _) rfl v rfl)<|A1 (.neq rfl rfl)<|A0<|Ae rfl (λo=>?_) (λo=>?_)
 have E:=Kj o
 refine Aj<|Eg Ci kR<|AA (.fa Tr rfl GJ dD rfl) rfl<|Du (λm=>Af (GL _) rfl v rfl) rfl<|AA (.as rfl) rfl<|AA (.as rfl) rfl<|Dk (λa5 F=>?_)
 have G:=Df.below l F
 refine B2 (EG rfl rfl rfl ?_)
 exact ⟨Dc (by rw [A7 aS];(first | done | rfl)),G⟩
 have E:=Kk o
 refine Ap<|A5<|A3 rfl<|DA rfl<|Ab rfl<|B2 (EG rfl rfl rfl ?_)
 exact ⟨Dc (by rw [A2 (λh=>h aS)];(first | done | rfl)),l⟩
end
section
open Go.RowKit Go.WideShapes Go.ChangeShapes
section
variable {P:Program} {f:Fr}
theorem BM.s2a  {arr:TypeId} {len:Nat} (hu:P.underlying arr=some (.array m e)) (hx:D3 f x=some (.slice p len c)) (hl:m<=len):BM P (.sliceToArrayPointer arr x) f (.pointer p):=λρ hρ d ty' pos aft g w=>by
 simp [execOp,hρ _ _ hx,Instr.arrayAt,B7 hu,Nat.not_lt.2 hl]
end
theorem A8a  {L:Fq α} {L':Fq β} {t:TypeId} {l:List α} {dd:TypeDesc} (hu:P.underlying t=some dd) (hdd:dd.isRow=true) (hi:(P.info? t).map (·.size)=some L'.m) (hr:Bi L w p l) (y:β)
  (e:L.flat l=L'.V y) (hl:0<l.length) (hx:D3 f x=some (.pointer p)):Rd P (.load t x) f w (.agg (L'.V y).toArray):=by
 have hp:=hr.isp hl
 have hr':Bi L' w p [y]:=by
  refine Gl (λ_=>hp) λk v hk=>?_
  have hk':(L'.V y)[k]?=some v:=by simpa [Fq.flat] using hk
  exact hr.flat k v (by rw [e];exact hk')
 exact Dy (P:=P) (f:=f) (x:=x) hu hdd hi hr' 0 (by simp) (by rw [hx,hp];show _=some (Value.pointer (some ((pA (some (pA p))).add (0 * L'.m))));rw [Nat.zero_mul,Ff];rfl)
end
section
def Rr (m:Int) (v:Value) (s n:BH):Array Value:=#[Ah m,v,Ah s.fX,Ah s.fY,Ah n.fX,Ah n.fY]
theorem A3l {l:List Cm} (h:0<l.length):HL l=(l[l.length-1]'oO).fKind:=by
 unfold HL
 rw [List.getLast?_eq_getElem?,A6 oO]
theorem Ol (bp:Nat) (m:Int) (p:Option Addr) (c:Nat) (P:D2) (w:World) (h:Be w bp (Rr m (.slice p P.list.length c) P.start P.now) 97) (hr:Bi EX w p P.list) (hl:P.list.length<=1000000) :
  C9 105 #[ptV bp] w (Ah (HL P.list)):=by
 refine Av func105 rfl ntmps105 ?_
 have e:=DR w
 refine A5<|Ab rfl<|Aj<|A5<|A3 rfl<|A1 (.nck rfl)<|A1 (.fa Kx rfl HE dD rfl)<|Ai (Af (JG _) rfl h rfl)<|A1 (.lenS Fk rfl)<|A1 (.eql rfl rfl)<|A0<|Ae rfl (λf=>?_) (λf=>?_)
 have g:=dT f
 refine A5<|Ab rfl<|AI ?_
 exact ⟨Dc (by rw [CM (l:=P.list) oO];rfl),e⟩
 have g:=dF f
 have j:0<P.list.length:=by omega
 have hk:=A3l j
 refine Ap<|Aj<|DD 14 rfl Ci (λw'=>w'.heap[bp]?=w.heap[bp]?/\Bi EX w' p P.list/\True) (λk d=>?_)
 have b:=h.drew d
 have a:=hr.drew d
 have i:=Df.below e d
 refine Aa 0 rfl (.mv rfl) ⟨(b).trans (h).symm,a,tT⟩ ?_
 refine Aa 1 rfl (.nck rfl) ⟨(b).trans (h).symm,a,tT⟩ ?_
 refine Aa 2 rfl (.fa Kx rfl HE dD rfl) ⟨(b).trans (h).symm,a,tT⟩ ?_
 refine C8 3 rfl (λw' hw'=>Af (JG _) rfl ((hw'.1).trans h) rfl) ⟨(b).trans (h).symm,a,tT⟩ rfl ?_
 refine Aa 4 rfl (.mv rfl) ⟨(b).trans (h).symm,a,tT⟩ ?_
 refine Aa 5 rfl (.nck rfl) ⟨(b).trans (h).symm,a,tT⟩ ?_
 refine Aa 6 rfl (.fa Kx rfl HE dD rfl) ⟨(b).trans (h).symm,a,tT⟩ ?_
 refine C8 7 rfl (λw' hw'=>Af (JG _) rfl ((hw'.1).trans h) rfl) ⟨(b).trans (h).symm,a,tT⟩ rfl ?_
 refine Aa 8 rfl (.lenS Fk rfl) ⟨(b).trans (h).symm,a,tT⟩ ?_
 refine Aa 9 rfl (.sub rfl rfl (Bn oO)) ⟨(b).trans (h).symm,a,tT⟩ ?_
 refine Aa 10 rfl (.ixm Fk K5 rfl rfl (a.isp oO) ((P.list.length-1)) oO oO) ⟨(b).trans (h).symm,a,tT⟩ ?_
 refine Aa 11 rfl (.fa I3 rfl B6 dD rfl) ⟨(b).trans (h).symm,a,tT⟩ ?_
 refine C8 12 rfl (λw' hw'=>AS (BE _) rfl (((hw'.2.1).field ((P.list.length-1)) oO 0 dD).trans rfl)) ⟨(b).trans (h).symm,a,tT⟩ rfl ?_
 refine Aa 13 rfl (.as rfl) ⟨(b).trans (h).symm,a,tT⟩ ?_
 refine Bl kR<|AI ?_
 exact ⟨Dc (by rw [hk]),i⟩
theorem BZ  {L:Fq α} {t:TypeId} {b:Nat} {l:List α} {cs:Array Value} (h:AJ L e B w v l) (hb:Be w b cs t) (he:e≠t):∀ g,v.ownBlock=some g->g≠b:=λg hg hgb=>by
 rcases h with ⟨rfl,-⟩ | ⟨g1,cap,cur,rfl,-,h1,-⟩
 · cases hg
 ·
  cases hg
  have hgb:g1=b:=hgb
  rw [hgb,show w.heap[b]?=_ from hb] at h1
  simp only [Br,Obj.cells.injEq] at h1
  exact he h1.2.1.symm
def vb (v:Value) (b:Nat):Nat:=v.ownBlock.getD b
structure CU (B:Nat) (w:World) (bp:Nat) (m:Int) (P:D2) (v:Value):Prop where
 blk:Be w bp (Rr m v P.start P.now) 97
 own:AJ EX 94 B w v P.list
 len:(P.list.length:Int)<=m/\m<=1000000
 base:B<=w.heap.size
theorem CU.sep  {m:Int} {P:D2} (h:CU B w bp m P v):∀ g,v.ownBlock=some g->g≠bp:=BZ h.own h.blk dD
def G4 (w:World) (v v':Value):Prop:=∀ g,v'.ownBlock=some g->v.ownBlock=some g\/w.heap.size<=g
theorem G4.refl (w:World) (v:Value):G4 w v v:=λ_ h=>.inl h
theorem G4.mono  (h:∀ g,v'.ownBlock=some g->v.ownBlock=some g\/w1.heap.size<=g) (hs:w.heap.size<=w1.heap.size):G4 w v v':=λg hg=>(h g hg).imp id λh=>BA hs h
theorem G4.sep  {b:Nat} (h:G4 w v v') (hs:∀ g,v.ownBlock=some g->g≠b) (hb:b<w.heap.size):∀ g,v'.ownBlock=some g->g≠b:=λg hg=>by
 rcases h g hg with h | h
 · exact hs g h
 · omega
def A1L (B:Nat) (w:World) (bp:Nat) (m:Int) (v:Value) (r:D2 × Int) (e:Ending) (w':World):Prop :=
 e=.returned (Ah r.2)/\AL w.heap.size [bp,vb v bp] w w'/\∃ v',CU B w' bp m r.1 v'/\G4 w v v'
theorem A3r:(Tryz.prog.info? 94).map (λi=>(i.zero,i.size,i.bytes))=some (some (.agg (Iu ⟨0,FH,FH,FH⟩).toArray),7,56):=by kernel_rfl
theorem Id (B bp:Nat) (m:Int) (v:Value) (P:D2) (t:BH) (q:Option Addr) (l:List Cm) (c:Nat) (w:World) (h:CU B w bp m P v) (hr:Bi EX w q l) (hl:l.length<=10) (hc:l=[]->c=0\/q≠none) :
  Calls Tryz.prog 106 #[ptV bp,.agg (D4 t).toArray,.slice q l.length c] w (A1L B w bp m v (Gt m P t l)):=by
 have x:=h.sep
 obtain ⟨t0,af⟩:=eX t
 subst af
 obtain ⟨A,y,Y,a0⟩:=h
 have F:=y.lt
 obtain ⟨p,cc,rfl,-,-,-,-⟩:=y.row
 refine Av func106 rfl ntmps106 ?_
 have V:=AL.refl w.heap.size ([bp,vb (.slice p P.list.length cc) bp]) w
 refine A5<|D5 rfl rfl (λb1 ag C a1 f an=>?_)
 have a2:=BA a0 f.size
 have ah:=GK y C f
 have ai:=Bx C A.lt
 have D:=A.un f ai
 have a3:=λh0=>C▸hr.lt h0
 have aj:=Bi.upd hr f (λh0=>IU (a3 h0))
 have J:=DW C V.size
 have ak:=CI V (Ik f J)
 refine Ab rfl<|Aj<|Aj<|DD 13 rfl Ci (λw'=>w'.heap[bp]?=ag.heap[bp]?/\True) (λw9 i=>?_)
 have j:=Df.le a2 i
 have G:=AJ.drew ah i
 have k:=D.drew i
 have a4:=a1.drew i
 have a5:=aj.drew i
 have b:=CI ak (QL i)
 have a:=Dr (k.trans D.symm) BO
 refine Aa 0 rfl (.mv rfl) a ?_
 refine Aa 1 rfl (.nck rfl) a ?_
 refine Aa 2 rfl (.fa Kx rfl HE dD rfl) a ?_
 refine C8 3 rfl (λw' hw'=>Af (JG _) rfl ((hw'.1).trans D) rfl) a rfl ?_
 refine Aa 4 rfl (.lenS Fk rfl) a ?_
 refine Aa 5 rfl (.mv rfl) a ?_
 refine Aa 6 rfl (.lenS Fk rfl) a ?_
 refine Aa 7 rfl (.add rfl rfl (Bn oO)) a ?_
 refine Aa 8 rfl (.mv rfl) a ?_
 refine Aa 9 rfl (.nck rfl) a ?_
 refine Aa 10 rfl (.fa Kx rfl B6 dD rfl) a ?_
 refine C8 11 rfl (λw' hw'=>Af (BE _) rfl ((hw'.1).trans D) rfl) a rfl ?_
 refine Aa 12 rfl (.gtr rfl rfl) a ?_
 refine Bl kR<|Ae rfl (λH=>?_) (λH=>?_)
 have a6:=dT H
 refine A5<|Ab rfl<|AI ?_
 exact ⟨Dc (by unfold Gt;rw [A7 oO]),b,_,⟨by unfold Gt;rw [A7 oO];exact k,by unfold Gt;rw [A7 oO];exact G,by unfold Gt;rw [A7 oO];exact Y,j⟩,G4.refl _ _⟩
 have a6:=dF H
 refine Ap<|A5<|A3 rfl<|A3 rfl<|A1 (.nck rfl)<|A1 (.fa Kx rfl HE dD rfl)<|Ai (Af (JG _) rfl k rfl)<|A3 rfl<|CV Fk A3r rfl rfl rfl G rfl a5 oO (j) rfl (hc) (λX ao E K o s=>?_)
 have a7:=k.grown o (λe=>x _ e rfl)
 have a8:=a4.grown o (λe=>by have:=F _ e;omega)
 have a9:=CI b (Ce o (λg hg=>.inl (by have hg:(Value.slice p P.list.length cc).ownBlock=some g:=hg;unfold vb;rw [hg];simp)) b.size)
 have L:=BA j K.size
 refine A1 (.nck rfl)<|A1 (.fa Kx rfl HE dD rfl)<|CT 1 ((Rr m X P.start P.now)) a7 HE (λap N d al=>?_) (h1:=(E).one)
 have Q:=BA L d.size
 have aa:=I4 E d (λg hg=>G4.sep (G4.mono s b.size) x A.lt g hg)
 have ab:=a8.up d
 have ac:=CI a9 (by exact Hc d (by simp))
 refine A0<|A5<|A3 rfl<|Ai (BD rfl ab CQ rfl Cb)<|A1 (.nck rfl)<|A1 (.fa Kx rfl Fa dD rfl)<|Fp 4 ((Rr m X P.start t0)) N Cb (λaq T u am=>?_)
 have U:=BA Q u.size
 have ad:=I4 aa u (λg hg=>G4.sep (G4.mono s b.size) x A.lt g hg)
 have ae:=CI ac (by exact Hc u (by simp))
 refine A0<|A5<|Ab rfl<|AI ?_
 exact ⟨Dc (by unfold Gt;rw [A2 oO]),ae,_,⟨by unfold Gt;rw [A2 oO];exact T,by unfold Gt;rw [A2 oO];exact ad,by unfold Gt;rw [A2 oO];simp only [A9];omega,U⟩,G4.mono s b.size⟩
end
section
theorem A2t  (l:List α) (x:α) (h:0<l.length):l.set (l.length-1) x=l.dropLast++[x]:=by
 rcases List.eq_nil_or_concat l with rfl | ⟨m,y,rfl⟩
 · simp at h
 · simp [List.concat_eq_append]
theorem Qh:Tryz.prog.built 92=λCy=>Instr.fill (λi=>some (i * 2,2)) #[Ah 0,Ah 0,Ah 0,Ah 0,Ah 0,Ah 0] Cy:=by kernel_rfl
theorem blS:Tryz.prog.built 94=λCy=>Instr.fill (([(0,1),(1,6)]:List (Nat × Nat)).toArray[·]?) #[Ah 0,Ah 0,Ah 0,Ah 0,Ah 0,Ah 0,Ah 0] Cy:=by kernel_rfl
def VZ (a b c:BH):Array Value:=#[Ah a.fX,Ah a.fY,Ah b.fX,Ah b.fY,Ah c.fX,Ah c.fY]
theorem A1b {l:List Cm} (h:HL l≠0):0<l.length:=by
 rcases HR l.length with a | a
 · rw [CM a] at h;exact D6 rfl h
 · exact a
theorem Vr  {b:Nat} {l:List Cm} (h:AJ EX e B w v l) (hb:b<w.heap.size):vb v b<w.heap.size:=by
 unfold vb
 cases hv:v.ownBlock with
 | none=>exact hb
 | some g=>exact (h.lt g hv).2
theorem W1 (B bp:Nat) (m:Int) (v:Value) (P:D2) (a:BH) (w:World) (h:CU B w bp m P v) :
  Calls Tryz.prog 76 #[ptV bp,.agg (D4 a).toArray] w (A1L B w bp m v (GV m P a)):=by
 have a1:=h.sep
 have hP:=h
 obtain ⟨aj,K,ak,bm⟩:=h
 have V:=K.lt
 have aF:=aj.lt
 have cg:=Vr K aF
 obtain ⟨p,cc,rfl,-,-,-,-⟩:=K.row
 refine Av func76 rfl ntmps76 ?_
 have bc:=AL.refl w.heap.size ([bp,vb (.slice p P.list.length cc) bp]) w
 refine A5<|D5 rfl rfl (λb1 co am a2 N ci=>?_)
 have bn:=BA bm N.size
 have bV:=GK K am N
 have bW:=Bx am aj.lt
 have bd:=aj.un N bW
 have aG:=DW am bc.size
 have be:=CI bc (Ik N aG)
 refine Ab rfl<|Aj<|AU<|A5<|A3 rfl<|A1 (.bis (false) (.eqP XB rfl) (by rfl))<|Ab rfl<|E4 rfl rfl<|A5<|Ai (BD rfl a2 CQ rfl Cb)<|Cw (L:=Ep) (ps:=_) ([a]) Gp Fa LZ rfl rfl rfl rfl rfl (by rfl) rfl rfl (λb7 bX a9 bo F cj=>?_)
 have bq:=BA bn F.size
 have bY:=GK bV a9 F
 have bt:=Bx a9 bd.lt
 have bu:=bd.un F bt
 have bv:=Bx a9 a2.lt
 have bw:=a2.un F bv
 have aH:=DW a9 be.size
 have bx:=CI be (Ik F aH)
 have aI:b7<=bX.heap.size:=by omega
 refine WL.c1 BQ rfl rfl ((Pp _ [a] 1 _ (bo).rowp (by simp))) (λcq y=>?_)
 have aa:=BA bq y.size
 have an:=AJ.below bY y
 have aJ:=BA aI y.size
 have a3:=bu.bl y
 have a4:=bw.bl y
 have a5:=kB bx y
 refine A1 (.not rfl)<|Ab rfl<|Ae rfl (λao=>?_) (λao=>?_)
 have bz:=(nT ao)
 have j:BP a=false:=by simpa using (show ([a].all BP)=false by assumption)
 refine A5<|Ab rfl<|AI ?_
 exact ⟨Dc (by unfold GV;rw [A7 j]),a5,_,⟨by unfold GV;rw [A7 j];exact a3,by unfold GV;rw [A7 j];exact an,by unfold GV;rw [A7 j];exact ak,aa⟩,G4.refl _ _⟩
 have bz:=(nF ao)
 have j:BP a=true:=by simpa using (show ([a].all BP)=true by assumption)
 refine Ap<|A5<|Ai (BD rfl a4 CQ rfl Cb)<|?_
 refine A1 (.build (cs:=VZ a FH FH) rfl (by rw [Qh];rfl)) ?_
 refine A1 (.build (cs:=(Iu (GI 1 a)).toArray) rfl (by rw [blS];rfl)) ?_
 refine C1 Nv rfl (λbf ck Q aK k c9=>?_)
 have aL:=BA aa k.size
 have bA:=GK an Q k
 have aM:=BA aJ k.size
 have bB:=Bx Q a3.lt
 have bC:=a3.un k bB
 have bD:=Bx Q a4.lt
 have bE:=a4.un k bD
 have ap:=DW Q a5.size
 have bG:=CI a5 (Ik k ap)
 refine AH rfl rfl aK Jb rfl rfl (λcr aN o ca=>?_)
 have aO:=BA aL o.size
 have aq:=I4 bA o (λg hg e=>by (have:=V g hg;omega))
 have aP:=BA aM o.size
 have ar:=bC.up o
 have bH:=bE.up o
 have bI:=CI bG (by exact Ik o oO)
 refine A0<|Aj<|A5<|A3 rfl<|As (Ol bp m p cc P _ ar (aq).rowp oO) (λbg t=>?_)
 have ab:=BA aO t.size
 have a6:=AJ.below aq t
 have ac:=BA aP t.size
 have b:=ar.bl t
 have T:=bH.bl t
 have c:=aN.bl t
 have a7:=kB bI t
 refine A1 (.eql rfl rfl)<|A0<|Ae rfl (λau=>?_) (λau=>?_)
 have bJ:=dT au
 have h0:=A1b (l:=P.list) oO
 have bZ:=(a6).rowp.isp h0
 refine Aj<|DD 13 rfl Ci (λw'=>w'.heap[bp]?=bg.heap[bp]?/\w'.heap[bf]?=bg.heap[bf]?/\True) (λct u=>?_)
 have aQ:=Df.le ab u
 have av:=AJ.drew a6 u
 have aR:=Df.le ac u
 have d:=b.drew u
 have bK:=T.drew u
 have f:=c.drew u
 have bL:=CI a7 (QL u)
 refine Aa 0 rfl (.mv rfl) ⟨(d).trans (b).symm,(f).trans (c).symm,tT⟩ ?_
 refine Aa 1 rfl (.nck rfl) ⟨(d).trans (b).symm,(f).trans (c).symm,tT⟩ ?_
 refine Aa 2 rfl (.fa Kx rfl HE dD rfl) ⟨(d).trans (b).symm,(f).trans (c).symm,tT⟩ ?_
 refine C8 3 rfl (λw' hw'=>Af (JG _) rfl ((hw'.1).trans b) rfl) ⟨(d).trans (b).symm,(f).trans (c).symm,tT⟩ rfl ?_
 refine Aa 4 rfl (.mv rfl) ⟨(d).trans (b).symm,(f).trans (c).symm,tT⟩ ?_
 refine Aa 5 rfl (.nck rfl) ⟨(d).trans (b).symm,(f).trans (c).symm,tT⟩ ?_
 refine Aa 6 rfl (.fa Kx rfl HE dD rfl) ⟨(d).trans (b).symm,(f).trans (c).symm,tT⟩ ?_
 refine C8 7 rfl (λw' hw'=>Af (JG _) rfl ((hw'.1).trans b) rfl) ⟨(d).trans (b).symm,(f).trans (c).symm,tT⟩ rfl ?_
 refine Aa 8 rfl (.lenS Fk rfl) ⟨(d).trans (b).symm,(f).trans (c).symm,tT⟩ ?_
 refine Aa 9 rfl (.sub rfl rfl (Bn oO)) ⟨(d).trans (b).symm,(f).trans (c).symm,tT⟩ ?_
 refine C8 10 rfl (λw' hw'=>BD rfl ((hw'.2.1).trans c) I3 rfl Jb) ⟨(d).trans (b).symm,(f).trans (c).symm,tT⟩ rfl ?_
 refine Aa 11 rfl (.ixm Fk K5 rfl rfl bZ (P.list.length-1) oO oO) ⟨(d).trans (b).symm,(f).trans (c).symm,tT⟩ ?_
 refine Aq 12 rfl<|Sy (L:=EX) (GI 1 a) (P.list.length-1) av oO Jb rfl rfl rfl (λb' ad x q aT=>?_)
 have c0:=(av).lt ad (by rw [x];rfl)
 have cu:=a1 ad (by rw [x];rfl)
 have cl:=(V ad (by rw [x];rfl)).2
 have aU:ad∈[bp,vb (.slice p P.list.length cc) bp]:=by rw [x];exact List.mem_cons_of_mem _ (Ao.2 rfl)
 have cb:=BA aR q.size
 have aw:=d.up q
 have A:=bK.up q
 have bM:=f.up q
 have bN:=CI bL (by exact Hc q aU)
 have aV:=BA aQ q.size
 refine A0<|⟨⟨(aw).trans (b).symm,(bM).trans (c).symm,tT⟩,?_⟩
 refine Bl kR<|Aj<|DD 10 rfl Ci (λw'=>w'.heap[b1]?=b'.heap[b1]?/\True) (λcv G=>?_)
 have aW:=Df.le aV G
 have bO:=AJ.drew aT G
 have bP:=aw.drew G
 have ax:=A.drew G
 have bQ:=CI bN (QL G)
 have J:=Dr (ax.trans A.symm) BO
 refine Aa 0 rfl (.mv rfl) J ?_
 refine Aa 1 rfl (.mv rfl) J ?_
 refine C8 2 rfl (λw' hw'=>BD rfl ((hw'.1).trans A) CQ rfl Cb) J rfl ?_
 refine C8 3 rfl (λw' hw'=>BD rfl ((hw'.1).trans A) CQ rfl Cb) J rfl ?_
 refine Aa 4 rfl (.nck rfl) J ?_
 refine Aa 5 rfl (.fa Kx rfl Fa dD rfl) J ?_
 refine Aq 6 rfl<|Fp 2 ((Rr m (.slice p P.list.length cc) a P.now)) bP Cb (λcw aX C cd=>?_)
 have aY:=BA aW C.size
 have bR:=I4 bO C (λg hg e=>by (exact a1 g hg e))
 have ay:=ax.up C
 have bS:=CI bQ (by exact Hc C (by simp))
 refine A0<|?_
 have az:=Dr (ay.trans A.symm) BO
 refine ⟨az,?_⟩
 refine Aa 7 rfl (.nck rfl) az ?_
 refine Aa 8 rfl (.fa Kx rfl Fa dD rfl) az ?_
 refine Aq 9 rfl<|Fp 4 ((Rr m (.slice p P.list.length cc) a a)) aX Cb (λcy aZ D cf=>?_)
 have aA:=BA aY D.size
 have bT:=I4 bR D (λg hg e=>by (exact a1 g hg e))
 have a':=ay.up D
 have b0:=CI bS (by exact Hc D (by simp))
 refine A0<|⟨⟨(a').trans (A).symm,tT⟩,?_⟩
 refine Bl kR<|A5<|Ab rfl<|AI ?_
 have X:GV m P a=(⟨P.list.dropLast++[GI 1 a],a,a⟩,0):=by unfold GV;rw [A2 (by rw [j];decide),A7 aS]
 rw [X]
 exact ⟨rfl,b0,_,⟨aZ,by rw [<- A2t _ _ h0];exact bT,by simp only [A9,List.length_dropLast,Ck];omega,aA⟩,G4.refl _ _⟩
 have bJ:=dF au
 refine Ap<|A5<|A3 rfl<|Ai (BD rfl T CQ rfl Cb)<|Ai (BD rfl c I3 rfl Jb)<|Cw (L:=EX) (ps:=_) ([GI 1 a]) Fk K5 Nv rfl rfl rfl rfl rfl (by rfl) rfl rfl (λbU b2 E aB i c2=>?_)
 have Y:=BA ab i.size
 have b3:=GK a6 E i
 have aC:=BA ac i.size
 have b4:=Bx E b.lt
 have b5:=b.un i b4
 have b6:=Bx E T.lt
 have ae:=T.un i b6
 have ah:=DW E a7.size
 have U:=CI a7 (Ik i ah)
 have ai:bU<=b2.heap.size:=by omega
 refine WL.c1 BQ rfl rfl ((Id B bp m _ P a _ [GI 1 a] 1 _ ⟨b5,b3,ak,Y⟩ (aB).rowp (by simp) (λh=>by simp at h))) (λcm s=>?_)
 have c3:=BA Y s.1.size
 have c4:=BA aC s.1.size
 have c5:=BA ai s.1.size
 have b8:=DB ae s.1 ae.lt (by simp only [Ax,AK,Cl,not_or,Bh];omega)
 have af:=CI U (AL.wide s.1 U.size (by simp <;> omega))
 obtain ⟨v1,a0,c6⟩:=s.2
 have bh:=a0.blk
 have bi:=a0.own
 have ag:=a0.base
 have bj:=G4.mono c6 U.size
 have c7:=a0.sep
 have bk:=a0.len
 refine Ab rfl<|Aj<|A5<|A3 rfl<|A1 (.eql rfl rfl)<|A0<|Ae rfl (λa8=>?_) (λa8=>?_)
 have b9:=dT a8
 refine Ak<|A3 rfl<|Ai (BD rfl b8 CQ rfl Cb)<|A1 (.nck rfl)<|A1 (.fa Kx rfl Fa dD rfl)<|Fp 2 ((Rr m v1 a (Gt m P a [GI 1 a]).1.now)) bh Cb (λcn aD H c8=>?_)
 have aE:=BA ag H.size
 have ba:=I4 bi H (c7)
 have bb:=CI af (by exact Hc H (by simp))
 refine A0<|A5<|A3 rfl<|Ab rfl<|AI ?_
 have X:GV m P a=({ (Gt m P a [GI 1 a]).1 with start:=a },(Gt m P a [GI 1 a]).2):=by unfold GV;rw [A2 (by rw [j];decide),A2 aS,A7 aS]
 rw [X]
 exact ⟨rfl,bb,_,⟨aD,ba,bk,aE⟩,bj⟩
 have b9:=dF a8
 refine Ap<|A5<|A3 rfl<|Ab rfl<|AI ?_
 have X:GV m P a=((Gt m P a [GI 1 a]).1,(Gt m P a [GI 1 a]).2):=by unfold GV;rw [A2 (by rw [j];decide),A2 aS,A2 aS]
 rw [X]
 exact ⟨rfl,af,_,⟨bh,bi,bk,ag⟩,bj⟩
end
section
theorem W0 (B bp:Nat) (m:Int) (v:Value) (P:D2) (s:Cm) (q:BH) (w:World) (h:CU B w bp m P v) :
    Calls Tryz.prog 109 #[ptV bp,.agg (Iu s).toArray,.agg (D4 q).toArray] w (A1L B w bp m v (FI m P s q)):=by
  obtain ⟨bw,ap,i,bC⟩:=h;obtain ⟨p,cc,rfl,-,-,-,-⟩:=ap.row;refine Av func109 rfl ntmps109 ?_;have bx:=AL.refl w.heap.size ([bp,vb (.slice p P.list.length cc) bp]) w;refine A5<|D5 rfl rfl (λb1 cE aq ar N cl=>?_);have bD:=BA bC N.size;have c2:=GK ap aq N;have c3:=Bx aq bw.lt;have bz:=bw.un N c3;have aR:=DW aq bx.size;have bA:=CI bx (Ik N aR);refine D5 rfl rfl (λb7 cF ae bE J cm=>?_);have bG:=BA bD J.size;have bB:=GK c2 ae J;have bH:=Bx ae bz.lt;have au:=bz.un J bH;have bI:=Bx ae ar.lt;have bJ:=ar.un J bI;have aT:=DW ae bA.size;have bK:=CI bA (Ik J aT);refine Ab rfl<|Aj<|A5<|A3 rfl<|As (Ol bp m p cc P _ au (bB).rowp oO) (λcG y=>?_);have Q:=BA bG y.size;have a5:=AJ.below bB y;have T:=au.bl y;have av:=bJ.bl y;have aw:=bE.bl y;have U:=kB bK y;refine A0<|AU<|A5<|A1 (.eql rfl rfl)<|Ab rfl<|Ae rfl (λax=>?_) (λax=>?_)
  · have bL := dT ax
    refine A5<|Ab rfl<|AI ?_
    (have c : FI m P s q = (P, 10) := A7 aS
     rw [c];exact ⟨rfl,U,_,⟨T,a5,i,Q⟩,G4.refl _ _⟩)
  have bL:=dF ax;refine A5<|A1 (.eql rfl rfl)<|Ab rfl<|Ae rfl (λay=>?_) (λay=>?_)
  · have bM := dT ay
    refine Aj<|ME 12 rfl Ci (λcH A=>?_);have g:=Df.le Q A;have k:=AJ.drew a5 A;have a:=T.drew A;have K:=av.drew A;have j:=aw.drew A;have b:=CI U (QL A);refine Bs 0 rfl (.mv rfl) rfl<|Bs 2 rfl (.mv rfl) rfl<|Bs 3 rfl (.nck rfl) rfl<|Bs 4 rfl (.fa Kx rfl Fa dD rfl) rfl<|Ug [1,5,8] kR rfl ⟨⟨_,rfl,?_⟩,⟨_,rfl,?_⟩,⟨_,rfl,?_⟩,tT⟩;refine Ai (BD rfl j CQ rfl Cb)<|A0<|Em 5 rfl 8 rfl ?_ ?_;refine Ai (Cx (L:=Ep) CQ rfl Cb a (P.now) (rfl) rfl)<|A0<|?_;refine Bs 6 rfl (.build (cs:=VZ P.now FH FH) rfl (by rw [Qh];rfl)) rfl ?_;refine Bs 7 rfl (.build (cs:=(Iu (GI 1 P.now)).toArray) rfl (by rw [blS];rfl)) rfl ?_;refine AG 8 rfl<|Ai (BD rfl K I3 rfl Jb)<|A0<|AG 9 rfl<|Cw (L:=EX) (ps:=_) ([GI 1 P.now,s]) Fk K5 Nv rfl rfl rfl rfl rfl (by rfl) rfl rfl (λcI cn a6 aU C c9=>?_);have aV:=BA g C.size;have bN:=GK k a6 C;have bO:=Bx a6 a.lt;have bP:=a.un C bO;have az:=DW a6 b.size;have a7:=CI b (Ik C az);refine A0<|AG 10 rfl<|WL.c1 BQ rfl rfl ((Id B bp m _ P q _ [GI 1 P.now,s] 2 _ ⟨bP,bN,i,aV⟩ (aU).rowp (by simp) (λh=>by simp at h))) (λcJ aA=>?_);have bQ:=CI a7 (AL.wide aA.1 a7.size (by simp <;> omega));obtain ⟨v1,d,e⟩:=aA.2;have f:=G4.mono e a7.size;refine A0<|Bs 11 rfl (.as rfl) rfl<|Cg kR<|AI ?_
    (have c : FI m P s q = Gt m P q [GI 1 P.now, s] := by unfold FI; rw [A2 aS, A7 aS]
     rw [c];exact ⟨rfl,bQ,_,d,f⟩)
    refine Ai (BD rfl K I3 rfl Jb)<|A0<|AG 5 rfl<|Ai (Cx (L:=Ep) CQ rfl Cb a (P.now) (rfl) rfl)<|A0<|?_;refine Bs 6 rfl (.build (cs:=VZ P.now FH FH) rfl (by rw [Qh];rfl)) rfl ?_;refine Bs 7 rfl (.build (cs:=(Iu (GI 1 P.now)).toArray) rfl (by rw [blS];rfl)) rfl ?_;refine AG 9 rfl<|Cw (L:=EX) (ps:=_) ([GI 1 P.now,s]) Fk K5 Nv rfl rfl rfl rfl rfl (by rfl) rfl rfl (λcK co a8 aW D ca=>?_);have aX:=BA g D.size;have bR:=GK k a8 D;have bS:=Bx a8 a.lt;have bT:=a.un D bS;have aB:=DW a8 b.size;have a9:=CI b (Ik D aB);refine A0<|AG 10 rfl<|WL.c1 BQ rfl rfl ((Id B bp m _ P q _ [GI 1 P.now,s] 2 _ ⟨bT,bR,i,aX⟩ (aW).rowp (by simp) (λh=>by simp at h))) (λcL aC=>?_);have bU:=CI a9 (AL.wide aC.1 a9.size (by simp <;> omega));obtain ⟨v1,d,e⟩:=aC.2;have f:=G4.mono e a9.size;refine A0<|Bs 11 rfl (.as rfl) rfl<|Cg kR<|AI ?_
    (have c : FI m P s q = Gt m P q [GI 1 P.now, s] := by unfold FI; rw [A2 aS, A7 aS]
     rw [c];exact ⟨rfl,bU,_,d,f⟩)
    refine Ai (Cx (L:=Ep) CQ rfl Cb a (P.now) (rfl) rfl)<|A0<|?_;refine Bs 6 rfl (.build (cs:=VZ P.now FH FH) rfl (by rw [Qh];rfl)) rfl ?_;refine Bs 7 rfl (.build (cs:=(Iu (GI 1 P.now)).toArray) rfl (by rw [blS];rfl)) rfl ?_;refine Em 1 rfl 8 rfl ?_ ?_;refine Ai (BD rfl j CQ rfl Cb)<|A0<|AG 8 rfl<|Ai (BD rfl K I3 rfl Jb)<|A0<|AG 9 rfl<|Cw (L:=EX) (ps:=_) ([GI 1 P.now,s]) Fk K5 Nv rfl rfl rfl rfl rfl (by rfl) rfl rfl (λcM cq aa aY E cb=>?_);have aZ:=BA g E.size;have bV:=GK k aa E;have bW:=Bx aa a.lt;have bX:=a.un E bW;have aD:=DW aa b.size;have ab:=CI b (Ik E aD);refine A0<|AG 10 rfl<|WL.c1 BQ rfl rfl ((Id B bp m _ P q _ [GI 1 P.now,s] 2 _ ⟨bX,bV,i,aZ⟩ (aY).rowp (by simp) (λh=>by simp at h))) (λcN aE=>?_);have bY:=CI ab (AL.wide aE.1 ab.size (by simp <;> omega));obtain ⟨v1,d,e⟩:=aE.2;have f:=G4.mono e ab.size;refine A0<|Bs 11 rfl (.as rfl) rfl<|Cg kR<|AI ?_
    (have c : FI m P s q = Gt m P q [GI 1 P.now, s] := by unfold FI; rw [A2 aS, A7 aS]
     rw [c];exact ⟨rfl,bY,_,d,f⟩)
    refine Ai (BD rfl K I3 rfl Jb)<|A0<|Em 1 rfl 9 rfl ?_ ?_;refine Ai (BD rfl j CQ rfl Cb)<|A0<|AG 9 rfl<|Cw (L:=EX) (ps:=_) ([GI 1 P.now,s]) Fk K5 Nv rfl rfl rfl rfl rfl (by rfl) rfl rfl (λcO cr ac a' F cd=>?_);have b0:=BA g F.size;have bZ:=GK k ac F;have b':=Bx ac a.lt;have c0:=a.un F b';have aF:=DW ac b.size;have ad:=CI b (Ik F aF);refine A0<|AG 10 rfl<|WL.c1 BQ rfl rfl ((Id B bp m _ P q _ [GI 1 P.now,s] 2 _ ⟨c0,bZ,i,b0⟩ (a').rowp (by simp) (λh=>by simp at h))) (λcP aG=>?_);have b2:=CI ad (AL.wide aG.1 ad.size (by simp <;> omega));obtain ⟨v1,d,e⟩:=aG.2;have f:=G4.mono e ad.size;refine A0<|Bs 11 rfl (.as rfl) rfl<|Cg kR<|AI ?_
    (have c : FI m P s q = Gt m P q [GI 1 P.now, s] := by unfold FI; rw [A2 aS, A7 aS]
     rw [c];exact ⟨rfl,b2,_,d,f⟩)
    refine Cw (L:=EX) (ps:=_) ([GI 1 P.now,s]) Fk K5 Nv rfl rfl rfl rfl rfl (by rfl) rfl rfl (λct cf G aH l c4=>?_);have aI:=BA g l.size;have b3:=GK k G l;have b4:=Bx G a.lt;have b5:=a.un l b4;have b6:=Bx G j.lt;have b8:=j.un l b6;have ak:=DW G b.size;have V:=CI b (Ik l ak);refine A0<|AG 1 rfl<|Ai (BD rfl b8 CQ rfl Cb)<|A0<|AG 10 rfl<|WL.c1 BQ rfl rfl ((Id B bp m _ P q _ [GI 1 P.now,s] 2 _ ⟨b5,b3,i,aI⟩ (aH).rowp (by simp) (λh=>by simp at h))) (λcu af=>?_);have b9:=CI V (AL.wide af.1 V.size (by simp <;> omega));obtain ⟨v1,d,e⟩:=af.2;have f:=G4.mono e V.size;refine A0<|Bs 11 rfl (.as rfl) rfl<|Cg kR<|AI ?_
    (have c : FI m P s q = Gt m P q [GI 1 P.now, s] := by unfold FI; rw [A2 aS, A7 aS]
     rw [c];exact ⟨rfl,b9,_,d,f⟩)
    refine Ai (BD rfl K I3 rfl Jb)<|A0<|Em 1 rfl 5 rfl ?_ ?_;refine Ai (BD rfl j CQ rfl Cb)<|A0<|AG 5 rfl<|Ai (Cx (L:=Ep) CQ rfl Cb a (P.now) (rfl) rfl)<|A0<|?_;refine Bs 6 rfl (.build (cs:=VZ P.now FH FH) rfl (by rw [Qh];rfl)) rfl ?_;refine Bs 7 rfl (.build (cs:=(Iu (GI 1 P.now)).toArray) rfl (by rw [blS];rfl)) rfl ?_;refine AG 9 rfl<|Cw (L:=EX) (ps:=_) ([GI 1 P.now,s]) Fk K5 Nv rfl rfl rfl rfl rfl (by rfl) rfl rfl (λcv cg X aJ t c5=>?_);have aK:=BA g t.size;have ba:=GK k X t;have bb:=Bx X a.lt;have bc:=a.un t bb;have al:=DW X b.size;have Y:=CI b (Ik t al);refine A0<|AG 10 rfl<|WL.c1 BQ rfl rfl ((Id B bp m _ P q _ [GI 1 P.now,s] 2 _ ⟨bc,ba,i,aK⟩ (aJ).rowp (by simp) (λh=>by simp at h))) (λcw ag=>?_);have bd:=CI Y (AL.wide ag.1 Y.size (by simp <;> omega));obtain ⟨v1,d,e⟩:=ag.2;have f:=G4.mono e Y.size;refine A0<|Bs 11 rfl (.as rfl) rfl<|Cg kR<|AI ?_
    (have c : FI m P s q = Gt m P q [GI 1 P.now, s] := by unfold FI; rw [A2 aS, A7 aS]
     rw [c];exact ⟨rfl,bd,_,d,f⟩)
    refine Ai (Cx (L:=Ep) CQ rfl Cb a (P.now) (rfl) rfl)<|A0<|?_;refine Bs 6 rfl (.build (cs:=VZ P.now FH FH) rfl (by rw [Qh];rfl)) rfl ?_;refine Bs 7 rfl (.build (cs:=(Iu (GI 1 P.now)).toArray) rfl (by rw [blS];rfl)) rfl ?_;refine Em 1 rfl 9 rfl ?_ ?_;refine Ai (BD rfl j CQ rfl Cb)<|A0<|AG 9 rfl<|Cw (L:=EX) (ps:=_) ([GI 1 P.now,s]) Fk K5 Nv rfl rfl rfl rfl rfl (by rfl) rfl rfl (λcy ci a0 aL u c6=>?_);have aM:=BA g u.size;have be:=GK k a0 u;have bf:=Bx a0 a.lt;have bg:=a.un u bf;have am:=DW a0 b.size;have a1:=CI b (Ik u am);refine A0<|AG 10 rfl<|WL.c1 BQ rfl rfl ((Id B bp m _ P q _ [GI 1 P.now,s] 2 _ ⟨bg,be,i,aM⟩ (aL).rowp (by simp) (λh=>by simp at h))) (λcz ah=>?_);have bh:=CI a1 (AL.wide ah.1 a1.size (by simp <;> omega));obtain ⟨v1,d,e⟩:=ah.2;have f:=G4.mono e a1.size;refine A0<|Bs 11 rfl (.as rfl) rfl<|Cg kR<|AI ?_
    (have c : FI m P s q = Gt m P q [GI 1 P.now, s] := by unfold FI; rw [A2 aS, A7 aS]
     rw [c];exact ⟨rfl,bh,_,d,f⟩)
    refine Cw (L:=EX) (ps:=_) ([GI 1 P.now,s]) Fk K5 Nv rfl rfl rfl rfl rfl (by rfl) rfl rfl (λcA cj H aN o c7=>?_);have aO:=BA g o.size;have bi:=GK k H o;have bj:=Bx H a.lt;have bk:=a.un o bj;have bm:=Bx H j.lt;have bn:=j.un o bm;have an:=DW H b.size;have a2:=CI b (Ik o an);refine A0<|AG 1 rfl<|Ai (BD rfl bn CQ rfl Cb)<|A0<|AG 10 rfl<|WL.c1 BQ rfl rfl ((Id B bp m _ P q _ [GI 1 P.now,s] 2 _ ⟨bk,bi,i,aO⟩ (aN).rowp (by simp) (λh=>by simp at h))) (λcB ai=>?_);have bo:=CI a2 (AL.wide ai.1 a2.size (by simp <;> omega));obtain ⟨v1,d,e⟩:=ai.2;have f:=G4.mono e a2.size;refine A0<|Bs 11 rfl (.as rfl) rfl<|Cg kR<|AI ?_
    (have c : FI m P s q = Gt m P q [GI 1 P.now, s] := by unfold FI; rw [A2 aS, A7 aS]
     rw [c];exact ⟨rfl,bo,_,d,f⟩)
  have bM:=dF ay;refine Ap<|A5<|A3 rfl<|Ai (BD rfl aw CQ rfl Cb)<|Ai (BD rfl av I3 rfl Jb)<|Cw (L:=EX) (ps:=_) ([s]) Fk K5 Nv rfl rfl rfl rfl rfl (by rfl) rfl rfl (λcC ck a3 aP x c8=>?_);have aQ:=BA Q x.size;have bq:=GK a5 a3 x;have bt:=Bx a3 T.lt;have bu:=T.un x bt;have ao:=DW a3 U.size;have a4:=CI U (Ik x ao);refine WL.c1 BQ rfl rfl ((Id B bp m _ P q _ [s] 1 _ ⟨bu,bq,i,aQ⟩ (aP).rowp (by simp) (λh=>by simp at h))) (λcD aj=>?_);have bv:=CI a4 (AL.wide aj.1 a4.size (by simp <;> omega));obtain ⟨v1,d,e⟩:=aj.2;have f:=G4.mono e a4.size;refine Ab rfl<|AI ?_
  (have c : FI m P s q = Gt m P q [s] := by unfold FI; rw [A2 aS, A2 aS]
   rw [c];exact ⟨rfl,bv,_,d,f⟩)
theorem W2 (B bp:Nat) (m:Int) (v:Value) (P:D2) (a:BH) (w:World) (h:CU B w bp m P v) :
  Calls Tryz.prog 78 #[ptV bp,.agg (D4 a).toArray] w (A1L B w bp m v (Fu m P a)):=by
 obtain ⟨D,k,l,H⟩:=h
 obtain ⟨p,cc,rfl,-,-,-,-⟩:=k.row
 refine Av func78 rfl ntmps78 ?_
 have E:=AL.refl w.heap.size ([bp,vb (.slice p P.list.length cc) bp]) w
 refine A5<|D5 rfl rfl (λb1 a9 o f d a7=>?_)
 have J:=BA H d.size
 have a1:=GK k o d
 have a2:=Bx o D.lt
 have F:=D.un d a2
 have A:=DW o E.size
 have G:=CI E (Ik d A)
 refine Ab rfl<|Aj<|AU<|A5<|A3 rfl<|A1 (.bis (false) (.eqP XB rfl) (by rfl))<|Ab rfl<|E4 rfl rfl<|A5<|Ai (BD rfl f CQ rfl Cb)<|Cw (L:=Ep) (ps:=_) ([a]) Gp Fa LZ rfl rfl rfl rfl rfl (by rfl) rfl rfl (λb7 aa i K b a8=>?_)
 have N:=BA J b.size
 have a3:=GK a1 i b
 have Q:=Bx i F.lt
 have T:=F.un b Q
 have U:=Bx i f.lt
 have V:=f.un b U
 have C:=DW i G.size
 have X:=CI G (Ik b C)
 refine WL.c1 BQ rfl rfl ((Pp _ [a] 1 _ (K).rowp (by simp))) (λab c=>?_)
 have j:=BA N c.size
 have q:=AJ.below a3 c
 have s:=T.bl c
 have t:=V.bl c
 have e:=kB X c
 refine A1 (.not rfl)<|Ab rfl<|Ae rfl (λu=>?_) (λu=>?_)
 have Y:=(nT u)
 have g:BP a=false:=by simpa using (show ([a].all BP)=false by assumption)
 refine A5<|Ab rfl<|AI ?_
 have x:Fu m P a=(P,11):=A7 g
 rw [x]
 exact ⟨rfl,e,_,⟨s,q,l,j⟩,G4.refl _ _⟩
 have Y:=(nF u)
 have g:BP a=true:=by simpa using (show ([a].all BP)=true by assumption)
 refine Ap<|A5<|A3 rfl<|Ai (BD rfl t CQ rfl Cb)<|?_
 refine A1 (.build (cs:=VZ a FH FH) rfl (by rw [Qh];rfl)) ?_
 refine A1 (.build (cs:=(Iu (GI 2 a)).toArray) rfl (by rw [blS];rfl)) ?_
 refine Ai (BD rfl t CQ rfl Cb)<|As (W0 B bp m _ P (GI 2 a) a _ ⟨s,q,l,j⟩) (λac y=>?_)
 have a0:=CI e (AL.wide y.1 e.size (by simp <;> omega))
 obtain ⟨v1,a4,a5⟩:=y.2
 have a6:=G4.mono a5 e.size
 refine Ab rfl<|AI ?_
 have x:Fu m P a=FI m P (GI 2 a) a:=A2 (by rw [g];decide)
 rw [x]
 exact ⟨rfl,a0,_,a4,a6⟩
theorem Pk (B bp:Nat) (m:Int) (v:Value) (P:D2) (a b c:BH) (w:World) (h:CU B w bp m P v) :
  Calls Tryz.prog 79 #[ptV bp,.agg (D4 a).toArray,.agg (D4 b).toArray,.agg (D4 c).toArray] w (A1L B w bp m v (If m P a b c)):=by
 obtain ⟨a6,y,A,aa⟩:=h
 obtain ⟨p,cc,rfl,-,-,-,-⟩:=y.row
 refine Av func79 rfl ntmps79 ?_
 have a7:=AL.refl w.heap.size ([bp,vb (.slice p P.list.length cc) bp]) w
 refine A5<|D5 rfl rfl (λb1 aL C D k aH=>?_)
 have ab:=BA aa k.size
 have az:=GK y C k
 have aA:=Bx C a6.lt
 have a8:=a6.un k aA
 have a1:=DW C a7.size
 have a9:=CI a7 (Ik k a1)
 refine D5 rfl rfl (λb7 aM u E i aI=>?_)
 have ac:=BA ab i.size
 have aB:=GK az u i
 have ad:=Bx u a8.lt
 have F:=a8.un i ad
 have ae:=Bx u D.lt
 have G:=D.un i ae
 have a2:=DW u a9.size
 have H:=CI a9 (Ik i a2)
 refine D5 rfl rfl (λaN aJ j l e aF=>?_)
 have a3:=BA ac e.size
 have af:=GK aB j e
 have ag:=Bx j F.lt
 have J:=F.un e ag
 have ah:=Bx j G.lt
 have q:=G.un e ah
 have ai:=Bx j E.lt
 have s:=E.un e ai
 have K:=DW j H.size
 have N:=CI H (Ik e K)
 refine Ab rfl<|Aj<|AU<|A5<|A3 rfl<|A1 (.bis (false) (.eqP XB rfl) (by rfl))<|Ab rfl<|E4 rfl rfl<|A5<|Ai (BD rfl q CQ rfl Cb)<|Ai (BD rfl s CQ rfl Cb)<|Ai (BD rfl l CQ rfl Cb)<|Cw (L:=Ep) (ps:=_) ([a,b,c]) Gp Fa LZ rfl rfl rfl rfl rfl (by rfl) rfl rfl (λaO aK g a4 d aG=>?_)
 have a5:=BA a3 d.size
 have aj:=GK af g d
 have ak:=Bx g J.lt
 have al:=J.un d ak
 have am:=Bx g q.lt
 have an:=q.un d am
 have ao:=Bx g s.lt
 have ap:=s.un d ao
 have aq:=Bx g l.lt
 have ar:=l.un d aq
 have Q:=DW g N.size
 have au:=CI N (Ik d Q)
 refine WL.c1 BQ rfl rfl ((Pp _ [a,b,c] 3 _ (a4).rowp (by simp))) (λaP f=>?_)
 have x:=BA a5 f.size
 have T:=AJ.below aj f
 have U:=al.bl f
 have av:=an.bl f
 have aw:=ap.bl f
 have V:=ar.bl f
 have o:=kB au f
 refine A1 (.not rfl)<|Ab rfl<|Ae rfl (λX=>?_) (λX=>?_)
 have ax:=(nT X)
 have t:(BP a && BP b && BP c)=false:=by simpa [Bool.and_assoc] using (show ([a,b,c].all BP)=false by assumption)
 refine A5<|Ab rfl<|AI ?_
 have Y:If m P a b c=(P,11):=A7 t
 rw [Y]
 exact ⟨rfl,o,_,⟨U,T,A,x⟩,G4.refl _ _⟩
 have ax:=(nF X)
 have t:(BP a && BP b && BP c)=true:=by simpa [Bool.and_assoc,and_assoc] using (show ([a,b,c].all BP)=true by assumption)
 refine Ap<|A5<|A3 rfl<|Ai (BD rfl av CQ rfl Cb)<|Ai (BD rfl aw CQ rfl Cb)<|Ai (BD rfl V CQ rfl Cb)<|?_
 refine A1 (.build (cs:=VZ a b c) rfl (by rw [Qh];rfl)) ?_
 refine A1 (.build (cs:=(Iu ⟨3,a,b,c⟩).toArray) rfl (by rw [blS];rfl)) ?_
 refine Ai (BD rfl V CQ rfl Cb)<|As (W0 B bp m _ P ⟨3,a,b,c⟩ c _ ⟨U,T,A,x⟩) (λaQ a0=>?_)
 have ay:=CI o (AL.wide a0.1 o.size (by simp <;> omega))
 obtain ⟨v1,aC,aD⟩:=a0.2
 have aE:=G4.mono aD o.size
 refine Ab rfl<|AI ?_
 have Y:If m P a b c=FI m P ⟨3,a,b,c⟩ c:=A2 (by rw [t];decide)
 rw [Y]
 exact ⟨rfl,ay,_,aC,aE⟩
theorem Pm (B bp:Nat) (m:Int) (v:Value) (P:D2) (w:World) (h:CU B w bp m P v) :
    Calls Tryz.prog 82 #[ptV bp] w (A1L B w bp m v (GA m P)):=by
  obtain ⟨D,e,f,G⟩:=h;obtain ⟨p,cc,rfl,-,-,-,-⟩:=e.row;refine Av func82 rfl ntmps82 ?_;have U:=AL.refl w.heap.size ([bp,vb (.slice p P.list.length cc) bp]) w;refine A5<|Ab rfl<|Aj<|AU<|A5<|A3 rfl<|A1 (.bis (false) (.eqP XB rfl) (by rfl))<|Ab rfl<|E4 rfl rfl<|A5<|A3 rfl<|As (Ol bp m p cc P _ D (e).rowp oO) (λw1 k=>?_);have o:=BA G k.size;have q:=AJ.below e k;have s:=D.bl k;have E:=kB U k;refine A1 (.eql rfl rfl)<|A3 rfl<|B5 rfl rfl rfl (λb=>?_) (λb=>?_)
  · have V := dF b
    refine A3 rfl<|Au b<|As (Ol bp m p cc P _ s (q).rowp oO) (λw7 l=>?_);have t:=BA o l.size;have F:=AJ.below q l;have c:=s.bl l;have g:=kB E l;refine Au b<|A1 (.eql rfl rfl)<|A1 (.pkF rfl b rfl)<|Ab rfl<|Ae rfl (λu=>?_) (λu=>?_)
    · have H := dT u
      refine A5<|Ab rfl<|AI ?_
      (have d : GA m P = (P, 0) := A7 oO
       rw [d];exact ⟨rfl,g,_,⟨c,F,f,t⟩,G4.refl _ _⟩)
    have H:=dF u;refine Ap<|A5<|A3 rfl<|A3 rfl<|A1 (.nck rfl)<|A1 (.fa Kx rfl Fa dD rfl)<|Ai (Cx (L:=Ep) CQ rfl Cb c (P.start) (rfl) rfl)<|?_;refine A1 (.build (cs:=(Iu (GI 4 FH)).toArray) rfl (by rw [blS];rfl)) ?_;refine Cw (L:=EX) (ps:=_) ([GI 4 FH]) Fk K5 Nv rfl rfl rfl rfl rfl (by rfl) rfl rfl (λa4 a3 i A a a2=>?_);have C:=BA t a.size;have J:=GK F i a;have K:=Bx i c.lt;have Q:=c.un a K;have x:=DW i g.size;have j:=CI g (Ik a x);refine WL.c1 BQ rfl rfl ((Id B bp m _ P P.start _ [GI 4 FH] 1 _ ⟨Q,J,f,C⟩ (A).rowp (by simp) (λh=>by simp at h))) (λa5 y=>?_);have T:=CI j (AL.wide y.1 j.size (by simp <;> omega));obtain ⟨v1,X,a0⟩:=y.2;have a1:=G4.mono a0 j.size;refine Ab rfl<|AI ?_
    (have d : GA m P = Gt m P P.start [GI 4 FH] := A2 oO
     rw [d];exact ⟨rfl,T,_,X,a1⟩)
  have V:=dT b;refine Ac b<|Ac b<|A1 (.pkT rfl b rfl)<|Ab rfl<|E3 rfl rfl<|A5<|Ab rfl<|AI ?_
  (have d : GA m P = (P, 0) := A7 oO
   rw [d];exact ⟨rfl,E,_,⟨s,q,f,o⟩,G4.refl _ _⟩)
end
section
theorem Ms:(Tryz.prog.info? 61).map (λi=>(i.zero,i.size,i.bytes))=some (some (.agg #[.slice none 0 0,.bool false]),2,32):=by kernel_rfl
theorem Ij (p:Option Addr) (l:List Cm) (c:Nat) (w:World) (h:Bi EX w p l) (hl:l.length<=1000000) :
    Calls Tryz.prog 114 #[.slice p l.length c] w λe w'=>∃ x:Option Addr × Nat,e=.returned (.slice x.1 l.length x.2)/\AD w w'/\AJ EX 94 w.heap.size w' (.slice x.1 l.length x.2) l:=by
  refine Av func114 rfl ntmps114 ?_;have i:=DR w;refine A5<|Ab rfl<|Aj<|A5<|A3 rfl<|A1 (.eqSN Fk rfl)<|A0<|Ae rfl (λH=>?_) (λH=>?_);have hp:p=none:=by cases p with | none=>rfl | some a=>exact D6 (show (some a).isNone=true by assumption) (by simp)
  have t:l=[]:=by
    cases l with
    | nil=>rfl
    | cons x r=>have:=h.isp (by simp);rw [hp] at this;cases this
  refine A5<|Ab rfl<|AI ?_;exact ⟨(none,0),by rw [t];rfl,i,by rw [t];exact AJ.nil _ _ _ _⟩;have A:p≠none:=λe=>by (have q:p.isNone=false:=by assumption);rw [e] at q;cases q
  refine Ap<|A5<|ZZ Fk K5 rfl (λB D f b j J=>?_);have u:=λv=>f▸h.lt v
  have E:=Bi.upd h j (λv=>IU (u v));have F:=uB i f j;have o:=DW f i.size;have b:=AJ.of (L:=EX) (l:=[]) (b B (FQ _));have s:B<=D.heap.size:=by omega
  refine A3 rfl<|CV Fk A3r rfl rfl rfl b rfl E (by simp only [Ag];omega) (s) rfl (λ_=>.inr A) (λP Q k y K N=>?_);have G:=EU F (y.mono (o));refine Ab rfl<|AI ?_
  (have m := (k).base (C := w.heap.size) (fun g hg => BA (Nat.le_of_eq f.symm) ((k).lt g hg).1)
   simp only [CJ] at m;obtain ⟨q,d,rfl,-⟩:=m.row;exact ⟨(q,d),rfl,G,m⟩)
theorem Gv (p:Option Addr) (l:List Bm) (c:Nat) (w:World) (h:Bi G0 w p l) (hl:l.length<=1000000) :
    Calls Tryz.prog 116 #[.slice p l.length c] w λe w'=>∃ x:Option Addr × Nat,e=.returned (.slice x.1 l.length x.2)/\AD w w'/\AJ G0 61 w.heap.size w' (.slice x.1 l.length x.2) l:=by
  refine Av func116 rfl ntmps116 ?_;have i:=DR w;refine A5<|Ab rfl<|Aj<|A5<|A3 rfl<|A1 (.eqSN Fj rfl)<|A0<|Ae rfl (λH=>?_) (λH=>?_);have hp:p=none:=by cases p with | none=>rfl | some a=>exact D6 (show (some a).isNone=true by assumption) (by simp)
  have t:l=[]:=by
    cases l with
    | nil=>rfl
    | cons x r=>have:=h.isp (by simp);rw [hp] at this;cases this
  refine A5<|Ab rfl<|AI ?_;exact ⟨(none,0),by rw [t];rfl,i,by rw [t];exact AJ.nil _ _ _ _⟩;have A:p≠none:=λe=>by (have q:p.isNone=false:=by assumption);rw [e] at q;cases q
  refine Ap<|A5<|ZZ Fj K6 rfl (λB D f b j J=>?_);have u:=λv=>f▸h.lt v
  have E:=Bi.upd h j (λv=>IU (u v));have F:=uB i f j;have o:=DW f i.size;have b:=AJ.of (L:=G0) (l:=[]) (b B (FQ _));have s:B<=D.heap.size:=by omega
  refine A3 rfl<|CV Fj Ms rfl rfl rfl b rfl E (by simp only [Ag];omega) (s) rfl (λ_=>.inr A) (λP Q k y K N=>?_);have G:=EU F (y.mono (o));refine Ab rfl<|AI ?_
  (have m := (k).base (C := w.heap.size) (fun g hg => BA (Nat.le_of_eq f.symm) ((k).lt g hg).1)
   simp only [CJ] at m;obtain ⟨q,d,rfl,-⟩:=m.row;exact ⟨(q,d),rfl,G,m⟩)
theorem W3 (B bp:Nat) (m:Int) (v:Value) (P:D2) (w:World) (h:CU B w bp m P v) :
  C9 80 #[ptV bp] w (if P.list.length=0 then .tuple #[.agg (D4 FH).toArray,Ah 10] else .tuple #[.agg (D4 P.now).toArray,Ah 0]):=by
 obtain ⟨c,i,A,C⟩:=h
 obtain ⟨p,cc,rfl,-,-,-,-⟩:=i.row
 refine Av func80 rfl ntmps80 ?_
 have t:=DR w
 refine A5<|C1 LZ rfl (λH G d a b D=>?_)
 have u:=Bx d c.lt
 have f:=c.un b u
 have g:=uB t d b
 refine Ab rfl<|Aj<|AU<|A5<|A3 rfl<|A1 (.bis (false) (.eqP XB rfl) (by rfl))<|Ab rfl<|E4 rfl rfl<|A5<|A3 rfl<|A1 (.nck rfl)<|A1 (.fa Kx rfl HE dD rfl)<|Ai (Af (JG _) rfl f rfl)<|A1 (.lenS Fk rfl)<|A1 (.eql rfl rfl)<|Ab rfl<|Ae rfl (λj=>?_) (λj=>?_)
 have x:=dT j
 refine A5<|A1 (.buildL (ps:=_) LY rfl rfl rfl pZ) ?_
 refine AH rfl rfl a Cb rfl rfl (λJ k l E=>?_)
 have y:=CP g oO l
 refine Ab rfl<|B2 (EQ rfl rfl (BF k CQ rfl Cb) rfl ?_)
 exact ⟨Dc (by rw [A7 oO];rfl),y⟩
 have x:=dF j
 refine Ap<|A5<|A3 rfl<|A1 (.nck rfl)<|A1 (.fa Kx rfl Fa dD rfl)<|Ai (Cx (L:=Ep) CQ rfl Cb f (P.now) (rfl) rfl)<|AH rfl rfl a Cb rfl rfl (λK o q F=>?_)
 have s:=CP g oO q
 refine Ab rfl<|B2 (EQ rfl rfl (BF o CQ rfl Cb) rfl ?_)
 exact ⟨Dc (by rw [A2 oO];rfl),s⟩
theorem UG (B bp:Nat) (m:Int) (v:Value) (P:D2) (w:World) (h:CU B w bp m P v) :
  Calls Tryz.prog 113 #[ptV bp] w λe w'=>∃ x:Option Addr × Nat,e=.returned (.slice x.1 P.list.length x.2)/\AD w w'/\AJ EX 94 w.heap.size w' (.slice x.1 P.list.length x.2) P.list:=by
 obtain ⟨c,b,i,j⟩:=h
 obtain ⟨p,cc,rfl,d,-,-,-⟩:=b.row
 refine Av func113 rfl ntmps113 ?_
 have f:=DR w
 refine A5<|Ab rfl<|Aj<|A5<|A3 rfl<|A1 (.bis (false) (.eqP XB rfl) (by rfl))<|A0<|E4 rfl rfl<|Ap<|A5<|A3 rfl<|A1 (.nck rfl)<|A1 (.fa Kx rfl HE dD rfl)<|Ai (Af (JG _) rfl c rfl)<|DO BQ rfl rfl ((Ij p P.list cc _ d oO)) (λx k a=>?_)
 have g:=DN f a.1
 have hx:=a.2
 refine Ab rfl<|AI ?_
 exact ⟨x,rfl,g,hx⟩
theorem A0I (B bp:Nat) (m:Int) (v:Value) (P:D2) (w:World) (h:CU B w bp m P v) :
  Calls Tryz.prog 117 #[ptV bp] w λe w'=>e=.returned (.tuple #[])/\AL w.heap.size [bp] w w'/\CU B w' bp m Ie (.slice none 0 0):=by
 obtain ⟨l,t,b,c⟩:=h
 refine Av func117 rfl ntmps117 ?_
 have o:=AL.refl w.heap.size ([bp]) w
 refine A5<|A3 rfl<|A1 (.bis (true) (.neP XB rfl) (by rfl))<|A0<|E3 rfl rfl<|Ak<|A3 rfl<|A3 rfl<|A3 rfl<|?_
 refine A1 (.buildL (ps:=_) LY rfl rfl rfl pZ) ?_
 refine A1 (.buildL (ps:=_) LY rfl rfl rfl pZ) ?_
 refine A1 (.nck rfl)<|A1 (.fa Kx rfl HE dD rfl)<|CT 1 ((Rr m (.slice none 0 0) P.start P.now)) l HE (λA d f u=>?_)
 have q:=CI o (by exact Hc f (by simp))
 refine A1 (.nck rfl)<|A1 (.fa Kx rfl Fa dD rfl)<|Fp 2 ((Rr m (.slice none 0 0) FH P.now)) d Cb (λC g i x=>?_)
 have s:=CI q (by exact Hc i (by simp))
 refine A1 (.nck rfl)<|A1 (.fa Kx rfl Fa dD rfl)<|Fp 4 ((Rr m (.slice none 0 0) FH FH)) g Cb (λD j k y=>?_)
 have a:=CI s (by exact Hc k (by simp))
 refine A0<|BU (BK rfl ?_)
 exact ⟨rfl,a,⟨j,AJ.nil _ _ _ _,⟨by show (0:Int)<=m;omega,b.2⟩,BA c a.size⟩⟩
theorem blP:Tryz.prog.built 97=λCy=>Instr.fill (([(0,1),(1,1),(2,2),(4,2)]:List (Nat × Nat)).toArray[·]?) #[Ah 0,.slice none 0 0,Ah 0,Ah 0,Ah 0,Ah 0] Cy:=by kernel_rfl
theorem A5g (m:Int) (w:World) (hm:0<=m/\m<=1000000) :
  Calls Tryz.prog 18 #[Ah m] w λe w'=>∃ bp:Nat,e=.returned (ptV bp)/\AD w w'/\w.heap.size<=bp/\CU w.heap.size w' bp m Ie (.slice none 0 0):=by
 refine Av func18 rfl ntmps18 ?_
 have d:=DR w
 refine A5<|Ab rfl<|A5<|A3 rfl<|?_
 refine A1 (.build (cs:=Rr m (.slice none 0 0) FH FH) rfl (by rw [blP];rfl)) ?_
 refine D5 rfl rfl (λg j f b c i=>?_)
 have a:=uB d f c
 refine Ab rfl<|AI ?_
 exact ⟨g,rfl,a,oO,⟨b,AJ.nil _ _ _ _,⟨hm.1,hm.2⟩,a.size⟩⟩
end
section
abbrev SF {α:Type} (w:World) (res:Except Int α) (V:α->Value):Ending->World->Prop:=Ct 30 res V (λ_ w'=>AD w w') (λw'=>AD w w')
theorem Lm (e:Int) (w:World):Calls Tryz.prog 81 #[Ah e] w (SF w (LU e) λ_=>.tuple #[]):=by
 refine Av func81 rfl ntmps81 ?_
 have a:=DR w
 refine A5<|A3 rfl<|A1 (.neq rfl rfl)<|A0<|Ae rfl (λb=>?_) (λb=>?_)
 have c:=Kj b
 refine Ak<|A1 (.mkI Mc rfl)<|FE rfl (AE ?_)
 exact BB 22 (by unfold LU;rw [A2 aS]) a
 have c:=Kk b
 refine Ap<|BU (BK rfl ?_)
 exact Ct.ok () (by unfold LU;rw [A7 aS]) rfl a
theorem Dn (b:Bool) (w:World):Calls Tryz.prog 37 #[.bool b] w (SF w (CS b) λ_=>.tuple #[]):=by
 refine Av func37 rfl ntmps37 ?_
 have a:=DR w
 refine A5<|A3 rfl<|A1 (.not rfl)<|A0<|Ae rfl (λc=>?_) (λc=>?_)
 refine Ak<|A1 (.mkI Mc rfl)<|FE rfl (AE ?_)
 exact BB 22 (by unfold CS;rw [A2 (by simp_all)]) a
 refine Ap<|BU (BK rfl ?_)
 exact Ct.ok () (by unfold CS;rw [A7 (by simp_all)]) rfl a
theorem O6 (b:Bool) (w:World):Calls Tryz.prog 35 #[.bool b] w (SF w (HG b) λ_=>.tuple #[]):=by
 refine Av func35 rfl ntmps35 ?_
 have a:=DR w
 refine A5<|A3 rfl<|A1 (.not rfl)<|A0<|Ae rfl (λc=>?_) (λc=>?_)
 refine Ak<|A1 (.mkI Mc rfl)<|FE rfl (AE ?_)
 exact BB 25 (by unfold HG;rw [A2 (by simp_all)]) a
 refine Ap<|BU (BK rfl ?_)
 exact Ct.ok () (by unfold HG;rw [A7 (by simp_all)]) rfl a
theorem AF  {x:Except Int α} {f:α->Except Int β} {k:Int} (h:x=.error k):(x>>=f)=.error k:=by rw [h];rfl
theorem AQ  {x:Except Int α} {f:α->Except Int β} {a:α} (h:x=.ok a):(x>>=f)=f a:=by rw [h];rfl
def R9 (e:Int):Except Int Unit:=do HG (!decide (e=9));LU e
theorem Zc (p:D2 × Int):Dg p=(R9 p.2).map λ_=>p.1:=by
  unfold Dg R9 HG LU
  by_cases h0:p.2=0
  · rw [h0];rfl
  · by_cases h9 : p.2 = 9
    · rw [h9];rfl
    · rw [A2 h0, A2 h9, A7 (by simp [h9])]
      show _=Except.map _ (if p.2=0 then _ else _)
      rw [A2 h0];rfl
theorem IT (e:Int) (w:World):Calls Tryz.prog 75 #[Ah e] w (SF w (R9 e) λ_=>.tuple #[]):=by
 refine Av func75 rfl ntmps75 ?_
 have a:=DR w
 refine A5<|A3 rfl<|A1 (.neq rfl rfl)<|By BQ rfl rfl ((O6 _ _)) (λl m b c=>?_) (λs m b c=>?_)
 have i:=EU a (Below.mono c a.size)
 exact AE (BB l (AF b) i)
 have d:=DN a c
 refine A0<|Ak<|A3 rfl<|By BQ rfl rfl ((Lm _ _)) (λo q f g=>?_) (λt q f g=>?_)
 have j:=EU d (Below.mono g d.size)
 exact AE (BB o (by unfold R9;rw [AQ aS];exact f) j)
 have k:=DN d g
 refine A0<|BU (BK rfl ?_)
 exact Ct.ok () (by unfold R9;rw [AQ aS];assumption) rfl k
theorem MZ {e:Int} {u:Unit} (h:LU e=.ok u):e=0:=by
 unfold LU at h;split at h
 · assumption
 · cases h
theorem Mp  {e k:Int} {x:Except Int α} (h:LU e=.error k):(if e=0 then x else .error 22)=.error k:=by
 unfold LU at h;split at h
 · cases h
 · rename_i h0;rw [A2 h0];cases h;rfl
theorem YZ (a b:Int) (w:World):Calls Tryz.prog 110 #[Ah a,Ah b] w (SF w (J7 a b) λn=>Ah n):=by
 refine Av func110 rfl ntmps110 ?_
 have g:=DR w
 refine A5<|Ab rfl<|A5<|A3 rfl<|A3 rfl<|As (ZC a b _) (λm i=>?_)
 have c:=DN g i
 simp only [KV]
 refine A3 rfl<|A1 (.ext rfl rfl)<|A1 (.ext rfl rfl)<|DA rfl<|Ab rfl<|A5<|A3 rfl<|By BQ rfl rfl ((Lm _ _)) (λk l d e=>?_) (λo l d e=>?_)
 have f:=EU c (Below.mono e c.size)
 exact AE (BB k (by unfold J7;exact Mp d) f)
 have j:=DN c e
 refine A0<|A5<|A3 rfl<|Ab rfl<|AI ?_
 exact Ct.ok _ (by unfold J7;rw [A7 (MZ aS)]) rfl j
end
section
section
variable {F:Fence} {P:Program} {n:Nat}
def A5a (P:Program) (l:Nat) (R:Ending->World->Prop):Exit->Act->World->Prop
 | .normal,_,w=>∃ v w',(Instr.endRound l none).run P w=.ok v w'/\R (.returned v) w'
 | .panic c,a,w=>a.defers=[]/\R (.panicked c) w
 | _,_,_=>False
theorem Pg {l:Nat} {f:FuncId} {tmps:Array Value} {assign body:Code} (hF:F.fn f) (hf:∃ fn,P.funcs[f]?=some fn)
  (h : assign.wpIn (F.inRound l) n P (Exit.then (fun a₁ w₁ => ∃ w₂, (Instr.beginRound l).run P w₁ = .ok () w₂ ∧ body.wpIn (F.inRound l) n P (A5a P l R) a₁ w₂) (fun _ _ _ => False))
   { tmps:=tmps,defers:=[] } w) :
  RoundIn F n P l f tmps assign body w R:=by
 refine ⟨hF,λc cs hr=>?_⟩
 let b:Frame:={ (default:Frame) with fn:=f,kind:=.normal,roundOf:=some l }
 have hb0:Frame.round l f tmps assign body .normal=b.atR { tmps:=tmps,defers:=[] } [.code assign,.beginRound,.code body]:=by
  simp [Frame.round,Frame.atR,b]
 have hr':(F.inRound l).room ((c::cs).length+1+n):=hr
 have hF':(F.inRound l).fn b.fn:=hF
 obtain ⟨e,a₁,w₁,hq,a⟩:=h b [.beginRound,.code body] (c::cs) rfl hF' hr'
 rw [<- hb0] at a
 cases e with
 | normal =>
  obtain ⟨w₂,i,d⟩:=hq
  have j:StepsIn (Machine.fenced P (F.inRound l)) P (lone (b.atR a₁ [.beginRound,.code body]) (c::cs) w₁) (lone (b.atR a₁ [.code body]) (c::cs) w₂) :=
   .one (fenced_calm (fr:=b.atR a₁ [.beginRound,.code body]) hF' hr' rfl) (stepR_beginRound rfl i)
  obtain ⟨e₂,a₂,w₃,hq₂,harr₂⟩:=d b [] (c::cs) rfl hF' hr'
  cases e₂ with
  | normal =>
   obtain ⟨v,w₄,g,hR⟩:=hq₂
   exact ⟨.returned v,w₄,hR,(StepsIn.trans a j).trans (StepsIn.trans harr₂ (.one (fenced_calm (fr:=b.atR a₂ []) hF' hr' rfl) (stepR_round_end rfl rfl g)))⟩
  | panic chain =>
   obtain ⟨hd,hR⟩:=hq₂
   obtain ⟨todo,hs⟩:=harr₂
   have hl:({ b.atR a₂ todo with mode:=.panicking chain }:Frame).leaving P w₃ (.panicked chain):=⟨rfl,hd,hf⟩
   exact ⟨.panicked chain,w₃,hR,(StepsIn.trans a j).trans (StepsIn.trans hs (.one (fenced_leaving hF' hr' hl) (step_leave_panicked hl)))⟩
  | ret=>exact hq₂.elim
  | exit id=>exact hq₂.elim
  | goto t=>exact hq₂.elim
  | outgrown=>exact hq₂.elim
 | exit id=>exact hq.elim
 | goto t=>exact hq.elim
 | ret=>exact hq.elim
 | panic chain=>exact hq.elim
 | outgrown=>exact hq.elim
end
section
variable {P:Program} {n:Nat} {ops:Array Oper} {Q:Exit->Act->World->Prop}
theorem Ta  {l:Nat} {f:FuncId} {args:Array Value} (h:Calls P f args w R):CallsIn (Fence.wide.inRound l) m P f args w R :=
 callsIn_wide.2 h
theorem QC {l:Nat} {o:Oper} {a:Act} {next next':Act->World->Prop} (hd:∀ c,o.op≠.defer c) (hno:¬ LetsOut Q) (hn:∀ a w,next a w->next' a w)
  (h:o.wp P a w next Q\/(o.asks P a w/\LetsOut Q)):o.wpIn (Fence.wide.inRound l) n P a w next' Q:=by
 rcases h with h | ⟨-,h⟩
 ·
  refine ⟨λ_ _=>trivial,?_⟩
  rw [show (Fence.wide.inRound l).round=some l from rfl,Oper.semAt_eq _ _ _ hd]
  unfold Oper.wp at h
  cases hq:(execOp a.eval o).run P w with
  | ok r w' =>
   rw [hq] at h
   cases r with
   | value v=>exact hn _ _ h
   | skip=>exact hn _ _ h
   | defer d=>exact hn _ _ h
   | enter f args =>
    refine ⟨λhq=>(nomatch (show false=true from hq)),Ta (Calls.mono (P:=P) h λe w'' he=>?_)⟩
    cases e with
    | returned v=>exact hn _ _ he
    | panicked c=>exact he
    | outgrown=>exact he
   | row r args=>exact ⟨λhq=>(nomatch (show false=true from hq)),λc cs _=>by
     obtain ⟨v,w'',hr,hs⟩:=h c cs
     exact ⟨v,w'',hn _ _ hr,stepsIn_wide.2 hs⟩⟩
   | _=>exact h.elim
  | halt s w' =>
   rw [hq] at h
   cases s <;> first | exact h | exact h.elim
 · exact D6 h hno
theorem Ma {l:Nat} (hd:∀ o∈ops.toList,∀ c,o.op≠.defer c) (hno:¬ LetsOut Q):∀ (is:List Nat) (a:Act) (w:World),wpOps P ops Q is a w->wpOpsIn (Fence.wide.inRound l) n P ops Q is a w
 | [],a,w,h=>h
 | i::rest,a,w,h=>by
  have ih:=Ma (l:=l) hd hno rest
  simp only [wpOps] at h
  simp only [wpOpsIn]
  cases ho:ops[i]? with
  | none=>rw [ho] at h;exact ih a w h
  | some o =>
   rw [ho] at h
   simp only at h ⊢
   have hm:o∈ops.toList:=by
    obtain ⟨hi,rfl⟩:=BJ.1 ho
    exact Array.getElem_mem_toList hi
   split at h
   ·
    rename_i hw
    rw [A7 hw]
    exact QC (hd o hm) hno ih h
   ·
    rename_i hw
    rw [A2 hw]
    exact ⟨λ_ _=>trivial,ih _ _ h⟩
theorem O4  {l:Nat} {a:Act} (hm:P.follows .mixedOrders=true) (hd:∀ o∈ops.toList,∀ c,o.op≠.defer c) (hno:¬ LetsOut Q)
  (h:wpAny P .any ops Q ops.size (Array.replicate ops.size false) a { w with drawn:=w.drawn+1 }):(Code.region id ops true).wpIn (Fence.wide.inRound l) n P Q a w :=
 wpIn_region_draw λt=>by
  simp only [Region.schedule,hm,Bool.true_or,if_true]
  exact Ma hd hno _ _ _ (wpAny_sound ops.size t _ a _ h)
theorem Nw  {l:Nat} {a:Act} (hd:∀ o∈ops.toList,∀ c,o.op≠.defer c) (hno:¬ LetsOut Q)
  (h:wpOps P ops Q (List.range ops.size) a w):(Code.region id ops false).wpIn (Fence.wide.inRound l) n P Q a w :=
 wpIn_region (Ma hd hno _ _ _ h)
end
end
section
section
variable {P:Program} {n:Sh} {f:Fr} {w:World} {POST:Exit->Act->World->Prop}
def Oh (fn:FuncId) (a:Act) (ps:Array Tmp) (assign body:Code) (D:Nat) (st:LoopState) (pe:Option Code):Loop:={ state:=st,pending:=pe,fn,tmps:=a.tmps,params:=ps,assign,body,defers:=D }
def VO (fn:FuncId) (a:Act) (ps:Array Tmp) (assign body:Code) (w:World):World:=(w.alloc (.deferred (some []))).alloc (.loop (Oh fn a ps assign body w.heap.size .ready none))
theorem Lj {ops:Array Oper} {Q1 Q:Exit->Act->World->Prop} {rest:List Oper} {m:Nat} (hno:∀ a w,¬ Q1 .outgrown a w) (h1:∀ a w,Q1 .normal a w->wpListIn Fence.wide m P ops Q rest a w) (h2:∀ c a w,Q1 (.panic c) a w->Q (.panic c) a w) :
  ∀ (pre:List Oper) (a:Act) (w:World),(∀ o∈pre,∀ c,o.op≠.defer c)->wpList P ops Q1 pre a w->wpListIn Fence.wide m P ops Q (pre++rest) a w
 | [],a,w,_,h=>h1 a w h
 | o::pre,a,w,hd,h=>by
  have ih:=Lj hno h1 h2 pre
  simp only [wpList] at h
  rw [G5]
  simp only [wpListIn]
  have hd':∀ o∈pre,∀ c,o.op≠.defer c:=λx hx=>hd x (List.mem_cons_of_mem _ hx)
  split at h
  ·
   rename_i hw
   rw [A7 hw]
   rcases h with h | ⟨-,h⟩
   ·
    refine ⟨λ_ _=>trivial,?_⟩
    rw [show Fence.wide.round=none from rfl,Oper.semAt_none]
    unfold Oper.wp at h
    cases hq:(execOp a.eval o).run P w with
    | ok r w' =>
     rw [hq] at h
     cases r with
     | value v=>exact ih _ _ hd' h
     | skip=>exact ih _ _ hd' h
     | defer d=>exact ih _ _ hd' h
     | enter f args =>
      refine ⟨λhq=>(nomatch (show false=true from hq)),callsIn_wide.2 (Calls.mono (P:=P) h λe w'' he=>?_)⟩
      cases e with
      | returned v=>exact ih _ _ hd' he
      | panicked c=>exact h2 _ _ _ he
      | outgrown=>obtain ⟨a,w,hx⟩:=he;exact D6 hx (hno a w)
     | row r args=>exact ⟨λhq=>(nomatch (show false=true from hq)),λc cs _=>by
       obtain ⟨v,w'',hr,hs⟩:=h c cs
       exact ⟨v,w'',ih _ _ hd' hr,stepsIn_wide.2 hs⟩⟩
     | _=>exact h.elim
    | halt s w' =>
     rw [hq] at h
     cases s <;> first | exact h2 _ _ _ h | exact h.elim
   · obtain ⟨a,w,hx⟩:=h;exact D6 hx (hno a w)
  ·
   rename_i hw
   rw [A2 hw]
   exact ⟨λ_ _=>trivial,ih _ _ hd' h⟩
def YS (P:Program) (n:Sh) (ops:Array Oper) (Q:Exit->Fr->World->Prop) (d:Nat) (x y:Operand) (post:List Oper) (f:Fr) (w:World):Prop :=
 ∃ l v,D3 f x=some (.func (.yield l) #[] #[])/\D3 f y=some v/\YieldAt Fence.wide 0 P l #[v] w λe w'=>match e with
  | .returned r=>WL P n ops Q post ((d,r)::f) w'
  | .panicked c=>Q (.panic c) f w'
  | .outgrown=>False
def QY (K:Fr->World->Prop) (Q:Exit->Fr->World->Prop):Exit->Fr->World->Prop
 | .normal,f,w=>K f w
 | .panic c,f,w=>Q (.panic c) f w
 | _,_,_=>False
theorem YR  {ty:Nat} {pre post:List Oper} {Q:Exit->Fr->World->Prop}
  (hops:ops.toList=pre++⟨some d,.call ⟨.value x,#[y],ats⟩,ty,pos,aft,none⟩::post) (hd:Nat.blt d n.n=true) (hno:∀ f w,¬ Q .outgrown f w) (hdp:∀ o∈pre,∀ c,o.op≠.defer c) (hdq:∀ o∈post,∀ c,o.op≠.defer c)
  (h:WL P n ops (QY (YS P n ops Q d x y post) Q) pre f w):W P n (.region id ops false) Q f w:=by
 unfold W
 intro a ha
 refine (wpIn_wide (n:=1)).1 (wpIn_region_list ?_)
 rw [hops]
 refine Lj (Q1:=Hq n (QY (YS P n ops Q d x y post) Q)) (λa w ⟨f,_,hq⟩=>hq) ?_ ?_ pre a w hdp ((by unfold WL at h;exact h:∀ a,LK n f a->wpList P ops (Hq n (QY (YS P n ops Q d x y post) Q)) pre a w) a ha)
 ·
  rintro a w ⟨f,hf,l,v,hx,hy,fn,tm,as_,bd,b,hr⟩
  simp only [wpListIn]
  rw [A7 (by simp [Region.wanted])]
  refine ⟨λ_ _=>trivial,?_⟩
  have ex:(Oper.semAt Fence.wide.round a.eval ⟨some d,.call ⟨.value x,#[y],ats⟩,ty,pos,aft,none⟩).run P w=.ok (.round l fn tm as_ bd) w:=by
   rw [show Fence.wide.round=none from rfl,Oper.semAt_none]
   simp [execOp,resolve,invoke,hf.agr _ _ hx,hf.agr _ _ hy,b,Deferred.ofValue]
  rw [ex]
  refine ⟨λhq=>(nomatch (show false=true from hq)),hr.mono λe w' he=>?_⟩
  cases e with
  | returned r =>
   have:=Lj (P:=P) (ops:=ops) (m:=1) (Q1:=Hq n Q) (Q:=Hq n Q) (rest:=[]) (λa w ⟨f,_,hq⟩=>hno f w hq) (λ_ _ h=>h) (λ_ _ _ h=>h) post _ _ hdq ((by (have he:WL P n ops Q post ((d,r)::f) w':=he);(unfold WL at he);exact he:∀ a,LK n ((d,r)::f) a->wpList P ops (Hq n Q) post a w') _ (hf.put hd r))
   rwa [Bv] at this
  | panicked c=>exact ⟨f,hf,he⟩
  | outgrown=>exact he.elim
 ·
  rintro c a w ⟨f,hf,hq⟩
  exact ⟨f,hf,hq⟩
def RH (o:Oper):Bool:=match o.op with | .defer _=>false | _=>true
theorem A39 {l:List Oper} (h:l.all RH=true):∀ o∈l,∀ c,o.op≠.defer c:=λo ho c hc=>by
 have:=At.1 h o ho
 unfold RH at this
 rw [hc] at this
 cases this
theorem Xh (j:Nat) {ty:Nat} {Q:Exit->Fr->World->Prop} {l:List Oper}
  (hop:l[j]?=some ⟨some d,.call ⟨.value x,#[y],ats⟩,ty,pos,aft,none⟩) (hd:Nat.blt d n.n=true) (hno:∀ f w,¬ Q .outgrown f w) (hdp:(l.take j).all RH=true) (hdq:(l.drop (j+1)).all RH=true)
  (h:WL P n l.toArray (QY (YS P n l.toArray Q d x y (l.drop (j+1))) Q) (l.take j) f w):W P n (.region id l.toArray false) Q f w:=by
 obtain ⟨hj,ho⟩:=C2.1 hop
 refine YR (ty:=ty) (pos:=pos) (aft:=aft) (ats:=ats) (pre:=l.take j) (post:=l.drop (j+1)) ?_ hd hno (A39 hdp) (A39 hdq) h
 show l=_
 rw [<- ho,List.getElem_cons_drop,Fh]
theorem BM.slb3  {z u:Operand} {i j k:Int} (hu:P.underlying tx=some (.slice e)) (hs:∀ w,(sizeOf e).run P w=.ok 1 w) (hx:D3 f x=some (.slice p m c))
  (hi:D3 f y=some (Ah i)) (hj:D3 f z=some (Ah j)) (hk:D3 f u=some (Ah k)) (a b:Nat) (ei:i=a) (ej:j=b) (ek:k=b) (hab:a<b) (hbc:b<=c) :
  BM P (.slice tx x (some y) (some z) (some u)) f (.slice (p.map (·.add a)) (b-a) (b-a)):=λρ hρ d ty pos aft g w=>by
 subst ei;subst ej;subst ek
 have h1:a<=b:=by omega
 have l:¬ b=a:=by omega
 simp [execOp,Instr.sliceAt,Instr.slice,Instr.sliceBounds,run_sliceBound,hρ _ _ hx,hρ _ _ hi,hρ _ _ hj,hρ _ _ hk,B7 hu,hs,hbc,h1,l]
end
end
section
theorem A7v  {J:Nat->World->Prop} {Jp:List PanicEntry->World->Prop} (h:(∃ v,Ending.outgrown=.returned v/\J m w)\/∃ ch,Ending.outgrown=.panicked ch/\Jp ch w):False:=by
 rcases h with ⟨_,h,_⟩ | ⟨_,h,_⟩ <;> cases h
theorem YK (l bs_ bn:Nat) (p:Option Addr) (len c m:Nat) (J:Nat->World->Prop) (Jp:List PanicEntry->World->Prop) (w:World) (hlen:len=2 * m) (hc:len<=c) (hm:m<=1000000) (h0:J 0 w)
  (hJd:∀ k w1 w2,J k w1->Df w1 w2->J k w2) (hJ:∀ k w1,J k w1->Be w1 bs_ #[.slice p len c] 39/\Be w1 bn #[Ah 2] 3)
  (hp:0<m->p≠none)
  (hY:∀ k w1,k<m->J k w1->YieldAt Fence.wide 0 Tryz.prog l #[.slice (p.map (·.add (2 * k))) (2 * (k+1)-2 * k) (2 * (k+1)-2 * k)] w1 λe w2=>(e=.returned (.bool true)/\J (k+1) w2)\/∃ ch,e=.panicked ch/\Jp ch w2) :
  Calls Tryz.prog 145 #[.func (.yield l) #[] #[],ptV bs_,ptV bn] w λe w'=>(∃ v,e=.returned v/\J m w')\/∃ ch,e=.panicked ch/\Jp ch w':=by
 refine Av func145 rfl ntmps145<|A5<|Ab rfl<|AU<|Cf (α:=Nat) (λt=>[(0,.func (.yield l) #[] #[]),(1,ptV bs_),(2,ptV bn),(4,Ah ((2 * t:Nat):Int))]) (λt w'=>J t w'/\t<=m) (λt=>m-t) (0) ⟨rfl,rfl,rfl,rfl,tT⟩ (⟨h0,G8 _⟩) (λt w1 hR=>?_)
 obtain ⟨i,rfl⟩:=eX t
 obtain ⟨hj,hi⟩:=hR
 have b:=hJ i w1 hj
 have a:=b.1
 have o:=b.2
 refine Aj<|A5<|A3 rfl<|Ai (Af (L8 _) rfl a rfl)<|A1 (.lenS Dm rfl)<|A1 (.lss rfl rfl)<|A0<|Ae rfl (λg=>?_) (λg=>?_)
 ·
  have q:=dT g;refine Ap<|Aj<|AU<|Aj<|Eg Ci kR<|Du (λm=>Af (BE _) rfl o rfl) rfl<|Du (λm=>Af (L8 _) rfl a rfl) rfl<|AA (.mv rfl) rfl<|AA (.slbF Dm B6 rfl rfl  _ rfl oO) rfl<|AA (.lenS Dm rfl) rfl<|AA (.min2 rfl rfl) rfl<|AA (.as rfl) rfl<|Dk (λw2 d=>?_);have s:=a.drew d;refine Aj<|Xh 10 rfl rfl (λ_ _ h=>by (simp only [nx,inb,Ji] at h);exact A7v h) rfl rfl<|A3 rfl<|Ai (Af (L8 _) rfl s rfl)<|A3 rfl<|A3 rfl<|A3 rfl<|A1 (.add rfl rfl (Bn oO))<|A3 rfl<|A3 rfl<|A1 (.add rfl rfl (Bn oO))<|A1 (.slb3 Dm B6 rfl rfl rfl rfl (2 * i) (2 * (i+1)) oO oO oO oO oO)<|A0<|?_;have hy:=hY i _ oO (hJd _ _ _ hj d);refine ⟨l,_,rfl,rfl,?_⟩;obtain ⟨y,A,B,C,D,E⟩:=hy;refine ⟨y,A,B,C,D,E.mono ?_⟩;refine λe wy hh=>?_
  rcases hh with ⟨rfl,f⟩ | ⟨ch,rfl,u⟩
  rotate_left
  · simp only [nx,inb,Ji];exact (Or.inr ⟨ch,rfl,u⟩:(∃ v,Ending.panicked ch=.returned v/\J m wy)\/∃ c2,Ending.panicked ch=.panicked c2/\Jp c2 wy)
  have hb2:=hJ _ _ f;refine A1 (.not rfl)<|A0<|Ae rfl (λj=>?_) (λj=>?_)
  ·
   have x:=(nT j)
   contradiction
  have x:=(nF j);refine Ap<|Ak<|A3 rfl<|Ai (Af (BE _) rfl hb2.2 rfl)<|A1 (.iis (((2 * (i+1):Nat):Int)) (.add rfl rfl (Bn oO)) oO)<|Ab rfl ?_;exact ⟨i+1,⟨rfl,rfl,rfl,rfl,tT⟩,⟨f,oO⟩,oO⟩
 have q:=dF g
 refine C7<|BU (BK rfl ?_)
 exact .inl ⟨_,rfl,(show i=m by omega)▸hj⟩
end
end Go.Proofs.YthmhfjeojkbpfaaGreatDoor
