/-
  The law ViewBack: the content of a page that is sound is seen as its items. No condition beyond the row's own.
-/
import Derived.Test.YthmhfjeojkbpfaaGreatDoorVk6
set_option maxHeartbeats 6400000
set_option maxRecDepth 100000
namespace Go.Proofs.YthmhfjeojkbpfaaGreatDoor
open Go.RowKit
open Go.Proofs.Tryz
variable {aft:Array Edge} {ops:Array Oper} {ats:Array TypeId} {refs:Bool} {R:Ending->World->Prop} {f:Fr} {fill last:Int} {sum:Int->List UInt8->Int} {ns:List Int} {A s:List UInt8} {vs xs:List Value} {B N bp bv by' c d g i id m t t1:Nat} {F1 T Z:Nat->Prop} {x y:Operand} {p q:Option Addr} {P:Program} {pos:String} {α β:Type} {E e ta tb tx:TypeId} {v v' v1 vp z:Value} {w w1 w2:World} {S':World->Prop}
section
theorem IA  {g:α->List β} {l:List α} (h:i<l.length):(l.take (i+1)).flatMap g=(l.take i).flatMap g++g l[i]:=by
 rw [List.take_add_one,A7 h,Option.toList_some,List.flatMap_append];simp
theorem Kt (n:Int) (h:Ao n=true):(DG n).length<=60:=by
 have:=Vi n
 rw [BE,OU h] at this;exact this
theorem CI:∀ l:List Int,(∀ n∈l,Ao n=true)->(F5 l).length<=61 * l.length
 | [],_=>by simp [F5]
 | n::l,h=>by
  have h1:=CI l λm hm=>h m (by simp [hm])
  have h2:=Kt n (h n (by simp))
  unfold F5 at *
  simp only [CR,A5,A8,Ae];omega
theorem HO (p:Option Addr) (l:List Int) (c:Nat) (w:World) (hr:AS DW w p l) (hl:l.length<=6) (hf:∀ n∈l,Ao n=true) :
  Calls Tryz.prog 29 #[.slice p l.length c] w λe w'=>e=.returned (.string (bs (F5 l)))/\Below w.heap.size w w':=by
 have j:0<l.length->(pA p).block<w.heap.size:=λA=>hr.lt A
 refine W.e func29 rfl ntmps29 bL ?_
 have o:=EM (w.heap.size) w
 refine A4<|A9 rfl<|A4<|A9 rfl<|Ah<|A4<|A9 rfl<|W.b<|Cj (α:=Nat) (λt=>[(0,.slice p l.length c),(3,.string (bs (F5 (l.take t)))),(4,.int .i64 (t:Int))]) (λt w'=>Below w.heap.size w w'/\t<=l.length) (λt=>l.length-t) (0) ⟨rfl,rfl,rfl,tT⟩ (⟨o,Gg _⟩) (λt B hR=>?_)
 obtain ⟨i,rfl⟩:∃ i,i=t:=⟨t,rfl⟩
 obtain ⟨hT,hi⟩:=hR
 have d:=hr.below hT j
 have s:=CI (l.take i) (λm hm=>hf m (Dv hm))
 rw [AT] at s
 refine Ah<|A4<|A2 rfl<|A2 rfl<|A0 (.lenS Dh rfl)<|A0 (.lss rfl rfl)<|WL.e<|Ac rfl (λg=>?_) (λg=>?_)
 have u:=dT g
 have a:i<l.length:=by omega
 have f:=hf _ (AJ a)
 have C:=Kt _ f
 have v:F5 (l.take (i+1))=F5 (l.take i)++DG l[i]++[32]:=by rw [AE];exact IA a
 refine W.k<|Ah<|W.b<|Ak<|A2 rfl<|A2 rfl<|A2 rfl<|A0 (.ixb Dh B5 rfl rfl (d.isp oD) (i) (rfl) oO)<|Ag (AO (Bw _) rfl (d.cells (i) oO))<|WL.c1 AN rfl rfl ((by have q:=SQ l[i] B;rw [OU f] at q;exact q)) (λD x=>?_)
 have y:=DJ hT x
 refine A0 (.cat rfl rfl oO)<|A0 (.sis (F5 (l.take (i+1))) (.cat rfl rfl oF) (by exact v.symm))<|A9 rfl<|Ak<|A2 rfl<|A0 (.iis (((i+1:Nat):Int)) (.add rfl rfl (Bp oO)) oO)<|A9 rfl ?_
 exact ⟨i+1,⟨rfl,rfl,rfl,tT⟩,⟨y,by ((try simp only) <;> omega)⟩,by ((try simp only) <;> omega)⟩
 have u:=dF g
 have a:i=l.length:=by omega
 refine C0<|A4<|A2 rfl<|A9 rfl<|Ai (AZ rfl rfl ?_)
 exact ⟨by rw [a,Cs],hT⟩
theorem A5w:(Tryz.prog.info? 92).map (·.size)=some 6:=by kernel_rfl
def A65:Fe CK:=⟨6,Xl,by decide,λ_=>rfl,λx u hu=>Au.1 (show (Xl x).all Value.oneCell'=true from rfl) u hu⟩
theorem UU {s:CK} (h:Y5 s last):(N4 s).length<=400:=by
 have a:=(Jx h).1
 have b:=CI _ a
 have c:(Hj (FB s)).length<=6:=by unfold FB Hj;split;simp;split <;> simp
 have d:(I6 s).length=1:=by unfold I6;split;rfl;split;rfl;split <;> rfl
 unfold N4 D3
 simp only [A5,A8,Ae];omega
theorem Kx:∀ (l:List CK) (last:Int),E4 last l=true->(EB l).length<=400 * l.length
 | [],_,_=>by simp [EB]
 | s::l,last,h=>by
  unfold E4 at h
  rw [A3] at h
  have h1:=Kx l _ h.2
  have h2:=UU (A1u h.1)
  unfold EB at *
  simp only [CR,A5,A8];omega
theorem H9  {b:Nat} {t:TypeId} {s:CK} (h:AF w b (A65.V s).toArray t):Be Ed w (some ⟨b,0,none⟩) [s.fP_0,s.fP_1,s.fP_2]:=by
 refine FZ (λ_=>rfl) λk v hk=>?_
 show w.cell? ((⟨b,0,none⟩:Addr).add k)=_
 rw [EC,EF,h.cell]
 simpa [Fe.flat,A65,Xl,Ed] using hk
theorem TR {s:CK} (h:s.fKind=1):FB s=[s.fP_0]:=A6 (.inl h)
theorem TQ {s:CK} (h:s.fKind=2):FB s=[s.fP_0]:=A6 (.inr h)
theorem TP {s:CK} (h:s.fKind=3):FB s=[s.fP_0,s.fP_1,s.fP_2]:=by unfold FB;rw [A1 oO,A6 h]
theorem A3Y {s:CK} (h:s.fKind=1):I6 s=[109]:=A6 h
theorem A3X {s:CK} (h:s.fKind=2):I6 s=[108]:=by unfold I6;rw [A1 oO,A6 h]
theorem A3W {s:CK} (h:s.fKind=3):I6 s=[99]:=by unfold I6;rw [A1 oO,A1 oO,A6 h]
theorem A5X {s:CK} (hk:Y5 s last) (h1:¬ s.fKind=1) (h2:¬ s.fKind=2) (h3:¬ s.fKind=3):N4 s=[104,10]:=by
 unfold N4 FB I6
 rw [A1 oO,A1 h3,A1 h1,A1 h2,A1 h3];rfl
theorem Yp:∀ (l:List CK) (last:Int),E4 last l=true->∀ i (h:i<l.length),∃ k,Y5 l[i] k
 | s::l,last,h,0,_=>by
  unfold E4 at h
  rw [A3] at h
  exact ⟨last,A1u h.1⟩
 | s::l,last,h,i+1,hi=>by
  unfold E4 at h
  rw [A3] at h
  exact Yp l _ h.2 i (by simpa using hi)
theorem SM:∀ (l:List CK) (last:Int) (i:Nat),E4 last l=true->E4 last (l.take i)=true
 | [],_,i,_=>by simp [E4]
 | s::l,last,0,_=>by simp [E4]
 | s::l,last,i+1,h=>by
  unfold E4 at h
  rw [A3] at h
  rw [List.take_succ_cons]
  unfold E4
  rw [h.1,SM l _ i h.2];rfl
theorem V8 (p:Option Addr) (l:List CK) (c:Nat) (w:World) (hr:Be Fq w p l) (hl:l.length<=4096) (hs:E4 0 l=true) :
  Calls Tryz.prog 26 #[.slice p l.length c] w λe w'=>∃ x:Option Addr × Nat,e=.returned (.slice x.1 (EB l).length x.2)/\Below w.heap.size w w'/\Av w' x.1 (EB l)/\(EB l).length<=x.2/\(EB l=[]->x.2=0\/x.1≠none):=by
 have aw:0<l.length->(pA p).block<w.heap.size:=λD=>hr.lt D
 refine W.e func26 rfl ntmps26 bL ?_
 have ax:=EM (w.heap.size) w
 refine A4<|A9 rfl<|A4<|A9 rfl<|Ah<|A4<|A9 rfl<|W.b<|Cj (α:=Nat × Value) (λt=>[(0,.slice p l.length c),(3,t.2),(4,.int .i64 (t.1:Int))]) (λt w'=>Below w.heap.size w w'/\t.1<=l.length/\Cc 5 w.heap.size w' t.2 (AI (EB (l.take t.1)))) (λt=>l.length-t.1) ((0,.slice none 0 0)) ⟨rfl,rfl,rfl,tT⟩ (⟨ax,Gg _,Cc.nil _ _ _⟩) (λt w1 hR=>?_)
 obtain ⟨⟨i,v3⟩,ay⟩:∃ u,u=t:=⟨t,rfl⟩
 subst ay
 obtain ⟨hT,hi,ho⟩:=hR
 simp only at hi ho
 have H:=hr.below hT aw
 have az:=Kx (l.take i) 0 (SM l 0 i hs)
 rw [AT] at az
 have a9:=hT.size
 refine Ah<|A4<|A2 rfl<|A2 rfl<|A0 (.lenS Fj rfl)<|A0 (.lss rfl rfl)<|WL.e<|Ac rfl (λh1=>?_) (λh1=>?_)
 have aA:=dT h1
 have J:i<l.length:=by first | omega | (simp only at *;omega)
 obtain ⟨lk,hk⟩:=Yp l 0 hs i J
 have b5:=UU hk
 have aB:=Jx hk
 have aC:EB (l.take (i+1))=EB (l.take i)++N4 l[i]:=IA J
 have f:∀ (n:Int),n∈Hj (FB l[i])->Ao n=true:=aB.1
 refine W.k<|Ah<|W.b<|A4<|A2 rfl<|A2 rfl<|A0 (.ixm Fj Kq rfl rfl (H.isp oC) (i) (rfl) oO)<|A0 (.fa JF rfl sizeOf92 dD rfl)<|Ag (A73 (L':=A65) MH rfl A5w H (i) oO 1 (l[i]) (rfl) rfl)<|BV zeroValue92 rfl (λb2 b6 K aa j aX=>?_)
 have ab:=AW a9 j.size
 have aD:=Cc.new ho K j
 have P:=λD=>K▸H.lt D
 have aE:=Be.upd H j (λD=>Js (P D))
 have aF:=uB hT K j
 have aN:=Cq K hT.size
 refine Az rfl rfl aa A5w rfl rfl (λw8 a m aY=>?_)
 have o:=AW ab m.size
 have L:=Cc.upd aD m ((λg hg e=>by have:=Cc.ltV ho g hg;omega))
 have Q:=Be.upd aE m (λD=>Js (P D))
 have d:=CN aF oO m
 refine WL.e<|A4<|A9 rfl<|D4 (α:=Unit) (λt=>[(0,.slice p l.length c),(3,v3),(4,.int .i64 (i:Int)),(6,.string (bs (N4 l[i])))]) (λt w'=>Below w.heap.size w w'/\Cc 5 w.heap.size w' v3 (AI (EB (l.take i)))) ?_ (λt w1 hR=>?_)
 refine A4<|A2 rfl<|A2 rfl<|A0 (.ixm Fj Kq rfl rfl (Q.isp oC) (i) (rfl) oO)<|A0 (.fa JF rfl B5 dD rfl)<|Ag (AO (Bw _) rfl ((Q.field (i) oC 0 dD).trans rfl))<|WL.e<|W.b<|A4<|A0 (.eql rfl rfl)<|A9 rfl<|Ac rfl (λT=>?_) (λT=>?_)
 have ac:=dT T
 refine Ak<|A0 (.ixr MH Fs rfl rfl (0) (rfl) dD)<|A0 (.fa CS rfl B5 dD rfl)<|Ag (Rd.iis (l[i].fP_0.fX) (AO (Bw _) rfl (((H9 a).field (0) oC 0 dD).trans rfl)) (by rfl))<|A0 (.ixr MH Fs rfl rfl (0) (rfl) dD)<|A0 (.fa CS rfl B5 dD rfl)<|Ag (Rd.iis (l[i].fP_0.fY) (AO (Bw _) rfl (((H9 a).field (0) oC 1 dD).trans rfl)) (by rfl))<|Ct (ps:=_) Dh B5 PG rfl rfl rfl rfl rfl pR rfl (λb7 aZ s a0 v aO=>?_)
 have a1:=AW o v.size
 have ad:=Cc.new L s v
 have a':=Bg s a.lt
 have ae:=uB d s v
 have aG:=Cq s d.size
 have hq:=AS.lit (V:=DW) (l:=[l[i].fP_0.fX,l[i].fP_0.fY]) a0 (rfl)
 refine WL.c1 AN rfl rfl ((HO _ [l[i].fP_0.fX,l[i].fP_0.fY] _ _ hq oE (λn hn=>f n (by rw [TR aS];exact hn)))) (λb8 E=>?_)
 have aP:=AW a1 E.size
 have af:=Cc.below ad E
 have ag:=DJ ae E
 refine A0 (.sis (N4 l[i]) (.cat rfl rfl (by have q:=CI [l[i].fP_0.fX,l[i].fP_0.fY] (λn hn=>f n (by rw [TR aS];exact hn));simp only [A8,Ae] at *;omega)) (by unfold N4;rw [TR aS,A3Y aS];rfl))<|A9 rfl ?_
 exact ⟨(),⟨rfl,rfl,rfl,rfl,tT⟩,ag,af⟩
 have ac:=dF T
 refine A4<|A0 (.eql rfl rfl)<|A9 rfl<|Ac rfl (λU=>?_) (λU=>?_)
 have ah:=dT U
 refine Ak<|A0 (.ixr MH Fs rfl rfl (0) (rfl) dD)<|A0 (.fa CS rfl B5 dD rfl)<|Ag (Rd.iis (l[i].fP_0.fX) (AO (Bw _) rfl (((H9 a).field (0) oC 0 dD).trans rfl)) (by rfl))<|A0 (.ixr MH Fs rfl rfl (0) (rfl) dD)<|A0 (.fa CS rfl B5 dD rfl)<|Ag (Rd.iis (l[i].fP_0.fY) (AO (Bw _) rfl (((H9 a).field (0) oC 1 dD).trans rfl)) (by rfl))<|Ct (ps:=_) Dh B5 PG rfl rfl rfl rfl rfl pR rfl (λb9 b0 y a2 A aQ=>?_)
 have a3:=AW o A.size
 have ai:=Cc.new L y A
 have b1:=Bg y a.lt
 have aj:=uB d y A
 have aH:=Cq y d.size
 have hq:=AS.lit (V:=DW) (l:=[l[i].fP_0.fX,l[i].fP_0.fY]) a2 (rfl)
 refine WL.c1 AN rfl rfl ((HO _ [l[i].fP_0.fX,l[i].fP_0.fY] _ _ hq oE (λn hn=>f n (by rw [TQ aS];exact hn)))) (λba F=>?_)
 have aR:=AW a3 F.size
 have ak:=Cc.below ai F
 have am:=DJ aj F
 refine A0 (.sis (N4 l[i]) (.cat rfl rfl (by have q:=CI [l[i].fP_0.fX,l[i].fP_0.fY] (λn hn=>f n (by rw [TQ aS];exact hn));simp only [A8,Ae] at *;omega)) (by unfold N4;rw [TQ aS,A3X aS];rfl))<|A9 rfl ?_
 exact ⟨(),⟨rfl,rfl,rfl,rfl,tT⟩,am,ak⟩
 have ah:=dF U
 refine A4<|A0 (.eql rfl rfl)<|A9 rfl<|Ac rfl (λX=>?_) (λX=>?_)
 have an:=dT X
 refine Ak<|A0 (.ixr MH Fs rfl rfl (0) (rfl) dD)<|A0 (.fa CS rfl B5 dD rfl)<|Ag (Rd.iis (l[i].fP_0.fX) (AO (Bw _) rfl (((H9 a).field (0) oC 0 dD).trans rfl)) (by rfl))<|A0 (.ixr MH Fs rfl rfl (0) (rfl) dD)<|A0 (.fa CS rfl B5 dD rfl)<|Ag (Rd.iis (l[i].fP_0.fY) (AO (Bw _) rfl (((H9 a).field (0) oC 1 dD).trans rfl)) (by rfl))<|A0 (.ixr MH Fs rfl rfl (1) (rfl) dD)<|A0 (.fa CS rfl B5 dD rfl)<|Ag (Rd.iis (l[i].fP_1.fX) (AO (Bw _) rfl (((H9 a).field (1) oC 0 dD).trans rfl)) (by rfl))<|A0 (.ixr MH Fs rfl rfl (1) (rfl) dD)<|A0 (.fa CS rfl B5 dD rfl)<|Ag (Rd.iis (l[i].fP_1.fY) (AO (Bw _) rfl (((H9 a).field (1) oC 1 dD).trans rfl)) (by rfl))<|A0 (.ixr MH Fs rfl rfl (2) (rfl) dD)<|A0 (.fa CS rfl B5 dD rfl)<|Ag (Rd.iis (l[i].fP_2.fX) (AO (Bw _) rfl (((H9 a).field (2) oC 0 dD).trans rfl)) (by rfl))<|A0 (.ixr MH Fs rfl rfl (2) (rfl) dD)<|A0 (.fa CS rfl B5 dD rfl)<|Ag (Rd.iis (l[i].fP_2.fY) (AO (Bw _) rfl (((H9 a).field (2) oC 1 dD).trans rfl)) (by rfl))<|Ct (ps:=_) Dh B5 PG rfl rfl rfl rfl rfl pR rfl (λbb b3 B a4 C aT=>?_)
 have a5:=AW o C.size
 have ao:=Cc.new L B C
 have b4:=Bg B a.lt
 have ap:=uB d B C
 have aI:=Cq B d.size
 have hq:=AS.lit (V:=DW) (l:=[l[i].fP_0.fX,l[i].fP_0.fY,l[i].fP_1.fX,l[i].fP_1.fY,l[i].fP_2.fX,l[i].fP_2.fY]) a4 (rfl)
 refine WL.c1 AN rfl rfl ((HO _ [l[i].fP_0.fX,l[i].fP_0.fY,l[i].fP_1.fX,l[i].fP_1.fY,l[i].fP_2.fX,l[i].fP_2.fY] _ _ hq oE (λn hn=>f n (by rw [TP aS];exact hn)))) (λbc G=>?_)
 have aU:=AW a5 G.size
 have aq:=Cc.below ao G
 have ar:=DJ ap G
 refine A0 (.sis (N4 l[i]) (.cat rfl rfl (by have q:=CI [l[i].fP_0.fX,l[i].fP_0.fY,l[i].fP_1.fX,l[i].fP_1.fY,l[i].fP_2.fX,l[i].fP_2.fY] (λn hn=>f n (by rw [TP aS];exact hn));simp only [A8,Ae] at *;omega)) (by unfold N4;rw [TP aS,A3W aS];rfl))<|A9 rfl ?_
 exact ⟨(),⟨rfl,rfl,rfl,rfl,tT⟩,ar,aq⟩
 have an:=dF X
 refine W.k ?_
 exact ⟨(),⟨rfl,rfl,rfl,by rw [A5X hk aS aS aS];rfl,tT⟩,d,L⟩
 obtain ⟨a7,aJ⟩:=hR
 have Y:=a7.size
 refine Ak<|A2 rfl<|A2 rfl<|Gl Bu Ju Gr rfl aJ rfl (by simp only [B3];omega) (Y) rfl (λbd be a6 N aV=>?_)
 have au:=EZ a7 (N.mono (FL _))
 have av:=Cc.cat a6
 have aW:=AW Y N.size
 refine A9 rfl<|Ak<|A2 rfl<|A0 (.iis (((i+1:Nat):Int)) (.add rfl rfl (Bp oO)) oO)<|A9 rfl ?_
 have a8:=av
 rw [<- aC] at a8
 exact ⟨(i+1,_),⟨rfl,rfl,rfl,tT⟩,⟨au,by ((try simp only) <;> omega),a8⟩,by ((try simp only) <;> omega)⟩
 have aA:=dF h1
 have J:i=l.length:=by first | omega | (simp only at *;omega)
 refine C0<|A4<|A2 rfl<|A9 rfl<|Ai (AZ rfl rfl ?_)
 obtain ⟨pb,cb,evb,aK,-,aL,aM⟩:=Lj (l:=EB l) (by have h:=ho;rw [J,Cs] at h;exact h)
 subst evb
 exact ⟨(pb,cb),rfl,hT,aK,aL,aM⟩
theorem A5J:Tryz.prog.built 37 [(0,.int .i64 1)]=some (DI (M8 1)).toArray:=by kernel_rfl
theorem A85:Tryz.prog.built 41 [(0,.int .i64 65536),(3,.int .i64 655360)]=some (El Zj.s.pen).toArray:=by kernel_rfl
def Qq (s:RW):List Value:=DI s.fill++DI s.stroke++El s.pen
theorem A84:Tryz.prog.built 80 [(0,.agg (DI (M8 1)).toArray),(1,.agg (DI (M8 1)).toArray),(2,.agg (El Zj.s.pen).toArray)]=some (Qq so0).toArray:=by kernel_rfl
theorem SS (w:World):Calls Tryz.prog 24 #[] w λe w'=>e=.returned (.agg (Qq so0).toArray)/\Below w.heap.size w w':=by
 refine W.e func24 rfl ntmps24 bL ?_
 have a:=EM (w.heap.size) w
 refine A4<|BV zeroValue80 rfl (λq o b c d l=>?_)
 have i:=uB a b d
 have k:=Cq b a.size
 refine WL.e<|?_
 refine A4<|A0 (.build rfl A5J) ?_
 refine A0 (.build rfl A5J) ?_
 refine A0 (.build rfl A85) ?_
 refine A0 (.build rfl A84) ?_
 refine Az rfl rfl c Ps rfl rfl (λs f g m=>?_)
 have j:=CN i oO g
 refine WL.e<|Ai (C4 rfl rfl (Bq f TK rfl Ps)  ?_)
 exact ⟨rfl,j⟩
theorem A4V {c:C6} (h:Sw c) (hi:(i:Int)<c.fSpace):i<(Cl c).length/\i<(J6 c).length:=by
 have a:(Cl c).length=4:=rfl
 have hs:c.fSpace=1\/c.fSpace=3\/c.fSpace=4:=by rcases h.sp with h | h | h;exact .inl h.1;exact .inr (.inl h.1);exact .inr (.inr h)
 refine ⟨by omega,?_⟩
 unfold J6
 rw [AT];omega
theorem A2W {c:C6} (h1:i<(Cl c).length) (h2:i<(J6 c).length):(J6 c)[i]=(Cl c)[i]:=List.getElem_take
theorem A2X {c:C6} (h:Sw c):(J6 c).length=c.fSpace.toNat:=by
 have a:(Cl c).length=4:=rfl
 have hs:c.fSpace=1\/c.fSpace=3\/c.fSpace=4:=by rcases h.sp with h | h | h;exact .inl h.1;exact .inr (.inl h.1);exact .inr (.inr h)
 unfold J6
 rw [AT];omega
def NW (big:Bool):List (l8_):=if big then [[],[71,10],[],[82,71,10],[75,10]] else [[],[103,10],[],[114,103,10],[107,10]]
theorem A1X (big:Bool) {n:Int} (h:n=1\/n=3\/n=4) (hn:n.toNat<(NW big).length):(NW big)[n.toNat]=KK big n++[10]:=by
 cases big <;> rcases h with rfl | rfl | rfl <;> rfl
theorem T2 (big:Bool) (k:Nat) (hk:k<(NW big).length):(NW big)[k].length<=3:=by
 have h:∀ x∈NW big,x.length<=3:=by cases big <;> decide
 exact h _ (AJ hk)
theorem W9 (big:Bool) {c:C6} (h:c.fSpace=1\/c.fSpace=3\/c.fSpace=4) (hn:c.fSpace.toNat<(NW big).length):F5 (J6 c)++(NW big)[c.fSpace.toNat]'hn=Oh big c:=by
 rw [A1X big h hn];rfl
theorem ST (c:C6) (big:Bool) (w:World) (hc:Sw c) :
  Calls Tryz.prog 27 #[.agg (DI c).toArray,.bool big] w λe w'=>e=.returned (.string (bs (Oh big c)))/\Below w.heap.size w w':=by
 have o:=(Iq hc).1
 have am:=A2X hc
 have hs:c.fSpace=1\/c.fSpace=3\/c.fSpace=4:=by rcases hc.sp with h | h | h;exact .inl h.1;exact .inr (.inl h.1);exact .inr (.inr h)
 refine W.e func27 rfl ntmps27 bL ?_
 have K:=EM (w.heap.size) w
 refine A4<|CU rfl rfl (λb1 an L T U ai=>?_)
 have a3:=uB K L U
 have ae:=Cq L K.size
 refine A9 rfl<|A4<|A9 rfl<|Ah<|A4<|A9 rfl<|W.b<|Cj (α:=Nat) (λt=>[(1,.bool big),(2,.pointer (some ⟨b1,0,none⟩)),(5,.string (bs (F5 ((J6 c).take t)))),(6,.int .i64 (t:Int))]) (λt w'=>Below w.heap.size w w'/\AF w' b1 (DI c).toArray 37/\(t:Int)<=c.fSpace) (λt=>c.fSpace.toNat-t) (0) ⟨rfl,rfl,rfl,rfl,tT⟩ (⟨a3,T,by omega⟩) (λt w1 hR=>?_)
 obtain ⟨i,rfl⟩:∃ i,i=t:=⟨t,rfl⟩
 obtain ⟨hT,a,hi⟩:=hR
 have a4:=CI ((J6 c).take i) (λm hm=>o m (Dv hm))
 rw [AT] at a4
 refine Ah<|A4<|A2 rfl<|A0 (.fa GH rfl B5 dD rfl)<|Ag (Ad (Bw _) rfl a rfl)<|A0 (.lss rfl rfl)<|WL.e<|Ac rfl (λX=>?_) (λX=>?_)
 have a5:=dT X
 have N:(i:Int)<c.fSpace:=by first | omega | (simp only at *;omega)
 obtain ⟨u,v⟩:=A4V hc N
 have P:=A2W u v
 have x:Ao (Cl c)[i]=true:=by rw [<- P];exact o _ (AJ v)
 have ao:=Kt _ x
 have a6:F5 ((J6 c).take (i+1))=F5 ((J6 c).take i)++(DG (Cl c)[i]++[32]):=by rw [<- P];exact IA v
 have h4:(Cl c).length=4:=rfl
 refine W.k<|Ah<|W.b<|Ak<|A2 rfl<|A2 rfl<|A0 (.fa GH rfl sizeOf35 dD rfl)<|A0 (.ixr1 UH B5 rfl rfl (i) (rfl) (u))<|Ag (Rd.iis ((Cl c)[i]) (AO (Bw _) rfl ((Mr a).cells (i) (u))) (by rfl))<|Ct (ps:=_) Dh B5 PG rfl rfl rfl rfl rfl pR rfl (λb4 ap y Y A aj=>?_)
 have a7:=Bg y a.lt
 have a8:=a.un A a7
 have a9:=uB hT y A
 have af:=Cq y hT.size
 have hq:=AS.lit (V:=DW) (l:=[(Cl c)[i]]) Y (rfl)
 refine WL.c1 AN rfl rfl ((HO _ [(Cl c)[i]] _ _ hq oE (λn hn=>by rw [Am.1 hn];exact x))) (λw8 Q=>?_)
 have aa:=a8.bl Q
 have a0:=DJ a9 Q
 refine A0 (.sis (F5 ((J6 c).take (i+1))) (.cat rfl rfl (by have e1:=CI [(Cl c)[i]] (λn hn=>by rw [Am.1 hn];exact x);rw [CD] at e1;omega)) (by rw [a6];simp [F5]))<|A9 rfl<|Ak<|A2 rfl<|A0 (.iis (((i+1:Nat):Int)) (.add rfl rfl (Bp oO)) oO)<|A9 rfl ?_
 exact ⟨i+1,⟨rfl,rfl,rfl,rfl,tT⟩,⟨a0,aa,by ((try simp only) <;> omega)⟩,by ((try simp only) <;> omega)⟩
 have a5:=dF X
 have N:(i:Int)=c.fSpace:=by first | omega | (simp only at *;omega)
 have q:F5 ((J6 c).take i)=F5 (J6 c):=by rw [AR oO]
 refine C0<|A4<|Ct (ps:=_) Qj Lv z9_ rfl rfl rfl rfl rfl pR rfl (λaq ak g G s ag=>?_)
 have a1:=Bg g a.lt
 have B:=a.un s a1
 have C:=uB hT g s
 have ab:=Cq g hT.size
 have hu:=AS.lit (V:=UO) (l:=(NW false)) G (rfl)
 refine A9 rfl<|A4<|Ct (ps:=_) Qj Lv z9_ rfl rfl rfl rfl rfl pR rfl (λar al d H f ah=>?_)
 have a2:=Bg d B.lt
 have D:=B.un f a2
 have J:=λh0=>d▸hu.lt h0
 have E:=AS.upd hu f (λh0=>Js (J h0))
 have F:=uB C d f
 have ac:=Cq d C.size
 have hg:=AS.lit (V:=UO) (l:=(NW true)) H (rfl)
 refine A9 rfl<|Ah<|A4<|A2 rfl<|WL.e<|Ac rfl (λad=>?_) (λad=>?_)
 have j:big=true:=by assumption
 refine A4<|A2 rfl<|A2 rfl<|A0 (.fa GH rfl B5 dD rfl)<|Ag (Ad (Bw _) rfl D rfl)<|A0 (.ixb Qj Lv rfl rfl (hg.isp oD) (c.fSpace.toNat) oO ((show c.fSpace.toNat<5 by omega)))<|Ag (AO (KP _) rfl (hg.cells (c.fSpace.toNat) ((show c.fSpace.toNat<5 by omega))))<|A0 (.sis (Oh true c) (.cat rfl rfl (by have e1:=CI (J6 c) o;have e2:=T2 true c.fSpace.toNat (by show c.fSpace.toNat<5;omega);rw [q];omega)) (by rw [q];exact W9 true hs _))<|A9 rfl<|Ai (AZ rfl rfl ?_)
 exact ⟨by rw [j],F⟩
 have j:big=false:=by assumption
 refine W.k<|A4<|A2 rfl<|A2 rfl<|A0 (.fa GH rfl B5 dD rfl)<|Ag (Ad (Bw _) rfl D rfl)<|A0 (.ixb Qj Lv rfl rfl (E.isp oD) (c.fSpace.toNat) oO ((show c.fSpace.toNat<5 by omega)))<|Ag (AO (KP _) rfl (E.cells (c.fSpace.toNat) ((show c.fSpace.toNat<5 by omega))))<|A0 (.sis (Oh false c) (.cat rfl rfl (by have e1:=CI (J6 c) o;have e2:=T2 false c.fSpace.toNat (by show c.fSpace.toNat<5;omega);rw [q];omega)) (by rw [q];exact W9 false hs _))<|A9 rfl<|Ai (AZ rfl rfl ?_)
 exact ⟨by rw [j],F⟩
theorem XU {l:List Int} (h:i<l.length):Em (l.take (i+1))=Em (l.take i)++32::DG l[i]:=by
 have key:∀ (a:List Int) (n:Int),Em (a++[n])=Em a++32::DG n:=λa n=>by
  induction a with
  | nil=>simp [Em]
  | cons m a ih=>simp [Em,ih]
 rw [List.take_add_one,A7 h,Option.toList_some,key]
theorem L9:∀ l:List Int,(∀ n∈l,Ao n=true)->(Em l).length<=61 * l.length
 | [],_=>by simp [Em]
 | n::l,h=>by
  have h1:=L9 l λm hm=>h m (by simp [hm])
  have h2:=Kt n (h n (by simp))
  simp only [Em,A5,A8];omega
theorem Oc {n:Int} (h:0<=n/\n<=2):(E5 n).length<=1:=by
 obtain ⟨a,b⟩:=h
 obtain rfl | rfl | rfl:n=0\/n=1\/n=2:=by omega
 all_goals decide +kernel
theorem A0A {l:List Int} (h:i<l.length):(Em (l.take (i+1))).drop 1=(Em (l.take i)).drop 1++(if i=0 then [] else [32])++DG l[i]:=by
 rw [XU h]
 cases i with
 | zero=>simp [Em]
 | succ i =>
  rw [A1 oO]
  cases l with
  | nil=>simp at h
  | cons n l=>simp [Em]
theorem Mq {a b:Int} {f:Int->l8_} (h:b≠a):D7 a b f=f b:=A6 h
theorem NO {a b:Int} {f:Int->l8_} (h:b=a):D7 a b f=[]:=A1 (λhn=>hn h)
theorem A47 {a b:Dz} {tw tc tj tm:l8_} (htw:tw=D7 a.fWidth b.fWidth (λn=>D3 [n] [119])) (htc:tc=D7 a.fCap b.fCap (λn=>De n [74])) (htj:tj=D7 a.fJoin b.fJoin (λn=>De n [106])) (htm:tm=D7 a.fMiter b.fMiter (λn=>D3 [n] [77])) (h:b.fPhase≠a.fPhase\/b.fDash≠a.fDash) :
  tw++tc++tj++tm++Ef b=ML a b:=by unfold ML;rw [A6 h,htw,htc,htj,htm]
theorem A68 {a b:Dz} {tw tc tj tm:l8_} (htw:tw=D7 a.fWidth b.fWidth (λn=>D3 [n] [119])) (htc:tc=D7 a.fCap b.fCap (λn=>De n [74])) (htj:tj=D7 a.fJoin b.fJoin (λn=>De n [106])) (htm:tm=D7 a.fMiter b.fMiter (λn=>D3 [n] [77])) (h:¬ (b.fPhase≠a.fPhase\/b.fDash≠a.fDash)) :
  tw++tc++tj++tm=ML a b:=by unfold ML;rw [A1 h,htw,htc,htj,htm,BK]
theorem A44 (a b:Dz) (w:World) (ha:AS DW w a.pfDash a.fDash) (hb:AS DW w b.pfDash b.fDash) (hal:a.fDash.length<=11) (hk:LC b) :
  Calls Tryz.prog 28 #[.agg (El a).toArray,.agg (El b).toArray] w λe w'=>e=.returned (.string (bs (ML a b)))/\Below w.heap.size w w':=by
 have y:∀ {n:Int},Ao n=true->∀ m∈[n],Ao m=true:=λh m hm=>by rw [Am.1 hm];exact h
 have b9:=CI [b.fWidth] (y hk.w.1)
 have ba:=CI [b.fMiter] (y hk.m.1)
 have bb:=CI [b.fPhase] (y hk.ph.1)
 have bv:=Oc hk.c
 have ah:=Oc hk.j
 have bw:=L9 b.fDash (λn hn=>(hk.d n hn).1)
 have bx:=hk.dl
 rw [CD] at b9 ba bb
 obtain ⟨tw,E⟩:∃ t,t=D7 a.fWidth b.fWidth (λn=>D3 [n] [119]):=⟨_,rfl⟩
 obtain ⟨tc,F⟩:∃ t,t=D7 a.fCap b.fCap (λn=>De n [74]):=⟨_,rfl⟩
 obtain ⟨tj,G⟩:∃ t,t=D7 a.fJoin b.fJoin (λn=>De n [106]):=⟨_,rfl⟩
 obtain ⟨tm,H⟩:∃ t,t=D7 a.fMiter b.fMiter (λn=>D3 [n] [77]):=⟨_,rfl⟩
 have lw:tw.length<=63:=by rw [E];unfold D7 D3;split <;> simp <;> omega
 have lc:tc.length<=4:=by rw [F];unfold D7 De;split <;> simp <;> omega
 have lj:tj.length<=4:=by rw [G];unfold D7 De;split <;> simp <;> omega
 have lm:tm.length<=63:=by rw [H];unfold D7 D3;split <;> simp <;> omega
 refine W.e func28 rfl ntmps28 bL ?_
 have ai:=EM (w.heap.size) w
 refine A4<|CU rfl rfl (λu bz aj a4 am bo=>?_)
 have ak:=uB ai aj am
 have bi:=Cq aj ai.size
 refine CU rfl rfl (λv bA a5 x a6 bp=>?_)
 have ah:=Bg a5 a4.lt
 have a1:=a4.un a6 ah
 have a7:=uB ak a5 a6
 have bj:=Cq a5 ak.size
 refine A9 rfl<|A4<|A9 rfl<|D4 (α:=Unit) (λt=>[(2,.pointer (some ⟨u,0,none⟩)),(3,.pointer (some ⟨v,0,none⟩)),(5,.string (bs (tw)))]) (λt w'=>Below w.heap.size w w'/\AF w' u (El a).toArray 41/\AF w' v (El b).toArray 41) ?_ (λt J hR=>?_)
 refine A4<|A0 (.fa CT rfl B5 dD rfl)<|Ag (Ad (Bw _) rfl x rfl)<|A0 (.fa CT rfl B5 dD rfl)<|Ag (Ad (Bw _) rfl a1 rfl)<|A0 (.neq rfl rfl)<|WL.e<|Ac rfl (λh7=>?_) (λh7=>?_)
 have bc:=JY h7
 refine Ak<|A2 rfl<|A0 (.fa CT rfl B5 dD rfl)<|Ag (Ad (Bw _) rfl x rfl)<|Ct (ps:=_) Dh B5 PG rfl rfl rfl rfl rfl pR rfl (λb8 bB a2 an K bq=>?_)
 have ao:=Bg a2 a1.lt
 have bd:=a1.un K ao
 have ap:=Bg a2 x.lt
 have aq:=x.un K ap
 have ar:=uB a7 a2 K
 have bk:=Cq a2 a7.size
 have hq:=AS.lit (V:=DW) (l:=[b.fWidth]) an (rfl)
 refine WL.c1 AN rfl rfl ((HO _ [b.fWidth] _ _ hq oE (y hk.w.1))) (λbC L=>?_)
 have au:=bd.bl L
 have av:=aq.bl L
 have aw:=DJ ar L
 refine A0 (.cat rfl rfl (by first | omega | (simp only [A5,A8,Ae];omega)))<|A0 (.cat rfl rfl (by first | omega | (simp only [A5,A8,Ae];omega)))<|A9 rfl ?_
 exact ⟨(),⟨rfl,rfl,OX rfl (by rw [E,Mq aS];rfl),tT⟩,aw,au,av⟩
 have bc:=JZ h7
 refine W.k ?_
 exact ⟨(),⟨rfl,rfl,OX rfl (by rw [E,NO aS]),tT⟩,a7,a1,x⟩
 obtain ⟨s,o,f⟩:=hR
 refine D4 (α:=Unit) (λt=>[(2,.pointer (some ⟨u,0,none⟩)),(3,.pointer (some ⟨v,0,none⟩)),(5,.string (bs (tw++tc)))]) (λt w'=>Below w.heap.size w w'/\AF w' u (El a).toArray 41/\AF w' v (El b).toArray 41) ?_ (λt J hR=>?_)
 refine A4<|A0 (.fa CT rfl B5 dD rfl)<|Ag (Ad (Bw _) rfl f rfl)<|A0 (.fa CT rfl B5 dD rfl)<|Ag (Ad (Bw _) rfl o rfl)<|A0 (.neq rfl rfl)<|WL.e<|Ac rfl (λa8=>?_) (λa8=>?_)
 have ax:=JY a8
 refine Ak<|A2 rfl<|A0 (.fa CT rfl B5 dD rfl)<|Ag (Ad (Bw _) rfl f rfl)<|WL.c1 AN rfl rfl ((Ji b.fCap _ (by have:=hk.c;omega) (by have:=hk.c;omega))) (λbD P=>?_)
 have ay:=o.bl P
 have az:=f.bl P
 have aA:=DJ s P
 refine A0 (.cat rfl rfl (by first | omega | (simp only [A5,A8,Ae];omega)))<|A0 (.cat rfl rfl (by first | omega | (simp only [A5,A8,Ae];omega)))<|A9 rfl ?_
 exact ⟨(),⟨rfl,rfl,OX rfl (by rw [F,Mq aS];simp [De]),tT⟩,aA,ay,az⟩
 have ax:=JZ a8
 refine W.k ?_
 exact ⟨(),⟨rfl,rfl,OX rfl (by rw [F,NO aS,BK]),tT⟩,s,o,f⟩
 obtain ⟨s,o,f⟩:=hR
 refine D4 (α:=Unit) (λt=>[(2,.pointer (some ⟨u,0,none⟩)),(3,.pointer (some ⟨v,0,none⟩)),(5,.string (bs (tw++tc++tj)))]) (λt w'=>Below w.heap.size w w'/\AF w' u (El a).toArray 41/\AF w' v (El b).toArray 41) ?_ (λt J hR=>?_)
 refine A4<|A0 (.fa CT rfl B5 dD rfl)<|Ag (Ad (Bw _) rfl f rfl)<|A0 (.fa CT rfl B5 dD rfl)<|Ag (Ad (Bw _) rfl o rfl)<|A0 (.neq rfl rfl)<|WL.e<|Ac rfl (λa9=>?_) (λa9=>?_)
 have aB:=JY a9
 refine Ak<|A2 rfl<|A0 (.fa CT rfl B5 dD rfl)<|Ag (Ad (Bw _) rfl f rfl)<|WL.c1 AN rfl rfl ((Ji b.fJoin _ (by have:=hk.j;omega) (by have:=hk.j;omega))) (λbE Q=>?_)
 have aC:=o.bl Q
 have aD:=f.bl Q
 have aE:=DJ s Q
 refine A0 (.cat rfl rfl (by first | omega | (simp only [A5,A8,Ae];omega)))<|A0 (.cat rfl rfl (by first | omega | (simp only [A5,A8,Ae];omega)))<|A9 rfl ?_
 exact ⟨(),⟨rfl,rfl,OX rfl (by rw [G,Mq aS];simp [De]),tT⟩,aE,aC,aD⟩
 have aB:=JZ a9
 refine W.k ?_
 exact ⟨(),⟨rfl,rfl,OX rfl (by rw [G,NO aS,BK]),tT⟩,s,o,f⟩
 obtain ⟨s,o,f⟩:=hR
 refine D4 (α:=Unit) (λt=>[(2,.pointer (some ⟨u,0,none⟩)),(3,.pointer (some ⟨v,0,none⟩)),(5,.string (bs (tw++tc++tj++tm)))]) (λt w'=>Below w.heap.size w w'/\AF w' u (El a).toArray 41/\AF w' v (El b).toArray 41) ?_ (λt J hR=>?_)
 refine A4<|A0 (.fa CT rfl B5 dD rfl)<|Ag (Ad (Bw _) rfl f rfl)<|A0 (.fa CT rfl B5 dD rfl)<|Ag (Ad (Bw _) rfl o rfl)<|A0 (.neq rfl rfl)<|WL.e<|Ac rfl (λaa=>?_) (λaa=>?_)
 have aF:=JY aa
 refine Ak<|A2 rfl<|A0 (.fa CT rfl B5 dD rfl)<|Ag (Ad (Bw _) rfl f rfl)<|Ct (ps:=_) Dh B5 PG rfl rfl rfl rfl rfl pR rfl (λbG bt A af B bm=>?_)
 have aG:=Bg A o.lt
 have aH:=o.un B aG
 have aI:=Bg A f.lt
 have aJ:=f.un B aI
 have aK:=uB s A B
 have be:=Cq A s.size
 have hq:=AS.lit (V:=DW) (l:=[b.fMiter]) af (rfl)
 refine WL.c1 AN rfl rfl ((HO _ [b.fMiter] _ _ hq oE (y hk.m.1))) (λbH T=>?_)
 have aL:=aH.bl T
 have aM:=aJ.bl T
 have aN:=DJ aK T
 refine A0 (.cat rfl rfl (by first | omega | (simp only [A5,A8,Ae];omega)))<|A0 (.cat rfl rfl (by first | omega | (simp only [A5,A8,Ae];omega)))<|A9 rfl ?_
 exact ⟨(),⟨rfl,rfl,OX rfl (by rw [H,Mq aS];simp [D3]),tT⟩,aN,aL,aM⟩
 have aF:=JZ aa
 refine W.k ?_
 exact ⟨(),⟨rfl,rfl,OX rfl (by rw [H,NO aS,BK]),tT⟩,s,o,f⟩
 obtain ⟨s,o,f⟩:=hR
 refine D4 (α:=Unit) (λt=>[(2,.pointer (some ⟨u,0,none⟩)),(3,.pointer (some ⟨v,0,none⟩)),(5,.string (bs (ML a b)))]) (λt w'=>Below w.heap.size w w'/\AF w' u (El a).toArray 41/\AF w' v (El b).toArray 41) ?_ (λt J hR=>?_)
 refine D4 (α:=Unit) (λt=>[(2,.pointer (some ⟨u,0,none⟩)),(3,.pointer (some ⟨v,0,none⟩)),(5,.string (bs (tw++tc++tj++tm))),(65,.bool (decide (b.fPhase≠a.fPhase\/b.fDash≠a.fDash)))]) (λt w'=>Below w.heap.size w w'/\AF w' u (El a).toArray 41/\AF w' v (El b).toArray 41) ?_ (λt J hR=>?_)
 refine Ak<|A0 (.fa CT rfl B5 dD rfl)<|Ag (Ad (Bw _) rfl f rfl)<|A0 (.fa CT rfl B5 dD rfl)<|Ag (Ad (Bw _) rfl o rfl)<|A0 (.neq rfl rfl)<|A2 rfl<|B1 rfl rfl rfl (λg=>?_) (λg=>?_)
 have aO:=JZ g
 refine A0 (.fa CT rfl Hu dD rfl)<|As g<|Ag (Ad (KH _) rfl f rfl)<|As g<|A0 (.fa CT rfl Hu dD rfl)<|As g<|Ag (Ad (KH _) rfl o rfl)<|As g<|WL.c1 AN rfl rfl ((V5 b.pfDash a.pfDash b.fDash a.fDash b.cfDash a.cfDash _ (hb.below s (λh0=>hb.lt h0)) (ha.below s (λh0=>ha.lt h0)) oO)) (λbI U=>?_)
 have aP:=o.bl U
 have aQ:=f.bl U
 have aR:=DJ s U
 refine As g<|A0 (.not rfl)<|A0 (.pkF rfl g rfl)<|WL.e<|?_
 exact ⟨(),⟨rfl,rfl,rfl,Cy rfl (by by_cases hd:b.fDash=a.fDash <;> simp_all),tT⟩,aR,aP,aQ⟩
 have aO:=JY g
 refine Aa g<|Aa g<|Aa g<|Aa g<|Aa g<|A0 (.pkT rfl g rfl)<|WL.e<|?_
 exact ⟨(),⟨rfl,rfl,rfl,Cy rfl (Aj (.inl aS)).symm,tT⟩,s,o,f⟩
 obtain ⟨s,o,f⟩:=hR
 refine Ac rfl (λab=>?_) (λab=>?_)
 have aT:=dT ab
 refine A4<|A2 rfl<|A0 (.cat rfl rfl (by first | omega | (simp only [A5,A8,Ae];omega)))<|A9 rfl<|Ah<|A4<|A9 rfl<|W.b<|Cj (α:=Nat) (λt=>[(2,.pointer (some ⟨u,0,none⟩)),(3,.pointer (some ⟨v,0,none⟩)),(5,.string (bs (tw++tc++tj++tm++[91]++(Em (b.fDash.take t)).drop 1))),(6,.int .i64 (t:Int))]) (λt w'=>Below w.heap.size w w'/\AF w' u (El a).toArray 41/\AF w' v (El b).toArray 41/\t<=b.fDash.length) (λt=>b.fDash.length-t) (0) ⟨rfl,rfl,OX rfl (by simp [Em]),rfl,tT⟩ (⟨s,o,f,Gg _⟩) (λt J hR=>?_)
 obtain ⟨i,rfl⟩:∃ i,i=t:=⟨t,rfl⟩
 obtain ⟨q1,q2,q3,q4⟩:=hR
 have bJ:=hb.below q1 (λh0=>hb.lt h0)
 have bf:=hb.lt
 have l0:=L9 (b.fDash.take i) (λn hn=>(hk.d n (Dv hn)).1)
 rw [AT] at l0
 have l1:((Em (b.fDash.take i)).drop 1).length<=61 * 11:=by rw [B4];omega
 refine Ah<|A4<|A2 rfl<|A0 (.fa CT rfl Hu dD rfl)<|Ag (Ad (KH _) rfl q3 rfl)<|A0 (.lenS Dh rfl)<|A0 (.lss rfl rfl)<|WL.e<|Ac rfl (λac=>?_) (λac=>?_)
 have aU:=dT ac
 have a3:i<b.fDash.length:=by first | omega | (simp only at *;omega)
 have al:=(hk.d _ (AJ a3)).1
 have bK:=Kt _ al
 refine W.k<|Ah<|W.b<|D4 (α:=Unit) (λt=>[(2,.pointer (some ⟨u,0,none⟩)),(3,.pointer (some ⟨v,0,none⟩)),(5,.string (bs (tw++tc++tj++tm++[91]++((Em (b.fDash.take i)).drop 1++(if i=0 then [] else [32]))))),(6,.int .i64 (i:Int))]) (λt w'=>Below w.heap.size w w'/\AF w' u (El a).toArray 41/\AF w' v (El b).toArray 41) ?_ (λt J hR=>?_)
 refine A4<|A2 rfl<|A0 (.gtr rfl rfl)<|WL.e<|Ac rfl (λad=>?_) (λad=>?_)
 have aV:=dT ad
 refine Ak<|A2 rfl<|A0 (.cat rfl rfl (by first | omega | (simp only [A5,A8,Ae];omega)))<|A9 rfl ?_
 exact ⟨(),⟨rfl,rfl,OX rfl (by rw [A1 oO];simp only [AE]),rfl,tT⟩,q1,q2,q3⟩
 have aV:=dF ad
 refine W.k ?_
 exact ⟨(),⟨rfl,rfl,OX rfl (by rw [A6 oO,BK]),rfl,tT⟩,q1,q2,q3⟩
 obtain ⟨k1,k2,k3⟩:=hR
 have ae:=hb.below k1 bf
 have l2:(if i=0 then ([]:l8_) else [32]).length<=1:=by split <;> simp
 refine Ak<|A2 rfl<|A0 (.fa CT rfl Hu dD rfl)<|Ag (Ad (KH _) rfl k3 rfl)<|A2 rfl<|A0 (.ixb Dh B5 rfl rfl (ae.isp oD) (i) (rfl) oO)<|Ag (AO (Bw _) rfl (ae.cells (i) oO))<|WL.c1 AN rfl rfl ((by have q:=SQ b.fDash[i] J;rw [OU al] at q;exact q)) (λbM X=>?_)
 have aW:=k2.bl X
 have aX:=k3.bl X
 have aY:=DJ k1 X
 refine A0 (.sis (tw++tc++tj++tm++[91]++(Em (b.fDash.take (i+1))).drop 1) (.cat rfl rfl (by first | omega | (simp only [A5,A8,Ae];omega))) (by rw [A0A a3];simp only [AE]))<|A9 rfl<|Ak<|A2 rfl<|A0 (.iis (((i+1:Nat):Int)) (.add rfl rfl (Bp oO)) oO)<|A9 rfl ?_
 exact ⟨i+1,⟨rfl,rfl,rfl,rfl,tT⟩,⟨aY,aW,aX,by ((try simp only) <;> omega)⟩,by ((try simp only) <;> omega)⟩
 have aU:=dF ac
 have a3:i=b.fDash.length:=by first | omega | (simp only at *;omega)
 have bg:b.fDash.take i=b.fDash:=by rw [a3,Cs]
 refine C0<|Ak<|A2 rfl<|A0 (.cat rfl rfl (by first | omega | (simp only [A5,A8,Ae];omega)))<|A0 (.fa CT rfl B5 dD rfl)<|Ag (Ad (Bw _) rfl q3 rfl)<|Ct (ps:=_) Dh B5 PG rfl rfl rfl rfl rfl pR rfl (λbN bu C ag D bn=>?_)
 have aZ:=Bg C q2.lt
 have a':=q2.un D aZ
 have b0:=Bg C q3.lt
 have b2:=q3.un D b0
 have b4:=uB q1 C D
 have bh:=Cq C q1.size
 have hq:=AS.lit (V:=DW) (l:=[b.fPhase]) ag (rfl)
 refine WL.c1 AN rfl rfl ((HO _ [b.fPhase] _ _ hq oE (y hk.ph.1))) (λbO a0=>?_)
 have b5:=a'.bl a0
 have b6:=b2.bl a0
 have b7:=DJ b4 a0
 refine A0 (.cat rfl rfl (by first | omega | (simp only [A5,A8,Ae];omega)))<|A0 (.cat rfl rfl (by first | omega | (simp only [A5,A8,Ae];omega)))<|A9 rfl ?_
 exact ⟨(),⟨rfl,rfl,OX rfl (by rw [bg,<- A47 E F G H aS];simp [Ef,D3]),tT⟩,b7,b5,b6⟩
 have aT:=dF ab
 refine W.k ?_
 exact ⟨(),⟨rfl,rfl,OX rfl (by rw [<- A68 E F G H aS]),tT⟩,s,o,f⟩
 obtain ⟨s,o,f⟩:=hR
 refine A4<|A2 rfl<|A9 rfl<|Ai (AZ rfl rfl ?_)
 exact ⟨rfl,s⟩
end
section
open Go.ChangeShapes Go.WideShapes Go.ChangeAt Go.RowKit
structure AC where
 kind:Int
 n:Int
 text:l8_
 kp:Option Addr
 kl:Nat
 kc:Nat
 lp:Option Addr
 ll:Nat
 lc:Nat
 dp:Option Addr
 dl:Nat
 dc:Nat
def acV (x:AC):List Value:=[.int .i64 x.kind,.int .i64 x.n,.string (bs x.text),.slice x.kp x.kl x.kc,.slice x.lp x.ll x.lc,.slice x.dp x.dl x.dc]
def acL:Fe AC:=⟨6,acV,by decide,λ_=>rfl,λx u hu=>Au.1 (show (acV x).all Value.oneCell'=true from rfl) u hu⟩
structure A8S (x:AC) (nk nl nd:Nat):Prop where
 n:-9223372036854775808<=x.n/\x.n<=9223372036854775807
 text:x.text.length<=9223372036854775807
 kl:x.kl=nk
 ll:x.ll=nl
 dl:x.dl=nd
 kc:nk<=x.kc
 lc:nl<=x.lc
 dc:nd<=x.dc
 km:x.kc<=9223372036854775807
 lm:x.lc<=9223372036854775807
 dm:x.dc<=9223372036854775807
inductive A76 (w:World) (S:Nat->Prop):AC->AV->Prop
 | mk (x:AC) (keys:List (l8_)) (list:List AV) (data:l8_) (cs:List AC) (ok:A8S x keys.length cs.length data.length) (hkl:∀ k∈keys,k.length<=9223372036854775807)
   (hk:AS UO w x.kp keys) (hks:0<keys.length->S (pA x.kp).block) (hr:Be acL w x.lp cs) (hrs:0<cs.length->S (pA x.lp).block)
   (hd:Av w x.dp data) (hds:0<data.length->S (pA x.dp).block) (hlen:cs.length=list.length)
   (hsub:∀ i (h:i<cs.length) (h2:i<list.length),A76 w S cs[i] list[i]):A76 w S x (.mk x.kind x.n x.text keys list data)
structure A9n (w:World) (S:Nat->Prop) (cs:List AC) (acc:List AV):Prop where
 len:cs.length=acc.length
 sub:∀ i (h:i<cs.length) (h2:i<acc.length),A76 w S cs[i] acc[i]
end
section
def A9i (D:Int) (st:Bool) (k n:Int) (t:l8_) (ks:List (l8_)) (m:Nat) (d:l8_):Prop :=
 (k=6/\1<=D/\n=0/\t=[]/\ks=[]/\d=[]) \/
 (((k=7/\d=[])\/(k=9/\st=true/\d.length<=1048576/\[76,101,110,103,116,104] ∉ ks))/\1<=D/\n=0/\t=[]/\ks.length=m/\(∀ x∈ks,A06 x)/\ks.Nodup)
end
section
theorem flat_take {f:UInt8->l8_} (h:i<s.length):(s.take (i+1)).flatMap f=(s.take i).flatMap f++f s[i]:=by
 rw [B7 h,List.flatMap_append];simp
theorem Sk {f:UInt8->l8_} {k:Nat} (hf:∀ c,(f c).length<=k) (s:l8_) (i:Nat):((s.take i).flatMap f).length<=k * s.length:=by
 have a:=flat_len hf (s.take i)
 have b:(s.take i).length<=s.length:=by rw [AT];omega
 exact AW a (Nat.mul_le_mul_left _ b)
theorem A5Q (c:UInt8):Wu c=if (decide ((c.toNat:Int)=40) || decide ((c.toNat:Int)=41) || decide ((c.toNat:Int)=92))=true then [92,c] else if (decide ((c.toNat:Int)<32) || decide ((c.toNat:Int) > 126))=true then OR c else [c]:=by
 have key:∀ c:UInt8,Wu c=if (decide ((c.toNat:Int)=40) || decide ((c.toNat:Int)=41) || decide ((c.toNat:Int)=92))=true then [92,c] else if (decide ((c.toNat:Int)<32) || decide ((c.toNat:Int) > 126))=true then OR c else [c] :=
  RK (q:=λc=>Wu c=if (decide ((c.toNat:Int)=40) || decide ((c.toNat:Int)=41) || decide ((c.toNat:Int)=92))=true then [92,c] else if (decide ((c.toNat:Int)<32) || decide ((c.toNat:Int) > 126))=true then OR c else [c]) (by decide +kernel)
 exact key c
theorem Xx (x:UInt8):#[Value.int .u8 92,.int .u8 (48+(x.toNat:Int) / 64),.int .u8 (48+(x.toNat:Int) / 8 % 8),.int .u8 (48+(x.toNat:Int) % 8)]=(AI (OR x)).toArray:=by
 have hc:=Ce x
 have a:((ch (48+(x.toNat:Int) / 64)).toNat:Int)=48+(x.toNat:Int) / 64:=JD _ oO oO
 have b:((ch (48+(x.toNat:Int) / 8 % 8)).toNat:Int)=48+(x.toNat:Int) / 8 % 8:=JD _ oO oO
 have c:((ch (48+(x.toNat:Int) % 8)).toNat:Int)=48+(x.toNat:Int) % 8:=JD _ oO oO
 simp [AI,OR,a,b,c]
theorem SU (s:l8_) (w:World) (hs:s.length<=1000000) :
  Calls Tryz.prog 30 #[.string (bs s)] w λe w'=>e=.returned (.string (bs (PI s)))/\Below w.heap.size w w':=by
 refine W.e func30 rfl ntmps30 bL ?_
 have aa:=EM (w.heap.size) w
 refine A4<|A9 rfl<|A4<|Ct (ps:=_) Bu I7 PE rfl rfl rfl rfl rfl pR rfl (λb1 aF ab ah ai aZ=>?_)
 have aG:=uB aa ab ai
 have a:=Cq ab aa.size
 have aH:=Cc.lit (m:=1) ah rfl (by unfold maxLen;omega)
 have aj:b1<=aF.heap.size:=by omega
 have ak:Cc _ _ _ _ (AI [40]):=aH
 refine A9 rfl<|Ah<|A4<|A9 rfl<|W.b<|Cj (α:=Value × Nat) (λt=>[(0,.string (bs s)),(3,t.1),(4,.int .i64 (t.2:Int))]) (λt w'=>Below w.heap.size w w'/\Cc 5 b1 w' t.1 (AI (40::(s.take t.2).flatMap Wu))/\t.2<=s.length/\b1<=w'.heap.size) (λt=>s.length-t.2) ((_,0)) ⟨rfl,rfl,rfl,tT⟩ (⟨aG,ak,Gg _,aj⟩) (λt w1 hR=>?_)
 obtain ⟨v,i⟩:=t
 obtain ⟨hT,c,hi,d⟩:=hR
 simp only at c hi ⊢
 have b4:=Sk Yf s i
 refine Ah<|A4<|A2 rfl<|A2 rfl<|A0 (.len Ju rfl)<|A0 (.lss rfl rfl)<|WL.e<|Ac rfl (λh5=>?_) (λh5=>?_)
 have aI:=dT h5
 refine W.k<|Ah<|W.b<|Ah ?_
 have L:=flat_take (f:=Wu) (show i<s.length by omega)
 have B:=A5Q (s[i]'oO)
 obtain ⟨P,ac⟩:∃ b,b=decide (((s[i]'oO).toNat:Int)=40):=⟨_,rfl⟩
 obtain ⟨Q,ad⟩:∃ b,b=decide (((s[i]'oO).toNat:Int)=41):=⟨_,rfl⟩
 obtain ⟨T,ae⟩:∃ b,b=decide (((s[i]'oO).toNat:Int)=92):=⟨_,rfl⟩
 obtain ⟨n4,af⟩:∃ b,b=decide (((s[i]'oO).toNat:Int)<32):=⟨_,rfl⟩
 obtain ⟨n5,ag⟩:∃ b,b=decide (((s[i]'oO).toNat:Int) > 126):=⟨_,rfl⟩
 rw [<- ac,<- ad,<- ae,<- af,<- ag] at B
 have b5:=Ce (s[i]'oO)
 refine Ak<|A2 rfl<|A2 rfl<|A0 (.ix Ju rfl rfl (i) (rfl) oO)<|A9 rfl<|W.b<|Fd 20 ((P || Q || T)) ?_ ?_
 refine Ak<|A2 rfl<|A0 (.bis (P) (.eql rfl rfl) (by exact ac.symm))<|A2 rfl<|B1 rfl rfl rfl (λU=>?_) (λU=>?_)
 refine A2 rfl<|As U<|A0 (.bis (Q) (.eql rfl rfl) (by exact ad.symm))<|A0 (.pkF rfl U rfl)<|A2 rfl<|B1 rfl rfl rfl (λV=>?_) (λV=>?_)
 refine A2 rfl<|As V<|A0 (.bis (T) (.eql rfl rfl) (by exact ae.symm))<|A0 (.pkF rfl V rfl)<|A9 rfl ?_
 exact ⟨G8 (Cy rfl (by cases P <;> cases Q <;> cases T <;> first | rfl | contradiction)),rfl⟩
 refine Aa V<|A0 (.pkT rfl V rfl)<|A9 rfl ?_
 exact ⟨G8 (Cy rfl (by cases P <;> cases Q <;> cases T <;> first | rfl | contradiction)),rfl⟩
 refine Aa U<|A0 (.pkT rfl U rfl)<|A2 rfl<|Aa rfl<|Aa rfl<|A0 (.pkT rfl rfl rfl)<|A9 rfl ?_
 exact ⟨G8 (Cy rfl (by cases P <;> cases Q <;> cases T <;> first | rfl | contradiction)),rfl⟩
 refine Ac rfl (λh8=>?_) (λh8=>?_)
 refine Ak<|A2 rfl<|A2 rfl<|Ct (ps:=_) Bu I7 PE rfl rfl rfl rfl rfl pR rfl (λb9 b6 X al u a'=>?_)
 have C:=AW d u.size
 have am:=Cc.new c X u
 have an:=uB hT X u
 have aP:=Cq X hT.size
 have aJ:=Av.lit (l:=[92,s[i]'oO]) al (rfl)
 refine Qd Bu Gr rfl rfl rfl am rfl aJ (by simp only [B3,A8,Ae,OR];omega) (C) rfl (λh=>nomatch h) (λb7 b8 a0 D aQ=>?_)
 have ao:=EZ an (D.mono (a))
 have ap:=Cc.cat a0
 have a1:=AW C D.size
 refine A9 rfl<|Ak<|A2 rfl<|A0 (.iis (((i+1:Nat):Int)) (.add rfl rfl (Bp oO)) oO)<|A9 rfl ?_
 exact ⟨(_,i+1),⟨rfl,rfl,rfl,tT⟩,⟨ao,by rw [L,B,A6 aS];exact ap,by ((try simp only) <;> omega),a1⟩,by ((try simp only) <;> omega)⟩
 refine Fd 35 ((n4 || n5)) ?_ ?_
 refine Ak<|A2 rfl<|A0 (.bis (n4) (.lss rfl rfl) (by exact af.symm))<|A2 rfl<|B1 rfl rfl rfl (λq=>?_) (λq=>?_)
 refine A2 rfl<|As q<|A0 (.bis (n5) (.gtr rfl rfl) (by exact ag.symm))<|A0 (.pkF rfl q rfl)<|A9 rfl ?_
 exact ⟨G8 (Cy rfl (by cases n4 <;> cases n5 <;> first | rfl | contradiction)),rfl⟩
 refine Aa q<|A0 (.pkT rfl q rfl)<|A9 rfl ?_
 exact ⟨G8 (Cy rfl (by cases n4 <;> cases n5 <;> first | rfl | contradiction)),rfl⟩
 refine Ac rfl (λaK=>?_) (λaK=>?_)
 refine Ak<|A2 rfl<|A2 rfl<|A0 (.quo rfl rfl oO (u8q oO oO oO))<|A0 (.iis (48+((s[i]'oO).toNat:Int) / 64) (.add rfl rfl (TJ oO)) oO)<|A2 rfl<|A0 (.quo rfl rfl oO (u8q oO oO oO))<|A0 (.rem rfl rfl oO (Int.tmod_eq_emod_of_nonneg oO))<|A0 (.iis (48+((s[i]'oO).toNat:Int) / 8 % 8) (.add rfl rfl (TJ oO)) oO)<|A2 rfl<|A0 (.rem rfl rfl oO (Int.tmod_eq_emod_of_nonneg oO))<|A0 (.iis (48+((s[i]'oO).toNat:Int) % 8) (.add rfl rfl (TJ oO)) oO)<|Ct (ps:=_) Bu I7 PE rfl rfl rfl rfl rfl pR rfl (λba b0 x a2 g aR=>?_)
 have E:=AW d g.size
 have aq:=Cc.new c x g
 have ar:=uB hT x g
 have aL:=Cq x hT.size
 have aM:=Av.lit (l:=OR (s[i]'oO)) a2 (Xx _)
 refine Qd Bu Gr rfl rfl rfl aq rfl aM (by simp only [B3,A8,Ae,OR];omega) (E) rfl (λh=>by unfold OR at h;cases h) (λbb bc a3 F aT=>?_)
 have au:=EZ ar (F.mono (a))
 have av:=Cc.cat a3
 have a4:=AW E F.size
 refine A9 rfl<|Ak<|A2 rfl<|A0 (.iis (((i+1:Nat):Int)) (.add rfl rfl (Bp oO)) oO)<|A9 rfl ?_
 exact ⟨(_,i+1),⟨rfl,rfl,rfl,tT⟩,⟨au,by rw [L,B,A1 (bF aS),A6 aS];exact av,by ((try simp only) <;> omega),a4⟩,by ((try simp only) <;> omega)⟩
 refine Ak<|A2 rfl<|A2 rfl<|Ct (ps:=_) Bu I7 PE rfl rfl rfl rfl rfl pR rfl (λbd b2 y a5 j aU=>?_)
 have G:=AW d j.size
 have aw:=Cc.new c y j
 have ax:=uB hT y j
 have aN:=Cq y hT.size
 refine ED Bu Gr rfl rfl rfl aw rfl a5 rfl (by simp only [B3,A8,Ae,OR];omega) (G) rfl (λbe bf a6 H aV=>?_)
 have ay:=EZ ax (H.mono (a))
 have az:=Eo a6 (s[i]'oO) (rfl)
 have a7:=AW G H.size
 refine A9 rfl<|Ak<|A2 rfl<|A0 (.iis (((i+1:Nat):Int)) (.add rfl rfl (Bp oO)) oO)<|A9 rfl ?_
 exact ⟨(_,i+1),⟨rfl,rfl,rfl,tT⟩,⟨ay,by rw [L,B,A1 (bF aS),A1 (bF aS)];exact az,by ((try simp only) <;> omega),a7⟩,by ((try simp only) <;> omega)⟩
 have aI:=dF h5
 refine C0<|Ah ?_
 have aA:s.take i=s:=AR oO
 refine Ak<|A2 rfl<|Ct (ps:=_) Bu I7 PE rfl rfl rfl rfl rfl pR rfl (λbg b3 A a8 o aW=>?_)
 have J:=AW d o.size
 have aB:=Cc.new c A o
 have aC:=uB hT A o
 have aO:=Cq A hT.size
 refine ED Bu Gr rfl rfl rfl aB rfl a8 rfl (by simp only [B3,A8,Ae,OR];omega) (J) rfl (λbh bi a9 K aX=>?_)
 have aD:=EZ aC (K.mono (a))
 have aE:=Eo a9 (41) (rfl)
 have aY:=AW J K.size
 obtain ⟨pq,cq,eq,hq,bj,bk,bl⟩:=Lj (l:=(40::(s.take i).flatMap Wu++[41])) aE
 subst eq
 refine Ag (Mc (l:=(40::(s.take i).flatMap Wu++[41])) Bu Lk Ju rfl (hq))<|A9 rfl<|Ai (AZ rfl rfl ?_)
 exact ⟨Ci (by rw [aA];rfl),aD⟩
end
section
def A9j (e:TypeId) (B:Nat) (w:World) (p:Option Addr) (n c:Nat) (l:l8_):Prop :=
 n=l.length/\(Cc e B w (.slice p n c) (AI l)\/(c=n/\0<n/\Av w p l/\B<=(pA p).block))
section
variable {P:Program} {n:Sh} {f:Fr}
theorem A6V  {L:Fe α} {Q:Exit->Fr->World->Prop} {rest:List Oper} {ty:Nat} {t:TypeId} {nn:Nat} {l:List α} (o:α) (k:Nat)
  (hs:∀ w,(sizeOf t).run P w=.ok 1 w) (hL:L.m=1) (hown:AD L e B w (.slice p nn c) l) (hk:k<l.length) (hx:D0 f x=some (.pointer (some ((pA p).add k)))) (hy:D0 f y=some v) (hv:L.V o=[v]) (h1:v.oneCell'=true)
  (kk:∀ w1 g,p=some ⟨g,0,none⟩->BF g w w1->AD L e B w1 (.slice p nn c) (l.set k o)->WL P n ops Q rest f w1) :
  WL P n ops Q (⟨none,.store t x y,ty,pos,aft,none⟩::rest) f w :=
 A6U o k 0 hown hk oO hs (by rw [hx,hL,Nat.mul_one,EU]) hy h1 (by
  have hl:=L.len l[k]
  rw [hL] at hl
  obtain ⟨a,ha⟩:=List.length_eq_one_iff.1 hl
  rw [hv,ha];rfl) kk
end
end
section
theorem AM  {t:TypeId} {b:Nat} {cs:Array Value} (h:Cc e B w v xs) (hb:AF w b cs t) (he:e≠t):∀ g,v.ownBlock=some g->g≠b:=λg hg hgb=>by
 obtain ⟨hl,h⟩:=h
 rcases h with ⟨rfl,-⟩ | ⟨g1,cap,cur,rfl,-,h1,-⟩
 · cases hg
 ·
  cases hg
  have hgb:g1=b:=hgb
  rw [hgb,show w.heap[b]?=_ from hb] at h1
  simp only [Bm,Obj.cells.injEq] at h1
  exact he h1.2.1.symm
theorem BX  {L:Fe α} {e':TypeId} {B':Nat} {l:List α} (h:Cc e B w v xs) (h':AD L e' B' w v' l) (he:e≠e'):∀ g,v.ownBlock=some g->v'.ownBlock≠some g:=λg hg hg'=>by
 obtain ⟨hl,h⟩:=h
 rcases h with ⟨rfl,-⟩ | ⟨g1,cap,cur,rfl,-,h1,-⟩
 · cases hg
 ·
  rcases h' with ⟨rfl,-⟩ | ⟨g2,cap',cur',rfl,-,h2,-⟩
  · cases hg'
  ·
   cases hg;cases hg'
   rw [h1] at h2
   simp only [Bm,Obj.cells.injEq] at h2
   exact he h2.2.1
theorem Y8  {L:Fe α} {C:Nat} {l:List α} (h:AD L e B w v l) (hC:C<=B):AD L e C w v l :=
 h.imp id λ⟨g,cap,cur,h1,h2,h3⟩=>⟨g,cap,cur,h1,AW hC h2,h3⟩
def Je:Fe Bool:=⟨1,λb=>[.bool b],by decide,λ_=>rfl,λx u hu=>by simp only [Am] at hu;subst hu;rfl⟩
theorem A8D:(Tryz.prog.info? 4).map (λi=>(i.zero,i.size,i.bytes))=some (some (.bool false),1,1):=by kernel_rfl
def I0:PD->List AQ->l8_ × PD
 | st,[]=>([],st)
 | st,x::r=>(O5 st x++(I0 (Pb st x) r).1,(I0 (Pb st x) r).2)
theorem RF (x:AQ):∀ (xs:List AQ) (st:PD),I0 st (xs++[x])=((I0 st xs).1++O5 (I0 st xs).2 x,Pb (I0 st xs).2 x)
 | [],st=>by simp [I0]
 | y::xs,st=>by
  have:=RF x xs (Pb st y)
  simp only [GR,I0,this,AE]
theorem YX:∀ (xs:List AQ) (st:PD),FP st xs=(I0 st xs).1++(if (I0 st xs).2.clips.isEmpty then [] else [81,10])
 | [],st=>by simp [FP,I0]
 | x::xs,st=>by
  rw [show FP st (x::xs)=O5 st x++FP (Pb st x) xs from rfl,YX xs (Pb st x),<- AE]
  rfl
theorem LK (s:l8_):(PI s).length<=4 * s.length+2:=by
 have:=flat_len Yf s
 unfold PI
 simp only [A8,A5,Ae];omega
theorem A0F {c:Bv} (h:G5 c=true):(GF c).length<=1638405:=by
 unfold G5 Fk at h
 rw [A3,A3,Ab] at h
 have:=Kx c.fPath 0 h.2.2
 unfold GF
 rw [A5]
 split <;> simp only [A8,Ae] <;> omega
theorem RG:∀ l:List Bv,(∀ c∈l,G5 c=true)->(l.flatMap GF).length<=1638405 * l.length
 | [],_=>by simp
 | c::l,h=>by
  have h1:=A0F (h c (by simp))
  have h2:=RG l λd hd=>h d (by simp [hd])
  simp only [CR,A5,A8];omega
theorem Og (big:Bool) {c:C6} (h:Sw c):(Oh big c).length<=2000:=by
 have a:=CI _ (Iq h).1
 have b:=(Iq h).2
 have d:(KK big c.fSpace).length<=2:=by unfold KK;cases big <;> (split;decide;split <;> decide)
 unfold Oh D3
 simp only [A5,A8,Ae];omega
theorem Vl {a b:Dz} (hk:LC b):(ML a b).length<=2000:=by
 have e:∀ {n:Int},Ao n=true->∀ m∈[n],Ao m=true:=λh m hm=>by rw [Am.1 hm];exact h
 have f:=CI [b.fWidth] (e hk.w.1)
 have g:=CI [b.fMiter] (e hk.m.1)
 have i:=CI [b.fPhase] (e hk.ph.1)
 have k:=Oc hk.c
 have l:=Oc hk.j
 have o:=L9 b.fDash (λn hn=>(hk.d n hn).1)
 have q:=hk.dl
 rw [CD] at f g i
 have lw:(D7 a.fWidth b.fWidth (λn=>D3 [n] [119])).length<=63:=by unfold D7 D3;split <;> simp <;> omega
 have lc:(D7 a.fCap b.fCap (λn=>De n [74])).length<=4:=by unfold D7 De;split <;> simp <;> omega
 have lj:(D7 a.fJoin b.fJoin (λn=>De n [106])).length<=4:=by unfold D7 De;split <;> simp <;> omega
 have lm:(D7 a.fMiter b.fMiter (λn=>D3 [n] [77])).length<=63:=by unfold D7 D3;split <;> simp <;> omega
 have ld:(Ef b).length<=800:=by unfold Ef D3;simp;omega
 unfold ML
 simp only [A5]
 split
 · omega
 · simp only [Ae];omega
theorem A6q {so:RW} {x:AQ} (hx:K7 x):(kW so x).length<=4000:=by
 unfold kW
 split
 ·
  rename_i hk
  have b:=Vl (a:=so.pen) ((hx.pnt oO).pen hk)
  rw [A5]
  split
  · have:=Og true hx.col;omega
  · simp only [Ae];omega
 ·
  split
  · have:=Og false hx.col;omega
  · simp
theorem SI {x:AQ} (hx:A3o x):(JR x).length<=300000:=by
 have a:=CI (E8 x) hx.mat
 have b:=LK x.fBytes
 have c:=hx.bytes.2
 have d:(E8 x).length=6:=rfl
 have e:=Fm x.fFont (by have:=hx.font;omega) (by have:=hx.font;omega)
 unfold JR D3
 simp only [A5,A8,Ae];omega
structure StK (w:World) (st:PD) (pc:Option Addr) (cc:Nat):Prop where
 row:Be Gk w pc st.clips
 ok:∀ c∈st.clips,GX w c
 len:st.clips.length<=16
 sl:KM pc st.clips cc
 pen:AS DW w st.so.pen.pfDash st.so.pen.fDash
 dl:st.so.pen.fDash.length<=11
 penO:AS DW w st.outer.pen.pfDash st.outer.pen.fDash
 dlO:st.outer.pen.fDash.length<=11
theorem A8i (w:World):StK w Hw none 0:=⟨Be.nil w,λc hc=>(by cases hc),Gg _,KM.z,AS.none,Gg _,AS.none,Gg _⟩
theorem A8h  {st:PD} {pc:Option Addr} {cc:Nat} {x:AQ} (h:StK w st pc cc) (hx:I3 w x) (hk:K7 x):StK w (Pb st x) x.pfClips x.cfClips:=by
 have a:AS DW w (GP st x).pen.pfDash (GP st x).pen.fDash/\(GP st x).pen.fDash.length<=11:=by
  unfold GP;split
  · exact ⟨h.penO,h.dlO⟩
  · exact ⟨h.pen,h.dl⟩
 refine ⟨hx.row_fClips,hx.all_fClips,hk.cl,hx.sl_fClips,?_,?_,?_,?_⟩
 ·
  show AS DW w (TN (GP st x) x).pen.pfDash (TN (GP st x) x).pen.fDash
  unfold TN;split
  · exact hx.ok_fPen.row_fDash
  · exact a.1
 ·
  show (TN (GP st x) x).pen.fDash.length<=11
  unfold TN;split
  · rename_i hk3;exact ((hk.pnt oO).pen hk3).dl
  · exact a.2
 ·
  show AS DW w (if gB st x then GP st x else st.outer).pen.pfDash (if gB st x then GP st x else st.outer).pen.fDash
  split
  · exact a.1
  · exact h.penO
 ·
  show (if gB st x then GP st x else st.outer).pen.fDash.length<=11
  split
  · exact a.2
  · exact h.dlO
def soS (s:RW) (c:C6):RW:=⟨s.fill,c,s.pen⟩
def soP (s:RW) (p:Dz):RW:=⟨s.fill,s.stroke,p⟩
def soF (s:RW) (c:C6):RW:=⟨c,s.stroke,s.pen⟩
theorem A7h (s:RW) {x:AQ} (h:x.fKind=3):TN s x=soP (soS s x.fColor) x.fPen:=A6 h
theorem A5i (s:RW) {x:AQ} (h:¬ x.fKind=3):TN s x=soF s x.fColor:=A1 h
theorem A3U  {st:PD} {pc:Option Addr} {cc:Nat} (h:StK w st pc cc) {x:AQ}:AS DW w (GP st x).pen.pfDash (GP st x).pen.fDash/\(GP st x).pen.fDash.length<=11:=by
 unfold GP;split
 · exact ⟨h.penO,h.dlO⟩
 · exact ⟨h.pen,h.dl⟩
theorem XG {x:AQ} (hx:K7 x):x.fPath.length<=4096/\E4 0 x.fPath=true:=by
 by_cases hk:x.fKind=4
 · rw [(hx.txt hk).path];exact ⟨Gg _,rfl⟩
 · exact ⟨(hx.pnt hk).len,(hx.pnt hk).segs⟩
theorem Jt  {b:Nat} {t:TypeId} {x:AQ} (h:AF w b (Rb.V x).toArray t):AS DW w (some ⟨b,0,none⟩) (E8 x):=⟨λ_=>rfl,λj hj=>by
 show w.cell? ((⟨b,0,none⟩:Addr).add j)=_
 have h':j<6:=hj
 rw [EC,h.cell]
 obtain rfl | rfl | rfl | rfl | rfl | rfl:j=0\/j=1\/j=2\/j=3\/j=4\/j=5:=by omega
 all_goals rfl⟩
def A7T (b:Bool):Value:=.bool b
theorem Wn  {l:List Bool} (h:Be Je w p l):AS A7T w p l:=⟨h.isp,λj hj=>by
 have:=h.cells j hj 0 dD
 rw [show j * Je.m+0=j by show j * 1+0=j;omega] at this
 exact this⟩
def K3 (us:List Bool) (k:Nat):List Int:=((List.range k).filter λj=>us.getD j false).map λ(j:Nat)=>(j:Int)
theorem Rr (us:List Bool) (k:Nat):K3 us (k+1)=if us.getD k false=true then K3 us k++[(k:Int)] else K3 us k:=by
 unfold K3
 rw [List.range_succ,List.filter_append,BC]
 by_cases h:us.getD k false=true
 · rw [A6 h,show ([k]:List Nat).filter (λj=>us.getD j false)=[k] by rw [List.filter_cons,A6 h];rfl];rfl
 · rw [A1 h,show ([k]:List Nat).filter (λj=>us.getD j false)=[] by rw [List.filter_cons,A1 h];rfl];simp
theorem A0s (us:List Bool) (k:Nat):(K3 us k).length<=k:=by
 unfold K3
 rw [BD]
 exact AW (List.length_filter_le _ _) (Nat.le_of_eq List.length_range)
theorem A2D {us:List Bool} {k:Nat} {f:Int} (h:f∈K3 us k):0<=f/\f<k:=by
 unfold K3 at h
 obtain ⟨j,hj,rfl⟩:=IE.1 h
 have:=List.mem_range.1 (List.mem_filter.1 hj).1
 omega
theorem A0t {us:List Bool} {k:Nat} {f:Int} (h0:0<=f) (h1:f<k) (h:us.getD f.toNat false=true):f∈K3 us k:=by
 unfold K3
 refine IE.2 ⟨f.toNat,List.mem_filter.2 ⟨List.mem_range.2 oO,h⟩,by omega⟩
theorem A3L {xs:List AQ} {x:AQ} {us:List Bool} {hi:i<xs.length} (hx:x=xs[i]) (hl:us.length=14) (h:∀ j (hj:j<xs.length),j<i->xs[j].fKind=4->us.getD xs[j].fFont.toNat false=true) {j:Nat} (hj:j<xs.length) (hji:j<i+1) (hk:xs[j].fKind=4)
    (hf:x.fKind=4->0<=x.fFont/\x.fFont<=13):(if x.fKind=4 then us.set x.fFont.toNat true else us).getD xs[j].fFont.toNat false=true:=by
  rcases BU j i with a | a
  · have b := h j hj a hk
    split
    · rw [BW, List.getElem?_set]
      split
      · split
        · rfl
        · omega
      · rw [<- BW];exact b
    · exact b
  · obtain rfl : j = i := by omega
    rw [<- hx] at hk ⊢
    have:=hf hk
    rw [A6 hk,BW,List.getElem?_set_self oO]
    rfl
end
section
def A8b (xs:List AQ) (e:Ending) (w':World):Prop :=
 e=.returned (.tuple #[.slice none 0 0,.slice none 0 0,.int .i64 25]) \/
 ∃ (pb:Option Addr) (cb:Nat) (pf:Option Addr) (cf:Nat) (F:List Int),e=.returned (.tuple #[.slice pb (FP Hw xs).length cb,.slice pf F.length cf,.int .i64 0])/\Av w' pb (FP Hw xs)/\(FP Hw xs).length<=cb /\
  AS DW w' pf F/\F.length<=14/\(∀ f∈F,0<=f/\f<=13)/\(∀ x∈xs,x.fKind=4->x.fFont∈F)
theorem A2c (st:PD) (x:AQ):(nC st x:Int)=if qB st x then 0 else (st.clips.length:Int):=by unfold nC;split <;> rfl
theorem V9 (pg:KN) (w:World) (hp:Md w pg) (hs:∀ x∈pg.fItems,Et x=true) (hl:pg.fItems.length<=4096) :
    Calls Tryz.prog 11 #[.agg (IP pg).toArray] w λe w'=>A8b pg.fItems e w'/\Below w.heap.size w w':=by
  have ju:=hp.row_fItems.lt;refine W.e func11 rfl ntmps11 bL ?_;have je:=EM (w.heap.size) w;refine A4<|CU rfl rfl (λb1 mF jf jv jw lO=>?_);have kt:=uB je jf jw;have lx:=Cq jf je.size;refine Dp rfl<|Dp rfl<|A9 rfl<|A4<|A9 rfl<|A4<|WL.c1 AN rfl rfl ((SS _)) (λw3 jg=>?_);have cq:=jv.bl jg;have jh:=DJ kt jg;refine BV zeroValue80 rfl (λb6 mG dX jx dY lP=>?_);have ku:=Bg dX cq.lt;have kv:=cq.un dY ku;have kw:=uB jh dX dY;have ly:=Cq dX jh.size;refine Az rfl rfl jx Ps rfl rfl (λmH fl di lz=>?_);have aG:=kv.up di;have jy:=CN kw oO di;refine WL.e<|A4<|WL.c1 AN rfl rfl ((SS _)) (λmI d3=>?_);have bW:=aG.bl d3;have dZ:=fl.bl d3;have d':=DJ jy d3;refine BV zeroValue80 rfl (λq lQ cu fm cw lA=>?_);have jz:=Bg cu bW.lt;have jA:=bW.un cw jz;have jB:=Bg cu dZ.lt;have jC:=dZ.un cw jB;have jD:=uB d' cu cw;have kx:=Cq cu d'.size;refine Az rfl rfl fm Ps rfl rfl (λky dj cy lB=>?_);have e0:=jA.up cy;have e2:=jC.up cy;have jE:=CN jD oO cy;refine WL.e<|A4<|A9 rfl<|A4<|A6X (L:=Je) (false) (14) underlying82 A8D rfl rfl rfl rfl oO dD rfl (λmJ fn b0=>?_);have jF:=e0.below b0 e0.lt;have jG:=e2.below b0 e2.lt;have d4:=dj.below b0 dj.lt;have jH:=DJ jE b0;have kz:=b0.size;refine Dp rfl<|?_;obtain ⟨D,hb9⟩:∃ b,b=ky.heap.size:=⟨_,rfl⟩;have ji:=Y8 (C:=q+1) fn (d4 |>.lt |> λ_=>by omega);rw [<- hb9] at ji ⊢;have mK:=d4.lt;refine WL.e<|Ah<|A4<|A9 rfl<|W.b<|Cj (α:=Nat × PD × Option Addr × Nat × Value × List Bool) (λt=>[(1,.pointer (some ⟨b1,0,none⟩)),(5,t.2.2.2.2.1),(6,.pointer (some ⟨b6,0,none⟩)),(7,.pointer (some ⟨q,0,none⟩)),(8,.slice t.2.2.1 t.2.1.clips.length t.2.2.2.1),(9,.slice (some ⟨D,0,none⟩) 14 14),(10,.int .i64 (t.1:Int))]) (λt w'=>Below w.heap.size w w'/\AF w' b1 (IP pg).toArray 47/\AF w' b6 (Qq (t.2.1.so)).toArray 80/\AF w' q (Qq (t.2.1.outer)).toArray 80/\Cc 5 (q+1) w' t.2.2.2.2.1 (AI ((I0 Hw (pg.fItems.take t.1)).1))/\AD Je 4 (q+1) w' (.slice (some ⟨D,0,none⟩) 14 14) (t.2.2.2.2.2)/\(I0 Hw (pg.fItems.take t.1)).2=t.2.1/\StK w t.2.1 t.2.2.1 t.2.2.2.1/\t.2.2.2.2.2.length=14/\(∀ j (hj:j<pg.fItems.length),j<t.1->pg.fItems[j].fKind=4->t.2.2.2.2.2.getD pg.fItems[j].fFont.toNat false=true)/\t.1<=pg.fItems.length/\(I0 Hw (pg.fItems.take t.1)).1.length<=1048576) (λt=>pg.fItems.length-t.1) ((0,Hw,none,0,.slice none 0 0,List.replicate 14 false)) ⟨rfl,rfl,rfl,rfl,rfl,rfl,rfl,tT⟩ (⟨jH,jF,jG,d4,Cc.nil _ _ _,ji,rfl,A8i w,rfl,λj hj h=>CM h (Nat.not_lt_zero _),Gg _,Gg _⟩) (λt w1 hR=>?_)
  obtain ⟨⟨i,st,pc,cc,v5,us⟩,kA⟩:∃ u,u=t:=⟨t,rfl⟩;subst kA;obtain ⟨q1,q2,q3,q4,q5,q6,q7,q8,q9,e3,kB,jj⟩:=hR;simp only at q3 q4 q5 q6 q7 q8 q9 e3 kB jj;have b2:=q4.lt;have mL:=q6.lt D rfl;have e4:=hp.row_fItems.below q1 ju;obtain ⟨T0,dk⟩:∃ T,T=(I0 Hw (pg.fItems.take i)).1:=⟨_,rfl⟩;rw [<- dk] at q5 jj
  show W Tryz.prog _ _ _ [(1,.pointer (some ⟨b1,0,none⟩)),(5,v5),(6,.pointer (some ⟨b6,0,none⟩)),(7,.pointer (some ⟨q,0,none⟩)),(8,.slice pc st.clips.length cc),(9,.slice (some ⟨D,0,none⟩) 14 14),(10,.int .i64 (i:Int))] w1
  refine Ah<|A4<|A2 rfl<|A0 (.fa Oz rfl MK dD rfl)<|Ag (Ad (P3 _) rfl q2 rfl)<|A0 (.lenS KU rfl)<|A0 (.lss rfl rfl)<|WL.e<|Ac rfl (λe5=>?_) (λe5=>?_)
  · have jI := dT e5
    have dl:i<pg.fItems.length:=by first | omega | (simp only at *;omega)
    obtain ⟨x,hx⟩:∃ x,x=pg.fItems[i]:=⟨_,rfl⟩;have jk:x∈pg.fItems:=by rw [hx];exact AJ dl
    have aq:=A2r (hs x jk);have ae:=hp.all_fItems x jk;have bt:=q5.ltV;have lC:=aq.cl;refine W.k<|Ah<|W.b<|A4<|A0 (.fa Oz rfl MK dD rfl)<|Ag (Ad (P3 _) rfl q2 rfl)<|A2 rfl<|A0 (.ixm KU X8 rfl rfl (e4.isp oC) (i) (rfl) oO)<|Ag (DP Dx rfl Th e4 (i) oC rfl)<|BV zeroValue44 rfl (λa3 lR a' dm au lD=>?_);have fo:=AW b2 au.size;have bX:=Cc.new q5 a' au;have fp:=AW b2 au.size;have jJ:=GU q6 a' au;have jK:=Bg a' q2.lt;have jL:=q2.un au jK;have jM:=Bg a' q3.lt;have jN:=q3.un au jM;have jO:=Bg a' q4.lt;have jP:=q4.un au jO;have jQ:=uB q1 a' au;have kC:=Cq a' q1.size;refine Az rfl rfl dm Th rfl rfl (λkD fq av lE=>?_);have fr:=AW fo av.size;have e6:=Cc.upd bX av ((λg hg e=>by first | (have:=bt g hg;omega) | exact AM bX dm dD g hg e | exact AM bX HBLK dD g hg e | (have:=(bX).ltV g hg;omega) | exact BX bX am dD g hg (by rw [e];rfl)));have fs:=AW fp av.size;have e7:=Ia jJ av ((λg hg e=>by have hg:some D=some g:=hg;cases hg;omega));have e8:=jL.up av;have e9:=jN.up av;have ea:=jP.up av;have bq:=CN jQ oO av;refine WL.e<|Ah ?_;have aG:=fq;rw [<- hx] at aG;have lS:=aG.lt;refine Ak<|A2 rfl<|A0 (.lenS Fi rfl)<|A9 rfl<|D4 (α:=Value) (λt=>[(1,.pointer (some ⟨b1,0,none⟩)),(5,t),(6,.pointer (some ⟨b6,0,none⟩)),(7,.pointer (some ⟨q,0,none⟩)),(8,.slice pc st.clips.length cc),(9,.slice (some ⟨D,0,none⟩) 14 14),(10,.int .i64 (i:Int)),(11,.pointer (some ⟨a3,0,none⟩)),(12,.int .i64 (nC st x:Int))]) (λt w'=>Below w.heap.size w w'/\AF w' b1 (IP pg).toArray 47/\AF w' b6 (Qq (GP st x)).toArray 80/\AF w' q (Qq (st.outer)).toArray 80/\Cc 5 (q+1) w' t (AI (T0++(if qB st x then [81,10] else [])))/\AD Je 4 (q+1) w' (.slice (some ⟨D,0,none⟩) 14 14) (us)/\AF w' a3 (FF x).toArray 44) ?_ (λt w1 hR=>?_);refine D4 (α:=Unit) (λt=>[(1,.pointer (some ⟨b1,0,none⟩)),(5,v5),(6,.pointer (some ⟨b6,0,none⟩)),(7,.pointer (some ⟨q,0,none⟩)),(8,.slice pc st.clips.length cc),(9,.slice (some ⟨D,0,none⟩) 14 14),(10,.int .i64 (i:Int)),(11,.pointer (some ⟨a3,0,none⟩)),(12,.int .i64 (st.clips.length:Int)),(47,.bool (qB st x))]) (λt w'=>Below w.heap.size w w'/\AF w' b1 (IP pg).toArray 47/\AF w' b6 (Qq (st.so)).toArray 80/\AF w' q (Qq (st.outer)).toArray 80/\Cc 5 (q+1) w' v5 (AI (T0))/\AD Je 4 (q+1) w' (.slice (some ⟨D,0,none⟩) 14 14) (us)/\AF w' a3 (FF x).toArray 44) ?_ (λt w1 hR=>?_)
    refine Ak<|A2 rfl<|A0 (.fa Dx rfl GA dD rfl)<|Ag (Ad (Kj _) rfl aG rfl)<|A0 (.lenS Fi rfl)<|A0 (.gtr rfl rfl)<|A2 rfl<|B1 rfl rfl rfl (λai=>?_) (λai=>?_)
    · have jR := dF ai
      refine A2 rfl<|As ai<|A0 (.fa Dx rfl GA dD rfl)<|As ai<|Ag (Ad (Kj _) rfl aG rfl)<|As ai<|A2 rfl<|As ai<|A0 (.slmT Fi Kr rfl rfl  (st.clips.length) (rfl) (by have:=ae.sl_fClips.le;omega))<|As ai<|WL.c1 AN rfl rfl ((by have h:=(LQ pc (Gd 2 x.pfClips x.cfClips 0) st.clips (x.fClips.take st.clips.length) cc x.cfClips kD (q8.row.below bq (λE=>q8.row.lt E)) ((ae.row_fClips.partT st.clips.length oO ae.sl_fClips.le).below bq (λE=>(ae.row_fClips.partT st.clips.length oO ae.sl_fClips.le).lt E)) (λc hc=>(q8.ok c hc).below bq) (λc hc=>(ae.all_fClips c (Dv hc)).below bq) (by have:=q8.len;omega));rw [AT,Nat.min_eq_left oO] at h;exact h)) (λmM aC=>?_);have lF:=CZ.le fr aC;have jS:=Cc.drew e6 aC;have lG:=CZ.le fs aC;have jT:=AD.drew e7 aC;have jU:=e8.drew aC;have jV:=e9.drew aC;have jW:=ea.drew aC;have jX:=aG.drew aC;have jY:=CZ.below bq aC;refine As ai<|A0 (.not rfl)<|A0 (.pkF rfl ai rfl)<|WL.e<|?_;exact ⟨(),⟨rfl,rfl,rfl,rfl,rfl,rfl,rfl,rfl,rfl,Cy rfl (by unfold qB;rw [Al oO];rfl),tT⟩,jY,jU,jV,jW,jS,jT,jX⟩
    have jR:=dT ai;refine Aa ai<|Aa ai<|Aa ai<|Aa ai<|Aa ai<|Aa ai<|A0 (.pkT rfl ai rfl)<|WL.e<|?_;exact ⟨(),⟨rfl,rfl,rfl,rfl,rfl,rfl,rfl,rfl,rfl,Cy rfl (by unfold qB;rw [Aj oO];rfl),tT⟩,bq,e8,e9,ea,e6,e7,aG⟩;obtain ⟨j1,j2,j3,j4,P,Q,j7⟩:=hR;have G:=j4.lt;have bu:=Q.lt D rfl;refine Ac rfl (λkE=>?_) (λkE=>?_);refine A4<|A2 rfl<|Gl Bu Ju Gr rfl P rfl (by simp only [B3,A5,A8,Ae];omega) (G) rfl (λmN mO ft cz b3=>?_);have jZ:=j2.grown b3 (λe=>AM P aS dD _ e rfl);have j':=j3.grown b3 (λe=>AM P aS dD _ e rfl);have eb:=j4.grown b3 (λe=>AM P aS dD _ e rfl);have ec:=j7.grown b3 (λe=>AM P aS dD _ e rfl);have k0:=AD.same Q (λg hg=>b3.block g ((Q).lt g hg).2 (λhx=>by first | exact BX P Q dD g hx.symm hg | exact BX OWN Q dD g hx.symm hg));have fu:=AW G cz.size;have k1:=EZ j1 (cz.mono oO);have bY:=Cc.cat ft;have fv:=AW G cz.size;refine A9 rfl<|A4<|Ag (BA rfl eb TK rfl Ps)<|Az rfl rfl j' Ps rfl rfl (λmP fw aw lH=>?_);have lI:=AW fv aw.size;have k2:=Cc.upd bY aw ((λg hg e=>by first | (have:=bt g hg;omega) | exact AM bY ec dD g hg e | exact AM bY HBLK dD g hg e | (have:=(bY).ltV g hg;omega) | exact BX bY am dD g hg (by rw [e];rfl)));have lJ:=AW fu aw.size;have k3:=Ia k0 aw ((λg hg e=>by have hg:some D=some g:=hg;cases hg;omega));have k4:=jZ.up aw;have k5:=eb.up aw;have k6:=ec.up aw;have k7:=CN k1 oO aw;refine WL.e<|Ak<|A9 rfl ?_
    (refine ⟨_, ⟨rfl, rfl, rfl, rfl, rfl, rfl, rfl, rfl, LA rfl (by rw [A2c, A6 aS]), tT⟩, ?_⟩
     have hq:qB st x=true:=by assumption
     have e1:GP st x=st.outer:=by unfold GP;rw [A6 hq]
     rw [e1,A6 hq];exact ⟨k7,k4,fw,k5,k2,k3,k6⟩)
    refine W.k ?_
    (refine ⟨_, ⟨rfl, rfl, rfl, rfl, rfl, rfl, rfl, rfl, LA rfl (by rw [A2c, A1 (by simp_all)]), tT⟩, ?_⟩
     have hq:qB st x=false:=by assumption
     have e1:GP st x=st.so:=by unfold GP;rw [hq];rfl
     rw [e1,hq,A1 dD,BK];exact ⟨j1,j2,j3,j4,P,Q,j7⟩)
    obtain ⟨vv,rfl⟩:∃ vv,vv=t:=⟨t,rfl⟩;obtain ⟨j1,j2,j3,j4,P,Q,j7⟩:=hR;have G:=j4.lt;have bu:=Q.lt D rfl;have kF:(T0++(if qB st x then ([81,10]:l8_) else [])).length<=1048578:=by rw [A5];split <;> simp only [A8,Ae] <;> omega
    obtain ⟨Tq,jl⟩:∃ T,T=T0++(if qB st x then ([81,10]:l8_) else []):=⟨_,rfl⟩;rw [<- jl] at P kF;refine D4 (α:=Value) (λt=>[(1,.pointer (some ⟨b1,0,none⟩)),(5,t),(6,.pointer (some ⟨b6,0,none⟩)),(7,.pointer (some ⟨q,0,none⟩)),(8,.slice pc st.clips.length cc),(9,.slice (some ⟨D,0,none⟩) 14 14),(10,.int .i64 (i:Int)),(11,.pointer (some ⟨a3,0,none⟩)),(12,.int .i64 (nC st x:Int))]) (λt w'=>Below w.heap.size w w'/\AF w' b1 (IP pg).toArray 47/\AF w' b6 (Qq (GP st x)).toArray 80/\AF w' q (Qq (if gB st x then GP st x else st.outer)).toArray 80/\Cc 5 (q+1) w' t (AI (Tq++(if gB st x then [113,10] else [])))/\AD Je 4 (q+1) w' (.slice (some ⟨D,0,none⟩) 14 14) (us)/\AF w' a3 (FF x).toArray 44) ?_ (λt w1 hR=>?_);refine Fd 58 (gB st x) ?_ ?_;refine Ak<|A2 rfl<|A0 (.eql rfl rfl)<|A2 rfl<|B1 rfl rfl rfl (λaH=>?_) (λaH=>?_)
    · have k8 := dT aH
      refine A0 (.fa Dx rfl GA dD rfl)<|As aH<|Ag (Ad (Kj _) rfl j7 rfl)<|As aH<|A0 (.lenS Fi rfl)<|As aH<|A0 (.gtr rfl rfl)<|A0 (.pkT rfl aH rfl)<|WL.e<|?_;exact ⟨G8 (Cy rfl (by unfold gB;first | (rw [Aj (show nC st x=0 by omega)];cases x.fClips <;> simp <;> omega) | (rw [Al (show ¬ nC st x=0 by omega)];rfl))),rfl⟩
    have k8:=dF aH;refine Aa aH<|Aa aH<|Aa aH<|A0 (.pkF rfl aH rfl)<|WL.e<|?_;exact ⟨G8 (Cy rfl (by unfold gB;first | (rw [Aj (show nC st x=0 by omega)];cases x.fClips <;> simp <;> omega) | (rw [Al (show ¬ nC st x=0 by omega)];rfl))),rfl⟩;refine Ac rfl (λkG=>?_) (λkG=>?_);refine A4<|A2 rfl<|Gl Bu Ju Gr rfl P rfl (by simp only [B3,A5,A8,Ae];omega) (G) rfl (λmQ mR fx cA b4=>?_);have k9:=j2.grown b4 (λe=>AM P aS dD _ e rfl);have ed:=j3.grown b4 (λe=>AM P aS dD _ e rfl);have ka:=j4.grown b4 (λe=>AM P aS dD _ e rfl);have ee:=j7.grown b4 (λe=>AM P aS dD _ e rfl);have kb:=AD.same Q (λg hg=>b4.block g ((Q).lt g hg).2 (λhx=>by first | exact BX P Q dD g hx.symm hg | exact BX OWN Q dD g hx.symm hg));have fy:=AW G cA.size;have kc:=EZ j1 (cA.mono oO);have b5:=Cc.cat fx;have ef:=AW G cA.size;refine A9 rfl<|Ak<|Ag (BA rfl ed TK rfl Ps)<|Az rfl rfl ka Ps rfl rfl (λlT eg aj kH=>?_);have kI:=AW ef aj.size;have fz:=Cc.upd b5 aj ((λg hg e=>by first | (have:=bt g hg;omega) | exact AM b5 ee dD g hg e | exact AM b5 HBLK dD g hg e | (have:=(b5).ltV g hg;omega) | exact BX b5 am dD g hg (by rw [e];rfl)));have kJ:=AW fy aj.size;have fA:=Ia kb aj ((λg hg e=>by have hg:some D=some g:=hg;cases hg;omega));have fB:=k9.up aj;have fC:=ed.up aj;have fD:=ee.up aj;have fE:=CN kc oO aj;refine WL.e<|?_
    (refine ⟨_, ⟨rfl, rfl, rfl, rfl, rfl, rfl, rfl, rfl, rfl, tT⟩, ?_⟩
     have hg:gB st x=true:=by assumption
     rw [A6 hg,A6 hg];exact ⟨fE,fB,fC,eg,fz,fA,fD⟩)
    refine W.k ?_
    (refine ⟨_, ⟨rfl, rfl, rfl, rfl, rfl, rfl, rfl, rfl, rfl, tT⟩, ?_⟩
     have hg:gB st x=false:=by assumption
     rw [hg,A1 dD,A1 dD,BK];exact ⟨j1,j2,j3,j4,P,Q,j7⟩)
    obtain ⟨vv,rfl⟩:∃ vv,vv=t:=⟨t,rfl⟩;obtain ⟨j1,j2,j3,j4,P,Q,j7⟩:=hR;have G:=j4.lt;have bu:=Q.lt D rfl;have kK:(Tq++(if gB st x then ([113,10]:l8_) else [])).length<=1048580:=by rw [A5];split <;> simp only [A8,Ae] <;> omega
    obtain ⟨T1,jm⟩:∃ T,T=Tq++(if gB st x then ([113,10]:l8_) else []):=⟨_,rfl⟩;rw [<- jm] at P kK;have kL:nC st x<=x.fClips.length:=by unfold nC;split;exact Gg _;exact (A5k (Ka.2 aS)).1
    refine Ah<|A4<|A2 rfl<|A9 rfl<|W.b<|Cj (α:=Nat × Value) (λt=>[(1,.pointer (some ⟨b1,0,none⟩)),(5,t.2),(6,.pointer (some ⟨b6,0,none⟩)),(7,.pointer (some ⟨q,0,none⟩)),(8,.slice pc st.clips.length cc),(9,.slice (some ⟨D,0,none⟩) 14 14),(10,.int .i64 (i:Int)),(11,.pointer (some ⟨a3,0,none⟩)),(13,.int .i64 (t.1:Int))]) (λt w'=>Below w.heap.size w w'/\AF w' b1 (IP pg).toArray 47/\AF w' b6 (Qq (GP st x)).toArray 80/\AF w' q (Qq (if gB st x then GP st x else st.outer)).toArray 80/\Cc 5 (q+1) w' t.2 (AI (T1++((x.fClips.drop (nC st x)).take (t.1-nC st x)).flatMap GF))/\AD Je 4 (q+1) w' (.slice (some ⟨D,0,none⟩) 14 14) (us)/\AF w' a3 (FF x).toArray 44/\nC st x<=t.1/\t.1<=x.fClips.length) (λt=>x.fClips.length-t.1) ((nC st x,vv)) ⟨rfl,rfl,rfl,rfl,rfl,rfl,rfl,rfl,rfl,tT⟩ (⟨j1,j2,j3,j4,by rw [K8,A5M,List.flatMap_nil,BK];exact P,Q,j7,FL _,kL⟩) (λt w1 hR=>?_);obtain ⟨⟨k,kM⟩,cO⟩:∃ u,u=t:=⟨t,rfl⟩;subst cO;obtain ⟨c1,c2,c3,c4,c5,c6,c7,c8,c9⟩:=hR;simp only at c5 c8 c9;have aU:=c4.lt;have mS:=c6.lt D rfl;have dn:=ae.row_fClips.below c1 (λE=>ae.row_fClips.lt E);have kd:0<x.fClips.length->(pA x.pfClips).block<q+1:=λE=>by have:=ae.row_fClips.lt E;omega
    obtain ⟨Tk,dp⟩:∃ T,T=T1++((x.fClips.drop (nC st x)).take (k-nC st x)).flatMap GF:=⟨_,rfl⟩;have mT:Tk.length<=28000000:=by
      have h1:=RG ((x.fClips.drop (nC st x)).take (k-nC st x)) (λc hc=>aq.clips c (Eu (Dv hc)));have h2:((x.fClips.drop (nC st x)).take (k-nC st x)).length<=16:=by rw [AT,B4];have:=aq.cl;omega
      rw [dp,A5];omega
    rw [<- dp] at c5
    show W Tryz.prog _ _ _ [(1,.pointer (some ⟨b1,0,none⟩)),(5,kM),(6,.pointer (some ⟨b6,0,none⟩)),(7,.pointer (some ⟨q,0,none⟩)),(8,.slice pc st.clips.length cc),(9,.slice (some ⟨D,0,none⟩) 14 14),(10,.int .i64 (i:Int)),(11,.pointer (some ⟨a3,0,none⟩)),(13,.int .i64 (k:Int))] w1
    refine Ah<|A4<|A2 rfl<|A0 (.fa Dx rfl GA dD rfl)<|Ag (Ad (Kj _) rfl c7 rfl)<|A0 (.lenS Fi rfl)<|A0 (.lss rfl rfl)<|WL.e<|Ac rfl (λd5=>?_) (λd5=>?_)
    · have fF := dT d5
      have dq:k<x.fClips.length:=by first | omega | (simp only at *;omega)
      have kN:=aq.clips _ (AJ dq);have cr:=kN;unfold G5 Fk at cr;rw [A3,A3,Ab] at cr;have jn:=ae.all_fClips _ (AJ dq);have mU:=Kx x.fClips[k].fPath 0 cr.2.2;have mV:=cr.2.1;refine W.k<|D4 (α:=Value) (λt=>[(1,.pointer (some ⟨b1,0,none⟩)),(5,t),(6,.pointer (some ⟨b6,0,none⟩)),(7,.pointer (some ⟨q,0,none⟩)),(8,.slice pc st.clips.length cc),(9,.slice (some ⟨D,0,none⟩) 14 14),(10,.int .i64 (i:Int)),(11,.pointer (some ⟨a3,0,none⟩)),(13,.int .i64 (k:Int))]) (λt w'=>Below w.heap.size w w'/\AF w' b1 (IP pg).toArray 47/\AF w' b6 (Qq (GP st x)).toArray 80/\AF w' q (Qq (if gB st x then GP st x else st.outer)).toArray 80/\Cc 5 (q+1) w' t (AI (Tk++GF x.fClips[k]))/\AD Je 4 (q+1) w' (.slice (some ⟨D,0,none⟩) 14 14) (us)/\AF w' a3 (FF x).toArray 44) ?_ (λt w1 hR=>?_);refine W.b<|A4<|A2 rfl<|A0 (.fa Dx rfl GA dD rfl)<|Ag (Ad (Kj _) rfl c7 rfl)<|A2 rfl<|A0 (.ixm Fi Kr rfl rfl (dn.isp oC) (k) (rfl) oO)<|A0 (.fa PH rfl IL dD rfl)<|Ag (AO (JL _) rfl ((dn.field (k) oC 0 dD).trans rfl))<|DQ AN rfl rfl ((V8 x.fClips[k].pfPath x.fClips[k].fPath x.fClips[k].cfPath _ (jn.row_fPath.below c1 (λE=>jn.row_fPath.lt E)) cr.2.1 cr.2.2)) (λxx lU a4=>?_);have cP:=AW aU a4.1.size;have aV:=Cc.below c5 a4.1;have eh:=AW aU a4.1.size;have bv:=AD.below c6 a4.1;have fG:=c2.bl a4.1;have fH:=c3.bl a4.1;have fI:=c4.bl a4.1;have fJ:=c7.bl a4.1;have fK:=I8 dn a4.1 (λE=>dn.lt E);have fL:=DJ c1 a4.1;obtain ⟨xp,xc⟩:=xx;obtain ⟨cQ,ei,cR⟩:=a4.2;simp only at cQ ei cR;refine Qd Bu Gr rfl rfl rfl aV rfl cQ (by simp only [B3,A5,A8,Ae];omega) (cP) rfl (cR) (λlV lW ej b7 aI=>?_);have dr:=fG.grown aI (λe=>AM aV aS dD _ e rfl);have ds:=fH.grown aI (λe=>AM aV aS dD _ e rfl);have dt:=fI.grown aI (λe=>AM aV aS dD _ e rfl);have cB:=fJ.grown aI (λe=>AM aV aS dD _ e rfl);have ax:=AD.same bv (λg hg=>aI.block g ((bv).lt g hg).2 (λhx=>by first | exact BX aV bv dD g hx.symm hg | exact BX OWN bv dD g hx.symm hg))
      have cS:=AW eh b7.size;have du:=I8 fK b7 kd;have dv:=EZ fL (b7.mono oO);have a1:=Cc.cat ej;have b8:=AW cP b7.size;refine A9 rfl<|A4<|A0 (.fa Dx rfl GA dD rfl)<|Ag (Ad (Kj _) rfl cB rfl)<|A2 rfl<|A0 (.ixm Fi Kr rfl rfl (du.isp oC) (k) (rfl) oO)<|A0 (.fa PH rfl Ot dD rfl)<|Ag (AO (g4_ _) rfl ((du.field (k) oC 1 dD).trans rfl))<|WL.e<|Ac rfl (λke=>?_) (λke=>?_);refine Ak<|A2 rfl<|Gl Bu Ju Gr rfl a1 rfl (by simp only [B3,A5,A8,Ae];omega) (b8) rfl (λlX lY ek bZ aJ=>?_);have fM:=dr.grown aJ (λe=>AM a1 aS dD _ e rfl);have fN:=ds.grown aJ (λe=>AM a1 aS dD _ e rfl);have fO:=dt.grown aJ (λe=>AM a1 aS dD _ e rfl);have fP:=cB.grown aJ (λe=>AM a1 aS dD _ e rfl);have fQ:=AD.same ax (λg hg=>aJ.block g ((ax).lt g hg).2 (λhx=>by first | exact BX a1 ax dD g hx.symm hg | exact BX OWN ax dD g hx.symm hg));have kO:=AW cS bZ.size;have fR:=EZ dv (bZ.mono oO);have fS:=Cc.cat ek;have kP:=AW b8 bZ.size;refine A9 rfl ?_
      (refine ⟨_, ⟨rfl, rfl, rfl, rfl, rfl, rfl, rfl, rfl, rfl, tT⟩, ?_⟩
       have hq:x.fClips[k].fEvenOdd=true:=by assumption
       have F:=fS;rw [AE,show EB x.fClips[k].fPath++[87,42,32,110,10]=GF x.fClips[k] by unfold GF;rw [A6 hq]] at F;exact ⟨fR,fM,fN,fO,F,fQ,fP⟩)
      refine Ak<|A2 rfl<|Gl Bu Ju Gr rfl a1 rfl (by simp only [B3,A5,A8,Ae];omega) (b8) rfl (λlZ l' el b' aK=>?_);have fT:=dr.grown aK (λe=>AM a1 aS dD _ e rfl);have fU:=ds.grown aK (λe=>AM a1 aS dD _ e rfl);have fV:=dt.grown aK (λe=>AM a1 aS dD _ e rfl);have fW:=cB.grown aK (λe=>AM a1 aS dD _ e rfl);have fX:=AD.same ax (λg hg=>aK.block g ((ax).lt g hg).2 (λhx=>by first | exact BX a1 ax dD g hx.symm hg | exact BX OWN ax dD g hx.symm hg));have kQ:=AW cS b'.size;have fY:=EZ dv (b'.mono oO);have fZ:=Cc.cat el;have kS:=AW b8 b'.size;refine A9 rfl ?_
      (refine ⟨_, ⟨rfl, rfl, rfl, rfl, rfl, rfl, rfl, rfl, rfl, tT⟩, ?_⟩
       have hq:x.fClips[k].fEvenOdd=false:=by assumption
       have F:=fZ;rw [AE,show EB x.fClips[k].fPath++[87,32,110,10]=GF x.fClips[k] by unfold GF;rw [hq,A1 dD]] at F;exact ⟨fY,fT,fU,fV,F,fX,fW⟩)
      obtain ⟨vv,rfl⟩:∃ vv,vv=t:=⟨t,rfl⟩;obtain ⟨j1,j2,j3,j4,P,Q,j7⟩:=hR;have G:=j4.lt;have bu:=Q.lt D rfl;refine Ak<|A2 rfl<|A0 (.iis (((k+1:Nat):Int)) (.add rfl rfl (Bp oO)) oO)<|A9 rfl ?_;have F:=P;have kT:T1++((x.fClips.drop (nC st x)).take ((k+1)-nC st x)).flatMap GF=Tk++GF x.fClips[k]:=by
        have hd:k-nC st x<(x.fClips.drop (nC st x)).length:=by rw [B4];omega
        rw [show k+1-nC st x=k-nC st x+1 by omega,IA hd,dp,AE]
        congr 3;rw [List.getElem_drop]
        congr 1;omega
      rw [<- kT] at F;exact ⟨(k+1,_),⟨rfl,rfl,rfl,rfl,rfl,rfl,rfl,rfl,rfl,tT⟩,⟨j1,j2,j3,j4,F,Q,j7,by ((try simp only) <;> omega),by ((try simp only) <;> omega)⟩,by ((try simp only) <;> omega)⟩
    have fF:=dF d5;have dq:k=x.fClips.length:=by first | omega | (simp only at *;omega)
    refine C0<|Ah ?_;have kf:Tk=T1++(x.fClips.drop (nC st x)).flatMap GF:=by rw [dp,dq,<- B4,Cs]
    have d6:=A3U q8 (x:=x);refine Ak<|A0 (.fa Dx rfl GA dD rfl)<|Ag (Ad (Kj _) rfl c7 rfl)<|A9 rfl<|D4 (α:=Value) (λt=>[(1,.pointer (some ⟨b1,0,none⟩)),(5,t),(6,.pointer (some ⟨b6,0,none⟩)),(7,.pointer (some ⟨q,0,none⟩)),(8,.slice x.pfClips x.fClips.length x.cfClips),(9,.slice (some ⟨D,0,none⟩) 14 14),(10,.int .i64 (i:Int)),(11,.pointer (some ⟨a3,0,none⟩))]) (λt w'=>Below w.heap.size w w'/\AF w' b1 (IP pg).toArray 47/\AF w' b6 (Qq (TN (GP st x) x)).toArray 80/\AF w' q (Qq (if gB st x then GP st x else st.outer)).toArray 80/\Cc 5 (q+1) w' t (AI (Tk++kW (GP st x) x))/\AD Je 4 (q+1) w' (.slice (some ⟨D,0,none⟩) 14 14) (us)/\AF w' a3 (FF x).toArray 44) ?_ (λt w1 hR=>?_);refine A4<|A0 (.fa Dx rfl B5 dD rfl)<|Ag (Ad (Bw _) rfl c7 rfl)<|A0 (.eql rfl rfl)<|WL.e<|Ac rfl (λd7=>?_) (λd7=>?_)
    · have f' := dT d7
      have jo:x.fKind=3:=by omega
      have jp:=(aq.pnt oO).pen jo;have kg:=Og true aq.col;have m0:=Vl (a:=(GP st x).pen) jp;refine D4 (α:=Value) (λt=>[(1,.pointer (some ⟨b1,0,none⟩)),(5,t),(6,.pointer (some ⟨b6,0,none⟩)),(7,.pointer (some ⟨q,0,none⟩)),(8,.slice x.pfClips x.fClips.length x.cfClips),(9,.slice (some ⟨D,0,none⟩) 14 14),(10,.int .i64 (i:Int)),(11,.pointer (some ⟨a3,0,none⟩))]) (λt w'=>Below w.heap.size w w'/\AF w' b1 (IP pg).toArray 47/\AF w' b6 (Qq (soS (GP st x) x.fColor)).toArray 80/\AF w' q (Qq (if gB st x then GP st x else st.outer)).toArray 80/\Cc 5 (q+1) w' t (AI (Tk++(if x.fColor≠(GP st x).stroke then Oh true x.fColor else [])))/\AD Je 4 (q+1) w' (.slice (some ⟨D,0,none⟩) 14 14) (us)/\AF w' a3 (FF x).toArray 44) ?_ (λt w1 hR=>?_);refine A4<|A0 (.fa Dx rfl JH dD rfl)<|Ag (Ck (L:=FX) GH rfl EJ c7 (x.fColor) (rfl) rfl)<|A0 (.fa TK rfl JH dD rfl)<|Ag (Ck (L:=FX) GH rfl EJ c3 ((GP st x).stroke) (rfl) rfl)<|A0 (.neAgg rfl rfl A6y (A5t _ _))<|WL.e<|Ac rfl (λd8=>?_) (λd8=>?_)
      · have g0 := JY d8
        refine A4<|A2 rfl<|A0 (.fa Dx rfl JH dD rfl)<|Ag (Ck (L:=FX) GH rfl EJ c7 (x.fColor) (rfl) rfl)<|WL.c1 AN rfl rfl ((ST x.fColor true _ aq.col)) (λm1 an=>?_);have cT:=AW aU an.size;have aW:=Cc.below c5 an;have em:=AW aU an.size;have bw:=AD.below c6 an;have g1:=c2.bl an;have g2:=c3.bl an;have g3:=c4.bl an;have g4:=c7.bl an;have g5:=DJ c1 an;refine Gl Bu Ju Gr rfl aW rfl (by simp only [B3,A5,A8,Ae];omega) (cT) rfl (λm2 m3 en c0 aL=>?_);have g6:=g1.grown aL (λe=>AM aW aS dD _ e rfl);have g7:=g2.grown aL (λe=>AM aW aS dD _ e rfl);have g8:=g3.grown aL (λe=>AM aW aS dD _ e rfl);have cC:=g4.grown aL (λe=>AM aW aS dD _ e rfl);have g9:=AD.same bw (λg hg=>aL.block g ((bw).lt g hg).2 (λhx=>by first | exact BX aW bw dD g hx.symm hg | exact BX OWN bw dD g hx.symm hg));have eo:=AW em c0.size;have ga:=EZ g5 (c0.mono oO);have ba:=Cc.cat en;have ep:=AW cT c0.size;refine A9 rfl<|Ak<|A0 (.fa Dx rfl JH dD rfl)<|Ag (Ck (L:=FX) GH rfl EJ cC (x.fColor) (rfl) rfl)<|A0 (.fa TK rfl JH dD rfl)<|Eh (o:=5) ((Qq (soS (GP st x) x.fColor)).toArray) rfl (rfl) rfl g7 EJ rfl bL (rfl) (λkh ca U kU=>?_);have ca:AF kh b6 _ _:=ca;have U:BF b6 _ _:=U;have kV:=AW ep U.size;have gb:=Cc.upd ba U ((λg hg e=>by first | (have:=bt g hg;omega) | exact AM ba cC dD g hg e | exact AM ba HBLK dD g hg e | (have:=(ba).ltV g hg;omega) | exact BX ba am dD g hg (by rw [e];rfl)));have kX:=AW eo U.size;have gc:=Ia g9 U ((λg hg e=>by have hg:some D=some g:=hg;cases hg;omega));have ge:=g6.up U;have gf:=g8.up U;have gg:=cC.up U;have gh:=CN ga oO U;refine WL.e<|?_
        (refine ⟨_, ⟨rfl, rfl, rfl, rfl, rfl, rfl, rfl, rfl, tT⟩, ?_⟩
         rw [A6 (show x.fColor≠(GP st x).stroke by assumption)];exact ⟨gh,ge,ca,gf,gb,gc,gg⟩)
      have g0:=JZ d8;refine W.k ?_
      (refine ⟨_, ⟨rfl, rfl, rfl, rfl, rfl, rfl, rfl, rfl, tT⟩, ?_⟩
       have he:x.fColor=(GP st x).stroke:=by assumption
       rw [A1 (show ¬ (x.fColor≠(GP st x).stroke) from λh=>h he),BK,he];exact ⟨c1,c2,c3,c4,c5,c6,c7⟩)
      obtain ⟨vv,rfl⟩:∃ vv,vv=t:=⟨t,rfl⟩;obtain ⟨j1,j2,j3,j4,P,Q,j7⟩:=hR;have G:=j4.lt;have bu:=Q.lt D rfl;obtain ⟨T3,eq⟩:∃ T,T=Tk++(if x.fColor≠(GP st x).stroke then Oh true x.fColor else []):=⟨_,rfl⟩;have mW:T3.length<=28002000:=by rw [eq,A5];split;omega;simp only [Ae];omega
      rw [<- eq] at P;refine A4<|A2 rfl<|A0 (.fa TK rfl MJ dD rfl)<|Ag (Ck (L:=Vp) CT rfl HY j3 ((soS (GP st x) x.fColor).pen) (rfl) rfl)<|A0 (.fa Dx rfl MJ dD rfl)<|Ag (Ck (L:=Vp) CT rfl HY j7 (x.fPen) (rfl) rfl)<|WL.c1 AN rfl rfl ((A44 (GP st x).pen x.fPen _ (d6.1.below j1 (λE=>d6.1.lt E)) (ae.ok_fPen.row_fDash.below j1 (λE=>ae.ok_fPen.row_fDash.lt E)) d6.2 jp)) (λm4 ao=>?_);have cU:=AW G ao.size;have aX:=Cc.below P ao;have er:=AW G ao.size;have bx:=AD.below Q ao;have gi:=j2.bl ao;have gj:=j3.bl ao;have gk:=j4.bl ao;have gl:=j7.bl ao;have gm:=DJ j1 ao;refine Gl Bu Ju Gr rfl aX rfl (by simp only [B3,A5,A8,Ae];omega) (cU) rfl (λm5 m6 es cb aM=>?_);have go:=gi.grown aM (λe=>AM aX aS dD _ e rfl);have gp:=gj.grown aM (λe=>AM aX aS dD _ e rfl);have gq:=gk.grown aM (λe=>AM aX aS dD _ e rfl);have cD:=gl.grown aM (λe=>AM aX aS dD _ e rfl);have gr:=AD.same bx (λg hg=>aM.block g ((bx).lt g hg).2 (λhx=>by first | exact BX aX bx dD g hx.symm hg | exact BX OWN bx dD g hx.symm hg));have et:=AW er cb.size;have gs:=EZ gm (cb.mono oO);have bb:=Cc.cat es;have eu:=AW cU cb.size;refine A9 rfl<|Ak<|A0 (.fa Dx rfl MJ dD rfl)<|Ag (Ck (L:=Vp) CT rfl HY cD (x.fPen) (rfl) rfl)<|A0 (.fa TK rfl MJ dD rfl)<|Eh (o:=10) ((Qq (soP (soS (GP st x) x.fColor) x.fPen)).toArray) rfl (rfl) rfl gp HY rfl bL (rfl) (λki cd X kY=>?_);have cd:AF ki b6 _ _:=cd;have X:BF b6 _ _:=X;have kZ:=AW eu X.size;have gt:=Cc.upd bb X ((λg hg e=>by first | (have:=bt g hg;omega) | exact AM bb cD dD g hg e | exact AM bb HBLK dD g hg e | (have:=(bb).ltV g hg;omega) | exact BX bb am dD g hg (by rw [e];rfl)));have k':=AW et X.size;have gv:=Ia gr X ((λg hg e=>by have hg:some D=some g:=hg;cases hg;omega))
      have gw:=go.up X;have gx:=gq.up X;have gz:=cD.up X;have gA:=CN gs oO X;refine WL.e<|?_
      (refine ⟨_, ⟨rfl, rfl, rfl, rfl, rfl, rfl, rfl, rfl, tT⟩, ?_⟩
       have F:=gt;have aN:x.fKind=3:=by assumption
       rw [A7h (GP st x) aN,show Tk++kW (GP st x) x=T3++ML (GP st x).pen x.fPen by unfold kW;rw [A6 aN,eq,AE]];exact ⟨gA,gw,cd,gx,F,gv,gz⟩)
    have f':=dF d7;have jo:¬ x.fKind=3:=by omega
    have kg:=Og false aq.col;refine A4<|A0 (.fa Dx rfl JH dD rfl)<|Ag (Ck (L:=FX) GH rfl EJ c7 (x.fColor) (rfl) rfl)<|A0 (.fa TK rfl JH dD rfl)<|Ag (Ck (L:=FX) GH rfl EJ c3 ((GP st x).fill) (rfl) rfl)<|A0 (.neAgg rfl rfl A6y (A5t _ _))<|WL.e<|Ac rfl (λd9=>?_) (λd9=>?_)
    · have gC := JY d9
      refine A4<|A2 rfl<|A0 (.fa Dx rfl JH dD rfl)<|Ag (Ck (L:=FX) GH rfl EJ c7 (x.fColor) (rfl) rfl)<|WL.c1 AN rfl rfl ((ST x.fColor false _ aq.col)) (λm7 ap=>?_);have cV:=AW aU ap.size;have aY:=Cc.below c5 ap;have ev:=AW aU ap.size;have bz:=AD.below c6 ap;have gD:=c2.bl ap;have gE:=c3.bl ap;have gF:=c4.bl ap;have gG:=c7.bl ap;have gH:=DJ c1 ap;refine Gl Bu Ju Gr rfl aY rfl (by simp only [B3,A5,A8,Ae];omega) (cV) rfl (λm8 m9 ew cg aO=>?_);have gI:=gD.grown aO (λe=>AM aY aS dD _ e rfl);have gJ:=gE.grown aO (λe=>AM aY aS dD _ e rfl);have gK:=gF.grown aO (λe=>AM aY aS dD _ e rfl);have cE:=gG.grown aO (λe=>AM aY aS dD _ e rfl);have gL:=AD.same bz (λg hg=>aO.block g ((bz).lt g hg).2 (λhx=>by first | exact BX aY bz dD g hx.symm hg | exact BX OWN bz dD g hx.symm hg));have ex:=AW ev cg.size;have gM:=EZ gH (cg.mono oO);have bc:=Cc.cat ew;have ey:=AW cV cg.size;refine A9 rfl<|Ak<|A0 (.fa Dx rfl JH dD rfl)<|Ag (Ck (L:=FX) GH rfl EJ cE (x.fColor) (rfl) rfl)<|A0 (.fa TK rfl JH dD rfl)<|Eh (o:=0) ((Qq (soF (GP st x) x.fColor)).toArray) rfl (rfl) rfl gJ EJ rfl bL (rfl) (λkj ci a0 l0=>?_);have ci:AF kj b6 _ _:=ci;have a0:BF b6 _ _:=a0;have l1:=AW ey a0.size;have gN:=Cc.upd bc a0 ((λg hg e=>by first | (have:=bt g hg;omega) | exact AM bc cE dD g hg e | exact AM bc HBLK dD g hg e | (have:=(bc).ltV g hg;omega) | exact BX bc am dD g hg (by rw [e];rfl)));have l2:=AW ex a0.size;have gO:=Ia gL a0 ((λg hg e=>by have hg:some D=some g:=hg;cases hg;omega));have gP:=gI.up a0;have gQ:=gK.up a0;have gR:=cE.up a0;have gS:=CN gM oO a0;refine WL.e<|?_
      (refine ⟨_, ⟨rfl, rfl, rfl, rfl, rfl, rfl, rfl, rfl, tT⟩, ?_⟩
       have F:=gN;have aN:¬ x.fKind=3:=by assumption
       rw [A5i (GP st x) aN,show kW (GP st x) x=Oh false x.fColor by unfold kW;rw [A1 aN,A6 (show x.fColor≠(GP st x).fill by assumption)]];exact ⟨gS,gP,ci,gQ,F,gO,gR⟩)
    have gC:=JZ d9;refine W.k ?_
    (refine ⟨_, ⟨rfl, rfl, rfl, rfl, rfl, rfl, rfl, rfl, tT⟩, ?_⟩
     have F:=c5;have aN:¬ x.fKind=3:=by assumption
     have he:x.fColor=(GP st x).fill:=by assumption
     rw [A5i (GP st x) aN,show kW (GP st x) x=[] by unfold kW;rw [A1 aN,A1 (show ¬ (x.fColor≠(GP st x).fill) from λh=>h he)],BK,he];exact ⟨c1,c2,c3,c4,F,c6,c7⟩)
    obtain ⟨vv,rfl⟩:∃ vv,vv=t:=⟨t,rfl⟩;obtain ⟨j1,j2,j3,j4,P,Q,j7⟩:=hR;have G:=j4.lt;have bu:=Q.lt D rfl;obtain ⟨T4,ez⟩:∃ T,T=Tk++kW (GP st x) x:=⟨_,rfl⟩;have mX:T4.length<=28005000:=by rw [ez,A5];have:=A6q (so:=GP st x) aq;omega
    rw [<- ez] at P;have eA:=XG aq;have ma:=Kx x.fPath 0 eA.2;refine A4<|A2 rfl<|A0 (.fa Dx rfl IL dD rfl)<|Ag (Ad (JL _) rfl j7 rfl)<|DQ AN rfl rfl ((V8 x.pfPath x.fPath x.cfPath _ (ae.row_fPath.below j1 (λE=>ae.row_fPath.lt E)) eA.1 eA.2)) (λxx mb af=>?_);have cW:=AW G af.1.size;have aZ:=Cc.below P af.1;have eB:=AW G af.1.size;have bA:=AD.below Q af.1;have gT:=j2.bl af.1;have gU:=j3.bl af.1;have gV:=j4.bl af.1;have gW:=j7.bl af.1;have gX:=DJ j1 af.1;obtain ⟨xp,xc⟩:=xx;obtain ⟨cQ,ei,cR⟩:=af.2;simp only at cQ ei cR;refine Qd Bu Gr rfl rfl rfl aZ rfl cQ (by simp only [B3,A5,A8,Ae];omega) (cW) rfl (cR) (λmc md eC cj aP=>?_);have bB:=gT.grown aP (λe=>AM aZ aS dD _ e rfl);have bC:=gU.grown aP (λe=>AM aZ aS dD _ e rfl);have bD:=gV.grown aP (λe=>AM aZ aS dD _ e rfl);have aD:=gW.grown aP (λe=>AM aZ aS dD _ e rfl);have H:=AD.same bA (λg hg=>aP.block g ((bA).lt g hg).2 (λhx=>by first | exact BX aZ bA dD g hx.symm hg | exact BX OWN bA dD g hx.symm hg));have bd:=AW eB cj.size;have bE:=EZ gX (cj.mono oO);have s:=Cc.cat eC;have ar:=AW cW cj.size;refine A9 rfl<|D4 (α:=Value) (λt=>[(1,.pointer (some ⟨b1,0,none⟩)),(5,t),(6,.pointer (some ⟨b6,0,none⟩)),(7,.pointer (some ⟨q,0,none⟩)),(8,.slice x.pfClips x.fClips.length x.cfClips),(9,.slice (some ⟨D,0,none⟩) 14 14),(10,.int .i64 (i:Int)),(11,.pointer (some ⟨a3,0,none⟩))]) (λt w'=>Below w.heap.size w w'/\AF w' b1 (IP pg).toArray 47/\AF w' b6 (Qq (TN (GP st x) x)).toArray 80/\AF w' q (Qq (if gB st x then GP st x else st.outer)).toArray 80/\Cc 5 (q+1) w' t (AI (T4++EB x.fPath++oW x))/\AD Je 4 (q+1) w' (.slice (some ⟨D,0,none⟩) 14 14) (if x.fKind=4 then us.set x.fFont.toNat true else us)/\AF w' a3 (FF x).toArray 44) ?_ (λt w1 hR=>?_);refine A4<|A0 (.fa Dx rfl B5 dD rfl)<|Ag (Ad (Bw _) rfl aD rfl)<|WL.e<|W.b<|A4<|A0 (.eql rfl rfl)<|A9 rfl<|Ac rfl (λda=>?_) (λda=>?_)
    · have gY := dT da
      refine Ak<|A2 rfl<|Gl Bu Ju Gr rfl s rfl (by simp only [B3,A5,A8,Ae];omega) (ar) rfl (λme mf eD ck aQ=>?_);have gZ:=bB.grown aQ (λe=>AM s aS dD _ e rfl);have g':=bC.grown aQ (λe=>AM s aS dD _ e rfl);have h3:=bD.grown aQ (λe=>AM s aS dD _ e rfl);have h5:=aD.grown aQ (λe=>AM s aS dD _ e rfl);have h6:=AD.same H (λg hg=>aQ.block g ((H).lt g hg).2 (λhx=>by first | exact BX s H dD g hx.symm hg | exact BX OWN H dD g hx.symm hg));have l3:=AW bd ck.size;have h7:=EZ bE (ck.mono oO);have h8:=Cc.cat eD;have l4:=AW ar ck.size;refine A9 rfl ?_
      (refine ⟨_, ⟨rfl, rfl, rfl, rfl, rfl, rfl, rfl, rfl, tT⟩, ?_⟩
       have F:=h8;have cX:x.fKind=1:=by assumption
       rw [show oW x=[102,10] by unfold oW;rw [A6 cX],A1 (show ¬ x.fKind=4 by omega)];exact ⟨h7,gZ,g',h3,F,h6,h5⟩)
    have gY:=dF da;refine A4<|A0 (.eql rfl rfl)<|A9 rfl<|Ac rfl (λdb=>?_) (λdb=>?_)
    · have h9 := dT db
      refine Ak<|A2 rfl<|Gl Bu Ju Gr rfl s rfl (by simp only [B3,A5,A8,Ae];omega) (ar) rfl (λmg mh eF cm aR=>?_);have ha:=bB.grown aR (λe=>AM s aS dD _ e rfl);have hb:=bC.grown aR (λe=>AM s aS dD _ e rfl);have hh:=bD.grown aR (λe=>AM s aS dD _ e rfl);have hi:=aD.grown aR (λe=>AM s aS dD _ e rfl);have hk:=AD.same H (λg hg=>aR.block g ((H).lt g hg).2 (λhx=>by first | exact BX s H dD g hx.symm hg | exact BX OWN H dD g hx.symm hg));have l5:=AW bd cm.size;have hm:=EZ bE (cm.mono oO);have hn:=Cc.cat eF;have l6:=AW ar cm.size;refine A9 rfl ?_
      (refine ⟨_, ⟨rfl, rfl, rfl, rfl, rfl, rfl, rfl, rfl, tT⟩, ?_⟩
       have F:=hn;have cX:x.fKind=2:=by assumption
       rw [show oW x=[102,42,10] by unfold oW;rw [A1 oO,A6 cX],A1 (show ¬ x.fKind=4 by omega)];exact ⟨hm,ha,hb,hh,F,hk,hi⟩)
    have h9:=dF db;refine A4<|A0 (.eql rfl rfl)<|A9 rfl<|Ac rfl (λdc=>?_) (λdc=>?_)
    · have ho := dT dc
      refine Ak<|A2 rfl<|Gl Bu Ju Gr rfl s rfl (by simp only [B3,A5,A8,Ae];omega) (ar) rfl (λmi mj eG cn aT=>?_);have hr:=bB.grown aT (λe=>AM s aS dD _ e rfl);have ht:=bC.grown aT (λe=>AM s aS dD _ e rfl);have hu:=bD.grown aT (λe=>AM s aS dD _ e rfl);have hv:=aD.grown aT (λe=>AM s aS dD _ e rfl);have hy:=AD.same H (λg hg=>aT.block g ((H).lt g hg).2 (λhx=>by first | exact BX s H dD g hx.symm hg | exact BX OWN H dD g hx.symm hg));have l7:=AW bd cn.size;have hz:=EZ bE (cn.mono oO);have hA:=Cc.cat eG;have l8:=AW ar cn.size;refine A9 rfl ?_
      (refine ⟨_, ⟨rfl, rfl, rfl, rfl, rfl, rfl, rfl, rfl, tT⟩, ?_⟩
       have F:=hA;have cX:x.fKind=3:=by assumption
       rw [show oW x=[83,10] by unfold oW;rw [A1 oO,A1 oO,A6 cX],A1 (show ¬ x.fKind=4 by omega)];exact ⟨hz,hr,ht,hu,F,hy,hv⟩)
    have ho:=dF dc;have cq:x.fKind=4:=by
      apply Classical.byContradiction
      intro h4;have:=(aq.pnt h4).kind
      omega
    have a5:=aq.txt cq;have jq:=a5.font;have jr:x.fFont.toNat<us.length:=by rw [q9];omega
    refine Ah ?_;have am:=H;have dw:=Wn am.rowp;refine Ak<|A2 rfl<|A0 (.fa Dx rfl B5 dD rfl)<|Ag (Ad (Bw _) rfl aD rfl)<|A0 (.ixb underlying82 Ot rfl rfl (dw.isp oD) (x.fFont.toNat) (oO) (oO))<|A6V (L:=Je) (true) (x.fFont.toNat) Ot rfl H (jr) rfl rfl rfl rfl (λmk kk ct ak eH=>?_);have ko:=(H).lt kk (by rw [ct];rfl);cases ct;have eI:=AW ar ak.size;have hB:=Cc.upd s ak ((λg hg e=>by first | (have:=bt g hg;omega) | exact AM s aD dD g hg e | exact AM s HBLK dD g hg e | (have:=(s).ltV g hg;omega) | exact BX s am dD g hg (by rw [e];rfl)));have dx:=bB.up ak;have dy:=bC.up ak;have dz:=bD.up ak;have cF:=aD.up ak;have dA:=CN bE oO ak;have eJ:=AW bd ak.size;refine WL.e<|A4<|A0 (.fa Dx rfl IK dD rfl)<|Ag (Ck (L:=Rb) DU rfl CJ cF (x) (rfl) rfl)<|BV PF rfl (λeK lK ay cY a6 l9=>?_);have eL:=AW eI a6.size;have be:=Cc.new hB ay a6;have eM:=AW eJ a6.size;have hC:=GU eH ay a6;have hD:=Bg ay dx.lt;have hE:=dx.un a6 hD;have hF:=Bg ay dy.lt;have hG:=dy.un a6 hF;have hH:=Bg ay dz.lt;have hI:=dz.un a6 hH;have hJ:=Bg ay cF.lt;have dB:=cF.un a6 hJ;have hK:=uB dA ay a6;have kp:=Cq ay dA.size;refine Az rfl rfl cY CJ rfl rfl (λeN d a7 la=>?_);have eO:=AW eL a7.size;have hL:=Cc.upd be a7 ((λg hg e=>by first | (have:=bt g hg;omega) | exact AM be dB dD g hg e | exact AM be cY dD g hg e | (have:=(be).ltV g hg;omega) | exact BX be am dD g hg (by rw [e];rfl)));have eP:=AW eM a7.size;have hM:=Ia hC a7 ((λg hg e=>by have hg:some D=some g:=hg;cases hg;omega));have hN:=hE.up a7;have hO:=hG.up a7;have hP:=hI.up a7;have m:=dB.up a7;have dC:=CN hK oO a7;refine WL.e<|?_;have lb:=ae.row_fBytes.below dC (λE=>ae.row_fBytes.lt E);have eQ:0<x.fBytes.length->(pA x.pfBytes).block<q+1:=λE=>by have:=ae.row_fBytes.lt E;omega
    refine Dr 30 rfl C7 (λw'=>w'.heap[a3]?=eN.heap[a3]?/\w'.heap[eK]?=eN.heap[eK]?/\Av w' x.pfBytes x.fBytes/\True) (λml a8=>?_);have cZ:=CZ.le eO a8;have dE:=Cc.drew hL a8;have c':=CZ.le eP a8;have dG:=AD.drew hM a8;have cG:=hN.drew a8;have cH:=hO.drew a8;have cI:=hP.drew a8;have y:=m.drew a8;have B:=d.drew a8;have v:=lb.drew a8;have cJ:=CZ.below dC a8;refine Af 0 rfl (.mv rfl) ⟨(y).trans (m).symm,(B).trans (d).symm,v,tT⟩ rfl ?_;refine Af 1 rfl (.fa Dx rfl B5 dD rfl) ⟨(y).trans (m).symm,(B).trans (d).symm,v,tT⟩ rfl ?_;refine BY 2 rfl (λw' hw'=>Ad (Bw _) rfl ((hw'.1).trans m) rfl) ⟨(y).trans (m).symm,(B).trans (d).symm,v,tT⟩ rfl ?_;refine Af 6 rfl (.ixr1 DU B5 rfl rfl (0) (rfl) ((show 0<6 by decide))) ⟨(y).trans (m).symm,(B).trans (d).symm,v,tT⟩ rfl ?_;refine BY 7 rfl (λw' hw'=>Rd.iis ((E8 x)[0]'(show 0<6 by decide)) (AO (Bw _) rfl ((Jt ((hw'.2.1).trans d)).cells (0) ((show 0<6 by decide)))) (by rfl)) ⟨(y).trans (m).symm,(B).trans (d).symm,v,tT⟩ rfl ?_;refine Af 8 rfl (.ixr1 DU B5 rfl rfl (1) (rfl) ((show 1<6 by decide))) ⟨(y).trans (m).symm,(B).trans (d).symm,v,tT⟩ rfl ?_;refine BY 9 rfl (λw' hw'=>Rd.iis ((E8 x)[1]'(show 1<6 by decide)) (AO (Bw _) rfl ((Jt ((hw'.2.1).trans d)).cells (1) ((show 1<6 by decide)))) (by rfl)) ⟨(y).trans (m).symm,(B).trans (d).symm,v,tT⟩ rfl ?_;refine Af 10 rfl (.ixr1 DU B5 rfl rfl (2) (rfl) ((show 2<6 by decide))) ⟨(y).trans (m).symm,(B).trans (d).symm,v,tT⟩ rfl ?_;refine BY 11 rfl (λw' hw'=>Rd.iis ((E8 x)[2]'(show 2<6 by decide)) (AO (Bw _) rfl ((Jt ((hw'.2.1).trans d)).cells (2) ((show 2<6 by decide)))) (by rfl)) ⟨(y).trans (m).symm,(B).trans (d).symm,v,tT⟩ rfl ?_;refine Af 12 rfl (.ixr1 DU B5 rfl rfl (3) (rfl) ((show 3<6 by decide))) ⟨(y).trans (m).symm,(B).trans (d).symm,v,tT⟩ rfl ?_;refine BY 13 rfl (λw' hw'=>Rd.iis ((E8 x)[3]'(show 3<6 by decide)) (AO (Bw _) rfl ((Jt ((hw'.2.1).trans d)).cells (3) ((show 3<6 by decide)))) (by rfl)) ⟨(y).trans (m).symm,(B).trans (d).symm,v,tT⟩ rfl ?_
    refine Af 14 rfl (.ixr1 DU B5 rfl rfl (4) (rfl) ((show 4<6 by decide))) ⟨(y).trans (m).symm,(B).trans (d).symm,v,tT⟩ rfl ?_;refine BY 15 rfl (λw' hw'=>Rd.iis ((E8 x)[4]'(show 4<6 by decide)) (AO (Bw _) rfl ((Jt ((hw'.2.1).trans d)).cells (4) ((show 4<6 by decide)))) (by rfl)) ⟨(y).trans (m).symm,(B).trans (d).symm,v,tT⟩ rfl ?_;refine Af 16 rfl (.ixr1 DU B5 rfl rfl (5) (rfl) ((show 5<6 by decide))) ⟨(y).trans (m).symm,(B).trans (d).symm,v,tT⟩ rfl ?_;refine BY 17 rfl (λw' hw'=>Rd.iis ((E8 x)[5]'(show 5<6 by decide)) (AO (Bw _) rfl ((Jt ((hw'.2.1).trans d)).cells (5) ((show 5<6 by decide)))) (by rfl)) ⟨(y).trans (m).symm,(B).trans (d).symm,v,tT⟩ rfl ?_;refine Af 22 rfl (.fa Dx rfl G3 dD rfl) ⟨(y).trans (m).symm,(B).trans (d).symm,v,tT⟩ rfl ?_;refine BY 23 rfl (λw' hw'=>Ad (g22_ _) rfl ((hw'.1).trans m) rfl) ⟨(y).trans (m).symm,(B).trans (d).symm,v,tT⟩ rfl ?_;refine BY 24 rfl (λw' hw'=>Mc (l:=x.fBytes) Bu Lk Ju rfl ((hw'.2.2.1))) ⟨(y).trans (m).symm,(B).trans (d).symm,v,tT⟩ rfl ?_;refine Ea 3 rfl 18 rfl ?_ ?_;refine WL.c1 AN rfl rfl ((Ji x.fFont _ oO oO)) (λmm a9=>?_);have eR:=AW cZ a9.size;have hQ:=Cc.below dE a9;have eS:=AW c' a9.size;have hS:=AD.below dG a9;have dH:=cG.bl a9;have dI:=cH.bl a9;have dJ:=cI.bl a9;have bf:=y.bl a9;have bg:=B.bl a9;have bh:=GY v a9 (λE=>v.lt E);have dK:=DJ cJ a9;refine WL.e<|⟨⟨(bf).trans (m).symm,(bg).trans (d).symm,bh,tT⟩,?_⟩;refine Af 4 rfl (.cat rfl rfl (by have:=Fm x.fFont oO oO;simp only [A8,Ae];omega)) ⟨(bf).trans (m).symm,(bg).trans (d).symm,bh,tT⟩ rfl ?_;refine Af 5 rfl (.cat rfl rfl (by have:=Fm x.fFont oO oO;simp only [A5,A8,Ae];omega)) ⟨(bf).trans (m).symm,(bg).trans (d).symm,bh,tT⟩ rfl ?_;refine An 18 rfl<|Ct (ps:=_) Dh B5 PG rfl rfl rfl rfl rfl pR rfl (λmn lL ag eT J lc=>?_)
    have eU:=AW eR J.size;have hT:=Cc.new hQ ag J;have eV:=AW eS J.size;have hU:=GU hS ag J;have hV:=Bg ag dH.lt;have hW:=dH.un J hV;have hX:=Bg ag dI.lt;have hY:=dI.un J hX;have h':=Bg ag dJ.lt;have i0:=dJ.un J h';have i1:=Bg ag bf.lt;have dL:=bf.un J i1;have i2:=Bg ag bg.lt;have dM:=bg.un J i2;have eW:=λE=>ag▸bh.lt E
    have cK:=DB bh J eW;have i3:=uB dK ag J;have kq:=Cq ag dK.size;have hq:=AS.lit (V:=DW) (l:=(E8 x)) eT (rfl);refine WL.e<|⟨⟨(dL).trans (m).symm,(dM).trans (d).symm,cK,tT⟩,?_⟩;refine An 19 rfl<|WL.c1 AN rfl rfl ((HO _ (E8 x) _ _ hq (show 6<=6 by decide) a5.mat)) (λmo aa=>?_);have eX:=AW eU aa.size;have i4:=Cc.below hT aa;have eY:=AW eV aa.size;have i5:=AD.below hU aa;have i6:=hW.bl aa;have i7:=hY.bl aa;have i8:=i0.bl aa;have bG:=dL.bl aa;have bH:=dM.bl aa;have bi:=GY cK aa (λE=>cK.lt E);have i9:=DJ i3 aa;refine WL.e<|⟨⟨(bG).trans (m).symm,(bH).trans (d).symm,bi,tT⟩,?_⟩;refine Af 20 rfl (.cat rfl rfl (by have:=Fm x.fFont oO oO;have:=CI (E8 x) a5.mat;have:(E8 x).length=6:=rfl;simp only [A5,A8,Ae] at *;omega)) ⟨(bG).trans (m).symm,(bH).trans (d).symm,bi,tT⟩ rfl ?_;refine Af 21 rfl (.cat rfl rfl (by have:=Fm x.fFont oO oO;have:=CI (E8 x) a5.mat;have:(E8 x).length=6:=rfl;simp only [A5,A8,Ae] at *;omega)) ⟨(bG).trans (m).symm,(bH).trans (d).symm,bi,tT⟩ rfl ?_;refine An 25 rfl<|WL.c1 AN rfl rfl ((SU x.fBytes _ (by have:=a5.bytes.2;omega))) (λmp ab=>?_);have d0:=AW eX ab.size;have aE:=Cc.below i4 ab;have eZ:=AW eY ab.size;have bI:=AD.below i5 ab;have ia:=i6.bl ab;have ib:=i7.bl ab;have ic:=i8.bl ab;have bJ:=bG.bl ab;have bK:=bH.bl ab;have bM:=GY bi ab (λE=>bi.lt E);have id:=DJ i9 ab;refine WL.e<|⟨⟨(bJ).trans (m).symm,(bK).trans (d).symm,bM,tT⟩,?_⟩;refine Af 26 rfl (.cat rfl rfl (by have:=Fm x.fFont oO oO;have:=CI (E8 x) a5.mat;have:(E8 x).length=6:=rfl;have:=LK x.fBytes;have:=a5.bytes.2;simp only [A5,A8,Ae] at *;omega)) ⟨(bJ).trans (m).symm,(bK).trans (d).symm,bM,tT⟩ rfl ?_;refine Af 27 rfl (.sis (JR x) (.cat rfl rfl (by have:=Fm x.fFont oO oO;have:=CI (E8 x) a5.mat;have:(E8 x).length=6:=rfl;have:=LK x.fBytes;have:=a5.bytes.2;simp only [A5,A8,Ae] at *;omega)) (by simp [JR,D3])) ⟨(bJ).trans (m).symm,(bK).trans (d).symm,bM,tT⟩ rfl ?_
    refine An 28 rfl<|Gl Bu Ju Gr rfl aE rfl (by have:=SI a5;simp only [B3,A5];omega) (d0) rfl (λmq mr e' bj az=>?_);have ie:=ia.grown az (λe=>AM aE aS dD _ e rfl);have ig:=ib.grown az (λe=>AM aE aS dD _ e rfl);have ih:=ic.grown az (λe=>AM aE aS dD _ e rfl);have cL:=bJ.grown az (λe=>AM aE aS dD _ e rfl);have dN:=bK.grown az (λe=>AM aE aS dD _ e rfl);have ii:=AD.same bI (λg hg=>az.block g ((bI).lt g hg).2 (λhx=>by first | exact BX aE bI dD g hx.symm hg | exact BX OWN bI dD g hx.symm hg));have lf:=AW eZ bj.size;have dO:=GY bM bj eQ;have ij:=EZ id (bj.mono oO);have ik:=Cc.cat e';have lg:=AW d0 bj.size;refine WL.e<|⟨⟨(cL).trans (m).symm,(dN).trans (d).symm,dO,tT⟩,?_⟩;refine Af 29 rfl (.as rfl) ⟨(cL).trans (m).symm,(dN).trans (d).symm,dO,tT⟩ rfl ?_;refine Bd kR ?_
    (refine ⟨_, ⟨rfl, rfl, rfl, rfl, rfl, rfl, rfl, rfl, tT⟩, ?_⟩
     have F:=ik;rw [show oW x=JR x by unfold oW;rw [A1 oO,A1 oO,A1 oO],A6 cq];exact ⟨ij,ie,ig,ih,F,ii,cL⟩)
    refine Ct (ps:=_) Dh B5 PG rfl rfl rfl rfl rfl pR rfl (λmt lM ah f0 K lh=>?_);have f1:=AW cZ K.size;have il:=Cc.new dE ah K;have f2:=AW c' K.size;have im:=GU dG ah K;have io:=Bg ah cG.lt;have ip:=cG.un K io;have iq:=Bg ah cH.lt;have ir:=cH.un K iq;have it:=Bg ah cI.lt;have iu:=cI.un K it;have iv:=Bg ah y.lt;have dP:=y.un K iv;have iw:=Bg ah B.lt;have dQ:=B.un K iw;have f3:=λE=>ah▸v.lt E
    have cM:=DB v K f3;have iy:=uB cJ ah K;have kr:=Cq ah cJ.size;have hq:=AS.lit (V:=DW) (l:=(E8 x)) f0 (rfl);refine WL.e<|⟨⟨(dP).trans (m).symm,(dQ).trans (d).symm,cM,tT⟩,?_⟩;refine An 3 rfl<|WL.c1 AN rfl rfl ((Ji x.fFont _ oO oO)) (λmu a2=>?_);have f4:=AW f1 a2.size;have iz:=Cc.below il a2;have f5:=AW f2 a2.size;have iA:=AD.below im a2;have iB:=ip.bl a2;have iC:=ir.bl a2;have iD:=iu.bl a2;have bN:=dP.bl a2;have bO:=dQ.bl a2;have bk:=GY cM a2 (λE=>cM.lt E);have iE:=AS.below hq a2 (λE=>hq.lt E);have iF:=DJ iy a2;refine WL.e<|⟨⟨(bN).trans (m).symm,(bO).trans (d).symm,bk,tT⟩,?_⟩;refine Af 4 rfl (.cat rfl rfl (by have:=Fm x.fFont oO oO;simp only [A8,Ae];omega)) ⟨(bN).trans (m).symm,(bO).trans (d).symm,bk,tT⟩ rfl ?_;refine Af 5 rfl (.cat rfl rfl (by have:=Fm x.fFont oO oO;simp only [A5,A8,Ae];omega)) ⟨(bN).trans (m).symm,(bO).trans (d).symm,bk,tT⟩ rfl ?_;refine An 19 rfl<|WL.c1 AN rfl rfl ((HO _ (E8 x) _ _ iE (show 6<=6 by decide) a5.mat)) (λmw ac=>?_);have f6:=AW f4 ac.size;have iG:=Cc.below iz ac;have f7:=AW f5 ac.size;have iH:=AD.below iA ac;have iI:=iB.bl ac;have iJ:=iC.bl ac;have iK:=iD.bl ac;have bP:=bN.bl ac;have bQ:=bO.bl ac;have bm:=GY bk ac (λE=>bk.lt E);have iL:=DJ iF ac;refine WL.e<|⟨⟨(bP).trans (m).symm,(bQ).trans (d).symm,bm,tT⟩,?_⟩;refine Af 20 rfl (.cat rfl rfl (by have:=Fm x.fFont oO oO;have:=CI (E8 x) a5.mat;have:(E8 x).length=6:=rfl;simp only [A5,A8,Ae] at *;omega)) ⟨(bP).trans (m).symm,(bQ).trans (d).symm,bm,tT⟩ rfl ?_;refine Af 21 rfl (.cat rfl rfl (by have:=Fm x.fFont oO oO;have:=CI (E8 x) a5.mat;have:(E8 x).length=6:=rfl;simp only [A5,A8,Ae] at *;omega)) ⟨(bP).trans (m).symm,(bQ).trans (d).symm,bm,tT⟩ rfl ?_
    refine An 25 rfl<|WL.c1 AN rfl rfl ((SU x.fBytes _ (by have:=a5.bytes.2;omega))) (λmx ad=>?_);have d1:=AW f6 ad.size;have aF:=Cc.below iG ad;have f8:=AW f7 ad.size;have bR:=AD.below iH ad;have iM:=iI.bl ad;have iN:=iJ.bl ad;have iO:=iK.bl ad;have bS:=bP.bl ad;have bT:=bQ.bl ad;have bU:=GY bm ad (λE=>bm.lt E);have iP:=DJ iL ad;refine WL.e<|⟨⟨(bS).trans (m).symm,(bT).trans (d).symm,bU,tT⟩,?_⟩;refine Af 26 rfl (.cat rfl rfl (by have:=Fm x.fFont oO oO;have:=CI (E8 x) a5.mat;have:(E8 x).length=6:=rfl;have:=LK x.fBytes;have:=a5.bytes.2;simp only [A5,A8,Ae] at *;omega)) ⟨(bS).trans (m).symm,(bT).trans (d).symm,bU,tT⟩ rfl ?_;refine Af 27 rfl (.sis (JR x) (.cat rfl rfl (by have:=Fm x.fFont oO oO;have:=CI (E8 x) a5.mat;have:(E8 x).length=6:=rfl;have:=LK x.fBytes;have:=a5.bytes.2;simp only [A5,A8,Ae] at *;omega)) (by simp [JR,D3])) ⟨(bS).trans (m).symm,(bT).trans (d).symm,bU,tT⟩ rfl ?_;refine An 28 rfl<|Gl Bu Ju Gr rfl aF rfl (by have:=SI a5;simp only [B3,A5];omega) (d1) rfl (λmy mz f9 bn aA=>?_);have iQ:=iM.grown aA (λe=>AM aF aS dD _ e rfl);have iR:=iN.grown aA (λe=>AM aF aS dD _ e rfl);have iS:=iO.grown aA (λe=>AM aF aS dD _ e rfl);have cN:=bS.grown aA (λe=>AM aF aS dD _ e rfl);have dR:=bT.grown aA (λe=>AM aF aS dD _ e rfl);have iT:=AD.same bR (λg hg=>aA.block g ((bR).lt g hg).2 (λhx=>by first | exact BX aF bR dD g hx.symm hg | exact BX OWN bR dD g hx.symm hg));have li:=AW f8 bn.size;have dS:=GY bU bn eQ;have iU:=EZ iP (bn.mono oO);have iV:=Cc.cat f9;have lj:=AW d1 bn.size;refine WL.e<|⟨⟨(cN).trans (m).symm,(dR).trans (d).symm,dS,tT⟩,?_⟩;refine Af 29 rfl (.as rfl) ⟨(cN).trans (m).symm,(dR).trans (d).symm,dS,tT⟩ rfl ?_;refine Bd kR ?_
    (refine ⟨_, ⟨rfl, rfl, rfl, rfl, rfl, rfl, rfl, rfl, tT⟩, ?_⟩
     have F:=iV;rw [show oW x=JR x by unfold oW;rw [A1 oO,A1 oO,A1 oO],A6 cq];exact ⟨iU,iQ,iR,iS,F,iT,cN⟩)
    obtain ⟨vv,rfl⟩:∃ vv,vv=t:=⟨t,rfl⟩;obtain ⟨j1,j2,j3,j4,P,Q,j7⟩:=hR;have G:=j4.lt;have bu:=Q.lt D rfl;obtain ⟨pv,cv,evv,fb,-,js,lk⟩:=Lj P;subst evv;refine A4<|A2 rfl<|A0 (.lenS Bu rfl)<|A0 (.gtr rfl rfl)<|WL.e<|Ac rfl (λdd=>?_) (λdd=>?_)
    · have iW := dT dd
      refine A4<|Dp rfl<|Dp rfl<|A9 rfl<|Ai (Y2 rfl rfl rfl rfl ?_);exact ⟨.inl rfl,j1⟩
    have iW:=dF dd;refine W.k<|Ak<|A2 rfl<|A0 (.add rfl rfl (Bp oO))<|A9 rfl ?_;have dU:=RF x (pg.fItems.take i) Hw;have cO:pg.fItems.take (i+1)=pg.fItems.take i++[x]:=by rw [B7 dl,hx]
    rw [<- dk,q7] at dU;rw [<- cO] at dU;have jt:T4++EB x.fPath++oW x=(I0 Hw (pg.fItems.take (i+1))).1:=by
      rw [dU,ez,kf,jm,jl];unfold O5;simp only [AE]
    have ll:(I0 Hw (pg.fItems.take (i+1))).2=Pb st x:=by rw [dU]
    have F:Cc 5 (q+1) w1 (.slice pv (T4++EB x.fPath++oW x).length cv) (AI (I0 Hw (pg.fItems.take (i+1))).1):=by rw [<- jt];exact P
    refine ⟨(i+1,Pb st x,x.pfClips,x.cfClips,_,if x.fKind=4 then us.set x.fFont.toNat true else us),⟨rfl,rfl,rfl,rfl,rfl,rfl,rfl,tT⟩,⟨j1,j2,j3,j4,F,Q,ll,A8h q8 ae aq,?_,?_,by ((try simp only) <;> omega),by show (I0 Hw (pg.fItems.take (i+1))).1.length<=1048576;rw [<- jt];omega⟩,by ((try simp only) <;> omega)⟩
    · show (if x.fKind = 4 then us.set x.fFont.toNat true else us).length = 14
      split
      · rw [List.length_set];exact q9
      · exact q9
    · exact λj hj lm ln=>A3L hx q9 e3 hj lm ln (λh4=>(aq.txt h4).font)
  have jI:=dF e5;have dl:i=pg.fItems.length:=by first | omega | (simp only at *;omega)
  have fc:=YX pg.fItems Hw;have lo:pg.fItems.take i=pg.fItems:=by rw [dl,Cs]
  rw [lo] at dk q7;rw [<- dk,q7] at fc;refine C0<|D4 (α:=Value) (λt=>[(5,t),(9,.slice (some ⟨D,0,none⟩) 14 14)]) (λt w'=>Below w.heap.size w w'/\Cc 5 (q+1) w' t (AI (FP Hw pg.fItems))/\AD Je 4 (q+1) w' (.slice (some ⟨D,0,none⟩) 14 14) us) ?_ (λt w1 hR=>?_);refine A4<|A2 rfl<|A0 (.lenS Fi rfl)<|A0 (.gtr rfl rfl)<|WL.e<|Ac rfl (λde=>?_) (λde=>?_)
  · have iX := dT de
    refine Ak<|A2 rfl<|Gl Bu Ju Gr rfl q5 rfl (by simp only [B3,A5,A8,Ae];omega) (b2) rfl (λmA mB fd co fe=>?_);have iY:=AD.same q6 (λg hg=>fe.block g ((q6).lt g hg).2 (λhx=>by first | exact BX q5 q6 dD g hx.symm hg | exact BX OWN q6 dD g hx.symm hg));have lp:=AW b2 co.size;have iZ:=EZ q1 (co.mono oO);have i':=Cc.cat fd;have lq:=AW b2 co.size;refine A9 rfl ?_
    (refine ⟨_, ⟨rfl, rfl, tT⟩, iZ, ?_, iY⟩
     have F:=i';rw [fc,A1 (λE=>by rw [List.isEmpty_iff] at E;have hq:(0:Int)<(st.clips.length:Int):=aS;rw [E] at hq;exact CM hq dD)];exact F)
  have iX:=dF de;refine W.k ?_
  (refine ⟨_, ⟨rfl, rfl, tT⟩, q1, ?_, q6⟩
   have F:=q5;rw [fc,A6 (by rw [List.isEmpty_iff];exact Cp.1 oO),BK];exact F)
  obtain ⟨vv,rfl⟩:∃ vv,vv=t:=⟨t,rfl⟩;obtain ⟨j1,P,Q⟩:=hR;have G:q+1<=w1.heap.size:=by have:=Q.lt D rfl;omega
  have bu:=Q.lt D rfl;obtain ⟨pv,cv,evv,fb,mY,js,lk⟩:=Lj P;subst evv;have lr:0<(FP Hw pg.fItems).length->(pA pv).block<w1.heap.size:=fb.lt;have hZ:w.heap.size<=q+1:=by omega
  obtain ⟨wz,ls⟩:∃ wz,wz=w1:=⟨_,rfl⟩;subst ls;have mZ:=j1.size;refine Ah<|A4<|A2 rfl<|A0 (.lenS Bu rfl)<|A0 (.gtr rfl rfl)<|WL.e<|Ac rfl (λdf=>?_) (λdf=>?_)
  · have j0 := dT df
    refine A4<|Dp rfl<|Dp rfl<|A9 rfl<|Ai (Y2 rfl rfl rfl rfl ?_);exact ⟨.inl rfl,j1⟩
  have j0:=dF df;refine W.k<|A4<|A9 rfl<|Ah<|A4<|A9 rfl<|W.b<|Cj (α:=Nat × Value) (λt=>[(5,.slice pv (FP Hw pg.fItems).length cv),(9,.slice (some ⟨D,0,none⟩) 14 14),(15,t.2),(16,.int .i64 (t.1:Int))]) (λt w'=>Below w.heap.size w w'/\Av w' pv (FP Hw pg.fItems)/\AD Je 4 (q+1) w' (.slice (some ⟨D,0,none⟩) 14 14) us/\Cc 3 wz.heap.size w' t.2 ((K3 us t.1).map DW)/\t.1<=14/\wz.heap.size<=w'.heap.size) (λt=>14-t.1) ((0,.slice none 0 0)) ⟨rfl,rfl,rfl,rfl,tT⟩ (⟨j1,fb,Q,Cc.nil _ _ _,Gg _,FL _⟩) (λt w1 hR=>?_);obtain ⟨⟨k,vf⟩,cO⟩:∃ u,u=t:=⟨t,rfl⟩;subst cO;obtain ⟨z1,z2,z3,z4,z5,dg⟩:=hR;simp only at z4 z5;have dw:=Wn z3.rowp;have m':0<us.length->D<wz.heap.size:=λ_=>bu.2
  have jr:=A0s us k
  show W Tryz.prog _ _ _ [(5,.slice pv (FP Hw pg.fItems).length cv),(9,.slice (some ⟨D,0,none⟩) 14 14),(15,vf),(16,.int .i64 (k:Int))] w1
  refine Ah<|A4<|A2 rfl<|A0 (.lss rfl rfl)<|WL.e<|Ac rfl (λdh=>?_) (λdh=>?_)
  · have j8 := dT dh
    have bW:k<14:=by first | omega | (simp only at *;omega)
    have dV:k<us.length:=by omega
    refine W.k<|D4 (α:=Value) (λt=>[(5,.slice pv (FP Hw pg.fItems).length cv),(9,.slice (some ⟨D,0,none⟩) 14 14),(15,t),(16,.int .i64 (k:Int))]) (λt w'=>Below w.heap.size w w'/\Av w' pv (FP Hw pg.fItems)/\AD Je 4 (q+1) w' (.slice (some ⟨D,0,none⟩) 14 14) us/\Cc 3 wz.heap.size w' t ((K3 us (k+1)).map DW)/\wz.heap.size<=w'.heap.size) ?_ (λt w1 hR=>?_);refine W.b<|A4<|A2 rfl<|A2 rfl<|A0 (.ixb underlying82 Ot (by show some (Value.slice (some ⟨D,0,none⟩) 14 14)=some (Value.slice (some ⟨D,0,none⟩) us.length 14);rw [q9]) rfl (dw.isp oD) (k) (rfl) (dV))<|Ag (AO (g4_ _) rfl (dw.cells (k) (dV)))<|WL.e<|Ac rfl (λkl=>?_) (λkl=>?_);refine Ak<|A2 rfl<|A2 rfl<|Ct (ps:=_) Dh B5 PG rfl rfl rfl rfl rfl pR rfl (λmC lN bo ff aB lu=>?_);have fg:=AW dg aB.size;have bV:=GU z3 bo aB;have d2:=AW dg aB.size;have dW:=Cc.new z4 bo aB;have fh:=λE=>bo▸z2.lt E
    have j9:=Av.upd z2 aB (λE=>Js (fh E));have ja:=uB z1 bo aB;have ks:=Cq bo z1.size;refine ED Dh VL rfl rfl rfl dW rfl ff rfl (by rw [BD];omega) (d2) rfl (λmD mE fi bp fj=>?_);have jb:=AD.same bV (λg hg=>fj.block g ((bV).lt g hg).2 (λhx=>by first | exact BX OWN bV dD g hx.symm hg | exact BX dW bV dD g hx.symm hg));have lv:=AW fg bp.size;have jc:=GY j9 bp lr;have jd:=EZ ja (bp.mono oO);have fk:=AW d2 bp.size;refine A9 rfl ?_;exact ⟨_,⟨rfl,rfl,rfl,rfl,tT⟩,jd,jc,jb,by rw [Rr,A6 (show us.getD k false=true by rw [BW,A7 dV];assumption),BC];exact fi,fk⟩;refine W.k ?_;exact ⟨_,⟨rfl,rfl,rfl,rfl,tT⟩,z1,z2,z3,by rw [Rr,A1 (show ¬ us.getD k false=true by rw [BW,A7 dV];show ¬ us[k]=true;simp_all)];exact z4,dg⟩;obtain ⟨n0,rfl⟩:∃ vv,vv=t:=⟨t,rfl⟩;obtain ⟨y1,y2,y3,y4,km⟩:=hR;refine Ak<|A2 rfl<|A0 (.iis (((k+1:Nat):Int)) (.add rfl rfl (Bp oO)) oO)<|A9 rfl ?_;exact ⟨(k+1,_),⟨rfl,rfl,rfl,rfl,tT⟩,⟨y1,y2,y3,y4,by ((try simp only) <;> omega),km⟩,by ((try simp only) <;> omega)⟩
  have j8:=dF dh;have bW:k=14:=by first | omega | (simp only at *;omega)
  refine C0<|A4<|A2 rfl<|A2 rfl<|Dp rfl<|Dp rfl<|A9 rfl<|Ai (Y2 rfl rfl rfl rfl ?_);obtain ⟨pf,cf,evf,lw,-⟩:=Cc.row (V:=DW) (l:=K3 us k) z4;subst evf;subst bW;exact ⟨.inr ⟨pv,cv,pf,cf,K3 us 14,rfl,z2,js,lw,by omega,λf hf=>by have:=A2D hf;omega,λx hx h4=>by
    obtain ⟨j,hj,rfl⟩:=List.mem_iff_getElem.1 hx;have jq:=((A2r (hs _ hx)).txt h4).font;exact A0t jq.1 oO (e3 j hj oO h4)⟩,z1⟩
end
section
theorem L6 {x:AQ} (hc:Fc x.fColor=true) (hl:EQ x.fClips=true) (h:x.fKind=4):Et x=(He x && decide ((x.fPath.length:Int)=0) && JX x.fPen):=by unfold Et;rw [hc,hl,A6 h];rfl
theorem Ue {x:AQ} (hc:Fc x.fColor=true) (hl:EQ x.fClips=true) (h:¬ x.fKind=4) (hr:LP x=true):Et x=(if x.fKind=1\/x.fKind=2 then JX x.fPen else if x.fKind=3 then Kw x.fPen else false):=by unfold Et;rw [hc,hl,A1 h,hr];rfl
theorem A4y {x:AQ} (h:¬ x.fKind=4) (hr:LP x=false):Et x=false:=by unfold Et;rw [A1 h,hr];simp
theorem YF {x:AQ} (h:Fc x.fColor=false):Et x=false:=by unfold Et;rw [h];rfl
theorem YE {x:AQ} (h:EQ x.fClips=false):Et x=false:=by unfold Et;rw [h];simp
def Lm (x:AQ):Bool:=!decide (x.fFont=0) || !OW x || decide ((x.fBytes.length:Int) > 0) || decide ((x.fPath.length:Int)=0) || !Fk x.fPath
theorem V0 (x:AQ):LP x=!Lm x:=by
 have e:decide ((x.fBytes.length:Int) > 0)=!decide ((x.fBytes.length:Int)=0):=by rw [AU];simp only [Ab,AH,Aq];omega
 unfold LP Lm;rw [e]
 cases decide (x.fFont=0) <;> cases OW x <;> cases decide ((x.fBytes.length:Int)=0) <;> cases decide ((x.fPath.length:Int)=0) <;> cases Fk x.fPath <;> rfl
theorem ZK {x:AQ} (h:Lm x=false):LP x=true:=by rw [V0,h];rfl
def NS (x:KN):Bool:=MP x.fWidth && MP x.fHeight && decide ((x.fItems.length:Int)<=4096) && x.fItems.all Et
end
section
def IT (x:AQ):Bool:=decide (x.fFont ≥ 0) && decide (x.fFont<=13) && decide ((x.fBytes.length:Int) ≥ 1) && decide ((x.fBytes.length:Int)<=65535) && decide ((x.fPath.length:Int)=0) && JX x.fPen
theorem VG {x:AQ} (h:(E8 x).all Ao=true):IT x=(He x && decide ((x.fPath.length:Int)=0) && JX x.fPen):=by
 unfold IT He;rw [h,Bool.and_true]
theorem VH {x:AQ} (h:(E8 x).all Ao=false):He x=false:=by unfold He;rw [h,N0]
def Ks (x:AQ):Bool:=decide (x.fKind<1) || decide (x.fKind > 3) || Lm x
theorem A4z {x:AQ} (hc:Fc x.fColor=true) (hl:EQ x.fClips=true) (h:¬ x.fKind=4) (hr:Ks x=true):Et x=false:=by
 cases hq:LP x with
 | false=>exact A4y h hq
 | true =>
  have a:Lm x=false:=by rw [V0] at hq;simpa using hq
  unfold Ks at hr
  rw [a,Bool.or_false,Bo,Ab,Ab] at hr
  rw [Ue hc hl h hq,A1 oO,A1 oO]
theorem A0E {l:List Bv} (h1:(l.length:Int)<=16) (h:∀ j (hj:j<l.length),G5 l[j]=true):EQ l=true:=by
 unfold EQ;rw [Aj h1,Ut h];rfl
theorem A31 {l:List Bv} {j:Nat} (hj:j<l.length) (h:G5 l[j]=false):EQ l=false:=by
 unfold EQ;rw [Qb hj h,N0]
theorem S4 (x:AQ) (w:World) (hx:I3 w x):Calls Tryz.prog 9 #[.agg (FF x).toArray] w λe w'=>e=.returned (.bool (Et x))/\Below w.heap.size w w':=by
 have bo:0<x.fClips.length->(pA x.pfClips).block<w.heap.size:=λh0=>hx.row_fClips.lt h0
 refine W.e func9 rfl ntmps9 bL ?_
 have ai:=EM (w.heap.size) w
 refine A4<|CU rfl rfl (λT bp aj X ax bk=>?_)
 have ak:=uB ai aj ax
 have bi:=Cq aj ai.size
 refine A9 rfl<|A4<|A0 (.fa Dx rfl JH dD rfl)<|Ag (Ck (L:=FX) GH rfl EJ X (x.fColor) (rfl) rfl)<|BV zeroValue37 rfl (λb3 bq a4 ay a5 bm=>?_)
 have b6:=Bg a4 X.lt
 have b7:=X.un a5 b6
 have b8:=uB ak a4 a5
 have bj:=Cq a4 ak.size
 refine Az rfl rfl ay EJ rfl rfl (λw7 E a6 bn=>?_)
 have am:=b7.up a6
 have a0:=CN b8 oO a6
 refine WL.e<|Ah<|Fd 22 (!J1 x.fColor.fSpace) ?_ ?_
 refine Ak<|A0 (.fa GH rfl B5 dD rfl)<|Ag (Ad (Bw _) rfl E rfl)<|A0 (.neq rfl rfl)<|A2 rfl<|B1 rfl rfl rfl (λF=>?_) (λF=>?_)
 have az:=JY F
 refine A0 (.fa GH rfl B5 dD rfl)<|As F<|Ag (Ad (Bw _) rfl E rfl)<|As F<|A0 (.neq rfl rfl)<|A0 (.pkT rfl F rfl)<|A2 rfl<|B1 rfl rfl rfl (λG=>?_) (λG=>?_)
 have aA:=JY G
 refine A0 (.fa GH rfl B5 dD rfl)<|As G<|Ag (Ad (Bw _) rfl E rfl)<|As G<|A0 (.neq rfl rfl)<|A0 (.pkT rfl G rfl)<|WL.e<|?_
 exact ⟨G8 (Cy rfl (by unfold J1;simp_all)),rfl⟩
 have aA:=JZ G
 refine Aa G<|Aa G<|A0 (.pkF rfl G rfl)<|WL.e<|?_
 exact ⟨G8 (Cy rfl (by unfold J1;simp_all)),rfl⟩
 have az:=JZ F
 refine Aa F<|Aa F<|A0 (.pkF rfl F rfl)<|A2 rfl<|Aa rfl<|Aa rfl<|Aa rfl<|A0 (.pkF rfl rfl rfl)<|WL.e<|?_
 exact ⟨G8 (Cy rfl (by unfold J1;simp_all)),rfl⟩
 refine Ac rfl (λb9=>?_) (λb9=>?_)
 refine A4<|A9 rfl<|Ai (AZ rfl rfl ?_)
 exact ⟨Bl (by rw [YF (by unfold Fc;rw [show J1 x.fColor.fSpace=false from by simpa using (show (!J1 _)=true by assumption)];rfl)]),a0⟩
 have ba:J1 x.fColor.fSpace=true:=by simp_all
 refine W.k<|Ah<|A4<|A9 rfl<|W.b<|Cj (α:=Nat) (λt=>[(1,.pointer (some ⟨T,0,none⟩)),(3,.pointer (some ⟨b3,0,none⟩)),(4,.int .i64 (t:Int))]) (λt w'=>w7=w'/\t<=4/\∀ i (hi:i<(Cl x.fColor).length),i<t->J9 x.fColor i hi=true) (λt=>4-t) (0) ⟨rfl,rfl,rfl,tT⟩ (⟨rfl,by decide,λi _ h=>CM h oO⟩) (λt w1 hR=>?_)
 obtain ⟨k,rfl⟩:∃ k,k=t:=⟨t,rfl⟩
 obtain ⟨rfl,hk,a7⟩:=hR
 refine Ah<|A4<|A2 rfl<|A0 (.lss rfl rfl)<|WL.e<|Ac rfl (λa8=>?_) (λa8=>?_)
 have aB:=dT a8
 have an:k<(Cl x.fColor).length:=by simp [Cl];omega
 refine W.k<|Ah<|W.b<|Fd 51 (!J9 x.fColor k an) ?_ ?_
 refine Ak<|A2 rfl<|A0 (.fa GH rfl sizeOf35 dD rfl)<|A0 (.ixr1 UH B5 rfl rfl (k) (rfl) oO)<|Ag (AO (Bw _) rfl ((Mr E).cells (k) oO))<|A0 (.lss rfl rfl)<|A2 rfl<|B1 rfl rfl rfl (λg=>?_) (λg=>?_)
 have aC:=dF g
 refine A2 rfl<|As g<|A0 (.fa GH rfl sizeOf35 dD rfl)<|As g<|A0 (.ixr1 UH B5 rfl rfl (k) (rfl) oO)<|As g<|Ag (AO (Bw _) rfl ((Mr E).cells (k) oO))<|As g<|A0 (.gtr rfl rfl)<|A0 (.pkF rfl g rfl)<|A2 rfl<|B1 rfl rfl rfl (λf=>?_) (λf=>?_)
 have aD:=dF f
 refine A2 rfl<|As f<|A0 (.fa GH rfl B5 dD rfl)<|As f<|Ag (Ad (Bw _) rfl E rfl)<|As f<|A0 (.geq rfl rfl)<|As f<|A2 rfl<|B1 rfl rfl rfl (λl=>?_) (λl=>?_)
 have aE:=dT l
 refine A2 rfl<|As l<|A0 (.fa GH rfl sizeOf35 dD rfl)<|As l<|A0 (.ixr1 UH B5 rfl rfl (k) (rfl) oO)<|As l<|Ag (AO (Bw _) rfl ((Mr E).cells (k) oO))<|As l<|A0 (.neq rfl rfl)<|As f<|A0 (.pkT rfl l rfl)<|A0 (.pkF rfl f rfl)<|WL.e<|?_
 exact ⟨G8 (Cy rfl (by unfold J9;first | (simp_all;done) | (simp_all <;> (intros;omega)))),rfl⟩
 have aE:=dF l
 refine Aa l<|Aa l<|Aa l<|Aa l<|As f<|A0 (.pkF rfl l rfl)<|A0 (.pkF rfl f rfl)<|WL.e<|?_
 exact ⟨G8 (Cy rfl (by unfold J9;first | (simp_all;done) | (simp_all <;> (intros;omega)))),rfl⟩
 have aD:=dT f
 refine Aa f<|Aa f<|Aa f<|Aa f<|FN<|FN<|FN<|FN<|FN<|Aa f<|A0 (.pkT rfl f rfl)<|WL.e<|?_
 exact ⟨G8 (Cy rfl (by unfold J9;first | (simp_all;done) | (simp_all <;> (intros;omega)))),rfl⟩
 have aC:=dT g
 refine Aa g<|Aa g<|Aa g<|Aa g<|A0 (.pkT rfl g rfl)<|A2 rfl<|Aa rfl<|Aa rfl<|Aa rfl<|Aa rfl<|Aa rfl<|FN<|FN<|FN<|FN<|FN<|Aa rfl<|A0 (.pkT rfl rfl rfl)<|WL.e<|?_
 exact ⟨G8 (Cy rfl (by unfold J9;first | (simp_all;done) | (simp_all <;> (intros;omega)))),rfl⟩
 refine Ac rfl (λbb=>?_) (λbb=>?_)
 refine A4<|A9 rfl<|Ai (AZ rfl rfl ?_)
 exact ⟨Bl (by rw [YF (A0D an (by simpa using (show (!J9 _ _ _)=true by assumption)))]),a0⟩
 refine W.k<|Ak<|A2 rfl<|A0 (.iis (((k+1:Nat):Int)) (.add rfl rfl (Bp oO)) oO)<|A9 rfl ?_
 exact ⟨k+1,⟨rfl,rfl,rfl,tT⟩,⟨rfl,by ((try simp only) <;> omega),λj hj h=>by
  rcases Cb.1 h with h2 | rfl;exact a7 j hj h2
  simp_all⟩,by ((try simp only) <;> omega)⟩
 have aB:=dF a8
 have C:Fc x.fColor=true:=XV ba λi hi=>a7 i hi (by have h4:i<4:=hi;omega)
 refine C0<|Ah<|A4<|A0 (.fa Dx rfl GA dD rfl)<|Ag (Ad (Kj _) rfl am rfl)<|A0 (.lenS Fi rfl)<|A0 (.gtr rfl rfl)<|WL.e<|Ac rfl (λa9=>?_) (λa9=>?_)
 have aF:=dT a9
 refine A4<|A9 rfl<|Ai (AZ rfl rfl ?_)
 exact ⟨Bl (by rw [YE (by unfold EQ;rw [Al oO];rfl)]),a0⟩
 have aF:=dF a9
 have aG:(x.fClips.length:Int)<=16:=by omega
 refine W.k<|Ah<|A4<|A9 rfl<|W.b<|Cj (α:=Nat) (λt=>[(1,.pointer (some ⟨T,0,none⟩)),(5,.int .i64 (t:Int))]) (λt w'=>Below w.heap.size w w'/\AF w' T (FF x).toArray 44/\t<=x.fClips.length/\∀ j (hj:j<x.fClips.length),j<t->G5 x.fClips[j]=true) (λt=>x.fClips.length-t) (0) ⟨rfl,rfl,tT⟩ (⟨a0,am,Gg _,λj _ h=>CM h oO⟩) (λt w1 hR=>?_)
 obtain ⟨i,rfl⟩:∃ i,i=t:=⟨t,rfl⟩
 obtain ⟨hT,o,hi,ao⟩:=hR
 have a1:=(hx.below hT).row_fClips
 refine Ah<|A4<|A2 rfl<|A0 (.fa Dx rfl GA dD rfl)<|Ag (Ad (Kj _) rfl o rfl)<|A0 (.lenS Fi rfl)<|A0 (.lss rfl rfl)<|WL.e<|Ac rfl (λaa=>?_) (λaa=>?_)
 have aH:=dT aa
 have ap:i<x.fClips.length:=by omega
 have aq:=hx.all_fClips _ (AJ ap)
 have ar:x.fClips[i].fPath.isEmpty=decide ((x.fClips[i].fPath.length:Int)=0):=by cases x.fClips[i].fPath <;> simp <;> omega
 refine W.k<|Ah<|W.b<|D4 (α:=Unit) (λt=>[(1,.pointer (some ⟨T,0,none⟩)),(5,.int .i64 (i:Int)),(80,.bool (!G5 x.fClips[i]))]) (λt w'=>Below w.heap.size w w'/\AF w' T (FF x).toArray 44) ?_ (λt w1 hR=>?_)
 refine Ak<|A0 (.fa Dx rfl GA dD rfl)<|Ag (Ad (Kj _) rfl o rfl)<|A2 rfl<|A0 (.ixm Fi Kr rfl rfl (a1.isp oC) (i) (rfl) oO)<|A0 (.fa PH rfl IL dD rfl)<|Ag (AO (JL _) rfl ((a1.field (i) oC 0 dD).trans rfl))<|A0 (.lenS Fj rfl)<|A0 (.eql rfl rfl)<|A2 rfl<|B1 rfl rfl rfl (λd=>?_) (λd=>?_)
 have aI:=dF d
 refine A0 (.fa Dx rfl GA dD rfl)<|As d<|Ag (Ad (Kj _) rfl o rfl)<|As d<|A2 rfl<|As d<|A0 (.ixm Fi Kr rfl rfl (a1.isp oC) (i) (rfl) oO)<|As d<|A0 (.fa PH rfl IL dD rfl)<|As d<|Ag (AO (JL _) rfl ((a1.field (i) oC 0 dD).trans rfl))<|As d<|WL.c1 AN rfl rfl ((MQ _ _ _ _ (aq.below hT).row_fPath aq.sl_fPath.len)) (λbt ab=>?_)
 have aJ:=o.bl ab
 have aK:=DJ hT ab
 refine As d<|A0 (.not rfl)<|A0 (.pkF rfl d rfl)<|WL.e<|?_
 exact ⟨(),⟨rfl,rfl,Cy rfl (by unfold G5;rw [ar];simp_all),tT⟩,aK,aJ⟩
 have aI:=dT d
 refine Aa d<|Aa d<|Aa d<|Aa d<|Aa d<|Aa d<|Aa d<|A0 (.pkT rfl d rfl)<|WL.e<|?_
 exact ⟨(),⟨rfl,rfl,Cy rfl (by unfold G5;rw [ar];simp_all),tT⟩,hT,o⟩
 obtain ⟨au,bc⟩:=hR
 refine Ac rfl (λbd=>?_) (λbd=>?_)
 refine A4<|A9 rfl<|Ai (AZ rfl rfl ?_)
 exact ⟨Bl (by rw [YE (A31 ap (by simpa using (show (!G5 _)=true by assumption)))]),au⟩
 refine W.k<|Ak<|A2 rfl<|A0 (.iis (((i+1:Nat):Int)) (.add rfl rfl (Bp oO)) oO)<|A9 rfl ?_
 exact ⟨i+1,⟨rfl,rfl,tT⟩,⟨au,bc,by ((try simp only) <;> omega),λj hj h=>by
  rcases Cb.1 h with h2 | rfl;exact ao j hj h2
  simp_all⟩,by ((try simp only) <;> omega)⟩
 have aH:=dF aa
 have D:EQ x.fClips=true:=A0E aG λj hj=>ao j hj oO
 refine C0<|A4<|A0 (.fa Dx rfl MJ dD rfl)<|Ag (Ck (L:=Vp) CT rfl HY o (x.fPen) (rfl) rfl)<|?_
 refine A0 (.buildL (ps:=_) A7W rfl rfl rfl pZ) ?_
 refine WL.c1 AN rfl rfl ((by have h:=Pk x.fPen A6a _ (hx.below hT).ok_fPen.row_fDash AS.none hx.ok_fPen.sl_fDash.len;rw [ZW] at h;exact h)) (λbe ac=>?_)
 have a:=o.bl ac
 have c:=DJ hT ac
 refine A9 rfl<|Ah<|A4<|A0 (.fa Dx rfl B5 dD rfl)<|Ag (Ad (Bw _) rfl a rfl)<|A0 (.eql rfl rfl)<|WL.e<|Ac rfl (λad=>?_) (λad=>?_)
 have aL:=dT ad
 refine Ah<|A4<|A9 rfl<|W.b<|Cj (α:=Nat) (λt=>[(1,.pointer (some ⟨T,0,none⟩)),(6,.bool (JX x.fPen)),(7,.int .i64 (t:Int))]) (λt w'=>be=w'/\t<=6/\∀ i (hi:i<(E8 x).length),i<t->Ao (E8 x)[i]=true) (λt=>6-t) (0) ⟨rfl,rfl,rfl,tT⟩ (⟨rfl,by decide,λi _ h=>CM h oO⟩) (λt w1 hR=>?_)
 obtain ⟨m,rfl⟩:∃ k,k=t:=⟨t,rfl⟩
 obtain ⟨rfl,hm,av⟩:=hR
 refine Ah<|A4<|A2 rfl<|A0 (.lss rfl rfl)<|WL.e<|Ac rfl (λae=>?_) (λae=>?_)
 have aM:=dT ae
 have bf:m<(E8 x).length:=by simp [E8];omega
 refine W.k<|Ah<|W.b<|A4<|A2 rfl<|A0 (.fa Dx rfl IK dD rfl)<|A0 (.ixr1 DU B5 rfl rfl (m) (rfl) oO)<|Ag (AO (Bw _) rfl ((A2h a).cells (m) oO))<|WL.c1 AN rfl rfl ((H7 _ _)) (λbu aN=>?_)
 obtain rfl:=aN
 refine A0 (.not rfl)<|WL.e<|Ac rfl (λaf=>?_) (λaf=>?_)
 have aO:=(nT af)
 refine A4<|A9 rfl<|Ai (AZ rfl rfl ?_)
 exact ⟨Bl (by rw [L6 C D aS,VH (Qb bf (by simpa using (show (!Ao _)=true by assumption)))];rfl),c⟩
 have aO:=(nF af)
 refine W.k<|Ak<|A2 rfl<|A0 (.iis (((m+1:Nat):Int)) (.add rfl rfl (Bp oO)) oO)<|A9 rfl ?_
 exact ⟨m+1,⟨rfl,rfl,rfl,tT⟩,⟨rfl,by ((try simp only) <;> omega),λj hj h=>by
  rcases Cb.1 h with h2 | rfl;exact av j hj h2
  simp_all⟩,by ((try simp only) <;> omega)⟩
 have aM:=dF ae
 have bg:(E8 x).all Ao=true:=Ut λi hi=>av i hi (by have h6:i<6:=hi;omega)
 have Q:=VG bg
 refine C0<|A4<|A0 (.fa Dx rfl B5 dD rfl)<|Ag (Ad (Bw _) rfl a rfl)<|A0 (.geq rfl rfl)<|A2 rfl<|B1 rfl rfl rfl (λH=>?_) (λH=>?_)
 have aP:=dT H
 refine A0 (.fa Dx rfl B5 dD rfl)<|As H<|Ag (Ad (Bw _) rfl a rfl)<|As H<|A0 (.leq rfl rfl)<|A0 (.pkT rfl H rfl)<|A2 rfl<|B1 rfl rfl rfl (λq=>?_) (λq=>?_)
 have aQ:=dT q
 refine A0 (.fa Dx rfl G3 dD rfl)<|As q<|Ag (Ad (g22_ _) rfl a rfl)<|As q<|A0 (.lenS Bu rfl)<|As q<|A0 (.geq rfl rfl)<|A0 (.pkT rfl q rfl)<|A2 rfl<|B1 rfl rfl rfl (λs=>?_) (λs=>?_)
 have aR:=dT s
 refine A0 (.fa Dx rfl G3 dD rfl)<|As s<|Ag (Ad (g22_ _) rfl a rfl)<|As s<|A0 (.lenS Bu rfl)<|As s<|A0 (.leq rfl rfl)<|A0 (.pkT rfl s rfl)<|A2 rfl<|B1 rfl rfl rfl (λu=>?_) (λu=>?_)
 have aT:=dT u
 refine A0 (.fa Dx rfl IL dD rfl)<|As u<|Ag (Ad (JL _) rfl a rfl)<|As u<|A0 (.lenS Fj rfl)<|As u<|A0 (.eql rfl rfl)<|A0 (.pkT rfl u rfl)<|A2 rfl<|B1 rfl rfl rfl (λV=>?_) (λV=>?_)
 have aU:=dT V
 refine A2 rfl<|A0 (.pkT rfl V rfl)<|A9 rfl<|Ai (AZ rfl rfl ?_)
 exact ⟨Bl (by rw [L6 C D aS,<- Q];unfold IT;first | (simp_all;done) | (simp_all <;> omega)),c⟩
 have aU:=dF V
 refine A0 (.pkF rfl V rfl)<|A9 rfl<|Ai (AZ rfl rfl ?_)
 exact ⟨Bl (by rw [L6 C D aS,<- Q];unfold IT;first | (simp_all;done) | (simp_all <;> omega)),c⟩
 have aT:=dF u
 refine Aa u<|Aa u<|Aa u<|A0 (.pkF rfl u rfl)<|A2 rfl<|Aa rfl<|A0 (.pkF rfl rfl rfl)<|A9 rfl<|Ai (AZ rfl rfl ?_)
 exact ⟨Bl (by rw [L6 C D aS,<- Q];unfold IT;first | (simp_all;done) | (simp_all <;> omega)),c⟩
 have aR:=dF s
 refine Aa s<|Aa s<|Aa s<|A0 (.pkF rfl s rfl)<|A2 rfl<|Aa rfl<|Aa rfl<|Aa rfl<|Aa rfl<|A0 (.pkF rfl rfl rfl)<|A2 rfl<|Aa rfl<|A0 (.pkF rfl rfl rfl)<|A9 rfl<|Ai (AZ rfl rfl ?_)
 exact ⟨Bl (by rw [L6 C D aS,<- Q];unfold IT;first | (simp_all;done) | (simp_all <;> omega)),c⟩
 have aQ:=dF q
 refine Aa q<|Aa q<|Aa q<|A0 (.pkF rfl q rfl)<|A2 rfl<|Aa rfl<|Aa rfl<|Aa rfl<|Aa rfl<|A0 (.pkF rfl rfl rfl)<|A2 rfl<|Aa rfl<|Aa rfl<|Aa rfl<|Aa rfl<|A0 (.pkF rfl rfl rfl)<|A2 rfl<|Aa rfl<|A0 (.pkF rfl rfl rfl)<|A9 rfl<|Ai (AZ rfl rfl ?_)
 exact ⟨Bl (by rw [L6 C D aS,<- Q];unfold IT;first | (simp_all;done) | (simp_all <;> omega)),c⟩
 have aP:=dF H
 refine Aa H<|Aa H<|A0 (.pkF rfl H rfl)<|A2 rfl<|Aa rfl<|Aa rfl<|Aa rfl<|Aa rfl<|A0 (.pkF rfl rfl rfl)<|A2 rfl<|Aa rfl<|Aa rfl<|Aa rfl<|Aa rfl<|A0 (.pkF rfl rfl rfl)<|A2 rfl<|Aa rfl<|Aa rfl<|Aa rfl<|Aa rfl<|A0 (.pkF rfl rfl rfl)<|A2 rfl<|Aa rfl<|A0 (.pkF rfl rfl rfl)<|A9 rfl<|Ai (AZ rfl rfl ?_)
 exact ⟨Bl (by rw [L6 C D aS,<- Q];unfold IT;first | (simp_all;done) | (simp_all <;> omega)),c⟩
 have aL:=dF ad
 refine W.k<|Ah<|D4 (α:=Unit) (λt=>[(1,.pointer (some ⟨T,0,none⟩)),(6,.bool (JX x.fPen)),(163,.bool (Ks x))]) (λt w'=>Below w.heap.size w w'/\AF w' T (FF x).toArray 44) ?_ (λt w1 hR=>?_)
 refine Ak<|A0 (.fa Dx rfl B5 dD rfl)<|Ag (Ad (Bw _) rfl a rfl)<|A0 (.lss rfl rfl)<|A2 rfl<|B1 rfl rfl rfl (λJ=>?_) (λJ=>?_)
 have aV:=dF J
 refine A0 (.fa Dx rfl B5 dD rfl)<|As J<|Ag (Ad (Bw _) rfl a rfl)<|As J<|A0 (.gtr rfl rfl)<|A0 (.pkF rfl J rfl)<|A2 rfl<|B1 rfl rfl rfl (λK=>?_) (λK=>?_)
 have aW:=dF K
 refine A0 (.fa Dx rfl B5 dD rfl)<|As K<|Ag (Ad (Bw _) rfl a rfl)<|As K<|A0 (.neq rfl rfl)<|A0 (.pkF rfl K rfl)<|A2 rfl<|B1 rfl rfl rfl (λv=>?_) (λv=>?_)
 have aX:=JZ v
 refine A0 (.fa Dx rfl IK dD rfl)<|As v<|Ag (Ck (L:=Rb) DU rfl CJ a (x) (rfl) rfl)<|As v<|?_
 refine A0 (.build (ps:=[]) (vs:=[]) rfl A7V) ?_
 refine As v<|A0 (.neAgg rfl rfl A7Q (A7z _ _ _ _ _ _ _ _ _ _ _ _))<|A0 (.pkF rfl v rfl)<|A2 rfl<|B1 rfl rfl rfl (λP=>?_) (λP=>?_)
 refine A0 (.fa Dx rfl G3 dD rfl)<|As P<|Ag (Ad (g22_ _) rfl a rfl)<|As P<|A0 (.lenS Bu rfl)<|As P<|A0 (.gtr rfl rfl)<|A0 (.pkF rfl P rfl)<|A2 rfl<|B1 rfl rfl rfl (λy=>?_) (λy=>?_)
 have aY:=dF y
 refine A0 (.fa Dx rfl IL dD rfl)<|As y<|Ag (Ad (JL _) rfl a rfl)<|As y<|A0 (.lenS Fj rfl)<|As y<|A0 (.eql rfl rfl)<|A0 (.pkF rfl y rfl)<|A2 rfl<|B1 rfl rfl rfl (λB=>?_) (λB=>?_)
 have aZ:=dF B
 refine A0 (.fa Dx rfl IL dD rfl)<|As B<|Ag (Ad (JL _) rfl a rfl)<|As B<|WL.c1 AN rfl rfl ((MQ _ _ _ _ (hx.below c).row_fPath hx.sl_fPath.len)) (λbv ag=>?_)
 have a':=a.bl ag
 have b0:=DJ c ag
 refine As B<|A0 (.not rfl)<|A0 (.pkF rfl B rfl)<|WL.e<|?_
 exact ⟨(),⟨rfl,rfl,Cy rfl (by unfold Ks Lm OW;generalize Fk x.fPath=A at *;first | (simp_all;done) | (rw [Aj (show x.fKind<1 by omega)];simp_all;done) | (rw [Al (show ¬ x.fKind<1 by omega),Aj (show x.fKind > 3 by omega)];simp_all;done) | (rw [Al (show ¬ x.fKind<1 by omega),Al (show ¬ x.fKind > 3 by omega)];first | (simp_all;done) | (rw [Aj (show (x.fBytes.length:Int) > 0 by omega)];simp_all;done) | (rw [Al (show ¬ (x.fBytes.length:Int) > 0 by omega)];simp_all;done))),tT⟩,b0,a'⟩
 have aZ:=dT B
 refine Aa B<|Aa B<|Aa B<|A0 (.pkT rfl B rfl)<|WL.e<|?_
 exact ⟨(),⟨rfl,rfl,Cy rfl (by unfold Ks Lm OW;generalize Fk x.fPath=A at *;first | (simp_all;done) | (rw [Aj (show x.fKind<1 by omega)];simp_all;done) | (rw [Al (show ¬ x.fKind<1 by omega),Aj (show x.fKind > 3 by omega)];simp_all;done) | (rw [Al (show ¬ x.fKind<1 by omega),Al (show ¬ x.fKind > 3 by omega)];first | (simp_all;done) | (rw [Aj (show (x.fBytes.length:Int) > 0 by omega)];simp_all;done) | (rw [Al (show ¬ (x.fBytes.length:Int) > 0 by omega)];simp_all;done))),tT⟩,c,a⟩
 have aY:=dT y
 refine Aa y<|Aa y<|Aa y<|A0 (.pkT rfl y rfl)<|A2 rfl<|Aa rfl<|Aa rfl<|Aa rfl<|Aa rfl<|A0 (.pkT rfl rfl rfl)<|WL.e<|?_
 exact ⟨(),⟨rfl,rfl,Cy rfl (by unfold Ks Lm OW;generalize Fk x.fPath=A at *;first | (simp_all;done) | (rw [Aj (show x.fKind<1 by omega)];simp_all;done) | (rw [Al (show ¬ x.fKind<1 by omega),Aj (show x.fKind > 3 by omega)];simp_all;done) | (rw [Al (show ¬ x.fKind<1 by omega),Al (show ¬ x.fKind > 3 by omega)];first | (simp_all;done) | (rw [Aj (show (x.fBytes.length:Int) > 0 by omega)];simp_all;done) | (rw [Al (show ¬ (x.fBytes.length:Int) > 0 by omega)];simp_all;done))),tT⟩,c,a⟩
 refine Aa P<|Aa P<|Aa P<|A0 (.pkT rfl P rfl)<|A2 rfl<|Aa rfl<|Aa rfl<|Aa rfl<|Aa rfl<|A0 (.pkT rfl rfl rfl)<|A2 rfl<|Aa rfl<|Aa rfl<|Aa rfl<|Aa rfl<|A0 (.pkT rfl rfl rfl)<|WL.e<|?_
 exact ⟨(),⟨rfl,rfl,Cy rfl (by unfold Ks Lm OW;generalize Fk x.fPath=A at *;first | (simp_all;done) | (rw [Aj (show x.fKind<1 by omega)];simp_all;done) | (rw [Al (show ¬ x.fKind<1 by omega),Aj (show x.fKind > 3 by omega)];simp_all;done) | (rw [Al (show ¬ x.fKind<1 by omega),Al (show ¬ x.fKind > 3 by omega)];first | (simp_all;done) | (rw [Aj (show (x.fBytes.length:Int) > 0 by omega)];simp_all;done) | (rw [Al (show ¬ (x.fBytes.length:Int) > 0 by omega)];simp_all;done))),tT⟩,c,a⟩
 have aX:=JY v
 refine Aa v<|Aa v<|Aa v<|A0 (.pkT rfl v rfl)<|A2 rfl<|Aa rfl<|Aa rfl<|Aa rfl<|Aa rfl<|A0 (.pkT rfl rfl rfl)<|A2 rfl<|Aa rfl<|Aa rfl<|Aa rfl<|Aa rfl<|A0 (.pkT rfl rfl rfl)<|A2 rfl<|Aa rfl<|Aa rfl<|Aa rfl<|Aa rfl<|A0 (.pkT rfl rfl rfl)<|WL.e<|?_
 exact ⟨(),⟨rfl,rfl,Cy rfl (by unfold Ks Lm OW;generalize Fk x.fPath=A at *;first | (simp_all;done) | (rw [Aj (show x.fKind<1 by omega)];simp_all;done) | (rw [Al (show ¬ x.fKind<1 by omega),Aj (show x.fKind > 3 by omega)];simp_all;done) | (rw [Al (show ¬ x.fKind<1 by omega),Al (show ¬ x.fKind > 3 by omega)];first | (simp_all;done) | (rw [Aj (show (x.fBytes.length:Int) > 0 by omega)];simp_all;done) | (rw [Al (show ¬ (x.fBytes.length:Int) > 0 by omega)];simp_all;done))),tT⟩,c,a⟩
 have aW:=dT K
 refine Aa K<|Aa K<|A0 (.pkT rfl K rfl)<|A2 rfl<|Aa rfl<|Aa rfl<|Aa rfl<|Aa rfl<|A0 (.pkT rfl rfl rfl)<|A2 rfl<|Aa rfl<|Aa rfl<|Aa rfl<|Aa rfl<|A0 (.pkT rfl rfl rfl)<|A2 rfl<|Aa rfl<|Aa rfl<|Aa rfl<|Aa rfl<|A0 (.pkT rfl rfl rfl)<|A2 rfl<|Aa rfl<|Aa rfl<|Aa rfl<|Aa rfl<|A0 (.pkT rfl rfl rfl)<|WL.e<|?_
 exact ⟨(),⟨rfl,rfl,Cy rfl (by unfold Ks Lm OW;generalize Fk x.fPath=A at *;first | (simp_all;done) | (rw [Aj (show x.fKind<1 by omega)];simp_all;done) | (rw [Al (show ¬ x.fKind<1 by omega),Aj (show x.fKind > 3 by omega)];simp_all;done) | (rw [Al (show ¬ x.fKind<1 by omega),Al (show ¬ x.fKind > 3 by omega)];first | (simp_all;done) | (rw [Aj (show (x.fBytes.length:Int) > 0 by omega)];simp_all;done) | (rw [Al (show ¬ (x.fBytes.length:Int) > 0 by omega)];simp_all;done))),tT⟩,c,a⟩
 have aV:=dT J
 refine Aa J<|Aa J<|A0 (.pkT rfl J rfl)<|A2 rfl<|Aa rfl<|Aa rfl<|Aa rfl<|A0 (.pkT rfl rfl rfl)<|A2 rfl<|Aa rfl<|Aa rfl<|Aa rfl<|Aa rfl<|A0 (.pkT rfl rfl rfl)<|A2 rfl<|Aa rfl<|Aa rfl<|Aa rfl<|Aa rfl<|A0 (.pkT rfl rfl rfl)<|A2 rfl<|Aa rfl<|Aa rfl<|Aa rfl<|Aa rfl<|A0 (.pkT rfl rfl rfl)<|A2 rfl<|Aa rfl<|Aa rfl<|Aa rfl<|Aa rfl<|A0 (.pkT rfl rfl rfl)<|WL.e<|?_
 exact ⟨(),⟨rfl,rfl,Cy rfl (by unfold Ks Lm OW;generalize Fk x.fPath=A at *;first | (simp_all;done) | (rw [Aj (show x.fKind<1 by omega)];simp_all;done) | (rw [Al (show ¬ x.fKind<1 by omega),Aj (show x.fKind > 3 by omega)];simp_all;done) | (rw [Al (show ¬ x.fKind<1 by omega),Al (show ¬ x.fKind > 3 by omega)];first | (simp_all;done) | (rw [Aj (show (x.fBytes.length:Int) > 0 by omega)];simp_all;done) | (rw [Al (show ¬ (x.fBytes.length:Int) > 0 by omega)];simp_all;done))),tT⟩,c,a⟩
 obtain ⟨o,aw⟩:=hR
 refine Ac rfl (λbh=>?_) (λbh=>?_)
 have a2:Ks x=true:=by assumption
 refine A4<|A9 rfl<|Ai (AZ rfl rfl ?_)
 exact ⟨Bl (by rw [A4z C D aS a2]),o⟩
 have a2:Ks x=false:=by assumption
 simp only [Ks,E1,Aq] at a2
 have a3:=ZK a2.2
 refine W.k<|Ah<|A4<|A0 (.fa Dx rfl B5 dD rfl)<|Ag (Ad (Bw _) rfl aw rfl)<|A0 (.eql rfl rfl)<|WL.e<|Ac rfl (λah=>?_) (λah=>?_)
 have b2:=dT ah
 refine A4<|A0 (.fa Dx rfl MJ dD rfl)<|Ag (Ck (L:=Vp) CT rfl HY aw (x.fPen) (rfl) rfl)<|WL.c1 AN rfl rfl ((TW x.fPen _ (hx.below o).ok_fPen.row_fDash)) (λbw b4=>?_)
 have b5:=DJ o b4
 refine A9 rfl<|Ai (AZ rfl rfl ?_)
 exact ⟨Bl (by rw [Ue C D aS a3,A1 oO,A6 aS]),b5⟩
 have b2:=dF ah
 refine W.k<|A4<|A2 rfl<|A9 rfl<|Ai (AZ rfl rfl ?_)
 exact ⟨Bl (by rw [Ue C D aS a3,A6 oO]),o⟩
end
section
def O7 (x:KN):Bool:=!MP x.fWidth || !MP x.fHeight || decide ((x.fItems.length:Int) > 4096)
theorem QQ {x:KN} (h:O7 x=true):NS x=false:=by
 unfold NS;unfold O7 at h
 cases h1:MP x.fWidth with
 | false=>simp
 | true=>cases h2:MP x.fHeight with
  | false=>simp
  | true =>
   rw [h1,h2] at h
   have:(x.fItems.length:Int) > 4096:=by simpa using h
   rw [Al oO];simp
theorem Nd {x:KN} {j:Nat} (hj:j<x.fItems.length) (h:Et x.fItems[j]=false):NS x=false:=by unfold NS;rw [Qb hj h,N0]
theorem OQ {x:KN} (h:O7 x=false) (ha:∀ j (hj:j<x.fItems.length),Et x.fItems[j]=true):NS x=true:=by
 unfold O7 at h
 simp only [E1,BI,Aq] at h
 unfold NS;rw [h.1.1,h.1.2,Aj oO,Ut ha];rfl
theorem S3 (x:KN) (w:World) (hx:Md w x):Calls Tryz.prog 10 #[.agg (IP x).toArray] w λe w'=>e=.returned (.bool (NS x))/\Below w.heap.size w w':=by
 have V:0<x.fItems.length->(pA x.pfItems).block<w.heap.size:=λP=>hx.row_fItems.lt P
 refine W.e func10 rfl ntmps10 bL ?_
 have s:=EM (w.heap.size) w
 refine A4<|CU rfl rfl (λE X u d A Q=>?_)
 have l:=uB s u A
 have L:=Cq u s.size
 refine A9 rfl<|Ah<|Fd 19 (O7 x) ?_ ?_
 refine Ak<|A0 (.fa Oz rfl B5 dD rfl)<|Ag (Ad (Bw _) rfl d rfl)<|WL.c1 AN rfl rfl ((V4 _ _)) (λw3 F=>?_)
 obtain rfl:=F
 refine A0 (.not rfl)<|A2 rfl<|B1 rfl rfl rfl (λa=>?_) (λa=>?_)
 have G:=(nF a)
 refine A0 (.fa Oz rfl B5 dD rfl)<|Ew rfl rfl rfl (by rw [(nF a)] <;> rfl)<|Ag (Ad (Bw _) rfl d rfl)<|Ew rfl rfl rfl (by rw [(nF a)] <;> rfl)<|WL.c1 AN rfl rfl ((V4 _ _)) (λw5 H=>?_)
 obtain rfl:=H
 refine Ew rfl rfl rfl (by rw [(nF a)] <;> rfl)<|A0 (.not rfl)<|A0 (.pkF rfl (by rw [(nF a)] <;> rfl) rfl)<|A2 rfl<|B1 rfl rfl rfl (λc=>?_) (λc=>?_)
 have J:=(nF c)
 refine A0 (.fa Oz rfl MK dD rfl)<|Ew rfl rfl rfl (by rw [(nF c)] <;> rfl)<|Ag (Ad (P3 _) rfl d rfl)<|Ew rfl rfl rfl (by rw [(nF c)] <;> rfl)<|A0 (.lenS KU rfl)<|Ew rfl rfl rfl (by rw [(nF c)] <;> rfl)<|A0 (.gtr rfl rfl)<|A0 (.pkF rfl (by rw [(nF c)] <;> rfl) rfl)<|WL.e<|?_
 exact ⟨G8 (Cy rfl (by unfold O7;first | (simp_all;done) | (simp_all <;> (intros;omega)))),rfl⟩
 have J:=(nT c)
 refine EL rfl rfl rfl (by rw [(nT c)] <;> rfl)<|EL rfl rfl rfl (by rw [(nT c)] <;> rfl)<|EL rfl rfl rfl (by rw [(nT c)] <;> rfl)<|A0 (.pkT rfl (by rw [(nT c)] <;> rfl) rfl)<|WL.e<|?_
 exact ⟨G8 (Cy rfl (by unfold O7;first | (simp_all;done) | (simp_all <;> (intros;omega)))),rfl⟩
 have G:=(nT a)
 refine EL rfl rfl rfl (by rw [(nT a)] <;> rfl)<|EL rfl rfl rfl (by rw [(nT a)] <;> rfl)<|EL rfl rfl rfl (by rw [(nT a)] <;> rfl)<|A0 (.pkT rfl (by rw [(nT a)] <;> rfl) rfl)<|A2 rfl<|Aa rfl<|Aa rfl<|Aa rfl<|Aa rfl<|A0 (.pkT rfl rfl rfl)<|WL.e<|?_
 exact ⟨G8 (Cy rfl (by unfold O7;first | (simp_all;done) | (simp_all <;> (intros;omega)))),rfl⟩
 refine Ac rfl (λT=>?_) (λT=>?_)
 refine A4<|A9 rfl<|Ai (AZ rfl rfl ?_)
 first
 | exact ⟨Bl (by rw [QQ aS]),l⟩
 | exact ⟨Bl (by rw [Nd m (by simpa using (show (!Et _)=true by assumption))]),l⟩
 | exact ⟨Bl (by rw [OQ hq λj hj=>f j hj oO]),l⟩
 have hq:O7 x=false:=by assumption
 refine W.k<|Ah<|A4<|A9 rfl<|W.b<|Cj (α:=Nat) (λt=>[(1,.pointer (some ⟨E,0,none⟩)),(3,.int .i64 (t:Int))]) (λt w'=>Below w.heap.size w w'/\AF w' E (IP x).toArray 47/\t<=x.fItems.length/\∀ j (hj:j<x.fItems.length),j<t->Et x.fItems[j]=true) (λt=>x.fItems.length-t) (0) ⟨rfl,rfl,tT⟩ (⟨l,d,Gg _,λj _ h=>CM h oO⟩) (λt w1 hR=>?_)
 obtain ⟨i,rfl⟩:∃ i,i=t:=⟨t,rfl⟩
 obtain ⟨hT,o,hi,f⟩:=hR
 have v:=(hx.below hT).row_fItems
 have Y:=hx.sl_fItems.len
 refine Ah<|A4<|A2 rfl<|A0 (.fa Oz rfl MK dD rfl)<|Ag (Ad (P3 _) rfl o rfl)<|A0 (.lenS KU rfl)<|A0 (.lss rfl rfl)<|WL.e<|Ac rfl (λB=>?_) (λB=>?_)
 have K:=dT B
 have m:i<x.fItems.length:=by omega
 refine W.k<|Ah<|W.b<|A4<|A0 (.fa Oz rfl MK dD rfl)<|Ag (Ad (P3 _) rfl o rfl)<|A2 rfl<|A0 (.ixm KU X8 rfl rfl (v.isp oC) (i) (rfl) oO)<|Ag (DP Dx rfl Th v (i) oC rfl)<|WL.c1 AN rfl rfl ((S4 _ _ ((hx.below hT).all_fItems _ (AJ m)))) (λw9 y=>?_)
 have C:=o.bl y
 have g:=DJ hT y
 refine A0 (.not rfl)<|WL.e<|Ac rfl (λq=>?_) (λq=>?_)
 have D:=(nT q)
 refine A4<|A9 rfl<|Ai (AZ rfl rfl ?_)
 first
 | exact ⟨Bl (by rw [QQ aS]),g⟩
 | exact ⟨Bl (by rw [Nd m (by simpa using (show (!Et _)=true by assumption))]),g⟩
 | exact ⟨Bl (by rw [OQ hq λj hj=>f j hj oO]),g⟩
 have D:=(nF q)
 refine W.k<|Ak<|A2 rfl<|A0 (.iis (((i+1:Nat):Int)) (.add rfl rfl (Bp oO)) oO)<|A9 rfl ?_
 exact ⟨i+1,⟨rfl,rfl,tT⟩,⟨g,C,by ((try simp only) <;> omega),λj hj h=>by
  rcases Cb.1 h with U | rfl;exact f j hj U
  simp_all⟩,by ((try simp only) <;> omega)⟩
 have K:=dF B
 refine C0<|A4<|A9 rfl<|Ai (AZ rfl rfl ?_)
 first
 | exact ⟨Bl (by rw [QQ aS]),hT⟩
 | exact ⟨Bl (by rw [Nd m (by simpa using (show (!Et _)=true by assumption))]),hT⟩
 | exact ⟨Bl (by rw [OQ hq λj hj=>f j hj oO]),hT⟩
end
section
theorem S5  {l l2:List CK} (he:l=l2) (ha:Be Fq w p l) (hb:Be Fq w q l2) (hl:l.length<=9223372036854775807) :
  Calls Tryz.prog 39 #[.slice p l.length c,.slice q l2.length d] w λe w'=>e=.returned (.bool true)/\Below w.heap.size w w' :=
 (MR p q l l2 c d w ha hb hl).mono λe w' h=>⟨h.1.trans (by rw [show Kk ZC l l2=true from (Qc (g:=id) (λa b=>by rw [A1r];rfl) l l2).2 (by rw [he])]),CZ.below (EM _ _) h.2⟩
theorem QA  {l l2:List Bv} (he:l.map Fn=l2.map Fn) (ha:Be Gk w p l) (hb:Be Gk w q l2) (hal:∀ x∈l,GX w x) (hbl:∀ x∈l2,GX w x) (hl:l.length<=9223372036854775807) :
  Calls Tryz.prog 25 #[.slice p l.length c,.slice q l2.length d] w λe w'=>e=.returned (.bool true)/\Below w.heap.size w w' :=
 (LQ p q l l2 c d w ha hb hal hbl hl).mono λe w' h=>⟨h.1.trans (by rw [YZ.2 he]),CZ.below (EM _ _) h.2⟩
theorem TX {x y:Dz} (he:Fy x=Fy y) (hx:AS DW w x.pfDash x.fDash) (hy:AS DW w y.pfDash y.fDash) (hl:x.fDash.length<=9223372036854775807) :
  Calls Tryz.prog 21 #[.agg (El x).toArray,.agg (El y).toArray] w λe w'=>e=.returned (.bool true)/\Below w.heap.size w w' :=
 (Pk x y w hx hy hl).mono fun e w' h => ⟨h.1.trans (by
  have h1:=Bc Dz.fWidth he;have h2:=Bc Dz.fCap he;have h3:=Bc Dz.fJoin he;have h4:=Bc Dz.fMiter he;have h5:=Bc Dz.fDash he;have h6:=Bc Dz.fPhase he
  simp only [Fy] at h1 h2 h3 h4 h5 h6
  unfold H5
  simp [h1,h2,h3,h4,h5,h6]),h.2⟩
theorem eqM {x y:AQ} (h:Rb.V x=Rb.V y) (w:World):(binOp .eql 42 (.agg (Rb.V x).toArray) (.agg (Rb.V y).toArray)).run Tryz.prog w=.ok (.bool (decide True)) w:=by
 rw [<- h];exact A7O _ _ _ _ _ _ w
theorem TY (x y:AQ) (w:World) (hx:I3 w x) (hy:I3 w y) (he:Jd x=Jd y) :
  Calls Tryz.prog 32 #[.agg (FF x).toArray,.agg (FF y).toArray] w λe w'=>e=.returned (.bool true)/\Below w.heap.size w w':=by
 have e1:x.fKind=y.fKind:=by have:=Bc AQ.fKind he;exact this
 have e2:x.fPath=y.fPath:=by have:=Bc AQ.fPath he;exact this
 have e3:x.fColor=y.fColor:=by have:=Bc AQ.fColor he;exact this
 have e4:x.fClips.map Fn=y.fClips.map Fn:=by have:=Bc AQ.fClips he;exact this
 have e5:Fy x.fPen=Fy y.fPen:=by have:=Bc AQ.fPen he;exact this
 have e6:x.fFont=y.fFont:=by have:=Bc AQ.fFont he;exact this
 have m0:x.fMatrix_0=y.fMatrix_0:=by have:=Bc AQ.fMatrix_0 he;exact this
 have m1:x.fMatrix_1=y.fMatrix_1:=by have:=Bc AQ.fMatrix_1 he;exact this
 have m2:x.fMatrix_2=y.fMatrix_2:=by have:=Bc AQ.fMatrix_2 he;exact this
 have m3:x.fMatrix_3=y.fMatrix_3:=by have:=Bc AQ.fMatrix_3 he;exact this
 have m4:x.fMatrix_4=y.fMatrix_4:=by have:=Bc AQ.fMatrix_4 he;exact this
 have m5:x.fMatrix_5=y.fMatrix_5:=by have:=Bc AQ.fMatrix_5 he;exact this
 have e7:Rb.V x=Rb.V y:=by show [_,_,_,_,_,_]=[_,_,_,_,_,_];rw [m0,m1,m2,m3,m4,m5]
 have e8:x.fBytes=y.fBytes:=by have:=Bc AQ.fBytes he;exact this
 refine W.e func32 rfl ntmps32 bL ?_
 have J:=EM (w.heap.size) w
 refine A4<|CU rfl rfl (λb1 a6 K v P a4=>?_)
 have N:=uB J K P
 have a2:=Cq K J.size
 refine CU rfl rfl (λb3 a7 A k B a5=>?_)
 have a0:=Bg A v.lt
 have C:=v.un B a0
 have D:=uB N A B
 have a3:=Cq A N.size
 refine A9 rfl<|A4<|A0 (.fa Dx rfl B5 dD rfl)<|Ag (Ad (Bw _) rfl C rfl)<|A0 (.fa Dx rfl B5 dD rfl)<|Ag (Ad (Bw _) rfl k rfl)<|A0 (.eql rfl rfl)<|A2 rfl<|B1 rfl rfl rfl (λj=>?_) (λj=>?_)
 have a1:=dT j
 refine A0 (.fa Dx rfl IL dD rfl)<|As j<|Ag (Ad (JL _) rfl C rfl)<|As j<|A0 (.fa Dx rfl IL dD rfl)<|As j<|Ag (Ad (JL _) rfl k rfl)<|As j<|WL.c1 AN rfl rfl ((S5 e2 (hx.below D).row_fPath (hy.below D).row_fPath hx.sl_fPath.len)) (λw8 E=>?_)
 have F:=C.bl E
 have l:=k.bl E
 have c:=DJ D E
 refine A0 (.pkT rfl j rfl)<|A2 rfl<|B1 rfl rfl rfl (λd=>?_) (λd=>?_)
 refine A0 (.fa Dx rfl JH dD rfl)<|As d<|Ag (Ck (L:=FX) GH rfl EJ F (x.fColor) (rfl) rfl)<|As d<|A0 (.fa Dx rfl JH dD rfl)<|As d<|Ag (Ck (L:=FX) GH rfl EJ l (y.fColor) (rfl) rfl)<|As d<|A0 (.eqAgg rfl rfl A6y (A7P _ _ e3))<|A0 (.pkT rfl d rfl)<|A2 rfl<|B1 rfl rfl rfl (λa=>?_) (λa=>?_)
 have Q:=dT a
 refine A0 (.fa Dx rfl GA dD rfl)<|As a<|Ag (Ad (Kj _) rfl F rfl)<|As a<|A0 (.fa Dx rfl GA dD rfl)<|As a<|Ag (Ad (Kj _) rfl l rfl)<|As a<|WL.c1 AN rfl rfl ((QA e4 (hx.below c).row_fClips (hy.below c).row_fClips (hx.below c).all_fClips (hy.below c).all_fClips hx.sl_fClips.len)) (λa8 m=>?_)
 have G:=F.bl m
 have H:=l.bl m
 have o:=DJ c m
 refine A0 (.pkT rfl a rfl)<|A2 rfl<|B1 rfl rfl rfl (λf=>?_) (λf=>?_)
 refine A0 (.fa Dx rfl MJ dD rfl)<|As f<|Ag (Ck (L:=Vp) CT rfl HY G (x.fPen) (rfl) rfl)<|As f<|A0 (.fa Dx rfl MJ dD rfl)<|As f<|Ag (Ck (L:=Vp) CT rfl HY H (y.fPen) (rfl) rfl)<|As f<|WL.c1 AN rfl rfl ((TX e5 (hx.below o).ok_fPen.row_fDash (hy.below o).ok_fPen.row_fDash hx.ok_fPen.sl_fDash.len)) (λa9 q=>?_)
 have s:=G.bl q
 have t:=H.bl q
 have u:=DJ o q
 refine A0 (.pkT rfl f rfl)<|A2 rfl<|B1 rfl rfl rfl (λg=>?_) (λg=>?_)
 refine A0 (.fa Dx rfl B5 dD rfl)<|As g<|Ag (Ad (Bw _) rfl s rfl)<|As g<|A0 (.fa Dx rfl B5 dD rfl)<|As g<|Ag (Ad (Bw _) rfl t rfl)<|As g<|A0 (.eql rfl rfl)<|A0 (.pkT rfl g rfl)<|A2 rfl<|B1 rfl rfl rfl (λb=>?_) (λb=>?_)
 have T:=dT b
 refine A0 (.fa Dx rfl IK dD rfl)<|As b<|Ag (Ck (L:=Rb) DU rfl CJ s (x) (rfl) rfl)<|As b<|A0 (.fa Dx rfl IK dD rfl)<|As b<|Ag (Ck (L:=Rb) DU rfl CJ t (y) (rfl) rfl)<|As b<|A0 (.eqAgg rfl rfl A7Q (eqM e7))<|A0 (.pkT rfl b rfl)<|A2 rfl<|B1 rfl rfl rfl (λi=>?_) (λi=>?_)
 refine A0 (.fa Dx rfl G3 dD rfl)<|As i<|Ag (Ad (g22_ _) rfl s rfl)<|As i<|A0 (.fa Dx rfl G3 dD rfl)<|As i<|Ag (Ad (g22_ _) rfl t rfl)<|As i<|WL.c1 AN rfl rfl ((ZN e8 (hx.below u).row_fBytes (hy.below u).row_fBytes hx.sl_fBytes.len)) (λaa U=>?_)
 have X:=DJ u U
 refine A0 (.pkT rfl i rfl)<|A9 rfl<|Ai (AZ rfl rfl ?_)
 exact ⟨rfl,X⟩
 exact CM (show decide True=false by assumption) dD
 have T:=dF b
 exact CM e6 aS
 exact CM (show true=false by assumption) dD
 exact CM (show true=false by assumption) dD
 have Q:=dF a
 exact CM trivial aS
 exact CM (show true=false by assumption) dD
 have a1:=dF j
 exact CM e1 aS
theorem S6  {l l2:List AQ} (he:l.map Jd=l2.map Jd) (ha:Be Ls w p l) (hb:Be Ls w q l2) (hal:∀ x∈l,I3 w x) (hbl:∀ x∈l2,I3 w x) (hl:l.length<=9223372036854775807) :
  Calls Tryz.prog 13 #[.slice p l.length c,.slice q l2.length d] w λe w'=>e=.returned (.bool true)/\Below w.heap.size w w':=by
 have F:0<l.length->(pA p).block<w.heap.size:=λf=>ha.lt f
 have G:0<l2.length->(pA q).block<w.heap.size:=λf=>hb.lt f
 have R:=A6x he
 refine W.e func13 rfl ntmps13 bL ?_
 have H:=EM (w.heap.size) w
 refine A4<|A9 rfl<|Ah<|A4<|A2 rfl<|A0 (.lenS KU rfl)<|A2 rfl<|A0 (.lenS KU rfl)<|A0 (.neq rfl rfl)<|WL.e<|Ac rfl (λB=>?_) (λB=>?_)
 have J:=JY B
 omega
 have J:=JZ B
 refine W.k<|Ah<|A4<|A9 rfl<|W.b<|Cj (α:=Nat) (λt=>[(0,.slice p l.length c),(1,.slice q l2.length d),(5,.int .i64 (t:Int))]) (λt w'=>Below w.heap.size w w'/\t<=l.length) (λt=>l.length-t) (0) ⟨rfl,rfl,rfl,tT⟩ (⟨H,Gg _⟩) (λt o hR=>?_)
 obtain ⟨s,rfl⟩:∃ s,s=t:=⟨t,rfl⟩
 obtain ⟨hT,hs⟩:=hR
 have i:=ha.below hT F
 have hb1:=hb.below hT G
 refine Ah<|A4<|A2 rfl<|A2 rfl<|A0 (.lenS KU rfl)<|A0 (.lss rfl rfl)<|WL.e<|Ac rfl (λC=>?_) (λC=>?_)
 have K:=dT C
 have u:s<l.length:=by omega
 have v:s<l2.length:=by omega
 have L:=A7N he u v
 refine W.k<|Ah<|W.b<|Ah<|Dr 10 rfl C7 (λw'=>Below o.heap.size o w') (λQ g=>?_)
 have N:=i.drew g
 have P:=hb1.drew g
 have j:=CZ.below hT g
 have a:Below o.heap.size o Q:=CZ.below (EM _ _) g
 refine Af 0 rfl (.mv rfl) a rfl ?_
 refine Af 1 rfl (.mv rfl) a rfl ?_
 refine Af 2 rfl (.ixm KU X8 rfl rfl (N.isp oC) (s) (rfl) oO) a rfl ?_
 refine BY 3 rfl (λw' hw'=>DP Dx rfl Th (i.below hw' (λf=>i.lt f)) (s) oC rfl) a rfl ?_
 refine Af 4 rfl (.mv rfl) a rfl ?_
 refine Af 5 rfl (.mv rfl) a rfl ?_
 refine Af 6 rfl (.ixm KU X8 rfl rfl (P.isp oC) (s) (rfl) oO) a rfl ?_
 refine BY 7 rfl (λw' hw'=>DP Dx rfl Th (hb1.below hw' (λf=>hb1.lt f)) (s) oC rfl) a rfl ?_
 refine An 8 rfl<|WL.c1 AN rfl rfl ((TY _ _ _ ((hal _ (AJ u)).below j) ((hbl _ (AJ v)).below j) L)) (λT y=>?_)
 have A:=EZ a (Below.mono y a.size)
 have D:=DJ j y
 refine WL.e<|⟨A,?_⟩
 refine Af 9 rfl (.not rfl) A rfl ?_
 refine Bd kR<|Ac rfl (λm=>?_) (λm=>?_)
 have E:=(nT m)
 simp_all
 have E:=(nF m)
 refine W.k<|Ak<|A2 rfl<|A0 (.iis (((s+1:Nat):Int)) (.add rfl rfl (Bp oO)) oO)<|A9 rfl ?_
 exact ⟨s+1,⟨rfl,rfl,rfl,tT⟩,⟨D,by ((try simp only) <;> omega)⟩,by ((try simp only) <;> omega)⟩
 have K:=dF C
 refine C0<|A4<|A9 rfl<|Ai (AZ rfl rfl ?_)
 exact ⟨rfl,hT⟩
end
section
theorem TZ (pg:KN) (w:World) (hp:Md w pg) (hs:∀ x∈pg.fItems,Et x=true) (hl:pg.fItems.length<=4096) :
  Calls Tryz.prog 11 #[.agg (IP pg).toArray] w λe w'=>∃ x:(Option Addr × Nat × l8_) × (Option Addr × Nat × List Int) × Int,e=.returned (.tuple #[.slice x.1.1 x.1.2.2.length x.1.2.1,.slice x.2.1.1 x.2.1.2.2.length x.2.1.2.1,.int .i64 x.2.2])/\Below w.heap.size w w' /\
   Av w' x.1.1 x.1.2.2/\AS DW w' x.2.1.1 x.2.1.2.2/\x.1.2.2.length<=x.1.2.1/\x.2.1.2.2.length<=14/\(∀ f∈x.2.1.2.2,0<=f/\f<=13)/\(x.2.2=0->x.1.2.2=FP Hw pg.fItems/\∀ y∈pg.fItems,y.fKind=4->y.fFont∈x.2.1.2.2) :=
 (V9 pg w hp hs hl).mono fun e w' h => by
  obtain ⟨h | ⟨pb,cb,pf,cf,F,h1,h2,h3,h4,h5,h6,h7⟩,hb⟩:=h
  · exact ⟨((none,0,[]),(none,0,[]),25),h,hb,⟨λh=>CM h (by simp),λj h=>CM h (by simp)⟩,AS.none,FL _,Gg _,λf hf=>(by cases hf),λh=>CM h dD⟩
  · exact ⟨((pb,cb,_),(pf,cf,F),0),h1,hb,h2,h4,h3,h5,h6,λ_=>⟨rfl,h7⟩⟩
def P4 (F:List Int):List LE:=F.map λf=>⟨70::E5 f,f⟩
theorem A6J:∀ a b:Fin 14,E5 (a.val:Int)=E5 (b.val:Int)->a=b:=by decide +kernel
theorem XT {f n:Int} (hf:0<=f/\f<=13) (hn:0<=n/\n<=13) (h:E5 f=E5 n):f=n:=by
 have:=A6J ⟨f.toNat,by omega⟩ ⟨n.toNat,by omega⟩ (by show E5 ((f.toNat:Nat):Int)=E5 ((n.toNat:Nat):Int);rw [Int.toNat_of_nonneg hf.1,Int.toNat_of_nonneg hn.1];exact h)
 have:=Bc Fin.val this
 simp only at this
 omega
theorem VU:∀ {F:List Int} {n:Int},(∀ f∈F,0<=f/\f<=13)->n∈F->RS (P4 F) n
 | [],_,_,h=>by cases h
 | f::r,n,hF,h=>by
  by_cases he:f=n
  · exact ⟨⟨70::E5 f,f⟩,by unfold P4;rw [Co,List.find?_cons_of_pos (by simp [he])],he⟩
  ·
   obtain ⟨g,h1,h2⟩:=VU (F:=r) (n:=n) (λx hx=>hF x (List.mem_cons_of_mem _ hx)) ((Ar.1 h).resolve_left λe=>he e.symm)
   refine ⟨g,?_,h2⟩
   unfold P4 at h1 ⊢
   rw [Co,List.find?_cons_of_neg]
   · exact h1
   ·
    intro hq
    have hq:=dT hq
    exact he (XT (hF f (List.mem_cons_self ..)) (hF n h) (List.cons.inj hq).2)
theorem A4L {F:List Int} (h:∀ f∈F,0<=f/\f<=13):∀ f∈P4 F,0<=f.font/\f.font<=13:=λf hf=>by
 obtain ⟨g,hg,rfl⟩:=IE.1 hf
 exact h g hg
theorem UG (p:Option Addr) (l:l8_) (c:Nat) (pf:Option Addr) (F:List Int) (cf:Nat) (xs:List AQ) (w:World) (he:l=FP Hw xs) (hb:Av w p l) (hc:l.length<=c) (hl:l.length<=100000000) (hf:CC ftL (λk=>k<w.heap.size) w pf (P4 F) cf) (hff:∀ f∈F,0<=f/\f<=13)
  (hx:∀ x∈xs,Et x=true) (hn:xs.length<=4096) (hxf:∀ y∈xs,y.fKind=4->y.fFont∈F) :
  Calls Tryz.prog 8 #[.slice p l.length c,.slice pf (P4 F).length cf] w λe w'=>∃ x:Option Addr × Nat × List AQ,e=.returned (.tuple #[.slice x.1 x.2.2.length x.2.1,.int .i64 0])/\Below w.heap.size w w'/\Be Ls w' x.1 x.2.2/\x.2.2.length<=9223372036854775807/\x.2.2.map Jd=xs.map Jd/\∀ y∈x.2.2,I3 w' y :=
 Calls.mono (Qh p l c pf (P4 F) cf w hb hc hl hf (A4L hff)) λe w' q=>by
  obtain ⟨q1,q2⟩:=q
  obtain ⟨V,hr,hV⟩:=A0C (sum:=λf b=>FS f 0 b) (fs:=P4 F) hx (λx h h4=>VU hff (hxf x h h4)) hn
  rw [<- he] at hr
  rw [hr] at q1
  obtain ⟨pi,ci,its,e1,e2,e3,e4⟩:=q1
  refine ⟨(pi,ci,its),e1,q2,e2.row,e2.sl.len,e4.trans hV,λy hy=>A6r (e3 y hy) ?_⟩
  have hm:Jd y∈xs.map Jd:=by rw [<- hV,<- e4];exact List.mem_map_of_mem hy
  obtain ⟨x,a,d⟩:=IE.1 hm
  rw [<- YG,<- d,YG]
  exact hx x a
theorem Uc (pg:KN) (w:World) (hp:Md w pg) :
  Calls Tryz.prog 4 #[.agg (IP pg).toArray] w λe w'=>e=.returned (.bool true)/\Below w.heap.size w w':=by
 have bi:0<pg.fItems.length->(pA pg.pfItems).block<w.heap.size:=λl=>hp.row_fItems.lt l
 refine W.e func4 rfl ntmps4 bL ?_
 have ao:=EM (w.heap.size) w
 refine A4<|CU rfl rfl (λX bj ap aE aF bf=>?_)
 have aY:=uB ao ap aF
 have ba:=Cq ap ao.size
 refine A9 rfl<|Ah<|A4<|WL.c1 AN rfl rfl ((Ki _)) (λw3 aq=>?_)
 have a0:=aE.bl aq
 have a1:=DJ aY aq
 refine A0 (.not rfl)<|A2 rfl<|As rfl<|A0 (.fa Oz rfl MK dD rfl)<|As rfl<|Ag (Ad (P3 _) rfl a0 rfl)<|As rfl<|A0 (.lenS KU rfl)<|As rfl<|A0 (.gtr rfl rfl)<|A0 (.pkF rfl rfl rfl)<|A2 rfl<|B1 rfl rfl rfl (λG=>?_) (λG=>?_)
 have aZ:=dF G
 refine Ag (BA rfl a0 Oz rfl A5y)<|As G<|WL.c1 AN rfl rfl ((S3 pg _ (hp.below a1))) (λw7 ar=>?_)
 have au:=a0.bl ar
 have a2:=DJ a1 ar
 refine As G<|A0 (.not rfl)<|A0 (.pkF rfl G rfl)<|WL.e<|Ac rfl (λa3=>?_) (λa3=>?_)
 have aG:=(nT a3)
 refine A4<|WL.c1 AN rfl rfl ((Ki _)) (λbk aH=>?_)
 have aI:=DJ a2 aH
 refine A9 rfl<|Ai (AZ rfl rfl ?_)
 exact ⟨rfl,aI⟩
 have aG:=(nF a3)
 have hq:NS pg=true:=by simp_all
 have bg:pg.fItems.length<=50:=by omega
 have av:∀ x∈pg.fItems,Et x=true:=by
  have a4:=hq;unfold NS at a4;simp only [A3] at a4;exact Au.1 a4.2
 refine W.k<|A4<|Ag (BA rfl au Oz rfl A5y)<|DQ AN rfl rfl ((TZ pg _ (hp.below a2) av oO)) (λx a' J=>?_)
 have a5:=au.bl J.1
 have K:=DJ a2 J.1
 obtain ⟨⟨pb,cb,lb⟩,⟨pf,cf,F⟩,k⟩:=x
 obtain ⟨a6,a7,aw,b0,E,ax⟩:=J.2
 simp only at a6 a7 aw b0 E ax
 refine A2 rfl<|A0 (.ext rfl rfl)<|A0 (.ext rfl rfl)<|A0 (.ext rfl rfl)<|Dp rfl<|Dp rfl<|A9 rfl<|Ah<|Fd 36 (decide (k≠0\/100000<lb.length)) ?_ ?_
 refine Ak<|A2 rfl<|A0 (.neq rfl rfl)<|A2 rfl<|B1 rfl rfl rfl (λm=>?_) (λm=>?_)
 have aJ:=JZ m
 refine A2 rfl<|As m<|A0 (.lenS Bu rfl)<|As m<|A0 (.gtr rfl rfl)<|A0 (.pkF rfl m rfl)<|WL.e<|?_
 exact ⟨G8 (Cy rfl (by first | (simp only [D5];omega) | (simp_all;done) | (simp_all <;> omega))),rfl⟩
 have aJ:=JY m
 refine Aa m<|Aa m<|A0 (.pkT rfl m rfl)<|WL.e<|?_
 exact ⟨G8 (Cy rfl (by first | (simp only [D5];omega) | (simp_all;done) | (simp_all <;> omega))),rfl⟩
 refine Ac rfl (λa8=>?_) (λa8=>?_)
 have aK:=dT a8
 refine A4<|A9 rfl<|Ai (AZ rfl rfl ?_)
 exact ⟨rfl,K⟩
 have aK:=dF a8
 have bm:¬ (k≠0\/100000<lb.length):=by assumption
 obtain ⟨hb0,b2⟩:=ax oO
 refine W.k<|A4<|A9 rfl<|Ah<|Ah ?_
 obtain ⟨wz,b3⟩:∃ wz,wz=a':=⟨_,rfl⟩
 subst b3
 have b4:0<lb.length->(pA pb).block<wz.heap.size:=λl=>(a6).lt l
 have b5:0<F.length->(pA pf).block<wz.heap.size:=λl=>(a7).lt l
 have bn:=K.size
 have bh:=a5.lt
 refine Ak<|A9 rfl<|W.b<|Cj (α:=Nat × Value) (λt=>[(1,.pointer (some ⟨X,0,none⟩)),(3,.slice pb lb.length cb),(4,.slice pf F.length cf),(6,t.2),(7,.int .i64 (t.1:Int))]) (λt w'=>Below w.heap.size w w'/\AF w' X (IP pg).toArray 47/\Av w' pb lb/\AS DW w' pf F/\AD ftL 53 wz.heap.size w' t.2 (P4 (F.take t.1))/\t.1<=F.length/\wz.heap.size<=w'.heap.size) (λt=>F.length-t.1) ((0,.slice none 0 0)) ⟨rfl,rfl,rfl,rfl,rfl,tT⟩ (⟨K,a5,a6,a7,AD.nil _ _ _ _,Gg _,FL _⟩) (λt w1 hR=>?_)
 obtain ⟨⟨i,v6⟩,b6⟩:∃ u,u=t:=⟨t,rfl⟩
 subst b6
 obtain ⟨q1,f,q3,q4,q5,q6,a9⟩:=hR
 simp only at q5 q6
 show W Tryz.prog _ _ _ [(1,.pointer (some ⟨X,0,none⟩)),(3,.slice pb lb.length cb),(4,.slice pf F.length cf),(6,v6),(7,.int .i64 (i:Int))] w1
 refine Ah<|A4<|A2 rfl<|A2 rfl<|A0 (.lenS Dh rfl)<|A0 (.lss rfl rfl)<|WL.e<|Ac rfl (λaa=>?_) (λaa=>?_)
 have aL:=dT aa
 have y:i<F.length:=by first | omega | (simp only at *;omega)
 have bo:=Fm F[i] (by have:=E F[i] (AJ y);omega) (by have:=E F[i] (AJ y);omega)
 refine W.k<|Ah<|W.b<|Dr 15 rfl C7 (λw'=>w'.heap[X]?=w1.heap[X]?/\AS DW w' pf F/\Av w' pb lb/\True) (λbp q=>?_)
 have ag:=CZ.le a9 q
 have aM:=AD.drew q5 q
 have d:=f.drew q
 have c:=q3.drew q
 have a:=q4.drew q
 have aN:=CZ.below q1 q
 refine Af 0 rfl (.mv rfl) ⟨(d).trans (f).symm,a,c,tT⟩ rfl ?_
 refine Af 1 rfl (.mv rfl) ⟨(d).trans (f).symm,a,c,tT⟩ rfl ?_
 refine Af 2 rfl (.mv rfl) ⟨(d).trans (f).symm,a,c,tT⟩ rfl ?_
 refine Af 3 rfl (.ixb Dh B5 rfl rfl (a.isp oD) (i) (rfl) oO) ⟨(d).trans (f).symm,a,c,tT⟩ rfl ?_
 refine BY 4 rfl (λw' hw'=>AO (Bw _) rfl ((hw'.2.1).cells (i) oO)) ⟨(d).trans (f).symm,a,c,tT⟩ rfl ?_
 refine Af 7 rfl (.mv rfl) ⟨(d).trans (f).symm,a,c,tT⟩ rfl ?_
 refine Af 8 rfl (.mv rfl) ⟨(d).trans (f).symm,a,c,tT⟩ rfl ?_
 refine Af 9 rfl (.ixb Dh B5 rfl rfl (a.isp oD) (i) (rfl) oO) ⟨(d).trans (f).symm,a,c,tT⟩ rfl ?_
 refine BY 10 rfl (λw' hw'=>AO (Bw _) rfl ((hw'.2.1).cells (i) oO)) ⟨(d).trans (f).symm,a,c,tT⟩ rfl ?_
 refine An 5 rfl<|WL.c1 AN rfl rfl ((Ji F[i] _ (by have:=E F[i] (AJ y);omega) (by have:=E F[i] (AJ y);omega))) (λbq s=>?_)
 have ah:=AW ag s.size
 have aO:=AD.below aM s
 have B:=d.bl s
 have C:=GY c s (λl=>c.lt l)
 have D:=AS.below a s (λl=>a.lt l)
 have ab:=DJ aN s
 refine WL.e<|⟨⟨(B).trans (f).symm,D,C,tT⟩,?_⟩
 refine Af 6 rfl (.cat rfl rfl oE) ⟨(B).trans (f).symm,D,C,tT⟩ rfl ?_
 refine Af 11 rfl (.build rfl (A83 (70::E5 F[i]) F[i])) ⟨(B).trans (f).symm,D,C,tT⟩ rfl ?_
 refine An 12 rfl<|Cu (L:=ftL) (ps:=_) ([(⟨70::E5 F[i],F[i]⟩:LE)]) A0Z sizeOf53 zeroValue53 rfl rfl rfl rfl rfl rD rfl rfl (λb7 aP v ai j bb=>?_)
 have V:=AW ah j.size
 have aQ:=GU aO v j
 have aR:=Bg v B.lt
 have ac:=B.un j aR
 have aj:=λl=>v▸C.lt l
 have ad:=DB C j aj
 have ak:=λl=>v▸D.lt l
 have ae:=AS.upd D j (λl=>Js (ak l))
 have aS:=uB ab v j
 have b8:=Cq v ab.size
 have b9:b7<=aP.heap.size:=by omega
 refine WL.e<|⟨⟨(ac).trans (f).symm,ae,ad,tT⟩,?_⟩
 refine An 13 rfl<|CW A0Z A7E rfl rfl rfl aQ rfl (ai).rowp (by simp only [P4,A8,Ae,BD,AT];omega) (V) rfl (λh=>CM h (Q6 _ _)) (λbt bu al o bc bd=>?_)
 have P:=ac.below o oO
 have Q:=GY ad o b4
 have T:=AS.below ae o b5
 have aT:=EZ aS (o.mono oO)
 have am:=AW V o.size
 refine WL.e<|⟨⟨(P).trans (f).symm,T,Q,tT⟩,?_⟩
 refine Af 14 rfl (.as rfl) ⟨(P).trans (f).symm,T,Q,tT⟩ rfl ?_
 refine Bd kR<|Ak<|A2 rfl<|A0 (.iis (((i+1:Nat):Int)) (.add rfl rfl (Bp oO)) oO)<|A9 rfl ?_
 have e9:P4 (F.take i)++[(⟨70::E5 F[i],F[i]⟩:LE)]=P4 (F.take (i+1)):=by unfold P4;rw [B7 y,BC];rfl
 have h8:=al
 rw [e9] at h8
 exact ⟨(i+1,_),⟨rfl,rfl,rfl,rfl,rfl,tT⟩,⟨aT,P,Q,T,h8,by ((try simp only) <;> omega),am⟩,by ((try simp only) <;> omega)⟩
 have aL:=dF aa
 have y:i=F.length:=by first | omega | (simp only at *;omega)
 refine C0<|Ah ?_
 obtain ⟨p6,c6,ay,az⟩:=CC.own (Z:=λk=>k<w1.heap.size) q5 (λg hg=>(q5.lt g hg).2)
 rw [y,Cs] at ay az
 subst ay
 refine Ak<|A2 rfl<|A2 rfl<|DQ AN rfl rfl ((UG pb lb cb p6 F c6 pg.fItems _ hb0 q3 aw oO az E av oO b2)) (λx bv H=>?_)
 have an:=AW a9 H.1.size
 have aU:=f.bl H.1
 have U:=DJ q1 H.1
 obtain ⟨xp,xc,its⟩:=x
 obtain ⟨aA,aB,aC,aD⟩:=H.2
 simp only at aA aB aC aD
 refine A2 rfl<|A0 (.ext rfl rfl)<|A0 (.ext rfl rfl)<|Dp rfl<|A9 rfl<|A4<|A2 rfl<|A0 (.eql rfl rfl)<|A2 rfl<|As rfl<|A2 rfl<|As rfl<|A0 (.fa Oz rfl MK dD rfl)<|As rfl<|Ag (Ad (P3 _) rfl aU rfl)<|As rfl<|WL.c1 AN rfl rfl ((S6 aC aA ((hp.below U).row_fItems) aD (hp.below U).all_fItems aB)) (λbw af=>?_)
 have be:=AW an af.size
 have aV:=DJ U af
 refine A0 (.pkT rfl rfl rfl)<|A9 rfl<|Ai (AZ rfl rfl ?_)
 exact ⟨rfl,aV⟩
 have aZ:=dT G
 refine Aa G<|Aa G<|A0 (.pkT rfl G rfl)<|WL.e<|DR rfl rfl<|A4<|WL.c1 AN rfl rfl ((Ki _)) (λbx aW=>?_)
 have aX:=DJ a1 aW
 refine A9 rfl<|Ai (AZ rfl rfl ?_)
 exact ⟨rfl,aX⟩
end
section
open Go.ChangeShapes Go.WideShapes Go.ChangeAt Go.RowKit
theorem own:ownKnob Tryz.prog.godebug=none:=by kernel_rfl
theorem A4x:laidOutB Tryz.prog=true:=by kernel_rfl
def firstCells:Array Value:=(Go.Pinned.utf8FirstZ.map λ(n:Nat)=>Value.int .u8 (n:Int)).toArray
def Xj:Array Value:=#[.int .u8 128,.int .u8 191,.int .u8 160,.int .u8 191,.int .u8 128,.int .u8 159,.int .u8 144,.int .u8 191,.int .u8 128,.int .u8 143,.int .u8 0,.int .u8 0,.int .u8 0,.int .u8 0,.int .u8 0,.int .u8 0,.int .u8 0,.int .u8 0,.int .u8 0,.int .u8 0,.int .u8 0,.int .u8 0,.int .u8 0,.int .u8 0,.int .u8 0,.int .u8 0,.int .u8 0,.int .u8 0,.int .u8 0,.int .u8 0,.int .u8 0,.int .u8 0]
def Va (cs:Array Value):Obj->Obj
 | .cells _ t frozen=>.cells cs t frozen
 | o=>o
noncomputable def OZ (os:Os):World :=
 { World.holding Tryz.prog os ⟨#[],#[],[]⟩ with heap:=((World.holding Tryz.prog os ⟨#[],#[],[]⟩).heap.modify 1 (Va firstCells)).modify 2 (Va Xj) }
end
section
open Go.ChangeShapes Go.WideShapes Go.ChangeAt Go.RowKit
open Go.ChangeMaps (open_string shut_string)
theorem Of (H:Type) (enc:TypeId × Value->H) (W:World) (base:Nat) (args:Array Value) (ds gs:List (DataW H)) (before:List MemPlace)
  (hval:∀ (j:Nat) t v,Tryz.f4.params[j]?=some t->args[j]?=some v->Value.okWide Tryz.prog W .any base t v)
  (hW:DataW.Whole enc Tryz.prog Tryz.f4.params.toList Rows.viewBackSpec.vars false W args.toList ds gs before) :
  Calls Tryz.prog 4 args W λe W'=>∃ v,e=.returned v/\Rows.viewBackSpec.post enc Tryz.prog Tryz.f4 false true false false W args v W':=by
 have hW':=hW
 obtain ⟨p,q,a,hV,rfl,s,u⟩:=hW
 have hA:DataW.TrodAll enc Tryz.prog W 0 (λ_=>true) true Tryz.f4.params.toList args.toList ds p:=a
 rw [Tryz.params4] at hA hval
 obtain ⟨b,w,B,y,C,D,c,rfl,rfl,d,o⟩:=trodAll_cons hA
 obtain ⟨rfl,rfl,rfl⟩:=trodAll_nil o
 obtain rfl:args=#[b]:=by cases args;simp_all
 obtain ⟨rfl,rfl⟩:=trodVars_none hV
 obtain ⟨f,rfl,-⟩:=okWide_struct Oz (hval 0 47 b rfl rfl)
 have g:=d
 obtain ⟨A,i⟩:=g
 obtain ⟨k,l,m⟩:=A01 i
 obtain rfl:f=(IP k).toArray:=by rw [<- l];rfl
 clear a
 simp only [BK] at hW'
 refine (Uc k W m).mono λe W' ⟨he,bel⟩=>?_
 subst he
 exact ⟨_,rfl,_,_,_,[],_,[],hW',trodAll_mk1 (shut_bool u4_ _),(trodAll_cons_mk (Zl A4x kR kR d bel (λx hx=>hW'.lt x (by first | exact hx | (simp only [Ba];simp_all)))) trodAll_mk0),rfl,bel.frame _,λh=>by cases h⟩
theorem O4 (os:Os):laidMet Tryz.prog Rows.viewBackRow.laid ((OZ os).forCall (λ_ _=>0) ⟨#[],#[.agg #[.int .i64 0,.int .i64 0,.slice none 0 0]],[]⟩).memory :=
 laidMet_of_run' 8 kR kR
theorem QE (os:Os) {H:Type} (enc:TypeId × Value->H):∃ places,DataW.whole enc Tryz.prog ((OZ os).forCall (λ_ _=>0) ⟨#[],#[.agg #[.int .i64 0,.int .i64 0,.slice none 0 0]],[]⟩).memory Tryz.f4.params.toList Rows.viewBackSpec.vars false #[Value.agg #[.int .i64 0,.int .i64 0,.slice none 0 0]].toList 8=some ([.agg [.lit (.int .i64 0),.lit (.int .i64 0),.nil]],[],places) :=
 ⟨[],by kernel_rfl⟩
theorem PM (os:Os) (started:os.Started) (H:Type) (enc:TypeId × Value->H) (F:Stop.Interp) :
    ReturnsInHanded {} Tryz.checked os 4 .any ((OpenSpec.ofChange Rows.viewBackSpec).preRow enc Tryz.prog Tryz.f4 Rows.viewBackRow.domain false Rows.viewBackRow.laid) (((OpenSpec.ofChange Rows.viewBackSpec).at F).post enc Tryz.prog Tryz.f4 false true false false):=by
  obtain ⟨places,hx⟩:=QE os enc
  refine returnsInHanded_of_row (C:=Tryz.checked) (s:=OpenSpec.ofChange Rows.viewBackSpec) own started kR func4
    (witness_row_at (enc:=enc) (C:=Tryz.checked) false (OZ os) #[.agg #[.int .i64 0,.int .i64 0,.slice none 0 0]] rfl kR kR kR
      (OpenSpec.preRow_of_cond 8 hx kR (λk hk=>by cases hk) kR (O4 os))) ?_
  intro W base args ds gs before a hW _ b _ hL _ _
  exact Of H enc W base args ds gs before a hW
theorem S1:Rows.ViewBackSaid :=
  OpenClaim.holds_of_cond 4 Tryz.f4 rfl rfl rfl rfl rfl rfl rfl ⟨rfl,rfl,rfl,rfl,rfl⟩ rfl rfl rfl rfl rfl kR func4 kR
    (dT kR) (by unfold Func.isWrapper;first | (rw [A6 (by decide +kernel)];kernel_rfl) | (rw [A1 (by decide +kernel)];exact ⟨rfl,rfl⟩))
    (λos started H enc _ F=>by rw [OpenClaim.pre_eq_preRow];exact PM os started H enc F)
theorem QL (f:FuncId) (fn:Func) (hf:Tryz.pinned.checked.prog.funcNamed "mezzotint/mezzotintlaw21.ViewBack"=some f) (hfn:Tryz.pinned.checked.prog.funcs[f]?=some fn) :
  true=Tryz.pinned.checked.prog.looks []/\∀ (j:Nat) t,fn.params[j]?=some t->Tryz.pinned.checked.prog.wantsStandIn t=false:=by
 obtain rfl:f=4:=DC ((show Tryz.prog.funcNamed "mezzotint/mezzotintlaw21.ViewBack"=some 4 by kernel_rfl).symm.trans hf) |>.symm
 obtain rfl:fn=Tryz.f4:=(DC (func4.symm.trans hfn)).symm
 refine ⟨by kernel_rfl,λj t ht=>?_⟩
 rw [Tryz.params4] at ht
 obtain rfl:t=47:=by simpa using Array.mem_of_getElem? ht
 exact (show Tryz.prog.wantsStandIn 47=false by kernel_rfl)
theorem ViewBack_holds:Rows.ViewBackCardSaid :=
 Claim7.holds_tied_plain_at .later [] _ _ _ _ S1 (λ_ h=>by cases h) kR (λ_ h=>by cases h) viewBack_row_tie rfl ⟨rfl,rfl⟩ kR rfl QL kR
#print axioms ViewBack_holds
end
end Go.Proofs.YthmhfjeojkbpfaaGreatDoor
