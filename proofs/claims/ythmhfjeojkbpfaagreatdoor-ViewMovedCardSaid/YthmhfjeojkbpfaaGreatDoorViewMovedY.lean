/-
  The law ViewMoved: the content of a page that is sound, behind a matrix that moves by whole numbers, is seen as its items, that far away, or not at all where these do not fit. No condition beyond the row's own.
-/
import Derived.Test.YthmhfjeojkbpfaaGreatDoorVm6
set_option maxHeartbeats 6400000
set_option maxRecDepth 100000
namespace Go.Proofs.YthmhfjeojkbpfaaGreatDoor
open Go.RowKit
open Go.Proofs.Tryz
variable {aft:Array Edge} {ops:Array Oper} {ats:Array TypeId} {refs:Bool} {R:Ending->World->Prop} {f:Fr} {dx dy fill last:Int} {sum:Int->List UInt8->Int} {ns:List Int} {A s z:List UInt8} {vs xs:List Value} {B N bp bv by' c cc cp d g i id m t t1:Nat} {F1 T Z:Nat->Prop} {x y:Operand} {p pc pp q:Option Addr} {P:Program} {pos:String} {α β:Type} {E e ta tb tx:TypeId} {v v' v1 vp:Value} {w w1 w2:World} {S':World->Prop}
section
theorem flat_take {f:UInt8->l8_} (h:i<s.length):(s.take (i+1)).flatMap f=(s.take i).flatMap f++f s[i]:=by
 rw [Bd h,List.flatMap_append];simp
theorem SZ {f:UInt8->l8_} {k:Nat} (hf:∀ c,(f c).length<=k) (s:l8_) (i:Nat):((s.take i).flatMap f).length<=k * s.length:=by
 have a:=flat_len hf (s.take i)
 have b:(s.take i).length<=s.length:=by rw [AT];omega
 exact BA a (Nat.mul_le_mul_left _ b)
theorem A6Z (c:UInt8):Xr c=if (decide ((c.toNat:Int)=40) || decide ((c.toNat:Int)=41) || decide ((c.toNat:Int)=92))=true then [92,c] else if (decide ((c.toNat:Int)<32) || decide ((c.toNat:Int) > 126))=true then Ps c else [c]:=by
 have key:∀ c:UInt8,Xr c=if (decide ((c.toNat:Int)=40) || decide ((c.toNat:Int)=41) || decide ((c.toNat:Int)=92))=true then [92,c] else if (decide ((c.toNat:Int)<32) || decide ((c.toNat:Int) > 126))=true then Ps c else [c] :=
  Sw (q:=λc=>Xr c=if (decide ((c.toNat:Int)=40) || decide ((c.toNat:Int)=41) || decide ((c.toNat:Int)=92))=true then [92,c] else if (decide ((c.toNat:Int)<32) || decide ((c.toNat:Int) > 126))=true then Ps c else [c]) (by decide +kernel)
 exact key c
theorem Yk (x:UInt8):#[Value.int .u8 92,.int .u8 (48+(x.toNat:Int) / 64),.int .u8 (48+(x.toNat:Int) / 8 % 8),.int .u8 (48+(x.toNat:Int) % 8)]=(Az (Ps x)).toArray:=by
 have hc:=CE x
 have a:((ch (48+(x.toNat:Int) / 64)).toNat:Int)=48+(x.toNat:Int) / 64:=K2 _ oO oO
 have b:((ch (48+(x.toNat:Int) / 8 % 8)).toNat:Int)=48+(x.toNat:Int) / 8 % 8:=K2 _ oO oO
 have c:((ch (48+(x.toNat:Int) % 8)).toNat:Int)=48+(x.toNat:Int) % 8:=K2 _ oO oO
 simp [Az,Ps,a,b,c]
theorem TH (s:l8_) (w:World) (hs:s.length<=1000000) :
  C9 30 #[.string (bs s)] w (.string (bs (Qm s))):=by
 refine Av func30 rfl ntmps30 ?_
 have aa:=DR w
 refine A5<|Ab rfl<|A5<|CF (ps:=_) BI Iy Qk rfl rfl rfl rfl rfl pR rfl (λb1 aF ab ah ai aZ=>?_)
 have aG:=uB aa ab ai
 have a:=DW ab aa.size
 have aH:=Cq.lit (m:=1) ah rfl (by unfold maxLen;omega)
 have aj:b1<=aF.heap.size:=by omega
 have ak:Cq _ _ _ _ (Az [40]):=aH
 refine Ab rfl<|Aj<|A5<|Ab rfl<|AU<|Cf (α:=Value × Nat) (λt=>[(0,.string (bs s)),(3,t.1),(4,Ah (t.2:Int))]) (λt w'=>AD w w'/\Cq 5 b1 w' t.1 (Az (40::(s.take t.2).flatMap Xr))/\t.2<=s.length/\b1<=w'.heap.size) (λt=>s.length-t.2) ((_,0)) ⟨rfl,rfl,rfl,tT⟩ (⟨aG,ak,G8 _,aj⟩) (λt w1 hR=>?_)
 obtain ⟨v,i⟩:=t
 obtain ⟨hT,c,hi,d⟩:=hR
 simp only at c hi ⊢
 have b4:=SZ Z4 s i
 refine Aj<|A5<|A3 rfl<|A3 rfl<|A1 (.len JK rfl)<|A1 (.lss rfl rfl)<|A0<|Ae rfl (λh5=>?_) (λh5=>?_)
 have aI:=dT h5
 refine Ap<|Aj<|AU<|Aj ?_
 have K:=flat_take (f:=Xr) (show i<s.length by omega)
 have A:=A6Z (s[i]'oO)
 obtain ⟨L,ac⟩:∃ b,b=decide (((s[i]'oO).toNat:Int)=40):=⟨_,rfl⟩
 obtain ⟨P,ad⟩:∃ b,b=decide (((s[i]'oO).toNat:Int)=41):=⟨_,rfl⟩
 obtain ⟨Q,ae⟩:∃ b,b=decide (((s[i]'oO).toNat:Int)=92):=⟨_,rfl⟩
 obtain ⟨X,af⟩:∃ b,b=decide (((s[i]'oO).toNat:Int)<32):=⟨_,rfl⟩
 obtain ⟨n5,ag⟩:∃ b,b=decide (((s[i]'oO).toNat:Int) > 126):=⟨_,rfl⟩
 rw [<- ac,<- ad,<- ae,<- af,<- ag] at A
 have b5:=CE (s[i]'oO)
 refine Ak<|A3 rfl<|A3 rfl<|A1 (.ix JK rfl rfl (i) (rfl) oO)<|Ab rfl<|AU<|Fx 20 ((L || P || Q)) ?_ ?_
 refine Ak<|A3 rfl<|A1 (.bis (L) (.eql rfl rfl) (by exact ac.symm))<|A3 rfl<|B5 rfl rfl rfl (λT=>?_) (λT=>?_)
 refine A3 rfl<|Au T<|A1 (.bis (P) (.eql rfl rfl) (by exact ad.symm))<|A1 (.pkF rfl T rfl)<|A3 rfl<|B5 rfl rfl rfl (λU=>?_) (λU=>?_)
 refine A3 rfl<|Au U<|A1 (.bis (Q) (.eql rfl rfl) (by exact ae.symm))<|A1 (.pkF rfl U rfl)<|Ab rfl ?_
 exact ⟨Gm (CD rfl (by cases L <;> cases P <;> cases Q <;> first | rfl | contradiction)),rfl⟩
 refine Ac U<|A1 (.pkT rfl U rfl)<|Ab rfl ?_
 exact ⟨Gm (CD rfl (by cases L <;> cases P <;> cases Q <;> first | rfl | contradiction)),rfl⟩
 refine Ac T<|A1 (.pkT rfl T rfl)<|A3 rfl<|Ac rfl<|Ac rfl<|A1 (.pkT rfl rfl rfl)<|Ab rfl ?_
 exact ⟨Gm (CD rfl (by cases L <;> cases P <;> cases Q <;> first | rfl | contradiction)),rfl⟩
 refine Ae rfl (λh8=>?_) (λh8=>?_)
 refine Ak<|A3 rfl<|A3 rfl<|CF (ps:=_) BI Iy Qk rfl rfl rfl rfl rfl pR rfl (λb9 b6 V al q a'=>?_)
 have B:=BA d q.size
 have am:=Cq.new c V q
 have an:=uB hT V q
 have aP:=DW V hT.size
 have aJ:=Ay.lit (l:=[92,s[i]'oO]) al (rfl)
 refine QW BI GB rfl rfl rfl am rfl aJ (by simp only [Bc,A8,Ag,Ps];omega) (B) rfl (λh=>nomatch h) (λb7 b8 a0 C aQ=>?_)
 have ao:=EU an (C.mono (a))
 have ap:=Cq.cat a0
 have a1:=BA B C.size
 refine Ab rfl<|Ak<|A3 rfl<|A1 (.iis (((i+1:Nat):Int)) (.add rfl rfl (Bn oO)) oO)<|Ab rfl ?_
 exact ⟨(_,i+1),⟨rfl,rfl,rfl,tT⟩,⟨ao,by rw [K,A,A7 aS];exact ap,oM,a1⟩,oM⟩
 refine Fx 35 ((X || n5)) ?_ ?_
 refine Ak<|A3 rfl<|A1 (.bis (X) (.lss rfl rfl) (by exact af.symm))<|A3 rfl<|B5 rfl rfl rfl (λo=>?_) (λo=>?_)
 refine A3 rfl<|Au o<|A1 (.bis (n5) (.gtr rfl rfl) (by exact ag.symm))<|A1 (.pkF rfl o rfl)<|Ab rfl ?_
 exact ⟨Gm (CD rfl (by cases X <;> cases n5 <;> first | rfl | contradiction)),rfl⟩
 refine Ac o<|A1 (.pkT rfl o rfl)<|Ab rfl ?_
 exact ⟨Gm (CD rfl (by cases X <;> cases n5 <;> first | rfl | contradiction)),rfl⟩
 refine Ae rfl (λaK=>?_) (λaK=>?_)
 refine Ak<|A3 rfl<|A3 rfl<|A1 (.quo rfl rfl oO (u8q oO oO oO))<|A1 (.iis (48+((s[i]'oO).toNat:Int) / 64) (.add rfl rfl (Un oO)) oO)<|A3 rfl<|A1 (.quo rfl rfl oO (u8q oO oO oO))<|A1 (.rem rfl rfl oO (Int.tmod_eq_emod_of_nonneg oO))<|A1 (.iis (48+((s[i]'oO).toNat:Int) / 8 % 8) (.add rfl rfl (Un oO)) oO)<|A3 rfl<|A1 (.rem rfl rfl oO (Int.tmod_eq_emod_of_nonneg oO))<|A1 (.iis (48+((s[i]'oO).toNat:Int) % 8) (.add rfl rfl (Un oO)) oO)<|CF (ps:=_) BI Iy Qk rfl rfl rfl rfl rfl pR rfl (λba b0 u a2 g aR=>?_)
 have D:=BA d g.size
 have aq:=Cq.new c u g
 have ar:=uB hT u g
 have aL:=DW u hT.size
 have aM:=Ay.lit (l:=Ps (s[i]'oO)) a2 (Yk _)
 refine QW BI GB rfl rfl rfl aq rfl aM (by simp only [Bc,A8,Ag,Ps];omega) (D) rfl (λh=>by unfold Ps at h;cases h) (λbb bc a3 E aT=>?_)
 have au:=EU ar (E.mono (a))
 have av:=Cq.cat a3
 have a4:=BA D E.size
 refine Ab rfl<|Ak<|A3 rfl<|A1 (.iis (((i+1:Nat):Int)) (.add rfl rfl (Bn oO)) oO)<|Ab rfl ?_
 exact ⟨(_,i+1),⟨rfl,rfl,rfl,tT⟩,⟨au,by rw [K,A,A2 (bF aS),A7 aS];exact av,oM,a4⟩,oM⟩
 refine Ak<|A3 rfl<|A3 rfl<|CF (ps:=_) BI Iy Qk rfl rfl rfl rfl rfl pR rfl (λbd b2 x a5 j aU=>?_)
 have F:=BA d j.size
 have aw:=Cq.new c x j
 have ax:=uB hT x j
 have aN:=DW x hT.size
 refine EP BI GB rfl rfl rfl aw rfl a5 rfl (by simp only [Bc,A8,Ag,Ps];omega) (F) rfl (λbe bf a6 G aV=>?_)
 have ay:=EU ax (G.mono (a))
 have az:=ED a6 (s[i]'oO) (rfl)
 have a7:=BA F G.size
 refine Ab rfl<|Ak<|A3 rfl<|A1 (.iis (((i+1:Nat):Int)) (.add rfl rfl (Bn oO)) oO)<|Ab rfl ?_
 exact ⟨(_,i+1),⟨rfl,rfl,rfl,tT⟩,⟨ay,by rw [K,A,A2 (bF aS),A2 (bF aS)];exact az,oM,a7⟩,oM⟩
 have aI:=dF h5
 refine C7<|Aj ?_
 have aA:s.take i=s:=AR oO
 refine Ak<|A3 rfl<|CF (ps:=_) BI Iy Qk rfl rfl rfl rfl rfl pR rfl (λbg b3 y a8 k aW=>?_)
 have H:=BA d k.size
 have aB:=Cq.new c y k
 have aC:=uB hT y k
 have aO:=DW y hT.size
 refine EP BI GB rfl rfl rfl aB rfl a8 rfl (by simp only [Bc,A8,Ag,Ps];omega) (H) rfl (λbh bi a9 J aX=>?_)
 have aD:=EU aC (J.mono (a))
 have aE:=ED a9 (41) (rfl)
 have aY:=BA H J.size
 obtain ⟨pq,cq,eq,hq,bj,bk,bl⟩:=LN (l:=(40::(s.take i).flatMap Xr++[41])) aE
 subst eq
 refine Ai (MG (l:=(40::(s.take i).flatMap Xr++[41])) BI Ln JK rfl (hq))<|Ab rfl<|AI ?_
 exact ⟨Cv (by rw [aA];rfl),aD⟩
end
section
def B0z (e:TypeId) (B:Nat) (w:World) (p:Option Addr) (n c:Nat) (l:l8_):Prop :=
 n=l.length/\(Cq e B w (.slice p n c) (Az l)\/(c=n/\0<n/\Ay w p l/\B<=(pA p).block))
section
variable {P:Program} {n:Sh} {f:Fr}
theorem A81  {L:Fq α} {Q:Exit->Fr->World->Prop} {rest:List Oper} {ty:Nat} {t:TypeId} {nn:Nat} {l:List α} (o:α) (k:Nat)
  (hs:∀ w,(sizeOf t).run P w=.ok 1 w) (hL:L.m=1) (hown:AJ L e B w (.slice p nn c) l) (hk:k<l.length) (hx:D3 f x=some (.pointer (some ((pA p).add k)))) (hy:D3 f y=some v) (hv:L.V o=[v]) (h1:v.oneCell'=true)
  (kk:∀ w1 g,p=some ⟨g,0,none⟩->E6 g w w1->AJ L e B w1 (.slice p nn c) (l.set k o)->WL P n ops Q rest f w1) :
  WL P n ops Q (⟨none,.store t x y,ty,pos,aft,none⟩::rest) f w :=
 A80 o k 0 hown hk oO hs (by rw [hx,hL,Nat.mul_one,Ff]) hy h1 (by
  have hl:=L.len l[k]
  rw [hL] at hl
  obtain ⟨a,ha⟩:=List.length_eq_one_iff.1 hl
  rw [hv,ha];rfl) kk
end
end
section
theorem Bg  {t:TypeId} {b:Nat} {cs:Array Value} (h:Cq e B w v xs) (hb:Be w b cs t) (he:e≠t):∀ g,v.ownBlock=some g->g≠b:=λg hg hgb=>by
 obtain ⟨hl,h⟩:=h
 rcases h with ⟨rfl,-⟩ | ⟨g1,cap,cur,rfl,-,h1,-⟩
 · cases hg
 ·
  cases hg
  have hgb:g1=b:=hgb
  rw [hgb,show w.heap[b]?=_ from hb] at h1
  simp only [Br,Obj.cells.injEq] at h1
  exact he h1.2.1.symm
theorem EI  {L:Fq α} {e':TypeId} {B':Nat} {l:List α} (h:Cq e B w v xs) (h':AJ L e' B' w v' l) (he:e≠e'):∀ g,v.ownBlock=some g->v'.ownBlock≠some g:=λg hg hg'=>by
 obtain ⟨hl,h⟩:=h
 rcases h with ⟨rfl,-⟩ | ⟨g1,cap,cur,rfl,-,h1,-⟩
 · cases hg
 ·
  rcases h' with ⟨rfl,-⟩ | ⟨g2,cap',cur',rfl,-,h2,-⟩
  · cases hg'
  ·
   cases hg;cases hg'
   rw [h1] at h2
   simp only [Br,Obj.cells.injEq] at h2
   exact he h2.2.1
theorem YW  {L:Fq α} {C:Nat} {l:List α} (h:AJ L e B w v l) (hC:C<=B):AJ L e C w v l :=
 h.imp id λ⟨g,cap,cur,h1,h2,h3⟩=>⟨g,cap,cur,h1,BA hC h2,h3⟩
def JB:Fq Bool:=⟨1,λb=>[.bool b],dD,λ_=>rfl,λx u hu=>by simp only [Ao] at hu;subst hu;rfl⟩
theorem A9U:(Tryz.prog.info? 4).map (λi=>(i.zero,i.size,i.bytes))=some (some (.bool false),1,1):=by kernel_rfl
def Io:P4->List AN->l8_ × P4
 | st,[]=>([],st)
 | st,x::r=>(LW st x++(Io (NW st x) r).1,(Io (NW st x) r).2)
theorem Sq (x:AN):∀ (xs:List AN) (st:P4),Io st (xs++[x])=((Io st xs).1++LW (Io st xs).2 x,NW (Io st xs).2 x)
 | [],st=>by simp [Io]
 | y::xs,st=>by
  have:=Sq x xs (NW st y)
  simp only [G5,Io,this,AB]
theorem ZM:∀ (xs:List AN) (st:P4),FC st xs=(Io st xs).1++(if (Io st xs).2.clips.isEmpty then [] else [81,10])
 | [],st=>by simp [FC,Io]
 | x::xs,st=>by
  rw [show FC st (x::xs)=LW st x++FC (NW st x) xs from rfl,ZM xs (NW st x),<- AB]
  rfl
theorem Md (s:l8_):(Qm s).length<=4 * s.length+2:=by
 have:=flat_len Z4 s
 unfold Qm
 simp only [A8,A9,Ag];omega
theorem A1z {c:Bm} (h:Fo c=true):(FD c).length<=1638405:=by
 unfold Fo EZ at h
 rw [A4,A4,Ad] at h
 have:=KU c.fPath 0 h.2.2
 unfold FD
 rw [A9]
 split <;> simp only [A8,Ag] <;> omega
theorem Sr:∀ l:List Bm,(∀ c∈l,Fo c=true)->(l.flatMap FD).length<=1638405 * l.length
 | [],_=>by simp
 | c::l,h=>by
  have h1:=A1z (h c (by simp))
  have h2:=Sr l λd hd=>h d (by simp [hd])
  simp only [CG,A9,A8];omega
theorem OV (big:Bool) {c:Cj} (h:Tg c):(OW big c).length<=2000:=by
 have a:=CW _ (IN h).1
 have b:=(IN h).2
 have d:(Lb big c.fSpace).length<=2:=by unfold Lb;cases big <;> (split;decide;split <;> decide)
 unfold OW CX
 simp only [A9,A8,Ag];omega
theorem W7 {a b:DP} (hk:M7 b):(Nf a b).length<=2000:=by
 have e:∀ {n:Int},Am n=true->∀ m∈[n],Am m=true:=λh m hm=>by rw [Ao.1 hm];exact h
 have f:=CW [b.fWidth] (e hk.w.1)
 have g:=CW [b.fMiter] (e hk.m.1)
 have i:=CW [b.fPhase] (e hk.ph.1)
 have k:=OR hk.c
 have l:=OR hk.j
 have o:=LC b.fDash (λn hn=>(hk.d n hn).1)
 have q:=hk.dl
 rw [Ck] at f g i
 have lw:(Dh a.fWidth b.fWidth (λn=>CX [n] [119])).length<=63:=by unfold Dh CX;split <;> simp <;> omega
 have lc:(Dh a.fCap b.fCap (λn=>Dp n [74])).length<=4:=by unfold Dh Dp;split <;> simp <;> omega
 have lj:(Dh a.fJoin b.fJoin (λn=>Dp n [106])).length<=4:=by unfold Dh Dp;split <;> simp <;> omega
 have lm:(Dh a.fMiter b.fMiter (λn=>CX [n] [77])).length<=63:=by unfold Dh CX;split <;> simp <;> omega
 have ld:(Es b).length<=800:=by unfold Es CX;simp;omega
 unfold Nf
 simp only [A9]
 split
 · omega
 · simp only [Ag];omega
theorem A7z {so:SD} {x:AN} (hx:JD x):(kW so x).length<=4000:=by
 unfold kW
 split
 ·
  rename_i hk
  have b:=W7 (a:=so.pen) ((hx.pnt oO).pen hk)
  rw [A9]
  split
  · have:=OV true hx.col;omega
  · simp only [Ag];omega
 ·
  split
  · have:=OV false hx.col;omega
  · simp
theorem Tu {x:AN} (hx:A1J x):(Ju x).length<=300000:=by
 have a:=CW (Ej x) hx.mat
 have b:=Md x.fBytes
 have c:=hx.bytes.2
 have d:(Ej x).length=6:=rfl
 have e:=EA x.fFont (by have:=hx.font;omega) (by have:=hx.font;omega)
 unfold Ju CX
 simp only [A9,A8,Ag];omega
structure StK (w:World) (st:P4) (pc:Option Addr) (cc:Nat):Prop where
 row:Bi G0 w pc st.clips
 ok:∀ c∈st.clips,Hs w c
 len:st.clips.length<=16
 sl:Lf pc st.clips cc
 pen:AZ E5 w st.so.pen.pfDash st.so.pen.fDash
 dl:st.so.pen.fDash.length<=11
 penO:AZ E5 w st.outer.pen.pfDash st.outer.pen.fDash
 dlO:st.outer.pen.fDash.length<=11
theorem A9y (w:World):StK w Hi none 0:=⟨Bi.nil w,λc hc=>(by cases hc),G8 _,Lf.z,AZ.none,G8 _,AZ.none,G8 _⟩
theorem A9x  {st:P4} {x:AN} (h:StK w st pc cc) (hx:HY w x) (hk:JD x):StK w (NW st x) x.pfClips x.cfClips:=by
 have a:AZ E5 w (H0 st x).pen.pfDash (H0 st x).pen.fDash/\(H0 st x).pen.fDash.length<=11:=by
  unfold H0;split
  · exact ⟨h.penO,h.dlO⟩
  · exact ⟨h.pen,h.dl⟩
 refine ⟨hx.row_fClips,hx.all_fClips,hk.cl,hx.sl_fClips,?_,?_,?_,?_⟩
 ·
  show AZ E5 w (Tx (H0 st x) x).pen.pfDash (Tx (H0 st x) x).pen.fDash
  unfold Tx;split
  · exact hx.ok_fPen.row_fDash
  · exact a.1
 ·
  show (Tx (H0 st x) x).pen.fDash.length<=11
  unfold Tx;split
  · rename_i hk3;exact ((hk.pnt oO).pen hk3).dl
  · exact a.2
 ·
  show AZ E5 w (if gB st x then H0 st x else st.outer).pen.pfDash (if gB st x then H0 st x else st.outer).pen.fDash
  split
  · exact a.1
  · exact h.penO
 ·
  show (if gB st x then H0 st x else st.outer).pen.fDash.length<=11
  split
  · exact a.2
  · exact h.dlO
def soS (s:SD) (c:Cj):SD:=⟨s.fill,c,s.pen⟩
def soP (s:SD) (p:DP):SD:=⟨s.fill,s.stroke,p⟩
def soF (s:SD) (c:Cj):SD:=⟨c,s.stroke,s.pen⟩
theorem A8s (s:SD) {x:AN} (h:x.fKind=3):Tx s x=soP (soS s x.fColor) x.fPen:=A7 h
theorem A6w (s:SD) {x:AN} (h:¬ x.fKind=3):Tx s x=soF s x.fColor:=A2 h
theorem A54  {st:P4} (h:StK w st pc cc) {x:AN}:AZ E5 w (H0 st x).pen.pfDash (H0 st x).pen.fDash/\(H0 st x).pen.fDash.length<=11:=by
 unfold H0;split
 · exact ⟨h.penO,h.dlO⟩
 · exact ⟨h.pen,h.dl⟩
theorem Yr {x:AN} (hx:JD x):x.fPath.length<=4096/\DE 0 x.fPath=true:=by
 by_cases hk:x.fKind=4
 · rw [(hx.txt hk).path];exact ⟨G8 _,rfl⟩
 · exact ⟨(hx.pnt hk).len,(hx.pnt hk).segs⟩
theorem JP  {b:Nat} {t:TypeId} {x:AN} (h:Be w b (RV.V x).toArray t):AZ E5 w (some ⟨b,0,none⟩) (Ej x):=⟨λ_=>rfl,λj hj=>by
 show w.cell? ((⟨b,0,none⟩:Addr).add j)=_
 have h':j<6:=hj
 rw [add_lit,h.cell]
 obtain rfl | rfl | rfl | rfl | rfl | rfl:j=0\/j=1\/j=2\/j=3\/j=4\/j=5:=by omega
 all_goals rfl⟩
def A96 (b:Bool):Value:=.bool b
theorem Xk  {l:List Bool} (h:Bi JB w p l):AZ A96 w p l:=⟨h.isp,λj hj=>by
 have:=h.cells j hj 0 dD
 rw [show j * JB.m+0=j by show j * 1+0=j;omega] at this
 exact this⟩
def Kn (us:List Bool) (k:Nat):List Int:=((List.range k).filter λj=>us.getD j false).map λ(j:Nat)=>(j:Int)
theorem Sd (us:List Bool) (k:Nat):Kn us (k+1)=if us.getD k false=true then Kn us k++[(k:Int)] else Kn us k:=by
 unfold Kn
 rw [List.range_succ,List.filter_append,Bp]
 by_cases h:us.getD k false=true
 · rw [A7 h,show ([k]:List Nat).filter (λj=>us.getD j false)=[k] by rw [List.filter_cons,A7 h];rfl];rfl
 · rw [A2 h,show ([k]:List Nat).filter (λj=>us.getD j false)=[] by rw [List.filter_cons,A2 h];rfl];simp
theorem A1n (us:List Bool) (k:Nat):(Kn us k).length<=k:=by
 unfold Kn
 rw [B0]
 exact BA (List.length_filter_le _ _) (Nat.le_of_eq List.length_range)
theorem A3E {us:List Bool} {k:Nat} {f:Int} (h:f∈Kn us k):0<=f/\f<k:=by
 unfold Kn at h
 obtain ⟨j,hj,rfl⟩:=FR.1 h
 have:=List.mem_range.1 (List.mem_filter.1 hj).1
 omega
theorem A1o {us:List Bool} {k:Nat} {f:Int} (h0:0<=f) (h1:f<k) (h:us.getD f.toNat false=true):f∈Kn us k:=by
 unfold Kn
 refine FR.2 ⟨f.toNat,List.mem_filter.2 ⟨List.mem_range.2 oO,h⟩,oO⟩
theorem A4V {xs:List AN} {x:AN} {us:List Bool} {hi:i<xs.length} (hx:x=xs[i]) (hl:us.length=14) (h:∀ j (hj:j<xs.length),j<i->xs[j].fKind=4->us.getD xs[j].fFont.toNat false=true) {j:Nat} (hj:j<xs.length) (hji:j<i+1) (hk:xs[j].fKind=4)
    (hf:x.fKind=4->0<=x.fFont/\x.fFont<=13):(if x.fKind=4 then us.set x.fFont.toNat true else us).getD xs[j].fFont.toNat false=true:=by
  rcases BL j i with a | a
  · have b := h j hj a hk
    split
    · rw [Cc, List.getElem?_set]
      split
      · split
        · rfl
        · omega
      · rw [<- Cc];exact b
    · exact b
  · obtain rfl : j = i := by omega
    rw [<- hx] at hk ⊢
    have:=hf hk
    rw [A7 hk,Cc,List.getElem?_set_self oO]
    rfl
end
section
def A9q (xs:List AN) (e:Ending) (w':World):Prop :=
 e=.returned (.tuple #[.slice none 0 0,.slice none 0 0,Ah 25]) \/
 ∃ (pb:Option Addr) (cb:Nat) (pf:Option Addr) (cf:Nat) (F:List Int),e=.returned (.tuple #[.slice pb (FC Hi xs).length cb,.slice pf F.length cf,Ah 0])/\Ay w' pb (FC Hi xs)/\(FC Hi xs).length<=cb/\(FC Hi xs=[]->cb=0\/pb≠none) /\
  AZ E5 w' pf F/\F.length<=14/\(∀ f∈F,0<=f/\f<=13)/\(∀ x∈xs,x.fKind=4->x.fFont∈F)
theorem A3d (st:P4) (x:AN):(nC st x:Int)=if qB st x then 0 else (st.clips.length:Int):=by unfold nC;split <;> rfl
theorem VW (pg:Kr) (w:World) (hp:LM w pg) (hs:∀ x∈pg.fItems,E8 x=true) (hl:pg.fItems.length<=4096) :
    Calls Tryz.prog 11 #[.agg (HK pg).toArray] w λe w'=>A9q pg.fItems e w'/\AD w w':=by
  have iZ:=hp.row_fItems.lt;refine Av func11 rfl ntmps11 ?_;have iI:=DR w;refine A5<|D5 rfl rfl (λb1 m0 iJ i' j0 l5=>?_);have k0:=uB iI iJ j0;have kP:=DW iJ iI.size;refine DA rfl<|DA rfl<|Ab rfl<|A5<|Ab rfl<|A5<|As (TF _) (λw3 iK=>?_);have bH:=i'.bl iK;have iL:=DN k0 iK;refine C1 zeroValue80 rfl (λb6 m1 dv j8 dw l6=>?_);have k1:=Bx dv bH.lt;have k2:=bH.un dw k1;have k3:=uB iL dv dw;have kQ:=DW dv iL.size;refine AH rfl rfl j8 Q8 rfl rfl (λm2 eV cN kS=>?_);have ax:=k2.up cN;have j9:=CP k3 oO cN;refine A0<|A5<|As (TF _) (λm3 cz=>?_);have bw:=ax.bl cz;have dx:=eV.bl cz;have dy:=DN j9 cz;refine C1 zeroValue80 rfl (λm l7 bK eW bL kT=>?_);have ja:=Bx bK bw.lt;have jb:=bw.un bL ja;have jc:=Bx bK dx.lt;have jd:=dx.un bL jc;have je:=uB dy bK bL;have k4:=DW bK dy.size;refine AH rfl rfl eW Q8 rfl rfl (λk5 cO bM kU=>?_);have dz:=jb.up bM;have dA:=jd.up bM;have jf:=CP je oO bM;refine A0<|A5<|Ab rfl<|A5<|A86 (L:=JB) (false) (14) underlying82 A9U rfl rfl rfl rfl oO dD rfl (λm4 eY aW=>?_);have jg:=dz.below aW dz.lt;have jh:=dA.below aW dA.lt;have cA:=cO.below aW cO.lt;have ji:=DN jf aW;have k6:=aW.size;refine DA rfl<|?_;obtain ⟨v,hb9⟩:=eX k5.heap.size;have iM:=YW (C:=m+1) eY (cA |>.lt |> λ_=>by omega);rw [<- hb9] at iM ⊢;have m5:=cA.lt;refine A0<|Aj<|A5<|Ab rfl<|AU<|Cf (α:=Nat × P4 × Option Addr × Nat × Value × List Bool) (λt=>[(1,ptV b1),(5,t.2.2.2.2.1),(6,ptV b6),(7,ptV m),(8,.slice t.2.2.1 t.2.1.clips.length t.2.2.2.1),(9,.slice (some ⟨v,0,none⟩) 14 14),(10,Ah (t.1:Int))]) (λt w'=>AD w w'/\Be w' b1 (HK pg).toArray 47/\Be w' b6 (Rb (t.2.1.so)).toArray 80/\Be w' m (Rb (t.2.1.outer)).toArray 80/\Cq 5 (m+1) w' t.2.2.2.2.1 (Az ((Io Hi (pg.fItems.take t.1)).1))/\AJ JB 4 (m+1) w' (.slice (some ⟨v,0,none⟩) 14 14) (t.2.2.2.2.2)/\(Io Hi (pg.fItems.take t.1)).2=t.2.1/\StK w t.2.1 t.2.2.1 t.2.2.2.1/\t.2.2.2.2.2.length=14/\(∀ j (hj:j<pg.fItems.length),j<t.1->pg.fItems[j].fKind=4->t.2.2.2.2.2.getD pg.fItems[j].fFont.toNat false=true)/\t.1<=pg.fItems.length/\(Io Hi (pg.fItems.take t.1)).1.length<=1048576) (λt=>pg.fItems.length-t.1) ((0,Hi,none,0,.slice none 0 0,List.replicate 14 false)) ⟨rfl,rfl,rfl,rfl,rfl,rfl,rfl,tT⟩ (⟨ji,jg,jh,cA,Cq.nil _ _ _,iM,rfl,A9y w,rfl,λj hj h=>D6 h (Nat.not_lt_zero _),G8 _,G8 _⟩) (λt w1 hR=>?_)
  obtain ⟨⟨i,st,pc,cc,v5,us⟩,k7⟩:=eX t;subst k7;obtain ⟨q1,q2,q3,q4,q5,q6,q7,q8,q9,dB,k8,iN⟩:=hR;simp only at q3 q4 q5 q6 q7 q8 q9 dB k8 iN;have bN:=q4.lt;have m6:=q6.lt v rfl;have dC:=hp.row_fItems.below q1 iZ;obtain ⟨T0,cP⟩:=eX ((Io Hi (pg.fItems.take i)).1);rw [<- cP] at q5 iN
  show W Tryz.prog _ _ _ [(1,ptV b1),(5,v5),(6,ptV b6),(7,ptV m),(8,.slice pc st.clips.length cc),(9,.slice (some ⟨v,0,none⟩) 14 14),(10,Ah (i:Int))] w1
  refine Aj<|A5<|A3 rfl<|A1 (.fa O8 rfl Mi dD rfl)<|Ai (Af (OM _) rfl q2 rfl)<|A1 (.lenS JQ rfl)<|A1 (.lss rfl rfl)<|A0<|Ae rfl (λdE=>?_) (λdE=>?_)
  · have jj := dT dE
    have cQ:i<pg.fItems.length:=by omega
    obtain ⟨x,hx⟩:=eX (pg.fItems[i]);have iO:x∈pg.fItems:=by rw [hx];exact AM cQ
    have af:=S5 (hs x iO);have a8:=hp.all_fItems x iO;have k9:=q5.ltV;have kV:=af.cl;refine Ap<|Aj<|AU<|A5<|A1 (.fa O8 rfl Mi dD rfl)<|Ai (Af (OM _) rfl q2 rfl)<|A3 rfl<|A1 (.ixm JQ Uy rfl rfl (dC.isp oO) (i) (rfl) oO)<|Ai (Dy Db rfl OI dC (i) oO rfl)<|C1 A1S rfl (λQ l8 aU eZ ah kX=>?_);have e':=BA bN ah.size;have jk:=Cq.new q5 aU ah;have f0:=BA bN ah.size;have jl:=GK q6 aU ah;have jm:=Bx aU q2.lt;have jn:=q2.un ah jm;have jo:=Bx aU q3.lt;have jp:=q3.un ah jo;have jq:=Bx aU q4.lt;have jr:=q4.un ah jq;have js:=uB q1 aU ah;have ka:=DW aU q1.size;refine AH rfl rfl eZ OI rfl rfl (λkb f1 ai kY=>?_);have kZ:=BA e' ai.size;have dG:=Cq.upd jk ai ((λg hg e=>by (have:=k9 g hg;omega)));have k':=BA f0 ai.size;have dH:=I4 jl ai ((λg hg e=>by have hg:some v=some g:=hg;cases hg;omega));have dI:=jn.up ai;have dJ:=jp.up ai;have dK:=jr.up ai;have ba:=CP js oO ai;refine A0<|Aj ?_;have ax:=f1;rw [<- hx] at ax;have l9:=ax.lt;refine Ak<|A3 rfl<|A1 (.lenS Fj rfl)<|Ab rfl<|De (α:=Value) (λt=>[(1,ptV b1),(5,t),(6,ptV b6),(7,ptV m),(8,.slice pc st.clips.length cc),(9,.slice (some ⟨v,0,none⟩) 14 14),(10,Ah (i:Int)),(11,ptV Q),(12,Ah (nC st x:Int))]) (λt w'=>AD w w'/\Be w' b1 (HK pg).toArray 47/\Be w' b6 (Rb (H0 st x)).toArray 80/\Be w' m (Rb (st.outer)).toArray 80/\Cq 5 (m+1) w' t (Az (T0++(if qB st x then [81,10] else [])))/\AJ JB 4 (m+1) w' (.slice (some ⟨v,0,none⟩) 14 14) (us)/\Be w' Q (F4 x).toArray 44) ?_ (λt w1 hR=>?_);refine De (α:=Unit) (λt=>[(1,ptV b1),(5,v5),(6,ptV b6),(7,ptV m),(8,.slice pc st.clips.length cc),(9,.slice (some ⟨v,0,none⟩) 14 14),(10,Ah (i:Int)),(11,ptV Q),(12,Ah (st.clips.length:Int)),(47,.bool (qB st x))]) (λt w'=>AD w w'/\Be w' b1 (HK pg).toArray 47/\Be w' b6 (Rb (st.so)).toArray 80/\Be w' m (Rb (st.outer)).toArray 80/\Cq 5 (m+1) w' v5 (Az (T0))/\AJ JB 4 (m+1) w' (.slice (some ⟨v,0,none⟩) 14 14) (us)/\Be w' Q (F4 x).toArray 44) ?_ (λt w1 hR=>?_)
    refine Ak<|A3 rfl<|A1 (.fa Db rfl Gg dD rfl)<|Ai (Af (JY _) rfl ax rfl)<|A1 (.lenS Fj rfl)<|A1 (.gtr rfl rfl)<|A3 rfl<|B5 rfl rfl rfl (λab=>?_) (λab=>?_)
    · have jt := dF ab
      refine A3 rfl<|Au ab<|A1 (.fa Db rfl Gg dD rfl)<|Au ab<|Ai (Af (JY _) rfl ax rfl)<|Au ab<|A3 rfl<|Au ab<|A1 (.slmT Fj K6 rfl rfl  (st.clips.length) (rfl) (by have:=a8.sl_fClips.le;omega))<|Au ab<|As (by have h:=(Mj pc (Gz 2 x.pfClips x.cfClips 0) st.clips (x.fClips.take st.clips.length) cc x.cfClips kb (q8.row.below ba (λy=>q8.row.lt y)) ((a8.row_fClips.partT st.clips.length oO a8.sl_fClips.le).below ba (λy=>(a8.row_fClips.partT st.clips.length oO a8.sl_fClips.le).lt y)) (λc hc=>(q8.ok c hc).below ba) (λc hc=>(a8.all_fClips c (DK hc)).below ba) (by have:=q8.len;omega));rw [AT,Nat.min_eq_left oO] at h;exact h) (λm7 aV=>?_);have ju:=Cq.drew dG aV;have jv:=AJ.drew dH aV;have jw:=dI.drew aV;have jx:=dJ.drew aV;have jy:=dK.drew aV;have jz:=ax.drew aV;have jA:=Df.below ba aV;refine Au ab<|A1 (.not rfl)<|A1 (.pkF rfl ab rfl)<|A0<|?_;exact ⟨(),⟨rfl,rfl,rfl,rfl,rfl,rfl,rfl,rfl,rfl,CD rfl (by unfold qB;rw [An oO];rfl),tT⟩,jA,jw,jx,jy,ju,jv,jz⟩
    have jt:=dT ab;refine Ac ab<|Ac ab<|Ac ab<|Ac ab<|Ac ab<|Ac ab<|A1 (.pkT rfl ab rfl)<|A0<|?_;exact ⟨(),⟨rfl,rfl,rfl,rfl,rfl,rfl,rfl,rfl,rfl,CD rfl (by unfold qB;rw [Al oO];rfl),tT⟩,ba,dI,dJ,dK,dG,dH,ax⟩;obtain ⟨j1,j2,j3,j4,G,P,j7⟩:=hR;have F:=j4.lt;have bx:=P.lt v rfl;refine Ae rfl (λkc=>?_) (λkc=>?_);refine A5<|A3 rfl<|GF BI JK GB rfl G rfl (by simp only [Bc,A9,A8,Ag];omega) (F) rfl (λm8 m9 f2 f3 aX=>?_);have jB:=j2.grown aX (λe=>Bg G aS dD _ e rfl);have jC:=j3.grown aX (λe=>Bg G aS dD _ e rfl);have dL:=j4.grown aX (λe=>Bg G aS dD _ e rfl);have jD:=j7.grown aX (λe=>Bg G aS dD _ e rfl);have jE:=AJ.same P (λg hg=>aX.block g ((P).lt g hg).2 (λhx=>by exact EI G P dD g hx.symm hg));have jF:=EU j1 (f3.mono oO);have dM:=Cq.cat f2;refine Ab rfl<|A5<|Ai (BD rfl dL Uo rfl Q8)<|AH rfl rfl jC Q8 rfl rfl (λma f4 aL l0=>?_);have jG:=Cq.upd dM aL ((λg hg e=>by (have:=(dM).ltV g hg;omega)));have jH:=I4 jE aL ((λg hg e=>by have hg:some v=some g:=hg;cases hg;omega));have jI:=jB.up aL;have jJ:=dL.up aL;have jK:=jD.up aL;have jL:=CP jF oO aL;refine A0<|Ak<|Ab rfl ?_
    (refine ⟨_, ⟨rfl, rfl, rfl, rfl, rfl, rfl, rfl, rfl, M5 rfl (by rw [A3d, A7 aS]), tT⟩, ?_⟩
     have hq:qB st x=true:=by assumption
     have e1:H0 st x=st.outer:=by unfold H0;rw [A7 hq]
     rw [e1,A7 hq];exact ⟨jL,jI,f4,jJ,jG,jH,jK⟩)
    refine Ap ?_
    (refine ⟨_, ⟨rfl, rfl, rfl, rfl, rfl, rfl, rfl, rfl, M5 rfl (by rw [A3d, A2 (by simp_all)]), tT⟩, ?_⟩
     have hq:qB st x=false:=by assumption
     have e1:H0 st x=st.so:=by unfold H0;rw [hq];rfl
     rw [e1,hq,A2 dD,Bv];exact ⟨j1,j2,j3,j4,G,P,j7⟩)
    obtain ⟨vv,rfl⟩:=eX t;obtain ⟨j1,j2,j3,j4,G,P,j7⟩:=hR;have F:=j4.lt;have bx:=P.lt v rfl;have kd:(T0++(if qB st x then ([81,10]:l8_) else [])).length<=1048578:=by rw [A9];split <;> simp only [A8,Ag] <;> omega
    obtain ⟨Tq,iP⟩:∃ T,T=T0++(if qB st x then ([81,10]:l8_) else []):=⟨_,rfl⟩;rw [<- iP] at G kd;refine De (α:=Value) (λt=>[(1,ptV b1),(5,t),(6,ptV b6),(7,ptV m),(8,.slice pc st.clips.length cc),(9,.slice (some ⟨v,0,none⟩) 14 14),(10,Ah (i:Int)),(11,ptV Q),(12,Ah (nC st x:Int))]) (λt w'=>AD w w'/\Be w' b1 (HK pg).toArray 47/\Be w' b6 (Rb (H0 st x)).toArray 80/\Be w' m (Rb (if gB st x then H0 st x else st.outer)).toArray 80/\Cq 5 (m+1) w' t (Az (Tq++(if gB st x then [113,10] else [])))/\AJ JB 4 (m+1) w' (.slice (some ⟨v,0,none⟩) 14 14) (us)/\Be w' Q (F4 x).toArray 44) ?_ (λt w1 hR=>?_);refine Fx 58 (gB st x) ?_ ?_;refine Ak<|A3 rfl<|A1 (.eql rfl rfl)<|A3 rfl<|B5 rfl rfl rfl (λay=>?_) (λay=>?_)
    · have jM := dT ay
      refine A1 (.fa Db rfl Gg dD rfl)<|Au ay<|Ai (Af (JY _) rfl j7 rfl)<|Au ay<|A1 (.lenS Fj rfl)<|Au ay<|A1 (.gtr rfl rfl)<|A1 (.pkT rfl ay rfl)<|A0<|?_;exact ⟨Gm (CD rfl (by unfold gB;first | (rw [Al (show nC st x=0 by omega)];cases x.fClips <;> simp <;> omega) | (rw [An (show ¬ nC st x=0 by omega)];rfl))),rfl⟩
    have jM:=dF ay;refine Ac ay<|Ac ay<|Ac ay<|A1 (.pkF rfl ay rfl)<|A0<|?_;exact ⟨Gm (CD rfl (by unfold gB;first | (rw [Al (show nC st x=0 by omega)];cases x.fClips <;> simp <;> omega) | (rw [An (show ¬ nC st x=0 by omega)];rfl))),rfl⟩;refine Ae rfl (λke=>?_) (λke=>?_);refine A5<|A3 rfl<|GF BI JK GB rfl G rfl (by simp only [Bc,A9,A8,Ag];omega) (F) rfl (λmb mc f5 f6 aY=>?_);have jN:=j2.grown aY (λe=>Bg G aS dD _ e rfl);have dN:=j3.grown aY (λe=>Bg G aS dD _ e rfl);have jO:=j4.grown aY (λe=>Bg G aS dD _ e rfl);have jP:=j7.grown aY (λe=>Bg G aS dD _ e rfl);have jQ:=AJ.same P (λg hg=>aY.block g ((P).lt g hg).2 (λhx=>by exact EI G P dD g hx.symm hg));have jR:=EU j1 (f6.mono oO);have cR:=Cq.cat f5;refine Ab rfl<|Ak<|Ai (BD rfl dN Uo rfl Q8)<|AH rfl rfl jO Q8 rfl rfl (λla dO am kf=>?_);have f7:=Cq.upd cR am ((λg hg e=>by (have:=(cR).ltV g hg;omega)));have f8:=I4 jQ am ((λg hg e=>by have hg:some v=some g:=hg;cases hg;omega));have f9:=jN.up am;have fb:=dN.up am;have fc:=jP.up am;have fd:=CP jR oO am;refine A0<|?_
    (refine ⟨_, ⟨rfl, rfl, rfl, rfl, rfl, rfl, rfl, rfl, rfl, tT⟩, ?_⟩
     have hg:gB st x=true:=by assumption
     rw [A7 hg,A7 hg];exact ⟨fd,f9,fb,dO,f7,f8,fc⟩)
    refine Ap ?_
    (refine ⟨_, ⟨rfl, rfl, rfl, rfl, rfl, rfl, rfl, rfl, rfl, tT⟩, ?_⟩
     have hg:gB st x=false:=by assumption
     rw [hg,A2 dD,A2 dD,Bv];exact ⟨j1,j2,j3,j4,G,P,j7⟩)
    obtain ⟨vv,rfl⟩:=eX t;obtain ⟨j1,j2,j3,j4,G,P,j7⟩:=hR;have F:=j4.lt;have bx:=P.lt v rfl;have kg:(Tq++(if gB st x then ([113,10]:l8_) else [])).length<=1048580:=by rw [A9];split <;> simp only [A8,Ag] <;> omega
    obtain ⟨T1,iQ⟩:∃ T,T=Tq++(if gB st x then ([113,10]:l8_) else []):=⟨_,rfl⟩;rw [<- iQ] at G kg;have kh:nC st x<=x.fClips.length:=by unfold nC;split;exact G8 _;exact (A6y (Kw.2 aS)).1
    refine Aj<|A5<|A3 rfl<|Ab rfl<|AU<|Cf (α:=Nat × Value) (λt=>[(1,ptV b1),(5,t.2),(6,ptV b6),(7,ptV m),(8,.slice pc st.clips.length cc),(9,.slice (some ⟨v,0,none⟩) 14 14),(10,Ah (i:Int)),(11,ptV Q),(13,Ah (t.1:Int))]) (λt w'=>AD w w'/\Be w' b1 (HK pg).toArray 47/\Be w' b6 (Rb (H0 st x)).toArray 80/\Be w' m (Rb (if gB st x then H0 st x else st.outer)).toArray 80/\Cq 5 (m+1) w' t.2 (Az (T1++((x.fClips.drop (nC st x)).take (t.1-nC st x)).flatMap FD))/\AJ JB 4 (m+1) w' (.slice (some ⟨v,0,none⟩) 14 14) (us)/\Be w' Q (F4 x).toArray 44/\nC st x<=t.1/\t.1<=x.fClips.length) (λt=>x.fClips.length-t.1) ((nC st x,vv)) ⟨rfl,rfl,rfl,rfl,rfl,rfl,rfl,rfl,rfl,tT⟩ (⟨j1,j2,j3,j4,by rw [Ku,A6W,List.flatMap_nil,Bv];exact G,P,j7,FQ _,kh⟩) (λt w1 hR=>?_);obtain ⟨⟨k,ki⟩,cg⟩:=eX t;subst cg;obtain ⟨c1,c2,c3,c4,c5,c6,c7,c8,c9⟩:=hR;simp only at c5 c8 c9;have bb:=c4.lt;have md:=c6.lt v rfl;have cS:=a8.row_fClips.below c1 (λy=>a8.row_fClips.lt y);have jS:0<x.fClips.length->(pA x.pfClips).block<m+1:=λy=>by have:=a8.row_fClips.lt y;omega
    obtain ⟨Tk,cT⟩:=eX (T1++((x.fClips.drop (nC st x)).take (k-nC st x)).flatMap FD);have me:Tk.length<=28000000:=by
      have h1:=Sr ((x.fClips.drop (nC st x)).take (k-nC st x)) (λc hc=>af.clips c (DL (DK hc)));have h2:((x.fClips.drop (nC st x)).take (k-nC st x)).length<=16:=by rw [AT,B9];have:=af.cl;omega
      rw [cT,A9];omega
    rw [<- cT] at c5
    show W Tryz.prog _ _ _ [(1,ptV b1),(5,ki),(6,ptV b6),(7,ptV m),(8,.slice pc st.clips.length cc),(9,.slice (some ⟨v,0,none⟩) 14 14),(10,Ah (i:Int)),(11,ptV Q),(13,Ah (k:Int))] w1
    refine Aj<|A5<|A3 rfl<|A1 (.fa Db rfl Gg dD rfl)<|Ai (Af (JY _) rfl c7 rfl)<|A1 (.lenS Fj rfl)<|A1 (.lss rfl rfl)<|A0<|Ae rfl (λcB=>?_) (λcB=>?_)
    · have fe := dT cB
      have cU:k<x.fClips.length:=by omega
      have kj:=af.clips _ (AM cU);have bI:=kj;unfold Fo EZ at bI;rw [A4,A4,Ad] at bI;have iR:=a8.all_fClips _ (AM cU);have mf:=KU x.fClips[k].fPath 0 bI.2.2;have mg:=bI.2.1;refine Ap<|De (α:=Value) (λt=>[(1,ptV b1),(5,t),(6,ptV b6),(7,ptV m),(8,.slice pc st.clips.length cc),(9,.slice (some ⟨v,0,none⟩) 14 14),(10,Ah (i:Int)),(11,ptV Q),(13,Ah (k:Int))]) (λt w'=>AD w w'/\Be w' b1 (HK pg).toArray 47/\Be w' b6 (Rb (H0 st x)).toArray 80/\Be w' m (Rb (if gB st x then H0 st x else st.outer)).toArray 80/\Cq 5 (m+1) w' t (Az (Tk++FD x.fClips[k]))/\AJ JB 4 (m+1) w' (.slice (some ⟨v,0,none⟩) 14 14) (us)/\Be w' Q (F4 x).toArray 44) ?_ (λt w1 hR=>?_);refine AU<|A5<|A3 rfl<|A1 (.fa Db rfl Gg dD rfl)<|Ai (Af (JY _) rfl c7 rfl)<|A3 rfl<|A1 (.ixm Fj K6 rfl rfl (cS.isp oO) (k) (rfl) oO)<|A1 (.fa Na rfl HE dD rfl)<|Ai (AS (JG _) rfl ((cS.field (k) oO 0 dD).trans rfl))<|DO BQ rfl rfl ((VV x.fClips[k].pfPath x.fClips[k].fPath x.fClips[k].cfPath _ (iR.row_fPath.below c1 (λy=>iR.row_fPath.lt y)) bI.2.1 bI.2.2)) (λxx lb U=>?_);have ci:=BA bb U.1.size;have aM:=Cq.below c5 U.1;have dP:=BA bb U.1.size;have bO:=AJ.below c6 U.1;have ff:=c2.bl U.1;have fg:=c3.bl U.1;have fh:=c4.bl U.1;have fi:=c7.bl U.1;have fj:=Is cS U.1 (λy=>cS.lt y);have fk:=DN c1 U.1;obtain ⟨xp,xc⟩:=xx;obtain ⟨cj,dQ,ck⟩:=U.2;simp only at cj dQ ck;refine QW BI GB rfl rfl rfl aM rfl cj (by simp only [Bc,A9,A8,Ag];omega) (ci) rfl (ck) (λlc lf dR aZ az=>?_);have cV:=ff.grown az (λe=>Bg aM aS dD _ e rfl);have cW:=fg.grown az (λe=>Bg aM aS dD _ e rfl);have cX:=fh.grown az (λe=>Bg aM aS dD _ e rfl);have bP:=fi.grown az (λe=>Bg aM aS dD _ e rfl);have aN:=AJ.same bO (λg hg=>az.block g ((bO).lt g hg).2 (λhx=>by exact EI aM bO dD g hx.symm hg))
      have cm:=BA dP aZ.size;have cY:=Is fj aZ jS;have cZ:=EU fk (aZ.mono oO);have H:=Cq.cat dR;have a':=BA ci aZ.size;refine Ab rfl<|A5<|A1 (.fa Db rfl Gg dD rfl)<|Ai (Af (JY _) rfl bP rfl)<|A3 rfl<|A1 (.ixm Fj K6 rfl rfl (cY.isp oO) (k) (rfl) oO)<|A1 (.fa Na rfl P2 dD rfl)<|Ai (AS (g4_ _) rfl ((cY.field (k) oO 1 dD).trans rfl))<|A0<|Ae rfl (λjT=>?_) (λjT=>?_);refine Ak<|A3 rfl<|GF BI JK GB rfl H rfl (by simp only [Bc,A9,A8,Ag];omega) (a') rfl (λlg lh dS bz aA=>?_);have fl:=cV.grown aA (λe=>Bg H aS dD _ e rfl);have fm:=cW.grown aA (λe=>Bg H aS dD _ e rfl);have fn:=cX.grown aA (λe=>Bg H aS dD _ e rfl);have fo:=bP.grown aA (λe=>Bg H aS dD _ e rfl);have fp:=AJ.same aN (λg hg=>aA.block g ((aN).lt g hg).2 (λhx=>by exact EI H aN dD g hx.symm hg));have kk:=BA cm bz.size;have fq:=EU cZ (bz.mono oO);have fr:=Cq.cat dS;have kl:=BA a' bz.size;refine Ab rfl ?_
      (refine ⟨_, ⟨rfl, rfl, rfl, rfl, rfl, rfl, rfl, rfl, rfl, tT⟩, ?_⟩
       have hq:x.fClips[k].fEvenOdd=true:=by assumption
       have B:=fr;rw [AB,show Ed x.fClips[k].fPath++[87,42,32,110,10]=FD x.fClips[k] by unfold FD;rw [A7 hq]] at B;exact ⟨fq,fl,fm,fn,B,fp,fo⟩)
      refine Ak<|A3 rfl<|GF BI JK GB rfl H rfl (by simp only [Bc,A9,A8,Ag];omega) (a') rfl (λli lj dU bA aB=>?_);have fs:=cV.grown aB (λe=>Bg H aS dD _ e rfl);have ft:=cW.grown aB (λe=>Bg H aS dD _ e rfl);have fu:=cX.grown aB (λe=>Bg H aS dD _ e rfl);have fv:=bP.grown aB (λe=>Bg H aS dD _ e rfl);have fw:=AJ.same aN (λg hg=>aB.block g ((aN).lt g hg).2 (λhx=>by exact EI H aN dD g hx.symm hg));have km:=BA cm bA.size;have fx:=EU cZ (bA.mono oO);have fy:=Cq.cat dU;have ko:=BA a' bA.size;refine Ab rfl ?_
      (refine ⟨_, ⟨rfl, rfl, rfl, rfl, rfl, rfl, rfl, rfl, rfl, tT⟩, ?_⟩
       have hq:x.fClips[k].fEvenOdd=false:=by assumption
       have B:=fy;rw [AB,show Ed x.fClips[k].fPath++[87,32,110,10]=FD x.fClips[k] by unfold FD;rw [hq,A2 dD]] at B;exact ⟨fx,fs,ft,fu,B,fw,fv⟩)
      obtain ⟨vv,rfl⟩:=eX t;obtain ⟨j1,j2,j3,j4,G,P,j7⟩:=hR;have F:=j4.lt;have bx:=P.lt v rfl;refine Ak<|A3 rfl<|A1 (.iis (((k+1:Nat):Int)) (.add rfl rfl (Bn oO)) oO)<|Ab rfl ?_;have B:=G;have kp:T1++((x.fClips.drop (nC st x)).take ((k+1)-nC st x)).flatMap FD=Tk++FD x.fClips[k]:=by
        have hd:k-nC st x<(x.fClips.drop (nC st x)).length:=by rw [B9];omega
        rw [show k+1-nC st x=k-nC st x+1 by omega,IW hd,cT,AB]
        congr 3;rw [List.getElem_drop]
        congr 1;omega
      rw [<- kp] at B;exact ⟨(k+1,_),⟨rfl,rfl,rfl,rfl,rfl,rfl,rfl,rfl,rfl,tT⟩,⟨j1,j2,j3,j4,B,P,j7,oM,oM⟩,oM⟩
    have fe:=dF cB;have cU:k=x.fClips.length:=by omega
    refine C7<|Aj ?_;have jU:Tk=T1++(x.fClips.drop (nC st x)).flatMap FD:=by rw [cT,cU,<- B9,Ca]
    have cC:=A54 q8 (x:=x);refine Ak<|A1 (.fa Db rfl Gg dD rfl)<|Ai (Af (JY _) rfl c7 rfl)<|Ab rfl<|De (α:=Value) (λt=>[(1,ptV b1),(5,t),(6,ptV b6),(7,ptV m),(8,.slice x.pfClips x.fClips.length x.cfClips),(9,.slice (some ⟨v,0,none⟩) 14 14),(10,Ah (i:Int)),(11,ptV Q)]) (λt w'=>AD w w'/\Be w' b1 (HK pg).toArray 47/\Be w' b6 (Rb (Tx (H0 st x) x)).toArray 80/\Be w' m (Rb (if gB st x then H0 st x else st.outer)).toArray 80/\Cq 5 (m+1) w' t (Az (Tk++kW (H0 st x) x))/\AJ JB 4 (m+1) w' (.slice (some ⟨v,0,none⟩) 14 14) (us)/\Be w' Q (F4 x).toArray 44) ?_ (λt w1 hR=>?_);refine A5<|A1 (.fa Db rfl B6 dD rfl)<|Ai (Af (BE _) rfl c7 rfl)<|A1 (.eql rfl rfl)<|A0<|Ae rfl (λcD=>?_) (λcD=>?_)
    · have fz := dT cD
      have iS:x.fKind=3:=by omega
      have iT:=(af.pnt oO).pen iS;have jV:=OV true af.col;have lk:=W7 (a:=(H0 st x).pen) iT;refine De (α:=Value) (λt=>[(1,ptV b1),(5,t),(6,ptV b6),(7,ptV m),(8,.slice x.pfClips x.fClips.length x.cfClips),(9,.slice (some ⟨v,0,none⟩) 14 14),(10,Ah (i:Int)),(11,ptV Q)]) (λt w'=>AD w w'/\Be w' b1 (HK pg).toArray 47/\Be w' b6 (Rb (soS (H0 st x) x.fColor)).toArray 80/\Be w' m (Rb (if gB st x then H0 st x else st.outer)).toArray 80/\Cq 5 (m+1) w' t (Az (Tk++(if x.fColor≠(H0 st x).stroke then OW true x.fColor else [])))/\AJ JB 4 (m+1) w' (.slice (some ⟨v,0,none⟩) 14 14) (us)/\Be w' Q (F4 x).toArray 44) ?_ (λt w1 hR=>?_);refine A5<|A1 (.fa Db rfl K7 dD rfl)<|Ai (Cx (L:=Gj) H5 rfl F5 c7 (x.fColor) (rfl) rfl)<|A1 (.fa Uo rfl K7 dD rfl)<|Ai (Cx (L:=Gj) H5 rfl F5 c3 ((H0 st x).stroke) (rfl) rfl)<|A1 (.neAgg rfl rfl A7F (A6G _ _))<|A0<|Ae rfl (λcE=>?_) (λcE=>?_)
      · have fA := Kj cE
        refine A5<|A3 rfl<|A1 (.fa Db rfl K7 dD rfl)<|Ai (Cx (L:=Gj) H5 rfl F5 c7 (x.fColor) (rfl) rfl)<|As (TG x.fColor true _ af.col) (λll aj=>?_);have dV:=BA bb aj.size;have aO:=Cq.below c5 aj;have bQ:=AJ.below c6 aj;have fB:=c2.bl aj;have fC:=c3.bl aj;have fD:=c4.bl aj;have fE:=c7.bl aj;have fF:=DN c1 aj;refine GF BI JK GB rfl aO rfl (by simp only [Bc,A9,A8,Ag];omega) (dV) rfl (λlm ln dW dX aC=>?_);have fG:=fB.grown aC (λe=>Bg aO aS dD _ e rfl);have fH:=fC.grown aC (λe=>Bg aO aS dD _ e rfl);have fI:=fD.grown aC (λe=>Bg aO aS dD _ e rfl);have c':=fE.grown aC (λe=>Bg aO aS dD _ e rfl);have fJ:=AJ.same bQ (λg hg=>aC.block g ((bQ).lt g hg).2 (λhx=>by exact EI aO bQ dD g hx.symm hg));have fK:=EU fF (dX.mono oO);have d0:=Cq.cat dW;refine Ab rfl<|Ak<|A1 (.fa Db rfl K7 dD rfl)<|Ai (Cx (L:=Gj) H5 rfl F5 c' (x.fColor) (rfl) rfl)<|A1 (.fa Uo rfl K7 dD rfl)<|Fp 5 ((Rb (soS (H0 st x) x.fColor)).toArray) fH F5 (λlo dY an kq=>?_);have fL:=Cq.upd d0 an ((λg hg e=>by (have:=(d0).ltV g hg;omega)));have fM:=I4 fJ an ((λg hg e=>by have hg:some v=some g:=hg;cases hg;omega));have fN:=fG.up an;have fO:=fI.up an;have fP:=c'.up an;have fQ:=CP fK oO an;refine A0<|?_
        (refine ⟨_, ⟨rfl, rfl, rfl, rfl, rfl, rfl, rfl, rfl, tT⟩, ?_⟩
         rw [A7 (show x.fColor≠(H0 st x).stroke by assumption)];exact ⟨fQ,fN,dY,fO,fL,fM,fP⟩)
      have fA:=Kk cE;refine Ap ?_
      (refine ⟨_, ⟨rfl, rfl, rfl, rfl, rfl, rfl, rfl, rfl, tT⟩, ?_⟩
       have he:x.fColor=(H0 st x).stroke:=by assumption
       rw [A2 (show ¬ (x.fColor≠(H0 st x).stroke) from λh=>h he),Bv,he];exact ⟨c1,c2,c3,c4,c5,c6,c7⟩)
      obtain ⟨vv,rfl⟩:=eX t;obtain ⟨j1,j2,j3,j4,G,P,j7⟩:=hR;have F:=j4.lt;have bx:=P.lt v rfl;obtain ⟨T3,dZ⟩:=eX (Tk++(if x.fColor≠(H0 st x).stroke then OW true x.fColor else []));have mh:T3.length<=28002000:=by rw [dZ,A9];split;omega;simp only [Ag];omega
      rw [<- dZ] at G;refine A5<|A3 rfl<|A1 (.fa Uo rfl Nd dD rfl)<|Ai (Cx (L:=Wb) D7 rfl Im j3 ((soS (H0 st x) x.fColor).pen) (rfl) rfl)<|A1 (.fa Db rfl Nd dD rfl)<|Ai (Cx (L:=Wb) D7 rfl Im j7 (x.fPen) (rfl) rfl)<|As (A5f (H0 st x).pen x.fPen _ (cC.1.below j1 (λy=>cC.1.lt y)) (a8.ok_fPen.row_fDash.below j1 (λy=>a8.ok_fPen.row_fDash.lt y)) cC.2 iT) (λlp ad=>?_);have d':=BA F ad.size;have aP:=Cq.below G ad;have kr:=BA F ad.size;have bR:=AJ.below P ad;have fR:=j2.bl ad;have fS:=j3.bl ad;have fT:=j4.bl ad;have fU:=j7.bl ad;have fV:=DN j1 ad;refine GF BI JK GB rfl aP rfl (by simp only [Bc,A9,A8,Ag];omega) (d') rfl (λlq lr e0 e2 aD=>?_);have fW:=fR.grown aD (λe=>Bg aP aS dD _ e rfl);have fX:=fS.grown aD (λe=>Bg aP aS dD _ e rfl);have fY:=fT.grown aD (λe=>Bg aP aS dD _ e rfl);have d1:=fU.grown aD (λe=>Bg aP aS dD _ e rfl);have fZ:=AJ.same bR (λg hg=>aD.block g ((bR).lt g hg).2 (λhx=>by exact EI aP bR dD g hx.symm hg));have f':=EU fV (e2.mono oO);have d2:=Cq.cat e0;refine Ab rfl<|Ak<|A1 (.fa Db rfl Nd dD rfl)<|Ai (Cx (L:=Wb) D7 rfl Im d1 (x.fPen) (rfl) rfl)<|A1 (.fa Uo rfl Nd dD rfl)<|Fp 10 ((Rb (soP (soS (H0 st x) x.fColor) x.fPen)).toArray) fX Im (λls e3 ao ks=>?_);have g0:=Cq.upd d2 ao ((λg hg e=>by (have:=(d2).ltV g hg;omega)));have g1:=I4 fZ ao ((λg hg e=>by have hg:some v=some g:=hg;cases hg;omega));have g2:=fW.up ao;have g3:=fY.up ao;have g4:=d1.up ao;have g5:=CP f' oO ao;refine A0<|?_
      (refine ⟨_, ⟨rfl, rfl, rfl, rfl, rfl, rfl, rfl, rfl, tT⟩, ?_⟩
       have B:=g0;have aE:x.fKind=3:=by assumption
       rw [A8s (H0 st x) aE,show Tk++kW (H0 st x) x=T3++Nf (H0 st x).pen x.fPen by unfold kW;rw [A7 aE,dZ,AB]];exact ⟨g5,g2,e3,g3,B,g1,g4⟩)
    have fz:=dF cD;have iS:¬ x.fKind=3:=by omega
    have jV:=OV false af.col;refine A5<|A1 (.fa Db rfl K7 dD rfl)<|Ai (Cx (L:=Gj) H5 rfl F5 c7 (x.fColor) (rfl) rfl)<|A1 (.fa Uo rfl K7 dD rfl)<|Ai (Cx (L:=Gj) H5 rfl F5 c3 ((H0 st x).fill) (rfl) rfl)<|A1 (.neAgg rfl rfl A7F (A6G _ _))<|A0<|Ae rfl (λcF=>?_) (λcF=>?_)
    · have g6 := Kj cF
      refine A5<|A3 rfl<|A1 (.fa Db rfl K7 dD rfl)<|Ai (Cx (L:=Gj) H5 rfl F5 c7 (x.fColor) (rfl) rfl)<|As (TG x.fColor false _ af.col) (λlu ak=>?_);have e4:=BA bb ak.size;have aQ:=Cq.below c5 ak;have bS:=AJ.below c6 ak;have g7:=c2.bl ak;have g8:=c3.bl ak;have g9:=c4.bl ak;have ga:=c7.bl ak;have gb:=DN c1 ak;refine GF BI JK GB rfl aQ rfl (by simp only [Bc,A9,A8,Ag];omega) (e4) rfl (λlv lw e5 e6 aF=>?_);have gc:=g7.grown aF (λe=>Bg aQ aS dD _ e rfl);have ge:=g8.grown aF (λe=>Bg aQ aS dD _ e rfl);have gf:=g9.grown aF (λe=>Bg aQ aS dD _ e rfl);have d3:=ga.grown aF (λe=>Bg aQ aS dD _ e rfl);have gg:=AJ.same bS (λg hg=>aF.block g ((bS).lt g hg).2 (λhx=>by exact EI aQ bS dD g hx.symm hg));have gh:=EU gb (e6.mono oO);have d4:=Cq.cat e5;refine Ab rfl<|Ak<|A1 (.fa Db rfl K7 dD rfl)<|Ai (Cx (L:=Gj) H5 rfl F5 d3 (x.fColor) (rfl) rfl)<|A1 (.fa Uo rfl K7 dD rfl)<|Fp 0 ((Rb (soF (H0 st x) x.fColor)).toArray) ge F5 (λlx e7 ap kt=>?_);have gi:=Cq.upd d4 ap ((λg hg e=>by (have:=(d4).ltV g hg;omega)));have gj:=I4 gg ap ((λg hg e=>by have hg:some v=some g:=hg;cases hg;omega));have gk:=gc.up ap;have gl:=gf.up ap;have gm:=d3.up ap;have go:=CP gh oO ap;refine A0<|?_
      (refine ⟨_, ⟨rfl, rfl, rfl, rfl, rfl, rfl, rfl, rfl, tT⟩, ?_⟩
       have B:=gi;have aE:¬ x.fKind=3:=by assumption
       rw [A6w (H0 st x) aE,show kW (H0 st x) x=OW false x.fColor by unfold kW;rw [A2 aE,A7 (show x.fColor≠(H0 st x).fill by assumption)]];exact ⟨go,gk,e7,gl,B,gj,gm⟩)
    have g6:=Kk cF;refine Ap ?_
    (refine ⟨_, ⟨rfl, rfl, rfl, rfl, rfl, rfl, rfl, rfl, tT⟩, ?_⟩
     have B:=c5;have aE:¬ x.fKind=3:=by assumption
     have he:x.fColor=(H0 st x).fill:=by assumption
     rw [A6w (H0 st x) aE,show kW (H0 st x) x=[] by unfold kW;rw [A2 aE,A2 (show ¬ (x.fColor≠(H0 st x).fill) from λh=>h he)],Bv,he];exact ⟨c1,c2,c3,c4,B,c6,c7⟩)
    obtain ⟨vv,rfl⟩:=eX t;obtain ⟨j1,j2,j3,j4,G,P,j7⟩:=hR;have F:=j4.lt;have bx:=P.lt v rfl;obtain ⟨T4,e8⟩:=eX (Tk++kW (H0 st x) x);have mi:T4.length<=28005000:=by rw [e8,A9];have:=A7z (so:=H0 st x) af;omega
    rw [<- e8] at G;have e9:=Yr af;have ly:=KU x.fPath 0 e9.2;refine A5<|A3 rfl<|A1 (.fa Db rfl HE dD rfl)<|Ai (Af (JG _) rfl j7 rfl)<|DO BQ rfl rfl ((VV x.pfPath x.fPath x.cfPath _ (a8.row_fPath.below j1 (λy=>a8.row_fPath.lt y)) e9.1 e9.2)) (λxx lz a9=>?_);have cn:=BA F a9.1.size;have aR:=Cq.below G a9.1;have ea:=BA F a9.1.size;have bT:=AJ.below P a9.1;have gp:=j2.bl a9.1;have gq:=j3.bl a9.1;have gr:=j4.bl a9.1;have gs:=j7.bl a9.1;have gt:=DN j1 a9.1;obtain ⟨xp,xc⟩:=xx;obtain ⟨cj,dQ,ck⟩:=a9.2;simp only at cj dQ ck;refine QW BI GB rfl rfl rfl aR rfl cj (by simp only [Bc,A9,A8,Ag];omega) (cn) rfl (ck) (λlA lB eb bB aG=>?_);have bc:=gp.grown aG (λe=>Bg aR aS dD _ e rfl);have bd:=gq.grown aG (λe=>Bg aR aS dD _ e rfl);have be:=gr.grown aG (λe=>Bg aR aS dD _ e rfl);have aT:=gs.grown aG (λe=>Bg aR aS dD _ e rfl);have J:=AJ.same bT (λg hg=>aG.block g ((bT).lt g hg).2 (λhx=>by exact EI aR bT dD g hx.symm hg));have b0:=BA ea bB.size;have bf:=EU gt (bB.mono oO);have u:=Cq.cat eb;have ag:=BA cn bB.size;refine Ab rfl<|De (α:=Value) (λt=>[(1,ptV b1),(5,t),(6,ptV b6),(7,ptV m),(8,.slice x.pfClips x.fClips.length x.cfClips),(9,.slice (some ⟨v,0,none⟩) 14 14),(10,Ah (i:Int)),(11,ptV Q)]) (λt w'=>AD w w'/\Be w' b1 (HK pg).toArray 47/\Be w' b6 (Rb (Tx (H0 st x) x)).toArray 80/\Be w' m (Rb (if gB st x then H0 st x else st.outer)).toArray 80/\Cq 5 (m+1) w' t (Az (T4++Ed x.fPath++oW x))/\AJ JB 4 (m+1) w' (.slice (some ⟨v,0,none⟩) 14 14) (if x.fKind=4 then us.set x.fFont.toNat true else us)/\Be w' Q (F4 x).toArray 44) ?_ (λt w1 hR=>?_);refine A5<|A1 (.fa Db rfl B6 dD rfl)<|Ai (Af (BE _) rfl aT rfl)<|A0<|AU<|A5<|A1 (.eql rfl rfl)<|Ab rfl<|Ae rfl (λcG=>?_) (λcG=>?_)
    · have gv := dT cG
      refine Ak<|A3 rfl<|GF BI JK GB rfl u rfl (by simp only [Bc,A9,A8,Ag];omega) (ag) rfl (λlC lD ec bC aH=>?_);have gw:=bc.grown aH (λe=>Bg u aS dD _ e rfl);have gx:=bd.grown aH (λe=>Bg u aS dD _ e rfl);have gz:=be.grown aH (λe=>Bg u aS dD _ e rfl);have gA:=aT.grown aH (λe=>Bg u aS dD _ e rfl);have gC:=AJ.same J (λg hg=>aH.block g ((J).lt g hg).2 (λhx=>by exact EI u J dD g hx.symm hg));have ku:=BA b0 bC.size;have gD:=EU bf (bC.mono oO);have gE:=Cq.cat ec;have kv:=BA ag bC.size;refine Ab rfl ?_
      (refine ⟨_, ⟨rfl, rfl, rfl, rfl, rfl, rfl, rfl, rfl, tT⟩, ?_⟩
       have B:=gE;have co:x.fKind=1:=by assumption
       rw [show oW x=[102,10] by unfold oW;rw [A7 co],A2 (show ¬ x.fKind=4 by omega)];exact ⟨gD,gw,gx,gz,B,gC,gA⟩)
    have gv:=dF cG;refine A5<|A1 (.eql rfl rfl)<|Ab rfl<|Ae rfl (λcH=>?_) (λcH=>?_)
    · have gF := dT cH
      refine Ak<|A3 rfl<|GF BI JK GB rfl u rfl (by simp only [Bc,A9,A8,Ag];omega) (ag) rfl (λlE lF ed bD aI=>?_);have gG:=bc.grown aI (λe=>Bg u aS dD _ e rfl);have gH:=bd.grown aI (λe=>Bg u aS dD _ e rfl);have gI:=be.grown aI (λe=>Bg u aS dD _ e rfl);have gJ:=aT.grown aI (λe=>Bg u aS dD _ e rfl);have gK:=AJ.same J (λg hg=>aI.block g ((J).lt g hg).2 (λhx=>by exact EI u J dD g hx.symm hg));have kw:=BA b0 bD.size;have gL:=EU bf (bD.mono oO);have gM:=Cq.cat ed;have kx:=BA ag bD.size;refine Ab rfl ?_
      (refine ⟨_, ⟨rfl, rfl, rfl, rfl, rfl, rfl, rfl, rfl, tT⟩, ?_⟩
       have B:=gM;have co:x.fKind=2:=by assumption
       rw [show oW x=[102,42,10] by unfold oW;rw [A2 oO,A7 co],A2 (show ¬ x.fKind=4 by omega)];exact ⟨gL,gG,gH,gI,B,gK,gJ⟩)
    have gF:=dF cH;refine A5<|A1 (.eql rfl rfl)<|Ab rfl<|Ae rfl (λcI=>?_) (λcI=>?_)
    · have gN := dT cI
      refine Ak<|A3 rfl<|GF BI JK GB rfl u rfl (by simp only [Bc,A9,A8,Ag];omega) (ag) rfl (λlG lH ee bE aJ=>?_);have gO:=bc.grown aJ (λe=>Bg u aS dD _ e rfl);have gP:=bd.grown aJ (λe=>Bg u aS dD _ e rfl);have gQ:=be.grown aJ (λe=>Bg u aS dD _ e rfl);have gR:=aT.grown aJ (λe=>Bg u aS dD _ e rfl);have gS:=AJ.same J (λg hg=>aJ.block g ((J).lt g hg).2 (λhx=>by exact EI u J dD g hx.symm hg));have ky:=BA b0 bE.size;have gT:=EU bf (bE.mono oO);have gU:=Cq.cat ee;have kz:=BA ag bE.size;refine Ab rfl ?_
      (refine ⟨_, ⟨rfl, rfl, rfl, rfl, rfl, rfl, rfl, rfl, tT⟩, ?_⟩
       have B:=gU;have co:x.fKind=3:=by assumption
       rw [show oW x=[83,10] by unfold oW;rw [A2 oO,A2 oO,A7 co],A2 (show ¬ x.fKind=4 by omega)];exact ⟨gT,gO,gP,gQ,B,gS,gR⟩)
    have gN:=dF cI;have bH:x.fKind=4:=by
      apply Classical.byContradiction
      intro h4;have:=(af.pnt h4).kind
      omega
    have X:=af.txt bH;have iU:=X.font;have iV:x.fFont.toNat<us.length:=by rw [q9];omega
    refine Aj ?_;have d5:=J;have d6:=Xk d5.rowp;refine Ak<|A3 rfl<|A1 (.fa Db rfl B6 dD rfl)<|Ai (Af (BE _) rfl aT rfl)<|A1 (.ixb underlying82 P2 rfl rfl (d6.isp oO) (x.fFont.toNat) (oO) (oO))<|A81 (L:=JB) (true) (x.fFont.toNat) P2 rfl J (iV) rfl rfl rfl rfl (λlI jW bJ ac ef=>?_);have jZ:=(J).lt jW (by rw [bJ];rfl);cases bJ;have eg:=BA ag ac.size;have gV:=Cq.upd u ac ((λg hg e=>by exact EI u d5 dD g hg (by rw [e];rfl)));have d7:=bc.up ac;have d8:=bd.up ac;have d9:=be.up ac;have bU:=aT.up ac;have gW:=CP bf oO ac;have eh:=BA b0 ac.size;refine A0<|A5<|A1 (.fa Db rfl HD dD rfl)<|Ai (Cx (L:=RV) DM rfl CY bU (x) (rfl) rfl)<|C1 Ql rfl (λei l1 au cq a0 kA=>?_);have ej:=BA eg a0.size;have da:=Cq.new gV au a0;have ek:=BA eh a0.size;have gX:=GK ef au a0;have gY:=Bx au d7.lt;have gZ:=d7.un a0 gY;have g':=Bx au d8.lt;have h3:=d8.un a0 g';have h5:=Bx au d9.lt;have h6:=d9.un a0 h5;have h7:=Bx au bU.lt;have h8:=bU.un a0 h7;have h9:=uB gW au a0;refine AH rfl rfl cq CY rfl rfl (λel b a1 kB=>?_);have em:=BA ej a1.size;have ha:=Cq.upd da a1 ((λg hg e=>by exact Bg da cq dD g hg e));have en:=BA ek a1.size;have hb:=I4 gX a1 ((λg hg e=>by have hg:some v=some g:=hg;cases hg;omega));have hh:=gZ.up a1;have hi:=h3.up a1;have hk:=h6.up a1;have d:=h8.up a1;have db:=CP h9 oO a1;refine A0<|?_;have kC:=a8.row_fBytes.below db (λy=>a8.row_fBytes.lt y);have eo:0<x.fBytes.length->(pA x.pfBytes).block<m+1:=λy=>by have:=a8.row_fBytes.lt y;omega
    refine DD 30 rfl Ci (λw'=>w'.heap[Q]?=el.heap[Q]?/\w'.heap[ei]?=el.heap[ei]?/\Ay w' x.pfBytes x.fBytes/\True) (λlJ a2=>?_);have cr:=Df.le em a2;have dc:=Cq.drew ha a2;have ct:=Df.le en a2;have dd:=AJ.drew hb a2;have bV:=hh.drew a2;have bW:=hi.drew a2;have bX:=hk.drew a2;have q:=d.drew a2;have s:=b.drew a2;have o:=kC.drew a2;have de:=Df.below db a2;refine Aa 0 rfl (.mv rfl) ⟨(q).trans (d).symm,(s).trans (b).symm,o,tT⟩ ?_;refine Aa 1 rfl (.fa Db rfl B6 dD rfl) ⟨(q).trans (d).symm,(s).trans (b).symm,o,tT⟩ ?_;refine C8 2 rfl (λw' hw'=>Af (BE _) rfl ((hw'.1).trans d) rfl) ⟨(q).trans (d).symm,(s).trans (b).symm,o,tT⟩ rfl ?_;refine Aa 6 rfl (.ixr1 DM B6 rfl rfl (0) (rfl) ((show 0<6 by decide))) ⟨(q).trans (d).symm,(s).trans (b).symm,o,tT⟩ ?_;refine C8 7 rfl (λw' hw'=>Rd.iis ((Ej x)[0]'(show 0<6 by decide)) (AS (BE _) rfl ((JP ((hw'.2.1).trans b)).cells (0) ((show 0<6 by decide)))) (by rfl)) ⟨(q).trans (d).symm,(s).trans (b).symm,o,tT⟩ rfl ?_;refine Aa 8 rfl (.ixr1 DM B6 rfl rfl (1) (rfl) ((show 1<6 by decide))) ⟨(q).trans (d).symm,(s).trans (b).symm,o,tT⟩ ?_;refine C8 9 rfl (λw' hw'=>Rd.iis ((Ej x)[1]'(show 1<6 by decide)) (AS (BE _) rfl ((JP ((hw'.2.1).trans b)).cells (1) ((show 1<6 by decide)))) (by rfl)) ⟨(q).trans (d).symm,(s).trans (b).symm,o,tT⟩ rfl ?_;refine Aa 10 rfl (.ixr1 DM B6 rfl rfl (2) (rfl) ((show 2<6 by decide))) ⟨(q).trans (d).symm,(s).trans (b).symm,o,tT⟩ ?_;refine C8 11 rfl (λw' hw'=>Rd.iis ((Ej x)[2]'(show 2<6 by decide)) (AS (BE _) rfl ((JP ((hw'.2.1).trans b)).cells (2) ((show 2<6 by decide)))) (by rfl)) ⟨(q).trans (d).symm,(s).trans (b).symm,o,tT⟩ rfl ?_;refine Aa 12 rfl (.ixr1 DM B6 rfl rfl (3) (rfl) ((show 3<6 by decide))) ⟨(q).trans (d).symm,(s).trans (b).symm,o,tT⟩ ?_;refine C8 13 rfl (λw' hw'=>Rd.iis ((Ej x)[3]'(show 3<6 by decide)) (AS (BE _) rfl ((JP ((hw'.2.1).trans b)).cells (3) ((show 3<6 by decide)))) (by rfl)) ⟨(q).trans (d).symm,(s).trans (b).symm,o,tT⟩ rfl ?_
    refine Aa 14 rfl (.ixr1 DM B6 rfl rfl (4) (rfl) ((show 4<6 by decide))) ⟨(q).trans (d).symm,(s).trans (b).symm,o,tT⟩ ?_;refine C8 15 rfl (λw' hw'=>Rd.iis ((Ej x)[4]'(show 4<6 by decide)) (AS (BE _) rfl ((JP ((hw'.2.1).trans b)).cells (4) ((show 4<6 by decide)))) (by rfl)) ⟨(q).trans (d).symm,(s).trans (b).symm,o,tT⟩ rfl ?_;refine Aa 16 rfl (.ixr1 DM B6 rfl rfl (5) (rfl) ((show 5<6 by decide))) ⟨(q).trans (d).symm,(s).trans (b).symm,o,tT⟩ ?_;refine C8 17 rfl (λw' hw'=>Rd.iis ((Ej x)[5]'(show 5<6 by decide)) (AS (BE _) rfl ((JP ((hw'.2.1).trans b)).cells (5) ((show 5<6 by decide)))) (by rfl)) ⟨(q).trans (d).symm,(s).trans (b).symm,o,tT⟩ rfl ?_;refine Aa 22 rfl (.fa Db rfl Gr dD rfl) ⟨(q).trans (d).symm,(s).trans (b).symm,o,tT⟩ ?_;refine C8 23 rfl (λw' hw'=>Af (g22_ _) rfl ((hw'.1).trans d) rfl) ⟨(q).trans (d).symm,(s).trans (b).symm,o,tT⟩ rfl ?_;refine C8 24 rfl (λw' hw'=>MG (l:=x.fBytes) BI Ln JK rfl ((hw'.2.2.1))) ⟨(q).trans (d).symm,(s).trans (b).symm,o,tT⟩ rfl ?_;refine Ef 3 rfl 18 rfl ?_ ?_;refine As (Ib x.fFont _ oO oO) (λlK a3=>?_);have ep:=BA cr a3.size;have hm:=Cq.below dc a3;have eq:=BA ct a3.size;have hn:=AJ.below dd a3;have df:=bV.bl a3;have dg:=bW.bl a3;have dh:=bX.bl a3;have b2:=q.bl a3;have b3:=s.bl a3;have b4:=Hk o a3 (λy=>o.lt y);have di:=DN de a3;refine A0<|⟨⟨(b2).trans (d).symm,(b3).trans (b).symm,b4,tT⟩,?_⟩;refine Aa 4 rfl (.cat rfl rfl (by have:=EA x.fFont oO oO;simp only [A8,Ag];omega)) ⟨(b2).trans (d).symm,(b3).trans (b).symm,b4,tT⟩ ?_;refine Aa 5 rfl (.cat rfl rfl (by have:=EA x.fFont oO oO;simp only [A9,A8,Ag];omega)) ⟨(b2).trans (d).symm,(b3).trans (b).symm,b4,tT⟩ ?_;refine Aq 18 rfl<|CF (ps:=_) Dm B6 PM rfl rfl rfl rfl rfl pR rfl (λlL l2 aa er D kD=>?_);have es:=BA ep D.size
    have ho:=Cq.new hm aa D;have et:=BA eq D.size;have hr:=GK hn aa D;have ht:=Bx aa df.lt;have hu:=df.un D ht;have hv:=Bx aa dg.lt;have hy:=dg.un D hv;have hz:=Bx aa dh.lt;have hA:=dh.un D hz;have hB:=Bx aa b2.lt;have dj:=b2.un D hB;have hC:=Bx aa b3.lt;have dk:=b3.un D hC;have eu:=λy=>aa▸b4.lt y
    have bY:=DQ b4 D eu;have hD:=uB di aa D;have j':=DW aa di.size;have hq:=AZ.lit (V:=E5) (l:=(Ej x)) er (rfl);refine A0<|⟨⟨(dj).trans (d).symm,(dk).trans (b).symm,bY,tT⟩,?_⟩;refine Aq 19 rfl<|WL.c1 BQ rfl rfl ((Ic _ (Ej x) _ _ hq (show 6<=6 by decide) X.mat)) (λlM a4=>?_);have ev:=BA es a4.size;have hE:=Cq.below ho a4;have ew:=BA et a4.size;have hF:=AJ.below hr a4;have hG:=hu.bl a4;have hH:=hy.bl a4;have hI:=hA.bl a4;have bg:=dj.bl a4;have bh:=dk.bl a4;have b5:=Hk bY a4 (λy=>bY.lt y);have hJ:=DN hD a4;refine A0<|⟨⟨(bg).trans (d).symm,(bh).trans (b).symm,b5,tT⟩,?_⟩;refine Aa 20 rfl (.cat rfl rfl (by have:=EA x.fFont oO oO;have:=CW (Ej x) X.mat;have:(Ej x).length=6:=rfl;simp only [A9,A8,Ag] at *;omega)) ⟨(bg).trans (d).symm,(bh).trans (b).symm,b5,tT⟩ ?_;refine Aa 21 rfl (.cat rfl rfl (by have:=EA x.fFont oO oO;have:=CW (Ej x) X.mat;have:(Ej x).length=6:=rfl;simp only [A9,A8,Ag] at *;omega)) ⟨(bg).trans (d).symm,(bh).trans (b).symm,b5,tT⟩ ?_;refine Aq 25 rfl<|As (TH x.fBytes _ (by have:=X.bytes.2;omega)) (λlN a5=>?_);have ex:=BA ev a5.size;have av:=Cq.below hE a5;have kE:=BA ew a5.size;have bZ:=AJ.below hF a5;have hK:=hG.bl a5;have hL:=hH.bl a5;have hM:=hI.bl a5;have bi:=bg.bl a5;have bj:=bh.bl a5;have bk:=Hk b5 a5 (λy=>b5.lt y);have hN:=DN hJ a5;refine A0<|⟨⟨(bi).trans (d).symm,(bj).trans (b).symm,bk,tT⟩,?_⟩;refine Aa 26 rfl (.cat rfl rfl (by have:=EA x.fFont oO oO;have:=CW (Ej x) X.mat;have:(Ej x).length=6:=rfl;have:=Md x.fBytes;have:=X.bytes.2;simp only [A9,A8,Ag] at *;omega)) ⟨(bi).trans (d).symm,(bj).trans (b).symm,bk,tT⟩ ?_;refine Aa 27 rfl (.sis (Ju x) (.cat rfl rfl (by have:=EA x.fFont oO oO;have:=CW (Ej x) X.mat;have:(Ej x).length=6:=rfl;have:=Md x.fBytes;have:=X.bytes.2;simp only [A9,A8,Ag] at *;omega)) (by simp [Ju,CX])) ⟨(bi).trans (d).symm,(bj).trans (b).symm,bk,tT⟩ ?_
    refine Aq 28 rfl<|GF BI JK GB rfl av rfl (by have:=Tu X;simp only [Bc,A9];omega) (ex) rfl (λlO lP ey cu aq=>?_);have hO:=hK.grown aq (λe=>Bg av aS dD _ e rfl);have hP:=hL.grown aq (λe=>Bg av aS dD _ e rfl);have hQ:=hM.grown aq (λe=>Bg av aS dD _ e rfl);have b':=bi.grown aq (λe=>Bg av aS dD _ e rfl);have dl:=bj.grown aq (λe=>Bg av aS dD _ e rfl);have hS:=AJ.same bZ (λg hg=>aq.block g ((bZ).lt g hg).2 (λhx=>by exact EI av bZ dD g hx.symm hg));have dm:=Hk bk cu eo;have hT:=EU hN (cu.mono oO);have hU:=Cq.cat ey;refine A0<|⟨⟨(b').trans (d).symm,(dl).trans (b).symm,dm,tT⟩,?_⟩;refine Aa 29 rfl (.as rfl) ⟨(b').trans (d).symm,(dl).trans (b).symm,dm,tT⟩ ?_;refine Bl kR ?_
    (refine ⟨_, ⟨rfl, rfl, rfl, rfl, rfl, rfl, rfl, rfl, tT⟩, ?_⟩
     have B:=hU;rw [show oW x=Ju x by unfold oW;rw [A2 oO,A2 oO,A2 oO],A7 bH];exact ⟨hT,hO,hP,hQ,B,hS,b'⟩)
    refine CF (ps:=_) Dm B6 PM rfl rfl rfl rfl rfl pR rfl (λlQ l3 ae ez E kF=>?_);have eA:=BA cr E.size;have hV:=Cq.new dc ae E;have eB:=BA ct E.size;have hW:=GK dd ae E;have hX:=Bx ae bV.lt;have hY:=bV.un E hX;have hZ:=Bx ae bW.lt;have h':=bW.un E hZ;have i0:=Bx ae bX.lt;have i1:=bX.un E i0;have i2:=Bx ae q.lt;have dn:=q.un E i2;have i3:=Bx ae s.lt;have dp:=s.un E i3;have eC:=λy=>ae▸o.lt y
    have c0:=DQ o E eC;have i4:=uB de ae E;have hq:=AZ.lit (V:=E5) (l:=(Ej x)) ez (rfl);refine A0<|⟨⟨(dn).trans (d).symm,(dp).trans (b).symm,c0,tT⟩,?_⟩;refine Aq 3 rfl<|As (Ib x.fFont _ oO oO) (λlR K=>?_);have eD:=BA eA K.size;have i5:=Cq.below hV K;have eF:=BA eB K.size;have i6:=AJ.below hW K;have i7:=hY.bl K;have i8:=h'.bl K;have i9:=i1.bl K;have bm:=dn.bl K;have bn:=dp.bl K;have b7:=Hk c0 K (λy=>c0.lt y);have ia:=AZ.below hq K (λy=>hq.lt y);have ib:=DN i4 K;refine A0<|⟨⟨(bm).trans (d).symm,(bn).trans (b).symm,b7,tT⟩,?_⟩;refine Aa 4 rfl (.cat rfl rfl (by have:=EA x.fFont oO oO;simp only [A8,Ag];omega)) ⟨(bm).trans (d).symm,(bn).trans (b).symm,b7,tT⟩ ?_;refine Aa 5 rfl (.cat rfl rfl (by have:=EA x.fFont oO oO;simp only [A9,A8,Ag];omega)) ⟨(bm).trans (d).symm,(bn).trans (b).symm,b7,tT⟩ ?_;refine Aq 19 rfl<|WL.c1 BQ rfl rfl ((Ic _ (Ej x) _ _ ia (show 6<=6 by decide) X.mat)) (λlS a6=>?_);have eG:=BA eD a6.size;have ic:=Cq.below i5 a6;have eH:=BA eF a6.size;have id:=AJ.below i6 a6;have ie:=i7.bl a6;have ig:=i8.bl a6;have ih:=i9.bl a6;have bo:=bm.bl a6;have bp:=bn.bl a6;have b8:=Hk b7 a6 (λy=>b7.lt y);have ii:=DN ib a6;refine A0<|⟨⟨(bo).trans (d).symm,(bp).trans (b).symm,b8,tT⟩,?_⟩;refine Aa 20 rfl (.cat rfl rfl (by have:=EA x.fFont oO oO;have:=CW (Ej x) X.mat;have:(Ej x).length=6:=rfl;simp only [A9,A8,Ag] at *;omega)) ⟨(bo).trans (d).symm,(bp).trans (b).symm,b8,tT⟩ ?_;refine Aa 21 rfl (.cat rfl rfl (by have:=EA x.fFont oO oO;have:=CW (Ej x) X.mat;have:(Ej x).length=6:=rfl;simp only [A9,A8,Ag] at *;omega)) ⟨(bo).trans (d).symm,(bp).trans (b).symm,b8,tT⟩ ?_;refine Aq 25 rfl<|As (TH x.fBytes _ (by have:=X.bytes.2;omega)) (λlT a7=>?_)
    have eI:=BA eG a7.size;have aw:=Cq.below ic a7;have kG:=BA eH a7.size;have ca:=AJ.below id a7;have ij:=ie.bl a7;have ik:=ig.bl a7;have il:=ih.bl a7;have bq:=bo.bl a7;have bt:=bp.bl a7;have bu:=Hk b8 a7 (λy=>b8.lt y);have im:=DN ii a7;refine A0<|⟨⟨(bq).trans (d).symm,(bt).trans (b).symm,bu,tT⟩,?_⟩;refine Aa 26 rfl (.cat rfl rfl (by have:=EA x.fFont oO oO;have:=CW (Ej x) X.mat;have:(Ej x).length=6:=rfl;have:=Md x.fBytes;have:=X.bytes.2;simp only [A9,A8,Ag] at *;omega)) ⟨(bq).trans (d).symm,(bt).trans (b).symm,bu,tT⟩ ?_;refine Aa 27 rfl (.sis (Ju x) (.cat rfl rfl (by have:=EA x.fFont oO oO;have:=CW (Ej x) X.mat;have:(Ej x).length=6:=rfl;have:=Md x.fBytes;have:=X.bytes.2;simp only [A9,A8,Ag] at *;omega)) (by simp [Ju,CX])) ⟨(bq).trans (d).symm,(bt).trans (b).symm,bu,tT⟩ ?_;refine Aq 28 rfl<|GF BI JK GB rfl aw rfl (by have:=Tu X;simp only [Bc,A9];omega) (eI) rfl (λlU lV eJ cw ar=>?_);have io:=ij.grown ar (λe=>Bg aw aS dD _ e rfl);have ip:=ik.grown ar (λe=>Bg aw aS dD _ e rfl);have iq:=il.grown ar (λe=>Bg aw aS dD _ e rfl);have cb:=bq.grown ar (λe=>Bg aw aS dD _ e rfl);have dq:=bt.grown ar (λe=>Bg aw aS dD _ e rfl);have ir:=AJ.same ca (λg hg=>ar.block g ((ca).lt g hg).2 (λhx=>by exact EI aw ca dD g hx.symm hg));have dr:=Hk bu cw eo;have it:=EU im (cw.mono oO);have iu:=Cq.cat eJ;refine A0<|⟨⟨(cb).trans (d).symm,(dq).trans (b).symm,dr,tT⟩,?_⟩;refine Aa 29 rfl (.as rfl) ⟨(cb).trans (d).symm,(dq).trans (b).symm,dr,tT⟩ ?_;refine Bl kR ?_
    (refine ⟨_, ⟨rfl, rfl, rfl, rfl, rfl, rfl, rfl, rfl, tT⟩, ?_⟩
     have B:=iu;rw [show oW x=Ju x by unfold oW;rw [A2 oO,A2 oO,A2 oO],A7 bH];exact ⟨it,io,ip,iq,B,ir,cb⟩)
    obtain ⟨vv,rfl⟩:=eX t;obtain ⟨j1,j2,j3,j4,G,P,j7⟩:=hR;have F:=j4.lt;have bx:=P.lt v rfl;obtain ⟨pv,cv,evv,eK,-,iW,iX⟩:=LN G;subst evv;refine A5<|A3 rfl<|A1 (.lenS BI rfl)<|A1 (.gtr rfl rfl)<|A0<|Ae rfl (λcJ=>?_) (λcJ=>?_)
    · have iv := dT cJ
      refine A5<|DA rfl<|DA rfl<|Ab rfl<|B2 (YQ rfl rfl rfl rfl ?_);exact ⟨.inl rfl,j1⟩
    have iv:=dF cJ;refine Ap<|Ak<|A3 rfl<|A1 (.add rfl rfl (Bn oO))<|Ab rfl ?_;have ds:=Sq x (pg.fItems.take i) Hi;have cg:pg.fItems.take (i+1)=pg.fItems.take i++[x]:=by rw [Bd cQ,hx]
    rw [<- cP,q7] at ds;rw [<- cg] at ds;have iY:T4++Ed x.fPath++oW x=(Io Hi (pg.fItems.take (i+1))).1:=by
      rw [ds,e8,jU,iQ,iP];unfold LW;simp only [AB]
    have kH:(Io Hi (pg.fItems.take (i+1))).2=NW st x:=by rw [ds]
    have B:Cq 5 (m+1) w1 (.slice pv (T4++Ed x.fPath++oW x).length cv) (Az (Io Hi (pg.fItems.take (i+1))).1):=by rw [<- iY];exact G
    refine ⟨(i+1,NW st x,x.pfClips,x.cfClips,_,if x.fKind=4 then us.set x.fFont.toNat true else us),⟨rfl,rfl,rfl,rfl,rfl,rfl,rfl,tT⟩,⟨j1,j2,j3,j4,B,P,kH,A9x q8 a8 af,?_,?_,oM,by show (Io Hi (pg.fItems.take (i+1))).1.length<=1048576;rw [<- iY];omega⟩,oM⟩
    · show (if x.fKind = 4 then us.set x.fFont.toNat true else us).length = 14
      split
      · rw [List.length_set];exact q9
      · exact q9
    · exact λj hj kI kJ=>A4V hx q9 dB hj kI kJ (λh4=>(af.txt h4).font)
  have jj:=dF dE;have cQ:i=pg.fItems.length:=by omega
  have eL:=ZM pg.fItems Hi;have kK:pg.fItems.take i=pg.fItems:=by rw [cQ,Ca]
  rw [kK] at cP q7;rw [<- cP,q7] at eL;refine C7<|De (α:=Value) (λt=>[(5,t),(9,.slice (some ⟨v,0,none⟩) 14 14)]) (λt w'=>AD w w'/\Cq 5 (m+1) w' t (Az (FC Hi pg.fItems))/\AJ JB 4 (m+1) w' (.slice (some ⟨v,0,none⟩) 14 14) us) ?_ (λt w1 hR=>?_);refine A5<|A3 rfl<|A1 (.lenS Fj rfl)<|A1 (.gtr rfl rfl)<|A0<|Ae rfl (λcK=>?_) (λcK=>?_)
  · have iw := dT cK
    refine Ak<|A3 rfl<|GF BI JK GB rfl q5 rfl (by simp only [Bc,A9,A8,Ag];omega) (bN) rfl (λlW lX eM eN eO=>?_);have iy:=AJ.same q6 (λg hg=>eO.block g ((q6).lt g hg).2 (λhx=>by exact EI q5 q6 dD g hx.symm hg));have iz:=EU q1 (eN.mono oO);have iA:=Cq.cat eM;refine Ab rfl ?_
    (refine ⟨_, ⟨rfl, rfl, tT⟩, iz, ?_, iy⟩
     have B:=iA;rw [eL,A2 (λy=>by rw [List.isEmpty_iff] at y;have hq:(0:Int)<(st.clips.length:Int):=aS;rw [y] at hq;exact D6 hq dD)];exact B)
  have iw:=dF cK;refine Ap ?_
  (refine ⟨_, ⟨rfl, rfl, tT⟩, q1, ?_, q6⟩
   have B:=q5;rw [eL,A7 (by rw [List.isEmpty_iff];exact CB.1 oO),Bv];exact B)
  obtain ⟨vv,rfl⟩:=eX t;obtain ⟨j1,G,P⟩:=hR;have F:m+1<=w1.heap.size:=by have:=P.lt v rfl;omega
  have bx:=P.lt v rfl;obtain ⟨pv,cv,evv,eK,mj,iW,iX⟩:=LN G;subst evv;have kL:0<(FC Hi pg.fItems).length->(pA pv).block<w1.heap.size:=eK.lt;obtain ⟨wz,kM⟩:=eX w1;subst kM;refine Aj<|A5<|A3 rfl<|A1 (.lenS BI rfl)<|A1 (.gtr rfl rfl)<|A0<|Ae rfl (λcL=>?_) (λcL=>?_)
  · have iB := dT cL
    refine A5<|DA rfl<|DA rfl<|Ab rfl<|B2 (YQ rfl rfl rfl rfl ?_);exact ⟨.inl rfl,j1⟩
  have iB:=dF cL;refine Ap<|A5<|Ab rfl<|Aj<|A5<|Ab rfl<|AU<|Cf (α:=Nat × Value) (λt=>[(5,.slice pv (FC Hi pg.fItems).length cv),(9,.slice (some ⟨v,0,none⟩) 14 14),(15,t.2),(16,Ah (t.1:Int))]) (λt w'=>AD w w'/\Ay w' pv (FC Hi pg.fItems)/\AJ JB 4 (m+1) w' (.slice (some ⟨v,0,none⟩) 14 14) us/\Cq 3 wz.heap.size w' t.2 ((Kn us t.1).map E5)/\t.1<=14/\wz.heap.size<=w'.heap.size) (λt=>14-t.1) ((0,.slice none 0 0)) ⟨rfl,rfl,rfl,rfl,tT⟩ (⟨j1,eK,P,Cq.nil _ _ _,G8 _,FQ _⟩) (λt w1 hR=>?_);obtain ⟨⟨k,vf⟩,cg⟩:=eX t;subst cg;obtain ⟨z1,z2,z3,z4,z5,eP⟩:=hR;simp only at z4 z5;have d6:=Xk z3.rowp;have iV:=A1n us k
  show W Tryz.prog _ _ _ [(5,.slice pv (FC Hi pg.fItems).length cv),(9,.slice (some ⟨v,0,none⟩) 14 14),(15,vf),(16,Ah (k:Int))] w1
  refine Aj<|A5<|A3 rfl<|A1 (.lss rfl rfl)<|A0<|Ae rfl (λcM=>?_) (λcM=>?_)
  · have iC := dT cM
    have bw:k<14:=by omega
    have dt:k<us.length:=by omega
    refine Ap<|De (α:=Value) (λt=>[(5,.slice pv (FC Hi pg.fItems).length cv),(9,.slice (some ⟨v,0,none⟩) 14 14),(15,t),(16,Ah (k:Int))]) (λt w'=>AD w w'/\Ay w' pv (FC Hi pg.fItems)/\AJ JB 4 (m+1) w' (.slice (some ⟨v,0,none⟩) 14 14) us/\Cq 3 wz.heap.size w' t ((Kn us (k+1)).map E5)/\wz.heap.size<=w'.heap.size) ?_ (λt w1 hR=>?_);refine AU<|A5<|A3 rfl<|A3 rfl<|A1 (.ixb underlying82 P2 (by show some (Value.slice (some ⟨v,0,none⟩) 14 14)=some (Value.slice (some ⟨v,0,none⟩) us.length 14);rw [q9]) rfl (d6.isp oO) (k) (rfl) (dt))<|Ai (AS (g4_ _) rfl (d6.cells (k) (dt)))<|A0<|Ae rfl (λjX=>?_) (λjX=>?_);refine Ak<|A3 rfl<|A3 rfl<|CF (ps:=_) Dm B6 PM rfl rfl rfl rfl rfl pR rfl (λlY l4 bv eQ aK kN=>?_);have cd:=GK z3 bv aK;have cy:=BA eP aK.size;have du:=Cq.new z4 bv aK;have eR:=λy=>bv▸z2.lt y
    have iD:=Ay.upd z2 aK (λy=>IU (eR y));have iE:=uB z1 bv aK;refine EP Dm Wy rfl rfl rfl du rfl eQ rfl (by rw [B0];omega) (cy) rfl (λlZ l' eS bG eT=>?_);have iF:=AJ.same cd (λg hg=>eT.block g ((cd).lt g hg).2 (λhx=>by exact EI du cd dD g hx.symm hg));have iG:=Hk iD bG kL;have iH:=EU iE (bG.mono oO);have eU:=BA cy bG.size;refine Ab rfl ?_;exact ⟨_,⟨rfl,rfl,rfl,rfl,tT⟩,iH,iG,iF,by rw [Sd,A7 (show us.getD k false=true by rw [Cc,A6 dt];assumption),Bp];exact eS,eU⟩;refine Ap ?_;exact ⟨_,⟨rfl,rfl,rfl,rfl,tT⟩,z1,z2,z3,by rw [Sd,A2 (show ¬ us.getD k false=true by rw [Cc,A6 dt];show ¬ us[k]=true;simp_all)];exact z4,eP⟩;obtain ⟨mk,rfl⟩:=eX t;obtain ⟨y1,y2,y3,y4,jY⟩:=hR;refine Ak<|A3 rfl<|A1 (.iis (((k+1:Nat):Int)) (.add rfl rfl (Bn oO)) oO)<|Ab rfl ?_;exact ⟨(k+1,_),⟨rfl,rfl,rfl,rfl,tT⟩,⟨y1,y2,y3,y4,oM,jY⟩,oM⟩
  have iC:=dF cM;have bw:k=14:=by omega
  refine C7<|A5<|A3 rfl<|A3 rfl<|DA rfl<|DA rfl<|Ab rfl<|B2 (YQ rfl rfl rfl rfl ?_);obtain ⟨pf,cf,evf,kO,-⟩:=Cq.row (V:=E5) (l:=Kn us k) z4;subst evf;subst bw;exact ⟨.inr ⟨pv,cv,pf,cf,Kn us 14,rfl,z2,iW,iX,kO,oO,λf hf=>by have:=A3E hf;omega,λx hx h4=>by
    obtain ⟨j,hj,rfl⟩:=List.mem_iff_getElem.1 hx;have iU:=((S5 (hs _ hx)).txt h4).font;exact A1o iU.1 oO (dB j hj oO h4)⟩,z1⟩
end
section
theorem Lx {x:AN} (hc:Fw x.fColor=true) (hl:ET x.fClips=true) (h:x.fKind=4):E8 x=(GW x && decide ((x.fPath.length:Int)=0) && Ki x.fPen):=by unfold E8;rw [hc,hl,A7 h];rfl
theorem UV {x:AN} (hc:Fw x.fColor=true) (hl:ET x.fClips=true) (h:¬ x.fKind=4) (hr:LS x=true):E8 x=(if x.fKind=1\/x.fKind=2 then Ki x.fPen else if x.fKind=3 then KT x.fPen else false):=by unfold E8;rw [hc,hl,A2 h,hr];rfl
theorem A5M {x:AN} (h:¬ x.fKind=4) (hr:LS x=false):E8 x=false:=by unfold E8;rw [A2 h,hr];simp
theorem Zt {x:AN} (h:Fw x.fColor=false):E8 x=false:=by unfold E8;rw [h];rfl
theorem Zs {x:AN} (h:ET x.fClips=false):E8 x=false:=by unfold E8;rw [h];simp
def LQ (x:AN):Bool:=!decide (x.fFont=0) || !OC x || decide ((x.fBytes.length:Int) > 0) || decide ((x.fPath.length:Int)=0) || !EZ x.fPath
theorem VP (x:AN):LS x=!LQ x:=by
 have e:decide ((x.fBytes.length:Int) > 0)=!decide ((x.fBytes.length:Int)=0):=by rw [B1];simp only [Ad,AP,Aw];omega
 unfold LS LQ;rw [e]
 cases decide (x.fFont=0) <;> cases OC x <;> cases decide ((x.fBytes.length:Int)=0) <;> cases decide ((x.fPath.length:Int)=0) <;> cases EZ x.fPath <;> rfl
theorem A0C {x:AN} (h:LQ x=false):LS x=true:=by rw [VP,h];rfl
def Ot (x:Kr):Bool:=Nk x.fWidth && Nk x.fHeight && decide ((x.fItems.length:Int)<=4096) && x.fItems.all E8
end
section
def Ja (x:AN):Bool:=decide (x.fFont ≥ 0) && decide (x.fFont<=13) && decide ((x.fBytes.length:Int) ≥ 1) && decide ((x.fBytes.length:Int)<=65535) && decide ((x.fPath.length:Int)=0) && Ki x.fPen
theorem Wr {x:AN} (h:(Ej x).all Am=true):Ja x=(GW x && decide ((x.fPath.length:Int)=0) && Ki x.fPen):=by
 unfold Ja GW;rw [h,Bool.and_true]
theorem Ws {x:AN} (h:(Ej x).all Am=false):GW x=false:=by unfold GW;rw [h,Nu]
def KP (x:AN):Bool:=decide (x.fKind<1) || decide (x.fKind > 3) || LQ x
theorem A5N {x:AN} (hc:Fw x.fColor=true) (hl:ET x.fClips=true) (h:¬ x.fKind=4) (hr:KP x=true):E8 x=false:=by
 cases hq:LS x with
 | false=>exact A5M h hq
 | true =>
  have a:LQ x=false:=by rw [VP] at hq;simpa using hq
  unfold KP at hr
  rw [a,Bool.or_false,BC,Ad,Ad] at hr
  rw [UV hc hl h hq,A2 oO,A2 oO]
theorem A1y {l:List Bm} (h1:(l.length:Int)<=16) (h:∀ j (hj:j<l.length),Fo l[j]=true):ET l=true:=by
 unfold ET;rw [Al h1,Vb h];rfl
theorem A44 {l:List Bm} {j:Nat} (hj:j<l.length) (h:Fo l[j]=false):ET l=false:=by
 unfold ET;rw [QT hj h,Nu]
theorem SM (x:AN) (w:World) (hx:HY w x):C9 9 #[.agg (F4 x).toArray] w (.bool (E8 x)):=by
 refine Av func9 rfl ntmps9 ?_
 have b0:=DR w
 refine A5<|D5 rfl rfl (λQ bk b2 V ar bh=>?_)
 have b4:=uB b0 b2 ar
 refine Ab rfl<|A5<|A1 (.fa Db rfl K7 dD rfl)<|Ai (Cx (L:=Gj) H5 rfl F5 V (x.fColor) (rfl) rfl)<|C1 zeroValue37 rfl (λb3 bm ag au a3 bi=>?_)
 have b5:=Bx ag V.lt
 have b6:=V.un a3 b5
 have b7:=uB b4 ag a3
 refine AH rfl rfl au F5 rfl rfl (λw7 D a4 bj=>?_)
 have ah:=b6.up a4
 have X:=CP b7 oO a4
 refine A0<|Aj<|Fx 22 (!Jl x.fColor.fSpace) ?_ ?_
 refine Ak<|A1 (.fa H5 rfl B6 dD rfl)<|Ai (Af (BE _) rfl D rfl)<|A1 (.neq rfl rfl)<|A3 rfl<|B5 rfl rfl rfl (λE=>?_) (λE=>?_)
 have av:=Kj E
 refine A1 (.fa H5 rfl B6 dD rfl)<|Au E<|Ai (Af (BE _) rfl D rfl)<|Au E<|A1 (.neq rfl rfl)<|A1 (.pkT rfl E rfl)<|A3 rfl<|B5 rfl rfl rfl (λF=>?_) (λF=>?_)
 have aw:=Kj F
 refine A1 (.fa H5 rfl B6 dD rfl)<|Au F<|Ai (Af (BE _) rfl D rfl)<|Au F<|A1 (.neq rfl rfl)<|A1 (.pkT rfl F rfl)<|A0<|?_
 exact ⟨Gm (CD rfl (by unfold Jl;simp_all)),rfl⟩
 have aw:=Kk F
 refine Ac F<|Ac F<|A1 (.pkF rfl F rfl)<|A0<|?_
 exact ⟨Gm (CD rfl (by unfold Jl;simp_all)),rfl⟩
 have av:=Kk E
 refine Ac E<|Ac E<|A1 (.pkF rfl E rfl)<|A3 rfl<|Ac rfl<|Ac rfl<|Ac rfl<|A1 (.pkF rfl rfl rfl)<|A0<|?_
 exact ⟨Gm (CD rfl (by unfold Jl;simp_all)),rfl⟩
 refine Ae rfl (λb8=>?_) (λb8=>?_)
 refine A5<|Ab rfl<|AI ?_
 exact ⟨Bw (by rw [Zt (by unfold Fw;rw [show Jl x.fColor.fSpace=false from by simpa using (show (!Jl _)=true by assumption)];rfl)]),X⟩
 have b9:Jl x.fColor.fSpace=true:=by simp_all
 refine Ap<|Aj<|A5<|Ab rfl<|AU<|Cf (α:=Nat) (λt=>[(1,ptV Q),(3,ptV b3),(4,Ah (t:Int))]) (λt w'=>w7=w'/\t<=4/\∀ i (hi:i<(Cy x.fColor).length),i<t->Jw x.fColor i hi=true) (λt=>4-t) (0) ⟨rfl,rfl,rfl,tT⟩ (⟨rfl,dD,λi _ h=>D6 h oO⟩) (λt w1 hR=>?_)
 obtain ⟨k,rfl⟩:=eX t
 obtain ⟨rfl,hk,a5⟩:=hR
 refine Aj<|A5<|A3 rfl<|A1 (.lss rfl rfl)<|A0<|Ae rfl (λa6=>?_) (λa6=>?_)
 have ax:=dT a6
 have ai:k<(Cy x.fColor).length:=by simp [Cy];omega
 refine Ap<|Aj<|AU<|Fx 51 (!Jw x.fColor k ai) ?_ ?_
 refine Ak<|A3 rfl<|A1 (.fa H5 rfl sizeOf35 dD rfl)<|A1 (.ixr1 Vt B6 rfl rfl (k) (rfl) oO)<|Ai (AS (BE _) rfl ((MU D).cells (k) oO))<|A1 (.lss rfl rfl)<|A3 rfl<|B5 rfl rfl rfl (λf=>?_) (λf=>?_)
 have ay:=dF f
 refine A3 rfl<|Au f<|A1 (.fa H5 rfl sizeOf35 dD rfl)<|Au f<|A1 (.ixr1 Vt B6 rfl rfl (k) (rfl) oO)<|Au f<|Ai (AS (BE _) rfl ((MU D).cells (k) oO))<|Au f<|A1 (.gtr rfl rfl)<|A1 (.pkF rfl f rfl)<|A3 rfl<|B5 rfl rfl rfl (λd=>?_) (λd=>?_)
 have az:=dF d
 refine A3 rfl<|Au d<|A1 (.fa H5 rfl B6 dD rfl)<|Au d<|Ai (Af (BE _) rfl D rfl)<|Au d<|A1 (.geq rfl rfl)<|Au d<|A3 rfl<|B5 rfl rfl rfl (λg=>?_) (λg=>?_)
 have aA:=dT g
 refine A3 rfl<|Au g<|A1 (.fa H5 rfl sizeOf35 dD rfl)<|Au g<|A1 (.ixr1 Vt B6 rfl rfl (k) (rfl) oO)<|Au g<|Ai (AS (BE _) rfl ((MU D).cells (k) oO))<|Au g<|A1 (.neq rfl rfl)<|Au d<|A1 (.pkT rfl g rfl)<|A1 (.pkF rfl d rfl)<|A0<|?_
 exact ⟨Gm (CD rfl (by unfold Jw;first | (simp_all;done) | (simp_all <;> (intros;omega)))),rfl⟩
 have aA:=dF g
 refine Ac g<|Ac g<|Ac g<|Ac g<|Au d<|A1 (.pkF rfl g rfl)<|A1 (.pkF rfl d rfl)<|A0<|?_
 exact ⟨Gm (CD rfl (by unfold Jw;first | (simp_all;done) | (simp_all <;> (intros;omega)))),rfl⟩
 have az:=dT d
 refine Ac d<|Ac d<|Ac d<|Ac d<|G9<|G9<|G9<|G9<|G9<|Ac d<|A1 (.pkT rfl d rfl)<|A0<|?_
 exact ⟨Gm (CD rfl (by unfold Jw;first | (simp_all;done) | (simp_all <;> (intros;omega)))),rfl⟩
 have ay:=dT f
 refine Ac f<|Ac f<|Ac f<|Ac f<|A1 (.pkT rfl f rfl)<|A3 rfl<|Ac rfl<|Ac rfl<|Ac rfl<|Ac rfl<|Ac rfl<|G9<|G9<|G9<|G9<|G9<|Ac rfl<|A1 (.pkT rfl rfl rfl)<|A0<|?_
 exact ⟨Gm (CD rfl (by unfold Jw;first | (simp_all;done) | (simp_all <;> (intros;omega)))),rfl⟩
 refine Ae rfl (λba=>?_) (λba=>?_)
 refine A5<|Ab rfl<|AI ?_
 exact ⟨Bw (by rw [Zt (A1x ai (by simpa using (show (!Jw _ _ _)=true by assumption)))]),X⟩
 refine Ap<|Ak<|A3 rfl<|A1 (.iis (((k+1:Nat):Int)) (.add rfl rfl (Bn oO)) oO)<|Ab rfl ?_
 exact ⟨k+1,⟨rfl,rfl,rfl,tT⟩,⟨rfl,oM,λj hj h=>by
  rcases Cp.1 h with h2 | rfl;exact a5 j hj h2
  simp_all⟩,oM⟩
 have ax:=dF a6
 have B:Fw x.fColor=true:=YH b9 λi hi=>a5 i hi (by have h4:i<4:=hi;omega)
 refine C7<|Aj<|A5<|A1 (.fa Db rfl Gg dD rfl)<|Ai (Af (JY _) rfl ah rfl)<|A1 (.lenS Fj rfl)<|A1 (.gtr rfl rfl)<|A0<|Ae rfl (λa7=>?_) (λa7=>?_)
 have aB:=dT a7
 refine A5<|Ab rfl<|AI ?_
 exact ⟨Bw (by rw [Zs (by unfold ET;rw [An oO];rfl)]),X⟩
 have aB:=dF a7
 have aC:(x.fClips.length:Int)<=16:=by omega
 refine Ap<|Aj<|A5<|Ab rfl<|AU<|Cf (α:=Nat) (λt=>[(1,ptV Q),(5,Ah (t:Int))]) (λt w'=>AD w w'/\Be w' Q (F4 x).toArray 44/\t<=x.fClips.length/\∀ j (hj:j<x.fClips.length),j<t->Fo x.fClips[j]=true) (λt=>x.fClips.length-t) (0) ⟨rfl,rfl,tT⟩ (⟨X,ah,G8 _,λj _ h=>D6 h oO⟩) (λt w1 hR=>?_)
 obtain ⟨i,rfl⟩:=eX t
 obtain ⟨hT,l,hi,aj⟩:=hR
 have a0:=(hx.below hT).row_fClips
 refine Aj<|A5<|A3 rfl<|A1 (.fa Db rfl Gg dD rfl)<|Ai (Af (JY _) rfl l rfl)<|A1 (.lenS Fj rfl)<|A1 (.lss rfl rfl)<|A0<|Ae rfl (λa8=>?_) (λa8=>?_)
 have aD:=dT a8
 have ak:i<x.fClips.length:=by omega
 have am:=hx.all_fClips _ (AM ak)
 have an:x.fClips[i].fPath.isEmpty=decide ((x.fClips[i].fPath.length:Int)=0):=by cases x.fClips[i].fPath <;> simp <;> omega
 refine Ap<|Aj<|AU<|De (α:=Unit) (λt=>[(1,ptV Q),(5,Ah (i:Int)),(80,.bool (!Fo x.fClips[i]))]) (λt w'=>AD w w'/\Be w' Q (F4 x).toArray 44) ?_ (λt w1 hR=>?_)
 refine Ak<|A1 (.fa Db rfl Gg dD rfl)<|Ai (Af (JY _) rfl l rfl)<|A3 rfl<|A1 (.ixm Fj K6 rfl rfl (a0.isp oO) (i) (rfl) oO)<|A1 (.fa Na rfl HE dD rfl)<|Ai (AS (JG _) rfl ((a0.field (i) oO 0 dD).trans rfl))<|A1 (.lenS Fk rfl)<|A1 (.eql rfl rfl)<|A3 rfl<|B5 rfl rfl rfl (λc=>?_) (λc=>?_)
 have aE:=dF c
 refine A1 (.fa Db rfl Gg dD rfl)<|Au c<|Ai (Af (JY _) rfl l rfl)<|Au c<|A3 rfl<|Au c<|A1 (.ixm Fj K6 rfl rfl (a0.isp oO) (i) (rfl) oO)<|Au c<|A1 (.fa Na rfl HE dD rfl)<|Au c<|Ai (AS (JG _) rfl ((a0.field (i) oO 0 dD).trans rfl))<|Au c<|As (Nl _ _ _ _ (am.below hT).row_fPath am.sl_fPath.len) (λbn a9=>?_)
 have aF:=l.bl a9
 have aG:=DN hT a9
 refine Au c<|A1 (.not rfl)<|A1 (.pkF rfl c rfl)<|A0<|?_
 exact ⟨(),⟨rfl,rfl,CD rfl (by unfold Fo;rw [an];simp_all),tT⟩,aG,aF⟩
 have aE:=dT c
 refine Ac c<|Ac c<|Ac c<|Ac c<|Ac c<|Ac c<|Ac c<|A1 (.pkT rfl c rfl)<|A0<|?_
 exact ⟨(),⟨rfl,rfl,CD rfl (by unfold Fo;rw [an];simp_all),tT⟩,hT,l⟩
 obtain ⟨ao,bb⟩:=hR
 refine Ae rfl (λbc=>?_) (λbc=>?_)
 refine A5<|Ab rfl<|AI ?_
 exact ⟨Bw (by rw [Zs (A44 ak (by simpa using (show (!Fo _)=true by assumption)))]),ao⟩
 refine Ap<|Ak<|A3 rfl<|A1 (.iis (((i+1:Nat):Int)) (.add rfl rfl (Bn oO)) oO)<|Ab rfl ?_
 exact ⟨i+1,⟨rfl,rfl,tT⟩,⟨ao,bb,oM,λj hj h=>by
  rcases Cp.1 h with h2 | rfl;exact aj j hj h2
  simp_all⟩,oM⟩
 have aD:=dF a8
 have C:ET x.fClips=true:=A1y aC λj hj=>aj j hj oO
 refine C7<|A5<|A1 (.fa Db rfl Nd dD rfl)<|Ai (Cx (L:=Wb) D7 rfl Im l (x.fPen) (rfl) rfl)<|?_
 refine A1 (.buildL (ps:=_) A99 rfl rfl rfl pZ) ?_
 refine As (by have h:=PT x.fPen A7k _ (hx.below hT).ok_fPen.row_fDash AZ.none hx.ok_fPen.sl_fDash.len;rw [A0O] at h;exact h) (λbd aa=>?_)
 have a:=l.bl aa
 have b:=DN hT aa
 refine Ab rfl<|Aj<|A5<|A1 (.fa Db rfl B6 dD rfl)<|Ai (Af (BE _) rfl a rfl)<|A1 (.eql rfl rfl)<|A0<|Ae rfl (λab=>?_) (λab=>?_)
 have aH:=dT ab
 refine Aj<|A5<|Ab rfl<|AU<|Cf (α:=Nat) (λt=>[(1,ptV Q),(6,.bool (Ki x.fPen)),(7,Ah (t:Int))]) (λt w'=>bd=w'/\t<=6/\∀ i (hi:i<(Ej x).length),i<t->Am (Ej x)[i]=true) (λt=>6-t) (0) ⟨rfl,rfl,rfl,tT⟩ (⟨rfl,dD,λi _ h=>D6 h oO⟩) (λt w1 hR=>?_)
 obtain ⟨m,rfl⟩:=eX t
 obtain ⟨rfl,hm,ap⟩:=hR
 refine Aj<|A5<|A3 rfl<|A1 (.lss rfl rfl)<|A0<|Ae rfl (λac=>?_) (λac=>?_)
 have aI:=dT ac
 have be:m<(Ej x).length:=by simp [Ej];omega
 refine Ap<|Aj<|AU<|A5<|A3 rfl<|A1 (.fa Db rfl HD dD rfl)<|A1 (.ixr1 DM B6 rfl rfl (m) (rfl) oO)<|Ai (AS (BE _) rfl ((Mq a).cells (m) oO))<|As (Gs _ _) (λbo aJ=>?_)
 obtain rfl:=aJ
 refine A1 (.not rfl)<|A0<|Ae rfl (λad=>?_) (λad=>?_)
 have aK:=(nT ad)
 refine A5<|Ab rfl<|AI ?_
 exact ⟨Bw (by rw [Lx B C aS,Ws (QT be (by simpa using (show (!Am _)=true by assumption)))];rfl),b⟩
 have aK:=(nF ad)
 refine Ap<|Ak<|A3 rfl<|A1 (.iis (((m+1:Nat):Int)) (.add rfl rfl (Bn oO)) oO)<|Ab rfl ?_
 exact ⟨m+1,⟨rfl,rfl,rfl,tT⟩,⟨rfl,oM,λj hj h=>by
  rcases Cp.1 h with h2 | rfl;exact ap j hj h2
  simp_all⟩,oM⟩
 have aI:=dF ac
 have bf:(Ej x).all Am=true:=Vb λi hi=>ap i hi (by have h6:i<6:=hi;omega)
 have P:=Wr bf
 refine C7<|A5<|A1 (.fa Db rfl B6 dD rfl)<|Ai (Af (BE _) rfl a rfl)<|A1 (.geq rfl rfl)<|A3 rfl<|B5 rfl rfl rfl (λG=>?_) (λG=>?_)
 have aL:=dT G
 refine A1 (.fa Db rfl B6 dD rfl)<|Au G<|Ai (Af (BE _) rfl a rfl)<|Au G<|A1 (.leq rfl rfl)<|A1 (.pkT rfl G rfl)<|A3 rfl<|B5 rfl rfl rfl (λo=>?_) (λo=>?_)
 have aM:=dT o
 refine A1 (.fa Db rfl Gr dD rfl)<|Au o<|Ai (Af (g22_ _) rfl a rfl)<|Au o<|A1 (.lenS BI rfl)<|Au o<|A1 (.geq rfl rfl)<|A1 (.pkT rfl o rfl)<|A3 rfl<|B5 rfl rfl rfl (λq=>?_) (λq=>?_)
 have aN:=dT q
 refine A1 (.fa Db rfl Gr dD rfl)<|Au q<|Ai (Af (g22_ _) rfl a rfl)<|Au q<|A1 (.lenS BI rfl)<|Au q<|A1 (.leq rfl rfl)<|A1 (.pkT rfl q rfl)<|A3 rfl<|B5 rfl rfl rfl (λs=>?_) (λs=>?_)
 have aO:=dT s
 refine A1 (.fa Db rfl HE dD rfl)<|Au s<|Ai (Af (JG _) rfl a rfl)<|Au s<|A1 (.lenS Fk rfl)<|Au s<|A1 (.eql rfl rfl)<|A1 (.pkT rfl s rfl)<|A3 rfl<|B5 rfl rfl rfl (λT=>?_) (λT=>?_)
 have aP:=dT T
 refine A3 rfl<|A1 (.pkT rfl T rfl)<|Ab rfl<|AI ?_
 exact ⟨Bw (by rw [Lx B C aS,<- P];unfold Ja;first | (simp_all;done) | (simp_all <;> omega)),b⟩
 have aP:=dF T
 refine A1 (.pkF rfl T rfl)<|Ab rfl<|AI ?_
 exact ⟨Bw (by rw [Lx B C aS,<- P];unfold Ja;first | (simp_all;done) | (simp_all <;> omega)),b⟩
 have aO:=dF s
 refine Ac s<|Ac s<|Ac s<|A1 (.pkF rfl s rfl)<|A3 rfl<|Ac rfl<|A1 (.pkF rfl rfl rfl)<|Ab rfl<|AI ?_
 exact ⟨Bw (by rw [Lx B C aS,<- P];unfold Ja;first | (simp_all;done) | (simp_all <;> omega)),b⟩
 have aN:=dF q
 refine Ac q<|Ac q<|Ac q<|A1 (.pkF rfl q rfl)<|A3 rfl<|Ac rfl<|Ac rfl<|Ac rfl<|Ac rfl<|A1 (.pkF rfl rfl rfl)<|A3 rfl<|Ac rfl<|A1 (.pkF rfl rfl rfl)<|Ab rfl<|AI ?_
 exact ⟨Bw (by rw [Lx B C aS,<- P];unfold Ja;first | (simp_all;done) | (simp_all <;> omega)),b⟩
 have aM:=dF o
 refine Ac o<|Ac o<|Ac o<|A1 (.pkF rfl o rfl)<|A3 rfl<|Ac rfl<|Ac rfl<|Ac rfl<|Ac rfl<|A1 (.pkF rfl rfl rfl)<|A3 rfl<|Ac rfl<|Ac rfl<|Ac rfl<|Ac rfl<|A1 (.pkF rfl rfl rfl)<|A3 rfl<|Ac rfl<|A1 (.pkF rfl rfl rfl)<|Ab rfl<|AI ?_
 exact ⟨Bw (by rw [Lx B C aS,<- P];unfold Ja;first | (simp_all;done) | (simp_all <;> omega)),b⟩
 have aL:=dF G
 refine Ac G<|Ac G<|A1 (.pkF rfl G rfl)<|A3 rfl<|Ac rfl<|Ac rfl<|Ac rfl<|Ac rfl<|A1 (.pkF rfl rfl rfl)<|A3 rfl<|Ac rfl<|Ac rfl<|Ac rfl<|Ac rfl<|A1 (.pkF rfl rfl rfl)<|A3 rfl<|Ac rfl<|Ac rfl<|Ac rfl<|Ac rfl<|A1 (.pkF rfl rfl rfl)<|A3 rfl<|Ac rfl<|A1 (.pkF rfl rfl rfl)<|Ab rfl<|AI ?_
 exact ⟨Bw (by rw [Lx B C aS,<- P];unfold Ja;first | (simp_all;done) | (simp_all <;> omega)),b⟩
 have aH:=dF ab
 refine Ap<|Aj<|De (α:=Unit) (λt=>[(1,ptV Q),(6,.bool (Ki x.fPen)),(163,.bool (KP x))]) (λt w'=>AD w w'/\Be w' Q (F4 x).toArray 44) ?_ (λt w1 hR=>?_)
 refine Ak<|A1 (.fa Db rfl B6 dD rfl)<|Ai (Af (BE _) rfl a rfl)<|A1 (.lss rfl rfl)<|A3 rfl<|B5 rfl rfl rfl (λH=>?_) (λH=>?_)
 have aQ:=dF H
 refine A1 (.fa Db rfl B6 dD rfl)<|Au H<|Ai (Af (BE _) rfl a rfl)<|Au H<|A1 (.gtr rfl rfl)<|A1 (.pkF rfl H rfl)<|A3 rfl<|B5 rfl rfl rfl (λJ=>?_) (λJ=>?_)
 have aR:=dF J
 refine A1 (.fa Db rfl B6 dD rfl)<|Au J<|Ai (Af (BE _) rfl a rfl)<|Au J<|A1 (.neq rfl rfl)<|A1 (.pkF rfl J rfl)<|A3 rfl<|B5 rfl rfl rfl (λu=>?_) (λu=>?_)
 have aT:=Kk u
 refine A1 (.fa Db rfl HD dD rfl)<|Au u<|Ai (Cx (L:=RV) DM rfl CY a (x) (rfl) rfl)<|Au u<|?_
 refine A1 (.build (ps:=[]) (vs:=[]) rfl A98) ?_
 refine Au u<|A1 (.neAgg rfl rfl A93 (A8N _ _ _ _ _ _ _ _ _ _ _ _))<|A1 (.pkF rfl u rfl)<|A3 rfl<|B5 rfl rfl rfl (λK=>?_) (λK=>?_)
 refine A1 (.fa Db rfl Gr dD rfl)<|Au K<|Ai (Af (g22_ _) rfl a rfl)<|Au K<|A1 (.lenS BI rfl)<|Au K<|A1 (.gtr rfl rfl)<|A1 (.pkF rfl K rfl)<|A3 rfl<|B5 rfl rfl rfl (λv=>?_) (λv=>?_)
 have aU:=dF v
 refine A1 (.fa Db rfl HE dD rfl)<|Au v<|Ai (Af (JG _) rfl a rfl)<|Au v<|A1 (.lenS Fk rfl)<|Au v<|A1 (.eql rfl rfl)<|A1 (.pkF rfl v rfl)<|A3 rfl<|B5 rfl rfl rfl (λy=>?_) (λy=>?_)
 have aV:=dF y
 refine A1 (.fa Db rfl HE dD rfl)<|Au y<|Ai (Af (JG _) rfl a rfl)<|Au y<|As (Nl _ _ _ _ (hx.below b).row_fPath hx.sl_fPath.len) (λbp ae=>?_)
 have aW:=a.bl ae
 have aX:=DN b ae
 refine Au y<|A1 (.not rfl)<|A1 (.pkF rfl y rfl)<|A0<|?_
 exact ⟨(),⟨rfl,rfl,CD rfl (by unfold KP LQ OC;generalize EZ x.fPath=A at *;first | (simp_all;done) | (rw [Al (show x.fKind<1 by omega)];simp_all;done) | (rw [An (show ¬ x.fKind<1 by omega),Al (show x.fKind > 3 by omega)];simp_all;done) | (rw [An (show ¬ x.fKind<1 by omega),An (show ¬ x.fKind > 3 by omega)];first | (simp_all;done) | (rw [Al (show (x.fBytes.length:Int) > 0 by omega)];simp_all;done) | (rw [An (show ¬ (x.fBytes.length:Int) > 0 by omega)];simp_all;done))),tT⟩,aX,aW⟩
 have aV:=dT y
 refine Ac y<|Ac y<|Ac y<|A1 (.pkT rfl y rfl)<|A0<|?_
 exact ⟨(),⟨rfl,rfl,CD rfl (by unfold KP LQ OC;generalize EZ x.fPath=A at *;first | (simp_all;done) | (rw [Al (show x.fKind<1 by omega)];simp_all;done) | (rw [An (show ¬ x.fKind<1 by omega),Al (show x.fKind > 3 by omega)];simp_all;done) | (rw [An (show ¬ x.fKind<1 by omega),An (show ¬ x.fKind > 3 by omega)];first | (simp_all;done) | (rw [Al (show (x.fBytes.length:Int) > 0 by omega)];simp_all;done) | (rw [An (show ¬ (x.fBytes.length:Int) > 0 by omega)];simp_all;done))),tT⟩,b,a⟩
 have aU:=dT v
 refine Ac v<|Ac v<|Ac v<|A1 (.pkT rfl v rfl)<|A3 rfl<|Ac rfl<|Ac rfl<|Ac rfl<|Ac rfl<|A1 (.pkT rfl rfl rfl)<|A0<|?_
 exact ⟨(),⟨rfl,rfl,CD rfl (by unfold KP LQ OC;generalize EZ x.fPath=A at *;first | (simp_all;done) | (rw [Al (show x.fKind<1 by omega)];simp_all;done) | (rw [An (show ¬ x.fKind<1 by omega),Al (show x.fKind > 3 by omega)];simp_all;done) | (rw [An (show ¬ x.fKind<1 by omega),An (show ¬ x.fKind > 3 by omega)];first | (simp_all;done) | (rw [Al (show (x.fBytes.length:Int) > 0 by omega)];simp_all;done) | (rw [An (show ¬ (x.fBytes.length:Int) > 0 by omega)];simp_all;done))),tT⟩,b,a⟩
 refine Ac K<|Ac K<|Ac K<|A1 (.pkT rfl K rfl)<|A3 rfl<|Ac rfl<|Ac rfl<|Ac rfl<|Ac rfl<|A1 (.pkT rfl rfl rfl)<|A3 rfl<|Ac rfl<|Ac rfl<|Ac rfl<|Ac rfl<|A1 (.pkT rfl rfl rfl)<|A0<|?_
 exact ⟨(),⟨rfl,rfl,CD rfl (by unfold KP LQ OC;generalize EZ x.fPath=A at *;first | (simp_all;done) | (rw [Al (show x.fKind<1 by omega)];simp_all;done) | (rw [An (show ¬ x.fKind<1 by omega),Al (show x.fKind > 3 by omega)];simp_all;done) | (rw [An (show ¬ x.fKind<1 by omega),An (show ¬ x.fKind > 3 by omega)];first | (simp_all;done) | (rw [Al (show (x.fBytes.length:Int) > 0 by omega)];simp_all;done) | (rw [An (show ¬ (x.fBytes.length:Int) > 0 by omega)];simp_all;done))),tT⟩,b,a⟩
 have aT:=Kj u
 refine Ac u<|Ac u<|Ac u<|A1 (.pkT rfl u rfl)<|A3 rfl<|Ac rfl<|Ac rfl<|Ac rfl<|Ac rfl<|A1 (.pkT rfl rfl rfl)<|A3 rfl<|Ac rfl<|Ac rfl<|Ac rfl<|Ac rfl<|A1 (.pkT rfl rfl rfl)<|A3 rfl<|Ac rfl<|Ac rfl<|Ac rfl<|Ac rfl<|A1 (.pkT rfl rfl rfl)<|A0<|?_
 exact ⟨(),⟨rfl,rfl,CD rfl (by unfold KP LQ OC;generalize EZ x.fPath=A at *;first | (simp_all;done) | (rw [Al (show x.fKind<1 by omega)];simp_all;done) | (rw [An (show ¬ x.fKind<1 by omega),Al (show x.fKind > 3 by omega)];simp_all;done) | (rw [An (show ¬ x.fKind<1 by omega),An (show ¬ x.fKind > 3 by omega)];first | (simp_all;done) | (rw [Al (show (x.fBytes.length:Int) > 0 by omega)];simp_all;done) | (rw [An (show ¬ (x.fBytes.length:Int) > 0 by omega)];simp_all;done))),tT⟩,b,a⟩
 have aR:=dT J
 refine Ac J<|Ac J<|A1 (.pkT rfl J rfl)<|A3 rfl<|Ac rfl<|Ac rfl<|Ac rfl<|Ac rfl<|A1 (.pkT rfl rfl rfl)<|A3 rfl<|Ac rfl<|Ac rfl<|Ac rfl<|Ac rfl<|A1 (.pkT rfl rfl rfl)<|A3 rfl<|Ac rfl<|Ac rfl<|Ac rfl<|Ac rfl<|A1 (.pkT rfl rfl rfl)<|A3 rfl<|Ac rfl<|Ac rfl<|Ac rfl<|Ac rfl<|A1 (.pkT rfl rfl rfl)<|A0<|?_
 exact ⟨(),⟨rfl,rfl,CD rfl (by unfold KP LQ OC;generalize EZ x.fPath=A at *;first | (simp_all;done) | (rw [Al (show x.fKind<1 by omega)];simp_all;done) | (rw [An (show ¬ x.fKind<1 by omega),Al (show x.fKind > 3 by omega)];simp_all;done) | (rw [An (show ¬ x.fKind<1 by omega),An (show ¬ x.fKind > 3 by omega)];first | (simp_all;done) | (rw [Al (show (x.fBytes.length:Int) > 0 by omega)];simp_all;done) | (rw [An (show ¬ (x.fBytes.length:Int) > 0 by omega)];simp_all;done))),tT⟩,b,a⟩
 have aQ:=dT H
 refine Ac H<|Ac H<|A1 (.pkT rfl H rfl)<|A3 rfl<|Ac rfl<|Ac rfl<|Ac rfl<|A1 (.pkT rfl rfl rfl)<|A3 rfl<|Ac rfl<|Ac rfl<|Ac rfl<|Ac rfl<|A1 (.pkT rfl rfl rfl)<|A3 rfl<|Ac rfl<|Ac rfl<|Ac rfl<|Ac rfl<|A1 (.pkT rfl rfl rfl)<|A3 rfl<|Ac rfl<|Ac rfl<|Ac rfl<|Ac rfl<|A1 (.pkT rfl rfl rfl)<|A3 rfl<|Ac rfl<|Ac rfl<|Ac rfl<|Ac rfl<|A1 (.pkT rfl rfl rfl)<|A0<|?_
 exact ⟨(),⟨rfl,rfl,CD rfl (by unfold KP LQ OC;generalize EZ x.fPath=A at *;first | (simp_all;done) | (rw [Al (show x.fKind<1 by omega)];simp_all;done) | (rw [An (show ¬ x.fKind<1 by omega),Al (show x.fKind > 3 by omega)];simp_all;done) | (rw [An (show ¬ x.fKind<1 by omega),An (show ¬ x.fKind > 3 by omega)];first | (simp_all;done) | (rw [Al (show (x.fBytes.length:Int) > 0 by omega)];simp_all;done) | (rw [An (show ¬ (x.fBytes.length:Int) > 0 by omega)];simp_all;done))),tT⟩,b,a⟩
 obtain ⟨l,aq⟩:=hR
 refine Ae rfl (λbg=>?_) (λbg=>?_)
 have a1:KP x=true:=by assumption
 refine A5<|Ab rfl<|AI ?_
 exact ⟨Bw (by rw [A5N B C aS a1]),l⟩
 have a1:KP x=false:=by assumption
 simp only [KP,Ee,Aw] at a1
 have a2:=A0C a1.2
 refine Ap<|Aj<|A5<|A1 (.fa Db rfl B6 dD rfl)<|Ai (Af (BE _) rfl aq rfl)<|A1 (.eql rfl rfl)<|A0<|Ae rfl (λaf=>?_) (λaf=>?_)
 have aY:=dT af
 refine A5<|A1 (.fa Db rfl Nd dD rfl)<|Ai (Cx (L:=Wb) D7 rfl Im aq (x.fPen) (rfl) rfl)<|As (UC x.fPen _ (hx.below l).ok_fPen.row_fDash) (λbq aZ=>?_)
 have a':=DN l aZ
 refine Ab rfl<|AI ?_
 exact ⟨Bw (by rw [UV B C aS a2,A2 oO,A7 aS]),a'⟩
 have aY:=dF af
 refine Ap<|A5<|A3 rfl<|Ab rfl<|AI ?_
 exact ⟨Bw (by rw [UV B C aS a2,A7 oO]),l⟩
end
section
def OK (x:Kr):Bool:=!Nk x.fWidth || !Nk x.fHeight || decide ((x.fItems.length:Int) > 4096)
theorem Rz {x:Kr} (h:OK x=true):Ot x=false:=by
 unfold Ot;unfold OK at h
 cases h1:Nk x.fWidth with
 | false=>simp
 | true=>cases h2:Nk x.fHeight with
  | false=>simp
  | true =>
   rw [h1,h2] at h
   have:(x.fItems.length:Int) > 4096:=by simpa using h
   rw [An oO];simp
theorem NH {x:Kr} {j:Nat} (hj:j<x.fItems.length) (h:E8 x.fItems[j]=false):Ot x=false:=by unfold Ot;rw [QT hj h,Nu]
theorem Pq {x:Kr} (h:OK x=false) (ha:∀ j (hj:j<x.fItems.length),E8 x.fItems[j]=true):Ot x=true:=by
 unfold OK at h
 simp only [Ee,BT,Aw] at h
 unfold Ot;rw [h.1.1,h.1.2,Al oO,Vb ha];rfl
theorem SL (x:Kr) (w:World) (hx:LM w x):C9 10 #[.agg (HK x).toArray] w (.bool (Ot x)):=by
 have T:0<x.fItems.length->(pA x.pfItems).block<w.heap.size:=λK=>hx.row_fItems.lt K
 refine Av func10 rfl ntmps10 ?_
 have o:=DR w
 refine A5<|D5 rfl rfl (λC U q c v L=>?_)
 have g:=uB o q v
 have J:=DW q o.size
 refine Ab rfl<|Aj<|Fx 19 (OK x) ?_ ?_
 refine Ak<|A1 (.fa O8 rfl B6 dD rfl)<|Ai (Af (BE _) rfl c rfl)<|As (VR _ _) (λX D=>?_)
 obtain rfl:=D
 refine A1 (.not rfl)<|A3 rfl<|B5 rfl rfl rfl (λa=>?_) (λa=>?_)
 have E:=(nF a)
 refine A1 (.fa O8 rfl B6 dD rfl)<|EK rfl rfl rfl (by rw [(nF a)] <;> rfl)<|Ai (Af (BE _) rfl c rfl)<|EK rfl rfl rfl (by rw [(nF a)] <;> rfl)<|As (VR _ _) (λY F=>?_)
 obtain rfl:=F
 refine EK rfl rfl rfl (by rw [(nF a)] <;> rfl)<|A1 (.not rfl)<|A1 (.pkF rfl (by rw [(nF a)] <;> rfl) rfl)<|A3 rfl<|B5 rfl rfl rfl (λb=>?_) (λb=>?_)
 have G:=(nF b)
 refine A1 (.fa O8 rfl Mi dD rfl)<|EK rfl rfl rfl (by rw [(nF b)] <;> rfl)<|Ai (Af (OM _) rfl c rfl)<|EK rfl rfl rfl (by rw [(nF b)] <;> rfl)<|A1 (.lenS JQ rfl)<|EK rfl rfl rfl (by rw [(nF b)] <;> rfl)<|A1 (.gtr rfl rfl)<|A1 (.pkF rfl (by rw [(nF b)] <;> rfl) rfl)<|A0<|?_
 exact ⟨Gm (CD rfl (by unfold OK;first | (simp_all;done) | (simp_all <;> (intros;omega)))),rfl⟩
 have G:=(nT b)
 refine EO rfl rfl rfl (by rw [(nT b)] <;> rfl)<|EO rfl rfl rfl (by rw [(nT b)] <;> rfl)<|EO rfl rfl rfl (by rw [(nT b)] <;> rfl)<|A1 (.pkT rfl (by rw [(nT b)] <;> rfl) rfl)<|A0<|?_
 exact ⟨Gm (CD rfl (by unfold OK;first | (simp_all;done) | (simp_all <;> (intros;omega)))),rfl⟩
 have E:=(nT a)
 refine EO rfl rfl rfl (by rw [(nT a)] <;> rfl)<|EO rfl rfl rfl (by rw [(nT a)] <;> rfl)<|EO rfl rfl rfl (by rw [(nT a)] <;> rfl)<|A1 (.pkT rfl (by rw [(nT a)] <;> rfl) rfl)<|A3 rfl<|Ac rfl<|Ac rfl<|Ac rfl<|Ac rfl<|A1 (.pkT rfl rfl rfl)<|A0<|?_
 exact ⟨Gm (CD rfl (by unfold OK;first | (simp_all;done) | (simp_all <;> (intros;omega)))),rfl⟩
 refine Ae rfl (λP=>?_) (λP=>?_)
 refine A5<|Ab rfl<|AI ?_
 first
 | exact ⟨Bw (by rw [Rz aS]),g⟩
 | exact ⟨Bw (by rw [NH k (by simpa using (show (!E8 _)=true by assumption))]),g⟩
 | exact ⟨Bw (by rw [Pq hq λj hj=>d j hj oO]),g⟩
 have hq:OK x=false:=by assumption
 refine Ap<|Aj<|A5<|Ab rfl<|AU<|Cf (α:=Nat) (λt=>[(1,ptV C),(3,Ah (t:Int))]) (λt w'=>AD w w'/\Be w' C (HK x).toArray 47/\t<=x.fItems.length/\∀ j (hj:j<x.fItems.length),j<t->E8 x.fItems[j]=true) (λt=>x.fItems.length-t) (0) ⟨rfl,rfl,tT⟩ (⟨g,c,G8 _,λj _ h=>D6 h oO⟩) (λt w1 hR=>?_)
 obtain ⟨i,rfl⟩:=eX t
 obtain ⟨hT,l,hi,d⟩:=hR
 have s:=(hx.below hT).row_fItems
 have V:=hx.sl_fItems.len
 refine Aj<|A5<|A3 rfl<|A1 (.fa O8 rfl Mi dD rfl)<|Ai (Af (OM _) rfl l rfl)<|A1 (.lenS JQ rfl)<|A1 (.lss rfl rfl)<|A0<|Ae rfl (λy=>?_) (λy=>?_)
 have H:=dT y
 have k:i<x.fItems.length:=by omega
 refine Ap<|Aj<|AU<|A5<|A1 (.fa O8 rfl Mi dD rfl)<|Ai (Af (OM _) rfl l rfl)<|A3 rfl<|A1 (.ixm JQ Uy rfl rfl (s.isp oO) (i) (rfl) oO)<|Ai (Dy Db rfl OI s (i) oO rfl)<|As (SM _ _ ((hx.below hT).all_fItems _ (AM k))) (λw9 u=>?_)
 have A:=l.bl u
 have f:=DN hT u
 refine A1 (.not rfl)<|A0<|Ae rfl (λm=>?_) (λm=>?_)
 have B:=(nT m)
 refine A5<|Ab rfl<|AI ?_
 first
 | exact ⟨Bw (by rw [Rz aS]),f⟩
 | exact ⟨Bw (by rw [NH k (by simpa using (show (!E8 _)=true by assumption))]),f⟩
 | exact ⟨Bw (by rw [Pq hq λj hj=>d j hj oO]),f⟩
 have B:=(nF m)
 refine Ap<|Ak<|A3 rfl<|A1 (.iis (((i+1:Nat):Int)) (.add rfl rfl (Bn oO)) oO)<|Ab rfl ?_
 exact ⟨i+1,⟨rfl,rfl,tT⟩,⟨f,A,oM,λj hj h=>by
  rcases Cp.1 h with Q | rfl;exact d j hj Q
  simp_all⟩,oM⟩
 have H:=dF y
 refine C7<|A5<|Ab rfl<|AI ?_
 first
 | exact ⟨Bw (by rw [Rz aS]),hT⟩
 | exact ⟨Bw (by rw [NH k (by simpa using (show (!E8 _)=true by assumption))]),hT⟩
 | exact ⟨Bw (by rw [Pq hq λj hj=>d j hj oO]),hT⟩
end
section
theorem SN  {l l2:List Cm} (he:l=l2) (ha:Bi EX w p l) (hb:Bi EX w q l2) (hl:l.length<=9223372036854775807) :
  C9 39 #[.slice p l.length c,.slice q l2.length d] w (.bool true) :=
 (Nm p q l l2 c d w ha hb hl).mono λe w' h=>⟨h.1.trans (by rw [show KJ sgB l l2=true from (QU (g:=id) (λa b=>by rw [A2s];rfl) l l2).2 (by rw [he])]),Df.below (Nh _ _) h.2⟩
theorem Rl  {l l2:List Bm} (he:l.map FL=l2.map FL) (ha:Bi G0 w p l) (hb:Bi G0 w q l2) (hal:∀ x∈l,Hs w x) (hbl:∀ x∈l2,Hs w x) (hl:l.length<=9223372036854775807) :
  C9 25 #[.slice p l.length c,.slice q l2.length d] w (.bool true) :=
 (Mj p q l l2 c d w ha hb hal hbl hl).mono λe w' h=>⟨h.1.trans (by rw [ZO.2 he]),Df.below (Nh _ _) h.2⟩
theorem UD {x y:DP} (he:FM x=FM y) (hx:AZ E5 w x.pfDash x.fDash) (hy:AZ E5 w y.pfDash y.fDash) (hl:x.fDash.length<=9223372036854775807) :
  C9 21 #[.agg (Ex x).toArray,.agg (Ex y).toArray] w (.bool true) :=
 (PT x y w hx hy hl).mono fun e w' h => ⟨h.1.trans (by
  have h1:=Bk DP.fWidth he;have h2:=Bk DP.fCap he;have h3:=Bk DP.fJoin he;have h4:=Bk DP.fMiter he;have h5:=Bk DP.fDash he;have h6:=Bk DP.fPhase he
  simp only [FM] at h1 h2 h3 h4 h5 h6
  unfold Hz
  simp [h1,h2,h3,h4,h5,h6]),h.2⟩
theorem eqM {x y:AN} (h:RV.V x=RV.V y) (w:World):(binOp .eql 42 (.agg (RV.V x).toArray) (.agg (RV.V y).toArray)).run Tryz.prog w=.ok (.bool (decide True)) w:=by
 rw [<- h];exact A91 _ _ _ _ _ _ w
theorem UE (x y:AN) (w:World) (hx:HY w x) (hy:HY w y) (he:JA x=JA y) :
  C9 32 #[.agg (F4 x).toArray,.agg (F4 y).toArray] w (.bool true):=by
 have e1:x.fKind=y.fKind:=by have:=Bk AN.fKind he;exact this
 have e2:x.fPath=y.fPath:=by have:=Bk AN.fPath he;exact this
 have e3:x.fColor=y.fColor:=by have:=Bk AN.fColor he;exact this
 have e4:x.fClips.map FL=y.fClips.map FL:=by have:=Bk AN.fClips he;exact this
 have e5:FM x.fPen=FM y.fPen:=by have:=Bk AN.fPen he;exact this
 have e6:x.fFont=y.fFont:=by have:=Bk AN.fFont he;exact this
 have m0:x.fMatrix_0=y.fMatrix_0:=by have:=Bk AN.fMatrix_0 he;exact this
 have m1:x.fMatrix_1=y.fMatrix_1:=by have:=Bk AN.fMatrix_1 he;exact this
 have m2:x.fMatrix_2=y.fMatrix_2:=by have:=Bk AN.fMatrix_2 he;exact this
 have m3:x.fMatrix_3=y.fMatrix_3:=by have:=Bk AN.fMatrix_3 he;exact this
 have m4:x.fMatrix_4=y.fMatrix_4:=by have:=Bk AN.fMatrix_4 he;exact this
 have m5:x.fMatrix_5=y.fMatrix_5:=by have:=Bk AN.fMatrix_5 he;exact this
 have e7:RV.V x=RV.V y:=by show [_,_,_,_,_,_]=[_,_,_,_,_,_];rw [m0,m1,m2,m3,m4,m5]
 have e8:x.fBytes=y.fBytes:=by have:=Bk AN.fBytes he;exact this
 refine Av func32 rfl ntmps32 ?_
 have T:=DR w
 refine A5<|D5 rfl rfl (λb1 a4 U v J a2=>?_)
 have X:=uB T U J
 refine D5 rfl rfl (λb3 a5 H k A a3=>?_)
 have a0:=Bx H v.lt
 have B:=v.un A a0
 have C:=uB X H A
 refine Ab rfl<|A5<|A1 (.fa Db rfl B6 dD rfl)<|Ai (Af (BE _) rfl B rfl)<|A1 (.fa Db rfl B6 dD rfl)<|Ai (Af (BE _) rfl k rfl)<|A1 (.eql rfl rfl)<|A3 rfl<|B5 rfl rfl rfl (λj=>?_) (λj=>?_)
 have a1:=dT j
 refine A1 (.fa Db rfl HE dD rfl)<|Au j<|Ai (Af (JG _) rfl B rfl)<|Au j<|A1 (.fa Db rfl HE dD rfl)<|Au j<|Ai (Af (JG _) rfl k rfl)<|Au j<|As (SN e2 (hx.below C).row_fPath (hy.below C).row_fPath hx.sl_fPath.len) (λw8 D=>?_)
 have E:=B.bl D
 have l:=k.bl D
 have c:=DN C D
 refine A1 (.pkT rfl j rfl)<|A3 rfl<|B5 rfl rfl rfl (λd=>?_) (λd=>?_)
 refine A1 (.fa Db rfl K7 dD rfl)<|Au d<|Ai (Cx (L:=Gj) H5 rfl F5 E (x.fColor) (rfl) rfl)<|Au d<|A1 (.fa Db rfl K7 dD rfl)<|Au d<|Ai (Cx (L:=Gj) H5 rfl F5 l (y.fColor) (rfl) rfl)<|Au d<|A1 (.eqAgg rfl rfl A7F (A92 _ _ e3))<|A1 (.pkT rfl d rfl)<|A3 rfl<|B5 rfl rfl rfl (λa=>?_) (λa=>?_)
 have K:=dT a
 refine A1 (.fa Db rfl Gg dD rfl)<|Au a<|Ai (Af (JY _) rfl E rfl)<|Au a<|A1 (.fa Db rfl Gg dD rfl)<|Au a<|Ai (Af (JY _) rfl l rfl)<|Au a<|As (Rl e4 (hx.below c).row_fClips (hy.below c).row_fClips (hx.below c).all_fClips (hy.below c).all_fClips hx.sl_fClips.len) (λa6 m=>?_)
 have F:=E.bl m
 have G:=l.bl m
 have o:=DN c m
 refine A1 (.pkT rfl a rfl)<|A3 rfl<|B5 rfl rfl rfl (λf=>?_) (λf=>?_)
 refine A1 (.fa Db rfl Nd dD rfl)<|Au f<|Ai (Cx (L:=Wb) D7 rfl Im F (x.fPen) (rfl) rfl)<|Au f<|A1 (.fa Db rfl Nd dD rfl)<|Au f<|Ai (Cx (L:=Wb) D7 rfl Im G (y.fPen) (rfl) rfl)<|Au f<|As (UD e5 (hx.below o).ok_fPen.row_fDash (hy.below o).ok_fPen.row_fDash hx.ok_fPen.sl_fDash.len) (λa7 q=>?_)
 have s:=F.bl q
 have t:=G.bl q
 have u:=DN o q
 refine A1 (.pkT rfl f rfl)<|A3 rfl<|B5 rfl rfl rfl (λg=>?_) (λg=>?_)
 refine A1 (.fa Db rfl B6 dD rfl)<|Au g<|Ai (Af (BE _) rfl s rfl)<|Au g<|A1 (.fa Db rfl B6 dD rfl)<|Au g<|Ai (Af (BE _) rfl t rfl)<|Au g<|A1 (.eql rfl rfl)<|A1 (.pkT rfl g rfl)<|A3 rfl<|B5 rfl rfl rfl (λb=>?_) (λb=>?_)
 have N:=dT b
 refine A1 (.fa Db rfl HD dD rfl)<|Au b<|Ai (Cx (L:=RV) DM rfl CY s (x) (rfl) rfl)<|Au b<|A1 (.fa Db rfl HD dD rfl)<|Au b<|Ai (Cx (L:=RV) DM rfl CY t (y) (rfl) rfl)<|Au b<|A1 (.eqAgg rfl rfl A93 (eqM e7))<|A1 (.pkT rfl b rfl)<|A3 rfl<|B5 rfl rfl rfl (λi=>?_) (λi=>?_)
 refine A1 (.fa Db rfl Gr dD rfl)<|Au i<|Ai (Af (g22_ _) rfl s rfl)<|Au i<|A1 (.fa Db rfl Gr dD rfl)<|Au i<|Ai (Af (g22_ _) rfl t rfl)<|Au i<|As (A0F e8 (hx.below u).row_fBytes (hy.below u).row_fBytes hx.sl_fBytes.len) (λa8 P=>?_)
 have Q:=DN u P
 refine A1 (.pkT rfl i rfl)<|Ab rfl<|AI ?_
 exact ⟨rfl,Q⟩
 exact D6 (show decide True=false by assumption) dD
 have N:=dF b
 exact D6 e6 aS
 exact D6 (show true=false by assumption) dD
 exact D6 (show true=false by assumption) dD
 have K:=dF a
 exact D6 trivial aS
 exact D6 (show true=false by assumption) dD
 have a1:=dF j
 exact D6 e1 aS
theorem SO  {l l2:List AN} (he:l.map JA=l2.map JA) (ha:Bi JW w p l) (hb:Bi JW w q l2) (hal:∀ x∈l,HY w x) (hbl:∀ x∈l2,HY w x) (hl:l.length<=9223372036854775807) :
  C9 13 #[.slice p l.length c,.slice q l2.length d] w (.bool true):=by
 have D:0<l.length->(pA p).block<w.heap.size:=λb=>ha.lt b
 have E:0<l2.length->(pA q).block<w.heap.size:=λb=>hb.lt b
 have P:=A7E he
 refine Av func13 rfl ntmps13 ?_
 have F:=DR w
 refine A5<|Ab rfl<|Aj<|A5<|A3 rfl<|A1 (.lenS JQ rfl)<|A3 rfl<|A1 (.lenS JQ rfl)<|A1 (.neq rfl rfl)<|A0<|Ae rfl (λy=>?_) (λy=>?_)
 have G:=Kj y
 omega
 have G:=Kk y
 refine Ap<|Aj<|A5<|Ab rfl<|AU<|Cf (α:=Nat) (λt=>[(0,.slice p l.length c),(1,.slice q l2.length d),(5,Ah (t:Int))]) (λt w'=>AD w w'/\t<=l.length) (λt=>l.length-t) (0) ⟨rfl,rfl,rfl,tT⟩ (⟨F,G8 _⟩) (λt k hR=>?_)
 obtain ⟨s,rfl⟩:=eX t
 obtain ⟨hT,hs⟩:=hR
 have g:=ha.below hT D
 have hb1:=hb.below hT E
 refine Aj<|A5<|A3 rfl<|A3 rfl<|A1 (.lenS JQ rfl)<|A1 (.lss rfl rfl)<|A0<|Ae rfl (λA=>?_) (λA=>?_)
 have H:=dT A
 have m:s<l.length:=by omega
 have o:s<l2.length:=by omega
 have J:=A90 he m o
 refine Ap<|Aj<|AU<|Aj<|DD 10 rfl Ci (λw'=>AD k w') (λN f=>?_)
 have K:=g.drew f
 have L:=hb1.drew f
 have i:=Df.below hT f
 have a:AD k N:=Df.below (Nh _ _) f
 refine Aa 0 rfl (.mv rfl) a ?_
 refine Aa 1 rfl (.mv rfl) a ?_
 refine Aa 2 rfl (.ixm JQ Uy rfl rfl (K.isp oO) (s) (rfl) oO) a ?_
 refine C8 3 rfl (λw' hw'=>Dy Db rfl OI (g.below hw' (λb=>g.lt b)) (s) oO rfl) a rfl ?_
 refine Aa 4 rfl (.mv rfl) a ?_
 refine Aa 5 rfl (.mv rfl) a ?_
 refine Aa 6 rfl (.ixm JQ Uy rfl rfl (L.isp oO) (s) (rfl) oO) a ?_
 refine C8 7 rfl (λw' hw'=>Dy Db rfl OI (hb1.below hw' (λb=>hb1.lt b)) (s) oO rfl) a rfl ?_
 refine Aq 8 rfl<|As (UE _ _ _ ((hal _ (AM m)).below i) ((hbl _ (AM o)).below i) J) (λQ u=>?_)
 have v:=EU a (Below.mono u a.size)
 have B:=DN i u
 refine A0<|⟨v,?_⟩
 refine Aa 9 rfl (.not rfl) v ?_
 refine Bl kR<|Ae rfl (λj=>?_) (λj=>?_)
 have C:=(nT j)
 simp_all
 have C:=(nF j)
 refine Ap<|Ak<|A3 rfl<|A1 (.iis (((s+1:Nat):Int)) (.add rfl rfl (Bn oO)) oO)<|Ab rfl ?_
 exact ⟨s+1,⟨rfl,rfl,rfl,tT⟩,⟨B,oM⟩,oM⟩
 have H:=dF A
 refine C7<|A5<|Ab rfl<|AI ?_
 exact ⟨rfl,hT⟩
end
section
theorem UF (pg:Kr) (w:World) (hp:LM w pg) (hs:∀ x∈pg.fItems,E8 x=true) (hl:pg.fItems.length<=4096) :
  Calls Tryz.prog 11 #[.agg (HK pg).toArray] w λe w'=>∃ x:(Option Addr × Nat × l8_) × (Option Addr × Nat × List Int) × Int,e=.returned (.tuple #[.slice x.1.1 x.1.2.2.length x.1.2.1,.slice x.2.1.1 x.2.1.2.2.length x.2.1.2.1,Ah x.2.2])/\AD w w' /\
   Ay w' x.1.1 x.1.2.2/\AZ E5 w' x.2.1.1 x.2.1.2.2/\x.1.2.2.length<=x.1.2.1/\x.2.1.2.2.length<=14/\(∀ f∈x.2.1.2.2,0<=f/\f<=13)/\(x.2.2=0->x.1.2.2=FC Hi pg.fItems/\(∀ y∈pg.fItems,y.fKind=4->y.fFont∈x.2.1.2.2)/\(x.1.2.2=[]->x.1.2.1=0\/x.1.1≠none)) :=
 (VW pg w hp hs hl).mono fun e w' h => by
  obtain ⟨h | ⟨pb,cb,pf,cf,F,h1,h2,h3,hn0,h4,h5,h6,h7⟩,hb⟩:=h
  · exact ⟨((none,0,[]),(none,0,[]),25),h,hb,⟨λh=>D6 h (by simp),λj h=>D6 h (by simp)⟩,AZ.none,FQ _,G8 _,λf hf=>(by cases hf),λh=>D6 h dD⟩
  · exact ⟨((pb,cb,_),(pf,cf,F),0),h1,hb,h2,h4,h3,h5,h6,λ_=>⟨rfl,h7,hn0⟩⟩
def OO (F:List Int):List LO:=F.map λf=>⟨70::E9 f,f⟩
theorem A7Q:∀ a b:Fin 14,E9 (a.val:Int)=E9 (b.val:Int)->a=b:=by decide +kernel
theorem YF {f n:Int} (hf:0<=f/\f<=13) (hn:0<=n/\n<=13) (h:E9 f=E9 n):f=n:=by
 have:=A7Q ⟨f.toNat,oO⟩ ⟨n.toNat,oO⟩ (by show E9 ((f.toNat:Nat):Int)=E9 ((n.toNat:Nat):Int);rw [Int.toNat_of_nonneg hf.1,Int.toNat_of_nonneg hn.1];exact h)
 have:=Bk Fin.val this
 simp only at this
 omega
theorem WJ:∀ {F:List Int} {n:Int},(∀ f∈F,0<=f/\f<=13)->n∈F->MH (OO F) n
 | [],_,_,h=>by cases h
 | f::r,n,hF,h=>by
  by_cases he:f=n
  · exact ⟨⟨70::E9 f,f⟩,by unfold OO;rw [C3,List.find?_cons_of_pos (by simp [he])],he⟩
  ·
   obtain ⟨g,h1,h2⟩:=WJ (F:=r) (n:=n) (λx hx=>hF x (List.mem_cons_of_mem _ hx)) ((Ax.1 h).resolve_left λe=>he e.symm)
   refine ⟨g,?_,h2⟩
   unfold OO at h1 ⊢
   rw [C3,List.find?_cons_of_neg]
   · exact h1
   ·
    intro hq
    have hq:=dT hq
    exact he (YF (hF f (List.mem_cons_self ..)) (hF n h) (List.cons.inj hq).2)
theorem A5X {F:List Int} (h:∀ f∈F,0<=f/\f<=13):∀ f∈OO F,0<=f.font/\f.font<=13:=λf hf=>by
 obtain ⟨g,hg,rfl⟩:=FR.1 hf
 exact h g hg
end
section
theorem Vq (p:Option Addr) (l:l8_) (c:Nat) (pf:Option Addr) (F:List Int) (cf:Nat) (xs:List AN) (dx dy:Int) (w:World) (he:l=cmT dx dy++FC Hi xs) (hb:Ay w p l) (hc:l.length<=c) (hl:l.length<=100000000) (hf:Cn ftL (λk=>k<w.heap.size) w pf (OO F) cf) (hff:∀ f∈F,0<=f/\f<=13)
  (hx:∀ x∈xs,E8 x=true) (hn:xs.length<=4096) (hxf:∀ y∈xs,y.fKind=4->y.fFont∈F) (hdx:Am dx=true) (hdy:Am dy=true) :
  Calls Tryz.prog 8 #[.slice p l.length c,.slice pf (OO F).length cf] w λe w'=>∃ x:Option Addr × Nat × List AN × Int,e=.returned (.tuple #[.slice x.1 x.2.2.1.length x.2.1,Ah x.2.2.2])/\AD w w'/\Bi JW w' x.1 x.2.2.1/\x.2.2.1.length<=9223372036854775807 /\
   (xs.all (Q3 dx dy)=true->x.2.2.2=0/\x.2.2.1.map JA=xs.map (SG dx dy)/\∀ y∈x.2.2.1,HY w' y)/\(xs.all (Q3 dx dy)=false->x.2.2.2≠0) :=
 Calls.mono (R2 p l c pf (OO F) cf w hb hc hl hf (A5X hff)) λe w' q=>by
  obtain ⟨q1,q2⟩:=q
  obtain ⟨h1,h2⟩:=A13 (sum:=λf b=>Gd f 0 b) (fs:=OO F) (l:=l) hdx hdy hx (λx h h4=>WJ hff (hxf x h h4)) hn he
  cases ho:xs.all (Q3 dx dy) with
  | true =>
   obtain ⟨V,hr,hV⟩:=h1 ho
   rw [hr] at q1
   obtain ⟨pi,ci,its,e1,e2,e3,e4⟩:=q1
   refine ⟨(pi,ci,its,0),e1,q2,e2.row,e2.sl.len,λ_=>⟨rfl,e4.trans hV,λy hy=>A3p (e3 y hy) ?_⟩,λh=>D6 h dD⟩
   have hm:JA y∈xs.map (SG dx dy):=by rw [<- hV,<- e4];exact List.mem_map_of_mem hy
   obtain ⟨x,a,d⟩:=FR.1 hm
   rw [<- Zu,<- d]
   exact Ww (hx x a) (At.1 ho x a)
  | false =>
   obtain ⟨k,hk,hr⟩:=h2 ho
   rw [hr] at q1
   exact ⟨(none,0,[],k),q1,q2,Bi.nil _,G8 _,λh=>D6 h dD,λ_=>hk⟩
structure Xo (L:Nat->Prop) (pp:Option Addr) (P:List Cm) (cp:Nat) (cs:List Bm) (w:World):Prop where
 path:Cn EX L w pp P cp
 clips:∀ y∈cs,Lh L w y
 lt:∀ k,L k->k<w.heap.size
theorem A9j  {k:Nat} (h:k<w.heap.size) (e:w1.heap[k]?=w.heap[k]?):k<w1.heap.size:=by
 rcases BL k w1.heap.size with a | a
 · exact a
 · rw [CL a,Fd h] at e;cases e
theorem Cn.at  {Ly:Fq α} {L:Nat->Prop} {l:List α} (h:Cn Ly L w p l c) (hb:∀ k,L k->w1.heap[k]?=w.heap[k]?):Cn Ly L w1 p l c:=⟨h.row.same λh0=>hb _ (h.inn h0),h.sl,h.inn⟩
theorem Cn.wide  {Ly:Fq α} {L L1:Nat->Prop} {l:List α} (h:Cn Ly L w p l c) (hb:∀ k,L k->L1 k):Cn Ly L1 w p l c:=⟨h.row,h.sl,λh0=>hb _ (h.inn h0)⟩
theorem Xo.same {L:Nat->Prop} {P:List Cm} {cs:List Bm} (h:Xo L pp P cp cs w) (hb:∀ k,L k->k<w.heap.size->w1.heap[k]?=w.heap[k]?):Xo L pp P cp cs w1 :=
 ⟨h.path.at λk hk=>hb k hk (h.lt k hk),λy hy=>(h.clips y hy).at λk hk=>hb k hk (h.lt k hk),λk hk=>A9j (h.lt k hk) (hb k hk (h.lt k hk))⟩
theorem Xo.add {L:Nat->Prop} {P:List Cm} {cs:List Bm} (h:Xo L pp P cp cs w) {L1:Nat->Prop} {c:Bm} (hc:Lh L1 w c) (hl:∀ k,L1 k->k<w.heap.size):Xo (λk=>L k\/L1 k) pp P cp (cs++[c]) w :=
 ⟨h.path.wide λ_=>.inl,λy hy=>by
  rcases B4.1 hy with h1 | h1
  · exact (h.clips y h1).wide λ_=>.inl
  · rw [Ao.1 h1];exact hc.wide λ_=>.inr,λk hk=>hk.elim (h.lt k) (hl k)⟩
structure ItG (L:Nat->Prop) (pp:Option Addr) (P:List Cm) (cp:Nat) (pc:Option Addr) (cs:List Bm) (cc:Nat) (w:World):Prop where
 f:Xo L pp P cp cs w
 row:Cn G0 L w pc cs cc
theorem ItG.same {L:Nat->Prop} {P:List Cm} {cs:List Bm} (h:ItG L pp P cp pc cs cc w) (hb:∀ k,L k->k<w.heap.size->w1.heap[k]?=w.heap[k]?):ItG L pp P cp pc cs cc w1 :=
 ⟨h.f.same hb,h.row.at λk hk=>hb k hk (h.f.lt k hk)⟩
def ZW (v:Value) (w:World) (g:Nat):Prop:=g<w.heap.size/\v.ownBlock≠some g
structure Vi (B:Nat) (v:Value) (its:List AN) (w:World):Prop where
 own:AJ JW 44 B w v its
 all:∀ y∈its,Lg (ZW v w) w y
theorem Vi.nil (B:Nat) (w:World):Vi B (.slice none 0 0) [] w:=⟨AJ.nil _ _ _ _,λy hy=>(by cases hy)⟩
theorem QV  {its:List AN} (h:Jh N (Vi B v its) w):Vi B v its w:=by
 have hs:=h.size
 obtain ⟨c,rfl,a,b⟩:=h
 exact ⟨a.own.same λg hg=>b g (a.own.lt g hg).2,λy hy=>(a.all y hy).mv ⟨hs,λg hg=>⟨b g hg.1,C6 hg.1 hs,hg.2⟩⟩⟩
theorem Vi.add  {its:List AN} {y:AN} (h:Vi B v its w) (ho:AJ JW 44 B w1 v1 (its++[y])) (hg:w.grownBy w1 v.ownBlock) (hs:w.heap.size<=w1.heap.size) (hf:∀ g,v1.ownBlock=some g->v.ownBlock=some g\/w.heap.size<=g) (hy:Lg (ZW v w) w y):Vi B v1 (its++[y]) w1:=by
 have hm:Mv (ZW v w) (ZW v1 w1) w w1:=⟨hs,λg hz=>⟨hg.block g hz.1 (λe=>hz.2 e.symm),C6 hz.1 hs,λe=>(hf g e).elim hz.2 λh=>D6 hz.1 oO⟩⟩
 refine ⟨ho,λx hx=>?_⟩
 rcases B4.1 hx with a | a
 · exact (h.all x a).mv hm
 · rw [Ao.1 a];exact hy.mv hm
theorem A1F {xs:List AN} {f:AN->Bool} (h:i<xs.length):(xs.take (i+1)).all f=((xs.take i).all f && f xs[i]):=by
 rw [List.take_add_one,A6 h,Option.toList_some,List.all_append];simp
theorem TU  {xs:List α} {f:α->β} (h:i<xs.length):(xs.take (i+1)).map f=(xs.take i).map f++[f xs[i]]:=by
 rw [List.take_add_one,A6 h,Option.toList_some,Bp];rfl
theorem A32  {l:List Bm} (h:i<l.length):(l.take (i+1)).all (Q4 dx dy)=((l.take i).all (Q4 dx dy) && Q4 dx dy l[i]):=by
 rw [List.take_add_one,A6 h,Option.toList_some,List.all_append];simp
theorem A1K  {Ly:Fq α} {l:List α} (h:Jh N (λw=>Cn Ly (λk=>k<w.heap.size) w p l c) w):Cn Ly (λk=>k<w.heap.size) w p l c:=by
 have hs:=h.size
 obtain ⟨d,rfl,a,b⟩:=h
 exact a.mv ⟨hs,λg hg=>⟨b g hg,C6 hg hs⟩⟩
theorem A7a  {Ly:Fq α} {l:List α} (h:AJ Ly e B w v l):∃ (L1:Nat->Prop) (p:Option Addr) (c:Nat),v=.slice p l.length c/\Cn Ly L1 w p l c/\∀ k,L1 k->B<=k/\k<w.heap.size:=by
 obtain ⟨p,c,e,hr⟩:=Cn.own (Z:=λk=>v.ownBlock=some k) h (λg hg=>hg)
 exact ⟨_,p,c,e,hr,λk hk=>h.lt k hk⟩
theorem Ys {x:AN} (h:E8 x=true):x.fPath.length<=4096/\DE 0 x.fPath=true:=by
 have hk:=S5 h
 by_cases h4:x.fKind=4
 · rw [(hk.txt h4).path];exact ⟨G8 _,rfl⟩
 · exact ⟨(hk.pnt h4).len,(hk.pnt h4).segs⟩
theorem YJ {x:AN} (h:E8 x=true) {c:Bm} (hc:c∈x.fClips):c.fPath.length<=4096/\DE 0 c.fPath=true:=by
 have:=(S5 h).clips c hc
 unfold Fo EZ at this
 rw [A4,A4] at this
 exact ⟨dT this.2.1,this.2.2⟩
def RQ (dx dy:Int) (x:AN) (pp:Option Addr) (cp:Nat) (pc:Option Addr) (cs:List Bm) (cc:Nat) (m4 m5:Int):AN :=
 ⟨x.fKind,pp,x.fPath.map (Np dx dy),cp,x.fColor,pc,cs,cc,x.fPen,x.fFont,x.fMatrix_0,x.fMatrix_1,x.fMatrix_2,x.fMatrix_3,m4,m5,x.pfBytes,x.fBytes,x.cfBytes⟩
theorem A3q  {x:AN} {cs:List Bm} {m4 m5:Int} (hc:cs.map FL=x.fClips.map (Q5 dx dy)) (h4:m4=if x.fKind=4 then x.fMatrix_4+dx else x.fMatrix_4) (h5:m5=if x.fKind=4 then x.fMatrix_5+dy else x.fMatrix_5):JA (RQ dx dy x pp cp pc cs cc m4 m5)=SG dx dy x:=by
 subst h4 h5
 unfold JA RQ SG
 rw [hc]
theorem A3o  {x:AN} {L:Nat->Prop} {cs:List Bm} {m4 m5:Int} {wy:World} (hG:ItG L pp (x.fPath.map (Np dx dy)) cp pc cs cc w) (hL:∀ k,L k->N<=k) (hv:∀ g,v.ownBlock=some g->wy.heap.size<=g/\g<N) (hx:HY wy x) (hb:AD wy w):Lg (ZW v w) w (RQ dx dy x pp cp pc cs cc m4 m5):=by
 have b:∀ k,L k->ZW v w k:=λk hk=>⟨hG.f.lt k hk,λe=>by have:=(hv k e).2;have:=hL k hk;omega⟩
 have d:∀ k,k<wy.heap.size->ZW v w k:=λk hk=>⟨C6 hk hb.size,λe=>by have:=(hv k e).1;omega⟩
 have a:=hx.below hb
 exact ⟨hG.f.path.wide b,hG.row.wide b,λy hy=>(hG.f.clips y hy).wide b,⟨a.ok_fPen.row_fDash.toI,hx.ok_fPen.sl_fDash,λc=>d _ (hx.ok_fPen.row_fDash.lt c)⟩,⟨a.row_fBytes,hx.sl_fBytes,λc=>d _ (hx.row_fBytes.lt c)⟩⟩
theorem A8K  {x:AN} {b:Bool} (h:x.fKind=4) (hb:b=(x.fPath.all (Pr dx dy) && x.fClips.all (Q4 dx dy))):Q3 dx dy x=(b && (Am (x.fMatrix_4+dx) && Am (x.fMatrix_5+dy))):=by
 unfold Q3
 rw [Al h,<- hb];rfl
theorem A8J  {x:AN} {b:Bool} (h:¬ x.fKind=4) (hb:b=(x.fPath.all (Pr dx dy) && x.fClips.all (Q4 dx dy))):Q3 dx dy x=b:=by
 unfold Q3
 rw [An h,<- hb,Bool.not_false,Bool.true_or,Bool.and_true]
theorem A8n  {xs ws:List AN} (hx:∀ x∈xs,E8 x=true) (ho:xs.all (Q3 dx dy)=true) (he:ws.map JA=xs.map (SG dx dy)):∀ y∈ws,E8 y=true:=λy hy=>by
 have hm:JA y∈xs.map (SG dx dy):=by rw [<- he];exact List.mem_map_of_mem hy
 obtain ⟨x,a,b⟩:=FR.1 hm
 rw [<- Zu,<- b]
 exact Ww (hx x a) (At.1 ho x a)
end
section
theorem S2 (pg:Kr) (dx dy:Int) (w:World) (hp:LM w pg) (hdx:-128<=dx/\dx<=127) (hdy:-128<=dy/\dy<=127) :
  C9 5 #[.agg (HK pg).toArray,.int .i8 dx,.int .i8 dy] w (.bool true):=by
 have hm:0<pg.fItems.length->(pA pg.pfItems).block<w.heap.size:=λa=>hp.row_fItems.lt a
 have er:Am (dx * 65536)=true:=A3H oO oO
 have es:Am (dy * 65536)=true:=A3H oO oO
 have et:(cmT (dx * 65536) (dy * 65536)).length<=100:=by
  have fR:=EA dx oO oO;have fS:=EA dy oO oO;rw [A42];simp only [A9,A8,Ag];omega
 have bE:=(A42 dx dy).symm
 obtain ⟨X,hX⟩:=eX (dx * 65536)
 obtain ⟨Y,hY⟩:=eX (dy * 65536)
 rw [<- hX] at er et bE
 rw [<- hY] at es et bE
 have fR:=EA dx oO oO
 have fS:=EA dy oO oO
 refine Av func5 rfl ntmps5 ?_
 have eu:=DR w
 refine A5<|D5 rfl rfl (λb1 hn ew eN eO gZ=>?_)
 have fT:=uB eu ew eO
 have gL:=DW ew eu.size
 refine Ab rfl<|Aj<|A5<|As (KH _) (λw3 ex=>?_)
 have s:=eN.bl ex
 have bG:=DN fT ex
 refine A1 (.not rfl)<|A3 rfl<|Au rfl<|A1 (.fa O8 rfl Mi dD rfl)<|Au rfl<|Ai (Af (OM _) rfl s rfl)<|Au rfl<|A1 (.lenS JQ rfl)<|Au rfl<|A1 (.gtr rfl rfl)<|A1 (.pkF rfl rfl rfl)<|A3 rfl<|B5 rfl rfl rfl (λg6=>?_) (λg6=>?_)
 have fU:=dF g6
 refine Ai (BD rfl s O8 rfl A6J)<|Au g6<|As (SL pg _ (hp.below bG)) (λw7 ey=>?_)
 have ez:=s.bl ey
 have bH:=DN bG ey
 refine Au g6<|A1 (.not rfl)<|A1 (.pkF rfl g6 rfl)<|A0<|Ae rfl (λbI=>?_) (λbI=>?_)
 have eP:=(nT bI)
 refine A5<|As (KH _) (λho eQ=>?_)
 have eR:=DN bH eQ
 refine Ab rfl<|AI ?_
 exact ⟨rfl,eR⟩
 have eP:=(nF bI)
 have hq:Ot pg=true:=by simp_all
 have g':pg.fItems.length<=30:=by omega
 have bb:∀ x∈pg.fItems,E8 x=true:=by
  have bJ:=hq;unfold Ot at bJ;simp only [A4] at bJ;exact At.1 bJ.2
 refine Ap<|A5<|Ai (BD rfl ez O8 rfl A6J)<|DO BQ rfl rfl ((UF pg _ (hp.below bH) bb oO)) (λx fV b2=>?_)
 have bK:=ez.bl b2.1
 have b3:=DN bH b2.1
 obtain ⟨⟨pb,cb,lb⟩,⟨pf,cf,F⟩,k⟩:=x
 obtain ⟨bL,bM,fW,fX,aA,eA⟩:=b2.2
 simp only at bL bM fW fX aA eA
 refine A3 rfl<|A1 (.ext rfl rfl)<|A1 (.ext rfl rfl)<|A1 (.ext rfl rfl)<|DA rfl<|DA rfl<|Ab rfl<|Aj<|Fx 48 (decide (k≠0\/50000<lb.length)) ?_ ?_
 refine Ak<|A3 rfl<|A1 (.neq rfl rfl)<|A3 rfl<|B5 rfl rfl rfl (λa7=>?_) (λa7=>?_)
 have eS:=Kk a7
 refine A3 rfl<|Au a7<|A1 (.lenS BI rfl)<|Au a7<|A1 (.gtr rfl rfl)<|A1 (.pkF rfl a7 rfl)<|A0<|?_
 exact ⟨Gm (CD rfl (by (simp_all <;> omega))),rfl⟩
 have eS:=Kj a7
 refine Ac a7<|Ac a7<|A1 (.pkT rfl a7 rfl)<|A0<|?_
 exact ⟨Gm (CD rfl (by (simp_all;done))),rfl⟩
 refine Ae rfl (λbN=>?_) (λbN=>?_)
 have eT:=dT bN
 refine A5<|Ab rfl<|AI ?_
 exact ⟨rfl,b3⟩
 have eT:=dF bN
 have hr:¬ (k≠0\/50000<lb.length):=by assumption
 obtain ⟨hb0,fY,fZ⟩:=eA oO
 refine Ap<|Aj ?_
 obtain ⟨wz,f'⟩:=eX fV
 subst f'
 have g0:0<lb.length->(pA pb).block<wz.heap.size:=λa=>(bL).lt a
 have g1:0<F.length->(pA pf).block<wz.heap.size:=λa=>(bM).lt a
 have hs:=b3.size
 have h1:=bK.lt
 refine Ak<|Ab rfl<|Aj<|A5<|Ab rfl<|AU<|Cf (α:=Nat × Value) (λt=>[(1,.int .i8 dx),(2,.int .i8 dy),(3,ptV b1),(7,.slice pb lb.length cb),(8,.slice pf F.length cf),(10,t.2),(11,Ah (t.1:Int))]) (λt w'=>AD w w'/\Be w' b1 (HK pg).toArray 47/\Ay w' pb lb/\AZ E5 w' pf F/\AJ ftL 53 wz.heap.size w' t.2 (OO (F.take t.1))/\t.1<=F.length/\wz.heap.size<=w'.heap.size) (λt=>F.length-t.1) ((0,.slice none 0 0)) ⟨rfl,rfl,rfl,rfl,rfl,rfl,rfl,tT⟩ (⟨b3,bK,bL,bM,AJ.nil _ _ _ _,G8 _,FQ _⟩) (λt w1 hR=>?_)
 obtain ⟨⟨i,v6⟩,am⟩:=eX t
 subst am
 obtain ⟨q1,K,q3,q4,q5,q6,eU⟩:=hR
 simp only at q5 q6
 show W Tryz.prog _ _ _ [(1,.int .i8 dx),(2,.int .i8 dy),(3,ptV b1),(7,.slice pb lb.length cb),(8,.slice pf F.length cf),(10,v6),(11,Ah (i:Int))] w1
 refine Aj<|A5<|A3 rfl<|A3 rfl<|A1 (.lenS Dm rfl)<|A1 (.lss rfl rfl)<|A0<|Ae rfl (λbO=>?_) (λbO=>?_)
 have eV:=dT bO
 have an:i<F.length:=by omega
 have ht:=EA F[i] (by have:=aA F[i] (AM an);omega) (by have:=aA F[i] (AM an);omega)
 refine Ap<|Aj<|AU<|DD 15 rfl Ci (λw'=>w'.heap[b1]?=w1.heap[b1]?/\AZ E5 w' pf F/\Ay w' pb lb/\True) (λhu af=>?_)
 have cL:=Df.le eU af
 have eW:=AJ.drew q5 af
 have D:=K.drew af
 have u:=q3.drew af
 have b:=q4.drew af
 have eY:=Df.below q1 af
 refine Aa 0 rfl (.mv rfl) ⟨(D).trans (K).symm,b,u,tT⟩ ?_
 refine Aa 1 rfl (.mv rfl) ⟨(D).trans (K).symm,b,u,tT⟩ ?_
 refine Aa 2 rfl (.mv rfl) ⟨(D).trans (K).symm,b,u,tT⟩ ?_
 refine Aa 3 rfl (.ixb Dm B6 rfl rfl (b.isp oO) (i) (rfl) oO) ⟨(D).trans (K).symm,b,u,tT⟩ ?_
 refine C8 4 rfl (λw' hw'=>AS (BE _) rfl ((hw'.2.1).cells (i) oO)) ⟨(D).trans (K).symm,b,u,tT⟩ rfl ?_
 refine Aa 7 rfl (.mv rfl) ⟨(D).trans (K).symm,b,u,tT⟩ ?_
 refine Aa 8 rfl (.mv rfl) ⟨(D).trans (K).symm,b,u,tT⟩ ?_
 refine Aa 9 rfl (.ixb Dm B6 rfl rfl (b.isp oO) (i) (rfl) oO) ⟨(D).trans (K).symm,b,u,tT⟩ ?_
 refine C8 10 rfl (λw' hw'=>AS (BE _) rfl ((hw'.2.1).cells (i) oO)) ⟨(D).trans (K).symm,b,u,tT⟩ rfl ?_
 refine Aq 5 rfl<|As (Ib F[i] _ (by have:=aA F[i] (AM an);omega) (by have:=aA F[i] (AM an);omega)) (λhv ag=>?_)
 have cM:=BA cL ag.size
 have eZ:=AJ.below eW ag
 have ao:=D.bl ag
 have ap:=Hk u ag (λa=>u.lt a)
 have aq:=AZ.below b ag (λa=>b.lt a)
 have bP:=DN eY ag
 refine A0<|⟨⟨(ao).trans (K).symm,aq,ap,tT⟩,?_⟩
 refine Aa 6 rfl (.cat rfl rfl oE) ⟨(ao).trans (K).symm,aq,ap,tT⟩ ?_
 refine Aa 11 rfl (.build rfl (A9g (70::E9 F[i]) F[i])) ⟨(ao).trans (K).symm,aq,ap,tT⟩ ?_
 refine Aq 12 rfl<|Cw (L:=ftL) (ps:=_) ([(⟨70::E9 F[i],F[i]⟩:LO)]) A1Z sizeOf53 zeroValue53 rfl rfl rfl rfl rfl (by rfl) rfl rfl (λg2 e' ah cN a3 gM=>?_)
 have bc:=BA cM a3.size
 have f0:=GK eZ ah a3
 have f1:=Bx ah ao.lt
 have bQ:=ao.un a3 f1
 have cO:=λa=>ah▸ap.lt a
 have bR:=DQ ap a3 cO
 have cP:=λa=>ah▸aq.lt a
 have bS:=AZ.upd aq a3 (λa=>IU (cP a))
 have f2:=uB bP ah a3
 have g3:=DW ah bP.size
 have g4:g2<=e'.heap.size:=by omega
 refine A0<|⟨⟨(bQ).trans (K).symm,bS,bR,tT⟩,?_⟩
 refine Aq 13 rfl<|CV A1Z A8S rfl rfl rfl f0 rfl (cN).rowp (by simp only [OO,A8,Ag,B0,AT];omega) (bc) rfl (λh=>D6 h (PA _ _)) (λhx hz cQ a8 gN gO=>?_)
 have b4:=bQ.below a8 oO
 have b5:=Hk bR a8 g0
 have b6:=AZ.below bS a8 g1
 have f3:=EU f2 (a8.mono oO)
 have cR:=BA bc a8.size
 refine A0<|⟨⟨(b4).trans (K).symm,b6,b5,tT⟩,?_⟩
 refine Aa 14 rfl (.as rfl) ⟨(b4).trans (K).symm,b6,b5,tT⟩ ?_
 refine Bl kR<|Ak<|A3 rfl<|A1 (.iis (((i+1:Nat):Int)) (.add rfl rfl (Bn oO)) oO)<|Ab rfl ?_
 have e9:OO (F.take i)++[(⟨70::E9 F[i],F[i]⟩:LO)]=OO (F.take (i+1)):=by unfold OO;rw [Bd an,Bp];rfl
 have h8:=cQ
 rw [e9] at h8
 exact ⟨(i+1,_),⟨rfl,rfl,rfl,rfl,rfl,rfl,rfl,tT⟩,⟨f3,b4,b5,b6,h8,oM,cR⟩,oM⟩
 have eV:=dF bO
 have an:i=F.length:=by omega
 refine C7<|Aj ?_
 obtain ⟨p6,c6,eB,eC⟩:=Cn.own (Z:=λk=>k<w1.heap.size) q5 (λg hg=>(q5.lt g hg).2)
 rw [an,Ca] at eB eC
 subst eB
 have f4:=Jh.of (Q:=λw=>Cn ftL (λk=>k<w.heap.size) w p6 (OO F) c6) eC
 refine Ak<|A3 rfl<|A1 (.iis (dx) (.cvt Vs JL rfl (Bn oO)) oO)<|A1 (.iis (X) (.mul rfl rfl (Bn oO)) oO)<|A3 rfl<|A1 (.iis (dy) (.cvt Vs JL rfl (Bn oO)) oO)<|A1 (.iis (Y) (.mul rfl rfl (Bn oO)) oO)<|?_
 refine A1 (.buildL (ps:=_) LY rfl rfl rfl pS) ?_
 refine C1 LZ rfl (λa9 f5 aE cS ai gP=>?_)
 have f6:=FP (w1:=f5) f4 (λk hk hl=>ai.other k oO)
 have f7:=Bx aE K.lt
 have f8:=K.un ai f7
 have bd:=λa=>aE▸q3.lt a
 have f9:=Ay.upd q3 ai (λa=>IU (bd a))
 have fb:=uB q1 aE ai
 have g5:=DW aE q1.size
 refine AH rfl rfl cS Cb rfl rfl (λg7 cT aj gQ=>?_)
 have fc:=FP (w1:=g7) f6 (λk hk hl=>aj.other k oM)
 have fd:=f8.up aj
 have bT:=DQ f9 aj bd
 have fe:=CP fb oO aj
 refine A0<|A5<|A3 rfl<|A1 (.iis (dx) (.cvt Vs JL rfl (Bn oO)) oO)<|As (Ib dx _ oO oO) (λg8 ar=>?_)
 have ff:=FP (w1:=g8) fc (λk hk hl=>ar.block k hl)
 have fg:=fd.bl ar
 have fh:=cT.bl ar
 have bU:=Hk bT ar (λa=>bT.lt a)
 have fi:=DN fe ar
 refine A1 (.cat rfl rfl oF)<|A1 (.cat rfl rfl oF)<|A3 rfl<|A1 (.iis (dy) (.cvt Vs JL rfl (Bn oO)) oO)<|As (Ib dy _ oO oO) (λg9 au=>?_)
 have bV:=FP (w1:=g9) ff (λk hk hl=>au.block k hl)
 have bW:=fg.bl au
 have bX:=fh.bl au
 have bY:=Hk bU au (λa=>bU.lt a)
 have bZ:=DN fi au
 refine A1 (.cat rfl rfl oF)<|A1 (.sis (cmT X Y) (.cat rfl rfl oF) (by exact bE))<|?_
 have hA:=Jh.size bV
 refine A85 JK BI Ln rfl rfl (λga b' h2 av fj aa gR=>?_)
 have fk:=FP (w1:=b') bV (λk hk hl=>aa.other k oO)
 have fl:=Bx av bW.lt
 have fm:=bW.un aa fl
 have fn:=Bx av bX.lt
 have fo:=bX.un aa fn
 have cU:=λa=>av▸bY.lt a
 have fp:=DQ bY aa cU
 have fq:=uB bZ av aa
 have c0:=DW av bZ.size
 have c2:ga<=b'.heap.size:=by omega
 refine A3 rfl<|A6n BI GB rfl rfl rfl fj rfl fp oO c2 rfl (fZ) (λh3 h4 hB fr cV gS ak=>?_)
 have fs:=fm.below ak oO
 have ft:=fo.below ak oO
 have fu:=FP fk (λk hk hl=>ak.block k oO)
 have fv:=EU fq (ak.mono (c0))
 refine A3 rfl<|DO BQ rfl rfl ((Vq _ (cmT X Y++lb) _ p6 F c6 pg.fItems X Y _ (by rw [hb0]) fr cV (by rw [A9];omega) (A1K fu) aA bb oO fY er es)) (λx gb aF=>?_)
 have be:=fs.bl aF.1
 have bf:=ft.bl aF.1
 have cW:=DN fv aF.1
 obtain ⟨xp,xc,its,kk⟩:=x
 obtain ⟨c3,eD,eF,eG⟩:=aF.2
 simp only at c3 eD eF eG
 refine A3 rfl<|A1 (.ext rfl rfl)<|A1 (.ext rfl rfl)<|DA rfl<|Ab rfl<|Aj ?_
 obtain ⟨wy,gc⟩:=eX gb
 subst gc
 have aG:=cW
 have fw:=Nh wy.heap.size wy
 have c4:=hp.below aG
 have c5:=aG.size
 have fx:0<pg.fItems.length->(pA pg.pfItems).block<wy.heap.size:=λa=>c4.row_fItems.lt a
 have fy:=Jh.of (Q:=Vi wy.heap.size (.slice none 0 0) []) (Vi.nil wy.heap.size wy)
 have h5:=be.lt
 have gT:=bf.lt
 refine Ak<|Ab rfl<|Aj<|A5<|Ab rfl<|AU<|Cf (α:=Nat × Value × List AN) (λt=>[(3,ptV b1),(12,ptV a9),(13,.slice xp its.length xc),(14,Ah kk),(15,t.2.1),(16,Ah (t.1:Int))]) (λt w'=>AD wy w'/\Be w' b1 (HK pg).toArray 47/\Be w' a9 (D4 ⟨X,Y⟩).toArray 57/\Jh w'.heap.size (Vi wy.heap.size t.2.1 t.2.2) w'/\t.1<=pg.fItems.length/\t.2.2.map JA=(pg.fItems.take t.1).map (SG X Y)/\(pg.fItems.take t.1).all (Q3 X Y)=true) (λt=>pg.fItems.length-t.1) ((0,.slice none 0 0,[])) ⟨rfl,rfl,rfl,rfl,rfl,rfl,tT⟩ (⟨fw,be,bf,fy,G8 _,rfl,rfl⟩) (λt w1 hR=>?_)
 obtain ⟨⟨i,aw,ws⟩,am⟩:=eX t
 subst am
 obtain ⟨r1,r2,r3,r4,r5,r6,r7⟩:=hR
 simp only at r4 r5 r6 r7
 show W Tryz.prog _ _ _ [(3,ptV b1),(12,ptV a9),(13,.slice xp its.length xc),(14,Ah kk),(15,aw),(16,Ah (i:Int))] w1
 obtain ⟨wi,ge⟩:=eX w1
 subst ge
 have eH:=c4.row_fItems.below r1 fx
 have c7:=(QV r4).own.lt
 refine Aj<|A5<|A3 rfl<|A1 (.fa O8 rfl Mi dD rfl)<|Ai (Af (OM _) rfl r2 rfl)<|A1 (.lenS JQ rfl)<|A1 (.lss rfl rfl)<|A0<|Ae rfl (λb7=>?_) (λb7=>?_)
 have cX:=dT b7
 have aB:i<pg.fItems.length:=by omega
 obtain ⟨x,aR⟩:=eX (pg.fItems[i])
 have eI:x∈pg.fItems:=aR▸AM aB
 have aC:=c4.all_fItems _ eI
 have bg:=bb _ eI
 have eJ:=Ys bg
 have h6:=(S5 bg).cl
 refine Ap<|Aj<|AU<|A5<|A1 (.fa O8 rfl Mi dD rfl)<|Ai (Af (OM _) rfl r2 rfl)<|A3 rfl<|A1 (.ixm JQ Uy rfl rfl (eH.isp oO) (i) (rfl) oO)<|Ai (Dy Db rfl OI eH (i) oO rfl)<|C1 A1S rfl (λB cY ab c8 ac gf=>?_)
 have cZ:=FP (w1:=cY) r4 (λk hk hl=>ac.other k oO)
 have c':=Bx ab r2.lt
 have d0:=r2.un ac c'
 have d1:=Bx ab r3.lt
 have d2:=r3.un ac d1
 have d3:=uB r1 ab ac
 have fL:wy.heap.size<=B:=by rw [ab];exact r1.size
 refine AH rfl rfl c8 OI rfl rfl (λfz c9 ad gg=>?_)
 have d4:=FP (w1:=fz) cZ (λk hk hl=>ad.other k oO)
 have d5:=d0.up ad
 have bh:=d2.up ad
 have bi:=CP d3 oO ad
 refine A0<|Aj ?_
 have aH:=c9
 rw [<- aR] at aH
 refine Ak<|Ab rfl<|A5<|A1 (.fa Db rfl HE dD rfl)<|Ai (Af (JG _) rfl aH rfl)<|Ai (BD rfl bh CQ rfl Cb)<|A3 rfl<|?_
 have gU:=aH.lt
 refine DO BQ rfl rfl ((Q7 x.pfPath x.fPath x.cfPath X Y true _ (aC.below bi).row_fPath eJ.1 eJ.2 oO oO)) (λv fA a4=>?_)
 have d6:=FP (w1:=fA) d4 (λk hk hl=>a4.1.block k hl)
 have d7:=d5.bl a4.1
 have d8:=bh.bl a4.1
 have d9:=aH.bl a4.1
 have da:=DN bi a4.1
 obtain ⟨L,pp,cp,ev,gh,ca⟩:=A7a a4.2
 subst ev
 have gi:=Xo.mk (cs:=[]) gh (λy hy=>(by cases hy)) (λk hk=>(ca k hk).2)
 refine A3 rfl<|A1 (.ext rfl rfl)<|A1 (.ext rfl rfl)<|A1 (.fa Db rfl HE dD rfl)<|CT 1 ((F4 (RQ X Y x pp cp x.pfClips x.fClips x.cfClips x.fMatrix_4 x.fMatrix_5)).toArray) d9 HE (λb8 aT P gj=>?_)
 have db:=FP (w1:=b8) d6 (λk hk hl=>P.other k oO)
 have dc:=Xo.same (w1:=b8) gi (λk hk hl=>P.other k ((λe=>by have:=(ca k hk).1;omega)))
 have dd:=d7.up P
 have de:=d8.up P
 have bj:=CP da oO P
 refine Ab rfl<|Aj ?_
 have hC:B=wi.heap.size:=ab
 have h7:=aT.lt
 have fB:∀ k,L k->B<k:=λk hk=>by have:=(ca k hk).1;omega
 have cd:0<x.fClips.length->(pA x.pfClips).block<wy.heap.size:=λa=>aC.row_fClips.lt a
 obtain ⟨wx,gk⟩:=eX b8
 subst gk
 have h9:=aC.row_fClips.below bj cd
 refine Ak<|Ab rfl<|Aj<|A5<|Ab rfl<|AU<|Cf (α:=Nat × Value × Bool × (Nat->Prop) × List Bm) (λt=>[(3,ptV b1),(12,ptV a9),(13,.slice xp its.length xc),(14,Ah kk),(15,aw),(16,Ah (i:Int)),(17,ptV B),(18,.bool t.2.2.1),(19,t.2.1),(20,Ah (t.1:Int))]) (λt w'=>AD wy w'/\Be w' b1 (HK pg).toArray 47/\Be w' a9 (D4 ⟨X,Y⟩).toArray 57/\Be w' B (F4 (RQ X Y x pp cp x.pfClips x.fClips x.cfClips x.fMatrix_4 x.fMatrix_5)).toArray 44/\Jh wi.heap.size (Vi wy.heap.size aw ws) w'/\Xo t.2.2.2.1 pp (x.fPath.map (Np X Y)) cp t.2.2.2.2 w'/\AJ G0 61 wx.heap.size w' t.2.1 t.2.2.2.2/\t.1<=x.fClips.length/\t.2.2.2.2.map FL=(x.fClips.take t.1).map (Q5 X Y)/\t.2.2.1=(x.fPath.all (Pr X Y) && (x.fClips.take t.1).all (Q4 X Y))/\(∀ k,t.2.2.2.1 k->B<k)/\(∀ g,t.2.1.ownBlock=some g->¬ t.2.2.2.1 g)/\wx.heap.size<=w'.heap.size) (λt=>x.fClips.length-t.1) ((0,.slice none 0 0,(true && x.fPath.all (Pr X Y)),L,[])) ⟨rfl,rfl,rfl,rfl,rfl,rfl,rfl,rfl,rfl,rfl,tT⟩ (⟨bj,dd,de,aT,db,dc,AJ.nil _ _ _ _,G8 _,rfl,by simp,fB,λg hg=>(by cases hg),FQ _⟩) (λt w1 hR=>?_)
 obtain ⟨⟨j,gl,ax,L2,cs⟩,am⟩:=eX t
 subst am
 obtain ⟨j1,j2,j3,j4,j5,j6,j7,j8,j9,aU,cg,ci,fC⟩:=hR
 simp only at j6 j7 j8 j9 aU cg ci
 show W Tryz.prog _ _ _ [(3,ptV b1),(12,ptV a9),(13,.slice xp its.length xc),(14,Ah kk),(15,aw),(16,Ah (i:Int)),(17,ptV B),(18,.bool ax),(19,gl),(20,Ah (j:Int))] w1
 have cj:=aC.row_fClips.below j1 cd
 have df:=Bk List.length j9
 rw [B0,B0,AT] at df
 have ay:=j6.lt
 have aV:=j7.lt
 have gV:=j4.lt
 refine Aj<|A5<|A3 rfl<|A1 (.fa Db rfl Gg dD rfl)<|Ai (Af (JY _) rfl j4 rfl)<|A1 (.lenS Fj rfl)<|A1 (.lss rfl rfl)<|A0<|Ae rfl (λb9=>?_) (λb9=>?_)
 have dg:=dT b9
 have aW:j<x.fClips.length:=Int.ofNat_lt.1 aS
 obtain ⟨c,bk⟩:=eX (x.fClips[j])
 have eK:c∈x.fClips:=bk▸AM aW
 have gm:=aC.all_fClips _ eK
 have ck:=YJ bg eK
 refine Ap<|Aj<|AU<|A5<|A1 (.fa Db rfl Gg dD rfl)<|Ai (Af (JY _) rfl j4 rfl)<|A3 rfl<|A1 (.ixm Fj K6 rfl rfl (cj.isp oO) (j) (rfl) oO)<|Ai (Dy Na rfl Wx cj (j) oO rfl)<|C1 Qj rfl (λfD bm a5 cm l go=>?_)
 have cn:=BA fC l.size
 have dh:=GK j7 a5 l
 have di:=FP (w1:=bm) j5 (λk hk hl=>l.other k oO)
 have dj:=Xo.same (w1:=bm) j6 (λk hk hl=>l.other k oO)
 have dk:=Bx a5 j2.lt
 have dl:=j2.un l dk
 have dm:=Bx a5 j3.lt
 have dn:=j3.un l dm
 have dp:=Bx a5 j4.lt
 have dq:=j4.un l dp
 have dr:=uB j1 a5 l
 have fM:wy.heap.size<=fD:=by rw [a5];exact j1.size
 refine AH rfl rfl cm Wx rfl rfl (λco cq m gp=>?_)
 have cr:=BA cn m.size
 have ds:=I4 dh m (λg hg=>by have:=aV g hg;omega)
 have dt:=FP (w1:=co) di (λk hk hl=>m.other k oO)
 have du:=Xo.same (w1:=co) dj (λk hk hl=>m.other k ((λe=>by subst e;first | (have:=ay _ hk;omega) | exact hk.elim (λh=>by have:=ay _ h;omega) (λh=>by have:=(aD _ h).1;omega))))
 have dv:=dl.up m
 have bn:=dn.up m
 have dw:=dq.up m
 have bo:=CP dr oO m
 refine A0<|Aj ?_
 have aI:=cq
 rw [<- bk] at aI
 refine Ak<|A1 (.fa Na rfl HE dD rfl)<|Ai (Af (JG _) rfl aI rfl)<|Ai (BD rfl bn CQ rfl Cb)<|A3 rfl<|?_
 have gW:=aI.lt
 refine DO BQ rfl rfl ((Q7 c.pfPath c.fPath c.cfPath X Y ax _ (gm.below bo).row_fPath ck.1 ck.2 oO oO)) (λv ct d=>?_)
 have cu:=BA cr d.1.size
 have dz:=AJ.below ds d.1
 have dA:=FP (w1:=ct) dt (λk hk hl=>d.1.block k hl)
 have dB:=Xo.same (w1:=ct) du (λk hk hl=>d.1.block k hl)
 have dC:=dv.bl d.1
 have dE:=bn.bl d.1
 have dG:=dw.bl d.1
 have dH:=aI.bl d.1
 have dI:=DN bo d.1
 obtain ⟨L1,p1,c1,ev,gq,aD⟩:=A7a d.2
 subst ev
 have fE:=Xo.add dB (c:=⟨p1,c.fPath.map (Np X Y),c1,c.fEvenOdd⟩) gq (λk hk=>(aD k hk).2)
 refine A3 rfl<|A1 (.ext rfl rfl)<|A1 (.ext rfl rfl)<|A1 (.fa Na rfl HE dD rfl)<|CT 0 ((ZP ⟨p1,c.fPath.map (Np X Y),c1,c.fEvenOdd⟩).toArray) dH HE (λcv aX o gr=>?_)
 have cw:=BA cu o.size
 have dJ:=I4 dz o (λg hg=>by have:=aV g hg;omega)
 have dK:=FP (w1:=cv) dA (λk hk hl=>o.other k oO)
 have dL:=Xo.same (w1:=cv) fE (λk hk hl=>o.other k ((λe=>by subst e;first | (have:=ay _ hk;omega) | exact hk.elim (λh=>by have:=ay _ h;omega) (λh=>by have:=(aD _ h).1;omega))))
 have bp:=dC.up o
 have bq:=dE.up o
 have bt:=dG.up o
 have bu:=CP dI oO o
 refine Ab rfl<|Ak<|A3 rfl<|Ai (BD rfl aX Na rfl Wx)<|Cw (L:=G0) (ps:=_) ([(⟨p1,c.fPath.map (Np X Y),c1,c.fEvenOdd⟩:Bm)]) Fj K6 Qj rfl rfl rfl rfl rfl (by rfl) rfl rfl (λcy aJ E cz q gs=>?_)
 have aY:=BA cw q.size
 have dM:=GK dJ E q
 have dN:=FP (w1:=aJ) dK (λk hk hl=>q.other k oO)
 have bv:=Xo.same (w1:=aJ) dL (λk hk hl=>q.other k oO)
 have dO:=Bx E bp.lt
 have dP:=bp.un q dO
 have dQ:=Bx E bq.lt
 have dR:=bq.un q dQ
 have dS:=Bx E bt.lt
 have dU:=bt.un q dS
 have gX:=Bx E aX.lt
 have dV:=uB bu E q
 have fN:wy.heap.size<=cy:=by rw [E];exact bu.size
 have fO:cy<=aJ.heap.size:=by omega
 have fF:=(bv).lt
 refine CV Fj Ms rfl rfl rfl dM rfl (cz).rowp oE (aY) rfl (λh=>D6 h (PA _ _)) (λha hb cA T aZ cB=>?_)
 have dW:=dP.below T oO
 have dX:=dR.below T oO
 have dY:=dU.below T oO
 have dZ:=FP dN (λk hk hl=>aZ.block k hl (λe=>by have:=(aV k e.symm).1;omega))
 have d':=Xo.same bv (λk hk hl=>aZ.block k hl (λe=>hk.elim (λh=>ci k e.symm h) (λh=>by have:=(aD k h).1;have:=(aV k e.symm).2;omega)))
 have e0:=EU dV (T.mono oO)
 have cC:=BA aY T.size
 refine Ab rfl<|Ak<|A3 rfl<|A1 (.iis (((j+1:Nat):Int)) (.add rfl rfl (Bn oO)) oO)<|Ab rfl<|⟨(j+1,_,(ax && c.fPath.all (Pr X Y)),_,cs++[(⟨p1,c.fPath.map (Np X Y),c1,c.fEvenOdd⟩:Bm)]),⟨rfl,rfl,rfl,rfl,rfl,rfl,rfl,rfl,rfl,rfl,tT⟩,⟨e0,dW,dX,dY,dZ,d',cA,oM,?_,?_,?_,?_,cC⟩,oM⟩
 rw [Bp,j9,TU aW,<- bk];rfl
 show (ax && c.fPath.all (Pr X Y))=_
 rw [aU,A32 aW,<- bk,Bool.and_assoc];rfl
 exact λk hk=>hk.elim (cg k) (λh=>by have:=(aD k h).1;omega)
 exact λg hg hk=>(cB g hg).elim (λe=>hk.elim (λh=>ci g e h) (λh=>by have:=(aD g h).1;have:=(aV g e).2;omega)) (λe=>by have:=fF g hk;omega)
 have dg:=dF b9
 have aW:j=x.fClips.length:=Nat.le_antisymm j8 (Nat.not_lt.1 λh=>D6 (Int.ofNat_lt.2 h) aS)
 refine C7<|Aj ?_
 rw [aW,Ca] at j9 aU
 obtain ⟨L3,pc,cc,gt,gv,eL⟩:=A7a j7
 subst gt
 have gw:ItG (λk=>L2 k\/L3 k) pp (x.fPath.map (Np X Y)) cp pc cs cc w1:=⟨⟨j6.path.wide λ_=>.inl,λy hy=>(j6.clips y hy).wide λ_=>.inl,λk hk=>hk.elim (ay k) (λh=>(eL k h).2)⟩,gv.wide λ_=>.inr⟩
 have bw:∀ k,(L2 k\/L3 k)->B<k:=λk hk=>hk.elim (cg k) (λh=>by have:=(eL k h).1;omega)
 refine Ak<|A3 rfl<|A1 (.fa Db rfl Gg dD rfl)<|CT 7 ((F4 (RQ X Y x pp cp pc cs cc x.fMatrix_4 x.fMatrix_5)).toArray) j4 Gg (λcD ae U gx=>?_)
 have bx:=FP (w1:=cD) j5 (λk hk hl=>U.other k oO)
 have bz:=ItG.same (w1:=cD) gw (λk hk hl=>U.other k ((λe=>by have:=bw k hk;omega)))
 have bA:=j2.upd U oM
 have aK:=j3.upd U oM
 have bB:=CP j1 oO U
 refine A0<|De (α:=Bool × Int × Int) (λt=>[(3,ptV b1),(12,ptV a9),(13,.slice xp its.length xc),(14,Ah kk),(15,aw),(16,Ah (i:Int)),(17,ptV B),(18,.bool t.1)]) (λt w'=>AD wy w'/\Be w' b1 (HK pg).toArray 47/\Be w' a9 (D4 ⟨X,Y⟩).toArray 57/\Be w' B (F4 (RQ X Y x pp cp pc cs cc t.2.1 t.2.2)).toArray 44/\Jh wi.heap.size (Vi wy.heap.size aw ws) w'/\ItG (λk=>L2 k\/L3 k) pp (x.fPath.map (Np X Y)) cp pc cs cc w'/\t.1=Q3 X Y x/\t.2.1=(if x.fKind=4 then x.fMatrix_4+X else x.fMatrix_4)/\t.2.2=(if x.fKind=4 then x.fMatrix_5+Y else x.fMatrix_5)) ?_ (λt w1 hR=>?_)
 refine A5<|A1 (.fa Db rfl B6 dD rfl)<|Ai (Af (BE _) rfl ae rfl)<|A1 (.eql rfl rfl)<|A0<|Ae rfl (λba=>?_) (λba=>?_)
 have e1:=dT ba
 have s:x.fKind=4:=by assumption
 have eM:=RS ((S5 bg).txt s).mat
 have hD:=Ko (show Am x.fMatrix_4=true from eM.e)
 have hE:=Ko (show Am x.fMatrix_5=true from eM.f)
 have az:=A8K (dx:=X) (dy:=Y) s aU
 refine A5<|A1 (.fa Db rfl HD dD rfl)<|A1 (.ixr1 DM B6 rfl rfl (4) (rfl) ((show 4<6 by decide)))<|Ai (Rd.iis (x.fMatrix_4) (AS (BE _) rfl ((Mq ae).cells (4) ((show 4<6 by decide)))) (by rfl))<|A1 (.fa CQ rfl B6 dD rfl)<|Ai (Af (BE _) rfl aK rfl)<|A1 (.iis (x.fMatrix_4+X) (.add rfl rfl (Bn (by simp only;omega))) (by simp only))<|A1 (.fa Db rfl HD dD rfl)<|A1 (.ixr1 DM B6 rfl rfl (4) (rfl) ((show 4<6 by decide)))<|CT (15+4 * 1) ((F4 (RQ X Y x pp cp pc cs cc (x.fMatrix_4+X) x.fMatrix_5)).toArray) ae B6 (λcE a' V gz=>?_)
 have e2:=FP (w1:=cE) bx (λk hk hl=>V.other k oO)
 have e3:=ItG.same (w1:=cE) bz (λk hk hl=>V.other k ((λe=>by have:=bw k hk;omega)))
 have e4:=bA.up V
 have bC:=aK.up V
 have e5:=CP bB oO V
 refine A0<|A5<|A1 (.fa Db rfl HD dD rfl)<|A1 (.ixr1 DM B6 rfl rfl (5) (rfl) ((show 5<6 by decide)))<|Ai (Rd.iis (x.fMatrix_5) (AS (BE _) rfl ((Mq a').cells (5) ((show 5<6 by decide)))) (by rfl))<|A1 (.fa CQ rfl B6 dD rfl)<|Ai (Af (BE _) rfl bC rfl)<|A1 (.iis (x.fMatrix_5+Y) (.add rfl rfl (Bn (by simp only;omega))) (by simp only))<|A1 (.fa Db rfl HD dD rfl)<|A1 (.ixr1 DM B6 rfl rfl (5) (rfl) ((show 5<6 by decide)))<|CT (15+5 * 1) ((F4 (RQ X Y x pp cp pc cs cc (x.fMatrix_4+X) (x.fMatrix_5+Y))).toArray) a' B6 (λcF a0 a1 gA=>?_)
 have aL:=FP (w1:=cF) e2 (λk hk hl=>a1.other k oO)
 have aM:=ItG.same (w1:=cF) e3 (λk hk hl=>a1.other k ((λe=>by have:=bw k hk;omega)))
 have aN:=e4.up a1
 have aO:=bC.up a1
 have aP:=CP e5 oO a1
 refine A0<|Ak<|A3 rfl<|A3 rfl<|B5 rfl rfl rfl (λG=>?_) (λG=>?_)
 refine A1 (.fa Db rfl HD dD rfl)<|Au G<|A1 (.ixr1 DM B6 rfl rfl (4) (rfl) ((show 4<6 by decide)))<|Au G<|Ai (Rd.iis (x.fMatrix_4+X) (AS (BE _) rfl ((Mq a0).cells (4) ((show 4<6 by decide)))) (by rfl))<|Au G<|As (Gs _ _) (λhc e6=>?_)
 obtain rfl:=e6
 refine A1 (.pkT rfl G rfl)<|A3 rfl<|B5 rfl rfl rfl (λH=>?_) (λH=>?_)
 refine A1 (.fa Db rfl HD dD rfl)<|Au H<|A1 (.ixr1 DM B6 rfl rfl (5) (rfl) ((show 5<6 by decide)))<|Au H<|Ai (Rd.iis (x.fMatrix_5+Y) (AS (BE _) rfl ((Mq a0).cells (5) ((show 5<6 by decide)))) (by rfl))<|Au H<|As (Gs _ _) (λhe e7=>?_)
 obtain rfl:=e7
 refine A1 (.pkT rfl H rfl)<|Ab rfl ?_
 exact ⟨(Am (x.fMatrix_5+Y),_,_),⟨rfl,rfl,rfl,rfl,rfl,rfl,rfl,rfl,tT⟩,aP,aN,aO,a0,aL,aM,(by rw [az,(show ax=true by assumption),(show Am (x.fMatrix_4+X)=true by assumption)];rfl),(A7 s).symm,(A7 s).symm⟩
 refine Ac H<|Ac H<|Ac H<|A1 (.pkF rfl H rfl)<|Ab rfl ?_
 exact ⟨(false,_,_),⟨rfl,rfl,rfl,rfl,rfl,rfl,rfl,rfl,tT⟩,aP,aN,aO,a0,aL,aM,(by rw [az,(show ax=true by assumption),(show Am (x.fMatrix_4+X)=false by assumption)];rfl),(A7 s).symm,(A7 s).symm⟩
 refine Ac G<|Ac G<|Ac G<|A1 (.pkF rfl G rfl)<|A3 rfl<|Ac rfl<|Ac rfl<|Ac rfl<|Ac rfl<|A1 (.pkF rfl rfl rfl)<|Ab rfl ?_
 exact ⟨(false,_,_),⟨rfl,rfl,rfl,rfl,rfl,rfl,rfl,rfl,tT⟩,aP,aN,aO,a0,aL,aM,(by rw [az,(show ax=false by assumption)];rfl),(A7 s).symm,(A7 s).symm⟩
 have e1:=dF ba
 have s:¬ x.fKind=4:=by assumption
 have az:=A8J (dx:=X) (dy:=Y) s aU
 refine Ap ?_
 exact ⟨(_,_,_),⟨rfl,rfl,rfl,rfl,rfl,rfl,rfl,rfl,tT⟩,bB,bA,aK,ae,bx,bz,az.symm,(A2 s).symm,(A2 s).symm⟩
 obtain ⟨⟨gC,m4,m5⟩,am⟩:=eX t
 subst am
 obtain ⟨y1,y2,y3,y4,y5,y6,y7,y8,y9⟩:=hR
 simp only at y4 y7 y8 y9
 show W Tryz.prog _ _ _ [(3,ptV b1),(12,ptV a9),(13,.slice xp its.length xc),(14,Ah kk),(15,aw),(16,Ah (i:Int)),(17,ptV B),(18,.bool gC)] w1
 refine Aj<|A5<|A3 rfl<|A1 (.not rfl)<|A0<|Ae rfl (λfG=>?_) (λfG=>?_)
 have fH:Q3 X Y x=false:=by simp_all
 have gD:=eG (A1G aB (aR▸fH))
 refine A5<|A3 rfl<|A1 (.neq rfl rfl)<|Ab rfl<|AI ?_
 exact ⟨Bw (by simp [gD]),EU aG ((y1).mono c5)⟩
 have e8:Q3 X Y x=true:=by simp_all
 refine Ap ?_
 have gE:=A3q (pp:=pp) (pc:=pc) (cp:=cp) (cc:=cc) j9 y8 y9
 have ea:wy.heap.size<=(w1).heap.size:=y1.size
 have eb:=(QV y5).own
 have gF:=Bk List.length r6
 rw [B0,B0,AT] at gF
 refine Ak<|A3 rfl<|Ai (BD rfl y4 Db rfl OI)<|Cw (L:=JW) (ps:=_) ([(RQ X Y x pp cp pc cs cc m4 m5)]) JQ Uy A1S rfl rfl rfl rfl rfl (by rfl) rfl rfl (λcG aQ a6 cH C gG=>?_)
 have b0:=BA ea C.size
 have ec:=GK eb a6 C
 have ed:=FP (w1:=aQ) y5 (λk hk hl=>C.other k oO)
 have ee:=ItG.same (w1:=aQ) y6 (λk hk hl=>C.other k oO)
 have ef:=Bx a6 y2.lt
 have eg:=y2.un C ef
 have eh:=Bx a6 y3.lt
 have ei:=y3.un C eh
 have gY:=Bx a6 y4.lt
 have bD:=uB y1 a6 C
 have fP:wy.heap.size<=cG:=by rw [a6];exact y1.size
 have fQ:cG<=aQ.heap.size:=by omega
 have hW:=QV ed
 have gH:=A3o (m4:=m4) (m5:=m5) ee (λk hk=>Nat.le_of_lt (bw k hk)) (λg hg=>⟨(c7 g hg).1,by have:=(c7 g hg).2;omega⟩) aC bD
 refine CV JQ A3u rfl rfl rfl ec rfl (cH).rowp oE (b0) rfl (λh=>D6 h (PA _ _)) (λhf hh cI a2 cJ cK=>?_)
 have ej:=eg.below a2 oO
 have ek:=ei.below a2 oO
 have el:=EU bD (a2.mono oO)
 have gI:=BA b0 a2.size
 refine Ab rfl<|Ak<|A3 rfl<|A1 (.iis (((i+1:Nat):Int)) (.add rfl rfl (Bn oO)) oO)<|Ab rfl ?_
 exact ⟨(i+1,_,ws++[(RQ X Y x pp cp pc cs cc m4 m5)]),⟨rfl,rfl,rfl,rfl,rfl,rfl,tT⟩,⟨el,ej,ek,Jh.of (Vi.add hW cI cJ (a2).size cK gH),oM,by rw [Bp,r6,TU aB,<- aR,C3,Da,gE],by rw [A1F aB,<- aR,r7,e8];rfl⟩,oM⟩
 have cX:=dF b7
 have aB:i=pg.fItems.length:=by omega
 refine C7<|Aj ?_
 rw [aB,Ca] at r6 r7
 obtain ⟨fI,gJ,gK⟩:=eF r7
 have hW:=QV r4
 obtain ⟨hF,hG,fJ,fK⟩:=Cn.own (Z:=λ_=>True) hW.own (λ_ _=>trivial)
 subst fJ
 refine Ak<|A3 rfl<|A1 (.eql rfl rfl)<|A3 rfl<|B5 rfl rfl rfl (λJ=>?_) (λJ=>?_)
 have em:=dT J
 refine A3 rfl<|Au J<|A3 rfl<|Au J<|As (SO (gJ.trans r6.symm) (c3.below r1 (λa=>c3.lt a)) fK.row (λy hy=>(gK y hy).below r1) (λy hy=>A3p (hW.all y hy) (A8n bb r7 r6 y hy)) eD) (λhi en=>?_)
 have eo:=DN r1 en
 refine A1 (.pkT rfl J rfl)<|Ab rfl<|AI ?_
 exact ⟨rfl,EU aG ((eo).mono c5)⟩
 have em:=dF J
 refine Ac J<|Ac J<|A1 (.pkF rfl J rfl)<|Ab rfl<|AI ?_
 exact D6 fI aS
 have fU:=dT g6
 refine Ac g6<|Ac g6<|A1 (.pkT rfl g6 rfl)<|A0<|E3 rfl rfl<|A5<|As (KH _) (λhj ep=>?_)
 have eq:=DN bG ep
 refine Ab rfl<|AI ?_
 exact ⟨rfl,eq⟩
theorem A6t {n:Int} (h:(Lit.int .i8 n).wf=true):-128<=n/\n<=127:=by
 simp only [Lit.wf,A4,Ad] at h
 exact h
theorem SV (pg:Kr) (dx dy:Int) (w:World) (hp:LM w pg) (hdx:(Lit.int .i8 dx).wf=true) (hdy:(Lit.int .i8 dy).wf=true) :
  C9 5 #[.agg (HK pg).toArray,.int .i8 dx,.int .i8 dy] w (.bool true):=S2 pg dx dy w hp (A6t hdx) (A6t hdy)
end
section
open Go.ChangeShapes Go.WideShapes Go.ChangeAt Go.RowKit
theorem own:ownKnob Tryz.prog.godebug=none:=by kernel_rfl
theorem A5L:laidOutB Tryz.prog=true:=by kernel_rfl
def firstCells:Array Value:=(Go.Pinned.utf8FirstZ.map λ(n:Nat)=>Value.int .u8 (n:Int)).toArray
def Y6:Array Value:=#[.int .u8 128,.int .u8 191,.int .u8 160,.int .u8 191,.int .u8 128,.int .u8 159,.int .u8 144,.int .u8 191,.int .u8 128,.int .u8 143,.int .u8 0,.int .u8 0,.int .u8 0,.int .u8 0,.int .u8 0,.int .u8 0,.int .u8 0,.int .u8 0,.int .u8 0,.int .u8 0,.int .u8 0,.int .u8 0,.int .u8 0,.int .u8 0,.int .u8 0,.int .u8 0,.int .u8 0,.int .u8 0,.int .u8 0,.int .u8 0,.int .u8 0,.int .u8 0]
def VX (cs:Array Value):Obj->Obj
 | .cells _ t frozen=>.cells cs t frozen
 | o=>o
noncomputable def PB (os:Os):World :=
 { World.holding Tryz.prog os ⟨#[],#[],[]⟩ with heap:=((World.holding Tryz.prog os ⟨#[],#[],[]⟩).heap.modify 1 (VX firstCells)).modify 2 (VX Y6) }
end
section
open Go.ChangeShapes Go.WideShapes Go.ChangeAt Go.RowKit
open Go.ChangeMaps (open_string shut_string)
theorem NX (H:Type) (enc:TypeId × Value->H) (W:World) (base:Nat) (args:Array Value) (ds gs:List (DataW H)) (before:List MemPlace)
  (hval:∀ (j:Nat) t v,Tryz.f5.params[j]?=some t->args[j]?=some v->Value.okWide Tryz.prog W .any base t v)
  (hW:DataW.Whole enc Tryz.prog Tryz.f5.params.toList Rows.viewMovedSpec.vars false W args.toList ds gs before) :
  Calls Tryz.prog 5 args W λe W'=>∃ v,e=.returned v/\Rows.viewMovedSpec.post enc Tryz.prog Tryz.f5 false true false false W args v W':=by
 have hW':=hW
 obtain ⟨p,q,a,hV,rfl,K,L⟩:=hW
 have hA:DataW.TrodAll enc Tryz.prog W 0 (λ_=>true) true Tryz.f5.params.toList args.toList ds p:=a
 rw [Tryz.params5] at hA hval
 obtain ⟨d,M,U,N,V,X,f,rfl,rfl,g,B⟩:=trodAll_cons hA
 obtain ⟨i,O,Y,P,Z,q1,k,rfl,rfl,C,D⟩:=trodAll_cons B
 obtain ⟨l,Q,d2,R,p2,q2,m,rfl,rfl,E,F⟩:=trodAll_cons D
 obtain ⟨rfl,rfl,rfl⟩:=trodAll_nil F
 obtain rfl:args=#[d,i,l]:=by cases args;simp_all
 obtain ⟨rfl,rfl⟩:=trodVars_none hV
 obtain ⟨o,rfl,-⟩:=okWide_struct O8 (hval 0 47 d rfl rfl)
 have s:=g
 obtain ⟨T,u⟩:=s
 obtain ⟨w,y,A⟩:=A0T u
 obtain rfl:o=(HK w).toArray:=by rw [<- y];rfl
 obtain ⟨G,rfl,rfl,rfl,b⟩:=open_int Vs (hval 1 55 i rfl rfl) C
 obtain ⟨J,rfl,rfl,rfl,c⟩:=open_int Vs (hval 2 55 l rfl rfl) E
 clear a
 simp only [Bv] at hW'
 refine (SV w G J W A b c).mono λe W' ⟨he,bel⟩=>?_
 subst he
 exact ⟨_,rfl,_,_,_,[],_,[],hW',trodAll_mk1 (shut_bool u4_ _),(trodAll_cons_mk (A0b A5L kR kR g bel (λx hx=>hW'.lt x (by first | exact hx | (simp only [B4];simp_all)))) (trodAll_cons_mk (shut_int Vs b) (trodAll_cons_mk (shut_int Vs c) trodAll_mk0))),rfl,bel.frame _,λh=>by cases h⟩
theorem NP (os:Os):laidMet Tryz.prog Rows.viewMovedRow.laid ((PB os).forCall (λ_ _=>0) ⟨#[],#[.agg #[Ah 0,Ah 0,.slice none 0 0],.int .i8 0,.int .i8 0],[]⟩).memory :=
 laidMet_of_run' 8 kR kR
theorem Qo (os:Os) {H:Type} (enc:TypeId × Value->H):∃ places,DataW.whole enc Tryz.prog ((PB os).forCall (λ_ _=>0) ⟨#[],#[.agg #[Ah 0,Ah 0,.slice none 0 0],.int .i8 0,.int .i8 0],[]⟩).memory Tryz.f5.params.toList Rows.viewMovedSpec.vars false #[Value.agg #[Ah 0,Ah 0,.slice none 0 0],.int .i8 0,.int .i8 0].toList 8=some ([.agg [.lit (.int .i64 0),.lit (.int .i64 0),.nil],.lit (.int .i8 0),.lit (.int .i8 0)],[],places) :=
 ⟨[],kR⟩
theorem Py (os:Os) (started:os.Started) (H:Type) (enc:TypeId × Value->H) (F:Stop.Interp) :
    ReturnsInHanded {} Tryz.checked os 5 .any ((OpenSpec.ofChange Rows.viewMovedSpec).preRow enc Tryz.prog Tryz.f5 Rows.viewMovedRow.domain false Rows.viewMovedRow.laid) (((OpenSpec.ofChange Rows.viewMovedSpec).at F).post enc Tryz.prog Tryz.f5 false true false false):=by
  obtain ⟨places,hx⟩:=Qo os enc
  refine returnsInHanded_of_row (C:=Tryz.checked) (s:=OpenSpec.ofChange Rows.viewMovedSpec) own started kR func5
    (witness_row_at (enc:=enc) (C:=Tryz.checked) false (PB os) #[.agg #[Ah 0,Ah 0,.slice none 0 0],.int .i8 0,.int .i8 0] rfl kR kR kR
      (OpenSpec.preRow_of_cond 8 hx kR (λk hk=>by cases hk) kR (NP os))) ?_
  intro W base args ds gs before a hW _ b _ hL _ _
  exact NX H enc W base args ds gs before a hW
theorem Ri:Rows.ViewMovedSaid :=
  OpenClaim.holds_of_cond 5 Tryz.f5 rfl rfl rfl rfl rfl rfl rfl ⟨rfl,rfl,rfl,rfl,rfl⟩ rfl rfl rfl rfl rfl kR func5 kR
    (dT kR) (by unfold Func.isWrapper;first | (rw [A7 (by decide +kernel)];kernel_rfl) | (rw [A2 (by decide +kernel)];exact ⟨rfl,rfl⟩))
    (λos started H enc _ F=>by rw [OpenClaim.pre_eq_preRow];exact Py os started H enc F)
theorem Qq (f:FuncId) (fn:Func) (hf:Tryz.pinned.checked.prog.funcNamed "mezzotint/mezzotintlaw21.ViewMoved"=some f) (hfn:Tryz.pinned.checked.prog.funcs[f]?=some fn) :
  true=Tryz.pinned.checked.prog.looks []/\∀ (j:Nat) t,fn.params[j]?=some t->Tryz.pinned.checked.prog.wantsStandIn t=false:=by
 obtain rfl:f=5:=Ei ((show Tryz.prog.funcNamed "mezzotint/mezzotintlaw21.ViewMoved"=some 5 by kernel_rfl).symm.trans hf) |>.symm
 obtain rfl:fn=Tryz.f5:=(Ei (func5.symm.trans hfn)).symm
 refine ⟨kR,λj t ht=>?_⟩
 rw [Tryz.params5] at ht
 have a:=Array.mem_of_getElem? ht
 simp only [List.mem_toArray,Ax,AK,Cl] at a
 rcases a with rfl | rfl | rfl
 · exact (show Tryz.prog.wantsStandIn 47=false by kernel_rfl)
 · exact (show Tryz.prog.wantsStandIn 55=false by kernel_rfl)
 · exact (show Tryz.prog.wantsStandIn 55=false by kernel_rfl)
theorem ViewMoved_holds:Rows.ViewMovedCardSaid :=
 Claim7.holds_tied_plain_at .later [] _ _ _ _ Ri (λ_ h=>by cases h) kR (λ_ h=>by cases h) viewMoved_row_tie rfl ⟨rfl,rfl⟩ kR rfl Qq kR
#print axioms ViewMoved_holds
end
end Go.Proofs.YthmhfjeojkbpfaaGreatDoor
