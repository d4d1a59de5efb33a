/-
  What the claim leans on, part 6: pruned and joined by my own tool out of the texts that stand in wip/ as templates.
-/
import Derived.Test.YtiddobdioipidaaGreatDoorTr5
set_option maxHeartbeats 6400000
set_option maxRecDepth 100000
namespace Go.Proofs.YtiddobdioipidaaGreatDoor
open Go.RowKit
open Go.Proofs.Tryz
variable {pa pb:Addr} {aft:Array Edge} {ops:Array Oper} {ats:Array TypeId} {args cs:Array Value} {st:Bool} {Q:Exit->Fr->World->Prop} {f:Fr} {F:FuncId} {D a:Int} {ks:List (List UInt8)} {ns:List Int} {A d l s:List UInt8} {vs xs:List Value} {B M N c i id j wk:Nat} {S T:Nat->Prop} {x y:Operand} {dp p:Option Addr} {P:Program} {pos:String} {α ι:Type} {E e ta tb tx ty:TypeId} {u v z:Value} {w w1:World} {S':World->Prop}
section
def Yx:A02:=⟨65536,0,0,655360,none,[],0,0⟩
def st1:StH:=⟨m6I,Py 1,Py 1,Yx,.slice none 0 0,-1,0⟩
def Oy (fo:Value) (bp:Nat):VwH:=⟨st1,fo,.slice none 0 0,bp,0,false,false,m60,m60,.slice none 0 0,.slice none 0 0⟩
def SK:Array Value:=WP 4096 (.slice none 0 0) XG XG
theorem A1K  {bp:Nat} (h:B4 w bp SK 232) (hB:B<=w.heap.size):TL B w bp 4096 ST (.slice none 0 0):=⟨h,AO.nil _ _ _ _,⟨dD,dD⟩,hB⟩
def opn:l8_:=[110]
abbrev VnR (bv bp:Nat) (fo:Value) (w:World) (e:Ending) (w':World):Prop:=e=.returned (.tuple #[])/\B9 w.heap.size [bv,bp] w w'/\B4 w' bv (XL (Oy fo bp)).toArray 215/\B4 w' bp SK 232
theorem TY (bv bp:Nat) (fo:Value) (w:World) (h:B4 w bv (XL (Oy fo bp)).toArray 215) :
  Calls Tryz.prog 193 #[ptV bv,Ag 0] w λe w'=>∃ v,e=.returned v/\AL w w' :=
 (TW bv 0 (Oy fo bp) none [] 0 w h rfl (AA.nil _) dD dD).mono fun e w' q => by
  obtain ⟨v,h1,h2,-⟩:=q
  exact ⟨v,h1,h2⟩
theorem TX (bv bp:Nat) (fo:Value) (w:World) (h:B4 w bv (XL (Oy fo bp)).toArray 215) (hp:B4 w bp SK 232) (hne:bv≠bp) :
  Calls Tryz.prog 226 #[ptV bv,Ag 0,.bool false] w (VnR bv bp fo w):=by
 refine AF func226 rfl ntmps226 ?_
 have j:=B9.refl w.heap.size ([bv,bp]) w
 refine A4<|A3 rfl<|A1 (.nck rfl)<|A1 (.fa JF rfl sizeOf211 dD rfl)<|Aj (Ae (isAgg211 _) rfl h rfl)<|Bf BQ rfl rfl ((RB 0 bp 4096 (.slice none 0 0) ST _ (A1K hp (FN _)))) (λx y c=>?_)
 have g:=h.bl c.1
 have k:=hp.bl c.1
 have l:=kB j c.1
 obtain ⟨xp,xc⟩:=x
 refine A8 rfl<|Ad<|A4<|A3 rfl<|A1 (.lenS XQ rfl)<|A1 (.gtr rfl rfl)<|A3 rfl<|Cc rfl rfl rfl (λd=>?_) (λd=>?_)
 have m:=dT d
 exact Dp (show (0:Int) > 0 by assumption) dD
 have m:=dF d
 refine B6 d<|A1 (.bis (false) (.pkF rfl d rfl) dD)<|A0<|Ay rfl rfl<|As<|Ad<|A4<|A3 rfl<|A1 (.lenS XQ rfl)<|A1 (.gtr rfl rfl)<|A3 rfl<|Cc rfl rfl rfl (λf=>?_) (λf=>?_)
 have o:=dT f
 exact Dp (show (0:Int) > 0 by assumption) dD
 have o:=dF f
 refine A1 (.bis (false) (.pkF rfl f rfl) dD)<|A0<|Ay rfl rfl<|As<|Ad<|A4<|A3 rfl<|A1 (.nck rfl)<|A1 (.fa JF rfl BI dD rfl)<|Aj (Ae (C5 _) rfl g rfl)<|A1 (.bis (false) (.gtr rfl rfl) (by rfl))<|A0<|Ay rfl rfl<|As<|A4<|A3 rfl<|A1 (.nck rfl)<|A1 (.fa JF rfl BI dD rfl)<|W7 28 ((XL (Oy fo bp)).toArray) g BI (λA a e u=>?_)
 have q:=k.up e
 have b:=E7 l (by exact Qc e (by simp))
 refine A0<|An<|A3 rfl<|A1 (.nck rfl)<|A1 (.fa JF rfl sizeOf211 dD rfl)<|Aj (Ae (isAgg211 _) rfl a rfl)<|Au (WO 0 bp 4096 (.slice none 0 0) ST _ (A1K q (FN _))) (λv i=>?_)
 obtain ⟨hK,hP⟩:=i
 have b:=E7 b (Do hK b.size (by simp))
 have s:=B4.keepB a hK (a).lt (by simpa using hne)
 have t:=hP.blk
 refine A0<|D9 (CU rfl ?_)
 exact ⟨rfl,b,s,t⟩
theorem XM (bv bp:Nat) (fo:Value) (w:World) (h:B4 w bv (XL (Oy fo bp)).toArray 215) (hp:B4 w bp SK 232) (hne:bv≠bp) :
  Calls Tryz.prog 194 #[ptV bv,.string (bs opn)] w (VnR bv bp fo w):=by
 refine AF func194 rfl ntmps194 ?_
 have c:=B9.refl w.heap.size ([bv,bp]) w
 refine A4<|A3 rfl<|Bf BQ rfl rfl ((TY bv bp fo _ h)) (λv k a=>?_)
 have d:=h.bl a
 have e:=hp.bl a
 have b:=kB c a
 refine A0<|Ad<|A4<|A3 rfl<|A0<|AT<|Ad<|A4<|A1 (.bis (false) (.eqs rfl rfl) dD)<|A8 rfl<|Ay rfl rfl<|A4<|A1 (.bis (false) (.eqs rfl rfl) dD)<|A8 rfl<|Ay rfl rfl<|An<|A1 (.bis (false) (.eqs rfl rfl) dD)<|A8 rfl<|Ay rfl rfl<|As<|A4<|A3 rfl<|A0<|AT<|Ad<|A4<|A1 (.bis (false) (.eqs rfl rfl) dD)<|A8 rfl<|Ay rfl rfl<|An<|A1 (.bis (false) (.eqs rfl rfl) dD)<|A8 rfl<|Ay rfl rfl<|Ad<|A4<|A1 (.bis (false) (.eqs rfl rfl) dD)<|A8 rfl<|Ay rfl rfl<|An<|A1 (.bis (false) (.eqs rfl rfl) dD)<|A8 rfl<|Ay rfl rfl<|A4<|A1 (.bis (false) (.eqs rfl rfl) dD)<|A8 rfl<|Ay rfl rfl<|Ad<|A4<|A1 (.bis (false) (.eqs rfl rfl) dD)<|A8 rfl<|Ay rfl rfl<|An<|A1 (.bis (false) (.eqs rfl rfl) dD)<|A8 rfl<|Ay rfl rfl<|Ad<|A4<|A1 (.bis (false) (.eqs rfl rfl) dD)<|A8 rfl<|Ay rfl rfl<|An<|A1 (.bis (false) (.eqs rfl rfl) dD)<|A8 rfl<|Ay rfl rfl<|An<|A3 rfl<|Au (TX bv bp fo _ d e hne) (λl f=>?_)
 obtain ⟨hK,g,i⟩:=f
 have j:=E7 b (Do hK b.size (by simp))
 refine A0<|D9 (CU rfl ?_)
 exact ⟨rfl,j,g,i⟩
theorem Sn (bv bp:Nat) (fo:Value) (w:World) (h:B4 w bv (XL (Oy fo bp)).toArray 215) (hp:B4 w bp SK 232) (hne:bv≠bp) :
  Calls Tryz.prog 166 #[ptV bv,.string (bs opn)] w (VnR bv bp fo w):=by
 refine AF func166 rfl ntmps166 ?_
 have g:=B9.refl w.heap.size ([bv,bp]) w
 refine Ad<|A4<|A3 rfl<|A0<|AT<|Ad<|A4<|A1 (.bis (false) (.eqs rfl rfl) dD)<|A8 rfl<|Ay rfl rfl<|A4<|A1 (.bis (false) (.eqs rfl rfl) dD)<|A8 rfl<|Ay rfl rfl<|A4<|A1 (.bis (false) (.eqs rfl rfl) dD)<|A8 rfl<|Ay rfl rfl<|A4<|A1 (.bis (false) (.eqs rfl rfl) dD)<|A8 rfl<|Ay rfl rfl<|An<|A1 (.bis (false) (.eqs rfl rfl) dD)<|A8 rfl<|Ay rfl rfl<|Ad<|A4<|A1 (.bis (false) (.eqs rfl rfl) dD)<|A8 rfl<|Ay rfl rfl<|A4<|A1 (.bis (false) (.eqs rfl rfl) dD)<|A8 rfl<|Ay rfl rfl<|A4<|A1 (.bis (false) (.eqs rfl rfl) dD)<|A8 rfl<|Ay rfl rfl<|A4<|A1 (.bis (false) (.eqs rfl rfl) dD)<|A8 rfl<|Ay rfl rfl<|A4<|A1 (.bis (false) (.eqs rfl rfl) dD)<|A8 rfl<|Ay rfl rfl<|An<|A1 (.bis (false) (.eqs rfl rfl) dD)<|A8 rfl<|Ay rfl rfl<|Ad<|A4<|A1 (.bis (false) (.eqs rfl rfl) dD)<|A8 rfl<|Ay rfl rfl<|A4<|A1 (.bis (false) (.eqs rfl rfl) dD)<|A8 rfl<|Ay rfl rfl<|A4<|A1 (.bis (false) (.eqs rfl rfl) dD)<|A8 rfl<|Ay rfl rfl<|A4<|A1 (.bis (false) (.eqs rfl rfl) dD)<|A8 rfl<|Ay rfl rfl<|A4<|A1 (.bis (false) (.eqs rfl rfl) dD)<|A8 rfl<|Ay rfl rfl<|An<|A1 (.bis (false) (.eqs rfl rfl) dD)<|A8 rfl<|Ay rfl rfl<|As<|A4<|CC (ps:=_) DD FP z9_ rfl rfl rfl rfl rfl pR rfl (λH E c j a C=>?_)
 have q:=Bt c h.lt
 have i:=h.un a q
 have s:=Bt c hp.lt
 have t:=hp.un a s
 have f:=CW c g.size
 have u:=E7 g (Ip a f)
 have v:=AM.lit (V:=F4) (l:=[[113],[81],[99,109],[109],[108],[99],[118],[121],[104],[114,101],[83],[115],[102],[70],[102,42],[66],[66,42],[98],[98,42],[110],[87],[87,42]]) j (rfl)
 refine A8 rfl<|A4<|A3 rfl<|A3 rfl<|Cs BQ rfl rfl ((Pi _ [[113],[81],[99,109],[109],[108],[99],[118],[121],[104],[114,101],[83],[115],[102],[70],[102,42],[66],[66,42],[98],[98,42],[110],[87],[87,42]] _ opn _ v dD)) (λJ x=>?_)
 obtain rfl:=x
 refine A8 rfl<|Ad<|A4<|A3 rfl<|A1 (.bis (false) (.lss rfl rfl) dD)<|A0<|Ay rfl rfl<|As<|A4<|A3 rfl<|A1 (.nck rfl)<|A1 (.fa JF rfl sizeOf4 dD rfl)<|Aj (Ae (isAgg4 _) rfl i rfl)<|A1 (.not rfl)<|Ch BQ rfl rfl ((O8 _ _)) (λF D d b=>?_) (λK D d b=>?_)
 exact Dp (LS d).1 (show ¬ (true=false) by decide)
 have k:=i.bl b
 have m:=t.bl b
 have e:=kB u b
 refine A0<|AT<|A4<|A3 rfl<|A1 (.bis (false) (.lss rfl rfl) dD)<|A8 rfl<|Ay rfl rfl<|A4<|A3 rfl<|A1 (.bis (false) (.lss rfl rfl) dD)<|A8 rfl<|Ay rfl rfl<|A4<|A3 rfl<|A1 (.bis (false) (.eqs rfl rfl) dD)<|A3 rfl<|AE rfl<|A3 rfl<|AE rfl<|A1 (.bis (false) (.eqs rfl rfl) dD)<|A1 (.pkF rfl rfl rfl)<|A8 rfl<|Ay rfl rfl<|An<|A3 rfl<|A3 rfl<|Au (XM bv bp fo _ k m hne) (λG o=>?_)
 obtain ⟨hK,y,A⟩:=o
 have B:=E7 e (Do hK e.size (by simp))
 refine A0<|D9 (CU rfl ?_)
 exact ⟨rfl,B,y,A⟩
def A0a (l:l8_):Prop:=l=[]\/l=[110]
theorem XV  (hl:A0a l) {a:Nat} (ha:a<=l.length):(a<l.length/\(OE l a).2.1=opn/\(OE l a).2.2.1=(l.length:Int)/\(OE l a).2.2.2=0)\/(a=l.length/\(OE l a).2.2.2=26):=by
  rcases hl with rfl | rfl
  · obtain rfl : a = 0 := Nat.le_zero.1 ha
    exact .inr ⟨rfl,by decide +kernel⟩
  · rcases By a 1 with h | h
    · obtain rfl : a = 0 := by omega
      exact .inl ⟨dD,by decide +kernel,by decide +kernel,by decide +kernel⟩
    · obtain rfl : a = 1 := Nat.le_antisymm ha h
      exact .inr ⟨rfl,by decide +kernel⟩
theorem A26 (bv bp:Nat) (fo:Value) (p:Option Addr) (l:l8_) (c:Nat) (hl:A0a l) (w:World) (h:B4 w bv (XL (Oy fo bp)).toArray 215) (hp:B4 w bp SK 232) (hne:bv≠bp)
  (hb:Af w p l) (hc:l.length<=c) (hpb:0<l.length->(pA p).block≠bv/\(pA p).block≠bp) :
  Calls Tryz.prog 148 #[ptV bv,.slice p l.length c] w (VnR bv bp fo w):=by
 have am:l.length<=1:=by rcases hl with rfl | rfl <;> decide
 have hP:∀ (f:World) (a:Nat),Af f p l->Calls Tryz.prog 164 #[.slice p l.length c,Ag (a:Int)] f λe w'=>∃ x:PC,e=.returned (.tuple #[.agg (VF x).toArray,.string (bs (OE l a).2.1),Ag (OE l a).2.2.1,Ag (OE l a).2.2.2])/\AL f w':=λf a N =>
  Calls.mono (UG p l c a f N hc oO) λe w' q=>by
   obtain ⟨⟨x,N,h2⟩,h3⟩:=q;exact ⟨x,N,h3⟩
 refine AF func148 rfl ntmps148 ?_
 have a8:=B9.refl w.heap.size ([bv,bp]) w
 refine Ad<|A4<|A8 rfl<|AT<|BO (α:=Nat) (λt=>[(0,ptV bv),(1,.slice p l.length c),(4,Ag (t:Int))]) (λt w'=>B9 w.heap.size [bv,bp] w w'/\B4 w' bv (XL (Oy fo bp)).toArray 215/\B4 w' bp SK 232/\Af w' p l/\t<=l.length) (λt=>l.length-t) (0) ⟨rfl,rfl,rfl,tT⟩ (⟨a8,h,hp,hb,FN _⟩) (λt f hR=>?_)
 obtain ⟨a,a9⟩:=eX t
 subst a9
 obtain ⟨j1,j2,j3,P,j5⟩:=hR
 have B:=λf=>hP f a
 have hT:=XV hl j5
 generalize OE l a=T at B hT
 obtain ⟨o,wd,nx,er⟩:=T
 simp only at B hT
 refine AT<|A4<|A3 rfl<|A3 rfl<|Bf BQ rfl rfl ((B _ P)) (λx f s=>?_)
 have H:=j2.bl s
 have J:=j3.bl s
 have K:=Fh P s (λk=>P.lt k)
 have L:=kB j1 s
 refine A3 rfl<|A1 (.ext rfl rfl)<|A1 (.ext rfl rfl)<|A1 (.ext rfl rfl)<|A1 (.ext rfl rfl)<|Bm CA rfl (λb6 an u Q g ak=>?_)
 have aa:=Bt u H.lt
 have ab:=H.un g aa
 have U:=Bt u J.lt
 have ac:=J.un g U
 have v:=λk=>u▸K.lt k
 have V:=Cy K g v
 have F:=CW u L.size
 have X:=E7 L (Ip g F)
 refine Az rfl rfl Q Ah rfl rfl (λao ah b ai=>?_)
 have d:=ab.up b
 have C:=ac.up b
 have D:=Cy V b v
 have m:=E7 X (by exact Ip b oO)
 refine CL rfl<|CL rfl<|A8 rfl<|Ad<|A4<|A3 rfl<|A1 (.eql rfl rfl)<|A0<|Ai rfl (λE=>?_) (λE=>?_)
 have a0:=dT E
 obtain ⟨rfl,-⟩:=hT.resolve_left (λq=>by have:=q.2.2.2;omega)
 refine BL<|An<|A3 rfl<|A1 (.nck rfl)<|A1 (.fa JF rfl CQ dD rfl)<|Aj (Ae (DW _) rfl d rfl)<|A1 (.lenS Cg rfl)<|A1 (.bis (true) (.eql rfl rfl) (by rfl))<|A3 rfl<|AE rfl<|A3 rfl<|AE rfl<|A1 (.nck rfl)<|AE rfl<|A1 (.fa JF rfl sizeOf213 dD rfl)<|AE rfl<|Aj (Ae (isAgg213 _) rfl d rfl)<|AE rfl<|A1 (.lenS underlying213 rfl)<|AE rfl<|A1 (.bis (true) (.eql rfl rfl) (by rfl))<|A1 (.pkT rfl rfl rfl)<|A3 rfl<|AE rfl<|A3 rfl<|AE rfl<|A1 (.nck rfl)<|AE rfl<|A1 (.fa JF rfl sizeOf4 dD rfl)<|AE rfl<|Aj (Ae (isAgg4 _) rfl d rfl)<|AE rfl<|A1 (.bis (true) (.not rfl) (by rfl))<|A1 (.pkT rfl rfl rfl)<|Ch BQ rfl rfl ((O8 _ _)) (λap ad y i=>?_) (λaq ad y i=>?_)
 exact Dp (LS y).1 (show ¬ (true=false) by decide)
 have a1:=d.bl i
 have a2:=C.bl i
 have a3:=kB m i
 refine A0<|D9 (CU rfl ?_)
 exact ⟨rfl,a3,a1,a2⟩
 have a0:=dF E
 obtain ⟨ha,rfl,rfl,rfl⟩:=hT.resolve_right (λq=>by have:=q.2;omega)
 refine As<|Ad<|A4<|A3 rfl<|A1 (.bis (false) (.neq rfl rfl) dD)<|A0<|Ay rfl rfl<|As<|A4<|A3 rfl<|A8 rfl<|Ad<|A4<|A3 rfl<|A1 (.bis (false) (.eqs rfl rfl) dD)<|A0<|Ay rfl rfl<|As<|A4<|A3 rfl<|A3 rfl<|Au (Sn bv bp fo _ d C hne) (λar a4=>?_)
 obtain ⟨hK,ae,af⟩:=a4
 have ag:=E7 m (Do hK m.size (by simp))
 have hb9:=(D).keepB hK (λk=>⟨(D).lt k,by have:=hpb k;simp [this.1,this.2]⟩)
 refine A0<|An<|A3 rfl<|A1 (.nck rfl)<|A1 (.fa JF rfl CQ dD rfl)<|W7 43 ((XL (Oy fo bp)).toArray) ae CQ (λau G j aj=>?_)
 have a5:=af.upd j oM
 have a6:=Af.upd hb9 j (λk=>(hpb k).1)
 have a7:=E7 ag (by exact Qc j (by simp))
 refine A0<|?_
 exact ⟨l.length,⟨rfl,rfl,rfl,tT⟩,⟨a7,G,a5,a6,DS _⟩,oM⟩
theorem Rl (b4 b5:Nat) (w:World) :
  CallsD Tryz.prog 145 #[ptV b4,ptV b5] .returning w λe u' w'=>u'=.returning/\(∃ v,e=.returned v)/\w'=w:=by
 refine Et func145 rfl ntmps145 bL rfl<|A0<|AT<|A4<|A1 (.eqNil0 kR rfl)<|A0<|BZ rfl rfl<|An<|A8 rfl<|D9 (CU rfl ?_)
 exact ⟨⟨_,rfl⟩,rfl⟩
theorem ZH:Tryz.prog.built 50 [(0,Ag 1)]=some (Hw (Py 1)).toArray:=by kernel_rfl
theorem A1Z:Tryz.prog.built 54 [(0,Ag 65536),(3,Ag 655360)]=some (WX Yx).toArray:=by kernel_rfl
theorem A3z:Tryz.prog.built 210 [(0,.agg (m6V m6I).toArray),(1,.agg (Hw (Py 1)).toArray),(2,.agg (Hw (Py 1)).toArray),(3,.agg (WX Yx).toArray),(4,.slice none 0 0),(5,Ag (-1)),(6,Ag 0)]=some (stV st1).toArray:=by kernel_rfl
theorem A3y (p:Option Addr) (n c bp:Nat):Tryz.prog.built 215 [(0,.agg (stV st1).toArray),(1,.slice p n c),(3,ptV bp)]=some (XL (Oy (.slice p n c) bp)).toArray:=by kernel_rfl
theorem XN (p:Option Addr) (l:l8_) (c:Nat) (hl:A0a l) (pf:Option Addr) (nf cf:Nat) (w:World) (hb:Af w p l) (hc:l.length<=c) :
  Cl 115 #[.slice p l.length c,.slice pf nf cf] w (.tuple #[.slice none 0 0,Ag 0]):=by
 refine Hk func115 rfl ntmps115 bL ?_
 refine WD.seq<|An<|Bm zeroValue44 rfl (λb1 aF a3 B C aA=>?_)
 have aa:=λf=>a3▸hb.lt f
 have a4:=Cy hb C aa
 have a5:=uB (Dh w) a3 C
 refine Bm Sk rfl (λb5 aG u D s aB=>?_)
 have aj:=Bt u B.lt
 have a6:=B.un s aj
 have ab:=λf=>u▸a4.lt f
 have a7:=Cy a4 s ab
 have E:=uB a5 u s
 have au:=CW u a5.size
 refine A0<|WD.defer rfl rfl<|NN ?_
 refine A4<|A1 (.build rfl ZH) ?_
 refine Bm zeroValue50 rfl (λa8 aC j Y h av=>?_)
 have ac:=Bt j a6.lt
 have ad:=Bt j D.lt
 have v:=λf=>j▸a7.lt f
 have ak:=CW j E.size
 refine Az rfl rfl Y YU rfl rfl (λam a i aw=>?_)
 refine A0<|Ad<|LN<|DF 10 rfl BS (λw'=>w'.heap[a8]?=am.heap[a8]?/\True) (λaH m=>?_)
 have F:=a.drew m
 have G:=(Cy (Cy a7 h v) i v).drew m
 have x:=BU (F.trans a.symm) BF
 refine C6 1 rfl (λw' hw'=>Vj (L:=Zu) underlying50 rfl YU ((hw'.1).trans a) (Py 1) (rfl) rfl) x rfl ?_
 refine C6 2 rfl (λw' hw'=>Vj (L:=Zu) underlying50 rfl YU ((hw'.1).trans a) (Py 1) (rfl) rfl) x rfl ?_
 refine Ac 3 rfl (.build rfl A1Z) x ?_
 refine Ac 5 rfl (.mv rfl) x ?_
 refine Br 0 rfl<|Au (RQ _) (λaI o=>?_)
 have H:=(((D.un h ad).up i).drew m).bl o
 have t:=F.bl o
 have J:=Fh G o (λf=>G.lt f)
 refine A0<|⟨⟨(t).trans (a).symm,tT⟩,?_⟩
 refine Ac 4 rfl (.build rfl A3z) ⟨(t).trans (a).symm,tT⟩ ?_
 refine Br 6 rfl<|Bf BQ rfl rfl ((A0Q 4096 _ dD)) (λbp an g=>?_)
 have K:=((((a6.un h ac).up i).drew m).bl o).bl g.1
 have N:=H.bl g.1
 have q:=t.bl g.1
 have P:=Fh J g.1 (λf=>J.lt f)
 have Q:=Ci (Ci (Cn.below (BR (uB E j h) oO i) m) o) g.1
 obtain ⟨aD,ao⟩:=g.2
 have a9:B4 an bp SK 232:=ao.blk
 have aJ:=(H).lt
 refine A0<|⟨⟨(q).trans (a).symm,tT⟩,?_⟩
 refine Ac 7 rfl (.build rfl (A3y pf nf cf bp)) ⟨(q).trans (a).symm,tT⟩ ?_
 refine Br 8 rfl<|WL.box rfl rfl (λap aE d Z b ax=>?_)
 have ae:=Bt d K.lt
 have T:=K.un b ae
 have af:=Bt d N.lt
 have U:=N.un b af
 have ag:=Bt d q.lt
 have V:=q.un b ag
 have ah:=Bt d a9.lt
 have a0:=λf=>d▸P.lt f
 have X:=uB Q d b
 have aq:=CW d Q.size
 refine A0<|⟨⟨(V).trans (a).symm,tT⟩,?_⟩
 refine Ac 9 rfl (.as rfl) ⟨(V).trans (a).symm,tT⟩ ?_
 refine C3 kR<|A4<|A3 rfl<|A3 rfl<|Au (A26 ap bp (.slice pf nf cf) p l c hl _ Z (a9.un b ah) oO (Cy P b a0) hc (λf=>by have:=hb.lt f;omega)) (λaK ai=>?_)
 obtain ⟨hK,ar,aL⟩:=ai
 refine A0<|A4<|A3 rfl<|A1 (.nck rfl)<|A1 (.fa JF rfl SA dD rfl)<|Aj (Ae (isAgg44 _) rfl ar rfl)<|C2 (B4.keepB T hK (T).lt (by simp only [A7,A6,Ax];omega)) SA (λaM a1 y ay=>?_)
 refine C2 ((B4.keepB U hK (U).lt (by simp only [A7,A6,Ax];omega)).up y) Fd (λaN a2 A az=>?_)
 refine A0<|AU ?_
 exact CX.ret A3t (λw'=>_) (Rl b1 b5 _) (λw' hS=>by
  subst hS;exact ⟨_,No rfl rfl rfl (B2 (a1.up A) (isAgg44 _) rfl) (B2 a2 (Eh _) rfl),rfl,(BR (BR (Ex X (hK.below X.size (by intro k hk;simp only [A7,A6,Ax] at hk;omega))) oO y) oO A)⟩)
def A08:Unit->Option Addr->Nat->Nat->World->Prop:=λ_ _ n _ _=>n=0
theorem A3e (B:Nat) (l:l8_) (hl:A0a l) (fs:List Nr):Sd B l fs (.ok ()) A08:=λw p c fv _ hb hc hf=>by
 obtain ⟨pf,cf,rfl,-⟩:=hf.row
 exact (XN p l c hl pf fs.length cf w hb hc).mono λe w' q=>⟨((none,0,0),0),q.1,q.2,λw2 _=>⟨rfl,rfl⟩⟩
end
section
theorem UO  (h:JM s):nmB s=true:=by
 obtain ⟨a,b,c⟩:=h
 have d:1<=s.length:=by cases s with | nil=>exact Dp rfl a | cons _ _=>simp
 unfold nmB
 rw [AH b,AR oO,AR oO]
 rfl
theorem A0P (i:Int) (kp lp dp:Option Addr) (kc lc dc:Nat) (D:Int) (st:Bool) (w:World) (h:Db i=true) :
  Cl 41 #[.agg #[Ag 2,Ag i,.string (bs []),.slice kp 0 kc,.slice lp 0 lc,.slice dp 0 dc],Ag D,.bool st] w (.bool true):=by
 refine AF func41 rfl ntmps41 ?_
 have c:=Dh w
 refine A4<|WL.box rfl rfl (λl d f a b k=>?_)
 have g:=uB c f b
 refine A8 rfl<|A4<|A1 (.fa Av rfl BI dD rfl)<|Aj (Ae (C5 _) rfl a rfl)<|A1 (.eql rfl rfl)<|A8 rfl<|A4<|A1 (.fa Av rfl FP dD rfl)<|Aj (Ae (FU _) rfl a rfl)<|A1 (.bis (true) (.eqs rfl rfl) (by rfl))<|A8 rfl<|A4<|A1 (.fa Av rfl E6 dD rfl)<|Aj (Ae (Fs _) rfl a rfl)<|A1 (.lenS DD rfl)<|A1 (.bis (true) (.eql rfl rfl) (by rfl))<|A8 rfl<|A4<|A1 (.fa Av rfl CQ dD rfl)<|Aj (Ae (DW _) rfl a rfl)<|A1 (.lenS Cg rfl)<|A1 (.bis (true) (.eql rfl rfl) (by rfl))<|A8 rfl<|A4<|A1 (.fa Av rfl CZ dD rfl)<|Aj (Ae (g22_ _) rfl a rfl)<|A1 (.lenS B1 rfl)<|A1 (.bis (true) (.eql rfl rfl) (by rfl))<|A8 rfl<|Ad<|A4<|A1 (.fa Av rfl BI dD rfl)<|Aj (Ae (C5 _) rfl a rfl)<|A0<|AT<|A4<|A1 (.bis (false) (.eql rfl rfl) (by rfl))<|A8 rfl<|Ay rfl rfl<|A4<|A1 (.bis (false) (.eql rfl rfl) (by rfl))<|A8 rfl<|Ay rfl rfl<|Ad<|A4<|A1 (.bis (true) (.eql rfl rfl) (by rfl))<|A8 rfl<|BZ rfl rfl<|As<|BZ rfl rfl<|A4<|A1 (.fa Av rfl BI dD rfl)<|Aj (Ae (C5 _) rfl a rfl)<|Au (by have q:=Yj i d;rw [h] at q;exact q) (λm j=>?_)
 obtain rfl:=j
 refine A3 rfl<|AE rfl<|A3 rfl<|A1 (.pkT rfl rfl rfl)<|A3 rfl<|AE rfl<|A3 rfl<|A1 (.pkT rfl rfl rfl)<|A3 rfl<|AE rfl<|A3 rfl<|A1 (.pkT rfl rfl rfl)<|A3 rfl<|AE rfl<|A3 rfl<|A1 (.pkT rfl rfl rfl)<|A8 rfl<|AY ?_
 exact ⟨rfl,g⟩
theorem A0O (s:l8_) (kp lp dp:Option Addr) (kc lc dc:Nat) (D:Int) (st:Bool) (w:World) (h:JM s) :
  Cl 41 #[.agg #[Ag 4,Ag 0,.string (bs s),.slice kp 0 kc,.slice lp 0 lc,.slice dp 0 dc],Ag D,.bool st] w (.bool true):=by
 have hn:=UO h
 have hl:=h.2.2
 refine AF func41 rfl ntmps41 ?_
 have b:=Dh w
 refine A4<|WL.box rfl rfl (λl f c a d k=>?_)
 have g:=uB b c d
 have j:=CW c b.size
 refine A8 rfl<|A4<|A1 (.fa Av rfl BI dD rfl)<|Aj (Ae (C5 _) rfl a rfl)<|A1 (.bis (true) (.eql rfl rfl) (by rfl))<|A8 rfl<|A4<|A1 (.fa Av rfl FP dD rfl)<|Aj (Ae (FU _) rfl a rfl)<|A1 (.eqs rfl rfl)<|A8 rfl<|A4<|A1 (.fa Av rfl E6 dD rfl)<|Aj (Ae (Fs _) rfl a rfl)<|A1 (.lenS DD rfl)<|A1 (.bis (true) (.eql rfl rfl) (by rfl))<|A8 rfl<|A4<|A1 (.fa Av rfl CQ dD rfl)<|Aj (Ae (DW _) rfl a rfl)<|A1 (.lenS Cg rfl)<|A1 (.bis (true) (.eql rfl rfl) (by rfl))<|A8 rfl<|A4<|A1 (.fa Av rfl CZ dD rfl)<|Aj (Ae (g22_ _) rfl a rfl)<|A1 (.lenS B1 rfl)<|A1 (.bis (true) (.eql rfl rfl) (by rfl))<|A8 rfl<|Ad<|A4<|A1 (.fa Av rfl BI dD rfl)<|Aj (Ae (C5 _) rfl a rfl)<|A0<|AT<|A4<|A1 (.bis (false) (.eql rfl rfl) (by rfl))<|A8 rfl<|Ay rfl rfl<|A4<|A1 (.bis (false) (.eql rfl rfl) (by rfl))<|A8 rfl<|Ay rfl rfl<|Ad<|A4<|A1 (.bis (false) (.eql rfl rfl) (by rfl))<|A8 rfl<|Ay rfl rfl<|An<|A1 (.bis (false) (.eql rfl rfl) (by rfl))<|A8 rfl<|Ay rfl rfl<|A4<|A1 (.bis (true) (.eql rfl rfl) (by rfl))<|A8 rfl<|BZ rfl rfl<|A4<|A3 rfl<|A3 rfl<|AE rfl<|A1 (.fa Av rfl FP dD rfl)<|AE rfl<|Aj (Ae (FU _) rfl a rfl)<|AE rfl<|Au (by have q:=N0 s f oO;rw [hn] at q;exact q) (λm i=>?_)
 obtain rfl:=i
 refine A1 (.pkT rfl rfl rfl)<|A3 rfl<|AE rfl<|A3 rfl<|A1 (.pkT rfl rfl rfl)<|A3 rfl<|AE rfl<|A3 rfl<|A1 (.pkT rfl rfl rfl)<|A3 rfl<|AE rfl<|A3 rfl<|A1 (.pkT rfl rfl rfl)<|A8 rfl<|AY ?_
 exact ⟨rfl,g⟩
theorem A0L (i:Int) (kp lp dp:Option Addr) (kc lc dc:Nat) (D:Int) (st:Bool) (w:World) (h:1<=i/\i<=4096) :
  Cl 41 #[.agg #[Ag 8,Ag i,.string (bs []),.slice kp 0 kc,.slice lp 0 lc,.slice dp 0 dc],Ag D,.bool st] w (.bool true):=by
 refine AF func41 rfl ntmps41 ?_
 have c:=Dh w
 refine A4<|WL.box rfl rfl (λk j d a b g=>?_)
 have f:=uB c d b
 refine A8 rfl<|A4<|A1 (.fa Av rfl BI dD rfl)<|Aj (Ae (C5 _) rfl a rfl)<|A1 (.eql rfl rfl)<|A8 rfl<|A4<|A1 (.fa Av rfl FP dD rfl)<|Aj (Ae (FU _) rfl a rfl)<|A1 (.bis (true) (.eqs rfl rfl) (by rfl))<|A8 rfl<|A4<|A1 (.fa Av rfl E6 dD rfl)<|Aj (Ae (Fs _) rfl a rfl)<|A1 (.lenS DD rfl)<|A1 (.bis (true) (.eql rfl rfl) (by rfl))<|A8 rfl<|A4<|A1 (.fa Av rfl CQ dD rfl)<|Aj (Ae (DW _) rfl a rfl)<|A1 (.lenS Cg rfl)<|A1 (.bis (true) (.eql rfl rfl) (by rfl))<|A8 rfl<|A4<|A1 (.fa Av rfl CZ dD rfl)<|Aj (Ae (g22_ _) rfl a rfl)<|A1 (.lenS B1 rfl)<|A1 (.bis (true) (.eql rfl rfl) (by rfl))<|A8 rfl<|Ad<|A4<|A1 (.fa Av rfl BI dD rfl)<|Aj (Ae (C5 _) rfl a rfl)<|A0<|AT<|A4<|A1 (.bis (false) (.eql rfl rfl) (by rfl))<|A8 rfl<|Ay rfl rfl<|A4<|A1 (.bis (false) (.eql rfl rfl) (by rfl))<|A8 rfl<|Ay rfl rfl<|Ad<|A4<|A1 (.bis (false) (.eql rfl rfl) (by rfl))<|A8 rfl<|Ay rfl rfl<|An<|A1 (.bis (false) (.eql rfl rfl) (by rfl))<|A8 rfl<|Ay rfl rfl<|A4<|A1 (.bis (false) (.eql rfl rfl) (by rfl))<|A8 rfl<|Ay rfl rfl<|A4<|A1 (.bis (false) (.eql rfl rfl) (by rfl))<|A8 rfl<|Ay rfl rfl<|A4<|A1 (.bis (true) (.eql rfl rfl) (by rfl))<|A8 rfl<|BZ rfl rfl<|A4<|A1 (.fa Av rfl BI dD rfl)<|Aj (Ae (C5 _) rfl a rfl)<|A1 (.bis (true) (.geq rfl rfl) (by exact AR oO))<|A3 rfl<|AE rfl<|A1 (.fa Av rfl BI dD rfl)<|AE rfl<|Aj (Ae (C5 _) rfl a rfl)<|AE rfl<|A1 (.bis (true) (.leq rfl rfl) (by exact AR oO))<|A1 (.pkT rfl rfl rfl)<|A3 rfl<|AE rfl<|A3 rfl<|A1 (.pkT rfl rfl rfl)<|A3 rfl<|AE rfl<|A3 rfl<|A1 (.pkT rfl rfl rfl)<|A3 rfl<|AE rfl<|A3 rfl<|A1 (.pkT rfl rfl rfl)<|A3 rfl<|AE rfl<|A3 rfl<|A1 (.pkT rfl rfl rfl)<|A8 rfl<|AY ?_
 exact ⟨rfl,f⟩
theorem A0N (kp lp dp:Option Addr) (kc lc dc:Nat) (D:Int) (st:Bool) (cs:List AC) (list:List AV) (S:Nat->Prop) (w:World) (hD:1<=D) (hD2:D<=100) (hl:cs.length<=65535) (hr:AA Fi w lp cs) (hA:AJ w S cs list)
  (ih:∀ i (h:i<cs.length) (h2:i<list.length) w1,At w1 S cs[i] list[i]->Calls Tryz.prog 41 #[.agg (D3 cs[i]).toArray,Ag (D-1),.bool false] w1 λe w'=>e=.returned (.bool true)/\AL w1 w') :
  Cl 41 #[.agg #[Ag 6,Ag 0,.string (bs []),.slice kp 0 kc,.slice lp cs.length lc,.slice dp 0 dc],Ag D,.bool st] w (.bool true):=by
 have K:=hA.len
 refine AF func41 rfl ntmps41 ?_
 have m:=Dh w
 refine A4<|WL.box rfl rfl (λy A g a c L=>?_)
 have B:=AJ.same (w1:=A) hA (λk hk hl=>c.other k oO)
 have s:=λj=>g▸hr.lt j
 have C:=AA.upd hr c (λj=>CV (s j))
 have E:=uB m g c
 have J:=CW g m.size
 refine A8 rfl<|A4<|A1 (.fa Av rfl BI dD rfl)<|Aj (Ae (C5 _) rfl a rfl)<|A1 (.bis (true) (.eql rfl rfl) (by rfl))<|A8 rfl<|A4<|A1 (.fa Av rfl FP dD rfl)<|Aj (Ae (FU _) rfl a rfl)<|A1 (.bis (true) (.eqs rfl rfl) (by rfl))<|A8 rfl<|A4<|A1 (.fa Av rfl E6 dD rfl)<|Aj (Ae (Fs _) rfl a rfl)<|A1 (.lenS DD rfl)<|A1 (.bis (true) (.eql rfl rfl) (by rfl))<|A8 rfl<|A4<|A1 (.fa Av rfl CQ dD rfl)<|Aj (Ae (DW _) rfl a rfl)<|A1 (.lenS Cg rfl)<|A1 (.eql rfl rfl)<|A8 rfl<|A4<|A1 (.fa Av rfl CZ dD rfl)<|Aj (Ae (g22_ _) rfl a rfl)<|A1 (.lenS B1 rfl)<|A1 (.bis (true) (.eql rfl rfl) (by rfl))<|A8 rfl<|Ad<|A4<|A1 (.fa Av rfl BI dD rfl)<|Aj (Ae (C5 _) rfl a rfl)<|A0<|AT<|A4<|A1 (.bis (false) (.eql rfl rfl) (by rfl))<|A8 rfl<|Ay rfl rfl<|A4<|A1 (.bis (false) (.eql rfl rfl) (by rfl))<|A8 rfl<|Ay rfl rfl<|Ad<|A4<|A1 (.bis (false) (.eql rfl rfl) (by rfl))<|A8 rfl<|Ay rfl rfl<|An<|A1 (.bis (false) (.eql rfl rfl) (by rfl))<|A8 rfl<|Ay rfl rfl<|A4<|A1 (.bis (false) (.eql rfl rfl) (by rfl))<|A8 rfl<|Ay rfl rfl<|A4<|A1 (.bis (false) (.eql rfl rfl) (by rfl))<|A8 rfl<|Ay rfl rfl<|A4<|A1 (.bis (false) (.eql rfl rfl) (by rfl))<|A8 rfl<|Ay rfl rfl<|A4<|A1 (.bis (true) (.eql rfl rfl) (by rfl))<|A8 rfl<|BZ rfl rfl<|A4<|A3 rfl<|A1 (.bis (false) (.lss rfl rfl) (by exact AH oO))<|A3 rfl<|AE rfl<|A3 rfl<|AE rfl<|A1 (.not rfl)<|A1 (.pkF rfl rfl rfl)<|A3 rfl<|AE rfl<|A3 rfl<|AE rfl<|A1 (.not rfl)<|A1 (.pkF rfl rfl rfl)<|A3 rfl<|AE rfl<|A3 rfl<|AE rfl<|A1 (.not rfl)<|A1 (.pkF rfl rfl rfl)<|A3 rfl<|AE rfl<|A3 rfl<|AE rfl<|A1 (.not rfl)<|A1 (.pkF rfl rfl rfl)<|A0<|Ay rfl rfl<|As<|Ad<|A4<|A1 (.fa Av rfl CQ dD rfl)<|Aj (Ae (DW _) rfl a rfl)<|A1 (.lenS Cg rfl)<|A1 (.bis (false) (.gtr rfl rfl) (by exact AH oO))<|A0<|Ay rfl rfl<|As<|Ad<|A4<|A8 rfl<|AT<|BO (α:=Nat) (λt=>[(1,Ag D),(3,ptV y),(14,Ag (t:Int))]) (λt w'=>AL w w'/\B4 w' y #[Ag 6,Ag 0,.string (bs []),.slice kp 0 kc,.slice lp cs.length lc,.slice dp 0 dc] 27/\AA Fi w' lp cs/\AJ w' S cs list/\t<=cs.length) (λt=>cs.length-t) (0) ⟨rfl,rfl,rfl,tT⟩ (⟨E,a,C,B,FN _⟩) (λt w1 hR=>?_)
 obtain ⟨f,rfl⟩:=eX t
 obtain ⟨o,l,b,q,P⟩:=hR
 refine Ad<|A4<|A3 rfl<|A1 (.fa Av rfl CQ dD rfl)<|Aj (Ae (DW _) rfl l rfl)<|A1 (.lenS Cg rfl)<|A1 (.lss rfl rfl)<|A0<|Ai rfl (λu=>?_) (λu=>?_)
 have F:=dT u
 refine As<|Ad<|AT<|A4<|A1 (.fa Av rfl CQ dD rfl)<|Aj (Ae (DW _) rfl l rfl)<|A3 rfl<|A1 (.ixm Cg Dd rfl rfl (b.isp oO) (f) (rfl) oO)<|Aj (DG Av rfl Ah b (f) oO rfl)<|A3 rfl<|A1 (.sub rfl rfl (Bb oO))<|Au (ih f oO oO _ ((q).sub f oO oO)) (λN d=>?_)
 have G:=AJ.same (w1:=N) q (λk hk hl=>d.block k hl)
 have H:=l.bl d
 have v:=Ea b d (λj=>b.lt j)
 have x:=Ci o d
 refine A1 (.not rfl)<|A0<|Ay rfl rfl<|As<|An<|A3 rfl<|A1 (.iis (((f+1:Nat):Int)) (.add rfl rfl (Bb oO)) oO)<|A8 rfl ?_
 exact ⟨f+1,⟨rfl,rfl,rfl,tT⟩,⟨x,H,v,G,oM⟩,oM⟩
 have F:=dF u
 refine BL<|A4<|A8 rfl<|AY ?_
 exact ⟨rfl,o⟩
theorem A0M (kp lp dp:Option Addr) (kc lc dc:Nat) (D:Int) (st:Bool) (keys:List (l8_)) (cs:List AC) (list:List AV) (S:Nat->Prop) (w:World) (hD:1<=D) (hD2:D<=100) (hl:cs.length<=65535) (hkl:keys.length=list.length) (hn:∀ x∈keys,JM x) (hnd:keys.Nodup) (hk:AM F4 w kp keys) (hr:AA Fi w lp cs) (hA:AJ w S cs list)
  (ih:∀ i (h:i<cs.length) (h2:i<list.length) w1,At w1 S cs[i] list[i]->Calls Tryz.prog 41 #[.agg (D3 cs[i]).toArray,Ag (D-1),.bool false] w1 λe w'=>e=.returned (.bool true)/\AL w1 w') :
  Cl 41 #[.agg #[Ag 7,Ag 0,.string (bs []),.slice kp keys.length kc,.slice lp cs.length lc,.slice dp 0 dc],Ag D,.bool st] w (.bool true):=by
 have aq:=hA.len
 have ae:∀ i (h:i<keys.length),nmB keys[i]=true:=λi h=>UO (hn _ (Ar h))
 have af:∀ i (h:i<keys.length),keys[i].length<=127:=λi h=>(hn _ (Ar h)).2.2
 refine AF func41 rfl ntmps41 ?_
 have K:=Dh w
 refine A4<|WL.box rfl rfl (λy ag u a g ar=>?_)
 have ah:=AJ.same (w1:=ag) hA (λk hk hl=>g.other k oO)
 have a0:=λj=>u▸hk.lt j
 have ai:=AM.upd hk g (λj=>CV (a0 j))
 have a1:=λj=>u▸hr.lt j
 have aj:=AA.upd hr g (λj=>CV (a1 j))
 have ak:=uB K u g
 have ap:=CW u K.size
 refine A8 rfl<|A4<|A1 (.fa Av rfl BI dD rfl)<|Aj (Ae (C5 _) rfl a rfl)<|A1 (.bis (true) (.eql rfl rfl) (by rfl))<|A8 rfl<|A4<|A1 (.fa Av rfl FP dD rfl)<|Aj (Ae (FU _) rfl a rfl)<|A1 (.bis (true) (.eqs rfl rfl) (by rfl))<|A8 rfl<|A4<|A1 (.fa Av rfl E6 dD rfl)<|Aj (Ae (Fs _) rfl a rfl)<|A1 (.lenS DD rfl)<|A1 (.eql rfl rfl)<|A8 rfl<|A4<|A1 (.fa Av rfl CQ dD rfl)<|Aj (Ae (DW _) rfl a rfl)<|A1 (.lenS Cg rfl)<|A1 (.eql rfl rfl)<|A8 rfl<|A4<|A1 (.fa Av rfl CZ dD rfl)<|Aj (Ae (g22_ _) rfl a rfl)<|A1 (.lenS B1 rfl)<|A1 (.bis (true) (.eql rfl rfl) (by rfl))<|A8 rfl<|Ad<|A4<|A1 (.fa Av rfl BI dD rfl)<|Aj (Ae (C5 _) rfl a rfl)<|A0<|AT<|A4<|A1 (.bis (false) (.eql rfl rfl) (by rfl))<|A8 rfl<|Ay rfl rfl<|A4<|A1 (.bis (false) (.eql rfl rfl) (by rfl))<|A8 rfl<|Ay rfl rfl<|Ad<|A4<|A1 (.bis (false) (.eql rfl rfl) (by rfl))<|A8 rfl<|Ay rfl rfl<|An<|A1 (.bis (false) (.eql rfl rfl) (by rfl))<|A8 rfl<|Ay rfl rfl<|A4<|A1 (.bis (false) (.eql rfl rfl) (by rfl))<|A8 rfl<|Ay rfl rfl<|A4<|A1 (.bis (false) (.eql rfl rfl) (by rfl))<|A8 rfl<|Ay rfl rfl<|A4<|A1 (.bis (false) (.eql rfl rfl) (by rfl))<|A8 rfl<|Ay rfl rfl<|A4<|A1 (.bis (false) (.eql rfl rfl) (by rfl))<|A8 rfl<|Ay rfl rfl<|Ad<|A4<|A1 (.bis (true) (.eql rfl rfl) (by rfl))<|A8 rfl<|BZ rfl rfl<|As<|BZ rfl rfl<|Ad<|A4<|A3 rfl<|A1 (.bis (false) (.lss rfl rfl) (by exact AH oO))<|A3 rfl<|AE rfl<|A3 rfl<|AE rfl<|A1 (.not rfl)<|A1 (.pkF rfl rfl rfl)<|A3 rfl<|AE rfl<|A3 rfl<|AE rfl<|A1 (.not rfl)<|A1 (.pkF rfl rfl rfl)<|A3 rfl<|AE rfl<|A1 (.fa Av rfl E6 dD rfl)<|AE rfl<|Aj (Ae (Fs _) rfl a rfl)<|AE rfl<|A1 (.lenS DD rfl)<|AE rfl<|A1 (.fa Av rfl CQ dD rfl)<|AE rfl<|Aj (Ae (DW _) rfl a rfl)<|AE rfl<|A1 (.lenS Cg rfl)<|AE rfl<|A1 (.bis (false) (.neq rfl rfl) (by (have e:keys.length=cs.length:=by omega);(rw [e];simp)))<|A1 (.pkF rfl rfl rfl)<|A3 rfl<|AE rfl<|A1 (.fa Av rfl BI dD rfl)<|AE rfl<|Aj (Ae (C5 _) rfl a rfl)<|AE rfl<|A1 (.bis (true) (.eql rfl rfl) (by rfl))<|AE rfl<|A3 rfl<|AE rfl<|A3 rfl<|AE rfl<|A1 (.not rfl)<|AE rfl<|A1 (.pkT rfl rfl rfl)<|A1 (.pkF rfl rfl rfl)<|A3 rfl<|AE rfl<|A1 (.fa Av rfl BI dD rfl)<|AE rfl<|Aj (Ae (C5 _) rfl a rfl)<|AE rfl<|A1 (.bis (false) (.eql rfl rfl) (by rfl))<|AE rfl<|A3 rfl<|B6 rfl<|B6 rfl<|B6 rfl<|KR<|KR<|KR<|KR<|B6 rfl<|AE rfl<|A1 (.pkF rfl rfl rfl)<|A1 (.pkF rfl rfl rfl)<|A0<|Ay rfl rfl<|As<|A4<|A8 rfl<|AT<|BO (α:=Nat) (λt=>[(1,Ag D),(2,.bool st),(3,ptV y),(12,Ag (t:Int))]) (λt w'=>AL w w'/\B4 w' y #[Ag 7,Ag 0,.string (bs []),.slice kp keys.length kc,.slice lp cs.length lc,.slice dp 0 dc] 27/\AM F4 w' kp keys/\AA Fi w' lp cs/\AJ w' S cs list/\t<=keys.length) (λt=>keys.length-t) (0) ⟨rfl,rfl,rfl,rfl,tT⟩ (⟨ak,a,ai,aj,ah,FN _⟩) (λt w1 hR=>?_)
 obtain ⟨b,rfl⟩:=eX t
 obtain ⟨L,f,s,B,P,ht⟩:=hR
 refine Ad<|A4<|A3 rfl<|A1 (.fa Av rfl E6 dD rfl)<|Aj (Ae (Fs _) rfl f rfl)<|A1 (.lenS DD rfl)<|A1 (.lss rfl rfl)<|A0<|Ai rfl (λh8=>?_) (λh8=>?_)
 have al:=dT h8
 refine As<|Ad<|AT<|Ad<|A4<|A1 (.fa Av rfl E6 dD rfl)<|Aj (Ae (Fs _) rfl f rfl)<|A3 rfl<|A1 (.ixb DD FP rfl rfl (s.isp oO) (b) (rfl) oO)<|Aj (BG (FU _) rfl (s.cells (b) oO))<|Au (by have q:=N0 (keys[b]'oO) w1 (by have:=af b oO;omega);rw [ae b oO] at q;exact q) (λw9 am=>?_)
 obtain rfl:=am
 refine A1 (.not rfl)<|A3 rfl<|AE rfl<|A1 (.fa Av rfl BI dD rfl)<|AE rfl<|Aj (Ae (C5 _) rfl f rfl)<|AE rfl<|A1 (.bis (false) (.eql rfl rfl) (by rfl))<|AE rfl<|A3 rfl<|B6 rfl<|B6 rfl<|B6 rfl<|B6 rfl<|B6 rfl<|B6 rfl<|AE rfl<|A1 (.pkF rfl rfl rfl)<|A1 (.pkF rfl rfl rfl)<|A0<|Ay rfl rfl<|As<|A4<|A8 rfl<|AT<|BO (α:=Nat) (λt=>[(1,Ag D),(2,.bool st),(3,ptV y),(12,Ag (b:Int)),(13,Ag (t:Int))]) (λt w'=>AL w w'/\B4 w' y #[Ag 7,Ag 0,.string (bs []),.slice kp keys.length kc,.slice lp cs.length lc,.slice dp 0 dc] 27/\AM F4 w' kp keys/\AA Fi w' lp cs/\AJ w' S cs list/\t<=b) (λt=>b-t) (0) ⟨rfl,rfl,rfl,rfl,rfl,tT⟩ (⟨L,f,s,B,P,FN _⟩) (λt w1 hR=>?_)
 obtain ⟨C,rfl⟩:=eX t
 obtain ⟨Q,v,c,E,T,au⟩:=hR
 refine Ad<|A4<|A3 rfl<|A3 rfl<|A1 (.lss rfl rfl)<|A0<|Ai rfl (λF=>?_) (λF=>?_)
 have a2:=dT F
 refine As<|Ad<|AT<|Ad<|DE BS kR<|WQ.p (.fa Av rfl E6 dD rfl) rfl<|D2 (λm=>Ae (Fs _) rfl v rfl) rfl<|WQ.p (.mv rfl) rfl<|WQ.p (.ixb DD FP rfl rfl (c.isp oO) (C) (rfl) oO) rfl<|D2 (λm=>BG (FU _) rfl ((c.drewN m).cells (C) oO)) rfl<|WQ.p (.fa Av rfl E6 dD rfl) rfl<|D2 (λm=>Ae (Fs _) rfl v rfl) rfl<|WQ.p (.mv rfl) rfl<|WQ.p (.ixb DD FP rfl rfl (c.isp oO) (b) (rfl) oO) rfl<|D2 (λm=>BG (FU _) rfl ((c.drewN m).cells (b) oO)) rfl<|WQ.p (.eqs rfl rfl) rfl<|CO (λan d=>?_)
 have a3:=AJ.same (w1:=an) T (λk hk hl=>(by obtain ⟨m,rfl⟩:=d;rfl))
 have a4:=v.drew d
 have a5:=c.drew d
 have a6:=E.drew d
 have a7:=Cn.below Q d
 refine Ai rfl (λG=>?_) (λG=>?_)
 have a8:=dT G
 exact Dp ((List.nodup_iff_pairwise_ne.1 hnd |> List.pairwise_iff_getElem.1) C b oO oO oO) (λh=>h aS)
 have a8:=dF G
 refine As<|An<|A3 rfl<|A1 (.iis (((C+1:Nat):Int)) (.add rfl rfl (Bb oO)) oO)<|A8 rfl ?_
 exact ⟨C+1,⟨rfl,rfl,rfl,rfl,rfl,tT⟩,⟨a7,a4,a5,a6,a3,oM⟩,oM⟩
 have a2:=dF F
 refine BL<|An<|A3 rfl<|A1 (.iis (((b+1:Nat):Int)) (.add rfl rfl (Bb oO)) oO)<|A8 rfl ?_
 exact ⟨b+1,⟨rfl,rfl,rfl,rfl,tT⟩,⟨Q,v,c,E,T,oM⟩,oM⟩
 have al:=dF h8
 refine BL<|Ad<|A4<|A1 (.fa Av rfl CQ dD rfl)<|Aj (Ae (DW _) rfl f rfl)<|A1 (.lenS Cg rfl)<|A1 (.bis (false) (.gtr rfl rfl) (by exact AH oO))<|A0<|Ay rfl rfl<|As<|Ad<|A4<|A8 rfl<|AT<|BO (α:=Nat) (λt=>[(1,Ag D),(3,ptV y),(14,Ag (t:Int))]) (λt w'=>AL w w'/\B4 w' y #[Ag 7,Ag 0,.string (bs []),.slice kp keys.length kc,.slice lp cs.length lc,.slice dp 0 dc] 27/\AA Fi w' lp cs/\AJ w' S cs list/\t<=cs.length) (λt=>cs.length-t) (0) ⟨rfl,rfl,rfl,tT⟩ (⟨L,f,B,P,FN _⟩) (λt w1 hR=>?_)
 obtain ⟨A,rfl⟩:=eX t
 obtain ⟨V,H,l,X,av⟩:=hR
 refine Ad<|A4<|A3 rfl<|A1 (.fa Av rfl CQ dD rfl)<|Aj (Ae (DW _) rfl H rfl)<|A1 (.lenS Cg rfl)<|A1 (.lss rfl rfl)<|A0<|Ai rfl (λJ=>?_) (λJ=>?_)
 have a9:=dT J
 refine As<|Ad<|AT<|A4<|A1 (.fa Av rfl CQ dD rfl)<|Aj (Ae (DW _) rfl H rfl)<|A3 rfl<|A1 (.ixm Cg Dd rfl rfl (l.isp oO) (A) (rfl) oO)<|Aj (DG Av rfl Ah l (A) oO rfl)<|A3 rfl<|A1 (.sub rfl rfl (Bb oO))<|Au (ih A oO oO _ ((X).sub A oO oO)) (λao o=>?_)
 have aa:=AJ.same (w1:=ao) X (λk hk hl=>o.block k hl)
 have ab:=H.bl o
 have ac:=Ea l o (λj=>l.lt j)
 have ad:=Ci V o
 refine A1 (.not rfl)<|A0<|Ay rfl rfl<|As<|An<|A3 rfl<|A1 (.iis (((A+1:Nat):Int)) (.add rfl rfl (Bb oO)) oO)<|A8 rfl ?_
 exact ⟨A+1,⟨rfl,rfl,rfl,tT⟩,⟨ad,ab,ac,aa,oM⟩,oM⟩
 have a9:=dF J
 refine BL<|A4<|A8 rfl<|AY ?_
 exact ⟨rfl,V⟩
theorem A0K (kp lp dp:Option Addr) (kc lc dc:Nat) (D:Int) (keys:List (l8_)) (data:l8_) (hdl:data.length<=1048576) (hno:[76,101,110,103,116,104] ∉ keys) (cs:List AC) (list:List AV) (S:Nat->Prop) (w:World) (hD:1<=D) (hD2:D<=100) (hl:cs.length<=65535) (hkl:keys.length=list.length) (hn:∀ x∈keys,JM x) (hnd:keys.Nodup) (hk:AM F4 w kp keys) (hr:AA Fi w lp cs) (hA:AJ w S cs list)
  (ih:∀ i (h:i<cs.length) (h2:i<list.length) w1,At w1 S cs[i] list[i]->Calls Tryz.prog 41 #[.agg (D3 cs[i]).toArray,Ag (D-1),.bool false] w1 λe w'=>e=.returned (.bool true)/\AL w1 w') :
  Cl 41 #[.agg #[Ag 9,Ag 0,.string (bs []),.slice kp keys.length kc,.slice lp cs.length lc,.slice dp data.length dc],Ag D,.bool true] w (.bool true):=by
 have aq:=hA.len
 have af:∀ i (h:i<keys.length),nmB keys[i]=true:=λi h=>UO (hn _ (Ar h))
 have ag:∀ i (h:i<keys.length),keys[i].length<=127:=λi h=>(hn _ (Ar h)).2.2
 refine AF func41 rfl ntmps41 ?_
 have L:=Dh w
 refine A4<|WL.box rfl rfl (λy ah u a j ar=>?_)
 have ai:=AJ.same (w1:=ah) hA (λk hk hl=>j.other k oO)
 have a0:=λl=>u▸hk.lt l
 have aj:=AM.upd hk j (λl=>CV (a0 l))
 have a1:=λl=>u▸hr.lt l
 have ak:=AA.upd hr j (λl=>CV (a1 l))
 have al:=uB L u j
 have ap:=CW u L.size
 refine A8 rfl<|A4<|A1 (.fa Av rfl BI dD rfl)<|Aj (Ae (C5 _) rfl a rfl)<|A1 (.bis (true) (.eql rfl rfl) (by rfl))<|A8 rfl<|A4<|A1 (.fa Av rfl FP dD rfl)<|Aj (Ae (FU _) rfl a rfl)<|A1 (.bis (true) (.eqs rfl rfl) (by rfl))<|A8 rfl<|A4<|A1 (.fa Av rfl E6 dD rfl)<|Aj (Ae (Fs _) rfl a rfl)<|A1 (.lenS DD rfl)<|A1 (.eql rfl rfl)<|A8 rfl<|A4<|A1 (.fa Av rfl CQ dD rfl)<|Aj (Ae (DW _) rfl a rfl)<|A1 (.lenS Cg rfl)<|A1 (.eql rfl rfl)<|A8 rfl<|A4<|A1 (.fa Av rfl CZ dD rfl)<|Aj (Ae (g22_ _) rfl a rfl)<|A1 (.lenS B1 rfl)<|A1 (.eql rfl rfl)<|A8 rfl<|Ad<|A4<|A1 (.fa Av rfl BI dD rfl)<|Aj (Ae (C5 _) rfl a rfl)<|A0<|AT<|A4<|A1 (.bis (false) (.eql rfl rfl) (by rfl))<|A8 rfl<|Ay rfl rfl<|A4<|A1 (.bis (false) (.eql rfl rfl) (by rfl))<|A8 rfl<|Ay rfl rfl<|Ad<|A4<|A1 (.bis (false) (.eql rfl rfl) (by rfl))<|A8 rfl<|Ay rfl rfl<|An<|A1 (.bis (false) (.eql rfl rfl) (by rfl))<|A8 rfl<|Ay rfl rfl<|A4<|A1 (.bis (false) (.eql rfl rfl) (by rfl))<|A8 rfl<|Ay rfl rfl<|A4<|A1 (.bis (false) (.eql rfl rfl) (by rfl))<|A8 rfl<|Ay rfl rfl<|A4<|A1 (.bis (false) (.eql rfl rfl) (by rfl))<|A8 rfl<|Ay rfl rfl<|A4<|A1 (.bis (false) (.eql rfl rfl) (by rfl))<|A8 rfl<|Ay rfl rfl<|Ad<|A4<|A1 (.bis (false) (.eql rfl rfl) (by rfl))<|A8 rfl<|Ay rfl rfl<|An<|A1 (.bis (true) (.eql rfl rfl) (by rfl))<|A8 rfl<|BZ rfl rfl<|Ad<|A4<|A3 rfl<|A1 (.bis (false) (.lss rfl rfl) (by exact AH oO))<|A3 rfl<|AE rfl<|A3 rfl<|AE rfl<|A1 (.not rfl)<|A1 (.pkF rfl rfl rfl)<|A3 rfl<|AE rfl<|A3 rfl<|AE rfl<|A1 (.not rfl)<|A1 (.pkF rfl rfl rfl)<|A3 rfl<|AE rfl<|A1 (.fa Av rfl E6 dD rfl)<|AE rfl<|Aj (Ae (Fs _) rfl a rfl)<|AE rfl<|A1 (.lenS DD rfl)<|AE rfl<|A1 (.fa Av rfl CQ dD rfl)<|AE rfl<|Aj (Ae (DW _) rfl a rfl)<|AE rfl<|A1 (.lenS Cg rfl)<|AE rfl<|A1 (.bis (false) (.neq rfl rfl) (by (have e:keys.length=cs.length:=by omega);(rw [e];simp)))<|A1 (.pkF rfl rfl rfl)<|A3 rfl<|AE rfl<|A1 (.fa Av rfl BI dD rfl)<|AE rfl<|Aj (Ae (C5 _) rfl a rfl)<|AE rfl<|A1 (.bis (false) (.eql rfl rfl) (by rfl))<|AE rfl<|A3 rfl<|B6 rfl<|B6 rfl<|AE rfl<|A1 (.pkF rfl rfl rfl)<|A1 (.pkF rfl rfl rfl)<|A3 rfl<|AE rfl<|A1 (.fa Av rfl BI dD rfl)<|AE rfl<|Aj (Ae (C5 _) rfl a rfl)<|AE rfl<|A1 (.bis (true) (.eql rfl rfl) (by rfl))<|AE rfl<|A3 rfl<|AE rfl<|A3 rfl<|AE rfl<|A1 (.not rfl)<|AE rfl<|A3 rfl<|Cc rfl rfl rfl (λB=>?_) (λB=>?_)
 refine A1 (.fa Av rfl CZ dD rfl)<|Ik rfl rfl rfl (by rw [(nF B)] <;> rfl)<|Aj (Ae (g22_ _) rfl a rfl)<|Ik rfl rfl rfl (by rw [(nF B)] <;> rfl)<|A1 (.lenS B1 rfl)<|Ik rfl rfl rfl (by rw [(nF B)] <;> rfl)<|A1 (.bis (false) (.gtr rfl rfl) (by exact AH oO))<|AE rfl<|A1 (.pkF rfl (by rw [(nF B)] <;> rfl) rfl)<|AE rfl<|A1 (.pkT rfl rfl rfl)<|A1 (.pkF rfl rfl rfl)<|A0<|Ay rfl rfl<|As<|A4<|A8 rfl<|AT<|BO (α:=Nat) (λt=>[(1,Ag D),(2,.bool true),(3,ptV y),(12,Ag (t:Int))]) (λt w'=>AL w w'/\B4 w' y #[Ag 9,Ag 0,.string (bs []),.slice kp keys.length kc,.slice lp cs.length lc,.slice dp data.length dc] 27/\AM F4 w' kp keys/\AA Fi w' lp cs/\AJ w' S cs list/\t<=keys.length) (λt=>keys.length-t) (0) ⟨rfl,rfl,rfl,rfl,tT⟩ (⟨al,a,aj,ak,ai,FN _⟩) (λt w1 hR=>?_)
 obtain ⟨b,rfl⟩:=eX t
 obtain ⟨P,d,f,C,Q,ht⟩:=hR
 refine Ad<|A4<|A3 rfl<|A1 (.fa Av rfl E6 dD rfl)<|Aj (Ae (Fs _) rfl d rfl)<|A1 (.lenS DD rfl)<|A1 (.lss rfl rfl)<|A0<|Ai rfl (λh9=>?_) (λh9=>?_)
 have am:=dT h9
 refine As<|Ad<|AT<|Ad<|A4<|A1 (.fa Av rfl E6 dD rfl)<|Aj (Ae (Fs _) rfl d rfl)<|A3 rfl<|A1 (.ixb DD FP rfl rfl (f.isp oO) (b) (rfl) oO)<|Aj (BG (FU _) rfl (f.cells (b) oO))<|Au (by have q:=N0 (keys[b]'oO) w1 (by have:=ag b oO;omega);rw [af b oO] at q;exact q) (λau a2=>?_)
 obtain rfl:=a2
 refine A1 (.not rfl)<|A3 rfl<|AE rfl<|A1 (.fa Av rfl BI dD rfl)<|AE rfl<|Aj (Ae (C5 _) rfl d rfl)<|AE rfl<|A1 (.bis (true) (.eql rfl rfl) (by rfl))<|AE rfl<|A3 rfl<|AE rfl<|A1 (.fa Av rfl E6 dD rfl)<|AE rfl<|Aj (Ae (Fs _) rfl d rfl)<|AE rfl<|A3 rfl<|AE rfl<|A1 (.ixb DD FP rfl rfl (f.isp oO) (b) (rfl) oO)<|AE rfl<|Aj (BG (FU _) rfl (f.cells (b) oO))<|AE rfl<|A1 (.bis (false) (.eqs rfl rfl) (by exact AH (λe=>hno (e▸Ar oO))))<|AE rfl<|A1 (.pkT rfl rfl rfl)<|A1 (.pkF rfl rfl rfl)<|A0<|Ay rfl rfl<|As<|A4<|A8 rfl<|AT<|BO (α:=Nat) (λt=>[(1,Ag D),(2,.bool true),(3,ptV y),(12,Ag (b:Int)),(13,Ag (t:Int))]) (λt w'=>AL w w'/\B4 w' y #[Ag 9,Ag 0,.string (bs []),.slice kp keys.length kc,.slice lp cs.length lc,.slice dp data.length dc] 27/\AM F4 w' kp keys/\AA Fi w' lp cs/\AJ w' S cs list/\t<=b) (λt=>b-t) (0) ⟨rfl,rfl,rfl,rfl,rfl,tT⟩ (⟨P,d,f,C,Q,FN _⟩) (λt w1 hR=>?_)
 obtain ⟨E,rfl⟩:=eX t
 obtain ⟨T,v,c,F,U,av⟩:=hR
 refine Ad<|A4<|A3 rfl<|A3 rfl<|A1 (.lss rfl rfl)<|A0<|Ai rfl (λG=>?_) (λG=>?_)
 have a3:=dT G
 refine As<|Ad<|AT<|Ad<|DE BS kR<|WQ.p (.fa Av rfl E6 dD rfl) rfl<|D2 (λm=>Ae (Fs _) rfl v rfl) rfl<|WQ.p (.mv rfl) rfl<|WQ.p (.ixb DD FP rfl rfl (c.isp oO) (E) (rfl) oO) rfl<|D2 (λm=>BG (FU _) rfl ((c.drewN m).cells (E) oO)) rfl<|WQ.p (.fa Av rfl E6 dD rfl) rfl<|D2 (λm=>Ae (Fs _) rfl v rfl) rfl<|WQ.p (.mv rfl) rfl<|WQ.p (.ixb DD FP rfl rfl (c.isp oO) (b) (rfl) oO) rfl<|D2 (λm=>BG (FU _) rfl ((c.drewN m).cells (b) oO)) rfl<|WQ.p (.eqs rfl rfl) rfl<|CO (λan g=>?_)
 have a4:=AJ.same (w1:=an) U (λk hk hl=>(by obtain ⟨m,rfl⟩:=g;rfl))
 have a5:=v.drew g
 have a6:=c.drew g
 have a7:=F.drew g
 have a8:=Cn.below T g
 refine Ai rfl (λH=>?_) (λH=>?_)
 have a9:=dT H
 exact Dp ((List.nodup_iff_pairwise_ne.1 hnd |> List.pairwise_iff_getElem.1) E b oO oO oO) (λh=>h aS)
 have a9:=dF H
 refine As<|An<|A3 rfl<|A1 (.iis (((E+1:Nat):Int)) (.add rfl rfl (Bb oO)) oO)<|A8 rfl ?_
 exact ⟨E+1,⟨rfl,rfl,rfl,rfl,rfl,tT⟩,⟨a8,a5,a6,a7,a4,oM⟩,oM⟩
 have a3:=dF G
 refine BL<|An<|A3 rfl<|A1 (.iis (((b+1:Nat):Int)) (.add rfl rfl (Bb oO)) oO)<|A8 rfl ?_
 exact ⟨b+1,⟨rfl,rfl,rfl,rfl,tT⟩,⟨T,v,c,F,U,oM⟩,oM⟩
 have am:=dF h9
 refine BL<|Ad<|A4<|A1 (.fa Av rfl CQ dD rfl)<|Aj (Ae (DW _) rfl d rfl)<|A1 (.lenS Cg rfl)<|A1 (.bis (false) (.gtr rfl rfl) (by exact AH oO))<|A0<|Ay rfl rfl<|As<|Ad<|A4<|A8 rfl<|AT<|BO (α:=Nat) (λt=>[(1,Ag D),(3,ptV y),(14,Ag (t:Int))]) (λt w'=>AL w w'/\B4 w' y #[Ag 9,Ag 0,.string (bs []),.slice kp keys.length kc,.slice lp cs.length lc,.slice dp data.length dc] 27/\AA Fi w' lp cs/\AJ w' S cs list/\t<=cs.length) (λt=>cs.length-t) (0) ⟨rfl,rfl,rfl,tT⟩ (⟨P,d,C,Q,FN _⟩) (λt w1 hR=>?_)
 obtain ⟨A,rfl⟩:=eX t
 obtain ⟨V,J,o,X,aw⟩:=hR
 refine Ad<|A4<|A3 rfl<|A1 (.fa Av rfl CQ dD rfl)<|Aj (Ae (DW _) rfl J rfl)<|A1 (.lenS Cg rfl)<|A1 (.lss rfl rfl)<|A0<|Ai rfl (λK=>?_) (λK=>?_)
 have aa:=dT K
 refine As<|Ad<|AT<|A4<|A1 (.fa Av rfl CQ dD rfl)<|Aj (Ae (DW _) rfl J rfl)<|A3 rfl<|A1 (.ixm Cg Dd rfl rfl (o.isp oO) (A) (rfl) oO)<|Aj (DG Av rfl Ah o (A) oO rfl)<|A3 rfl<|A1 (.sub rfl rfl (Bb oO))<|Au (ih A oO oO _ ((X).sub A oO oO)) (λao s=>?_)
 have ab:=AJ.same (w1:=ao) X (λk hk hl=>s.block k hl)
 have ac:=J.bl s
 have ad:=Ea o s (λl=>o.lt l)
 have ae:=Ci V s
 refine A1 (.not rfl)<|A0<|Ay rfl rfl<|As<|An<|A3 rfl<|A1 (.iis (((A+1:Nat):Int)) (.add rfl rfl (Bb oO)) oO)<|A8 rfl ?_
 exact ⟨A+1,⟨rfl,rfl,rfl,tT⟩,⟨ae,ac,ad,ab,oM⟩,oM⟩
 have aa:=dF K
 refine BL<|A4<|A8 rfl<|AY ?_
 exact ⟨rfl,V⟩
 exact Dp (show (false:Bool)=true by assumption) dD
mutual
/-- objects of these kinds alone -/
def PM:AV->Prop
 | .mk k _ _ _ l _=>(k=2\/k=4\/k=6\/k=7\/k=8\/k=9)/\KnL l
def KnL:List AV->Prop
 | []=>True
 | o::r=>PM o/\KnL r
end
theorem PM.mem:∀ {l:List AV},KnL l->∀ o∈l,PM o
 | [],_,_,h=>by cases h
 | a::r,h,o,ho=>by
  rcases A7.1 ho with rfl | ho
  · exact h.1
  · exact PM.mem h.2 o ho
theorem Ux  {o:AV} (hS:FJ D st o):PM o->D<=100->∀ (x:AC) (S:Nat->Prop) (w:World),At w S x o ->
  Cl 41 #[.agg (D3 x).toArray,Ag D,.bool st] w (.bool true):=by
 induction hS with
 | null D st=>exact λh=>by simp [PM] at h
 | bool D st n h=>exact λh=>by simp [PM] at h
 | text D st t h=>exact λh=>by simp [PM] at h
 | num D st k n hk h =>
  intro hK hD x S w hx
  obtain ⟨keys,list,data,cs,a,ok,-,-,-,-,-,-,-,b,-⟩:=hx.inv
  obtain ⟨u,v,y,kp,kl,kc,lp,ll,lc,dp,dl,dc⟩:=x
  have c:=ok.kl;have f:=ok.ll;have g:=ok.dl
  simp only at c f g a
  obtain ⟨rfl,rfl,rfl,rfl,rfl,rfl⟩:=AV.mk.inj a
  obtain rfl:=Dg b
  subst c;subst f;subst g
  rcases hk with rfl | rfl
  · exact A0P _ _ _ _ _ _ _ _ _ _ h
  · simp [PM] at hK
 | name D st t h =>
  intro hK hD x S w hx
  obtain ⟨keys,list,data,cs,a,ok,-,-,-,-,-,-,-,b,-⟩:=hx.inv
  obtain ⟨u,v,y,kp,kl,kc,lp,ll,lc,dp,dl,dc⟩:=x
  have c:=ok.kl;have f:=ok.ll;have g:=ok.dl
  simp only at c f g a
  obtain ⟨rfl,rfl,rfl,rfl,rfl,rfl⟩:=AV.mk.inj a
  obtain rfl:=Dg b
  subst c;subst f;subst g
  exact A0O _ _ _ _ _ _ _ _ _ _ h
 | ref D st n h =>
  intro hK hD x S w hx
  obtain ⟨keys,list,data,cs,a,ok,-,-,-,-,-,-,-,b,-⟩:=hx.inv
  obtain ⟨u,v,y,kp,kl,kc,lp,ll,lc,dp,dl,dc⟩:=x
  have c:=ok.kl;have f:=ok.ll;have g:=ok.dl
  simp only at c f g a
  obtain ⟨rfl,rfl,rfl,rfl,rfl,rfl⟩:=AV.mk.inj a
  obtain rfl:=Dg b
  subst c;subst f;subst g
  exact A0L _ _ _ _ _ _ _ _ _ _ h
 | arr D st l h1 h2 h ih =>
  intro hK hD x S w hx
  obtain ⟨keys,list,data,cs,a,ok,-,-,-,hr,-,-,-,b,m⟩:=hx.inv
  obtain ⟨u,v,y,kp,kl,kc,lp,ll,lc,dp,dl,dc⟩:=x
  have c:=ok.kl;have f:=ok.ll;have g:=ok.dl
  simp only at c f g a hr
  obtain ⟨rfl,rfl,rfl,rfl,rfl,rfl⟩:=AV.mk.inj a
  subst c;subst f;subst g
  exact A0N _ _ _ _ _ _ _ _ cs _ S _ h1 hD oO hr ⟨b,m⟩ λi hi j q ha=>ih _ (Ar j) (PM.mem hK.2 _ (Ar j)) oO _ _ _ ha
 | dict D st k ks l d hk h1 h2 h3 h4 h5 h ih =>
  intro hK hD x S w hx
  obtain ⟨keys,list,data,cs,a,ok,-,s,-,hr,-,-,-,b,m⟩:=hx.inv
  obtain ⟨u,v,y,kp,kl,kc,lp,ll,lc,dp,dl,dc⟩:=x
  have c:=ok.kl;have f:=ok.ll;have g:=ok.dl
  simp only at c f g a hr s
  obtain ⟨rfl,rfl,rfl,rfl,rfl,rfl⟩:=AV.mk.inj a
  subst c;subst f;subst g
  have hi:∀ i (hi:i<cs.length) (j:i<l.length) q,At q S cs[i] l[i]->_:=λi hi j q (ha:At q S cs[i] l[i])=>ih _ (Ar j) (PM.mem hK.2 _ (Ar j)) (show D-1<=100 by omega) cs[i] S q ha
  rcases hk with ⟨rfl,rfl⟩ | ⟨rfl,rfl,hd,A⟩
  · exact A0M _ _ _ _ _ _ _ _ _ cs _ S _ h1 hD oO h3 h4 h5 s hr ⟨b,m⟩ hi
  · exact A0K _ _ _ _ _ _ _ _ _ hd A cs _ S _ h1 hD oO h3 h4 h5 s hr ⟨b,m⟩ hi
theorem OW (x:AC) (o:AV) (S:Nat->Prop) (w:World) (h:At w S x o) (hS:FJ 32 true o) (hK:PM o) :
  Cl 19 #[.agg (D3 x).toArray] w (.bool true):=by
 have m:At w (λk=>k<w.heap.size) x o:=h.mono λk _ hk=>hk
 refine AF func19 rfl ntmps19 ?_
 have c:=Dh w
 refine A4<|WL.box rfl rfl (λs d f b a q=>?_)
 have g:=At.same (w1:=d) m (λk hk hl=>a.other k oO)
 have i:=uB c f a
 refine A8 rfl<|A4<|Aj (Bd rfl b Av rfl Ah)<|Cs BQ rfl rfl ((Ux hS hK dD x _ _ g)) (λt j=>?_)
 have l:=Ci i j
 refine A8 rfl<|AY ?_
 exact ⟨rfl,l⟩
end
section
def G7 (p:Option Addr) (n c:Nat):AC:=⟨6,0,[],none,0,0,p,n,c,none,0,0⟩
theorem A3D (n:Int):Tryz.prog.built 27 [(0,Ag 2),(1,Ag n)]=some (D3 (Cx (DR 2 n []))).toArray:=by kernel_rfl
theorem A3E (s:l8_):Tryz.prog.built 27 [(0,Ag 4),(2,.string (bs s))]=some (D3 (Cx (DR 4 0 s))).toArray:=by kernel_rfl
theorem A3B (n:Int):Tryz.prog.built 27 [(0,Ag 8),(1,Ag n)]=some (D3 (Cx (DR 8 n []))).toArray:=by kernel_rfl
theorem A3G (p:Option Addr) (n c:Nat):Tryz.prog.built 27 [(0,Ag 6),(4,.slice p n c)]=some (D3 (G7 p n c)).toArray:=by kernel_rfl
def A0c (N:Nat) (k:l8_) (v:Value) (w:World):Prop:=∃ b,v=.slice (some ⟨b,0,none⟩) 1 1/\AA GZ w (some ⟨b,0,none⟩) [k]/\N<=b
theorem A0c.up  {k:l8_} (v:Value) (w w1:World) (h:A0c N k v w) (hb:AL w w1):A0c N k v w1:=by
 obtain ⟨b,c,a,d⟩:=h
 exact ⟨b,c,a.below hb λe=>a.lt e,d⟩
def A0b (N:Nat) (o:AC) (v:Value) (w:World):Prop:=∃ b,v=.slice (some ⟨b,0,none⟩) 1 1/\AA Fi w (some ⟨b,0,none⟩) [o]/\N<=b
theorem A0b.up  {k:AC} (v:Value) (w w1:World) (h:A0b N k v w) (hb:AL w w1):A0b N k v w1:=by
 obtain ⟨b,c,a,d⟩:=h
 exact ⟨b,c,a.below hb λe=>a.lt e,d⟩
theorem KF (n:Int) (w:World):Calls Tryz.prog 11 #[Ag n] w λe w'=>e=.returned (.agg (D3 (Cx (DR 2 n []))).toArray)/\AL w w':=by
 refine AF func11 rfl ntmps11 ?_
 have f:=Dh w
 refine A4<|Bm CA rfl (λm l g a b j=>?_)
 have h:=uB f g b
 refine A0<|A4<|A3 rfl<|?_
 refine A1 (.build rfl (A3D n)) ?_
 refine Az rfl rfl a Ah rfl rfl (λo c d k=>?_)
 have i:=BR h oO d
 refine A0<|AU (BD rfl rfl (Ba c Av rfl Ah)  ?_)
 exact ⟨rfl,i⟩
theorem Jn (s:l8_) (w:World):Calls Tryz.prog 8 #[.string (bs s)] w λe w'=>e=.returned (.agg (D3 (Cx (DR 4 0 s))).toArray)/\AL w w':=by
 refine AF func8 rfl ntmps8 ?_
 have f:=Dh w
 refine A4<|Bm CA rfl (λm l g a b j=>?_)
 have h:=uB f g b
 refine A0<|A4<|A3 rfl<|?_
 refine A1 (.build rfl (A3E s)) ?_
 refine Az rfl rfl a Ah rfl rfl (λo c d k=>?_)
 have i:=BR h oO d
 refine A0<|AU (BD rfl rfl (Ba c Av rfl Ah)  ?_)
 exact ⟨rfl,i⟩
theorem UT (n:Int) (w:World):Calls Tryz.prog 9 #[Ag n] w λe w'=>e=.returned (.agg (D3 (Cx (DR 8 n []))).toArray)/\AL w w':=by
 refine AF func9 rfl ntmps9 ?_
 have f:=Dh w
 refine A4<|Bm CA rfl (λm l g a b j=>?_)
 have h:=uB f g b
 refine A0<|A4<|A3 rfl<|?_
 refine A1 (.build rfl (A3B n)) ?_
 refine Az rfl rfl a Ah rfl rfl (λo c d k=>?_)
 have i:=BR h oO d
 refine A0<|AU (BD rfl rfl (Ba c Av rfl Ah)  ?_)
 exact ⟨rfl,i⟩
theorem VM (p:Option Addr) (n c:Nat) (w:World):Cl 10 #[.slice p n c] w (.agg (D3 (G7 p n c)).toArray):=by
 refine AF func10 rfl ntmps10 ?_
 have g:=Dh w
 refine A4<|Bm CA rfl (λo m h a b k=>?_)
 have i:=uB g h b
 refine A0<|A4<|A3 rfl<|?_
 refine A1 (.build rfl (A3G p n c)) ?_
 refine Az rfl rfl a Ah rfl rfl (λq d f l=>?_)
 have j:=BR i oO f
 refine A0<|AU (BD rfl rfl (Ba d Av rfl Ah)  ?_)
 exact ⟨rfl,j⟩
structure Vk where
 k:l8_
 v:AC
def prV (x:Vk):List Value:=.string (bs x.k)::D3 x.v
def prL:FK Vk:=⟨7,prV,dD,λ_=>rfl,λx u hu=>AP.1 (show (prV x).all Value.oneCell'=true from rfl) u hu⟩
theorem FM  {β:Type} {L:FK α} {L':FK β} {e':TypeId} {B':Nat} {v':Value} {l:List α} {l':List β} (h:AO L e B w v l) (h':AO L' e' B' w v' l') (he:e≠e'):∀ g,v.ownBlock=some g->v'.ownBlock≠some g:=λg hg hg'=>by
 rcases h with ⟨rfl,-⟩ | ⟨g1,cap,cur,rfl,-,h1,-⟩
 · cases hg
 ·
  rcases h' with ⟨rfl,-⟩ | ⟨g2,cap2,cur2,rfl,-,h2,-⟩
  · cases hg'
  ·
   cases hg
   cases hg'
   rw [h1] at h2
   simp only [BK,Obj.cells.injEq] at h2
   exact he h2.2.1
theorem A4l:Tryz.prog.built 27 [(0,Ag 7)]=some #[Ag 7,Ag 0,.string (bs []),.slice none 0 0,.slice none 0 0,.slice none 0 0]:=by kernel_rfl
theorem Ss  {β:Type} (f:α->β) (l:List α) (i:Nat) (h:i<l.length):(l.take i).map f++[f l[i]]=(l.take (i+1)).map f:=by rw [B7 h,Ej];rfl
theorem YP (p:Option Addr) (prs:List Vk) (c:Nat) (w:World) (hr:AA prL w p prs) (hl:prs.length<=100) :
  Calls Tryz.prog 7 #[.slice p prs.length c] w λe w'=>∃ z:(Option Addr × Nat) × (Option Addr × Nat),e=.returned (.agg #[Ag 7,Ag 0,.string (bs []),.slice z.1.1 prs.length z.1.2,.slice z.2.1 prs.length z.2.2,.slice none 0 0])/\AL w w' /\
   AO GZ 9 w.heap.size w' (.slice z.1.1 prs.length z.1.2) (prs.map Vk.k)/\AO Fi 27 w.heap.size w' (.slice z.2.1 prs.length z.2.2) (prs.map Vk.v):=by
 refine AF func7 rfl ntmps7 ?_
 have be:=Dh w
 refine A4<|Bm CA rfl (λb1 bU av a1 a2 bT=>?_)
 have az:=λd=>av▸hr.lt d
 have aw:=AA.upd hr a2 (λd=>CV (az d))
 have bf:=uB be av a2
 refine A0<|?_
 refine A4<|A1 (.build rfl A4l) ?_
 refine Bm CA rfl (λs bV A V q a3=>?_)
 have bg:=Bt A a1.lt
 have bh:=a1.un q bg
 have E:=λd=>A▸aw.lt d
 have bi:=AA.upd aw q (λd=>CV (E d))
 have aA:=uB bf A q
 refine Az rfl rfl V Ah rfl rfl (λbj ag F bK=>?_)
 have aB:=bh.up F
 have a4:=AA.upd bi F (λd=>CV (E d))
 have a5:=BR aA oO F
 refine A0<|Ad<|A4<|A8 rfl<|AT ?_
 obtain ⟨LB,ax⟩:=eX ((bj).heap.size)
 have G:w.heap.size<=LB:=by rw [ax];exact (a5).size
 have ay:0<prs.length->(pA p).block<LB:=λd=>by have:=(a4).lt d;omega
 refine BO (α:=Nat × Value × Value) (λt=>[(0,.slice p prs.length c),(2,ptV b1),(3,ptV s),(4,Ag (t.1:Int))]) (λt w'=>AL w w'/\B4 w' b1 (D3 (Cx (DR 0 0 []))).toArray 27/\B4 w' s #[Ag 7,Ag 0,.string (bs []),t.2.1,t.2.2,.slice none 0 0] 27/\AA prL w' p prs/\AO GZ 9 LB w' t.2.1 ((prs.take t.1).map Vk.k)/\AO Fi 27 LB w' t.2.2 ((prs.take t.1).map Vk.v)/\t.1<=prs.length/\LB<=w'.heap.size) (λt=>prs.length-t.1) ((0,.slice none 0 0,.slice none 0 0)) ⟨rfl,rfl,rfl,rfl,tT⟩ (⟨a5,aB,ag,a4,AO.nil _ _ _ _,AO.nil _ _ _ _,FN _,Nat.le_of_eq ax⟩) (λt w1 hR=>?_)
 obtain ⟨⟨m,kv,lv⟩,bk⟩:=eX t
 subst bk
 obtain ⟨q1,q2,q3,q4,u,B,q7,a6⟩:=hR
 simp only at q3 u B q7
 refine Ad<|A4<|A3 rfl<|A3 rfl<|A1 (.lenS Rm rfl)<|A1 (.lss rfl rfl)<|A0<|Ai rfl (λa7=>?_) (λa7=>?_)
 have aC:=dT a7
 refine As<|Ad<|AT<|Ad<|F2 11 rfl BS (λbW j=>?_)
 have ah:=HS a6 j
 have aD:=AO.drew u j
 have ai:=HS a6 j
 have aE:=AO.drew B j
 have a8:=q2.drew j
 have H:=q3.drew j
 have C:=q4.drew j
 have aF:=Cn.below q1 j
 refine AB 0 rfl (.fa Av rfl E6 dD rfl) rfl<|AB 2 rfl (.mv rfl) rfl<|AB 3 rfl (.mv rfl) rfl<|AB 4 rfl (.ixm Rm SB rfl rfl (C.isp oO) (m) (rfl) oO) rfl<|AB 5 rfl (.fa underlying31 rfl FP dD rfl) rfl<|JA [(0,.slice p prs.length c),(2,ptV b1),(3,ptV s),(4,Ag (m:Int)),(12,_),(17,_)] [⟨1,13,[],(λv _=>v=kv),false⟩,
 ⟨6,18,[],(λv _=>v=.string (bs (prs[m]'oO).k)),false⟩,
 ⟨7,19,[(6,18)],(A0c LB (prs[m]'oO).k),false⟩] 3 ⟨rfl,rfl,rfl,rfl,rfl,rfl,tT⟩ rfl kR ⟨⟨(λ_ _ _ h _=>h),λh=>nomatch h⟩,⟨(λ_ _ _ h _=>h),λh=>nomatch h⟩,⟨A0c.up,λh=>nomatch h⟩,tT⟩ ⟨?_,?_,?_,tT⟩ (λg bX hs a hE hA=>?_)
 intro K g w1 hs a hd k
 have b:ET [(12,_)] g:=⟨hs.look rfl,tT⟩
 refine ⟨_,rfl,WL.front _ b ?_⟩
 refine Aj (Ae (Fs _) rfl (H.below a H.lt) rfl)<|A0<|?_
 exact k _ _ _ (DH.front b) rfl (Fl _ _) (λh=>nomatch h)
 intro K g w1 hs a hd k
 have b:ET [(17,_)] g:=⟨hs.look rfl,tT⟩
 refine ⟨_,rfl,WL.front _ b ?_⟩
 refine Aj (BG (FU _) rfl ((((C).below a (λd=>(C).lt d)).field m oO 0 dD).trans rfl))<|A0<|?_
 exact k _ _ _ (DH.front b) rfl (Fl _ _) (λh=>nomatch h)
 intro K g w1 hs a hd k
 obtain ⟨⟨bl,bm,bn⟩,-⟩:=hd
 have b:ET [(18,bl)] g:=⟨bm,tT⟩
 refine ⟨_,rfl,WL.front _ b ?_⟩
 subst bn
 refine CC (ps:=_) DD FP z9_ rfl rfl rfl rfl rfl pR rfl (λs w5 A V q a3=>A0<|?_)
 exact k _ _ _ (DH.front b) ⟨s,rfl,AM.rowS (AM.lit (l:=[_]) V rfl),by have:=a.size;have:=Cn.size j;omega⟩ (BR (Fl _ _) (Nat.le_of_eq A.symm) q) (λh=>nomatch h)
 obtain ⟨⟨bo,bp,bq⟩,-,⟨bt,bu,bv⟩,-⟩:=hE
 refine WY.front [(13,bo),(19,bt),(0,.slice p prs.length c),(2,ptV b1),(3,ptV s),(4,Ag (m:Int)),(12,_),(17,_)] ⟨bp,bu,hs.look rfl,hs.look rfl,hs.look rfl,hs.look rfl,hs.look rfl,hs.look rfl,tT⟩ ?_
 have aj:=CT ah a.size
 have a9:=AO.below aD a
 have ak:=CT ai a.size
 have X:=AO.below aE a
 have aG:=a8.below a a8.lt
 have aH:=H.below a H.lt
 have aI:=Ea C a (λd=>C.lt d)
 have aJ:=Ci aF a
 subst bq
 obtain ⟨bY,rfl,aK,bL⟩:=bv
 refine Ao 8 rfl<|Cb DD Nb rfl rfl rfl a9 rfl aK (by rw [Bo,Ap];simp only [Aa,Am];omega) (aj) rfl (λh=>nomatch h) (λbZ b' J x am bM=>?_)
 have aL:=aG.below x oO
 have aM:=aH.below x oO
 have aa:=AO.same X (λg hg=>am.block g ((X).lt g hg).2 (λhx=>FM a9 X dD g hx.symm hg))
 have an:=CT ak x.size
 have aN:=Ea aI x ay
 have aO:=Ex aJ (x.mono (G))
 refine A0<|AB 9 rfl (.fa Av rfl E6 dD rfl) rfl<|Ao 10 rfl<|BA E6 rfl rfl (J).one aM (by exact Nat.le_of_ble_eq_true rfl) (λbw N f bN=>?_)
 have N:B4 bw s _ _:=N
 have f:CP s _ _:=f
 have aP:=TP J f ((λg hg e=>by have:=((J).lt g hg).1;omega))
 have ao:=CT an f.size
 have aQ:=TP aa f ((λg hg e=>by have:=((aa).lt g hg).1;omega))
 have aR:=aL.up f
 have aS:=AA.upd aN f (λd=>CV (E d))
 have aT:=BR aO oO f
 refine A0<|Be kR<|F2 11 rfl BS (λc0 o=>?_)
 have aU:=AO.drew aP o
 have ap:=HS ao o
 have aV:=AO.drew aQ o
 have ab:=aR.drew o
 have P:=N.drew o
 have D:=aS.drew o
 have aW:=Cn.below aT o
 refine AB 0 rfl (.fa Av rfl CQ dD rfl) rfl<|AB 2 rfl (.mv rfl) rfl<|AB 3 rfl (.mv rfl) rfl<|AB 4 rfl (.ixm Rm SB rfl rfl (D.isp oO) (m) (rfl) oO) rfl<|AB 5 rfl (.fa underlying31 rfl Dd dD rfl) rfl<|JA [(0,.slice p prs.length c),(2,ptV b1),(3,ptV s),(4,Ag (m:Int)),(22,_),(27,_)] [⟨1,23,[],(λv _=>v=lv),false⟩,
 ⟨6,28,[],(λv _=>v=.agg (D3 (prs[m]'oO).v).toArray),false⟩,
 ⟨7,29,[(6,28)],(A0b LB (prs[m]'oO).v),false⟩] 3 ⟨rfl,rfl,rfl,rfl,rfl,rfl,tT⟩ rfl kR ⟨⟨(λ_ _ _ h _=>h),λh=>nomatch h⟩,⟨(λ_ _ _ h _=>h),λh=>nomatch h⟩,⟨A0b.up,λh=>nomatch h⟩,tT⟩ ⟨?_,?_,?_,tT⟩ (λg c2 hs a hE hA=>?_)
 intro K g w1 hs a hd k
 have b:ET [(22,_)] g:=⟨hs.look rfl,tT⟩
 refine ⟨_,rfl,WL.front _ b ?_⟩
 refine Aj (Ae (DW _) rfl (P.below a P.lt) rfl)<|A0<|?_
 exact k _ _ _ (DH.front b) rfl (Fl _ _) (λh=>nomatch h)
 intro K g w1 hs a hd k
 have b:ET [(27,_)] g:=⟨hs.look rfl,tT⟩
 refine ⟨_,rfl,WL.front _ b ?_⟩
 refine Aj (A30 (L':=Fi) Av rfl Ah ((D).below a (λd=>(D).lt d)) m oO 1 ((prs[m]'oO).v) rfl rfl)<|A0<|?_
 exact k _ _ _ (DH.front b) rfl (Fl _ _) (λh=>nomatch h)
 intro K g w1 hs a hd k
 obtain ⟨⟨bz,bA,bB⟩,-⟩:=hd
 have b:ET [(28,bz)] g:=⟨bA,tT⟩
 refine ⟨_,rfl,WL.front _ b ?_⟩
 subst bB
 refine CR (L:=Fi) (ps:=_) ([(prs[m]'oO).v]) Cg Dd CA rfl rfl rfl rfl rfl (by rfl) rfl rfl (λs w5 A aX q a3=>A0<|?_)
 exact k _ _ _ (DH.front b) ⟨s,rfl,aX.rowp,by have:=a.size;have:=Cn.size o;omega⟩ (BR (Fl _ _) (Nat.le_of_eq A.symm) q) (λh=>nomatch h)
 obtain ⟨⟨bC,bD,bE⟩,-,⟨bG,bH,bI⟩,-⟩:=hE
 refine WY.front [(23,bC),(29,bG),(0,.slice p prs.length c),(2,ptV b1),(3,ptV s),(4,Ag (m:Int)),(22,_),(27,_)] ⟨bD,bH,hs.look rfl,hs.look rfl,hs.look rfl,hs.look rfl,hs.look rfl,hs.look rfl,tT⟩ ?_
 have Y:=AO.below aU a
 have a0:=CT ap a.size
 have ac:=AO.below aV a
 have aY:=ab.below a ab.lt
 have aZ:=P.below a P.lt
 have a':=Ea D a (λd=>D.lt d)
 have b0:=Ci aW a
 subst bE
 obtain ⟨c3,rfl,b2,bO⟩:=bI
 refine Ao 8 rfl<|Cb Cg FZ rfl rfl rfl ac rfl b2 (by rw [Bo,Ap];simp only [Aa,Am];omega) (a0) rfl (λh=>nomatch h) (λc4 c5 Q y aq bP=>?_)
 have b3:=aY.below y oO
 have b4:=aZ.below y oO
 have ad:=AO.same Y (λg hg=>aq.block g ((Y).lt g hg).2 (λhx=>FM ac Y dD g hx.symm hg))
 have b6:=Ea a' y ay
 have b7:=Ex b0 (y.mono (G))
 have ar:=CT a0 y.size
 refine A0<|AB 9 rfl (.fa Av rfl CQ dD rfl) rfl<|Ao 10 rfl<|BA CQ rfl rfl (Q).one b4 (by exact Nat.le_of_ble_eq_true rfl) (λbJ T i bQ=>?_)
 have T:B4 bJ s _ _:=T
 have i:CP s _ _:=i
 have b8:=TP ad i ((λg hg e=>by have:=((ad).lt g hg).1;omega))
 have bR:=CT ar i.size
 have b9:=TP Q i ((λg hg e=>by have:=((Q).lt g hg).1;omega))
 have ba:=b3.up i
 have bb:=AA.upd b6 i (λd=>CV (E d))
 have bc:=BR b7 oO i
 refine A0<|Be kR<|An<|A3 rfl<|A1 (.iis (((m+1:Nat):Int)) (.add rfl rfl (Bb oO)) oO)<|A8 rfl ?_
 exact ⟨(m+1,_,_),⟨rfl,rfl,rfl,rfl,tT⟩,⟨bc,ba,T,bb,by rw [<- Ss _ _ _ oO];exact b8,by rw [<- Ss _ _ _ oO];exact b9,oM,oM⟩,oM⟩
 have aC:=dF a7
 refine BL<|Ad ?_
 obtain ⟨kp,kc,rfl,-⟩:=u.row
 obtain ⟨lp,lc,rfl,-⟩:=B.row
 refine An<|Aj (Bd rfl q3 Av rfl Ah)<|Az rfl rfl q2 Ah rfl rfl (λc6 au U bS=>?_)
 have ae:=TP u U ((λg hg e=>by have:=((u).lt g hg).1;omega))
 have af:=TP B U ((λg hg e=>by have:=((B).lt g hg).1;omega))
 have bd:=BR q1 oO U
 refine A0<|AU (BD rfl rfl (Ba au Av rfl Ah)  ?_)
 have e0:prs.take m=prs:=Al oO
 have h1:=AO.base ae (λg hg=>CT G ((ae).lt g hg).1)
 have h2:=AO.base af (λg hg=>CT G ((af).lt g hg).1)
 simp only [e0,Bo] at h1 h2 ⊢
 exact ⟨((kp,kc),(lp,lc)),rfl,bd,h1,h2⟩
end
section
def oN (n:Int):AV:=.mk 2 n [] [] [] []
def oNm (t:l8_):AV:=.mk 4 0 t [] [] []
def oR (n:Int):AV:=.mk 8 n [] [] [] []
def oA (l:List AV):AV:=.mk 6 0 [] [] l []
def oDi (ks:List (l8_)) (l:List AV):AV:=.mk 7 0 [] ks l []
def oS (ks:List (l8_)) (l:List AV) (d:l8_):AV:=.mk 9 0 [] ks l d
def Td:l8_:=[80,97,103,101]
def Mn:l8_:=[80,97,103,101,115]
def Xa:l8_:=[67,97,116,97,108,111,103]
def kKi:l8_:=[75,105,100,115]
def TT:l8_:=[67,111,117,110,116]
def Si:l8_:=[70,108,97,116,101,68,101,99,111,100,101]
def MH (t:l8_):AV:=oDi [FA,X9,XH] [oNm IO,oNm UY,oNm t]
def caO:AV:=oDi [FA,Mn] [oNm Xa,oR 2]
def ndO:AV:=oDi [FA,kKi,TT] [oNm Mn,oA [oR 3],oN 1]
def UH (bx:List AV) (t:l8_):AV:=oDi [FA,TS,TR,Te] [oNm Td,oA bx,oDi [IO] [oDi [[70]] [MH t]],oR 4]
def Y6 (fl:Bool):AV:=if fl=true then oS [VO] [oNm Si] [110] else oS [] [] [110]
def QC (bx:List AV) (t:l8_) (fl:Bool):List AV:=[caO,ndO,UH bx t,Y6 fl]
theorem Is (os:List AV) (o:AV) (h:o.kind≠8) (k:Int) (hk:o.kind=k):F3 os o k=.ok o:=by unfold F3;rw [HX os 32 o h];simp only;rw [A5 hk]
theorem Oc (os:List AV) (n:Int) (h:-32768<=n/\n<=32767):KP os (oN n)=.ok (n * 65536):=by
 have hf:V6 n=(n * 65536,true):=A2 oO
 unfold KP
 rw [HX os 32 (oN n) (by exact (show (2:Int)≠8 by decide))]
 show (if (V6 n).2=true then Except.ok (V6 n).1 else Except.error 22)=_
 rw [hf]
 rfl
theorem ZA (os:List AV) (a b c d:Int) (ha:-32768<=a/\a<=32767) (hb:-32768<=b/\b<=32767) (hc:-32768<=c/\c<=32767) (hd:-32768<=d/\d<=32767) (r:Option AV) :
  IR os ⟨some (oA [oN a,oN b,oN c,oN d]),r⟩=if GD [a * 65536,b * 65536,c * 65536,d * 65536]=true then .ok (c * 65536,d * 65536) else .error 22:=by
 unfold IR
 simp only
 rw [Is os _ (by exact (show (6:Int)≠8 by decide)) 6 rfl]
 simp only [oA,AV.list,Aa,Am,A5,Fw,Oc os _ ha,Oc os _ hb,Oc os _ hc,Oc os _ hd]
 rfl
theorem Xt (os:List AV) (a b c:AV) (r:Option AV):IR os ⟨some (oA [a,b,c]),r⟩=.error 22:=by
 unfold IR
 simp only
 rw [Is os _ (by exact (show (6:Int)≠8 by decide)) 6 rfl]
 rfl
theorem A1f (os:List AV) (t:l8_):Ff os (MH t)=if Ew t<14 then .ok (Ew t:Int) else .error 26:=by
 have a:IP os (MH t) FA 4=.ok (oNm IO):=by rw [HZ (x:=oNm IO) rfl];exact Is os _ (by exact (show (4:Int)≠8 by decide)) 4 rfl
 have b:IP os (MH t) X9 4=.ok (oNm UY):=by rw [HZ (x:=oNm UY) rfl];exact Is os _ (by exact (show (4:Int)≠8 by decide)) 4 rfl
 have c:IP os (MH t) XH 4=.ok (oNm t):=by rw [HZ (x:=oNm t) rfl];exact Is os _ (by exact (show (4:Int)≠8 by decide)) 4 rfl
 unfold Ff
 rw [Is os _ (by exact (show (7:Int)≠8 by decide)) 7 rfl]
 simp only
 unfold Tf
 rw [Rn a,Rn b,c]
 rfl
theorem Z3 (os:List AV) (k t:l8_):Ft os (some (oDi [IO] [oDi [k] [MH t]]))=if Ew t<14 then .ok [⟨k,(Ew t:Int)⟩] else .error 26:=by
 unfold Ft
 simp only
 rw [Is os _ (by exact (show (7:Int)≠8 by decide)) 7 rfl]
 simp only
 rw [show De (oDi [IO] [oDi [k] [MH t]]) IO=some (oDi [k] [MH t]) from rfl]
 simp only
 rw [Is os _ (by exact (show (7:Int)≠8 by decide)) 7 rfl]
 simp only [oDi,AV.keys,AV.list]
 show J8 os [k] [MH t]=_
 rw [J7,A1f]
 by_cases h:Ew t<14
 · simp only [A5 h];rfl
 · simp only [A2 h]
def Sw (a w:Int):Bool:=decide (a=0) && decide (1<=w) && decide (w<=14400)
theorem ZD (a w:Int):GD [a * 65536,0 * 65536,w * 65536,7 * 65536]=Sw a w:=by
 unfold GD Sw U9
 simp only [List.getD_cons_zero,List.getD_cons_succ]
 rw [B3]
 simp only [AG,AI]
 constructor
 · rintro ⟨b,c,⟨d,e,f⟩,-⟩;omega
 · rintro ⟨⟨b,c⟩,d⟩;refine ⟨oO,oO,⟨oO,oO,oO⟩,oO,oO,oO⟩
theorem A0D (a w:Int) (t:l8_) (fl:Bool) (os:List AV) (it:l8_->List Nr->Except Int Unit) (hi:∀ fs,it [110] fs=.ok ()) (ha:-32768<=a/\a<=32767) (hw:-32768<=w/\w<=32767) :
    FY os (Y6 fl) (Fg (UH [oN a,oN 0,oN w,oN 7] t) ⟨none,none⟩) it=if Sw a w=true then (if Ew t<14 then (if fl=true then .error 22 else .ok ((w * 65536,7 * 65536),())) else .error 26) else .error 22:=by
  have hd:Fg (UH [oN a,oN 0,oN w,oN 7] t) ⟨none,none⟩=⟨some (oA [oN a,oN 0,oN w,oN 7]),some (oDi [IO] [oDi [[70]] [MH t]])⟩:=rfl
  have hb:=ZA os a 0 w 7 ha dD hw dD (some (oDi [IO] [oDi [[70]] [MH t]]))
  rw [ZD] at hb
  have hf:=Z3 os [70] t
  rw [hd]
  split <;> rename_i h1
  · rw [A5 h1] at hb
    split <;> rename_i h2
    · rw [A5 h2] at hf
      split <;> rename_i b
      · subst b;exact VH hb hf rfl
      · have b : fl = false := by simpa using b
        subst b
        rw [Ky hb hf (l:=[110]) rfl,hi]
    · rw [A2 h2] at hf;exact VG hb hf
  · rw [A2 h1] at hb;exact RH hb
theorem Yc (a b c:AV) (t:l8_) (fl:Bool) (os:List AV) (it:l8_->List Nr->Except Int Unit) :
  FY os (Y6 fl) (Fg (UH [a,b,c] t) ⟨none,none⟩) it=.error 22:=by
 have hd:Fg (UH [a,b,c] t) ⟨none,none⟩=⟨some (oA [a,b,c]),some (oDi [IO] [oDi [[70]] [MH t]])⟩:=rfl
 exact RH (by rw [hd];exact Xt _ _ _ _ _)
end
section
def Np (e:TypeId) (B:Nat) (w:World) (p:Option Addr) (n c:Nat) (l:l8_):Prop :=
 n=l.length/\(CF e B w (.slice p n c) (AN l)\/(c=n/\0<n/\Af w p l/\B<=(pA p).block))
section
variable {P:Program} {n:Sh} {f:Fr}
theorem Np.same  {m:Nat} (h:Np e B w p m c l) (hb:∀ k,B<=k->k<w.heap.size->w1.heap[k]?=w.heap[k]?):Np e B w1 p m c l:=by
 obtain ⟨b,h | ⟨o,q,a,d⟩⟩:=h
 ·
  refine ⟨b,.inl ?_⟩
  obtain ⟨hl,h⟩:=h
  exact ⟨hl,h.imp id λ⟨g,cap,cur,s,f,i,t⟩=>⟨g,cap,cur,s,f,(hb g f (B5.1 i).1).trans i,t⟩⟩
 ·
  refine ⟨b,.inr ⟨o,q,⟨a.isp,λj hj=>?_⟩,d⟩⟩
  rw [World.cell?_of_block (w:=w) (by rw [E4];exact hb _ d (a.lt oO))]
  exact a.cells j hj
theorem W9  {rest:List Oper} {d ty:Nat} {s:Operand} {t u:TypeId} {m:Nat} {r:l8_}
    (ht:P.underlying t=some (.slice e)) (hu:P.underlying u=some .string) (hi:(P.info? e).map (λi=>(i.zero,i.size,i.bytes))=some (some (.int .u8 0),1,1))
    (hs:CE f s=some (.slice p m c)) (hown:Np e B w p m c l) (hx:CE f x=some (.string (bs r))) (hr:r≠[])
    (hn:l.length+r.length<=1000000000) (hB:B<=w.heap.size) (hd:Nat.blt d n.n=true)
    (k:∀ q c' w',CF e B w' (.slice q (l++r).length c') (AN (l++r))->Below B w w'->WL P n ops Q rest ((d,.slice q (l++r).length c')::f) w') :
    WL P n ops Q (⟨some d,.call ⟨.builtin .append,#[s,x],#[t,u]⟩,ty,pos,aft,none⟩::rest) f w:=by
  obtain ⟨rfl,h | ⟨rfl,J,A,N⟩⟩:=hown
  · refine A1x ht hu hi hs h hx (by simp [AN]; omega) hB hd fun v' w' ho hb _ => ?_
    rw [show AN l++AN r=AN (l++r) by simp [AN]] at ho;obtain ⟨q,c',rfl,-⟩:=ho.bytesC;exact k q c' w' ho hb
  · cases hh : P.info? e with
    | none=>rw [hh] at hi;cases hi
    | some i =>
      rw [hh] at hi;simp only [Option.map_some,BK,Co] at hi;obtain ⟨hz,g,C⟩:=hi;have D:(bs r).size=r.length:=BM r;have a:Lib.strCells (bs r)=AN r:=by simp [Lib.strCells,AN,bs]
      have M:0<r.length:=List.length_pos_iff.2 hr;have b:(AN l).length=l.length:=by simp [AN]
      have E:(AN r).length=r.length:=by simp [AN]
      have o:∀ j u,(AN l)[j]?=some u->w.cell? ((pA p).add j)=some u:=λj u hj=>by
        have hj':j<l.length:=by
          rcases By j l.length with h | h
          · exact h
          · rw [AZ (by rw [b];omega)] at hj;cases hj
        rw [A.cells j hj',<- hj];simp [AN,hj']
      have y:=Lib.run_append_grow_string (P:=P) w t u ty e i (.int .u8 0) ht hu hh hz (pA p) l.length l.length (AN l) (by rw [g,b];omega) o (bs r) oO oO (by rw [C];exact growslice_fits oO oO);rw [D,a] at y;have F:=grownCap_ge w (l.length+r.length) l.length e;have G:grownCap w (l.length+r.length) l.length e<=maxLen:=grownCap_le_maxLen w (l.length+r.length) l.length e (by unfold maxLen;omega);have K:(AN (l++r)).length=l.length+r.length:=by simp [AN]
      refine WL.run hd (w':=_) (v:=.slice (some ⟨w.heap.size,0,none⟩) (l++r).length (grownCap w (l.length+r.length) l.length e)) (λρ hρ=>?_) (k (some ⟨w.heap.size,0,none⟩) _ (w.drew.alloc (.cells ((AN l).toArray++(AN r).toArray++Builtin.zeroCells (Value.int .u8 0).cells (grownCap w (l.length+r.length) l.length e-(l.length+r.length))) e)) ?_ ?_)
      · unfold execOp
        simp only [resolve,invoke,builtin,Cd,D4,BW,List.map_toArray,Ev,Fz,hρ _ _ (hs.trans (by rw [A.isp J])),hρ _ _ hx,y,A9]
      · refine ⟨by simp, .inr ⟨w.heap.size, _, _, by simp [AN], hB, heap_alloc_new w.drew _, by simpa [AN] using F, G, ?_, ?_⟩⟩
        · have H : (Value.int IntKind.u8 0).cells.size = 1 := rfl
          simp only [Array.size_append,List.size_toArray,size_zeroCells,H,b,E]
          omega
        · have L : AN (l ++ r) = AN l ++ AN r := by simp [AN]
          simp only [Array.toList_append,AS,L];rw [<- AS,Nat.mul_one];exact List.take_left
      · exact BR (Cn.below (Fl B w) ⟨1,rfl⟩) hB (CP.alloc w.drew _)
end
end
section
structure PE (G:Prop) (w0 w:World) (os:List AV) (p:Option Addr) (n c:Nat) (e:Int):Prop where
 sure:G->1<=os.length->os.length<=4096->(Cw os).length<=1048576->e=0
 ok:e=0->n=(Cw os).length/\Af w p (Cw os)/\(Cw os).length<=c/\(0<(Cw os).length->w0.heap.size<=(pA p).block)/\(∀ o∈os,FJ 32 true o)/\os.length<=4096/\(Cw os).length<=1048576/\Es (λk=>w0.heap.size<=k) w (.slice p (Cw os).length c) (Cw os)
theorem F1 {G:Prop} {w0:World} {os:List AV} {n:Nat} {e:Int} (h:e≠0) (hs:G->1<=os.length->os.length<=4096->(Cw os).length<=1048576->False):PE G w0 w os p n c e:=⟨λg h1 h2 h3=>(hs g h1 h2 h3).elim,λq=>Dp q h⟩
def EK (os:List AV) (i:Nat):l8_:=Jq++Ep 0 ((os.take i).map Da)
def JH (os:List AV) (i:Nat):List Nat:=Dm 9 0 ((os.take i).map Da)
theorem V3 (os:List AV) (i:Nat) (h:i<os.length):EK os i++Lu i (Da os[i])=EK os (i+1):=by
 unfold EK
 rw [B7 h,Ej,List.map_singleton,PB,AS]
 congr 2
 rw [Bo,Ap,Nat.min_eq_left oO,D5]
theorem V2 (os:List AV) (i:Nat) (h:i<os.length):EB (JH os i)++DX (EK os i).length=EB (JH os (i+1)):=by
 unfold JH EK
 rw [B7 h,Ej,List.map_singleton,NF,St,A9];rfl
theorem OH (ps:List Nat) (h:∀ p∈ps,p<10000000000):(EB ps).length=20 * (ps.length+1):=by
 unfold EB
 rw [A9,show E0.length=20 from rfl]
 have:(ps.flatMap DX).length=20 * ps.length:=by
  induction ps with
  | nil=>rfl
  | cons a r ih =>
   rw [Dx,A9,Js (h a (by simp)),ih λp hp=>h p (by simp [hp]),Aa];omega
 omega
theorem Xd (os:List AV) (i:Nat) (h:i<=os.length):(JH os i).length=i:=by unfold JH;rw [GN,Bo,Ap];omega
theorem Z1 (os:List AV) (i:Nat):∀ p∈JH os i,p<=(EK os i).length:=λp hp=>by
 have:=Kw _ _ _ p hp
 unfold EK;rw [A9];exact this
theorem T1 (i:Nat) (t:l8_) (hi:i<9999):(Lu i t).length<=t.length+30:=by
 have:=Dv 9 (i+1) oO
 unfold Lu;simp only [A9,Zg,Pq,Aa,Am];omega
theorem Pv (n:Nat):ED (n:Int)=B0 n:=by unfold ED;rw [A2 oO];simp
theorem Tq (os:List AV):EK os os.length++((((((((([120,114,101,102,10,48,32]++B0 (os.length+1))++[10])++EB (JH os os.length))++[116,114,97,105,108,101,114,10,60,60,32,47,82,111,111,116,32,49,32,48,32,82,32,47,83,105,122,101,32])++B0 (os.length+1))++[32,62,62,10,115,116,97,114,116,120,114,101,102,10])++B0 (EK os os.length).length)++[10,37,37,69,79,70,10]))=Cw os:=by
 unfold Cw Ez EK JH
 simp only [D7,Bo,AS,Bh,BT,S1,KJ,Ok,VU,A9]
 rfl
theorem PA:∀ (ts:List (l8_)) (i k:Nat),(Ep k (ts.take i)).length<=(Ep k ts).length
 | [],_,_=>by simp
 | t::ts,0,k=>by simp [Ep]
 | t::ts,i+1,k=>by
  have:=PA ts i (k+1)
  simp only [List.take_succ_cons,Ep,A9];omega
theorem Kc (os:List AV) (i:Nat):(EK os i).length<=(Cw os).length:=by
 have h:=PA (os.map Da) i 0
 unfold EK Cw Ez
 rw [List.map_take]
 simp only [A9];omega
theorem QG (lp:Option Addr) (ys:List AC) (os:List AV) (lc:Nat) (S:Nat->Prop) (w:World) (hr:AA Fi w lp ys) (hc:ys.length<=lc) (hA:AJ w S ys os) (hbk:∀ o∈os,FJ 32 true o->(Da o).length<=50000000) (G:Prop)
  (hsd:∀ i (h:i<ys.length) (h2:i<os.length) (w1:World),At w1 (λk=>k<w.heap.size) ys[i] os[i]->Calls Tryz.prog 19 #[.agg (D3 ys[i]).toArray] w1 λe w'=>∃ b:{ b:Bool // (b=true->FJ 32 true os[i])/\(G->b=true) },e=.returned (.bool b.1)/\AL w1 w') :
  Calls Tryz.prog 13 #[.slice lp ys.length lc] w λe w'=>∃ x:Option Addr × Nat × Nat × Int,e=.returned (.tuple #[.slice x.1 x.2.1 x.2.2.1,Ag x.2.2.2])/\AL w w'/\PE G w w' os x.1 x.2.1 x.2.2.1 x.2.2.2:=by
 have aP:=hr.lt
 have ak:=hA.len
 have aQ:AJ w (λk=>k<w.heap.size) ys os:=hA.mono λk _ hk=>hk
 refine AF func13 rfl ntmps13 ?_
 have u:=Dh w
 refine A4<|CL rfl<|A8 rfl<|Ad<|FG 17 (decide (ys.length<1\/4096<ys.length)) ?_ ?_
 refine An<|A3 rfl<|A1 (.lenS Cg rfl)<|A1 (.lss rfl rfl)<|A3 rfl<|Cc rfl rfl rfl (λB=>?_) (λB=>?_)
 have aR:=dF B
 refine A3 rfl<|AE B<|A1 (.lenS Cg rfl)<|AE B<|A1 (.gtr rfl rfl)<|A1 (.pkF rfl B rfl)<|A0<|?_
 exact ⟨GC (DI rfl (by exact GW.2 oO)),rfl⟩
 have aR:=dT B
 refine B6 B<|B6 B<|A1 (.pkT rfl B rfl)<|A0<|?_
 exact ⟨GC (DI rfl (by exact (AR oO).symm)),rfl⟩
 refine Ai rfl (λh2=>?_) (λh2=>?_)
 have aT:=dT h2
 have aU:ys.length<1\/4096<ys.length:=dT aS
 refine A4<|CL rfl<|A8 rfl<|AU (Du rfl rfl rfl ?_)
 first
 | exact ⟨(none,0,0,22),rfl,u,F1 dD (λ_ h1 h2 _=>by omega)⟩
 | exact ⟨(none,0,0,22),rfl,u,F1 dD (λg _ _ _=>P g)⟩
 | exact ⟨(none,0,0,25),rfl,u,F1 dD (λ_ _ _ f=>by have:=Kc os (i+1);omega)⟩
 | exact ⟨(none,0,0,25),rfl,u,F1 dD (λ_ _ _ f=>by omega)⟩
 | exact ⟨(pe,(Cw os).length,ce,0),rfl,u,⟨λ_ _ _ _=>rfl,λ_=>⟨rfl,hb1,hb3,hb2,j,oO,oO,FACT⟩⟩⟩
 have aT:=dF h2
 have aU:¬ (ys.length<1\/4096<ys.length):=dF aS
 refine As<|Ad<|A4<|A8 rfl<|AT<|BO (α:=Nat) (λt=>[(0,.slice lp ys.length lc),(2,.slice none 0 0),(3,Ag 0),(4,Ag (t:Int))]) (λt w'=>AL w w'/\AA Fi w' lp ys/\AJ w' (λk=>k<w.heap.size) ys os/\(∀ o∈os.take t,FJ 32 true o)/\t<=ys.length) (λt=>ys.length-t) (0) ⟨rfl,rfl,rfl,rfl,tT⟩ (⟨u,hr,aQ,λo h=>by simp at h,FN _⟩) (λt w1 hR=>?_)
 obtain ⟨i,rfl⟩:=eX t
 obtain ⟨q1,C,q3,q4,q5⟩:=hR
 refine Ad<|A4<|A3 rfl<|A3 rfl<|A1 (.lenS Cg rfl)<|A1 (.lss rfl rfl)<|A0<|Ai rfl (λf=>?_) (λf=>?_)
 have aV:=dT f
 refine As<|Ad<|AT<|A4<|A3 rfl<|A3 rfl<|A1 (.ixm Cg Dd rfl rfl (C.isp oO) (i) (rfl) oO)<|Aj (DG Av rfl Ah C (i) oO rfl)<|Bf BQ rfl rfl ((hsd i oO oO _ ((q3).sub i oO oO))) (λsb w4 V=>?_)
 have aW:=AJ.same (w1:=w4) q3 (λk hk hl=>V.block k hl)
 have aX:=Ea C V (λl=>C.lt l)
 have v:=Ci q1 V
 refine A1 (.not rfl)<|A0<|Ai rfl (λh8=>?_) (λh8=>?_)
 have aY:=(nT h8)
 have P:G->False:=λg=>by (have q:=sb.2.2 g);(have C:=nT (show (!sb.1)=true by assumption));rw [q] at C;cases C
 refine A4<|CL rfl<|A8 rfl<|AU (Du rfl rfl rfl ?_)
 first
 | exact ⟨(none,0,0,22),rfl,v,F1 dD (λ_ h1 h2 _=>by omega)⟩
 | exact ⟨(none,0,0,22),rfl,v,F1 dD (λg _ _ _=>P g)⟩
 | exact ⟨(none,0,0,25),rfl,v,F1 dD (λ_ _ _ f=>by have:=Kc os (i+1);omega)⟩
 | exact ⟨(none,0,0,25),rfl,v,F1 dD (λ_ _ _ f=>by omega)⟩
 | exact ⟨(pe,(Cw os).length,ce,0),rfl,v,⟨λ_ _ _ _=>rfl,λ_=>⟨rfl,hb1,hb3,hb2,j,oO,oO,FACT⟩⟩⟩
 have aY:=(nF h8)
 have aZ:FJ 32 true (os[i]'oO):=sb.2.1 (nF aS)
 refine As<|An<|A3 rfl<|A1 (.iis (((i+1:Nat):Int)) (.add rfl rfl (Bb oO)) oO)<|A8 rfl ?_
 exact ⟨i+1,⟨rfl,rfl,rfl,rfl,tT⟩,⟨v,aX,aW,λo ho=>by
  rw [B7 oO,Bj,Bl] at ho;rcases ho with ho | rfl;exact q4 o ho;exact aZ,oM⟩,oM⟩
 have aV:=dF f
 refine BL<|Ad ?_
 have j:∀ o∈os,FJ 32 true o:=λo ho=>q4 o (by rw [Al oO];exact ho)
 refine An<|CC (ps:=_) B1 EC Li rfl rfl rfl rfl rfl pR rfl (λb9 a' X al Q b6=>?_)
 have am:=AJ.same (w1:=a') q3 (λk hk hl=>Q.other k oO)
 have U:=λl=>X▸C.lt l
 have an:=AA.upd C Q (λl=>CV (U l))
 have ao:=uB q1 X Q
 have b4:=CW X q1.size
 refine LM ([37,80,68,70,45,49,46,52,10]) B1 Ga rfl al rfl rfl (λac b0 D b5=>?_)
 have ap:=AJ.same (w1:=ac) am (λk hk hl=>D.other k oM)
 have aq:=AA.upd an D (λl=>CV (U l))
 have ar:=BR ao oO D
 refine A8 rfl<|A4<|A8 rfl<|Ad<|A4<|A8 rfl<|AT ?_
 have u:Np 5 w.heap.size ac (some ⟨b9,0,none⟩) 9 9 (EK os 0):=⟨rfl,.inr ⟨rfl,dD,b0,by show w.heap.size<=b9;omega⟩⟩
 refine BO (α:=Option Addr × Nat × Nat) (λt=>[(0,.slice lp ys.length lc),(2,.slice none 0 0),(3,Ag 0),(5,.slice t.1 (EK os t.2.2).length t.2.1),(6,.string (bs (EB (JH os t.2.2)))),(7,Ag (t.2.2:Int))]) (λt w'=>AL w w'/\AA Fi w' lp ys/\AJ w' (λk=>k<w.heap.size) ys os/\Np 5 w.heap.size w' t.1 (EK os t.2.2).length t.2.1 (EK os t.2.2)/\(EK os t.2.2).length<=1048576/\t.2.2<=ys.length) (λt=>ys.length-t.2.2) ((some ⟨b9,0,none⟩,9,0)) ⟨rfl,rfl,rfl,rfl,rfl,rfl,tT⟩ (⟨ar,aq,ap,u,by show (Jq++Ep 0 []).length<=1048576;decide,FN _⟩) (λt w1 hR=>?_)
 obtain ⟨p,c,i⟩:=t
 obtain ⟨p1,p2,p3,p4,p5,p6⟩:=hR
 simp only at p4 p5 p6 ⊢
 have ba:=Xd os i oO
 have au:∀ n∈JH os i,n<10000000000:=λn hn=>by have:=Z1 os i n hn;omega
 have bb:=OH (JH os i) au
 refine Ad<|A4<|A3 rfl<|A3 rfl<|A1 (.lenS Cg rfl)<|A1 (.lss rfl rfl)<|A0<|Ai rfl (λa0=>?_) (λa0=>?_)
 have av:=dT a0
 refine As<|Ad<|AT<|Ad ?_
 have hi:i<os.length:=by omega
 have ad:=j _ (Ar hi)
 have bc:=hbk _ (Ar hi) ad
 have bd:=Dv 9 (i+1) oO
 have be:=JQ (n:=(EK os i).length) oO
 refine An<|A3 rfl<|A3 rfl<|A1 (.lenS B1 rfl)<|Cs BQ rfl rfl ((A0H _ _ oO)) (λae E=>?_)
 have aw:=AJ.same (w1:=ae) p3 (λk hk hl=>E.block k hl)
 have ax:=Np.same (w1:=ae) p4 (λk hk hl=>E.block k hl)
 have ay:=Ea p2 E (λl=>p2.lt l)
 have az:=Ci p1 E
 refine A1 (.cat rfl rfl oO)<|A1 (.sis (EB (JH os (i+1))) (.cat rfl rfl oF) (by rw [<- V2 os i hi];unfold DX F9;simp only [AS]))<|A8 rfl<|Ad<|DF 14 rfl BS (λw'=>AA Fi w' lp ys/\True) (λa1 F=>?_)
 have aA:=AJ.same (w1:=a1) aw (λk hk hl=>(by obtain ⟨m,rfl⟩:=F;rfl))
 have aB:=Np.same (w1:=a1) ax (λk hk hl=>(by obtain ⟨m,rfl⟩:=F;rfl))
 have a:=ay.drew F
 have aC:=Cn.below az F
 refine Ac 0 rfl (.mv rfl) ⟨a,tT⟩ ?_
 refine Ac 1 rfl (.mv rfl) ⟨a,tT⟩ ?_
 refine Ac 2 rfl (.iis (((i+1:Nat):Int)) (.add rfl rfl (Bb oO)) oO) ⟨a,tT⟩ ?_
 refine Ac 5 rfl (.mv rfl) ⟨a,tT⟩ ?_
 refine Ac 6 rfl (.mv rfl) ⟨a,tT⟩ ?_
 refine Ac 7 rfl (.ixm Cg Dd rfl rfl (a.isp oO) (i) (rfl) oO) ⟨a,tT⟩ ?_
 refine C6 8 rfl (λw' hw'=>DG Av rfl Ah (hw'.1) (i) oO rfl) ⟨a,tT⟩ rfl ?_
 refine Br 3 rfl<|Au (by have q:=FE ((i+1:Nat):Int) a1 oO oO;rw [Pv] at q;exact q) (λaf H=>?_)
 have a2:=AJ.same (w1:=af) aA (λk hk hl=>H.block k hl)
 have aD:=Np.same (w1:=af) aB (λk hk hl=>H.block k hl)
 have J:=Ea a H (λl=>a.lt l)
 have aE:=Ci aC H
 refine A0<|⟨⟨J,tT⟩,?_⟩
 refine Ac 4 rfl (.cat rfl rfl oF) ⟨J,tT⟩ ?_
 refine Br 9 rfl<|Cs BQ rfl rfl ((Uy _ _ (NP _) _ _ _ _ _ ((a2).sub i oO hi) ad oO)) (λag K=>?_)
 have aF:=AJ.same (w1:=ag) a2 (λk hk hl=>K.block k hl)
 have aG:=Np.same (w1:=ag) aD (λk hk hl=>K.block k hl)
 have L:=Ea J K (λl=>J.lt l)
 have a3:=Ci aE K
 refine A0<|⟨⟨L,tT⟩,?_⟩
 refine Ac 10 rfl (.cat rfl rfl oF) ⟨L,tT⟩ ?_
 refine Ac 11 rfl (.cat rfl rfl oF) ⟨L,tT⟩ ?_
 refine Br 12 rfl<|W9 (r:=Lu i (Da (os[i]'hi))) B1 FV Id rfl aG rfl (by unfold Lu;simp [Nh]) (by have:=T1 i (Da (os[i]'hi)) oO;omega) a3.size rfl (λpq cq wq b1 a4=>?_)
 have y:=Ex a3 a4
 have aH:Np 5 w.heap.size wq pq _ cq (EK os i++Lu i (Da (os[i]'hi))):=⟨rfl,.inl b1⟩
 have T:=(L).below a4 aP
 have aI:=AJ.same (w1:=wq) aF (λk hk _=>a4.block k hk)
 refine A0<|⟨⟨T,tT⟩,?_⟩
 refine Ac 13 rfl (.as rfl) ⟨T,tT⟩ ?_
 refine C3 kR<|Ad ?_
 have ah:=V3 os i hi
 have s:=aH
 rw [ah] at s
 rw [ah]
 refine An<|A3 rfl<|A1 (.lenS B1 rfl)<|A1 (.gtr rfl rfl)<|A0<|Ai rfl (λa5=>?_) (λa5=>?_)
 have aJ:=dT a5
 refine A4<|CL rfl<|A8 rfl<|AU (Du rfl rfl rfl ?_)
 first
 | exact ⟨(none,0,0,22),rfl,y,F1 dD (λ_ h1 h2 _=>by omega)⟩
 | exact ⟨(none,0,0,22),rfl,y,F1 dD (λg _ _ _=>P g)⟩
 | exact ⟨(none,0,0,25),rfl,y,F1 dD (λ_ _ _ f=>by have:=Kc os (i+1);omega)⟩
 | exact ⟨(none,0,0,25),rfl,y,F1 dD (λ_ _ _ f=>by omega)⟩
 | exact ⟨(pe,(Cw os).length,ce,0),rfl,y,⟨λ_ _ _ _=>rfl,λ_=>⟨rfl,hb1,hb3,hb2,j,oO,oO,FACT⟩⟩⟩
 have aJ:=dF a5
 refine As<|An<|A3 rfl<|A1 (.iis (((i+1:Nat):Int)) (.add rfl rfl (Bb oO)) oO)<|A8 rfl ?_
 exact ⟨(pq,cq,i+1),⟨rfl,rfl,rfl,rfl,rfl,rfl,tT⟩,⟨y,T,aI,s,oM,oM⟩,oM⟩
 have av:=dF a0
 refine BL<|Ad ?_
 obtain rfl:i=os.length:=by omega
 have b7:=Dv 9 (os.length+1) oO
 have b8:=Dv 9 (EK os os.length).length oO
 rw [ak]
 refine An<|A3 rfl<|A1 (.lenS B1 rfl)<|A8 rfl<|A4<|A3 rfl<|A1 (.lenS Cg rfl)<|A1 (.iis (((os.length+1:Nat):Int)) (.add rfl rfl (Bb oO)) oO)<|Au (by have q:=FE ((os.length+1:Nat):Int) w1 oO oO;rw [Pv] at q;exact q) (λai a6=>?_)
 have aK:=Np.same (w1:=ai) p4 (λk hk hl=>a6.block k hl)
 have aL:=Ci p1 a6
 refine A8 rfl<|A4<|A3 rfl<|A3 rfl<|A1 (.cat rfl rfl oF)<|A1 (.cat rfl rfl oF)<|A3 rfl<|A1 (.cat rfl rfl oF)<|A1 (.cat rfl rfl oF)<|A3 rfl<|A1 (.cat rfl rfl oF)<|A1 (.cat rfl rfl oF)<|A3 rfl<|Au (by have q:=FE ((EK os os.length).length:Int) ai oO oO;rw [Pv] at q;exact q) (λb2 a7=>?_)
 have aM:=Np.same (w1:=b2) aK (λk hk hl=>a7.block k hl)
 have a8:=Ci aL a7
 refine A1 (.cat rfl rfl oF)<|A1 (.cat rfl rfl oF)<|W9 B1 FV Id rfl aM rfl (by simp) oF a8.size rfl (λpe ce we a9 b3=>?_)
 have d:=Ex a8 b3
 have aN:Es (λk=>w.heap.size<=k) we _ _:=⟨a9.baseB (FN _),λg hg=>(a9.ltB g hg).1⟩
 have aa:=a9.bytesC
 refine A8 rfl<|Ad<|Ad ?_
 have s:=aN
 rw [Tq] at s aa
 rw [Tq]
 obtain ⟨pe',ce',aj,hb1,hb2,hb3,-⟩:=aa
 simp only [Value.slice.injEq] at aj
 obtain ⟨rfl,-,rfl⟩:=aj
 refine An<|A3 rfl<|A1 (.lenS B1 rfl)<|A1 (.gtr rfl rfl)<|A0<|Ai rfl (λab=>?_) (λab=>?_)
 have aO:=dT ab
 refine A4<|CL rfl<|A8 rfl<|AU (Du rfl rfl rfl ?_)
 first
 | exact ⟨(none,0,0,22),rfl,d,F1 dD (λ_ h1 h2 _=>by omega)⟩
 | exact ⟨(none,0,0,22),rfl,d,F1 dD (λg _ _ _=>P g)⟩
 | exact ⟨(none,0,0,25),rfl,d,F1 dD (λ_ _ _ f=>by have:=Kc os (i+1);omega)⟩
 | exact ⟨(none,0,0,25),rfl,d,F1 dD (λ_ _ _ f=>by omega)⟩
 | exact ⟨(pe,(Cw os).length,ce,0),rfl,d,⟨λ_ _ _ _=>rfl,λ_=>⟨rfl,hb1,hb3,hb2,j,oO,oO,s⟩⟩⟩
 have aO:=dF ab
 refine As<|A4<|A3 rfl<|CL rfl<|A8 rfl<|AU (Du rfl rfl rfl ?_)
 first
 | exact ⟨(none,0,0,22),rfl,d,F1 dD (λ_ h1 h2 _=>by omega)⟩
 | exact ⟨(none,0,0,22),rfl,d,F1 dD (λg _ _ _=>P g)⟩
 | exact ⟨(none,0,0,25),rfl,d,F1 dD (λ_ _ _ f=>by have:=Kc os (i+1);omega)⟩
 | exact ⟨(none,0,0,25),rfl,d,F1 dD (λ_ _ _ f=>by omega)⟩
 | exact ⟨(pe,(Cw os).length,ce,0),rfl,d,⟨λ_ _ _ _=>rfl,λ_=>⟨rfl,hb1,hb3,hb2,j,oO,oO,s⟩⟩⟩
end
section
theorem NB (os:List AV) (H:Xz os) (p:Option Addr) (n c:Nat) (w:World) (hn:n=(Cw os).length) (hb:Af w p (Cw os)) (hc:(Cw os).length<=c) :
  Calls Tryz.prog 14 #[.slice p n c] w λe w'=>∃ bf,e=.returned (.tuple #[ptV bf,Ag 0])/\AK (λk=>w.heap.size<=k) w' bf (Cw os) (Dl os)/\AL w w':=by
 subst hn
 exact UB p c (os.map Da) w hb hc H.size (by rw [Bo];exact H.len)
theorem R9 (os:List AV) (L:Nat) (h:∀ o∈os,(Da o).length<=L) (hn:os.length<=4096) (hL:L<=100000):(Cw os).length<=200+os.length * (L+50):=by
 have hb:∀ (l:List AV) (k:Nat),(∀ o∈l,(Da o).length<=L)->k+l.length<=9000->(Ep k (l.map Da)).length<=l.length * (L+30):=by
  intro l
  induction l with
  | nil=>intro k _ _;simp [Ep]
  | cons o r ih =>
   intro k b c
   simp only [Aa] at c
   have d:=ih (k+1) (λo ho=>b o (by simp [ho])) oO
   have f:=b o (by simp)
   have g:=T1 k (Da o) oO
   simp only [Ev,Ep,A9,Aa,Nat.succ_mul]
   omega
 have i:=hb os 0 h oO
 have hm:os.length * (L+30)<=4096 * (L+30):=Cz _ hn
 have a:∀ n∈Dm 9 0 (os.map Da),n<10000000000:=λn hn=>by
  have:=Kw _ _ _ n hn
  omega
 have ht:=OH _ a
 rw [GN,Bo] at ht
 have j:=Dv 9 (os.length+1) oO
 have m:=Dv 9 (9+(Ep 0 (os.map Da)).length) oO
 have e:os.length * (L+50)=os.length * (L+30)+20 * os.length:=by rw [Nat.mul_add,Nat.mul_add];omega
 unfold Cw Ez
 simp only [A9,Aa,Bo,ht,Jq,S1,KJ,Ok,VU,Am]
 omega
end
section
def IT (o:AV) (v:Value) (w:World):Prop:=∃ y:AC,v=.agg (D3 y).toArray/\At w (λq=>q<w.heap.size) y o
def O4 (k:l8_) (o:AV) (v:Value) (w:World):Prop:=∃ y:AC,v=.agg (prV ⟨k,y⟩).toArray/\At w (λq=>q<w.heap.size) y o
def TJ (os:List AV) (v:Value) (w:World):Prop:=∃ (p:Option Addr) (ys:List AC) (c:Nat),v=.slice p ys.length c/\AA Fi w p ys/\AJ w (λq=>q<w.heap.size) ys os/\ys.length<=c/\c<=9223372036854775807
def LP (ks:List (l8_)) (os:List AV) (v:Value) (w:World):Prop:=∃ (p:Option Addr) (prs:List Vk) (c:Nat),v=.slice p prs.length c/\AA prL w p prs/\prs.map Vk.k=ks/\AJ w (λq=>q<w.heap.size) (prs.map Vk.v) os
theorem At.up  {y:AC} {o:AV} (h:At w (λq=>q<w.heap.size) y o) (hb:AL w w1):At w1 (λq=>q<w1.heap.size) y o:=(h.same λk hk _=>hb.block k hk).mono λk hk _=>Nat.lt_of_lt_of_le hk hb.size
theorem AJ.up  {ys:List AC} {os:List AV} (h:AJ w (λq=>q<w.heap.size) ys os) (hb:AL w w1):AJ w1 (λq=>q<w1.heap.size) ys os:=⟨h.len,λi h1 h2=>(h.sub i h1 h2).up hb⟩
theorem IT.up {o:AV} (v:Value) (w w1:World) (h:IT o v w) (hb:AL w w1):IT o v w1:=by
 obtain ⟨y,a,b⟩:=h
 exact ⟨y,a,b.up hb⟩
theorem O4.up {k:l8_} {o:AV} (v:Value) (w w1:World) (h:O4 k o v w) (hb:AL w w1):O4 k o v w1:=by
 obtain ⟨y,a,b⟩:=h
 exact ⟨y,a,b.up hb⟩
theorem TJ.up {os:List AV} (v:Value) (w w1:World) (h:TJ os v w) (hb:AL w w1):TJ os v w1:=by
 obtain ⟨p,ys,c,b,a,d,e⟩:=h
 exact ⟨p,ys,c,b,a.below hb λf=>a.lt f,d.up hb,e⟩
theorem LP.up  {os:List AV} (v:Value) (w w1:World) (h:LP ks os v w) (hb:AL w w1):LP ks os v w1:=by
 obtain ⟨p,ys,c,b,a,d,e⟩:=h
 exact ⟨p,ys,c,b,a.below hb λf=>a.lt f,d,e.up hb⟩
theorem AJ.nil (w:World) (S:Nat->Prop):AJ w S [] []:=⟨rfl,λi h=>Dp h (by simp)⟩
theorem AJ.cons {w:World} {S:Nat->Prop} {y:AC} {o:AV} {ys:List AC} {os:List AV} (h:At w S y o) (hs:AJ w S ys os):AJ w S (y::ys) (o::os):=⟨BH (·+1) hs.len,λi h1 h2=>by
 cases i with
 | zero=>exact h
 | succ i=>exact hs.sub i (by simpa using h1) (by simpa using h2)⟩
theorem E9 (w:World) (S:Nat->Prop) (k n:Int) (s:l8_) (h:-9223372036854775808<=n/\n<=9223372036854775807) (hs:s.length<=9223372036854775807):At w S (Cx (DR k n s)) (.mk k n s [] [] []):=by
 have:=(BJ.zero w S k n s).rep (.mk _ _ _ _ _ h hs (by simp) (by simp))
 rw [show Rg (IL k n s)=.mk k n s [] [] [] by simp [IL,Rg,W5]] at this
 exact this
theorem A0S (n:Int) (w:World) (h:-9223372036854775808<=n/\n<=9223372036854775807):IT (oN n) (.agg (D3 (Cx (DR 2 n []))).toArray) w:=⟨_,rfl,E9 w _ 2 n [] h (by simp)⟩
theorem RJ (s:l8_) (w:World) (h:s.length<=9223372036854775807):IT (oNm s) (.agg (D3 (Cx (DR 4 0 s))).toArray) w:=⟨_,rfl,E9 w _ 4 0 s dD h⟩
theorem UM (n:Int) (w:World) (h:-9223372036854775808<=n/\n<=9223372036854775807):IT (oR n) (.agg (D3 (Cx (DR 8 n []))).toArray) w:=⟨_,rfl,E9 w _ 8 n [] h (by simp)⟩
theorem Oa  {ys:List AC} {os:List AV} (hr:AA Fi w p ys) (hA:AJ w S ys os) (hc:ys.length<=c) (hm:c<=9223372036854775807) (hs:0<ys.length->S (pA p).block):At w S (G7 p ys.length c) (oA os) :=
 .mk (G7 p ys.length c) [] os [] ys ⟨by show _<=(0:Int)/\(0:Int)<=_;decide,by show ([]:l8_).length<=_;simp,rfl,rfl,rfl,DS _,hc,DS _,by show (0:Nat)<=_;omega,hm,by show (0:Nat)<=_;omega⟩ (by simp) (AM.nil _) (by simp) hr hs (Af.nil _) (by simp) hA.len hA.sub
theorem A0T  {ys:List AC} {os:List AV} (hr:AA Fi w p ys) (hA:AJ w (λq=>q<w.heap.size) ys os) (hc:ys.length<=c) (hm:c<=9223372036854775807):IT (oA os) (.agg (D3 (G7 p ys.length c)).toArray) w:=⟨_,rfl,Oa hr hA hc hm λh0=>hr.lt h0⟩
theorem Mc  {b:Nat} (prs:List Vk) {os:List AV} (hr:AA prL w1 (some ⟨b,0,none⟩) prs) (hA:AJ w (λq=>q<w.heap.size) (prs.map Vk.v) os) (hb:AL w w1) (hk:prs.map Vk.k=ks):LP ks os (.slice (some ⟨b,0,none⟩) prs.length prs.length) w1:=⟨_,prs,_,rfl,hr,hk,hA.up hb⟩
theorem Vx  {b:Nat} (ys:List AC) {os:List AV} (hr:AA Fi w1 (some ⟨b,0,none⟩) ys) (hA:AJ w (λq=>q<w.heap.size) ys os) (hb:AL w w1) (hl:ys.length<=1000):TJ os (.slice (some ⟨b,0,none⟩) ys.length ys.length) w1:=⟨_,ys,_,rfl,hr,hA.up hb,DS _,oO⟩
theorem HY (ks:List (l8_)) (os:List AV) (v:Value) (w:World) (h:LP ks os v w) (hl:ks.length<=100) (hks:∀ k∈ks,k.length<=9223372036854775807) :
    Calls Tryz.prog 7 #[v] w λe w'=>∃ u:Value,e=.returned u/\IT (oDi ks os) u w'/\AL w w':=by
  obtain ⟨p,prs,c,rfl,hr,rfl,hA⟩:=h
  have g:prs.length<=100:=by rw [Bo] at hl;exact hl
  refine (YP p prs c w hr g).mono λe w' ⟨⟨⟨kp,kc⟩,lp,lc⟩,he,hb,hk,i⟩=>⟨_,he,?_,hb⟩
  obtain ⟨j,l,m,a,t⟩:=hk.full
  obtain ⟨o,q,s,b,x⟩:=i.full
  have d:=hA.up hb
  refine ⟨⟨7,0,[],kp,prs.length,kc,lp,prs.length,lc,none,0,0⟩,rfl,?_⟩
  exact .mk ⟨7,0,[],kp,prs.length,kc,lp,prs.length,lc,none,0,0⟩ (prs.map Vk.k) os [] (prs.map Vk.v) ⟨by show _<=(0:Int)/\(0:Int)<=_;decide,by show ([]:l8_).length<=_;simp,j,o,rfl,l,q,DS _,m,s,by show (0:Nat)<=_;omega⟩ hks a.strs
    (λf=>a.strs.lt f) b (λf=>b.lt f) (Af.nil _) (by simp) d.len d.sub
theorem Mx (k:l8_) (y:AC):Tryz.prog.built 31 [(0,.string (bs k)),(1,.agg (D3 y).toArray)]=some (prV ⟨k,y⟩).toArray:=by kernel_rfl
end
section
section strings
variable {P:Program} {f:Fr} {x y:Operand} {l m:l8_} {tx ty:TypeId}
theorem Bz.lts (hx:CE f x=some (.string (bs l))) (hy:CE f y=some (.string (bs m))):Bz P (.binOp .lss tx x y ty) f (.bool (Op.bytesLess l m)):=λρ hρ d ty pos aft g w=>by
 simp [execOp,hρ _ _ hx,hρ _ _ hy,eqGuard,binOp,Op.stringOp,LG]
theorem Bz.slbD  {l:List α} {i:Int} (hu:P.underlying tx=some (.slice e)) (hs:∀ w,(sizeOf e).run P w=.ok 1 w) (hx:CE f x=some (.slice p l.length c)) (hi:CE f y=some (Ag i)) (a:Nat) (ei:i=a) (ham:a<=l.length) :
  Bz P (.slice tx x (some y) none none) f (.slice (DO p c a) (l.drop a).length (c-a)):=by rw [Aq];exact Bz.slbF hu hs hx hi a ei ham
theorem Bz.slbK  {z:Operand} {l:List α} {j:Int} (hu:P.underlying tx=some (.slice e)) (hs:∀ w,(sizeOf e).run P w=.ok 1 w) (hx:CE f x=some (.slice p l.length c)) (hj:CE f z=some (Ag j)) (b:Nat) (ej:j=b) (hb:b<=l.length) (hbc:l.length<=c) :
  Bz P (.slice tx x none (some z) none) f (.slice (DO p c 0) (l.take b).length c):=by rw [Ap,Nat.min_eq_left hb];exact Bz.slbT hu hs hx hj b ej oO
theorem Bz.slmD  {l:List α} {sz:Nat} {i:Int} (hu:P.underlying tx=some (.slice e)) (hs:∀ w,(sizeOf e).run P w=.ok sz w) (hx:CE f x=some (.slice p l.length c)) (hi:CE f y=some (Ag i)) (a:Nat) (ei:i=a) (ham:a<=l.length) :
  Bz P (.slice tx x (some y) none none) f (.slice (F7 sz p c a) (l.drop a).length (c-a)):=by rw [Aq];exact Xx hu hs hx hi a ei ham
theorem Bz.slmK  {z:Operand} {l:List α} {sz:Nat} {j:Int} (hu:P.underlying tx=some (.slice e)) (hs:∀ w,(sizeOf e).run P w=.ok sz w) (hx:CE f x=some (.slice p l.length c)) (hj:CE f z=some (Ag j)) (b:Nat) (ej:j=b) (hb:b<=l.length) (hbc:l.length<=c) :
  Bz P (.slice tx x none (some z) none) f (.slice (F7 sz p c 0) (l.take b).length c):=by rw [Ap,Nat.min_eq_left hb];exact Bz.slmT hu hs hx hj b ej oO
end strings
theorem KA (p:Option Addr) (c a:Nat):(pA (DO p c a)).block=(pA p).block:=by
 unfold DO;split
 · rfl
 ·
  cases p with
  | none=>rfl
  | some x=>exact E4 _ _
theorem Cv (m:Nat) (p:Option Addr) (c a:Nat):(pA (F7 m p c a)).block=(pA p).block:=by
 unfold F7;split
 · rfl
 ·
  cases p with
  | none=>rfl
  | some x=>exact E4 _ _
theorem Kx  {a:Nat} (h:c=0\/p≠none):c-a=0\/DO p c a≠none:=by
 rcases h with h | h
 · exact .inl oO
 ·
  refine .inr ?_
  cases p with
  | none=>exact Dp rfl h
  | some a=>unfold DO;split <;> simp
theorem J4 {m:Nat} {a:Nat} (h:c=0\/p≠none):c-a=0\/F7 m p c a≠none:=by
 rcases h with h | h
 · exact .inl oO
 ·
  refine .inr ?_
  cases p with
  | none=>exact Dp rfl h
  | some a=>unfold F7;split <;> simp
theorem AJ.app  {cs ds:List AC} {os ps:List AV} (h:AJ w S cs os) (hs:AJ w S ds ps):AJ w S (cs++ds) (os++ps):=by
  refine ⟨by rw [A9,A9,h.len,hs.len],λi c d=>?_⟩
  have hl:=h.len
  rcases By i cs.length with a | a
  · have b : i < os.length := by omega
    rw [CY a,CY b]
    exact h.sub i a b
  · rw [A9] at c d
    rw [Cp a,Cp oO]
    simp only [hl]
    exact hs.sub _ oO oO
theorem AJ.take  {cs:List AC} {os:List AV} (h:AJ w S cs os) (n:Nat):AJ w S (cs.take n) (os.take n):=⟨by rw [Ap,Ap,h.len],λi h1 h2=>by rw [MG,MG];exact h.sub i _ _⟩
theorem AJ.drop  {cs:List AC} {os:List AV} (h:AJ w S cs os) (n:Nat):AJ w S (cs.drop n) (os.drop n):=⟨by rw [Aq,Aq,h.len],λi h1 h2=>by rw [Wg,Wg];exact h.sub _ _ _⟩
def A00 (ks:List (l8_)) (k:l8_) (i:Nat):Prop:=i<=ks.length/\(∀ j<i,Op.bytesLess (ks.getD j []) k=true)/\(i<ks.length->Op.bytesLess (ks.getD i []) k=false)
theorem OY  {b:Nat} {os:List AV} {k:l8_} {y:AC} {o:AV} {cs:List AC} {kv lv:Value} {dc:Nat} {c0:Array Value} {t0:TypeId} (_:B4 w b c0 t0)
    (hb:B4 w1 b #[Ag 7,Ag 0,.string (bs []),kv,lv,.slice dp 0 dc] 150) (hT:B8 w.heap.size b w w1) (h1:AO GZ 9 w.heap.size w1 kv (ks.take i++k::ks.drop i)) (h2:AO Fi 27 w.heap.size w1 lv (cs.take i++y::cs.drop i))
    (hA:AJ w1 (λq=>q<w.heap.size/\S q) cs os) (hy:At w1 (λq=>q<w.heap.size/\S q) y o) (hd:dc<=9223372036854775807) (hk:k.length<=9223372036854775807) (hks:∀ k∈ks,k.length<=9223372036854775807) :
    (Ending.returned (.tuple #[])=Ending.returned (.tuple #[]))/\B8 w.heap.size b w w1/\∃ z:AC,B4 w1 b (D3 z).toArray 150 /\
      At w1 (λq=>(S q/\q<w.heap.size)\/(w.heap.size<=q/\q<w1.heap.size)) z (oDi (ks.take i++k::ks.drop i) (os.take i++o::os.drop i)):=by
  refine ⟨rfl,hT,?_⟩
  obtain ⟨kp,kc,rfl,-⟩:=h1.row
  obtain ⟨lp,lc,rfl,-⟩:=h2.row
  obtain ⟨u,f,g,l,c⟩:=h1.full
  obtain ⟨v,m,s,t,d⟩:=h2.full
  have e:AJ w1 (λq=>(S q/\q<w.heap.size)\/(w.heap.size<=q/\q<w1.heap.size)) (cs.take i++y::cs.drop i) (os.take i++o::os.drop i):=by
    have hm:∀ q,q<w.heap.size/\S q->q<w1.heap.size->(S q/\q<w.heap.size)\/(w.heap.size<=q/\q<w1.heap.size):=λq h _=>.inl ⟨h.2,h.1⟩
    exact ((hA.mono hm).take i).app (AJ.cons (hy.mono hm) ((hA.mono hm).drop i))
  refine ⟨⟨7,0,[],kp,_,kc,lp,_,lc,dp,0,dc⟩,hb,?_⟩
  exact .mk ⟨7,0,[],kp,_,kc,lp,_,lc,dp,0,dc⟩ (ks.take i++k::ks.drop i) _ [] (cs.take i++y::cs.drop i) ⟨by show _<=(0:Int)/\(0:Int)<=_;decide,by show ([]:l8_).length<=_;simp,rfl,rfl,rfl,f,m,FN _,g,s,hd⟩
    (λx hx=>by
      rcases Bj.1 hx with hx | hx
      · exact hks x (EA hx)
      · rcases A7.1 hx with rfl | hx
        · exact hk
        · exact hks x (JL hx))
    l.strs (λa=>.inr ⟨(h1.lt _ (c a)).1,(h1.lt _ (c a)).2⟩) t (λa=>.inr ⟨(h2.lt _ (d a)).1,(h2.lt _ (d a)).2⟩) ⟨λh=>by simp at h,λj h=>by simp at h⟩ (by simp) e.len e.sub
theorem A0I (bv0:Nat) (x:AC) (ks:List (l8_)) (os:List AV) (k:l8_) (y:AC) (o:AV) (at_:Nat) (S:Nat->Prop) (w:World) (hb:B4 w bv0 (D3 x).toArray 150) (hx:At w S x (oDi ks os)) (hy:At w S y o) (hS:∀ q,S q->q≠bv0)
  (hx0:ks=[]->x.kc=0/\x.lc=0) (hp:A00 ks k at_) (hl:ks.length<=100) (hkl:k.length<=9223372036854775807) (ho:os.length=ks.length) :
  Calls Tryz.prog 92 #[ptV bv0,.string (bs k),.agg (D3 y).toArray] w λe w'=>e=.returned (.tuple #[])/\B8 w.heap.size bv0 w w'/\∃ z:AC,B4 w' bv0 (D3 z).toArray 150 /\
   At w' (λq=>(S q/\q<w.heap.size)\/(w.heap.size<=q/\q<w'.heap.size)) z (oDi (ks.take at_++k::ks.drop at_) (os.take at_++o::os.drop at_)):=by
 obtain ⟨h1,h2,h3⟩:=hp
 obtain ⟨keys,list,data,cs,ir,ok,cC,it,iu,hr,iv,-,-,jn,iG⟩:=hx.inv
 obtain ⟨x1,x2,x3,kp,kl,kc,lp,ll,lc,dp,dl,dc⟩:=x
 simp only at hx0
 have e1:=ok.kl;have e2:=ok.ll;have e3:=ok.dl
 have m1:=ok.kc;have m2:=ok.lc;have m3:=ok.km;have m4:=ok.lm;have m6:=ok.dm
 simp only at e1 e2 e3 m1 m2 m3 m4 m6 ir hr it iu iv
 obtain ⟨rfl,rfl,rfl,rfl,rfl,rfl⟩:=AV.mk.inj ir
 subst e1;subst e2;subst e3
 have bL:=it.rowS
 have hA:AJ w (λq=>q<w.heap.size/\S q) cs os:=⟨jn,λi h1 h2=>(iG i h1 h2).mono λq h3 h4=>⟨h4,h3⟩⟩
 have jo:At w (λq=>q<w.heap.size/\S q) y o:=hy.mono λq h3 h4=>⟨h4,h3⟩
 have iw:AA GZ w (DO kp kc 0) (ks.take at_):=by have:=bL.partT (c:=kc) at_ h1 m1;simpa [F7,DO,GZ] using this
 have iy:AA GZ w (DO kp kc at_) (ks.drop at_):=by have:=bL.partF (a:=at_) (c:=kc) h1 m1;simpa [F7,DO,GZ] using this
 have iz:=hr.partT (c:=lc) at_ oO m2
 have iA:=hr.partF (a:=at_) oO m2
 have nk:kc=0\/kp≠none:=by
  rcases I1 ks.length with b | b;exact .inl (hx0 (Dg b)).1;exact .inr (by rw [bL.isp b];simp)
 have nl:lc=0\/lp≠none:=by
  rcases I1 ks.length with b | b;exact .inl (hx0 (Dg b)).2;exact .inr (by rw [hr.isp oO];simp)
 have bk:0<ks.length->(pA kp).block≠bv0/\(pA kp).block<w.heap.size:=λb=>⟨hS _ (iu b),bL.lt b⟩
 have bl:0<cs.length->(pA lp).block≠bv0/\(pA lp).block<w.heap.size:=λb=>⟨hS _ (iv b),hr.lt b⟩
 have tk:0<(ks.take at_).length->0<ks.length:=λb=>by rw [Ap] at b;omega
 have dk:0<(ks.drop at_).length->0<ks.length:=λb=>by rw [Aq] at b;omega
 have tl:0<(cs.take at_).length->0<cs.length:=λb=>by rw [Ap] at b;omega
 have qd:0<(cs.drop at_).length->0<cs.length:=λb=>by rw [Aq] at b;omega
 have hb0:B4 w bv0 #[Ag 7,Ag 0,.string (bs []),.slice kp ks.length kc,.slice lp cs.length lc,.slice dp 0 dc] 150:=hb
 have a3:∀ q,q<w.heap.size/\S q->q≠bv0:=λq h=>hS q h.2
 simp only [D3]
 refine AF func92 rfl ntmps92 ?_
 have iB:=B8.refl (w.heap.size) bv0 w
 refine A4<|WL.box rfl rfl (λb1 cT bo iH aj k2=>?_)
 have jp:=AJ.same (w1:=cT) hA (λk hk hl=>aj.other k oO)
 have jq:=At.same (w1:=cT) jo (λk hk hl=>aj.other k oO)
 have jr:=Bt bo hb0.lt
 have E:=hb0.un aj jr
 have iI:=λb=>bo▸bL.lt b
 have iC:=AA.upd bL aj (λb=>CV (iI b))
 have iJ:=λb=>bo▸iw.lt b
 have js:=AA.upd iw aj (λb=>CV (iJ b))
 have fz:=λb=>bo▸iy.lt b
 have iK:=AA.upd iy aj (λb=>CV (fz b))
 have fA:=λb=>bo▸iz.lt b
 have iL:=AA.upd iz aj (λb=>CV (fA b))
 have fB:=λb=>bo▸iA.lt b
 have iM:=AA.upd iA aj (λb=>CV (fB b))
 have fC:=CW bo iB.size
 have iN:=Bs iB (DC aj fC)
 refine A0<|A4<|A8 rfl<|Ad<|AT<|BO (α:=Nat) (λt=>[(0,ptV bv0),(1,.string (bs k)),(5,ptV b1),(6,Ag (t:Int))]) (λt w'=>cT=w'/\t<=at_) (λt=>at_-t) (0) ⟨rfl,rfl,rfl,rfl,tT⟩ (⟨rfl,FN _⟩) (λt w1 hR=>?_)
 obtain ⟨i0,rfl⟩:=eX t
 obtain ⟨rfl,kq⟩:=hR
 have hD:∀ h:i0<ks.length,ks.getD i0 []=ks[i0]:=λh=>by rw [D8,Ak h];rfl
 refine Ad<|FG 26 (decide (i0<at_)) ?_ ?_
 refine An<|A3 rfl<|A3 rfl<|A1 (.nck rfl)<|A1 (.fa Hz rfl Dd dD rfl)<|A1 (.fa Av rfl E6 dD rfl)<|Aj (Ae (Fs _) rfl E rfl)<|A1 (.lenS DD rfl)<|A1 (.lss rfl rfl)<|A3 rfl<|Cc rfl rfl rfl (λv=>?_) (λv=>?_)
 have iO:=dT v
 refine A3 rfl<|AE v<|A1 (.nck rfl)<|AE v<|A1 (.fa Hz rfl Dd dD rfl)<|AE v<|A1 (.fa Av rfl E6 dD rfl)<|AE v<|Aj (Ae (Fs _) rfl E rfl)<|AE v<|A3 rfl<|AE v<|A1 (.ixm DD FP rfl rfl (iC.isp oO) (i0) (rfl) oO)<|AE v<|Aj (BG (FU _) rfl ((iC.field (i0) oO 0 dD).trans rfl))<|AE v<|A3 rfl<|AE v<|A1 (.lts rfl rfl)<|A1 (.pkT rfl v rfl)<|A0<|?_
 exact ⟨GC (DI rfl (by (have ex:i0<ks.length:=by omega);(rcases By i0 at_ with hq | hq);(rw [AR hq,<- hD ex];exact h2 i0 hq);(have jt:i0=at_:=by omega);(rw [AH oO,<- hD ex,jt];exact h3 oO))),rfl⟩
 have iO:=dF v
 refine B6 v<|B6 v<|B6 v<|B6 v<|B6 v<|B6 v<|B6 v<|B6 v<|B6 v<|A1 (.pkF rfl v rfl)<|A0<|?_
 exact ⟨GC (DI rfl (by exact (AH oO).symm)),rfl⟩
 refine Ai rfl (λey=>?_) (λey=>?_)
 have iP:=dT ey
 refine As<|AT<|An<|A3 rfl<|A1 (.iis (((i0+1:Nat):Int)) (.add rfl rfl (Bb oO)) oO)<|A8 rfl ?_
 exact ⟨i0+1,⟨rfl,rfl,rfl,rfl,tT⟩,⟨rfl,oM⟩,oM⟩
 have iP:=dF ey
 have ea:i0=at_:=by have:=dF (show decide (i0<at_)=false by assumption);omega
 subst ea
 refine BL<|Mz (α:=Value) (λt=>[(0,ptV bv0),(5,ptV b1),(6,Ag (i0:Int))]) (λt w'=>B8 w.heap.size bv0 w w'/\B4 w' bv0 #[Ag 7,Ag 0,.string (bs []),t,.slice lp cs.length lc,.slice dp 0 dc] 150/\B4 w' b1 (D3 y).toArray 27/\AO GZ 9 (b1+1) w' t (ks.take i0++k::ks.drop i0)/\AA Fi w' (F7 Fi.m lp lc 0) (cs.take i0)/\AA Fi w' (F7 Fi.m lp lc i0) (cs.drop i0)/\AJ w' (λq=>q<w.heap.size/\S q) cs os/\At w' (λq=>q<w.heap.size/\S q) y o) ?_ (λt w1 hR=>?_)
 refine Sc 24 rfl rfl BS kR (λw'=>w'.heap[bv0]?=cT.heap[bv0]?/\True) (λiD ak=>?_)
 have ez:=AJ.same (w1:=iD) jp (λk hk hl=>(by obtain ⟨m,rfl⟩:=ak;rfl))
 have eA:=At.same (w1:=iD) jq (λk hk hl=>(by obtain ⟨m,rfl⟩:=ak;rfl))
 have bp:=E.drew ak
 have bO:=iH.drew ak
 have bP:=js.drew ak
 have bQ:=iK.drew ak
 have bR:=iL.drew ak
 have bS:=iM.drew ak
 have bT:=Bs iN (KU ak)
 have a4:=BU (bp.trans E.symm) BF
 refine Ac 0 rfl (.mv rfl) a4 ?_
 refine Ac 2 rfl (.mv rfl) a4 ?_
 refine Ac 3 rfl (.nck rfl) a4 ?_
 refine Ac 4 rfl (.fa Hz rfl Dd dD rfl) a4 ?_
 refine Ac 5 rfl (.fa Av rfl E6 dD rfl) a4 ?_
 refine C6 6 rfl (λw' hw'=>Ae (Fs _) rfl ((hw'.1).trans E) rfl) a4 rfl ?_
 refine Ac 7 rfl (.mv rfl) a4 ?_
 refine Ac 8 rfl (.slbK (l:=ks) (z:=.tmp 36) DD FP rfl rfl i0 rfl oO m1) a4 ?_
 refine Ac 10 rfl (.mv rfl) a4 ?_
 refine Ac 13 rfl (.mv rfl) a4 ?_
 refine Ac 14 rfl (.nck rfl) a4 ?_
 refine Ac 15 rfl (.fa Hz rfl Dd dD rfl) a4 ?_
 refine Ac 16 rfl (.fa Av rfl E6 dD rfl) a4 ?_
 refine C6 17 rfl (λw' hw'=>Ae (Fs _) rfl ((hw'.1).trans E) rfl) a4 rfl ?_
 refine Ac 18 rfl (.mv rfl) a4 ?_
 refine Ac 19 rfl (.slbD (l:=ks) DD FP rfl rfl i0 rfl oO) a4 ?_
 refine IS 1 rfl 11 rfl ?_ ?_
 refine ID DD FP rfl (λeB cD aE a5 a6 jY=>?_)
 have eC:=AJ.same (w1:=cD) ez (λk hk hl=>a6.other k oO)
 have eD:=At.same (w1:=cD) eA (λk hk hl=>a6.other k oO)
 have iQ:=Bt aE bp.lt
 have bU:=bp.un a6 iQ
 have iR:=Bt aE bO.lt
 have cE:=bO.un a6 iR
 have fD:=λb=>aE▸bP.lt b
 have cF:=AA.upd bP a6 (λb=>CV (fD b))
 have fE:=λb=>aE▸bQ.lt b
 have bV:=AA.upd bQ a6 (λb=>CV (fE b))
 have fF:=λb=>aE▸bR.lt b
 have bW:=AA.upd bR a6 (λb=>CV (fF b))
 have fG:=λb=>aE▸bS.lt b
 have bX:=AA.upd bS a6 (λb=>CV (fG b))
 have a7:=CW aE bT.size
 have cG:=Bs bT (DC a6 a7)
 have a5:=GV (L:=GZ) (l:=[]) (a5 eB (DS _))
 have bq:eB<=cD.heap.size:=by omega
 refine A0<|⟨⟨(bU).trans (E).symm,tT⟩,?_⟩
 refine IS 9 rfl 11 rfl ?_ ?_
 refine Cb DD Nb rfl rfl rfl a5 rfl cF (by (try simp only [A9,Ap,Aq,Aa,Am]);omega) (bq) rfl (λ_=>Kx (a:=0) nk) (λkr eF fH b9 aG jZ=>?_)
 have cH:=bU.below b9 oO
 have eG:=cE.below b9 oO
 have iS:=AJ.same eC (λk hk hl=>aG.block k hl (λe=>by (have d:=((a5).lt k e.symm).1;omega)))
 have iT:=At.same eD (λk hk hl=>aG.block k hl (λe=>by (have d:=((a5).lt k e.symm).1;omega)))
 have eH:=AA.same (w1:=eF) bV (λb=>aG.block _ (bV.lt b) (λhx=>by (have d:=((a5).lt _ hx.symm).1;rw [KA] at d;have F:=(bk (dk b)).2;omega)))
 have eI:=AA.same (w1:=eF) bW (λb=>aG.block _ (bW.lt b) (λhx=>by (have d:=((a5).lt _ hx.symm).1;rw [Cv] at d;have F:=(bl (tl b)).2;omega)))
 have eJ:=AA.same (w1:=eF) bX (λb=>aG.block _ (bX.lt b) (λhx=>by (have d:=((a5).lt _ hx.symm).1;rw [Cv] at d;have F:=(bl (qd b)).2;omega)))
 have eK:=Bs cG (Fb (b9.mono (a7)))
 have fI:=CT bq b9.size
 refine A0<|⟨⟨(cH).trans (E).symm,tT⟩,?_⟩
 refine Br 11 rfl<|CC (ps:=_) DD FP z9_ rfl rfl rfl rfl rfl pR rfl (λkt eL aF fJ U j'=>?_)
 have cU:=CT fI U.size
 have b7:=Ix fH aF U
 have iU:=AJ.same (w1:=eL) iS (λk hk hl=>U.other k oO)
 have iV:=At.same (w1:=eL) iT (λk hk hl=>U.other k oO)
 have iW:=Bt aF cH.lt
 have eM:=cH.un U iW
 have iX:=Bt aF eG.lt
 have iY:=eG.un U iX
 have fK:=λb=>aF▸eH.lt b
 have eN:=AA.upd eH U (λb=>CV (fK b))
 have fL:=λb=>aF▸eI.lt b
 have eO:=AA.upd eI U (λb=>CV (fL b))
 have fM:=λb=>aF▸eJ.lt b
 have eP:=AA.upd eJ U (λb=>CV (fM b))
 have eQ:=CW aF eK.size
 have iZ:=Bs eK (DC U eQ)
 have bt:=AA.lit (V:=GZ) (l:=[k]) fJ (rfl)
 refine A0<|⟨⟨(eM).trans (E).symm,tT⟩,?_⟩
 refine Br 12 rfl<|Cb DD Nb rfl rfl rfl b7 rfl bt (by (try simp only [A9,Ap,Aq,Aa,Am]);omega) (cU) rfl (λh=>nomatch h) (λku eR aH ba aI k0=>?_)
 have eS:=eM.below ba oO
 have i':=iY.below ba oO
 have j0:=AJ.same iU (λk hk hl=>aI.block k hl (λe=>by (have d:=((b7).lt k e.symm).1;omega)))
 have j9:=At.same iV (λk hk hl=>aI.block k hl (λe=>by (have d:=((b7).lt k e.symm).1;omega)))
 have ja:=AA.same (w1:=eR) eN (λb=>aI.block _ (eN.lt b) (λhx=>by (have d:=((b7).lt _ hx.symm).1;rw [KA] at d;have F:=(bk (dk b)).2;omega)))
 have eT:=AA.same (w1:=eR) eO (λb=>aI.block _ (eO.lt b) (λhx=>by (have d:=((b7).lt _ hx.symm).1;rw [Cv] at d;have F:=(bl (tl b)).2;omega)))
 have eU:=AA.same (w1:=eR) eP (λb=>aI.block _ (eP.lt b) (λhx=>by (have d:=((b7).lt _ hx.symm).1;rw [Cv] at d;have F:=(bl (qd b)).2;omega)))
 have jb:=Bs iZ (Fb (ba.mono (a7)))
 have fN:=CT cU ba.size
 refine A0<|⟨⟨(eS).trans (E).symm,tT⟩,?_⟩
 refine Br 20 rfl<|Cb DD Nb rfl rfl rfl aH rfl ja (by (try simp only [A9,Ap,Aq,Aa,Am]);omega) (fN) rfl (λ_=>Kx nk) (λkw iE cV bY bb k1=>?_)
 have eV:=eS.below bY oO
 have jc:=i'.below bY oO
 have jd:=AJ.same j0 (λk hk hl=>bb.block k hl (λe=>by (have d:=((aH).lt k e.symm).1;omega)))
 have je:=At.same j9 (λk hk hl=>bb.block k hl (λe=>by (have d:=((aH).lt k e.symm).1;omega)))
 have fO:=AA.same (w1:=iE) eT (λb=>bb.block _ (eT.lt b) (λhx=>by (have d:=((aH).lt _ hx.symm).1;rw [Cv] at d;have F:=(bl (tl b)).2;omega)))
 have fP:=AA.same (w1:=iE) eU (λb=>bb.block _ (eU.lt b) (λhx=>by (have d:=((aH).lt _ hx.symm).1;rw [Cv] at d;have F:=(bl (qd b)).2;omega)))
 have fQ:=Bs jb (Fb (bY.mono (a7)))
 refine A0<|?_
 have cW:=BU (eV.trans E.symm) BF
 refine ⟨cW,?_⟩
 refine Ac 21 rfl (.nck rfl) cW ?_
 refine Ac 22 rfl (.fa Hz rfl Dd dD rfl) cW ?_
 refine Ac 23 rfl (.fa Av rfl E6 dD rfl) cW ?_
 refine C3 kR<|BA E6 rfl rfl (cV).one eV (by exact Nat.le_of_ble_eq_true rfl) (λcI bu G ju=>?_)
 have bu:B4 cI bv0 _ _:=bu
 have G:CP bv0 _ _:=G
 have cX:=Bn cV G oM
 have fR:=AJ.same (w1:=cI) jd (λk hk hl=>G.other k (a3 k hk))
 have fS:=At.same (w1:=cI) je (λk hk hl=>G.other k (a3 k hk))
 have fT:=jc.up G
 have fU:=AA.upd fO G (λb=>by rw [Cv];exact (bl (tl b)).1)
 have fV:=AA.upd fP G (λb=>by rw [Cv];exact (bl (qd b)).1)
 have fW:=Bs fQ (Bk G)
 refine A0<|?_
 exact ⟨_,⟨rfl,rfl,rfl,tT⟩,fW,bu,fT,by have h9:=(cX).base (C:=b1+1) (λg hg=>by have:=((cX).lt g hg).1;omega);simpa using h9,fU,fV,fR,fS⟩
 refine CC (ps:=_) DD FP z9_ rfl rfl rfl rfl rfl pR rfl (λjf cY ac eW A jv=>?_)
 have cl:=CT bq A.size
 have ay:=Ix a5 ac A
 have fX:=AJ.same (w1:=cY) eC (λk hk hl=>A.other k oO)
 have fY:=At.same (w1:=cY) eD (λk hk hl=>A.other k oO)
 have fZ:=Bt ac bU.lt
 have cZ:=bU.un A fZ
 have f':=Bt ac cE.lt
 have g0:=cE.un A f'
 have eY:=λb=>ac▸cF.lt b
 have g1:=AA.upd cF A (λb=>CV (eY b))
 have eZ:=λb=>ac▸bV.lt b
 have c':=AA.upd bV A (λb=>CV (eZ b))
 have e':=λb=>ac▸bW.lt b
 have d0:=AA.upd bW A (λb=>CV (e' b))
 have f0:=λb=>ac▸bX.lt b
 have d1:=AA.upd bX A (λb=>CV (f0 b))
 have es:=CW ac cG.size
 have g2:=Bs cG (DC A es)
 have bt:=AA.lit (V:=GZ) (l:=[k]) eW (rfl)
 refine A0<|⟨⟨(cZ).trans (E).symm,tT⟩,?_⟩
 refine Br 9 rfl<|Cb DD Nb rfl rfl rfl ay rfl g1 (by (try simp only [A9,Ap,Aq,Aa,Am]);omega) (cl) rfl (λ_=>Kx (a:=0) nk) (λk3 bZ af aJ ag jw=>?_)
 have d2:=cZ.below aJ oO
 have g3:=g0.below aJ oO
 have g4:=AJ.same fX (λk hk hl=>ag.block k hl (λe=>by (have d:=((ay).lt k e.symm).1;omega)))
 have g5:=At.same fY (λk hk hl=>ag.block k hl (λe=>by (have d:=((ay).lt k e.symm).1;omega)))
 have d3:=AA.same (w1:=bZ) c' (λb=>ag.block _ (c'.lt b) (λhx=>by (have d:=((ay).lt _ hx.symm).1;rw [KA] at d;have F:=(bk (dk b)).2;omega)))
 have d4:=AA.same (w1:=bZ) d0 (λb=>ag.block _ (d0.lt b) (λhx=>by (have d:=((ay).lt _ hx.symm).1;rw [Cv] at d;have F:=(bl (tl b)).2;omega)))
 have d5:=AA.same (w1:=bZ) d1 (λb=>ag.block _ (d1.lt b) (λhx=>by (have d:=((ay).lt _ hx.symm).1;rw [Cv] at d;have F:=(bl (qd b)).2;omega)))
 have g6:=AA.same (w1:=bZ) bt (λb=>ag.block _ (bt.lt b) (λhx=>by have d:jf=eB:=Bi hx;omega))
 have g7:=Bs g2 (Fb (aJ.mono (a7)))
 have cm:=CT cl aJ.size
 refine A0<|⟨⟨(d2).trans (E).symm,tT⟩,?_⟩
 refine Br 12 rfl<|Cb DD Nb rfl rfl rfl af rfl g6 (by (try simp only [A9,Ap,Aq,Aa,Am]);omega) (cm) rfl (λh=>nomatch h) (λk4 cJ ao aK ap jx=>?_)
 have d6:=d2.below aK oO
 have g8:=g3.below aK oO
 have g9:=AJ.same g4 (λk hk hl=>ap.block k hl (λe=>by (have d:=((af).lt k e.symm).1;omega)))
 have ga:=At.same g5 (λk hk hl=>ap.block k hl (λe=>by (have d:=((af).lt k e.symm).1;omega)))
 have gb:=AA.same (w1:=cJ) d3 (λb=>ap.block _ (d3.lt b) (λhx=>by (have d:=((af).lt _ hx.symm).1;rw [KA] at d;have F:=(bk (dk b)).2;omega)))
 have d7:=AA.same (w1:=cJ) d4 (λb=>ap.block _ (d4.lt b) (λhx=>by (have d:=((af).lt _ hx.symm).1;rw [Cv] at d;have F:=(bl (tl b)).2;omega)))
 have d8:=AA.same (w1:=cJ) d5 (λb=>ap.block _ (d5.lt b) (λhx=>by (have d:=((af).lt _ hx.symm).1;rw [Cv] at d;have F:=(bl (qd b)).2;omega)))
 have gc:=Bs g7 (Fb (aK.mono (a7)))
 have f1:=CT cm aK.size
 refine A0<|⟨⟨(d6).trans (E).symm,tT⟩,?_⟩
 refine Br 20 rfl<|Cb DD Nb rfl rfl rfl ao rfl gb (by (try simp only [A9,Ap,Aq,Aa,Am]);omega) (f1) rfl (λ_=>Kx nk) (λk5 f2 cn bv aL jy=>?_)
 have d9:=d6.below bv oO
 have ge:=g8.below bv oO
 have gf:=AJ.same g9 (λk hk hl=>aL.block k hl (λe=>by (have d:=((ao).lt k e.symm).1;omega)))
 have gg:=At.same ga (λk hk hl=>aL.block k hl (λe=>by (have d:=((ao).lt k e.symm).1;omega)))
 have gh:=AA.same (w1:=f2) d7 (λb=>aL.block _ (d7.lt b) (λhx=>by (have d:=((ao).lt _ hx.symm).1;rw [Cv] at d;have F:=(bl (tl b)).2;omega)))
 have gi:=AA.same (w1:=f2) d8 (λb=>aL.block _ (d8.lt b) (λhx=>by (have d:=((ao).lt _ hx.symm).1;rw [Cv] at d;have F:=(bl (qd b)).2;omega)))
 have gj:=Bs gc (Fb (bv.mono (a7)))
 refine A0<|?_
 have da:=BU (d9.trans E.symm) BF
 refine ⟨da,?_⟩
 refine Ac 21 rfl (.nck rfl) da ?_
 refine Ac 22 rfl (.fa Hz rfl Dd dD rfl) da ?_
 refine Ac 23 rfl (.fa Av rfl E6 dD rfl) da ?_
 refine C3 kR<|BA E6 rfl rfl (cn).one d9 (by exact Nat.le_of_ble_eq_true rfl) (λcK bw H jz=>?_)
 have bw:B4 cK bv0 _ _:=bw
 have H:CP bv0 _ _:=H
 have db:=Bn cn H oM
 have gk:=AJ.same (w1:=cK) gf (λk hk hl=>H.other k (a3 k hk))
 have gl:=At.same (w1:=cK) gg (λk hk hl=>H.other k (a3 k hk))
 have gm:=ge.up H
 have go:=AA.upd gh H (λb=>by rw [Cv];exact (bl (tl b)).1)
 have gp:=AA.upd gi H (λb=>by rw [Cv];exact (bl (qd b)).1)
 have gq:=Bs gj (Bk H)
 refine A0<|?_
 exact ⟨_,⟨rfl,rfl,rfl,tT⟩,gq,bw,gm,by have h9:=(db).base (C:=b1+1) (λg hg=>by have:=((db).lt g hg).1;omega);simpa using h9,go,gp,gk,gl⟩
 refine CC (ps:=_) DD FP z9_ rfl rfl rfl rfl rfl pR rfl (λjg dd al f3 J jA=>?_)
 have gr:=AJ.same (w1:=dd) ez (λk hk hl=>J.other k oO)
 have gs:=At.same (w1:=dd) eA (λk hk hl=>J.other k oO)
 have gt:=Bt al bp.lt
 have b':=bp.un J gt
 have gv:=Bt al bO.lt
 have de:=bO.un J gv
 have f4:=λb=>al▸bP.lt b
 have df:=AA.upd bP J (λb=>CV (f4 b))
 have f5:=λb=>al▸bQ.lt b
 have dg:=AA.upd bQ J (λb=>CV (f5 b))
 have f6:=λb=>al▸bR.lt b
 have dh:=AA.upd bR J (λb=>CV (f6 b))
 have f7:=λb=>al▸bS.lt b
 have di:=AA.upd bS J (λb=>CV (f7 b))
 have et:=CW al bT.size
 have dj:=Bs bT (DC J et)
 have bt:=AA.lit (V:=GZ) (l:=[k]) f3 (rfl)
 refine A0<|⟨⟨(b').trans (E).symm,tT⟩,?_⟩
 refine Br 1 rfl<|ID DD FP rfl (λcL c0 ad X B jB=>?_)
 have gw:=AJ.same (w1:=c0) gr (λk hk hl=>B.other k oO)
 have gx:=At.same (w1:=c0) gs (λk hk hl=>B.other k oO)
 have gz:=Bt ad b'.lt
 have dn:=b'.un B gz
 have gA:=Bt ad de.lt
 have gB:=de.un B gA
 have f8:=λb=>ad▸df.lt b
 have gC:=AA.upd df B (λb=>CV (f8 b))
 have f9:=λb=>ad▸dg.lt b
 have dq:=AA.upd dg B (λb=>CV (f9 b))
 have fb:=λb=>ad▸dh.lt b
 have dr:=AA.upd dh B (λb=>CV (fb b))
 have fc:=λb=>ad▸di.lt b
 have ds:=AA.upd di B (λb=>CV (fc b))
 have fd:=λb=>ad▸bt.lt b
 have dt:=AA.upd bt B (λb=>CV (fd b))
 have az:=CW ad dj.size
 have gD:=Bs dj (DC B az)
 have X:=GV (L:=GZ) (l:=[]) (X cL (DS _))
 have bM:cL<=c0.heap.size:=by omega
 refine A0<|⟨⟨(dn).trans (E).symm,tT⟩,?_⟩
 refine Br 9 rfl<|Cb DD Nb rfl rfl rfl X rfl gC (by (try simp only [A9,Ap,Aq,Aa,Am]);omega) (bM) rfl (λ_=>Kx (a:=0) nk) (λk6 c2 ah aM ai jC=>?_)
 have du:=dn.below aM oO
 have gE:=gB.below aM oO
 have gF:=AJ.same gw (λk hk hl=>ai.block k hl (λe=>by (have d:=((X).lt k e.symm).1;omega)))
 have gG:=At.same gx (λk hk hl=>ai.block k hl (λe=>by (have d:=((X).lt k e.symm).1;omega)))
 have dv:=AA.same (w1:=c2) dq (λb=>ai.block _ (dq.lt b) (λhx=>by (have d:=((X).lt _ hx.symm).1;rw [KA] at d;have F:=(bk (dk b)).2;omega)))
 have dw:=AA.same (w1:=c2) dr (λb=>ai.block _ (dr.lt b) (λhx=>by (have d:=((X).lt _ hx.symm).1;rw [Cv] at d;have F:=(bl (tl b)).2;omega)))
 have dx:=AA.same (w1:=c2) ds (λb=>ai.block _ (ds.lt b) (λhx=>by (have d:=((X).lt _ hx.symm).1;rw [Cv] at d;have F:=(bl (qd b)).2;omega)))
 have gH:=AA.same (w1:=c2) dt (λb=>ai.block _ (dt.lt b) (λhx=>by have d:jg=cL:=Bi hx;omega))
 have gI:=Bs gD (Fb (aM.mono (az)))
 have co:=CT bM aM.size
 refine A0<|⟨⟨(du).trans (E).symm,tT⟩,?_⟩
 refine Br 12 rfl<|Cb DD Nb rfl rfl rfl ah rfl gH (by (try simp only [A9,Ap,Aq,Aa,Am]);omega) (co) rfl (λh=>nomatch h) (λk7 cM aq aN ar jD=>?_)
 have dy:=du.below aN oO
 have gJ:=gE.below aN oO
 have gK:=AJ.same gF (λk hk hl=>ar.block k hl (λe=>by (have d:=((ah).lt k e.symm).1;omega)))
 have gL:=At.same gG (λk hk hl=>ar.block k hl (λe=>by (have d:=((ah).lt k e.symm).1;omega)))
 have gM:=AA.same (w1:=cM) dv (λb=>ar.block _ (dv.lt b) (λhx=>by (have d:=((ah).lt _ hx.symm).1;rw [KA] at d;have F:=(bk (dk b)).2;omega)))
 have dz:=AA.same (w1:=cM) dw (λb=>ar.block _ (dw.lt b) (λhx=>by (have d:=((ah).lt _ hx.symm).1;rw [Cv] at d;have F:=(bl (tl b)).2;omega)))
 have dA:=AA.same (w1:=cM) dx (λb=>ar.block _ (dx.lt b) (λhx=>by (have d:=((ah).lt _ hx.symm).1;rw [Cv] at d;have F:=(bl (qd b)).2;omega)))
 have gN:=Bs gI (Fb (aN.mono (az)))
 have fe:=CT co aN.size
 refine A0<|⟨⟨(dy).trans (E).symm,tT⟩,?_⟩
 refine Br 20 rfl<|Cb DD Nb rfl rfl rfl aq rfl gM (by (try simp only [A9,Ap,Aq,Aa,Am]);omega) (fe) rfl (λ_=>Kx nk) (λk8 ff cq bz aO jE=>?_)
 have dB:=dy.below bz oO
 have gO:=gJ.below bz oO
 have gP:=AJ.same gK (λk hk hl=>aO.block k hl (λe=>by (have d:=((aq).lt k e.symm).1;omega)))
 have gQ:=At.same gL (λk hk hl=>aO.block k hl (λe=>by (have d:=((aq).lt k e.symm).1;omega)))
 have gR:=AA.same (w1:=ff) dz (λb=>aO.block _ (dz.lt b) (λhx=>by (have d:=((aq).lt _ hx.symm).1;rw [Cv] at d;have F:=(bl (tl b)).2;omega)))
 have gS:=AA.same (w1:=ff) dA (λb=>aO.block _ (dA.lt b) (λhx=>by (have d:=((aq).lt _ hx.symm).1;rw [Cv] at d;have F:=(bl (qd b)).2;omega)))
 have gT:=Bs gN (Fb (bz.mono (az)))
 refine A0<|?_
 have dC:=BU (dB.trans E.symm) BF
 refine ⟨dC,?_⟩
 refine Ac 21 rfl (.nck rfl) dC ?_
 refine Ac 22 rfl (.fa Hz rfl Dd dD rfl) dC ?_
 refine Ac 23 rfl (.fa Av rfl E6 dD rfl) dC ?_
 refine C3 kR<|BA E6 rfl rfl (cq).one dB (by exact Nat.le_of_ble_eq_true rfl) (λcN bA K jF=>?_)
 have bA:B4 cN bv0 _ _:=bA
 have K:CP bv0 _ _:=K
 have dE:=Bn cq K oM
 have gU:=AJ.same (w1:=cN) gP (λk hk hl=>K.other k (a3 k hk))
 have gV:=At.same (w1:=cN) gQ (λk hk hl=>K.other k (a3 k hk))
 have gW:=gO.up K
 have gX:=AA.upd gR K (λb=>by rw [Cv];exact (bl (tl b)).1)
 have gY:=AA.upd gS K (λb=>by rw [Cv];exact (bl (qd b)).1)
 have gZ:=Bs gT (Bk K)
 refine A0<|?_
 exact ⟨_,⟨rfl,rfl,rfl,tT⟩,gZ,bA,gW,by have h9:=(dE).base (C:=b1+1) (λg hg=>by have:=((dE).lt g hg).1;omega);simpa using h9,gX,gY,gU,gV⟩
 obtain ⟨kv,jG⟩:=eX t
 subst jG
 obtain ⟨j1,s,u,j4,j5,j6,j7,j8⟩:=hR
 refine Sc 24 rfl rfl BS kR (λw'=>w'.heap[bv0]?=w1.heap[bv0]?/\w'.heap[b1]?=w1.heap[b1]?/\True) (λfg ae=>?_)
 have dG:=AO.drew j4 ae
 have dH:=AJ.same (w1:=fg) j7 (λk hk hl=>(by obtain ⟨m,rfl⟩:=ae;rfl))
 have dI:=At.same (w1:=fg) j8 (λk hk hl=>(by obtain ⟨m,rfl⟩:=ae;rfl))
 have f:=s.drew ae
 have j:=u.drew ae
 have bc:=j5.drew ae
 have bd:=j6.drew ae
 have be:=Bs j1 (KU ae)
 refine Ac 0 rfl (.mv rfl) ⟨(f).trans (s).symm,(j).trans (u).symm,tT⟩ ?_
 refine Ac 2 rfl (.mv rfl) ⟨(f).trans (s).symm,(j).trans (u).symm,tT⟩ ?_
 refine Ac 3 rfl (.nck rfl) ⟨(f).trans (s).symm,(j).trans (u).symm,tT⟩ ?_
 refine Ac 4 rfl (.fa Hz rfl Dd dD rfl) ⟨(f).trans (s).symm,(j).trans (u).symm,tT⟩ ?_
 refine Ac 5 rfl (.fa Av rfl CQ dD rfl) ⟨(f).trans (s).symm,(j).trans (u).symm,tT⟩ ?_
 refine C6 6 rfl (λw' hw'=>Ae (DW _) rfl ((hw'.1).trans s) rfl) ⟨(f).trans (s).symm,(j).trans (u).symm,tT⟩ rfl ?_
 refine Ac 7 rfl (.mv rfl) ⟨(f).trans (s).symm,(j).trans (u).symm,tT⟩ ?_
 refine Ac 8 rfl (.slmK (l:=cs) (z:=.tmp 60) Cg Dd rfl rfl i0 rfl oO m2) ⟨(f).trans (s).symm,(j).trans (u).symm,tT⟩ ?_
 refine C6 10 rfl (λw' hw'=>Bd rfl ((hw'.2.1).trans u) Av rfl Ah) ⟨(f).trans (s).symm,(j).trans (u).symm,tT⟩ rfl ?_
 refine Ac 13 rfl (.mv rfl) ⟨(f).trans (s).symm,(j).trans (u).symm,tT⟩ ?_
 refine Ac 14 rfl (.nck rfl) ⟨(f).trans (s).symm,(j).trans (u).symm,tT⟩ ?_
 refine Ac 15 rfl (.fa Hz rfl Dd dD rfl) ⟨(f).trans (s).symm,(j).trans (u).symm,tT⟩ ?_
 refine Ac 16 rfl (.fa Av rfl CQ dD rfl) ⟨(f).trans (s).symm,(j).trans (u).symm,tT⟩ ?_
 refine C6 17 rfl (λw' hw'=>Ae (DW _) rfl ((hw'.1).trans s) rfl) ⟨(f).trans (s).symm,(j).trans (u).symm,tT⟩ rfl ?_
 refine Ac 18 rfl (.mv rfl) ⟨(f).trans (s).symm,(j).trans (u).symm,tT⟩ ?_
 refine Ac 19 rfl (.slmD (l:=cs) Cg Dd rfl rfl i0 rfl oO) ⟨(f).trans (s).symm,(j).trans (u).symm,tT⟩ ?_
 refine IS 1 rfl 11 rfl ?_ ?_
 refine ID Cg Dd rfl (λcO c3 aA a0 a1 jH=>?_)
 have bf:=Ix dG aA a1
 have dJ:=AJ.same (w1:=c3) dH (λk hk hl=>a1.other k oO)
 have dK:=At.same (w1:=c3) dI (λk hk hl=>a1.other k oO)
 have g':=Bt aA f.lt
 have bg:=f.un a1 g'
 have h5:=Bt aA j.lt
 have bh:=j.un a1 h5
 have fh:=λb=>aA▸bc.lt b
 have c4:=AA.upd bc a1 (λb=>CV (fh b))
 have fi:=λb=>aA▸bd.lt b
 have bi:=AA.upd bd a1 (λb=>CV (fi b))
 have T:=CW aA be.size
 have c5:=Bs be (DC a1 T)
 have a0:=GV (L:=Fi) (l:=[]) (a0 cO (DS _))
 have b8:cO<=c3.heap.size:=by omega
 refine A0<|⟨⟨(bg).trans (s).symm,(bh).trans (u).symm,tT⟩,?_⟩
 refine IS 9 rfl 11 rfl ?_ ?_
 refine Cb Cg FZ rfl rfl rfl a0 rfl c4 (by (try simp only [A9,Ap,Aq,Aa,Am]);omega) (b8) rfl (λ_=>J4 (a:=0) nl) (λk9 jh fj aP aQ jI=>?_)
 have c6:=bg.below aP oO
 have c7:=bh.below aP oO
 have h6:=AJ.same dJ (λk hk hl=>aQ.block k hl (λe=>by (have d:=((a0).lt k e.symm).1;omega)))
 have ha:=At.same dK (λk hk hl=>aQ.block k hl (λe=>by (have d:=((a0).lt k e.symm).1;omega)))
 have hc:=AO.same bf (λg hg=>aQ.block g ((bf).lt g hg).2 (λhx=>FM a0 bf dD g hx.symm hg))
 have dL:=AA.same (w1:=jh) bi (λb=>aQ.block _ (bi.lt b) (λhx=>by (have d:=((a0).lt _ hx.symm).1;rw [Cv] at d;have F:=(bl (qd b)).2;omega)))
 have dM:=Bs c5 (Fb (aP.mono (T)))
 have fk:=CT b8 aP.size
 refine A0<|⟨⟨(c6).trans (s).symm,(c7).trans (u).symm,tT⟩,?_⟩
 refine Br 11 rfl<|CR (L:=Fi) (ps:=_) ([y]) Cg Dd CA rfl rfl rfl rfl rfl (by rfl) rfl rfl (λka dN aB fl P jJ=>?_)
 have c8:=Ix hc aB P
 have cr:=CT fk P.size
 have aR:=Ix fj aB P
 have hd:=AJ.same (w1:=dN) h6 (λk hk hl=>P.other k oO)
 have he:=At.same (w1:=dN) ha (λk hk hl=>P.other k oO)
 have hf:=Bt aB c6.lt
 have dO:=c6.un P hf
 have hh:=Bt aB c7.lt
 have dP:=c7.un P hh
 have fm:=λb=>aB▸dL.lt b
 have dQ:=AA.upd dL P (λb=>CV (fm b))
 have eu:=CW aB dM.size
 have hi:=Bs dM (DC P eu)
 refine A0<|⟨⟨(dO).trans (s).symm,(dP).trans (u).symm,tT⟩,?_⟩
 refine Br 12 rfl<|Cb Cg FZ rfl rfl rfl aR rfl (fl).rowp (by (try simp only [A9,Ap,Aq,Aa,Am]);omega) (cr) rfl (λh=>nomatch h) (λkb ji aS aT aU jK=>?_)
 have dR:=dO.below aT oO
 have dS:=dP.below aT oO
 have hj:=AJ.same hd (λk hk hl=>aU.block k hl (λe=>by (have d:=((aR).lt k e.symm).1;omega)))
 have hm:=At.same he (λk hk hl=>aU.block k hl (λe=>by (have d:=((aR).lt k e.symm).1;omega)))
 have c9:=AO.same c8 (λg hg=>aU.block g ((c8).lt g hg).2 (λhx=>FM aR c8 dD g hx.symm hg))
 have hn:=AA.same (w1:=ji) dQ (λb=>aU.block _ (dQ.lt b) (λhx=>by (have d:=((aR).lt _ hx.symm).1;rw [Cv] at d;have F:=(bl (qd b)).2;omega)))
 have hs:=Bs hi (Fb (aT.mono (T)))
 have fn:=CT cr aT.size
 refine A0<|⟨⟨(dR).trans (s).symm,(dS).trans (u).symm,tT⟩,?_⟩
 refine Br 20 rfl<|Cb Cg FZ rfl rfl rfl aS rfl hn (by (try simp only [A9,Ap,Aq,Aa,Am]);omega) (fn) rfl (λ_=>J4 nl) (λkd ke ct bB bC jL=>?_)
 have aV:=dR.below bB oO
 have bj:=dS.below bB oO
 have ht:=AJ.same hj (λk hk hl=>bC.block k hl (λe=>by (have d:=((aS).lt k e.symm).1;omega)))
 have hu:=At.same hm (λk hk hl=>bC.block k hl (λe=>by (have d:=((aS).lt k e.symm).1;omega)))
 have hv:=AO.same c9 (λg hg=>bC.block g ((c9).lt g hg).2 (λhx=>FM aS c9 dD g hx.symm hg))
 have hz:=Bs hs (Fb (bB.mono (T)))
 refine A0<|⟨⟨(aV).trans (s).symm,(bj).trans (u).symm,tT⟩,?_⟩
 refine Ac 21 rfl (.nck rfl) ⟨(aV).trans (s).symm,(bj).trans (u).symm,tT⟩ ?_
 refine Ac 22 rfl (.fa Hz rfl Dd dD rfl) ⟨(aV).trans (s).symm,(bj).trans (u).symm,tT⟩ ?_
 refine Ac 23 rfl (.fa Av rfl CQ dD rfl) ⟨(aV).trans (s).symm,(bj).trans (u).symm,tT⟩ ?_
 refine C3 kR<|BA CQ rfl rfl (ct).one aV (by exact Nat.le_of_ble_eq_true rfl) (λcP bD a8 jM=>?_)
 have bD:B4 cP bv0 _ _:=bD
 have a8:CP bv0 _ _:=a8
 have dU:=Bn hv a8 oM
 have dV:=Bn ct a8 oM
 have hB:=AJ.same (w1:=cP) ht (λk hk hl=>a8.other k (a3 k hk))
 have hC:=At.same (w1:=cP) hu (λk hk hl=>a8.other k (a3 k hk))
 have dW:=Bs hz (Bk a8)
 refine A0<|D9 (CU rfl ?_)
 have iF:=(dW).size
 have h1:=(dU).base (C:=w.heap.size) (λg hg=>by have:=((dU).lt g hg).1;omega)
 have h2:=(dV).base (C:=w.heap.size) (λg hg=>by have:=((dV).lt g hg).1;omega)
 simp only [BT,AS,Bh] at h2
 exact OY hb bD dW h1 h2 hB hC m6 hkl cC
 refine CR (L:=Fi) (ps:=_) ([y]) Cg Dd CA rfl rfl rfl rfl rfl (by rfl) rfl rfl (λjj dX am cu D jN=>?_)
 have ca:=Ix bf am D
 have cv:=CT b8 D.size
 have aW:=Ix a0 am D
 have hE:=AJ.same (w1:=dX) dJ (λk hk hl=>D.other k oO)
 have hF:=At.same (w1:=dX) dK (λk hk hl=>D.other k oO)
 have hG:=Bt am bg.lt
 have dY:=bg.un D hG
 have hH:=Bt am bh.lt
 have dZ:=bh.un D hH
 have fo:=λb=>am▸c4.lt b
 have hI:=AA.upd c4 D (λb=>CV (fo b))
 have fp:=λb=>am▸bi.lt b
 have d':=AA.upd bi D (λb=>CV (fp b))
 have ev:=CW am c5.size
 have hJ:=Bs c5 (DC D ev)
 refine A0<|⟨⟨(dY).trans (s).symm,(dZ).trans (u).symm,tT⟩,?_⟩
 refine Br 9 rfl<|Cb Cg FZ rfl rfl rfl aW rfl hI (by (try simp only [A9,Ap,Aq,Aa,Am]);omega) (cv) rfl (λ_=>J4 (a:=0) nl) (λkf fq au aX av jO=>?_)
 have e0:=dY.below aX oO
 have e4:=dZ.below aX oO
 have hK:=AJ.same hE (λk hk hl=>av.block k hl (λe=>by (have d:=((aW).lt k e.symm).1;omega)))
 have hL:=At.same hF (λk hk hl=>av.block k hl (λe=>by (have d:=((aW).lt k e.symm).1;omega)))
 have cb:=AO.same ca (λg hg=>av.block g ((ca).lt g hg).2 (λhx=>FM aW ca dD g hx.symm hg))
 have e5:=AA.same (w1:=fq) d' (λb=>av.block _ (d'.lt b) (λhx=>by (have d:=((aW).lt _ hx.symm).1;rw [Cv] at d;have F:=(bl (qd b)).2;omega)))
 have hM:=AA.same (w1:=fq) (cu).rowp (λb=>av.block _ ((cu).rowp.lt b) (λhx=>by have d:jj=cO:=Bi hx;omega))
 have hN:=Bs hJ (Fb (aX.mono (T)))
 have cw:=CT cv aX.size
 refine A0<|⟨⟨(e0).trans (s).symm,(e4).trans (u).symm,tT⟩,?_⟩
 refine Br 12 rfl<|Cb Cg FZ rfl rfl rfl au rfl hM (by (try simp only [A9,Ap,Aq,Aa,Am]);omega) (cw) rfl (λh=>nomatch h) (λkg jk aY aZ a' jP=>?_)
 have e6:=e0.below aZ oO
 have e7:=e4.below aZ oO
 have hO:=AJ.same hK (λk hk hl=>a'.block k hl (λe=>by (have d:=((au).lt k e.symm).1;omega)))
 have hP:=At.same hL (λk hk hl=>a'.block k hl (λe=>by (have d:=((au).lt k e.symm).1;omega)))
 have cc:=AO.same cb (λg hg=>a'.block g ((cb).lt g hg).2 (λhx=>FM au cb dD g hx.symm hg))
 have hQ:=AA.same (w1:=jk) e5 (λb=>a'.block _ (e5.lt b) (λhx=>by (have d:=((au).lt _ hx.symm).1;rw [Cv] at d;have F:=(bl (qd b)).2;omega)))
 have hT:=Bs hN (Fb (aZ.mono (T)))
 have fr:=CT cw aZ.size
 refine A0<|⟨⟨(e6).trans (s).symm,(e7).trans (u).symm,tT⟩,?_⟩
 refine Br 20 rfl<|Cb Cg FZ rfl rfl rfl aY rfl hQ (by (try simp only [A9,Ap,Aq,Aa,Am]);omega) (fr) rfl (λ_=>J4 nl) (λkh ki cy bE bG jQ=>?_)
 have b0:=e6.below bE oO
 have bm:=e7.below bE oO
 have hU:=AJ.same hO (λk hk hl=>bG.block k hl (λe=>by (have d:=((aY).lt k e.symm).1;omega)))
 have hV:=At.same hP (λk hk hl=>bG.block k hl (λe=>by (have d:=((aY).lt k e.symm).1;omega)))
 have hW:=AO.same cc (λg hg=>bG.block g ((cc).lt g hg).2 (λhx=>FM aY cc dD g hx.symm hg))
 have hX:=Bs hT (Fb (bE.mono (T)))
 refine A0<|⟨⟨(b0).trans (s).symm,(bm).trans (u).symm,tT⟩,?_⟩
 refine Ac 21 rfl (.nck rfl) ⟨(b0).trans (s).symm,(bm).trans (u).symm,tT⟩ ?_
 refine Ac 22 rfl (.fa Hz rfl Dd dD rfl) ⟨(b0).trans (s).symm,(bm).trans (u).symm,tT⟩ ?_
 refine Ac 23 rfl (.fa Av rfl CQ dD rfl) ⟨(b0).trans (s).symm,(bm).trans (u).symm,tT⟩ ?_
 refine C3 kR<|BA CQ rfl rfl (cy).one b0 (by exact Nat.le_of_ble_eq_true rfl) (λcQ bH a9 jR=>?_)
 have bH:B4 cQ bv0 _ _:=bH
 have a9:CP bv0 _ _:=a9
 have e8:=Bn hW a9 oM
 have e9:=Bn cy a9 oM
 have hY:=AJ.same (w1:=cQ) hU (λk hk hl=>a9.other k (a3 k hk))
 have hZ:=At.same (w1:=cQ) hV (λk hk hl=>a9.other k (a3 k hk))
 have eb:=Bs hX (Bk a9)
 refine A0<|D9 (CU rfl ?_)
 have iF:=(eb).size
 have h1:=(e8).base (C:=w.heap.size) (λg hg=>by have:=((e8).lt g hg).1;omega)
 have h2:=(e9).base (C:=w.heap.size) (λg hg=>by have:=((e9).lt g hg).1;omega)
 simp only [BT,AS,Bh] at h2
 exact OY hb bH eb h1 h2 hY hZ m6 hkl cC
 refine CR (L:=Fi) (ps:=_) ([y]) Cg Dd CA rfl rfl rfl rfl rfl (by rfl) rfl rfl (λjl ec aC cz a2 jS=>?_)
 have h':=Ix dG aC a2
 have i1:=AJ.same (w1:=ec) dH (λk hk hl=>a2.other k oO)
 have i2:=At.same (w1:=ec) dI (λk hk hl=>a2.other k oO)
 have i3:=Bt aC f.lt
 have cd:=f.un a2 i3
 have i4:=Bt aC j.lt
 have cf:=j.un a2 i4
 have fs:=λb=>aC▸bc.lt b
 have ed:=AA.upd bc a2 (λb=>CV (fs b))
 have ft:=λb=>aC▸bd.lt b
 have ee:=AA.upd bd a2 (λb=>CV (ft b))
 have ew:=CW aC be.size
 have ef:=Bs be (DC a2 ew)
 refine A0<|⟨⟨(cd).trans (s).symm,(cf).trans (u).symm,tT⟩,?_⟩
 refine Br 1 rfl<|ID Cg Dd rfl (λcR cg an aa Q jT=>?_)
 have ci:=Ix h' an Q
 have i5:=AJ.same (w1:=cg) i1 (λk hk hl=>Q.other k oO)
 have i6:=At.same (w1:=cg) i2 (λk hk hl=>Q.other k oO)
 have i7:=Bt an cd.lt
 have eg:=cd.un Q i7
 have i8:=Bt an cf.lt
 have eh:=cf.un Q i8
 have fu:=λb=>an▸ed.lt b
 have i9:=AA.upd ed Q (λb=>CV (fu b))
 have fv:=λb=>an▸ee.lt b
 have ei:=AA.upd ee Q (λb=>CV (fv b))
 have fw:=λb=>an▸(cz).rowp.lt b
 have ej:=AA.upd (cz).rowp Q (λb=>CV (fw b))
 have aD:=CW an ef.size
 have ia:=Bs ef (DC Q aD)
 have aa:=GV (L:=Fi) (l:=[]) (aa cR (DS _))
 have bN:cR<=cg.heap.size:=by omega
 refine A0<|⟨⟨(eg).trans (s).symm,(eh).trans (u).symm,tT⟩,?_⟩
 refine Br 9 rfl<|Cb Cg FZ rfl rfl rfl aa rfl i9 (by (try simp only [A9,Ap,Aq,Aa,Am]);omega) (bN) rfl (λ_=>J4 (a:=0) nl) (λkj fx aw b2 ax jU=>?_)
 have ek:=eg.below b2 oO
 have el:=eh.below b2 oO
 have ib:=AJ.same i5 (λk hk hl=>ax.block k hl (λe=>by (have d:=((aa).lt k e.symm).1;omega)))
 have ic:=At.same i6 (λk hk hl=>ax.block k hl (λe=>by (have d:=((aa).lt k e.symm).1;omega)))
 have cj:=AO.same ci (λg hg=>ax.block g ((ci).lt g hg).2 (λhx=>FM aa ci dD g hx.symm hg))
 have em:=AA.same (w1:=fx) ei (λb=>ax.block _ (ei.lt b) (λhx=>by (have d:=((aa).lt _ hx.symm).1;rw [Cv] at d;have F:=(bl (qd b)).2;omega)))
 have id:=AA.same (w1:=fx) ej (λb=>ax.block _ (ej.lt b) (λhx=>by have d:jl=cR:=Bi hx;omega))
 have ie:=Bs ia (Fb (b2.mono (aD)))
 have cA:=CT bN b2.size
 refine A0<|⟨⟨(ek).trans (s).symm,(el).trans (u).symm,tT⟩,?_⟩
 refine Br 12 rfl<|Cb Cg FZ rfl rfl rfl aw rfl id (by (try simp only [A9,Ap,Aq,Aa,Am]);omega) (cA) rfl (λh=>nomatch h) (λkk jm b3 b4 b5 jV=>?_)
 have en:=ek.below b4 oO
 have eo:=el.below b4 oO
 have ig:=AJ.same ib (λk hk hl=>b5.block k hl (λe=>by (have d:=((aw).lt k e.symm).1;omega)))
 have ih:=At.same ic (λk hk hl=>b5.block k hl (λe=>by (have d:=((aw).lt k e.symm).1;omega)))
 have ck:=AO.same cj (λg hg=>b5.block g ((cj).lt g hg).2 (λhx=>FM aw cj dD g hx.symm hg))
 have ii:=AA.same (w1:=jm) em (λb=>b5.block _ (em.lt b) (λhx=>by (have d:=((aw).lt _ hx.symm).1;rw [Cv] at d;have F:=(bl (qd b)).2;omega)))
 have ij:=Bs ie (Fb (b4.mono (aD)))
 have fy:=CT cA b4.size
 refine A0<|⟨⟨(en).trans (s).symm,(eo).trans (u).symm,tT⟩,?_⟩
 refine Br 20 rfl<|Cb Cg FZ rfl rfl rfl b3 rfl ii (by (try simp only [A9,Ap,Aq,Aa,Am]);omega) (fy) rfl (λ_=>J4 nl) (λkn ko cB bI bJ jW=>?_)
 have b6:=en.below bI oO
 have bn:=eo.below bI oO
 have ik:=AJ.same ig (λk hk hl=>bJ.block k hl (λe=>by (have d:=((b3).lt k e.symm).1;omega)))
 have il:=At.same ih (λk hk hl=>bJ.block k hl (λe=>by (have d:=((b3).lt k e.symm).1;omega)))
 have im:=AO.same ck (λg hg=>bJ.block g ((ck).lt g hg).2 (λhx=>FM b3 ck dD g hx.symm hg))
 have io:=Bs ij (Fb (bI.mono (aD)))
 refine A0<|⟨⟨(b6).trans (s).symm,(bn).trans (u).symm,tT⟩,?_⟩
 refine Ac 21 rfl (.nck rfl) ⟨(b6).trans (s).symm,(bn).trans (u).symm,tT⟩ ?_
 refine Ac 22 rfl (.fa Hz rfl Dd dD rfl) ⟨(b6).trans (s).symm,(bn).trans (u).symm,tT⟩ ?_
 refine Ac 23 rfl (.fa Av rfl CQ dD rfl) ⟨(b6).trans (s).symm,(bn).trans (u).symm,tT⟩ ?_
 refine C3 kR<|BA CQ rfl rfl (cB).one b6 (by exact Nat.le_of_ble_eq_true rfl) (λcS bK ab jX=>?_)
 have bK:B4 cS bv0 _ _:=bK
 have ab:CP bv0 _ _:=ab
 have ep:=Bn im ab oM
 have eq:=Bn cB ab oM
 have ip:=AJ.same (w1:=cS) ik (λk hk hl=>ab.other k (a3 k hk))
 have iq:=At.same (w1:=cS) il (λk hk hl=>ab.other k (a3 k hk))
 have er:=Bs io (Bk ab)
 refine A0<|D9 (CU rfl ?_)
 have iF:=(er).size
 have h1:=(ep).base (C:=w.heap.size) (λg hg=>by have:=((ep).lt g hg).1;omega)
 have h2:=(eq).base (C:=w.heap.size) (λg hg=>by have:=((eq).lt g hg).1;omega)
 simp only [BT,AS,Bh] at h2
 exact OY hb bK er h1 h2 ip iq m6 hkl cC
end
section
def pg1:PgV:=⟨65536,65536,none,0,0⟩
def A4i:FK Bool:=⟨1,λb=>[.bool b],dD,λ_=>rfl,λx u hu=>by simp only [Bl] at hu;subst hu;rfl⟩
theorem A4c:(Tryz.prog.info? 4).map (λi=>(i.zero,i.size,i.bytes))=some (some (.bool false),1,1):=by kernel_rfl
def A3h:List Value:=Hw (Py 1)++Hw (Py 1)++WX Yx
theorem A3A:Tryz.prog.built 182 [(0,.agg (Hw (Py 1)).toArray),(1,.agg (Hw (Py 1)).toArray),(2,.agg (WX Yx).toArray)]=some A3h.toArray:=by kernel_rfl
theorem QJ (w:World):Cl 120 #[] w (.agg A3h.toArray):=by
 refine AF func120 rfl ntmps120 ?_
 have f:=Dh w
 refine A4<|Bm zeroValue182 rfl (λm l g a b j=>?_)
 have h:=uB f g b
 refine A0<|?_
 refine A4<|A1 (.build rfl ZH) ?_
 refine A1 (.build rfl ZH) ?_
 refine A1 (.build rfl A1Z) ?_
 refine A1 (.build rfl A3A) ?_
 refine Az rfl rfl a RV rfl rfl (λo c d k=>?_)
 have i:=BR h oO d
 refine A0<|AU (BD rfl rfl (Ba c underlying182 rfl RV)  ?_)
 exact ⟨rfl,i⟩
theorem Rx (w:World):Cl 91 #[.agg (pgV pg1).toArray] w (.tuple #[.slice none 0 0,.slice none 0 0,Ag 0]):=by
 refine AF func91 rfl ntmps91 ?_
 have V:=Dh w
 refine A4<|WL.box rfl rfl (λb1 af X B C ac=>?_)
 have Y:=uB V X C
 refine CL rfl<|CL rfl<|A8 rfl<|A4<|A8 rfl<|A4<|Au (QJ _) (λw3 u=>?_)
 have v:=B.bl u
 have a0:=Ci Y u
 refine Bm zeroValue182 rfl (λb6 ag x D f ad=>?_)
 have a1:=Bt x v.lt
 have a2:=v.un f a1
 have a3:=uB a0 x f
 refine Az rfl rfl D RV rfl rfl (λah a7 b a8=>?_)
 have E:=a2.up b
 have F:=BR a3 oO b
 refine A0<|A4<|Au (QJ _) (λai g=>?_)
 have h:=E.bl g
 have G:=Ci F g
 refine Bm zeroValue182 rfl (λaj ae i q c a9=>?_)
 have H:=Bt i h.lt
 have J:=h.un c H
 have K:=uB G i c
 refine Az rfl rfl q RV rfl rfl (λa4 aa d ab=>?_)
 have j:=J.up d
 have N:=BR K oO d
 refine A0<|A4<|A8 rfl<|A4<|Vh (L:=A4i) (false) (14) underlying184 A4c rfl rfl rfl rfl oO dD rfl (λy s a=>?_)
 have P:=j.below a j.lt
 have Q:=Ci N a
 have a5:=a.size
 refine CL rfl<|?_
 have k:=(s).rowp
 obtain ⟨b9,hb9⟩:=eX a4.heap.size
 rw [<- hb9] at k ⊢
 refine A0<|Ad<|A4<|A8 rfl<|AT<|BO (α:=Unit) (λt=>[(1,ptV b1),(5,.slice none 0 0),(8,.slice none 0 0),(9,.slice (some ⟨b9,0,none⟩) 14 14),(10,Ag 0)]) (λt w'=>y=w') (λt=>0) (()) ⟨rfl,rfl,rfl,rfl,rfl,tT⟩ (rfl) (λt w1 hR=>?_)
 obtain rfl:=hR
 refine Ad<|A4<|A3 rfl<|A1 (.fa Lj rfl SA dD rfl)<|Aj (Ae (isAgg44 _) rfl P rfl)<|A1 (.lenS A0q rfl)<|A1 (.lss rfl rfl)<|A0<|Ai rfl (λl=>?_) (λl=>?_)
 have T:=dT l
 exact Dp (show (0:Int)<0 by assumption) dD
 have T:=dF l
 refine BL<|Ad<|A4<|A3 rfl<|A1 (.lenS underlying51 rfl)<|A1 (.bis (false) (.gtr rfl rfl) dD)<|A0<|Ay rfl rfl<|As<|Ad<|A4<|A3 rfl<|A1 (.lenS B1 rfl)<|A1 (.bis (false) (.gtr rfl rfl) dD)<|A0<|Ay rfl rfl<|As<|A4<|A8 rfl<|Ad<|A4<|A8 rfl<|AT<|BO (α:=Nat) (λt=>[(5,.slice none 0 0),(9,.slice (some ⟨b9,0,none⟩) 14 14),(15,.slice none 0 0),(16,Ag (t:Int))]) (λt w'=>y=w'/\t<=14) (λt=>14-t) (0) ⟨rfl,rfl,rfl,rfl,tT⟩ (⟨rfl,FN _⟩) (λt w1 hR=>?_)
 obtain ⟨m,rfl⟩:=eX t
 obtain ⟨rfl,ak⟩:=hR
 have am:(List.replicate 14 false).length=14:=CH
 refine Ad<|A4<|A3 rfl<|A1 (.lss rfl rfl)<|A0<|Ai rfl (λo=>?_) (λo=>?_)
 have U:=dT o
 refine As<|Ad<|AT<|A4<|A3 rfl<|A3 rfl<|A1 (.ixm underlying184 sizeOf4 rfl rfl (k.isp oO) (m) (rfl) oO)<|Aj (BG (isAgg4 _) rfl ((k.field (m) oO 0 dD).trans rfl))<|A0<|Ai rfl (λa6=>?_) (λa6=>?_)
 exact Dp (show (List.replicate 14 false)[m]'oO=true by assumption) (by rw [List.getElem_replicate];decide)
 refine As<|An<|A3 rfl<|A1 (.iis (((m+1:Nat):Int)) (.add rfl rfl (Bb oO)) oO)<|A8 rfl ?_
 exact ⟨m+1,⟨rfl,rfl,rfl,rfl,tT⟩,⟨rfl,oM⟩,oM⟩
 have U:=dF o
 refine BL<|A4<|A3 rfl<|A3 rfl<|CL rfl<|CL rfl<|A8 rfl<|AU (A2Z rfl rfl rfl rfl ?_)
 exact ⟨rfl,Q⟩
theorem QE (w:World):Calls Tryz.prog 118 #[Ag 65536] w λe w'=>e=.returned (.bool true)/\w=w':=by
 refine AF func118 rfl ntmps118<|A4<|A8 rfl<|A4<|A3 rfl<|A1 (.bis (true) (.geq rfl rfl) dD)<|A3 rfl<|AE rfl<|A3 rfl<|AE rfl<|A1 (.bis (true) (.leq rfl rfl) dD)<|A1 (.pkT rfl rfl rfl)<|A3 rfl<|AE rfl<|A3 rfl<|AE rfl<|A1 (.rem rfl rfl oO (Int.tmod_eq_emod_of_nonneg oO))<|AE rfl<|A1 (.bis (true) (.eql rfl rfl) dD)<|A1 (.pkT rfl rfl rfl)<|A8 rfl<|AY ?_
 exact ⟨rfl,rfl⟩
theorem OR (w:World):Cl 90 #[.agg (pgV pg1).toArray] w (.bool true):=by
 refine AF func90 rfl ntmps90 ?_
 have d:=Dh w
 refine A4<|WL.box rfl rfl (λl f g a b m=>?_)
 have h:=uB d g b
 refine A8 rfl<|Ad<|A4<|A1 (.fa Lj rfl BI dD rfl)<|Aj (Ae (C5 _) rfl a rfl)<|Au (QE _) (λo i=>?_)
 obtain rfl:=i
 refine A1 (.not rfl)<|A3 rfl<|AE rfl<|A1 (.fa Lj rfl BI dD rfl)<|AE rfl<|Aj (Ae (C5 _) rfl a rfl)<|AE rfl<|Au (QE _) (λq j=>?_)
 obtain rfl:=j
 refine AE rfl<|A1 (.not rfl)<|A1 (.pkF rfl rfl rfl)<|A3 rfl<|AE rfl<|A1 (.fa Lj rfl SA dD rfl)<|AE rfl<|Aj (Ae (isAgg44 _) rfl a rfl)<|AE rfl<|A1 (.lenS A0q rfl)<|AE rfl<|A1 (.bis (false) (.gtr rfl rfl) dD)<|A1 (.pkF rfl rfl rfl)<|A0<|Ay rfl rfl<|As<|Ad<|A4<|A8 rfl<|AT<|BO (α:=Unit) (λt=>[(1,ptV l),(3,Ag 0)]) (λt w'=>f=w') (λt=>0) (()) ⟨rfl,rfl,tT⟩ (rfl) (λt s hR=>?_)
 obtain rfl:=hR
 refine Ad<|A4<|A3 rfl<|A1 (.fa Lj rfl SA dD rfl)<|Aj (Ae (isAgg44 _) rfl a rfl)<|A1 (.lenS A0q rfl)<|A1 (.lss rfl rfl)<|A0<|Ai rfl (λc=>?_) (λc=>?_)
 have k:=dT c
 exact Dp (show (0:Int)<0 by assumption) dD
 have k:=dF c
 refine BL<|A4<|A8 rfl<|AY ?_
 exact ⟨rfl,h⟩
theorem Mb (n:Int) (w:World):Calls Tryz.prog 95 #[Ag n] w λe w'=>e=.returned (.agg (D3 (Cx (DR 2 n []))).toArray)/\AL w w':=by
 refine AF func95 rfl ntmps95 ?_
 have f:=Dh w
 refine A4<|Bm CA rfl (λm l g a b j=>?_)
 have h:=uB f g b
 refine A0<|A4<|A3 rfl<|?_
 refine A1 (.build rfl (A3D n)) ?_
 refine Az rfl rfl a Ah rfl rfl (λo c d k=>?_)
 have i:=BR h oO d
 refine A0<|AU (BD rfl rfl (Ba c Av rfl Ah)  ?_)
 exact ⟨rfl,i⟩
theorem Rw (s:l8_) (w:World):Calls Tryz.prog 93 #[.string (bs s)] w λe w'=>e=.returned (.agg (D3 (Cx (DR 4 0 s))).toArray)/\AL w w':=by
 refine AF func93 rfl ntmps93 ?_
 have f:=Dh w
 refine A4<|Bm CA rfl (λm l g a b j=>?_)
 have h:=uB f g b
 refine A0<|A4<|A3 rfl<|?_
 refine A1 (.build rfl (A3E s)) ?_
 refine Az rfl rfl a Ah rfl rfl (λo c d k=>?_)
 have i:=BR h oO d
 refine A0<|AU (BD rfl rfl (Ba c Av rfl Ah)  ?_)
 exact ⟨rfl,i⟩
theorem Ob (n:Int) (w:World):Calls Tryz.prog 94 #[Ag n] w λe w'=>e=.returned (.agg (D3 (Cx (DR 8 n []))).toArray)/\AL w w':=by
 refine AF func94 rfl ntmps94 ?_
 have f:=Dh w
 refine A4<|Bm CA rfl (λm l g a b j=>?_)
 have h:=uB f g b
 refine A0<|A4<|A3 rfl<|?_
 refine A1 (.build rfl (A3B n)) ?_
 refine Az rfl rfl a Ah rfl rfl (λo c d k=>?_)
 have i:=BR h oO d
 refine A0<|AU (BD rfl rfl (Ba c Av rfl Ah)  ?_)
 exact ⟨rfl,i⟩
theorem VB (p:Option Addr) (n c:Nat) (w:World):Cl 96 #[.slice p n c] w (.agg (D3 (G7 p n c)).toArray):=by
 refine AF func96 rfl ntmps96 ?_
 have g:=Dh w
 refine A4<|Bm CA rfl (λo m h a b k=>?_)
 have i:=uB g h b
 refine A0<|A4<|A3 rfl<|?_
 refine A1 (.build rfl (A3G p n c)) ?_
 refine Az rfl rfl a Ah rfl rfl (λq d f l=>?_)
 have j:=BR i oO f
 refine A0<|AU (BD rfl rfl (Ba d Av rfl Ah)  ?_)
 exact ⟨rfl,j⟩
end
section
def kPa:l8_:=[80,97,114,101,110,116]
def anC:AV:=oDi [Mn,FA] [oR 2,oNm Xa]
def anN:AV:=oDi [TT,kKi,FA] [oN 1,oA [oR 3],oNm Mn]
def anB:AV:=oA [oN 0,oN 0,oN 1,oN 1]
def anR:AV:=oDi [IO] [oDi [] []]
def anP:AV:=oDi [Te,TS,kPa,TR,FA] [oR 4,anB,oR 2,anR,oNm Td]
def anS:AV:=oS [] [] []
def PK:List AV:=[anC,anN,anP,anS]
def ac7:AC:=⟨7,0,[],none,0,0,none,0,0,none,0,0⟩
theorem ZI:Tryz.prog.built 27 [(0,Ag 7)]=some (D3 ac7).toArray:=by kernel_rfl
theorem W3:Tryz.prog.built 150 [(0,.agg (D3 ac7).toArray)]=some (D3 ac7).toArray:=by kernel_rfl
theorem Yg (w:World) (S:Nat->Prop):At w S ac7 (oDi [] []) :=
 .mk ac7 [] [] [] [] ⟨by show _<=(0:Int)/\(0:Int)<=_;decide,by show ([]:l8_).length<=_;simp,rfl,rfl,rfl,DS _,DS _,DS _,dD,dD,dD⟩ (by simp) (AM.nil _) (by simp) (AA.nil _) (by simp) (Af.nil _) (by simp) rfl (λi h=>Dp h (by simp))
def ac9:AC:=⟨9,0,[],none,0,0,none,0,0,none,0,0⟩
theorem A4m:Tryz.prog.built 27 [(0,Ag 9),(5,.slice none 0 0)]=some (D3 ac9).toArray:=by kernel_rfl
theorem A4a (w:World) (S:Nat->Prop):At w S ac9 anS :=
 .mk ac9 [] [] [] [] ⟨by show _<=(0:Int)/\(0:Int)<=_;decide,by show ([]:l8_).length<=_;simp,rfl,rfl,rfl,DS _,DS _,DS _,dD,dD,dD⟩ (by simp) (AM.nil _) (by simp) (AA.nil _) (by simp) (Af.nil _) (by simp) rfl (λi h=>Dp h (by simp))
def A1t:List AC:=[Cx (DR 2 0 []),Cx (DR 2 0 []),Cx (DR 2 1 []),Cx (DR 2 1 [])]
def A0d (N:Nat) (v:Value) (w:World):Prop:=∃ b,v=.slice (some ⟨b,0,none⟩) 4 4/\AA Fi w (some ⟨b,0,none⟩) A1t/\N<=b
theorem A0d.up  (v:Value) (w w1:World) (h:A0d N v w) (hb:AL w w1):A0d N v w1:=by
 obtain ⟨b,c,a,d⟩:=h
 exact ⟨b,c,a.below hb λe=>a.lt e,d⟩
def XC (N:Nat) (v:Value) (w:World):Prop:=∃ b,v=.agg (D3 (G7 (some ⟨b,0,none⟩) 4 4)).toArray/\AA Fi w (some ⟨b,0,none⟩) A1t/\N<=b
theorem XC.up  (v:Value) (w w1:World) (h:XC N v w) (hb:AL w w1):XC N v w1:=by
 obtain ⟨b,c,a,d⟩:=h
 exact ⟨b,c,a.below hb λe=>a.lt e,d⟩
def nlL:FK Unit:=⟨1,λ_=>[.slice none 0 0],dD,λ_=>rfl,λx u hu=>by simp only [Bl] at hu;subst hu;rfl⟩
theorem A3p:(Tryz.prog.info? 22).map (λi=>(i.zero,i.size,i.bytes))=some (some (.slice none 0 0),1,24):=by kernel_rfl
theorem A3o:(Tryz.prog.info? 52).map (λi=>(i.zero,i.size,i.bytes))=some (some (.slice none 0 0),1,24):=by kernel_rfl
abbrev PL:AC:=Cx (DR 0 0 [])
def Ey (b:Nat) (ys:List AC) (w:World):Prop:=AO Fi 27 b w (.slice (some ⟨b,0,none⟩) 4 4) ys
theorem Ey.same {b:Nat} {ys:List AC} (h:Ey b ys w) (hb:∀ k,k=b->k<w.heap.size->w1.heap[k]?=w.heap[k]?):Ey b ys w1:=AO.same h λg hg=>by
 have hg:some b=some g:=hg
 cases hg
 exact hb b rfl (AO.lt h b rfl).2
theorem Ey.lt {b:Nat} {ys:List AC} (h:Ey b ys w):b<w.heap.size:=(AO.lt h b rfl).2
theorem OZ (b:Nat) (x:AC) (ks:List (l8_)) (os:List AV) (k:l8_) (y:AC) (o:AV) (i:Nat) (S:Nat->Prop) (w:World) (hb:B4 w b (D3 x).toArray 150) (hx:At w S x (oDi ks os)) (hy:At w S y o) (hS:∀ q,S q->q≠b) (hN:∀ q,w.heap.size<=q->S q)
  (hx0:ks=[]->x.kc=0/\x.lc=0) (hp:A00 ks k i) (hl:ks.length<=100) (hkl:k.length<=9223372036854775807) (ho:os.length=ks.length) :
  Calls Tryz.prog 92 #[ptV b,.string (bs k),.agg (D3 y).toArray] w λe w'=>e=.returned (.tuple #[])/\B9 w.heap.size [b] w w'/\∃ z:AC,B4 w' b (D3 z).toArray 150/\At w' S z (oDi (ks.take i++k::ks.drop i) (os.take i++o::os.drop i)) :=
 (A0I b x ks os k y o i S w hb hx hy hS hx0 hp hl hkl ho).mono λe w' ⟨h1,h2,z,h3,h4⟩=>⟨h1,Kk h2 (by simp) (DS _),z,h3,h4.mono λq h _=>h.elim (λh=>h.1) (λh=>hN q h.1)⟩
theorem Gt (ks:List (l8_)) (k:l8_) (i:Nat) (h:(decide (i<=ks.length) && (List.range i).all (λj=>Op.bytesLess (ks.getD j []) k) && (decide (ks.length<=i) || !Op.bytesLess (ks.getD i []) k))=true):A00 ks k i:=by
 simp only [AG,AI,CD,BE,AP,List.mem_range] at h
 exact ⟨h.1.1,λj hj=>h.1.2 j hj,λhi=>h.2.resolve_left oO⟩
theorem SF (p:Option Addr) (c:Nat) (w:World) (hr:AA WW w p [pg1]) :
  Calls Tryz.prog 63 #[.slice p 1 c] w λe w'=>∃ x:Option Addr × List AC × Nat,e=.returned (.tuple #[.slice x.1 x.2.1.length x.2.2,Ag 0])/\AL w w'/\AA Fi w' x.1 x.2.1/\x.2.1.length<=x.2.2/\AJ w' (λq=>q<w'.heap.size) x.2.1 PK:=by
 refine AF func63 rfl ntmps63 ?_
 have kX:=Dh w
 refine A4<|CL rfl<|A8 rfl<|Ad<|A4<|A3 rfl<|A1 (.lenS In rfl)<|A1 (.bis (false) (.gtr rfl rfl) dD)<|A0<|Ay rfl rfl<|As<|Ad<|A4<|A8 rfl<|AT<|BO (α:=Nat) (λt=>[(0,.slice p 1 c),(4,Ag (t:Int))]) (λt w'=>AL w w'/\AA WW w' p [pg1]/\t<=1) (λt=>1-t) (0) ⟨rfl,rfl,tT⟩ (⟨kX,hr,FN _⟩) (λt w1 hR=>?_)
 obtain ⟨i0,rfl⟩:=eX t
 obtain ⟨q1,q2,q3⟩:=hR
 refine Ad<|A4<|A3 rfl<|A3 rfl<|A1 (.lenS In rfl)<|A1 (.lss rfl rfl)<|A0<|Ai rfl (λh1=>?_) (λh1=>?_)
 have kY:=dT h1
 obtain rfl:i0=0:=by omega
 refine As<|Ad<|AT<|A4<|A3 rfl<|A3 rfl<|A1 (.ixm In Rt rfl rfl (q2.isp (by (simp only [Aa,Am];omega))) (0) (rfl) (by simp))<|Aj (DG Lj rfl VP q2 (0) (by (simp only [Aa,Am];omega)) rfl)<|Au (OR _) (λw2 jn=>?_)
 have kZ:=Ea q2 jn (λa=>q2.lt a)
 have k':=Ci q1 jn
 refine A1 (.not rfl)<|A0<|Ay rfl rfl<|As<|An<|A3 rfl<|A1 (.add rfl rfl (Bb oO))<|A8 rfl ?_
 exact ⟨1,⟨rfl,rfl,tT⟩,⟨k',kZ,DS _⟩,oM⟩
 have kY:=dF h1
 refine BL<|A4<|A8 rfl<|A4<|A8 rfl<|A4<|Vh (L:=ivL) ((0:Int)) (14) NT A19 rfl rfl rfl rfl oO dD rfl (λw5 jx bu=>?_)
 have jo:=Ea q2 bu (λa=>q2.lt a)
 have jp:=Ci q1 bu
 have lE:=bu.size
 refine CL rfl<|?_
 have d':=(jx).rowp
 obtain ⟨bU,l0⟩:=eX w1.heap.size
 rw [<- l0] at d' ⊢
 have lV:(List.replicate 14 (0:Int)).length=14:=CH
 refine A0<|Ad<|A4<|A8 rfl<|AT ?_
 obtain ⟨LB,e0⟩:=eX ((w5).heap.size)
 have bv:w.heap.size<=LB:=by rw [e0];exact (jp).size
 have bK:=(jo).lt
 have bL:=(d').lt
 rw [<- e0] at bK bL
 refine BO (α:=Nat × Value × Value) (λt=>[(0,.slice p 1 c),(5,t.2.1),(6,t.2.2),(7,.slice (some ⟨bU,0,none⟩) 14 14),(8,Ag (t.1:Int))]) (λt w'=>AL w w'/\AA WW w' p [pg1]/\AA ivL w' (some ⟨bU,0,none⟩) (List.replicate 14 0)/\AO nlL 22 LB w' t.2.1 (List.replicate t.1 ())/\AO nlL 52 LB w' t.2.2 (List.replicate t.1 ())/\t.1<=1/\LB<=w'.heap.size) (λt=>1-t.1) ((0,.slice none 0 0,.slice none 0 0)) ⟨rfl,rfl,rfl,rfl,rfl,tT⟩ (⟨jp,jo,d',AO.nil _ _ _ _,AO.nil _ _ _ _,FN _,Nat.le_of_eq e0⟩) (λt w1 hR=>?_)
 obtain ⟨⟨i0,v5,v6⟩,e1⟩:=eX t
 subst e1
 obtain ⟨q1,q2,q3,q4,q5,q6,e2⟩:=hR
 simp only at q4 q5 q6
 refine Ad<|A4<|A3 rfl<|A3 rfl<|A1 (.lenS In rfl)<|A1 (.lss rfl rfl)<|A0<|Ai rfl (λh8=>?_) (λh8=>?_)
 have l1:=dT h8
 obtain rfl:i0=0:=by omega
 refine As<|Ad<|AT<|A4<|A3 rfl<|A3 rfl<|A1 (.ixm In Rt rfl rfl (q2.isp (by (simp only [Aa,Am];omega))) (0) (rfl) (by simp))<|Aj (DG Lj rfl VP q2 (0) (by (simp only [Aa,Am];omega)) rfl)<|Au (Rx _) (λw9 aQ=>?_)
 have fk:=CT e2 aQ.size
 have jy:=AO.below q4 aQ
 have fl:=CT e2 aQ.size
 have jz:=AO.below q5 aQ
 have e3:=Ea q2 aQ (λa=>q2.lt a)
 have e4:=Ea q3 aQ (λa=>q3.lt a)
 have e5:=Ci q1 aQ
 refine A3 rfl<|A1 (.ext rfl rfl)<|A1 (.ext rfl rfl)<|A1 (.ext rfl rfl)<|CL rfl<|CL rfl<|A8 rfl<|Ad<|A4<|A3 rfl<|A1 (.bis (false) (.neq rfl rfl) dD)<|A0<|Ay rfl rfl<|As<|A4<|A3 rfl<|A3 rfl<|CC (ps:=_) underlying59 CZ zeroValue22 rfl rfl rfl rfl rfl pR rfl (λlW lQ aF fm ad lF=>?_)
 have bM:=CT fk ad.size
 have e6:=Ix jy aF ad
 have fn:=CT fl ad.size
 have bw:=Ix jz aF ad
 have fo:=λa=>aF▸e3.lt a
 have jA:=AA.upd e3 ad (λa=>CV (fo a))
 have fp:=λa=>aF▸e4.lt a
 have jB:=AA.upd e4 ad (λa=>CV (fp a))
 have jC:=uB e5 aF ad
 have l2:=CW aF e5.size
 have bN:=AA.lit (V:=nlL) (l:=[()]) fm (rfl)
 refine Cb underlying59 A3p rfl rfl rfl e6 rfl bN (by simp only [CH,Aa,Am];omega) (bM) rfl (λh=>nomatch h) (λl3 lX fq aB fr lG=>?_)
 have jD:=AO.same bw (λg hg=>fr.block g ((bw).lt g hg).2 (λhx=>FM e6 bw dD g hx.symm hg))
 have fs:=CT fn aB.size
 have e7:=Ea jA aB bK
 have e8:=Ea jB aB bL
 have e9:=Ex jC (aB.mono (bv))
 have ft:=CT bM aB.size
 obtain ⟨x5,rfl⟩:=eX l3
 refine A8 rfl<|A4<|A3 rfl<|A3 rfl<|CC (ps:=_) underlying145 sizeOf52 zeroValue52 rfl rfl rfl rfl rfl pR rfl (λlY lR aG fu ae lH=>?_)
 have fv:=CT ft ae.size
 have bz:=Ix fq aG ae
 have bP:=CT fs ae.size
 have ea:=Ix jD aG ae
 have fw:=λa=>aG▸e7.lt a
 have jE:=AA.upd e7 ae (λa=>CV (fw a))
 have fx:=λa=>aG▸e8.lt a
 have jF:=AA.upd e8 ae (λa=>CV (fx a))
 have jG:=uB e9 aG ae
 have l4:=CW aG e9.size
 have eb:=AA.lit (V:=nlL) (l:=[()]) fu (rfl)
 refine Cb underlying145 A3o rfl rfl rfl ea rfl eb (by simp only [CH,Aa,Am];omega) (bP) rfl (λh=>nomatch h) (λl5 l6 fy aC fz lI=>?_)
 have jH:=AO.same bz (λg hg=>fz.block g ((bz).lt g hg).2 (λhx=>FM ea bz dD g hx.symm hg))
 have lJ:=CT fv aC.size
 have jI:=Ea jE aC bK
 have jJ:=Ea jF aC bL
 have jK:=Ex jG (aC.mono (bv))
 have lK:=CT bP aC.size
 obtain ⟨x6,rfl⟩:=eX l5
 refine A8 rfl<|A4<|A8 rfl<|AT<|BO (α:=Unit) (λt=>[(0,.slice p 1 c),(5,x5),(6,x6),(7,.slice (some ⟨bU,0,none⟩) 14 14),(8,Ag 0),(10,.slice none 0 0),(12,Ag 0)]) (λt w'=>l6=w') (λt=>0) (()) ⟨rfl,rfl,rfl,rfl,rfl,rfl,rfl,tT⟩ (rfl) (λt w1 hR=>?_)
 obtain rfl:=hR
 refine Ad<|A4<|A3 rfl<|A3 rfl<|A1 (.lenS NT rfl)<|A1 (.lss rfl rfl)<|A0<|Ai rfl (λec=>?_) (λec=>?_)
 have jL:=dT ec
 exact Dp (show (0:Int)<0 by assumption) dD
 have jL:=dF ec
 refine BL<|An<|A3 rfl<|A1 (.add rfl rfl (Bb oO))<|A8 rfl ?_
 exact ⟨(1,x5,x6),⟨rfl,rfl,rfl,rfl,rfl,tT⟩,⟨jK,jI,jJ,jH,fy,DS _,oM⟩,oM⟩
 have l1:=dF h8
 obtain rfl:i0=1:=by omega
 obtain ⟨p5,c5,rfl,bi,-⟩:=q4.row
 obtain ⟨p6,c6,rfl,ed,-⟩:=q5.row
 refine BL<|A4<|A8 rfl<|Ad<|A4<|A8 rfl<|AT<|BO (α:=Nat) (λt=>[(0,.slice p 1 c),(5,.slice p5 1 c5),(6,.slice p6 1 c6),(7,.slice (some ⟨bU,0,none⟩) 14 14),(13,Ag 3),(14,Ag (t:Int))]) (λt w'=>w1=w'/\t<=14) (λt=>14-t) (0) ⟨rfl,rfl,rfl,rfl,rfl,rfl,tT⟩ (⟨rfl,FN _⟩) (λt w1 hR=>?_)
 obtain ⟨k0,rfl⟩:=eX t
 obtain ⟨rfl,lZ⟩:=hR
 refine Ad<|A4<|A3 rfl<|A1 (.lss rfl rfl)<|A0<|Ai rfl (λee=>?_) (λee=>?_)
 have jM:=dT ee
 refine As<|Ad<|AT<|A4<|A3 rfl<|A3 rfl<|A1 (.ixm NT BI rfl rfl (q3.isp oO) (k0) (rfl) oO)<|Aj (BG (C5 _) rfl ((q3.field (k0) oO 0 dD).trans rfl))<|A1 (.bis (false) (.eql rfl rfl) (by exact AH (by show ¬ (List.replicate 14 (0:Int))[k0]'oO=1;rw [List.getElem_replicate];decide)))<|A0<|Ay rfl rfl<|As<|An<|A3 rfl<|A1 (.iis (((k0+1:Nat):Int)) (.add rfl rfl (Bb oO)) oO)<|A8 rfl ?_
 exact ⟨k0+1,⟨rfl,rfl,rfl,rfl,rfl,rfl,tT⟩,⟨rfl,oM⟩,oM⟩
 have jM:=dF ee
 refine BL<|A4<|A8 rfl<|Ad<|A4<|A3 rfl<|A1 (.lenS In rfl)<|A1 (.bis (false) (.gtr rfl rfl) dD)<|A0<|Ay rfl rfl<|As<|A4<|A3 rfl<|A8 rfl<|A4<|A3 rfl<|A3 rfl<|A1 (.add rfl rfl (Bb oO))<|A8 rfl<|A4<|A3 rfl<|A3 rfl<|A1 (.lenS In rfl)<|A1 (.mul rfl rfl (Bb oO))<|A1 (.add rfl rfl (Bb oO))<|A1 (.sub rfl rfl (Bb oO))<|Vh (L:=Fi) (PL) (4) Cg FZ rfl rfl rfl rfl oO dD rfl (λl7 fA aq=>?_)
 have ef:=Ea q2 aq (λa=>q2.lt a)
 have eg:=Ea q3 aq (λa=>q3.lt a)
 have eh:=Ea bi aq (λa=>bi.lt a)
 have ei:=Ea ed aq (λa=>ed.lt a)
 have ej:=Ci q1 aq
 have l8:=aq.size
 refine CL rfl<|?_
 obtain ⟨bO,jq⟩:=eX w1.heap.size
 have jr:Ey bO [PL,PL,PL,PL] l7:=by rw [jq];exact fA
 have lS:=jr.lt
 have lT:LB<=bO:=by omega
 have aL:0 < [pg1].length->(pA p).block<bO:=λa=>by have:=bK a;omega
 have ek:0<(List.replicate 14 (0:Int)).length->(pA (some ⟨bU,0,none⟩)).block<bO:=λa=>by have:=bL a;omega
 have h5O:0<(List.replicate 1 ()).length->(pA p5).block<bO:=λa=>by have:=bi.lt a;omega
 have h6O:0<(List.replicate 1 ()).length->(pA p6).block<bO:=λa=>by have:=ed.lt a;omega
 rw [<- jq] at ⊢
 refine A0<|?_
 refine A4<|A1 (.build rfl ZI) ?_
 refine A1 (.build rfl W3) ?_
 refine WL.box rfl rfl (λbQ jN aH fB ar lL=>?_)
 have jO:=Ey.same (w1:=jN) jr (λk hk hl=>ar.other k oO)
 have fC:=λa=>aH▸ef.lt a
 have el:=AA.upd ef ar (λa=>CV (fC a))
 have fD:=λa=>aH▸eg.lt a
 have em:=AA.upd eg ar (λa=>CV (fD a))
 have fE:=λa=>aH▸eh.lt a
 have en:=AA.upd eh ar (λa=>CV (fE a))
 have fF:=λa=>aH▸ei.lt a
 have eo:=AA.upd ei ar (λa=>CV (fF a))
 have jP:=uB ej aH ar
 have l9:=CW aH ej.size
 refine A8 rfl<|A4<|A3 rfl<|Au (Rw Xa _) (λla ax=>?_)
 have ep:=Ey.same (w1:=la) jO (λk hk hl=>ax.block k hl)
 have eq:=fB.bl ax
 have er:=Ea el ax (λa=>el.lt a)
 have es:=Ea em ax (λa=>em.lt a)
 have et:=Ea en ax (λa=>en.lt a)
 have eu:=Ea eo ax (λa=>eo.lt a)
 have ev:=Ci jP ax
 refine Cs BQ rfl rfl ((OZ bQ ac7 [] [] FA _ (oNm Xa) 0 (λq=>q≠bQ/\q≠bO) _ eq (Yg _ _) (E9 _ _ 4 0 Xa dD dD) (λq h=>by omega) (λq h=>by have:=(eq).lt;have:=(ep).lt;first | omega | (refine ⟨?_,?_⟩ <;> omega)) (λ_=>⟨rfl,rfl⟩) (Gt _ _ _ dD) dD dD rfl)) (λlb ay=>?_)
 have jQ:=Ey.same (w1:=lb) ep (λk hk hl=>ay.1.block k hl (by (simp only [A7,A6,Ax,not_or,Ab];omega)))
 have ew:=O9 er ay.1 (λa=>⟨er.lt a,by have:=aL a;simp only [A7,A6,Ax];omega⟩)
 have ex:=O9 es ay.1 (λa=>⟨es.lt a,by have:=ek a;simp only [A7,A6,Ax];omega⟩)
 have ey:=O9 et ay.1 (λa=>⟨et.lt a,by have:=h5O a;simp only [A7,A6,Ax];omega⟩)
 have ez:=O9 eu ay.1 (λa=>⟨eu.lt a,by have:=h6O a;simp only [A7,A6,Ax];omega⟩)
 have jR:=Ex ev (B9.below ay.1 ev.size (by simp <;> omega))
 obtain ⟨z1,aM,jS⟩:=ay.2
 refine A0<|A4<|A3 rfl<|Au (Ob 2 _) (λjs am=>?_)
 have eA:=Ey.same (w1:=js) jQ (λk hk hl=>am.block k hl)
 have jT:=At.same (w1:=js) jS (λk hk hl=>am.block k hl)
 have eB:=aM.bl am
 have eC:=Ea ew am (λa=>ew.lt a)
 have eD:=Ea ex am (λa=>ex.lt a)
 have eF:=Ea ey am (λa=>ey.lt a)
 have eG:=Ea ez am (λa=>ez.lt a)
 have eH:=Ci jR am
 refine Cs BQ rfl rfl ((OZ bQ z1 [FA] [oNm Xa] Mn _ (oR 2) 0 (λq=>q≠bQ/\q≠bO) _ eB jT (E9 _ _ 8 2 [] dD dD) (λq h=>by omega) (λq h=>by have:=(eB).lt;have:=(eA).lt;first | omega | (refine ⟨?_,?_⟩ <;> omega)) (λh=>nomatch h) (Gt _ _ _ dD) dD dD rfl)) (λjt az=>?_)
 have jU:=Ey.same (w1:=jt) eA (λk hk hl=>az.1.block k hl (by (simp only [A7,A6,Ax,not_or,Ab];omega)))
 have jV:=O9 eC az.1 (λa=>⟨eC.lt a,by have:=aL a;simp only [A7,A6,Ax];omega⟩)
 have fG:=O9 eD az.1 (λa=>⟨eD.lt a,by have:=ek a;simp only [A7,A6,Ax];omega⟩)
 have fH:=O9 eF az.1 (λa=>⟨eF.lt a,by have:=h5O a;simp only [A7,A6,Ax];omega⟩)
 have fI:=O9 eG az.1 (λa=>⟨eG.lt a,by have:=h6O a;simp only [A7,A6,Ax];omega⟩)
 have fJ:=Ex eH (B9.below az.1 eH.size (by simp <;> omega))
 obtain ⟨z2,lc,jW⟩:=az.2
 refine A0<|Ad ?_
 have ju:AO Fi 27 bO jt (.slice (some ⟨bO,0,none⟩) 4 4) [PL,PL,PL,PL]:=jU
 refine An<|A3 rfl<|A3 rfl<|A1 (.nck rfl)<|A1 (.fa Hz rfl Dd dD rfl)<|Aj (Bd rfl lc Av rfl Ah)<|A1 (.ixm Cg Dd rfl rfl rfl 0 rfl dD)<|Nn (L:=Fi) (z2) (0) ju (by simp) Ah rfl rfl rfl (λeI eJ b4 ab eK=>?_)
 have kL:=(ju).lt eJ (by rw [b4];rfl)
 have eL:bO=eJ:=BH Addr.block (Bi b4)
 have fK:=At.same (w1:=eI) jW (λk hk hl=>ab.other k oM)
 have bR:=AA.upd jV ab (λa=>by have:=aL a;omega)
 have bS:=AA.upd fG ab (λa=>by have:=ek a;omega)
 have bT:=AA.upd fH ab (λa=>by have:=h5O a;omega)
 have bV:=AA.upd fI ab (λa=>by have:=h6O a;omega)
 have fL:=BR fJ oO ab
 have jX:Ey bO [z2,PL,PL,PL] eI:=eK
 refine A0<|A4<|Bf BQ rfl rfl ((Nz _)) (λnb aR af=>?_)
 have fM:=At.same (w1:=aR) fK (λk hk hl=>af.2.2.block k hl)
 have bW:=Ey.same (w1:=aR) jX (λk hk hl=>af.2.2.block k hl)
 have bY:=Ea bR af.2.2 (λa=>bR.lt a)
 have bZ:=Ea bS af.2.2 (λa=>bS.lt a)
 have b':=Ea bT af.2.2 (λa=>bT.lt a)
 have c0:=Ea bV af.2.2 (λa=>bV.lt a)
 have c2:=Ci fL af.2.2
 refine A8 rfl<|Ad<|A4<|A8 rfl<|AT<|BO (α:=Nat) (λt=>[(0,.slice p 1 c),(5,.slice p5 1 c5),(6,.slice p6 1 c6),(7,.slice (some ⟨bU,0,none⟩) 14 14),(15,Ag 0),(16,Ag 3),(17,Ag 3),(18,.slice (some ⟨bO,0,none⟩) 4 4),(21,Ag (t:Int))]) (λt w'=>aR=w'/\t<=14) (λt=>14-t) (0) ⟨rfl,rfl,rfl,rfl,rfl,rfl,rfl,rfl,rfl,tT⟩ (⟨rfl,FN _⟩) (λt w1 hR=>?_)
 obtain ⟨m0,rfl⟩:=eX t
 obtain ⟨rfl,l'⟩:=hR
 refine Ad<|A4<|A3 rfl<|A1 (.lss rfl rfl)<|A0<|Ai rfl (λbA=>?_) (λbA=>?_)
 have fN:=dT bA
 refine As<|Ad<|AT<|Ad<|A4<|A3 rfl<|A3 rfl<|A1 (.ixm NT BI rfl rfl (bZ.isp oO) (m0) (rfl) oO)<|Aj (BG (C5 _) rfl ((bZ.field (m0) oO 0 dD).trans rfl))<|A1 (.bis (true) (.eql rfl rfl) (by exact AR (by show (List.replicate 14 (0:Int))[m0]'oO=0;rw [List.getElem_replicate])))<|A0<|BZ rfl rfl<|BL<|An<|A3 rfl<|A1 (.iis (((m0+1:Nat):Int)) (.add rfl rfl (Bb oO)) oO)<|A8 rfl ?_
 exact ⟨m0+1,⟨rfl,rfl,rfl,rfl,rfl,rfl,rfl,rfl,rfl,tT⟩,⟨rfl,oM⟩,oM⟩
 have fN:=dF bA
 refine BL<|Ad ?_
 have lM:=(bW).lt
 have jY:At aR (λq=>q<aR.heap.size/\q≠bO) z2 anC:=(fM).mono (λq h hl=>⟨hl,h.2⟩)
 refine An<|A1 (.build rfl ZI) ?_
 refine A1 (.build rfl W3) ?_
 refine WL.box rfl rfl (λb c3 aD eM ac lf=>?_)
 have fO:=At.same (w1:=c3) jY (λk hk hl=>ac.other k oO)
 have fP:=Ey.same (w1:=c3) bW (λk hk hl=>ac.other k oO)
 have eN:=λa=>aD▸bY.lt a
 have c4:=AA.upd bY ac (λa=>CV (eN a))
 have eO:=λa=>aD▸b'.lt a
 have c7:=AA.upd b' ac (λa=>CV (eO a))
 have eP:=λa=>aD▸c0.lt a
 have c8:=AA.upd c0 ac (λa=>CV (eP a))
 have fQ:=uB c2 aD ac
 have kM:=CW aD c2.size
 refine A8 rfl<|A4<|A3 rfl<|Au (Rw Mn _) (λeQ ag=>?_)
 have fR:=At.same (w1:=eQ) fO (λk hk hl=>ag.block k hl)
 have c9:=Ey.same (w1:=eQ) fP (λk hk hl=>ag.block k hl)
 have ca:=eM.bl ag
 have cb:=Ea c4 ag (λa=>c4.lt a)
 have cc:=Ea c7 ag (λa=>c7.lt a)
 have cd:=Ea c8 ag (λa=>c8.lt a)
 have cf:=Ci fQ ag
 refine Cs BQ rfl rfl ((OZ b ac7 [] [] FA _ (oNm Mn) 0 (λq=>q≠b/\q≠bO) _ ca (Yg _ _) (E9 _ _ 4 0 Mn dD dD) (λq h=>by omega) (λq h=>by have:=(ca).lt;have:=(c9).lt;first | omega | (refine ⟨?_,?_⟩ <;> omega)) (λ_=>⟨rfl,rfl⟩) (Gt _ _ _ dD) dD dD rfl)) (λeR ah=>?_)
 have fS:=At.same (w1:=eR) fR (λk hk hl=>ah.1.block k hl (by (simp only [A7,A6,Ax,not_or,Ab];omega)))
 have fT:=Ey.same (w1:=eR) c9 (λk hk hl=>ah.1.block k hl (by (simp only [A7,A6,Ax,not_or,Ab];omega)))
 have cg:=O9 cb ah.1 (λa=>⟨cb.lt a,by have:=aL a;simp only [A7,A6,Ax];omega⟩)
 have ci:=O9 cc ah.1 (λa=>⟨cc.lt a,by have:=h5O a;simp only [A7,A6,Ax];omega⟩)
 have cj:=O9 cd ah.1 (λa=>⟨cd.lt a,by have:=h6O a;simp only [A7,A6,Ax];omega⟩)
 have fU:=Ex cf (B9.below ah.1 cf.size (by simp <;> omega))
 obtain ⟨z3,lg,jZ⟩:=ah.2
 refine A0<|A4<|A3 rfl<|A3 rfl<|A1 (.lenS In rfl)<|Au (Mb 1 _) (λbB a8=>?_)
 have fV:=At.same (w1:=bB) fS (λk hk hl=>a8.block k hl)
 have ck:=Ey.same (w1:=bB) fT (λk hk hl=>a8.block k hl)
 have fW:=At.same (w1:=bB) jZ (λk hk hl=>a8.block k hl)
 have cl:=lg.bl a8
 have cm:=Ea cg a8 (λa=>cg.lt a)
 have cn:=Ea ci a8 (λa=>ci.lt a)
 have co:=Ea cj a8 (λa=>cj.lt a)
 have cq:=Ci fU a8
 refine Cs BQ rfl rfl ((OZ b z3 [FA] [oNm Mn] TT _ (oN 1) 0 (λq=>q≠b/\q≠bO) _ cl fW (E9 _ _ 2 1 [] dD dD) (λq h=>by omega) (λq h=>by have:=(cl).lt;have:=(ck).lt;first | omega | (refine ⟨?_,?_⟩ <;> omega)) (λh=>nomatch h) (Gt _ _ _ dD) dD dD rfl)) (λaI ai=>?_)
 have fX:=At.same (w1:=aI) fV (λk hk hl=>ai.1.block k hl (by (simp only [A7,A6,Ax,not_or,Ab];omega)))
 have fY:=Ey.same (w1:=aI) ck (λk hk hl=>ai.1.block k hl (by (simp only [A7,A6,Ax,not_or,Ab];omega)))
 have cr:=O9 cm ai.1 (λa=>⟨cm.lt a,by have:=aL a;simp only [A7,A6,Ax];omega⟩)
 have ct:=O9 cn ai.1 (λa=>⟨cn.lt a,by have:=h5O a;simp only [A7,A6,Ax];omega⟩)
 have cu:=O9 co ai.1 (λa=>⟨co.lt a,by have:=h6O a;simp only [A7,A6,Ax];omega⟩)
 have fZ:=Ex cq (B9.below ai.1 cq.size (by simp <;> omega))
 obtain ⟨z4,lh,j'⟩:=ai.2
 refine A0<|Ad ?_
 have k1:At aI (λq=>q<aI.heap.size/\q≠bO/\q≠b) z4 (oDi [TT,FA] [oN 1,oNm Mn]):=(j').mono (λq h hl=>⟨hl,h.2,h.1⟩)
 have f':At aI (λq=>q<aI.heap.size/\q≠bO/\q≠b) z2 anC:=(fX).mono (λq h hl=>⟨hl,h.2,oO⟩)
 refine An<|Au (VB none 0 0 _) (λbC a3=>?_)
 have g0:=At.same (w1:=bC) f' (λk hk hl=>a3.block k hl)
 have g1:=Ey.same (w1:=bC) fY (λk hk hl=>a3.block k hl)
 have g2:=At.same (w1:=bC) k1 (λk hk hl=>a3.block k hl)
 have cv:=lh.bl a3
 have cw:=Ea cr a3 (λa=>cr.lt a)
 have cy:=Ea ct a3 (λa=>ct.lt a)
 have cz:=Ea cu a3 (λa=>cu.lt a)
 have cA:=Ci fZ a3
 have lN:=(a3).size
 refine Bm CA rfl (λd b9 au eS U li=>?_)
 have g3:=At.same (w1:=b9) g0 (λk hk hl=>U.other k oO)
 have g4:=Ey.same (w1:=b9) g1 (λk hk hl=>U.other k oO)
 have g5:=At.same (w1:=b9) g2 (λk hk hl=>U.other k oO)
 have g6:=Bt au cv.lt
 have g7:=cv.un U g6
 have aS:=λa=>au▸cw.lt a
 have g8:=AA.upd cw U (λa=>CV (aS a))
 have aT:=λa=>au▸cy.lt a
 have g9:=AA.upd cy U (λa=>CV (aT a))
 have aU:=λa=>au▸cz.lt a
 have ga:=AA.upd cz U (λa=>CV (aU a))
 have gb:=uB cA au U
 have kN:=CW au cA.size
 refine Az rfl rfl eS Ah rfl rfl (λan eT X lj=>?_)
 have gc:=At.same (w1:=an) g3 (λk hk hl=>X.other k oM)
 have ge:=Ey.same (w1:=an) g4 (λk hk hl=>X.other k oM)
 have gf:=At.same (w1:=an) g5 (λk hk hl=>X.other k oM)
 have gg:=g7.up X
 have gh:=AA.upd g8 X (λa=>CV (aS a))
 have gi:=AA.upd g9 X (λa=>CV (aT a))
 have gj:=AA.upd ga X (λa=>CV (aU a))
 have gk:=BR gb oO X
 refine A0<|Ad<|A4<|A8 rfl<|AT<|BO (α:=Unit) (λt=>[(0,.slice p 1 c),(5,.slice p5 1 c5),(6,.slice p6 1 c6),(15,Ag 0),(16,Ag 3),(17,Ag 3),(18,.slice (some ⟨bO,0,none⟩) 4 4),(23,ptV b),(24,ptV d),(25,Ag 0)]) (λt w'=>an=w') (λt=>0) (()) ⟨rfl,rfl,rfl,rfl,rfl,rfl,rfl,rfl,rfl,rfl,tT⟩ (rfl) (λt w1 hR=>?_)
 obtain rfl:=hR
 refine Ad<|A4<|A3 rfl<|A3 rfl<|A1 (.lss rfl rfl)<|A0<|Ai rfl (λbD=>?_) (λbD=>?_)
 have gl:=dT bD
 exact Dp (show (0:Int)<0 by assumption) dD
 have gl:=dF bD
 refine BL<|Ad<|A4<|A8 rfl<|AT ?_
 have L0:=gk
 have L1:=ge
 have L2:=gc
 have L3:=gf
 have L4:=gg
 have L5:=eT
 have L6:=gh
 have L7:=gi
 have L8:=gj
 refine BO (α:=Nat) (λt=>[(0,.slice p 1 c),(5,.slice p5 1 c5),(6,.slice p6 1 c6),(15,Ag 0),(16,Ag 3),(17,Ag 3),(18,.slice (some ⟨bO,0,none⟩) 4 4),(23,ptV b),(24,ptV d),(29,Ag (t:Int))]) (λt w'=>(t=0/\an=w')\/(t=1/\∃ zk zp zs:AC,AL w w'/\Ey bO [z2,PL,zp,zs] w'/\At w' (λq=>q≠bO/\q≠b) z2 anC/\At w' (λq=>q≠bO/\q≠b) zp anP/\At w' (λq=>q≠bO/\q≠b) zs anS/\At w' (λq=>q≠bO/\q≠b) z4 (oDi [TT,FA] [oN 1,oNm Mn])/\At w' (λq=>q≠bO/\q≠b) zk (oA [oR 3])/\B4 w' b (D3 z4).toArray 150/\B4 w' d (D3 zk).toArray 27)) (λt=>1-t) (0) ⟨rfl,rfl,rfl,rfl,rfl,rfl,rfl,rfl,rfl,rfl,tT⟩ (.inl ⟨rfl,rfl⟩) (λt w1 hR=>?_)
 obtain ⟨n0,e1⟩:=eX t
 subst e1
 refine Ad<|A4<|A3 rfl<|A3 rfl<|A1 (.lenS In rfl)<|A1 (.lss rfl rfl)<|A0<|Ai rfl (λbE=>?_) (λbE=>?_)
 have gm:=dT bE
 obtain ⟨rfl,rfl⟩:=hR.resolve_right (λh=>by have:=h.1;simp_all)
 refine As<|Ad<|AT<|A4<|A8 rfl<|Ad<|A4<|A3 rfl<|A1 (.bis (false) (.gtr rfl rfl) dD)<|A0<|Ay rfl rfl ?_
 have k2:=AO.nil Fi 27 LB an
 have go:LB<=an.heap.size:=by have:=(L1).lt;omega
 refine Sc 10 rfl rfl BS kR (λw'=>w'.heap[d]?=an.heap[d]?/\True) (λbG H=>?_)
 have eU:=HS go H
 have gp:=AO.drew k2 H
 have gq:=At.same (w1:=bG) L2 (λk hk hl=>(by obtain ⟨m,rfl⟩:=H;rfl))
 have gr:=Ey.same (w1:=bG) L1 (λk hk hl=>(by obtain ⟨m,rfl⟩:=H;rfl))
 have gs:=At.same (w1:=bG) L3 (λk hk hl=>(by obtain ⟨m,rfl⟩:=H;rfl))
 have gt:=L4.drew H
 have cB:=L5.drew H
 have cC:=L6.drew H
 have cD:=L7.drew H
 have cE:=L8.drew H
 have gv:=Cn.below L0 H
 have aM:=BU (cB.trans L5.symm) BF
 refine Ac 0 rfl (.fa Av rfl CQ dD rfl) aM ?_
 refine C6 1 rfl (λw' hw'=>Ae (DW _) rfl ((hw'.1).trans L5) rfl) aM rfl ?_
 refine Ac 2 rfl (.mv rfl) aM ?_
 refine Ac 3 rfl (.mv rfl) aM ?_
 refine Ac 4 rfl (.iis (0) (.mul rfl rfl (Bb oO)) (by rfl)) aM ?_
 refine Ac 5 rfl (.iis (3) (.add rfl rfl (Bb oO)) (by rfl)) aM ?_
 refine Br 6 rfl<|Au (Ob 3 _) (λbH J=>?_)
 have eV:=CT eU J.size
 have gw:=AO.below gp J
 have gx:=At.same (w1:=bH) gq (λk hk hl=>J.block k hl)
 have gz:=Ey.same (w1:=bH) gr (λk hk hl=>J.block k hl)
 have gA:=At.same (w1:=bH) gs (λk hk hl=>J.block k hl)
 have cF:=gt.bl J
 have ba:=cB.bl J
 have cG:=Ea cC J (λa=>cC.lt a)
 have cH:=Ea cD J (λa=>cD.lt a)
 have cI:=Ea cE J (λa=>cE.lt a)
 have cJ:=Ci gv J
 refine A0<|⟨⟨(ba).trans (L5).symm,tT⟩,?_⟩
 refine Br 7 rfl<|CR (L:=Fi) (ps:=_) ([Cx (DR 8 3 [])]) Cg Dd CA rfl rfl rfl rfl rfl (by rfl) rfl rfl (λk3 aN a9 eW s lk=>?_)
 have bj:=CT eV s.size
 have gB:=Ix gw a9 s
 have gC:=At.same (w1:=aN) gx (λk hk hl=>s.other k oO)
 have cK:=Ey.same (w1:=aN) gz (λk hk hl=>s.other k oO)
 have gD:=At.same (w1:=aN) gA (λk hk hl=>s.other k oO)
 have gE:=Bt a9 cF.lt
 have cL:=cF.un s gE
 have gF:=Bt a9 ba.lt
 have bb:=ba.un s gF
 have eY:=λa=>a9▸cG.lt a
 have cM:=AA.upd cG s (λa=>CV (eY a))
 have eZ:=λa=>a9▸cH.lt a
 have cN:=AA.upd cH s (λa=>CV (eZ a))
 have e':=λa=>a9▸cI.lt a
 have cO:=AA.upd cI s (λa=>CV (e' a))
 have gG:=uB cJ a9 s
 have kO:=CW a9 cJ.size
 have kP:k3<=aN.heap.size:=by omega
 have G1:=(cL).lt
 have G2:=(bb).lt
 have G3:=(cK).lt
 refine A0<|⟨⟨(bb).trans (L5).symm,tT⟩,?_⟩
 refine Br 8 rfl<|Cb Cg FZ rfl rfl rfl gB rfl (eW).rowp oE (bj) rfl (λh=>nomatch h) (λk4 bI bk bm Y f0=>?_)
 have gH:=cL.grown Y (λe=>by cases e)
 have bc:=bb.grown Y (λe=>by cases e)
 have gI:=At.same gC (λk hk hl=>Y.block k hl (λe=>by cases e))
 have gJ:=Ey.same cK (λk hk hl=>Y.block k hl (λe=>by cases e))
 have gK:=At.same gD (λk hk hl=>Y.block k hl (λe=>by cases e))
 have gL:=AA.same (w1:=bI) cM (λa=>Y.block _ (cM.lt a) (λhx=>by cases hx))
 have gM:=AA.same (w1:=bI) cN (λa=>Y.block _ (cN.lt a) (λhx=>by cases hx))
 have gN:=AA.same (w1:=bI) cO (λa=>Y.block _ (cO.lt a) (λhx=>by cases hx))
 have gO:=Ex gG (bm.mono (bv))
 have f1:=CT bj bm.size
 have f2:∀ g,(k4).ownBlock=some g->bO<g/\b<g/\d<g:=λg hg=>by
  rcases f0 g hg with h | h;cases h
  omega
 refine A0<|⟨⟨(bc).trans (L5).symm,tT⟩,?_⟩
 refine Ac 9 rfl (.fa Av rfl CQ dD rfl) ⟨(bc).trans (L5).symm,tT⟩ ?_
 refine C3 kR<|BA CQ rfl rfl (bk).one bc (by exact Nat.le_of_ble_eq_true rfl) (λa1 aV i ll=>?_)
 have aV:B4 a1 d _ _:=aV
 have i:CP d _ _:=i
 have lm:=CT f1 i.size
 have cP:=TP bk i ((λg hg e=>by have:=f2 g hg;omega))
 have gP:=At.same (w1:=a1) gI (λk hk hl=>i.other k oM)
 have gQ:=Ey.same (w1:=a1) gJ (λk hk hl=>i.other k oM)
 have gR:=At.same (w1:=a1) gK (λk hk hl=>i.other k oM)
 have cQ:=gH.up i
 have cR:=AA.upd gL i (λa=>CV (aS a))
 have cS:=AA.upd gM i (λa=>CV (aT a))
 have cT:=AA.upd gN i (λa=>CV (aU a))
 have cU:=BR gO oO i
 refine A0<|Ad ?_
 have m1:(List.replicate 1 ()).length=1:=rfl
 obtain ⟨kp,kc,ln,-⟩:=(cP).row
 subst ln
 obtain ⟨-,lo,lp,lq,lr⟩:=(cP).full
 have m2:=f2 _ (lr (by simp))
 have ls:At a1 (λq=>q≠bO/\q≠b/\q≠d) (G7 kp 1 kc) (oA [oR 3]):=Oa lq (AJ.cons (E9 _ _ 8 3 [] dD dD) (AJ.nil _ _)) lo lp (λ_=>by show (pA kp).block≠_/\(pA kp).block≠_/\(pA kp).block≠_;omega)
 have f3:B4 a1 d (D3 (G7 kp 1 kc)).toArray 27:=aV
 have gS:At a1 (λq=>q<a1.heap.size/\q≠bO/\q≠b/\q≠d) (G7 kp 1 kc) (oA [oR 3]):=ls.mono (λq h hl=>⟨hl,h⟩)
 have gT:At a1 (λq=>q<a1.heap.size/\q≠bO/\q≠b) z4 (oDi [TT,FA] [oN 1,oNm Mn]):=(gR).mono (λq h hl=>⟨hl,h.2⟩)
 have gU:At a1 (λq=>q<a1.heap.size/\q≠bO/\q≠b) z2 anC:=(gP).mono (λq h hl=>⟨hl,h.2⟩)
 refine An<|A1 (.build rfl ZI) ?_
 refine Bm CA rfl (λk5 aO aj f4 B lu=>?_)
 have gV:=At.same (w1:=aO) gU (λk hk hl=>B.other k oO)
 have gW:=Ey.same (w1:=aO) gQ (λk hk hl=>B.other k oO)
 have gX:=At.same (w1:=aO) gT (λk hk hl=>B.other k oO)
 have gY:=At.same (w1:=aO) gS (λk hk hl=>B.other k oO)
 have gZ:=Bt aj cQ.lt
 have g':=cQ.un B gZ
 have h2:=Bt aj f3.lt
 have h3:=f3.un B h2
 have bn:=λa=>aj▸cR.lt a
 have h4:=AA.upd cR B (λa=>CV (bn a))
 have bo:=λa=>aj▸cS.lt a
 have h6:=AA.upd cS B (λa=>CV (bo a))
 have bp:=λa=>aj▸cT.lt a
 have h7:=AA.upd cT B (λa=>CV (bp a))
 have h9:=uB cU aj B
 have kQ:=CW aj cU.size
 refine Az rfl rfl f4 Ah rfl rfl (λa6 bq C lv=>?_)
 have ha:=At.same (w1:=a6) gV (λk hk hl=>C.other k oM)
 have cV:=Ey.same (w1:=a6) gW (λk hk hl=>C.other k oM)
 have hb:=At.same (w1:=a6) gX (λk hk hl=>C.other k oM)
 have hc:=At.same (w1:=a6) gY (λk hk hl=>C.other k oM)
 have bd:=g'.up C
 have be:=h3.up C
 have cW:=AA.upd h4 C (λa=>CV (bn a))
 have cX:=AA.upd h6 C (λa=>CV (bo a))
 have cY:=AA.upd h7 C (λa=>CV (bp a))
 have cZ:=BR h9 oO C
 refine A0<|Ad<|A4<|A8 rfl<|AT<|BO (α:=Unit) (λt=>[(0,.slice p 1 c),(5,.slice p5 1 c5),(6,.slice p6 1 c6),(15,Ag 0),(16,Ag 3),(17,Ag 3),(18,.slice (some ⟨bO,0,none⟩) 4 4),(23,ptV b),(24,ptV d),(29,Ag ((0:Nat):Int)),(30,Ag 2),(31,ptV k5),(32,Ag 0)]) (λt w'=>a6=w') (λt=>0) (()) ⟨rfl,rfl,rfl,rfl,rfl,rfl,rfl,rfl,rfl,rfl,rfl,rfl,rfl,tT⟩ (rfl) (λt w1 hR=>?_)
 obtain rfl:=hR
 refine Ad<|A4<|A3 rfl<|A3 rfl<|A3 rfl<|A1 (.ixm underlying145 sizeOf52 rfl rfl (cY.isp oO) (0) (rfl) (by simp))<|Aj (BG (isAgg52 _) rfl ((cY.field (0) oO 0 dD).trans rfl))<|A1 (.lenS NT rfl)<|A1 (.lss rfl rfl)<|A0<|Ai rfl (λbJ=>?_) (λbJ=>?_)
 have he:=dT bJ
 exact Dp (show (0:Int)<0 by assumption) dD
 have he:=dF bJ
 refine BL<|Ad ?_
 have hf:At a6 (λq=>q<a6.heap.size/\q≠bO/\q≠b/\q≠d) (G7 kp 1 kc) (oA [oR 3]):=(hc).mono (λq h hl=>⟨hl,h.2⟩)
 have hh:At a6 (λq=>q<a6.heap.size/\q≠bO/\q≠b) z4 (oDi [TT,FA] [oN 1,oNm Mn]):=(hb).mono (λq h hl=>⟨hl,h.2⟩)
 have hi:At a6 (λq=>q<a6.heap.size/\q≠bO/\q≠b) z2 anC:=(ha).mono (λq h hl=>⟨hl,h.2⟩)
 have J1:=(bd).lt
 have J2:=(be).lt
 have J3:=(cV).lt
 refine An<|A1 (.build rfl ZI) ?_
 refine A1 (.build rfl W3) ?_
 refine WL.box rfl rfl (λbf aP ak bt D lw=>?_)
 have hj:=At.same (w1:=aP) hi (λk hk hl=>D.other k oO)
 have c':=Ey.same (w1:=aP) cV (λk hk hl=>D.other k oO)
 have hm:=At.same (w1:=aP) hh (λk hk hl=>D.other k oO)
 have hn:=At.same (w1:=aP) hf (λk hk hl=>D.other k oO)
 have ho:=Bt ak bd.lt
 have d0:=bd.un D ho
 have hp:=Bt ak be.lt
 have d1:=be.un D hp
 have hq:=Bt ak bq.lt
 have bg:=bq.un D hq
 have f5:=λa=>ak▸cW.lt a
 have d2:=AA.upd cW D (λa=>CV (f5 a))
 have f6:=λa=>ak▸cX.lt a
 have d3:=AA.upd cX D (λa=>CV (f6 a))
 have d4:=uB cZ ak D
 have kS:=CW ak cZ.size
 refine A8 rfl<|A4<|A3 rfl<|Aj (Bd rfl bg Av rfl Ah)<|Cs BQ rfl rfl ((OZ bf ac7 [] [] IO _ (oDi [] []) 0 (λq=>q≠bf/\q≠bO/\q≠b/\q≠d) _ bt (Yg _ _) (Yg _ _) (λq h=>by omega) (λq h=>by have:=(bt).lt;have:=(c').lt;first | omega | (refine ⟨?_,?_⟩ <;> omega)) (λ_=>⟨rfl,rfl⟩) (Gt _ _ _ dD) dD dD rfl)) (λa2 N=>?_)
 have ht:=At.same (w1:=a2) hj (λk hk hl=>N.1.block k hl (by (simp only [A7,A6,Ax,not_or,Ab];omega)))
 have hu:=Ey.same (w1:=a2) c' (λk hk hl=>N.1.block k hl (by (simp only [A7,A6,Ax,not_or,Ab];omega)))
 have hv:=At.same (w1:=a2) hm (λk hk hl=>N.1.block k hl (by (simp only [A7,A6,Ax,not_or,Ab];omega)))
 have hy:=At.same (w1:=a2) hn (λk hk hl=>N.1.block k hl (by (simp only [A7,A6,Ax,not_or,Ab];omega)))
 have d5:=B4.keepB d0 N.1 d0.lt (by simp only [A7,A6,Ax,not_or,Ab];omega)
 have d6:=B4.keepB d1 N.1 d1.lt (by simp only [A7,A6,Ax,not_or,Ab];omega)
 have hz:=B4.keepB bg N.1 bg.lt (by simp only [A7,A6,Ax,not_or,Ab];omega)
 have d7:=O9 d2 N.1 (λa=>⟨d2.lt a,by have:=aL a;simp only [A7,A6,Ax];omega⟩)
 have d8:=O9 d3 N.1 (λa=>⟨d3.lt a,by have:=h5O a;simp only [A7,A6,Ax];omega⟩)
 have d9:=Ex d4 (B9.below N.1 d4.size (by simp <;> omega))
 obtain ⟨z5,bN,k6⟩:=N.2
 refine A0<|Ad ?_
 have hB:At a2 (λq=>q<a2.heap.size/\q≠bO/\q≠b/\q≠d) (G7 kp 1 kc) (oA [oR 3]):=(hy).mono (λq h hl=>⟨hl,h.2⟩)
 have hC:At a2 (λq=>q<a2.heap.size/\q≠bO/\q≠b) z4 (oDi [TT,FA] [oN 1,oNm Mn]):=(hv).mono (λq h hl=>⟨hl,h.2⟩)
 have hD:At a2 (λq=>q<a2.heap.size/\q≠bO/\q≠b) z2 anC:=(ht).mono (λq h hl=>⟨hl,h.2⟩)
 have hF:At a2 (λq=>q<a2.heap.size/\q≠bO/\q≠b/\q≠d) z5 anR:=(k6).mono (λq h hl=>⟨hl,h.2⟩)
 refine An<|A1 (.build rfl ZI) ?_
 refine A1 (.build rfl W3) ?_
 refine WL.box rfl rfl (λQ aE aa f7 u lx=>?_)
 have hG:=At.same (w1:=aE) hD (λk hk hl=>u.other k oO)
 have hH:=Ey.same (w1:=aE) hu (λk hk hl=>u.other k oO)
 have hI:=At.same (w1:=aE) hC (λk hk hl=>u.other k oO)
 have hJ:=At.same (w1:=aE) hB (λk hk hl=>u.other k oO)
 have hK:=At.same (w1:=aE) hF (λk hk hl=>u.other k oO)
 have hL:=Bt aa d5.lt
 have hM:=d5.un u hL
 have hN:=Bt aa d6.lt
 have hO:=d6.un u hN
 have lO:=Bt aa hz.lt
 have hP:=Bt aa bN.lt
 have hQ:=bN.un u hP
 have f8:=λa=>aa▸d7.lt a
 have da:=AA.upd d7 u (λa=>CV (f8 a))
 have f9:=λa=>aa▸d8.lt a
 have db:=AA.upd d8 u (λa=>CV (f9 a))
 have hS:=uB d9 aa u
 have kT:=CW aa d9.size
 refine A8 rfl<|A4<|A3 rfl<|Au (Rw Td _) (λaW E=>?_)
 have hT:=At.same (w1:=aW) hG (λk hk hl=>E.block k hl)
 have dc:=Ey.same (w1:=aW) hH (λk hk hl=>E.block k hl)
 have hU:=At.same (w1:=aW) hI (λk hk hl=>E.block k hl)
 have hV:=At.same (w1:=aW) hJ (λk hk hl=>E.block k hl)
 have hW:=At.same (w1:=aW) hK (λk hk hl=>E.block k hl)
 have dd:=hM.bl E
 have de:=hO.bl E
 have df:=hQ.bl E
 have dg:=f7.bl E
 have dh:=Ea da E (λa=>da.lt a)
 have di:=Ea db E (λa=>db.lt a)
 have dj:=Ci hS E
 refine Cs BQ rfl rfl ((OZ Q ac7 [] [] FA _ (oNm Td) 0 (λq=>q≠Q/\q≠bO/\q≠b/\q≠d) _ dg (Yg _ _) (E9 _ _ 4 0 Td dD dD) (λq h=>by omega) (λq h=>by have:=(dg).lt;have:=(dc).lt;first | omega | (refine ⟨?_,?_⟩ <;> omega)) (λ_=>⟨rfl,rfl⟩) (Gt _ _ _ dD) dD dD rfl)) (λaX F=>?_)
 have hX:=At.same (w1:=aX) hT (λk hk hl=>F.1.block k hl (by (simp only [A7,A6,Ax,not_or,Ab];omega)))
 have hY:=Ey.same (w1:=aX) dc (λk hk hl=>F.1.block k hl (by (simp only [A7,A6,Ax,not_or,Ab];omega)))
 have hZ:=At.same (w1:=aX) hU (λk hk hl=>F.1.block k hl (by (simp only [A7,A6,Ax,not_or,Ab];omega)))
 have h':=At.same (w1:=aX) hV (λk hk hl=>F.1.block k hl (by (simp only [A7,A6,Ax,not_or,Ab];omega)))
 have i1:=At.same (w1:=aX) hW (λk hk hl=>F.1.block k hl (by (simp only [A7,A6,Ax,not_or,Ab];omega)))
 have i2:=B4.keepB dd F.1 dd.lt (by simp only [A7,A6,Ax,not_or,Ab];omega)
 have i3:=B4.keepB de F.1 de.lt (by simp only [A7,A6,Ax,not_or,Ab];omega)
 have i4:=B4.keepB df F.1 df.lt (by simp only [A7,A6,Ax,not_or,Ab];omega)
 have dk:=O9 dh F.1 (λa=>⟨dh.lt a,by have:=aL a;simp only [A7,A6,Ax];omega⟩)
 have dl:=O9 di F.1 (λa=>⟨di.lt a,by have:=h5O a;simp only [A7,A6,Ax];omega⟩)
 have i5:=Ex dj (B9.below F.1 dj.size (by simp <;> omega))
 obtain ⟨z6,eb,k7⟩:=F.2
 refine A0<|A4<|A3 rfl<|A3 rfl<|Au (Ob 2 _) (λaJ y=>?_)
 have i6:=At.same (w1:=aJ) hX (λk hk hl=>y.block k hl)
 have dm:=Ey.same (w1:=aJ) hY (λk hk hl=>y.block k hl)
 have i7:=At.same (w1:=aJ) hZ (λk hk hl=>y.block k hl)
 have i8:=At.same (w1:=aJ) h' (λk hk hl=>y.block k hl)
 have i9:=At.same (w1:=aJ) i1 (λk hk hl=>y.block k hl)
 have ia:=At.same (w1:=aJ) k7 (λk hk hl=>y.block k hl)
 have dn:=i2.bl y
 have dp:=i3.bl y
 have dq:=i4.bl y
 have dr:=eb.bl y
 have ds:=Ea dk y (λa=>dk.lt a)
 have dt:=Ea dl y (λa=>dl.lt a)
 have du:=Ci i5 y
 refine Cs BQ rfl rfl ((OZ Q z6 [FA] [oNm Td] kPa _ (oR 2) 0 (λq=>q≠Q/\q≠bO/\q≠b/\q≠d) _ dr ((ia).mono (λq h hl=>by omega)) (E9 _ _ 8 2 [] dD dD) (λq h=>by omega) (λq h=>by have:=(dr).lt;have:=(dm).lt;first | omega | (refine ⟨?_,?_⟩ <;> omega)) (λh=>nomatch h) (Gt _ _ _ dD) dD dD rfl)) (λaY G=>?_)
 have ib:=At.same (w1:=aY) i6 (λk hk hl=>G.1.block k hl (by (simp only [A7,A6,Ax,not_or,Ab];omega)))
 have ic:=Ey.same (w1:=aY) dm (λk hk hl=>G.1.block k hl (by (simp only [A7,A6,Ax,not_or,Ab];omega)))
 have id:=At.same (w1:=aY) i7 (λk hk hl=>G.1.block k hl (by (simp only [A7,A6,Ax,not_or,Ab];omega)))
 have ie:=At.same (w1:=aY) i8 (λk hk hl=>G.1.block k hl (by (simp only [A7,A6,Ax,not_or,Ab];omega)))
 have ig:=At.same (w1:=aY) i9 (λk hk hl=>G.1.block k hl (by (simp only [A7,A6,Ax,not_or,Ab];omega)))
 have ih:=B4.keepB dn G.1 dn.lt (by simp only [A7,A6,Ax,not_or,Ab];omega)
 have ii:=B4.keepB dp G.1 dp.lt (by simp only [A7,A6,Ax,not_or,Ab];omega)
 have ij:=B4.keepB dq G.1 dq.lt (by simp only [A7,A6,Ax,not_or,Ab];omega)
 have ik:=O9 ds G.1 (λa=>⟨ds.lt a,by have:=aL a;simp only [A7,A6,Ax];omega⟩)
 have il:=O9 dt G.1 (λa=>⟨dt.lt a,by have:=h5O a;simp only [A7,A6,Ax];omega⟩)
 have im:=Ex du (B9.below G.1 du.size (by simp <;> omega))
 obtain ⟨z7,jv,k8⟩:=G.2
 refine A0<|Ad ?_
 have K1:=(jv).lt
 refine F2 20 rfl BS (λao o=>?_)
 have io:=At.same (w1:=ao) ib (λk hk hl=>(by obtain ⟨m,rfl⟩:=o;rfl))
 have ip:=Ey.same (w1:=ao) ic (λk hk hl=>(by obtain ⟨m,rfl⟩:=o;rfl))
 have iq:=At.same (w1:=ao) id (λk hk hl=>(by obtain ⟨m,rfl⟩:=o;rfl))
 have ir:=At.same (w1:=ao) ie (λk hk hl=>(by obtain ⟨m,rfl⟩:=o;rfl))
 have it:=At.same (w1:=ao) ig (λk hk hl=>(by obtain ⟨m,rfl⟩:=o;rfl))
 have iu:=At.same (w1:=ao) k8 (λk hk hl=>(by obtain ⟨m,rfl⟩:=o;rfl))
 have dv:=ih.drew o
 have dw:=ii.drew o
 have dx:=ij.drew o
 have dy:=jv.drew o
 have av:=ik.drew o
 have dz:=il.drew o
 have iv:=Cn.below im o
 refine AB 0 rfl (.mv rfl) rfl<|AB 3 rfl (.mv rfl) rfl<|AB 4 rfl (.mv rfl) rfl<|AB 5 rfl (.ixm In Rt rfl rfl (av.isp (by (simp only [Aa,Am];omega))) (0) (rfl) (by simp)) rfl<|AB 6 rfl (.fa Lj rfl BI dD rfl) rfl<|AB 10 rfl (.mv rfl) rfl<|AB 11 rfl (.mv rfl) rfl<|AB 12 rfl (.ixm In Rt rfl rfl (av.isp (by (simp only [Aa,Am];omega))) (0) (rfl) (by simp)) rfl<|AB 13 rfl (.fa Lj rfl BI dD rfl) rfl<|JA [(0,.slice p 1 c),(5,.slice p5 1 c5),(6,.slice p6 1 c6),(15,Ag 0),(16,Ag 3),(17,Ag 3),(18,.slice (some ⟨bO,0,none⟩) 4 4),(23,ptV b),(24,ptV d),(29,Ag ((0:Nat):Int)),(33,ptV bf),(34,ptV Q),(337,_),(343,_),(350,_)] [⟨1,338,[],(λv _=>v=.agg (D3 (Cx (DR 2 0 []))).toArray),false⟩,
 ⟨2,339,[],(λv _=>v=.agg (D3 (Cx (DR 2 0 []))).toArray),false⟩,
 ⟨7,344,[],(λv _=>v=Ag 65536),false⟩,
 ⟨8,345,[(7,344)],(λv _=>v=Ag 1),false⟩,
 ⟨9,346,[(8,345)],(λv _=>v=.agg (D3 (Cx (DR 2 1 []))).toArray),false⟩,
 ⟨14,351,[],(λv _=>v=Ag 65536),false⟩,
 ⟨15,352,[(14,351)],(λv _=>v=Ag 1),false⟩,
 ⟨16,353,[(15,352)],(λv _=>v=.agg (D3 (Cx (DR 2 1 []))).toArray),false⟩,
 ⟨17,354,[(1,338),(2,339),(9,346),(16,353)],(A0d ao.heap.size),false⟩,
 ⟨18,355,[(17,354)],(XC ao.heap.size),false⟩] 1 ⟨rfl,rfl,rfl,rfl,rfl,rfl,rfl,rfl,rfl,rfl,rfl,rfl,rfl,rfl,rfl,tT⟩ rfl kR ⟨⟨(λ_ _ _ h _=>h),λh=>nomatch h⟩,⟨(λ_ _ _ h _=>h),λh=>nomatch h⟩,⟨(λ_ _ _ h _=>h),λh=>nomatch h⟩,⟨(λ_ _ _ h _=>h),λh=>nomatch h⟩,⟨(λ_ _ _ h _=>h),λh=>nomatch h⟩,⟨(λ_ _ _ h _=>h),λh=>nomatch h⟩,⟨(λ_ _ _ h _=>h),λh=>nomatch h⟩,⟨(λ_ _ _ h _=>h),λh=>nomatch h⟩,⟨A0d.up,λh=>nomatch h⟩,⟨XC.up,λh=>nomatch h⟩,tT⟩ ⟨?_,?_,?_,?_,?_,?_,?_,?_,?_,?_,tT⟩ (λg aA hs j hE hA=>?_)
 intro K g w1 hs j hd k
 have f:ET [] g:=trivial
 refine ⟨_,rfl,WL.front _ f ?_⟩
 refine Au (Mb 0 _) (λw5 h5=>A0<|?_)
 exact k _ _ _ (DH.front f) rfl h5 (λh=>nomatch h)
 intro K g w1 hs j hd k
 have f:ET [] g:=trivial
 refine ⟨_,rfl,WL.front _ f ?_⟩
 refine Au (Mb 0 _) (λw5 h5=>A0<|?_)
 exact k _ _ _ (DH.front f) rfl h5 (λh=>nomatch h)
 intro K g w1 hs j hd k
 have f:ET [(343,_)] g:=⟨hs.look rfl,tT⟩
 refine ⟨_,rfl,WL.front _ f ?_⟩
 refine Aj (BG (C5 _) rfl (((av).below j (λa=>(av).lt a)).cells 0 (by simp) 0 dD))<|A0<|?_
 exact k _ _ _ (DH.front f) rfl (Fl _ _) (λh=>nomatch h)
 intro K g w1 hs j hd k
 obtain ⟨⟨k9,ka,kb⟩,-⟩:=hd
 have f:ET [(344,k9)] g:=⟨ka,tT⟩
 refine ⟨_,rfl,WL.front _ f ?_⟩
 subst kb
 refine A1 (.quo (r:=1) rfl rfl dD dD)<|A0<|?_
 exact k _ _ _ (DH.front f) rfl (Fl _ _) (λh=>nomatch h)
 intro K g w1 hs j hd k
 obtain ⟨⟨kd,ke,kf⟩,-⟩:=hd
 have f:ET [(345,kd)] g:=⟨ke,tT⟩
 refine ⟨_,rfl,WL.front _ f ?_⟩
 subst kf
 refine Au (Mb 1 _) (λw5 h5=>A0<|?_)
 exact k _ _ _ (DH.front f) rfl h5 (λh=>nomatch h)
 intro K g w1 hs j hd k
 have f:ET [(350,_)] g:=⟨hs.look rfl,tT⟩
 refine ⟨_,rfl,WL.front _ f ?_⟩
 refine Aj (BG (C5 _) rfl (((av).below j (λa=>(av).lt a)).cells 0 (by simp) 1 dD))<|A0<|?_
 exact k _ _ _ (DH.front f) rfl (Fl _ _) (λh=>nomatch h)
 intro K g w1 hs j hd k
 obtain ⟨⟨kg,kh,ki⟩,-⟩:=hd
 have f:ET [(351,kg)] g:=⟨kh,tT⟩
 refine ⟨_,rfl,WL.front _ f ?_⟩
 subst ki
 refine A1 (.quo (r:=1) rfl rfl dD dD)<|A0<|?_
 exact k _ _ _ (DH.front f) rfl (Fl _ _) (λh=>nomatch h)
 intro K g w1 hs j hd k
 obtain ⟨⟨kj,kk,kl⟩,-⟩:=hd
 have f:ET [(352,kj)] g:=⟨kk,tT⟩
 refine ⟨_,rfl,WL.front _ f ?_⟩
 subst kl
 refine Au (Mb 1 _) (λw5 h5=>A0<|?_)
 exact k _ _ _ (DH.front f) rfl h5 (λh=>nomatch h)
 intro K g w1 hs j hd k
 obtain ⟨⟨km,kn,ko⟩,⟨kq,kr,ks⟩,⟨kt,ku,kv⟩,⟨kw,kx,ky⟩,-⟩:=hd
 have f:ET [(338,km),(339,kq),(346,kt),(353,kw)] g:=⟨kn,kr,ku,kx,tT⟩
 refine ⟨_,rfl,WL.front _ f ?_⟩
 subst ko
 subst ks
 subst kv
 subst ky
 refine CR (L:=Fi) (ps:=_) (A1t) Cg Dd CA rfl rfl rfl rfl rfl (by rfl) rfl rfl (λb5 w5 ly kz kA lU=>A0<|?_)
 exact k _ _ _ (DH.front f) ⟨b5,rfl,kz.rowp,by have:=j.size;omega⟩ (BR (Fl _ _) (Nat.le_of_eq ly.symm) kA) (λh=>nomatch h)
 intro K g w1 hs j hd k
 obtain ⟨⟨kB,kC,kD⟩,-⟩:=hd
 have f:ET [(354,kB)] g:=⟨kC,tT⟩
 refine ⟨_,rfl,WL.front _ f ?_⟩
 obtain ⟨b5,rfl,bi,hb5⟩:=kD
 refine Au (VB (some ⟨b5,0,none⟩) 4 4 _) (λw5 h5=>A0<|?_)
 exact k _ _ _ (DH.front f) (XC.up _ _ _ ⟨b5,rfl,bi,hb5⟩ h5) h5 (λh=>nomatch h)
 obtain ⟨-,-,-,-,-,-,-,-,-,⟨kE,kF,kG⟩,-⟩:=hE
 refine WY.front [(355,kE),(0,.slice p 1 c),(5,.slice p5 1 c5),(6,.slice p6 1 c6),(15,Ag 0),(16,Ag 3),(17,Ag 3),(18,.slice (some ⟨bO,0,none⟩) 4 4),(23,ptV b),(24,ptV d),(29,Ag ((0:Nat):Int)),(33,ptV bf),(34,ptV Q),(337,_),(343,_),(350,_)] ⟨kF,hs.look rfl,hs.look rfl,hs.look rfl,hs.look rfl,hs.look rfl,hs.look rfl,hs.look rfl,hs.look rfl,hs.look rfl,hs.look rfl,hs.look rfl,hs.look rfl,hs.look rfl,hs.look rfl,hs.look rfl,tT⟩ ?_
 have iw:=At.same (w1:=aA) io (λk hk hl=>j.block k hl)
 have dA:=Ey.same (w1:=aA) ip (λk hk hl=>j.block k hl)
 have iy:=At.same (w1:=aA) iq (λk hk hl=>j.block k hl)
 have iz:=At.same (w1:=aA) ir (λk hk hl=>j.block k hl)
 have iA:=At.same (w1:=aA) it (λk hk hl=>j.block k hl)
 have iB:=At.same (w1:=aA) iu (λk hk hl=>j.block k hl)
 have dB:=dv.below j dv.lt
 have dC:=dw.below j dw.lt
 have dE:=dx.below j dx.lt
 have dG:=dy.below j dy.lt
 have dH:=Ea dz j (λa=>dz.lt a)
 have dI:=Ci iv j
 obtain ⟨bX,rfl,lz,m3⟩:=kG
 have lP:=Cn.size o
 have lA:At aA (λq=>q≠Q/\q≠bO/\q≠b/\q≠d) (G7 (some ⟨bX,0,none⟩) 4 4) anB:=Oa (ys:=A1t) lz (AJ.cons (E9 _ _ 2 0 [] dD dD) (AJ.cons (E9 _ _ 2 0 [] dD dD) (AJ.cons (E9 _ _ 2 1 [] dD dD) (AJ.cons (E9 _ _ 2 1 [] dD dD) (AJ.nil _ _))))) dD dD (λ_=>by show bX≠_/\bX≠_/\bX≠_/\bX≠_;omega)
 refine Ao 19 rfl<|Cs BQ rfl rfl ((OZ Q z7 [kPa,FA] [oR 2,oNm Td] TS _ anB 0 (λq=>q≠Q/\q≠bO/\q≠b/\q≠d) _ dG ((iB).mono (λq h hl=>by omega)) lA (λq h=>by omega) (λq h=>by have:=(dG).lt;have:=(dA).lt;first | omega | (refine ⟨?_,?_⟩ <;> omega)) (λh=>nomatch h) (Gt _ _ _ dD) dD dD rfl)) (λaZ P=>?_)
 have iC:=At.same (w1:=aZ) iw (λk hk hl=>P.1.block k hl (by (simp only [A7,A6,Ax,not_or,Ab];omega)))
 have dJ:=Ey.same (w1:=aZ) dA (λk hk hl=>P.1.block k hl (by (simp only [A7,A6,Ax,not_or,Ab];omega)))
 have iD:=At.same (w1:=aZ) iy (λk hk hl=>P.1.block k hl (by (simp only [A7,A6,Ax,not_or,Ab];omega)))
 have iE:=At.same (w1:=aZ) iz (λk hk hl=>P.1.block k hl (by (simp only [A7,A6,Ax,not_or,Ab];omega)))
 have iF:=At.same (w1:=aZ) iA (λk hk hl=>P.1.block k hl (by (simp only [A7,A6,Ax,not_or,Ab];omega)))
 have dK:=B4.keepB dB P.1 dB.lt (by simp only [A7,A6,Ax,not_or,Ab];omega)
 have dL:=B4.keepB dC P.1 dC.lt (by simp only [A7,A6,Ax,not_or,Ab];omega)
 have iG:=B4.keepB dE P.1 dE.lt (by simp only [A7,A6,Ax,not_or,Ab];omega)
 have dM:=O9 dH P.1 (λa=>⟨dH.lt a,by have:=h5O a;simp only [A7,A6,Ax];omega⟩)
 have dN:=Ex dI (B9.below P.1 dI.size (by simp <;> omega))
 obtain ⟨z8,jw,kH⟩:=P.2
 refine A0<|Be kR<|A4<|A3 rfl<|A3 rfl<|A1 (.nck rfl)<|A1 (.fa Hz rfl Dd dD rfl)<|Aj (Bd rfl iG Av rfl Ah)<|Cs BQ rfl rfl ((OZ Q z8 [TS,kPa,FA] [anB,oR 2,oNm Td] TR _ anR 2 (λq=>q≠Q/\q≠bO/\q≠b/\q≠d) _ jw ((kH).mono (λq h hl=>by omega)) ((iF).mono (λq h hl=>⟨oO,h.2⟩)) (λq h=>by omega) (λq h=>by have:=(jw).lt;have:=(dJ).lt;first | omega | (refine ⟨?_,?_⟩ <;> omega)) (λh=>nomatch h) (Gt _ _ _ dD) dD dD rfl)) (λbh a4=>?_)
 have iH:=At.same (w1:=bh) iC (λk hk hl=>a4.1.block k hl (by (simp only [A7,A6,Ax,not_or,Ab];omega)))
 have iI:=Ey.same (w1:=bh) dJ (λk hk hl=>a4.1.block k hl (by (simp only [A7,A6,Ax,not_or,Ab];omega)))
 have iJ:=At.same (w1:=bh) iD (λk hk hl=>a4.1.block k hl (by (simp only [A7,A6,Ax,not_or,Ab];omega)))
 have iK:=At.same (w1:=bh) iE (λk hk hl=>a4.1.block k hl (by (simp only [A7,A6,Ax,not_or,Ab];omega)))
 have iL:=B4.keepB dK a4.1 dK.lt (by simp only [A7,A6,Ax,not_or,Ab];omega)
 have iM:=B4.keepB dL a4.1 dL.lt (by simp only [A7,A6,Ax,not_or,Ab];omega)
 have dO:=O9 dM a4.1 (λa=>⟨dM.lt a,by have:=h5O a;simp only [A7,A6,Ax];omega⟩)
 have iN:=Ex dN (B9.below a4.1 dN.size (by simp <;> omega))
 obtain ⟨z9,lB,kI⟩:=a4.2
 refine A0<|A4<|A3 rfl<|A3 rfl<|A3 rfl<|A1 (.iis (0) (.mul rfl rfl (Bb oO)) (by rfl))<|A1 (.iis (3) (.add rfl rfl (Bb oO)) (by rfl))<|A1 (.iis (4) (.add rfl rfl (Bb oO)) (by rfl))<|Au (Ob 4 _) (λa' T=>?_)
 have iO:=At.same (w1:=a') iH (λk hk hl=>T.block k hl)
 have dP:=Ey.same (w1:=a') iI (λk hk hl=>T.block k hl)
 have iP:=At.same (w1:=a') iJ (λk hk hl=>T.block k hl)
 have iQ:=At.same (w1:=a') iK (λk hk hl=>T.block k hl)
 have iR:=At.same (w1:=a') kI (λk hk hl=>T.block k hl)
 have dQ:=iL.bl T
 have dR:=iM.bl T
 have dS:=lB.bl T
 have dU:=Ea dO T (λa=>dO.lt a)
 have dV:=Ci iN T
 refine Cs BQ rfl rfl ((OZ Q z9 [TS,kPa,TR,FA] [anB,oR 2,anR,oNm Td] Te _ (oR 4) 0 (λq=>q≠Q/\q≠bO/\q≠b/\q≠d) _ dS ((iR).mono (λq h hl=>by omega)) (E9 _ _ 8 4 [] dD dD) (λq h=>by omega) (λq h=>by have:=(dS).lt;have:=(dP).lt;first | omega | (refine ⟨?_,?_⟩ <;> omega)) (λh=>nomatch h) (Gt _ _ _ dD) dD dD rfl)) (λb0 a5=>?_)
 have iS:=At.same (w1:=b0) iO (λk hk hl=>a5.1.block k hl (by (simp only [A7,A6,Ax,not_or,Ab];omega)))
 have iT:=Ey.same (w1:=b0) dP (λk hk hl=>a5.1.block k hl (by (simp only [A7,A6,Ax,not_or,Ab];omega)))
 have iU:=At.same (w1:=b0) iP (λk hk hl=>a5.1.block k hl (by (simp only [A7,A6,Ax,not_or,Ab];omega)))
 have iV:=At.same (w1:=b0) iQ (λk hk hl=>a5.1.block k hl (by (simp only [A7,A6,Ax,not_or,Ab];omega)))
 have iW:=B4.keepB dQ a5.1 dQ.lt (by simp only [A7,A6,Ax,not_or,Ab];omega)
 have iX:=B4.keepB dR a5.1 dR.lt (by simp only [A7,A6,Ax,not_or,Ab];omega)
 have iY:=O9 dU a5.1 (λa=>⟨dU.lt a,by have:=h5O a;simp only [A7,A6,Ax];omega⟩)
 have iZ:=Ex dV (B9.below a5.1 dV.size (by simp <;> omega))
 obtain ⟨zP,lC,kJ⟩:=a5.2
 refine A0<|Ad ?_
 have dW:AO Fi 27 bO b0 (.slice (some ⟨bO,0,none⟩) 4 4) [z2,PL,PL,PL]:=iT
 refine An<|A3 rfl<|A3 rfl<|A3 rfl<|A1 (.iis (0) (.mul rfl rfl (Bb oO)) (by rfl))<|A1 (.iis (3) (.add rfl rfl (Bb oO)) (by rfl))<|A1 (.iis (2) (.sub rfl rfl (Bb oO)) (by rfl))<|A3 rfl<|A1 (.nck rfl)<|A1 (.fa Hz rfl Dd dD rfl)<|Aj (Bd rfl lC Av rfl Ah)<|A1 (.ixm Cg Dd rfl rfl rfl 2 rfl dD)<|Nn (L:=Fi) (zP) (2) dW (by simp) Ah rfl rfl rfl (λaK fb b6 a0 fc=>?_)
 have kU:=(dW).lt fb (by rw [b6];rfl)
 have eL:bO=fb:=BH Addr.block (Bi b6)
 have i':=At.same (w1:=aK) iS (λk hk hl=>a0.other k oM)
 have j0:=At.same (w1:=aK) iU (λk hk hl=>a0.other k oM)
 have j1:=At.same (w1:=aK) iV (λk hk hl=>a0.other k oM)
 have j2:=At.same (w1:=aK) kJ (λk hk hl=>a0.other k oM)
 have j3:=iW.up a0
 have j4:=iX.up a0
 have dX:=AA.upd iY a0 (λa=>by have:=h5O a;omega)
 have j5:=BR iZ oO a0
 have fd:Ey bO [z2,PL,zP,PL] aK:=fc
 refine A0<|?_
 have dY:AO Fi 27 bO aK (.slice (some ⟨bO,0,none⟩) 4 4) [z2,PL,zP,PL]:=fd
 refine An<|A3 rfl<|A3 rfl<|A3 rfl<|A1 (.iis (0) (.mul rfl rfl (Bb oO)) (by rfl))<|A1 (.iis (3) (.add rfl rfl (Bb oO)) (by rfl))<|A3 rfl<|A3 rfl<|A1 (.ixm underlying59 CZ rfl rfl (dX.isp oO) (0) (rfl) (by simp))<|Aj (BG (g22_ _) rfl ((dX.field (0) oO 0 dD).trans rfl))<|?_
 refine A1 (.build rfl A4m) ?_
 refine A1 (.ixm Cg Dd rfl rfl rfl 3 rfl dD)<|Nn (L:=Fi) (ac9) (3) dY (by simp) Ah rfl rfl rfl (λb1 fe b7 a7 ff=>?_)
 have kV:=(dY).lt fe (by rw [b7];rfl)
 have eL:bO=fe:=BH Addr.block (Bi b7)
 have j6:=At.same (w1:=b1) i' (λk hk hl=>a7.other k oM)
 have j7:=At.same (w1:=b1) j0 (λk hk hl=>a7.other k oM)
 have j8:=At.same (w1:=b1) j1 (λk hk hl=>a7.other k oM)
 have j9:=At.same (w1:=b1) j2 (λk hk hl=>a7.other k oM)
 have ja:=j3.up a7
 have jb:=j4.up a7
 have jc:=BR j5 oO a7
 have fg:Ey bO [z2,PL,zP,ac9] b1:=ff
 refine A0<|An<|A3 rfl<|A1 (.add rfl rfl (Bb oO))<|A8 rfl ?_
 exact ⟨1,⟨rfl,rfl,rfl,rfl,rfl,rfl,rfl,rfl,rfl,rfl,tT⟩,.inr ⟨rfl,G7 kp 1 kc,zP,ac9,jc,fg,(j6).mono (λq h hl=>h.2),(j9).mono (λq h hl=>⟨h.2.1,h.2.2.1⟩),A4a _ _,(j7).mono (λq h hl=>h.2),(j8).mono (λq h hl=>⟨h.2.1,h.2.2.1⟩),ja,jb⟩,oM⟩
 have gm:=dF bE
 obtain ⟨rfl,zk,zp,zs,M1,M2,M3,M4,M5,M6,M7,M8,M9⟩:=hR.resolve_left (λh=>by have:=h.1;simp_all)
 refine BL<|A4<|A3 rfl<|Aj (Bd rfl M9 Av rfl Ah)<|Cs BQ rfl rfl ((OZ b z4 [TT,FA] [oN 1,oNm Mn] kKi _ (oA [oR 3]) 1 (λq=>q≠b/\q≠bO) _ M8 ((M6).mono (λq h hl=>by omega)) ((M7).mono (λq h hl=>⟨h.2,h.1⟩)) (λq h=>by omega) (λq h=>by have:=(M8).lt;have:=(M2).lt;first | omega | (refine ⟨?_,?_⟩ <;> omega)) (λh=>nomatch h) (Gt _ _ _ dD) dD dD rfl)) (λb2 aw=>?_)
 have jd:=At.same (w1:=b2) M3 (λk hk hl=>aw.1.block k hl (by (simp only [A7,A6,Ax,not_or,Ab];omega)))
 have je:=Ey.same (w1:=b2) M2 (λk hk hl=>aw.1.block k hl (by (simp only [A7,A6,Ax,not_or,Ab];omega)))
 have jf:=At.same (w1:=b2) M4 (λk hk hl=>aw.1.block k hl (by (simp only [A7,A6,Ax,not_or,Ab];omega)))
 have jg:=At.same (w1:=b2) M5 (λk hk hl=>aw.1.block k hl (by (simp only [A7,A6,Ax,not_or,Ab];omega)))
 have jh:=Ex M1 (B9.below aw.1 M1.size (by simp <;> omega))
 obtain ⟨zN,lD,kK⟩:=aw.2
 refine A0<|Ad ?_
 have dZ:AO Fi 27 bO b2 (.slice (some ⟨bO,0,none⟩) 4 4) [z2,PL,zp,zs]:=je
 refine An<|A3 rfl<|A3 rfl<|A1 (.nck rfl)<|A1 (.fa Hz rfl Dd dD rfl)<|Aj (Bd rfl lD Av rfl Ah)<|A1 (.ixm Cg Dd rfl rfl rfl 1 rfl dD)<|Nn (L:=Fi) (zN) (1) dZ (by simp) Ah rfl rfl rfl (λb3 fh b8 ap fi=>?_)
 have kW:=(dZ).lt fh (by rw [b8];rfl)
 have eL:bO=fh:=BH Addr.block (Bi b8)
 have ji:=At.same (w1:=b3) jd (λk hk hl=>ap.other k oM)
 have jj:=At.same (w1:=b3) kK (λk hk hl=>ap.other k oM)
 have jk:=At.same (w1:=b3) jf (λk hk hl=>ap.other k oM)
 have jl:=At.same (w1:=b3) jg (λk hk hl=>ap.other k oM)
 have jm:=BR jh oO ap
 have fj:Ey bO [z2,zN,zp,zs] b3:=fi
 refine A0<|A4<|A3 rfl<|CL rfl<|A8 rfl<|AU (Du rfl rfl rfl ?_)
 exact ⟨(some ⟨bO,0,none⟩,[z2,zN,zp,zs],4),rfl,jm,AO.rowp fj,DS _,AJ.cons ((ji).mono (λq _ h=>h)) (AJ.cons ((jj).mono (λq _ h=>h)) (AJ.cons ((jk).mono (λq _ h=>h)) (AJ.cons ((jl).mono (λq _ h=>h)) (AJ.nil _ _))))⟩
end
section
structure A09 (os:List AV) (ca nd pg st:AV):Prop where
 len:os.length=4
 caV:F3 os (.mk 8 1 [] [] [] []) 7=.ok ca
 caT:Gj os ca FA [67,97,116,97,108,111,103]=.ok true
 caP:De ca [80,97,103,101,115]=some (.mk 8 2 [] [] [] [])
 ndV:F3 os (.mk 8 2 [] [] [] []) 7=.ok nd
 ndF:Gj os nd FA [80,97,103,101]=.ok false
 ndT:Gj os nd FA [80,97,103,101,115]=.ok true
 ndK:IP os nd [75,105,100,115] 6=.ok (.mk 6 0 [] [] [.mk 8 3 [] [] [] []] [])
 ndC:IP os nd [67,111,117,110,116] 2=.ok (.mk 2 1 [] [] [] [])
 ndD:Fg nd ⟨none,none⟩=⟨none,none⟩
 pgV:F3 os (.mk 8 3 [] [] [] []) 7=.ok pg
 pgT:Gj os pg FA [80,97,103,101]=.ok true
 pgC:De pg Te=some (.mk 8 4 [] [] [] [])
 stV:FL os 32 (.mk 8 4 [] [] [] [])=some st
 st6:st.kind≠6
 one:∀ l,IB st=.ok l->A0a l
def YT:l8_->List Nr->Except Int Unit:=λ_ _=>.ok ()
def A4v (w:World) (res:Except Int ((Int × Int) × Unit)) (e:Ending) (w':World):Prop:=∃ t:(Option Addr × List PgV × Nat) × Int,e=.returned (.tuple #[.slice t.1.1 t.1.2.1.length t.1.2.2,Ag t.2])/\AL w w'/\AA WW w' t.1.1 t.1.2.1/\(match res with
 | .error k=>t.2=k
 | .ok a=>t.2=0/\∃ x,t.1.2.1=[x]/\x.n=0)
theorem Pg (bf:Nat) (S:Nat->Prop) (os:List AV) (H:Vl os) (ca nd pg st:AV) (L:A09 os ca nd pg st) (w:World) (hf:AK S w bf (Cw os) (Dl os)) (hN:XA w) :
    Calls Tryz.prog 15 #[ptV bf] w (A4v w (FY os st (Fg pg ⟨none,none⟩) YT)):=by
  have j:(os.length:Int)=4:=by rw [L.len];rfl
  have d:∀ wk,Nq wk bf os 2 ⟨none,none⟩ 0 [] A08 (FY os st (Fg pg ⟨none,none⟩) YT):=λwk =>
    Vr wk bf os H nd 2 ⟨none,none⟩ 0 [] YT A08 _ dD (by simp) ⟨dD,oO⟩ (by simp) L.ndV (by simp) (by simp)
      (.inr ⟨L.ndF,L.ndT,dD,3,L.ndK,L.ndC,Vr wk bf os H pg 3 _ 1 [2] YT A08 _ dD (by simp) ⟨dD,oO⟩ (by simp) L.pgV (by rw [L.ndD];simp) (by rw [L.ndD];simp)
        (.inl ⟨L.pgT,_,st,L.pgC,L.stV,L.st6,λB l fs _ hl=>A3e B l (L.one l hl) fs,by rw [L.ndD]⟩)⟩)
  refine (XU bf S os H ca nd 2 A08 (FY os st (Fg pg ⟨none,none⟩) YT) (by rw [L.len];decide) L.caV L.caT L.caP ⟨dD,oO⟩ L.ndV L.ndT d w hf hN).mono λe w' q=>?_
  obtain ⟨f,b⟩:=q
  cases hres:FY os st (Fg pg ⟨none,none⟩) YT with
  | error k=>rw [hres] at b;exact ⟨((none,[],0),k),b,f,AA.nil _,rfl⟩
  | ok a =>
    rw [hres] at b
    obtain ⟨p,c,x,g,h,-,-,Lq,M,i⟩:=b
    exact ⟨((p,[x],c),0),g,f,h,rfl,x,rfl,i.here⟩
theorem A0E (bx:List AV) (t:l8_) (fl:Bool):A09 (QC bx t fl) caO ndO (UH bx t) (Y6 fl) where
 len:=rfl
 caV:=rfl
 caT:=rfl
 caP:=rfl
 ndV:=rfl
 ndF:=rfl
 ndT:=rfl
 ndK:=rfl
 ndC:=rfl
 ndD:=rfl
 pgV:=rfl
 pgT:=rfl
 pgC:=rfl
 stV:=by cases fl <;> rfl
 st6:=by cases fl <;> decide
 one:=λl h=>by cases fl <;> cases h;exact .inr rfl
theorem OK  (n:Int) (h:Db n=true):FJ D st (oN n):=.num _ _ 2 n (.inl rfl) h
theorem KW  (s:l8_) (h:JM s):FJ D st (oNm s):=.name _ _ s h
theorem OJ  (n:Int) (h:1<=n/\n<=4096):FJ D st (oR n):=.ref _ _ n h
theorem Vu  (l:List AV) (hD:1<=D) (hl:l.length<=100) (h:∀ o∈l,FJ (D-1) false o):FJ D st (oA l):=.arr _ _ l hD oO h
theorem JR  (ks:List (l8_)) (l:List AV) (hD:1<=D) (hl:l.length<=100) (hk:ks.length=l.length) (hn:ks.all (λs=>!decide (0∈s) && decide (1<=s.length) && decide (s.length<=127))=true) (hd:ks.Nodup) (h:∀ o∈l,FJ (D-1) false o):FJ D st (oDi ks l) :=
 .dict _ _ 7 ks l [] (.inl ⟨rfl,rfl⟩) hD oO hk (λx hx=>by
  have:=AP.1 hn x hx
  simp only [AG,BE,AI,Bg] at this
  exact ⟨λe=>by subst e;simp at this,this.1.1,this.2⟩) hd h
theorem C0 {P:AV->Prop}:∀ o∈([]:List AV),P o:=λ_ h=>by cases h
theorem all_cons {P:AV->Prop} {a:AV} {l:List AV} (h:P a) (hl:∀ o∈l,P o):∀ o∈a::l,P o:=λo ho=>by
 rcases A7.1 ho with rfl | ho
 · exact h
 · exact hl o ho
theorem IM (s:l8_) (h:(!decide (0∈s) && decide (1<=s.length) && decide (s.length<=127))=true):JM s:=by
 simp only [AG,BE,AI,Bg] at h
 exact ⟨λe=>by subst e;simp at h,h.1.1,h.2⟩
theorem A1g  (hD:1<=D) (t:l8_) (ht:JM t):FJ D false (MH t) :=
 JR _ _ hD bL rfl dD dD (all_cons (KW _ (IM _ dD)) (all_cons (KW _ (IM _ dD)) (all_cons (KW _ ht) C0)))
def O6 (bx:List AV):Prop:=bx.length<=4/\∀ o∈bx,∃ n,o=oN n/\-32768<=n/\n<=32767
theorem A2H {n:Int} (h:-32768<=n/\n<=32767):Db n=true:=by simp [Db];omega
theorem O6.snd {bx:List AV} (h:O6 bx) (hD:1<=D):FJ D false (oA bx):=Vu bx hD (CT h.1 dD) λo ho=>by
 obtain ⟨n,rfl,hn⟩:=h.2 o ho
 exact OK n (A2H hn)
theorem MV {bx:List AV} {t:l8_} (fl:Bool) (hb:O6 bx) (ht:JM t):∀ o∈QC bx t fl,FJ 32 true o:=by
 refine all_cons ?_ (all_cons ?_ (all_cons ?_ (all_cons ?_ C0)))
 · exact JR _ _ dD bL rfl dD dD (all_cons (KW _ (IM _ dD)) (all_cons (OJ _ dD) C0))
 · exact JR _ _ dD bL rfl dD dD (all_cons (KW _ (IM _ dD)) (all_cons (Vu _ dD dD (all_cons (OJ _ dD) C0)) (all_cons (OK _ dD) C0)))
 · exact JR _ _ dD bL rfl dD dD (all_cons (KW _ (IM _ dD)) (all_cons (hb.snd dD) (all_cons (JR _ _ dD bL rfl dD dD (all_cons (JR _ _ dD bL rfl dD dD (all_cons (A1g dD t ht) C0)) C0)) (all_cons (OJ _ dD) C0))))
 ·
  cases fl
  · exact .dict _ _ 9 [] [] [110] (.inr ⟨rfl,rfl,dD,dD⟩) dD dD rfl (by simp) dD C0
  · exact .dict _ _ 9 [VO] [oNm Si] [110] (.inr ⟨rfl,rfl,dD,dD⟩) dD dD rfl (by intro x hx;rw [Bl.1 hx];exact IM _ dD) dD (all_cons (KW _ (IM _ dD)) C0)
theorem JU {n:Nat} {k m:Int} {t:l8_} (h:k=8->1<=m/\m<=(n:Int)):Sj n (.mk k m t [] [] []):=.mk _ h C0
theorem Fp {n:Nat} {k:Int} {l:List AV} (hk:k≠8) (h:∀ o∈l,Sj n o):Sj n (.mk k 0 [] ks l d):=.mk _ (λe=>Dp e hk) h
theorem O6.rng {bx:List AV} (h:O6 bx) {n:Nat}:Sj n (oA bx):=Fp dD λo ho=>by
 obtain ⟨m,rfl,-⟩:=h.2 o ho
 exact JU (λe=>by cases e)
theorem A2i {bx:List AV} {t:l8_} (fl:Bool) (hb:O6 bx):∀ o∈QC bx t fl,Sj 4 o:=by
 have lf:∀ (k m:Int) (s:l8_),k≠8->Sj 4 (.mk k m s [] [] []):=λk m s h=>JU (λe=>Dp e h)
 have rfr:∀ m:Int,1<=m/\m<=4->Sj 4 (oR m):=λm h=>JU (λ_=>h)
 refine all_cons ?_ (all_cons ?_ (all_cons ?_ (all_cons ?_ C0)))
 · exact Fp dD (all_cons (lf _ _ _ dD) (all_cons (rfr _ dD) C0))
 · exact Fp dD (all_cons (lf _ _ _ dD) (all_cons (Fp dD (all_cons (rfr _ dD) C0)) (all_cons (lf _ _ _ dD) C0)))
 · exact Fp dD (all_cons (lf _ _ _ dD) (all_cons hb.rng (all_cons (Fp dD (all_cons (Fp dD (all_cons (Fp dD (all_cons (lf _ _ _ dD) (all_cons (lf _ _ _ dD) (all_cons (lf _ _ _ dD) C0)))) C0)) C0)) (all_cons (rfr _ dD) C0))))
 ·
  cases fl
  · exact Fp dD C0
  · exact Fp dD (all_cons (lf _ _ _ dD) C0)
theorem A1J {bx:List AV} {t:l8_} (fl:Bool) (hb:O6 bx):∀ o∈QC bx t fl,PM o:=by
 have b:KnL bx:=by
  have:∀ l:List AV,(∀ o∈l,∃ n,o=oN n/\-32768<=n/\n<=32767)->KnL l:=by
   intro l
   induction l with
   | nil=>exact λ_=>trivial
   | cons a r ih =>
    intro h
    obtain ⟨n,rfl,-⟩:=h a (by simp)
    exact ⟨⟨by simp,tT⟩,ih λo ho=>h o (by simp [ho])⟩
  exact this bx hb.2
 refine all_cons ?_ (all_cons ?_ (all_cons ?_ (all_cons ?_ C0)))
 · simp [caO,oDi,oNm,oR,PM,KnL]
 · simp [ndO,oDi,oNm,oR,oA,oN,PM,KnL]
 · simp [UH,MH,oDi,oNm,oR,oA,PM,KnL,b]
 · cases fl <;> simp [Y6,oS,oNm,PM,KnL]
theorem A3v {bx:List AV} (hb:O6 bx):TE bx<=28:=by
 have:∀ l:List AV,(∀ o∈l,∃ n,o=oN n/\-32768<=n/\n<=32767)->TE l=7 * l.length:=by
  intro l
  induction l with
  | nil=>exact λ_=>rfl
  | cons a r ih =>
   intro h
   obtain ⟨n,rfl,-⟩:=h a (by simp)
   rw [TE,ih λo ho=>h o (by simp [ho])]
   simp [oN,TD,Xv,TE]
   omega
 rw [this bx hb.2]
 have:=hb.1
 omega
theorem Yd {bx:List AV} {t:l8_} (fl:Bool) (hb:O6 bx) (ht:JM t):∀ o∈QC bx t fl,(Da o).length<=20000:=by
 have hs:=MV (t:=t) fl hb ht
 have hx:=A3v hb
 have a:=ht.2.2
 have hk:∀ o∈QC bx t fl,TD o<=500:=by
  refine all_cons ?_ (all_cons ?_ (all_cons ?_ (all_cons ?_ C0)))
  · decide
  · decide
  · simp [UH,MH,oDi,oNm,oR,oA,TD,Xv,TE,FA,TS,TR,Te,Td,IO,X9,XH,UY];omega
  · cases fl <;> decide
 intro o ho
 have:=Ys (hs o ho)
 have:=hk o ho
 omega
theorem Vz {bx:List AV} {t:l8_} (fl:Bool) (hb:O6 bx) (ht:JM t):(Cw (QC bx t fl)).length<=1048576/\Xz (QC bx t fl):=by
 have b:=R9 (QC bx t fl) 20000 (Yd fl hb ht) (by show 4<=4096;decide) dD
 have hl:(QC bx t fl).length=4:=rfl
 have a:(Cw (QC bx t fl)).length<=1048576:=by rw [hl] at b;omega
 refine ⟨a,MV fl hb ht,?_,by rw [hl];decide,a⟩
 refine all_cons dD (all_cons dD (all_cons bL (all_cons (by cases fl <;> decide) C0)))
theorem A2j {bx:List AV} {t:l8_} (fl:Bool) (hb:O6 bx) (ht:JM t):Vl (QC bx t fl):=⟨(Vz fl hb ht).2,λo ho=>⟨MV fl hb ht o ho,A2i fl hb o ho⟩⟩
end
end Go.Proofs.YtiddobdioipidaaGreatDoor
