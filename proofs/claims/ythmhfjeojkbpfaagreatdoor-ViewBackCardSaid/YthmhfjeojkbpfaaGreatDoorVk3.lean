/-
  What the claim leans on, part 3: pruned and joined by my own tool out of the texts that stand in wip/ as templates.
-/
import Derived.Test.YthmhfjeojkbpfaaGreatDoorVk2
set_option maxHeartbeats 6400000
set_option maxRecDepth 100000
namespace Go.Proofs.YthmhfjeojkbpfaaGreatDoor
open Go.RowKit
open Go.Proofs.Tryz
variable {aft:Array Edge} {ops:Array Oper} {ats:Array TypeId} {refs:Bool} {R:Ending->World->Prop} {f:Fr} {fill last:Int} {sum:Int->List UInt8->Int} {ns:List Int} {A s:List UInt8} {vs xs:List Value} {B N bp bv by' c d g i id m t t1:Nat} {F1 T Z:Nat->Prop} {x y:Operand} {p q:Option Addr} {P:Program} {pos:String} {α β:Type} {E e ta tb tx:TypeId} {v v' v1 vp z:Value} {w w1 w2:World} {S':World->Prop}
section
theorem Ul (a b:Int) (w:World):Calls Tryz.prog 103 #[.int .i64 a,.int .i64 b] w λe w'=>e=.returned (Ky (Fz a b))/\Below w.heap.size w w':=by
 refine W.e func103 rfl ntmps103 bL ?_
 have c:=EM (w.heap.size) w
 refine A4<|Dp rfl<|A9 rfl<|Ah<|A4<|A2 rfl<|A2 rfl<|Ct (ps:=_) Dh B5 PG rfl rfl rfl rfl rfl pR rfl (λD C d i j B=>?_)
 have f:=uB c d j
 have y:=Cq d c.size
 have o:=AS.lit (V:=DW) (l:=[a,b]) i (rfl)
 refine WL.c1 AN rfl rfl ((Uk _ [a,b] 2 _ o (by simp))) (λE q=>?_)
 obtain rfl:=q
 refine A0 (.not rfl)<|WL.e<|Ac rfl (λm=>?_) (λm=>?_)
 have s:=(nT m)
 refine A4<|Dp rfl<|A9 rfl<|Ai (Ex rfl rfl rfl ?_)
 exact ⟨HZ (by unfold Fz;rw [A1 (by simp_all)]),f⟩
 have s:=(nF m)
 have g:Ao a=true/\Ao b=true:=by simp_all
 have t:=A08 g.1 g.2
 have F:=A4c t
 refine W.k<|A4<|A2 rfl<|A2 rfl<|A0 (.mul rfl rfl (Bp oO))<|WL.c1 AN rfl rfl ((A2E _ _ _ t dD)) (λG u=>?_)
 have v:=DJ f u
 refine WL.c1 AN rfl rfl ((Nn _ _)) (λH x=>?_)
 obtain rfl:=x
 refine A0 (.ext rfl rfl)<|A0 (.ext rfl rfl)<|Dp rfl<|A9 rfl<|Ai (Ex rfl rfl rfl ?_)
 exact ⟨D1 (by unfold Fz;rw [A6 (by simp_all)];rfl),v⟩
theorem A4M (p:Option Addr) (l:List Int) (c:Nat) (w:World) (hr:AS DW w p l) (hl:l.length<=9223372036854775807) :
  Calls Tryz.prog 205 #[.slice p l.length c] w λe w'=>e=.returned (Ky (Kn 0 l))/\Below w.heap.size w w':=by
 have D:=hr.lt
 refine W.e func205 rfl ntmps205 bL ?_
 have q:=EM (w.heap.size) w
 refine A4<|Dp rfl<|A9 rfl<|A4<|A9 rfl<|Ah<|A4<|A2 rfl<|A0 (.lenS Dh rfl)<|A2 rfl<|WL.e<|W.b<|Cj (α:=Nat × Int) (λt=>[(4,.int .i64 t.2),(8,.slice p l.length c),(9,.int .i64 (l.length:Int)),(10,.int .i64 (t.1:Int))]) (λt w'=>Below w.heap.size w w'/\AS DW w' p l/\t.1<=l.length/\Kn t.2 (l.drop t.1)=Kn 0 l) (λt=>l.length-t.1) ((0,0)) ⟨rfl,rfl,rfl,rfl,tT⟩ (⟨q,hr,Gg _,rfl⟩) (λt G hR=>?_)
 obtain ⟨⟨i,s⟩,u⟩:∃ i,i=t:=⟨t,rfl⟩
 subst u
 obtain ⟨v,a,E,d⟩:=hR
 simp only at E d
 refine A4<|A0 (.lss rfl rfl)<|WL.e<|Ah<|Ac rfl (λm=>?_) (λm=>?_)
 have x:=dT m
 have y:i<l.length:=by omega
 have f:Kn s (l.drop i)=if (Lf s l[i]).2=0 then Kn (Lf s l[i]).1 (l.drop (i+1)) else (0,(Lf s l[i]).2):=by rw [Ap y,Kn]
 refine W.k<|Ah<|W.b<|A4<|A0 (.ixb Dh B5 rfl rfl (a.isp oD) (i) (rfl) oO)<|Ag (AO (Bw _) rfl (a.cells (i) oO))<|A9 rfl<|A4<|A9 rfl<|A4<|A2 rfl<|A2 rfl<|WL.c1 AN rfl rfl ((YM _ _ _)) (λH g=>?_)
 have B:=AS.below a g (λF=>a.lt F)
 have j:=DJ v g
 refine A2 rfl<|A0 (.ext rfl rfl)<|A0 (.ext rfl rfl)<|Dp rfl<|A9 rfl<|A4<|A2 rfl<|A0 (.neq rfl rfl)<|WL.e<|Ac rfl (λo=>?_) (λo=>?_)
 have C:=JY o
 refine A4<|A2 rfl<|Dp rfl<|A9 rfl<|Ai (Ex rfl rfl rfl ?_)
 exact ⟨HZ (by rw [<- d,f,A1 aS]),j⟩
 have C:=JZ o
 refine W.k<|Ak<|A0 (.iis (((i+1:Nat):Int)) (.add rfl rfl (Bp oO)) oO)<|A2 rfl<|WL.e<|?_
 exact ⟨(i+1,(Lf s l[i]).1),⟨rfl,rfl,rfl,rfl,tT⟩,⟨j,B,by ((try simp only) <;> omega),by rw [<- d,f,A6 aS]⟩,by ((try simp only) <;> omega)⟩
 have x:=dF m
 refine C0<|A4<|A2 rfl<|Dp rfl<|A9 rfl<|Ai (Ex rfl rfl rfl ?_)
 exact ⟨HZ (by rw [<- d,B9 oO];rfl),v⟩
def stC (e:Int):Array Value:=#[.int .i64 e]
theorem O0 (bs_:Nat) (s n e:Int) (w:World) (h:AF w bs_ (stC s) 216) :
  Calls Tryz.prog 174 #[.pointer (some ⟨bs_,0,none⟩),.int .i64 n,.int .i64 e] w λr w'=>r=.returned (.int .i64 n)/\AB w.heap.size [bs_] w w'/\AF w' bs_ (stC (EH s e)) 216:=by
 refine W.e func174 rfl ntmps174 bL ?_
 have c:=AB.refl w.heap.size ([bs_]) w
 refine A4<|A9 rfl<|Ah<|A4<|A2 rfl<|A0 (.nck rfl)<|A0 (.fa SF rfl Gq dD rfl)<|Ag (Ad (Gs _) rfl h rfl)<|A0 (.eql rfl rfl)<|WL.e<|Ac rfl (λf=>?_) (λf=>?_)
 have g:=dT f
 refine Ak<|A2 rfl<|A2 rfl<|A0 (.nck rfl)<|A0 (.fa SF rfl Gq dD rfl)<|C2 (o:=0) (stC e) Gq rfl (rfl) rfl (rfl) h bL (rfl) (λi a b j=>?_)
 have a:AF i bs_ _ _:=a
 have b:BF bs_ _ _:=b
 have d:=kU c b
 refine WL.e<|A4<|A2 rfl<|A9 rfl<|Ai (AZ rfl rfl ?_)
 first
 | exact ⟨rfl,d,by unfold EH;rw [A6 aS];exact a⟩
 | exact ⟨rfl,d,by unfold EH;rw [A1 aS];exact a⟩
 have g:=dF f
 refine W.k<|A4<|A2 rfl<|A9 rfl<|Ai (AZ rfl rfl ?_)
 first
 | exact ⟨rfl,c,by unfold EH;rw [A6 aS];exact h⟩
 | exact ⟨rfl,c,by unfold EH;rw [A1 aS];exact h⟩
theorem Q5 (bs_:Nat) (s a b:Int) (w:World) (h:AF w bs_ (stC s) 216) :
  Calls Tryz.prog 195 #[.pointer (some ⟨bs_,0,none⟩),.int .i64 a,.int .i64 b] w λr w'=>r=.returned (.int .i64 (Fz a b).1)/\AB w.heap.size [bs_] w w'/\AF w' bs_ (stC (EH s (Fz a b).2)) 216:=by
 refine W.e func195 rfl ntmps195 bL ?_
 have g:=AB.refl w.heap.size ([bs_]) w
 refine A4<|A9 rfl<|A4<|A2 rfl<|A2 rfl<|A2 rfl<|WL.c1 AN rfl rfl ((Ul _ _ _)) (λl c=>?_)
 have i:=h.bl c
 have d:=kB g c
 refine A0 (.ext rfl rfl)<|A0 (.ext rfl rfl)<|WL.c1 AN rfl rfl ((O0 bs_ s _ _ _ i)) (λm f=>?_)
 have j:=DA d (AB.wide f.1 d.size (by simp <;> omega))
 have k:=f.2
 refine A9 rfl<|Ai (AZ rfl rfl ?_)
 exact ⟨rfl,j,k⟩
theorem YA (bs_:Nat) (s a b:Int) (w:World) (h:AF w bs_ (stC s) 216) :
  Calls Tryz.prog 173 #[.pointer (some ⟨bs_,0,none⟩),.int .i64 a,.int .i64 b] w λr w'=>r=.returned (.int .i64 (IH a b).1)/\AB w.heap.size [bs_] w w'/\AF w' bs_ (stC (EH s (IH a b).2)) 216:=by
 refine W.e func173 rfl ntmps173 bL ?_
 have g:=AB.refl w.heap.size ([bs_]) w
 refine A4<|A9 rfl<|A4<|A2 rfl<|A2 rfl<|A2 rfl<|WL.c1 AN rfl rfl ((A4N _ _ _)) (λl c=>?_)
 have i:=h.bl c
 have d:=kB g c
 refine A0 (.ext rfl rfl)<|A0 (.ext rfl rfl)<|WL.c1 AN rfl rfl ((O0 bs_ s _ _ _ i)) (λm f=>?_)
 have j:=DA d (AB.wide f.1 d.size (by simp <;> omega))
 have k:=f.2
 refine A9 rfl<|Ai (AZ rfl rfl ?_)
 exact ⟨rfl,j,k⟩
theorem A4m (bs_:Nat) (s:Int) (p:Option Addr) (l:List Int) (c:Nat) (w:World) (h:AF w bs_ (stC s) 216) (hr:AS DW w p l) (hl:l.length<=9223372036854775807) :
  Calls Tryz.prog 196 #[.pointer (some ⟨bs_,0,none⟩),.slice p l.length c] w λr w'=>r=.returned (.int .i64 (Kn 0 l).1)/\AB w.heap.size [bs_] w w'/\AF w' bs_ (stC (EH s (Kn 0 l).2)) 216:=by
 refine W.e func196 rfl ntmps196 bL ?_
 have f:=AB.refl w.heap.size ([bs_]) w
 refine A4<|A9 rfl<|A4<|A2 rfl<|A2 rfl<|WL.c1 AN rfl rfl ((A4M p l c _ hr hl)) (λk a=>?_)
 have g:=h.bl a
 have b:=kB f a
 refine A0 (.ext rfl rfl)<|A0 (.ext rfl rfl)<|WL.c1 AN rfl rfl ((O0 bs_ s _ _ _ g)) (λm d=>?_)
 have i:=DA b (AB.wide d.1 b.size (by simp <;> omega))
 have j:=d.2
 refine A9 rfl<|Ai (AZ rfl rfl ?_)
 exact ⟨rfl,i,j⟩
def RV:Fe Int:=⟨1,λn=>[.int .i64 n],by decide,λ_=>rfl,λx u hu=>by simp only [Am] at hu;subst hu;rfl⟩
theorem A2p (l:List Int):RV.flat l=l.map DW:=by
 unfold Fe.flat
 induction l with
 | nil=>rfl
 | cons a r ih=>rw [CR,ih];rfl
theorem AD.ofI  {l:List Int} (h:Cc e B w v (l.map DW)):AD RV e B w v l:=by
 have hl:(l.map DW).length=l.length:=BD _
 refine AD.of ?_
 rw [A2p,<- hl];exact h
theorem Be.ofI  {l:List Int} (h:Be RV w p l):AS DW w p l:=⟨h.isp,λj hj=>by
 have:=h.cells j hj 0 dD
 rw [show j * RV.m+0=j by show j * 1+0=j;omega] at this
 exact this⟩
theorem VL:(Tryz.prog.info? 3).map (λi=>(i.zero,i.size,i.bytes))=some (some (.int .i64 0),1,8):=by kernel_rfl
theorem Q4 (bs_:Nat) (s a x c y:Int) (p:Option Addr) (l:List Int) (cl:Nat) (w:World) (h:AF w bs_ (stC s) 216) (hr:Be RV w p l) (hl:l.length<=1000) (hcl:l=[]->cl=0\/p≠none) (hpb:0<l.length->(pA p).block≠bs_) :
  Calls Tryz.prog 168 #[.pointer (some ⟨bs_,0,none⟩),.int .i64 a,.int .i64 x,.int .i64 c,.int .i64 y,.slice p l.length cl] w λr w'=>r=.returned (.int .i64 (Kd s a x c y l).1)/\AB w.heap.size [bs_] w w'/\AF w' bs_ (stC (Kd s a x c y l).2) 216:=by
 refine W.e func168 rfl ntmps168 bL ?_
 have H:=AB.refl w.heap.size ([bs_]) w
 refine A4<|A9 rfl<|A4<|A2 rfl<|A2 rfl<|A2 rfl<|WL.c1 AN rfl rfl ((Q5 bs_ s a x _ h)) (λw1 k=>?_)
 have o:=rk_ hr k.1 (λb=>⟨hr.lt b,by first | simpa using (hpb) b | (have q:=(hpb) b;have q1:=hr.lt b;simp only [Ar,AA,C8,not_or,AY];omega)⟩)
 have J:=DA H (AB.wide k.1 H.size (by simp <;> omega))
 have U:=k.2
 refine A2 rfl<|A2 rfl<|A2 rfl<|WL.c1 AN rfl rfl ((Q5 bs_ _ c y _ U)) (λw4 t=>?_)
 have K:=rk_ o t.1 (λb=>⟨o.lt b,by first | simpa using (hpb) b | (have q:=(hpb) b;have q1:=o.lt b;simp only [Ar,AA,C8,not_or,AY];omega)⟩)
 have L:=DA J (AB.wide t.1 J.size (by simp <;> omega))
 have N:=t.2
 refine Ct (ps:=_) Dh B5 PG rfl rfl rfl rfl rfl pR rfl (λb7 V u O d a3=>?_)
 have X:=Bg u N.lt
 have Y:=N.un d X
 have B:=λb=>u▸K.lt b
 have P:=Be.upd K d (λb=>Js (B b))
 have C:=Cq u L.size
 have v:=DA L (Hf d C)
 have Q:=Cc.lit (m:=2) O rfl (by unfold maxLen;omega)
 have i:b7<=V.heap.size:=by omega
 have D:=AD.ofI (l:=[(Fz a x).1,(Fz c y).1]) Q
 refine A9 rfl<|A4<|A2 rfl<|A2 rfl<|A2 rfl<|CW Dh VL rfl rfl rfl D rfl P oE (i) rfl (hcl) (λa4 a5 E j F a1=>?_)
 have R:=Y.below j oO
 have A:=DA v (C1 F (λg hg=>.inr (by cases hg;omega)) v.size)
 have G:=AW i j.size
 obtain ⟨p6,c6,e6,h6,-⟩:=(E).row
 subst e6
 refine WL.c1 AN rfl rfl ((A4m bs_ _ _ _ _ _ R h6.ofI (by rw [A5];simp only [A8,Ae];omega))) (λa6 f=>?_)
 have a2:=AW G f.1.size
 have T:=DA A (AB.wide f.1 A.size (by simp <;> omega))
 have a0:=f.2
 refine A9 rfl<|Ai (AZ rfl rfl ?_)
 exact ⟨rfl,T,a0⟩
end
section
open Go.RowKit Go.WideShapes Go.ChangeShapes
def WH (P:Program) (n:Sh) (ops:Array Oper) (Q:Exit->Fr->World->Prop) (S:World->Prop) (fuel:Nat) (listed:Array Bool) (f:Fr) (w:World):Prop:=∀ a,Lh n f a->wpAnyH P .any ops (GV n Q) S fuel listed a w
def dropS (d:Nat):Fr->Fr
 | []=>[]
 | (i,v)::f=>bif Nat.beq i d then dropS d f else (i,v)::dropS d f
theorem Rc {d i:Nat}:∀ (f:Fr),look (dropS d f) i=if i=d then none else look f i
 | []=>by simp [dropS,look]
 | (j, v) :: f => by
  have ih:=Rc (d:=d) (i:=i) f
  unfold dropS
  cases h:Nat.beq j d with
  | true =>
   obtain rfl:j=d:=CY h
   rw [cond_true,ih]
   by_cases hi:i=j
   · rw [A6 hi,A6 hi]
   ·
    have hb:Nat.beq j i=false:=by
     cases hq:Nat.beq j i with
     | true=>exact CM (CY hq).symm hi
     | false=>rfl
    rw [A1 hi,A1 hi]
    show look f i=(bif Nat.beq j i then some v else look f i)
    rw [hb,cond_false]
  | false =>
   rw [cond_false]
   show (bif Nat.beq j i then some v else look (dropS d f) i)=if i=d then none else (bif Nat.beq j i then some v else look f i)
   cases hb:Nat.beq j i with
   | true =>
    obtain rfl:j=i:=CY hb
    have a:j≠d:=λq=>by rw [q,Nat.beq_refl] at h;cases h
    rw [cond_true,cond_true,A1 a]
   | false=>rw [cond_false,cond_false,ih]
theorem Lh.dropS {n:Sh} {g:Fr} {a:Act} (h:Lh n g (a.put (some d) v)) (_:Nat.blt d n.n=true):Lh n (dropS d g) a:=by
 refine ⟨h.1,by simpa [Act.put] using h.2.1,λi u hu=>?_⟩
 rw [Rc] at hu
 by_cases hi:i=d
 · rw [A6 hi] at hu;cases hu
 ·
  rw [A1 hi] at hu
  have:=h.2.2 i u hu
  simp only [Act.put,B0] at this ⊢
  rwa [Array.getElem?_setIfInBounds_ne (λq=>hi q.symm)] at this
def PnK (g0:Fr) (Q:Exit->Fr->World->Prop):Exit->Fr->World->Prop
 | .panic c,f,w=>Sub g0 f/\Q (.panic c) g0 w
 | e,f,w=>Q e f w
section
variable {P:Program} {n:Sh} {f:Fr} {ops:Array Oper} {Q:Exit->Fr->World->Prop} {w:World} {fuel:Nat} {listed:Array Bool} {S:World->Prop}
theorem Dr  {l:List Oper} (N:Nat) (hN:l.length=N) (hm:P.follows .mixedOrders=true) (S:World->Prop) (h:∀ w1,CZ w w1->WH P n l.toArray Q S N (Array.replicate N false) f w1):W P n (.region id l.toArray true) Q f w:=by
 unfold W
 exact λa ha=>wp_region_held (S:=S) hm (by
  subst hN
  have:=h (w.drewN 1) ⟨1,rfl⟩ a ha
  rw [show l.toArray.size=l.length by simp]
  exact this)
theorem BY (i:Nat) {ty:Nat} {op:Op} (hi:ops[i]?=some ⟨some d,op,ty,pos,aft,none⟩) (hp:∀ w',S w'->Rd P op f w' v) (hS:S w) (hd:Nat.blt d n.n=true)
  (k:WH P n ops Q S fuel (listed.setIfInBounds i true) ((d,v)::f) w) (hs:Region.noSelect ops=true:=by kernel_rfl) (hf:Region.free .any ops listed i=true:=by kernel_rfl)
  (hr:(Region.ready .any ops listed).contains i=true:=by kernel_rfl) (hQ:∀ c f w,Q (.panic c) f w->Q (.panic c) (dropS d f) w:=by first | exact λc f w h=>U4 h | exact λc f w h=>h | exact λc f w h=>pnK_drop rfl h):WH P n ops Q S (fuel+1) listed f w:=by
 intro a ha
 refine wpAnyH_take hi hs hf hr ?_ (.inl ⟨by simp [Region.wanted],λw' hw'=>hp w' hw' _ ha.agr _ _ _ _ _⟩) hS (k _ (ha.put hd v))
 rintro c b w' ⟨g,hg,hq⟩
 exact ⟨dropS d g,hg.dropS hd,hQ c g w' hq⟩
theorem Af (i:Nat) {ty:Nat} {op:Op} (hi:ops[i]?=some ⟨some d,op,ty,pos,aft,none⟩) (hp:Bx P op f v) (hS:S w) (hd:Nat.blt d n.n=true)
  (k:WH P n ops Q S fuel (listed.setIfInBounds i true) ((d,v)::f) w) (hs:Region.noSelect ops=true:=by kernel_rfl) (hf:Region.free .any ops listed i=true:=by kernel_rfl)
  (hr:(Region.ready .any ops listed).contains i=true:=by kernel_rfl) (hQ:∀ c f w,Q (.panic c) f w->Q (.panic c) (dropS d f) w:=by first | exact λc f w h=>U4 h | exact λc f w h=>h | exact λc f w h=>pnK_drop rfl h):WH P n ops Q S (fuel+1) listed f w :=
 BY i hi (λ_ _=>hp.rd) hS hd k hs hf hr hQ
theorem WH.op (j:Nat) {o:Oper} (hi:ops[j]?=some o) (h:WL P n ops (nx (λf' w'=>S w'/\WH P n ops Q S fuel (listed.setIfInBounds j true) f' w') Q) [o] f w) (a:Act) (ha:Lh n f a) :
  wpOp P ops (GV n Q) j (λa' w'=>S w'/\wpAnyH P .any ops (GV n Q) S fuel (listed.setIfInBounds j true) a' w') a w:=by
 unfold WL at h
 have:=h a ha
 unfold wpOp
 simp only [hi]
 have conv:∀ (e:Exit) (a:Act) (w:World),GV n (nx (λf' w'=>S w'/\WH P n ops Q S fuel (listed.setIfInBounds j true) f' w') Q) e a w->Exit.then (λa' w'=>S w'/\wpAnyH P .any ops (GV n Q) S fuel (listed.setIfInBounds j true) a' w') (GV n Q) e a w:=by
  rintro e a w ⟨g,hg,hq⟩
  cases e with
  | normal=>exact ⟨hq.1,hq.2 a hg⟩
  | _=>exact ⟨g,hg,hq⟩
 unfold wpList at this
 split
 ·
  next hwt =>
  rw [A6 hwt] at this
  refine this.imp (λh=>?_) λ⟨b,a',w',c⟩=>⟨b,a',w',conv _ _ _ c⟩
  have h':o.wp P a w (λa' w'=>S w'/\wpAnyH P .any ops (GV n Q) S fuel (listed.setIfInBounds j true) a' w') (GV n (nx (λf' w'=>S w'/\WH P n ops Q S fuel (listed.setIfInBounds j true) f' w') Q)) :=
   Oper.wp_mono (λa w h=>conv .normal a w h) h
  exact SE h' λe a w he h=>by
   cases e with
   | normal=>exact CM rfl he
   | _=>exact conv _ a w h
 ·
  next hwt =>
  rw [A1 hwt] at this
  exact conv .normal _ _ this
theorem An (i:Nat) {o:Oper} (hi:ops[i]?=some o) (h:WL P n ops (nx (λf' w'=>S w'/\WH P n ops Q S fuel (listed.setIfInBounds i true) f' w') Q) [o] f w) (hr:Region.ready .any ops listed=[i]:=by kernel_rfl):WH P n ops Q S (fuel+1) listed f w:=by
 intro a ha
 refine wpAnyH_all hr (by simp) λj hj=>?_
 obtain rfl:j=i:=by simpa using hj
 exact WH.op j hi h a ha
theorem Ea (i:Nat) {o:Oper} (hi:ops[i]?=some o) (k:Nat) {o2:Oper} (hk:ops[k]?=some o2) (h:WL P n ops (nx (λf' w'=>S w'/\WH P n ops Q S fuel (listed.setIfInBounds i true) f' w') Q) [o] f w)
    (h2:WL P n ops (nx (λf' w'=>S w'/\WH P n ops Q S fuel (listed.setIfInBounds k true) f' w') Q) [o2] f w) (hr:Region.ready .any ops listed=[i,k]:=by kernel_rfl):WH P n ops Q S (fuel+1) listed f w:=by
  intro a ha
  refine wpAnyH_all hr (by simp) λj hj=>?_
  rcases Ar.1 hj with rfl | hj
  · exact WH.op j hi h a ha
  · obtain rfl : j = k := by simpa using hj
    exact WH.op j hk h2 a ha
theorem Bd (hr:Region.ready .any ops listed=[]) (h:Q .normal f w):WH P n ops Q S fuel listed f w:=λ_ ha=>wpAnyH_done hr ⟨f,ha,h⟩ fuel
end
attribute [irreducible] WH
end
section
def ptR (r:(Int × Int) × Int):Value:=.tuple #[.agg #[.int .i64 r.1.1,.int .i64 r.1.2],.int .i64 r.2]
theorem A5l  {b:Nat} (h:c<b):(pA (some (⟨b,0,none⟩:Addr))).block≠c:=Nat.ne_of_gt h
theorem T9 (bs_:Nat) (s x y:Int) (w:World) (h:AF w bs_ (stC s) 216) :
  Calls Tryz.prog 169 #[.pointer (some ⟨bs_,0,none⟩),.int .i64 x,.int .i64 y] w λr w'=>r=.returned (ptR (Io s x y))/\Below w.heap.size w w':=by
 refine W.e func169 rfl ntmps169 bL ?_
 have q:=EM (w.heap.size) w
 refine A4<|BV LG rfl (λQ C d f g L=>?_)
 have D:=Bg d h.lt
 have a:=h.un g D
 have t:=uB q d g
 have H:=Cq d q.size
 refine A9 rfl<|Ah<|A4<|A2 rfl<|A0 (.nck rfl)<|A0 (.fa SF rfl Gq dD rfl)<|Ag (Ad (Gs _) rfl a rfl)<|A0 (.neq rfl rfl)<|WL.e<|Ac rfl (λv=>?_) (λv=>?_)
 have E:=JY v
 refine Ah<|Dr 7 rfl C7 (λw'=>w'.heap[bs_]?=C.heap[bs_]?/\True) (λT i=>?_)
 have u:=a.drew i
 have F:=f.drew i
 have G:=CZ.below t i
 have b:=Dm (u.trans a.symm) BG
 refine Af 0 rfl (.buildL (ps:=_) Ol rfl rfl rfl pZ) b rfl ?_
 refine Af 1 rfl (.mv rfl) b rfl ?_
 refine Af 2 rfl (.nck rfl) b rfl ?_
 refine Af 3 rfl (.fa SF rfl Gq dD rfl) b rfl ?_
 refine BY 4 rfl (λw' hw'=>Ad (Gs _) rfl ((hw'.1).trans a) rfl) b rfl ?_
 refine An 5 rfl<|Az rfl rfl F Ca rfl rfl (λN l c J=>?_)
 have j:=u.up c
 have A:=CN G oO c
 refine WL.e<|⟨⟨(j).trans (a).symm,tT⟩,?_⟩
 refine Af 6 rfl (.as rfl) ⟨(j).trans (a).symm,tT⟩ rfl ?_
 refine Bd kR<|Ai (EE rfl rfl (Bq l CS rfl Ca) rfl ?_)
 exact ⟨D1 (by unfold Io;rw [A6 aS];rfl),A⟩
 have E:=JZ v
 refine W.k<|A4<|A2 rfl<|A2 rfl<|?_
 refine A0 (.buildL (ps:=_) Ol rfl rfl rfl pS) ?_
 refine Az rfl rfl f Ca rfl rfl (λP m o K=>?_)
 have B:=CN t oO o
 refine A9 rfl<|Ai (EE rfl rfl (Bq m CS rfl Ca) rfl ?_)
 exact ⟨D1 (by unfold Io;rw [A1 (by simp_all)];rfl),B⟩
theorem Tb (m:M6) (x y:Int) (w:World) :
  Calls Tryz.prog 138 #[.agg (LF m).toArray,.agg #[.int .i64 x,.int .i64 y]] w λr w'=>r=.returned (ptR (FY m x y))/\Below w.heap.size w w':=by
 obtain ⟨a,b,c,d,e,f⟩:=m
 simp only [LF]
 refine W.e func138 rfl ntmps138 bL ?_
 have ad:=EM (w.heap.size) w
 refine A4<|CU rfl rfl (λb1 b8 ae F ak a'=>?_)
 have af:=uB ad ae ak
 have aR:=Cq ae ad.size
 refine CU rfl rfl (λb3 b9 G H J b0=>?_)
 have aJ:=Bg G F.lt
 have ag:=F.un J aJ
 have ah:=uB af G J
 have aS:=Cq G af.size
 refine BV LG rfl (λb7 ba D K B b2=>?_)
 have aK:=Bg D ag.lt
 have ai:=ag.un B aK
 have am:=Bg D H.lt
 have L:=H.un B am
 have N:=uB ah D B
 have aT:=Cq D ah.size
 refine A9 rfl<|A4<|BV zeroValue216 rfl (λP b4 q E o aU=>?_)
 have an:=Bg q ai.lt
 have s:=ai.un o an
 have ao:=Bg q L.lt
 have t:=L.un o ao
 have ap:=Bg q K.lt
 have Q:=K.un o ap
 have T:=uB N q o
 have aL:=Cq q N.size
 refine WL.e<|A4<|A0 (.ixr1 DU B5 rfl rfl 0 rfl oO)<|Ag (Ad (Bw _) rfl s rfl)<|A0 (.fa CS rfl B5 dD rfl)<|Ag (Ad (Bw _) rfl t rfl)<|A0 (.ixr1 DU B5 rfl rfl 2 rfl oO)<|Ag (Ad (Bw _) rfl s rfl)<|A0 (.fa CS rfl B5 dD rfl)<|Ag (Ad (Bw _) rfl t rfl)<|A0 (.ixr1 DU B5 rfl rfl 4 rfl oO)<|Ag (Ad (Bw _) rfl s rfl)<|Ct (ps:=_) Dh B5 PG rfl rfl rfl rfl rfl pR rfl (λaM aq i a5 g aV=>?_)
 have ar:=Bg i s.lt
 have U:=s.un g ar
 have au:=Bg i t.lt
 have V:=t.un g au
 have av:=Bg i Q.lt
 have X:=Q.un g av
 have aw:=Bg i E.lt
 have ax:=E.un g aw
 have Y:=uB T i g
 have aN:=Cq i T.size
 have ay:=Cc.lit (m:=1) a5 rfl (by unfold maxLen;omega)
 have a6:aM<=aq.heap.size:=by omega
 have a7:=AD.ofI (l:=[e]) ay
 refine WL.c1 AN rfl rfl ((Q4 P 0 a x c y _ [e] 1 _ ax (a7).rowp (by simp) (λh=>by simp at h) (λ_=>A5l oO))) (λbb j=>?_)
 have aW:=AW a6 j.1.size
 have u:=Dl U j.1 U.lt (by simp only [Ar,AA,C8,not_or,AY];omega)
 have C:=Dl V j.1 V.lt (by simp only [Ar,AA,C8,not_or,AY];omega)
 have a0:=Dl X j.1 X.lt (by simp only [Ar,AA,C8,not_or,AY];omega)
 have a1:=EZ Y (AB.below j.1 Y.size (by simp <;> omega))
 have aj:=j.2
 refine A9 rfl<|A4<|A0 (.ixr1 DU B5 rfl rfl 1 rfl oO)<|Ag (Ad (Bw _) rfl u rfl)<|A0 (.fa CS rfl B5 dD rfl)<|Ag (Ad (Bw _) rfl C rfl)<|A0 (.ixr1 DU B5 rfl rfl 3 rfl oO)<|Ag (Ad (Bw _) rfl u rfl)<|A0 (.fa CS rfl B5 dD rfl)<|Ag (Ad (Bw _) rfl C rfl)<|A0 (.ixr1 DU B5 rfl rfl 5 rfl oO)<|Ag (Ad (Bw _) rfl u rfl)<|Ct (ps:=_) Dh B5 PG rfl rfl rfl rfl rfl pR rfl (λaO az k a8 v aX=>?_)
 have b5:=Bg k u.lt
 have b6:=Bg k C.lt
 have aA:=Bg k a0.lt
 have a2:=a0.un v aA
 have aB:=Bg k aj.lt
 have aC:=aj.un v aB
 have a3:=uB a1 k v
 have aP:=Cq k a1.size
 have aD:=Cc.lit (m:=1) a8 rfl (by unfold maxLen;omega)
 have a9:aO<=az.heap.size:=by omega
 have aa:=AD.ofI (l:=[f]) aD
 refine WL.c1 AN rfl rfl ((Q4 P _ b x d y _ [f] 1 _ aC (aa).rowp (by simp) (λh=>by simp at h) (λ_=>A5l oO))) (λbc A=>?_)
 have aY:=AW a9 A.1.size
 have aE:=Dl a2 A.1 a2.lt (by simp only [Ar,AA,C8,not_or,AY];omega)
 have aF:=EZ a3 (AB.below A.1 a3.size (by simp <;> omega))
 have aQ:=A.2
 refine A9 rfl<|A4<|A2 rfl<|A2 rfl<|WL.c1 AN rfl rfl ((T9 P _ _ _ _ aQ)) (λbd a4=>?_)
 have aG:=aE.bl a4
 have aH:=DJ aF a4
 refine A0 (.ext rfl rfl)<|A0 (.ext rfl rfl)<|Az rfl rfl aG Ca rfl rfl (λbe ab ac aZ=>?_)
 have aI:=CN aH oO ac
 refine A9 rfl<|Ai (EE rfl rfl (Bq ab CS rfl Ca) rfl ?_)
 exact ⟨rfl,aI⟩
theorem Ta (m:M6) (x y:Int) (w:World) :
  Calls Tryz.prog 137 #[.agg (LF m).toArray,.agg #[.int .i64 x,.int .i64 y]] w λr w'=>r=.returned (ptR (Ip m x y))/\Below w.heap.size w w':=by
 obtain ⟨a,b,c,d,e,f⟩:=m
 simp only [LF]
 refine W.e func137 rfl ntmps137 bL ?_
 have U:=EM (w.heap.size) w
 refine A4<|CU rfl rfl (λb1 ar V t a2 an=>?_)
 have X:=uB U V a2
 have ah:=Cq V U.size
 refine CU rfl rfl (λb3 au u v A ao=>?_)
 have ac:=Bg u t.lt
 have Y:=t.un A ac
 have a0:=uB X u A
 have ai:=Cq u X.size
 refine BV LG rfl (λb7 av s B o ap=>?_)
 have ad:=Bg s Y.lt
 have a1:=Y.un o ad
 have a3:=Bg s v.lt
 have C:=v.un o a3
 have D:=uB a0 s o
 have aj:=Cq s a0.size
 refine A9 rfl<|A4<|BV zeroValue216 rfl (λE aq i P g ak=>?_)
 have a4:=Bg i a1.lt
 have k:=a1.un g a4
 have a5:=Bg i C.lt
 have l:=C.un g a5
 have a6:=Bg i B.lt
 have F:=B.un g a6
 have G:=uB D i g
 have ae:=Cq i D.size
 refine WL.e<|A4<|A0 (.ixr1 DU B5 rfl rfl 0 rfl oO)<|Ag (Ad (Bw _) rfl k rfl)<|A0 (.fa CS rfl B5 dD rfl)<|Ag (Ad (Bw _) rfl l rfl)<|A0 (.ixr1 DU B5 rfl rfl 2 rfl oO)<|Ag (Ad (Bw _) rfl k rfl)<|A0 (.fa CS rfl B5 dD rfl)<|Ag (Ad (Bw _) rfl l rfl)<|WL.c1 AN rfl rfl ((Q4 E 0 a x c y _ [] 0 _ P (Be.nil _) (by simp) (λ_=>.inl rfl) (λh=>by simp at h))) (λaw j=>?_)
 have H:=Dl k j.1 k.lt (by simp only [Ar,AA,C8,not_or,AY];omega)
 have J:=Dl l j.1 l.lt (by simp only [Ar,AA,C8,not_or,AY];omega)
 have K:=Dl F j.1 F.lt (by simp only [Ar,AA,C8,not_or,AY];omega)
 have L:=EZ G (AB.below j.1 G.size (by simp <;> omega))
 have af:=j.2
 refine A9 rfl<|A4<|A0 (.ixr1 DU B5 rfl rfl 1 rfl oO)<|Ag (Ad (Bw _) rfl H rfl)<|A0 (.fa CS rfl B5 dD rfl)<|Ag (Ad (Bw _) rfl J rfl)<|A0 (.ixr1 DU B5 rfl rfl 3 rfl oO)<|Ag (Ad (Bw _) rfl H rfl)<|A0 (.fa CS rfl B5 dD rfl)<|Ag (Ad (Bw _) rfl J rfl)<|WL.c1 AN rfl rfl ((Q4 E _ b x d y _ [] 0 _ af (Be.nil _) (by simp) (λ_=>.inl rfl) (λh=>by simp at h))) (λax q=>?_)
 have a7:=Dl K q.1 K.lt (by simp only [Ar,AA,C8,not_or,AY];omega)
 have a8:=EZ L (AB.below q.1 L.size (by simp <;> omega))
 have ag:=q.2
 refine A9 rfl<|A4<|A2 rfl<|A2 rfl<|WL.c1 AN rfl rfl ((T9 E _ _ _ _ ag)) (λay N=>?_)
 have a9:=a7.bl N
 have aa:=DJ a8 N
 refine A0 (.ext rfl rfl)<|A0 (.ext rfl rfl)<|Az rfl rfl a9 Ca rfl rfl (λaz Q T am=>?_)
 have ab:=CN aa oO T
 refine A9 rfl<|Ai (EE rfl rfl (Bq Q CS rfl Ca) rfl ?_)
 exact ⟨rfl,ab⟩
theorem RJ:Tryz.prog.built 42=λCl=>Instr.fill (λi=>some (i * 1,1)) #[.int .i64 0,.int .i64 0,.int .i64 0,.int .i64 0,.int .i64 0,.int .i64 0] Cl:=by kernel_rfl
theorem L4 (w:World):Calls Tryz.prog 17 #[] w λr w'=>r=.returned (.agg (LF Nw).toArray)/\Below w.heap.size w w':=by
 refine W.e func17 rfl ntmps17 bL ?_
 have a:=EM (w.heap.size) w
 refine A4<|BV PF rfl (λq o b c d l=>?_)
 have i:=uB a b d
 have k:=Cq b a.size
 refine WL.e<|?_
 refine A4<|A0 (.build (cs:=(LF Nw).toArray) rfl (by rw [RJ];rfl)) ?_
 refine Az rfl rfl c CJ rfl rfl (λs f g m=>?_)
 have j:=CN i oO g
 refine WL.e<|Ai (C4 rfl rfl (Bq f DU rfl CJ)  ?_)
 exact ⟨rfl,j⟩
theorem Kf (x y:Int) (w:World):Calls Tryz.prog 73 #[.int .i64 x,.int .i64 y] w λr w'=>r=.returned (.agg (LF (Jj x y)).toArray)/\Below w.heap.size w w':=by
 refine W.e func73 rfl ntmps73 bL ?_
 have a:=EM (w.heap.size) w
 refine A4<|BV PF rfl (λq o b c d l=>?_)
 have i:=uB a b d
 have k:=Cq b a.size
 refine WL.e<|A4<|A2 rfl<|A2 rfl<|?_
 refine A0 (.build (cs:=(LF (Jj x y)).toArray) rfl (by rw [RJ];rfl)) ?_
 refine Az rfl rfl c CJ rfl rfl (λs f g m=>?_)
 have j:=CN i oO g
 refine WL.e<|Ai (C4 rfl rfl (Bq f DU rfl CJ)  ?_)
 exact ⟨rfl,j⟩
theorem Pr (x y:Int) (w:World):Calls Tryz.prog 100 #[.int .i64 x,.int .i64 y] w λr w'=>r=.returned (.agg (LF (m6S x y)).toArray)/\Below w.heap.size w w':=by
 refine W.e func100 rfl ntmps100 bL ?_
 have a:=EM (w.heap.size) w
 refine A4<|BV PF rfl (λq o b c d l=>?_)
 have i:=uB a b d
 have k:=Cq b a.size
 refine WL.e<|A4<|A2 rfl<|A2 rfl<|?_
 refine A0 (.build (cs:=(LF (m6S x y)).toArray) rfl (by rw [RJ];rfl)) ?_
 refine Az rfl rfl c CJ rfl rfl (λs f g m=>?_)
 have j:=CN i oO g
 refine WL.e<|Ai (C4 rfl rfl (Bq f DU rfl CJ)  ?_)
 exact ⟨rfl,j⟩
end
section
def m6R (r:M6 × Int):Value:=.tuple #[.agg (LF r.1).toArray,.int .i64 r.2]
theorem Ra (m k:M6) (w:World) :
  Calls Tryz.prog 99 #[.agg (LF m).toArray,.agg (LF k).toArray] w λr w'=>r=.returned (m6R (D8 m k))/\Below w.heap.size w w':=by
 obtain ⟨a,b,c,d,e,f⟩:=m
 obtain ⟨u,hu⟩:∃ u,u=Ip k a b:=⟨_,rfl⟩
 obtain ⟨v,hv⟩:∃ u,u=Ip k c d:=⟨_,rfl⟩
 obtain ⟨t,ht⟩:∃ u,u=FY k e f:=⟨_,rfl⟩
 have bj:D8 ⟨a,b,c,d,e,f⟩ k=if u.2≠0 then (Wx,u.2) else if v.2≠0 then (Wx,v.2) else if t.2≠0 then (Wx,t.2) else (⟨u.1.1,u.1.2,v.1.1,v.1.2,t.1.1,t.1.2⟩,0):=by rw [hu,hv,ht];rfl
 rw [bj]
 obtain ⟨⟨u1,u2⟩,ue⟩:=u
 obtain ⟨⟨v1,v2⟩,ve⟩:=v
 obtain ⟨⟨t1,t2⟩,te⟩:=t
 simp only
 obtain ⟨ka,kb,kc,kd,ke,kf⟩:=k
 simp only [LF]
 refine W.e func99 rfl ntmps99 bL ?_
 have aC:=EM (w.heap.size) w
 refine A4<|CU rfl rfl (λb1 bR aD J aH bH=>?_)
 have aE:=uB aC aD aH
 have bt:=Cq aD aC.size
 refine CU rfl rfl (λb3 bS K L N bI=>?_)
 have bk:=Bg K J.lt
 have aF:=J.un N bk
 have aG:=uB aE K N
 have bu:=Cq K aE.size
 refine BV PF rfl (λb7 bT G aI D bJ=>?_)
 have bm:=Bg G aF.lt
 have P:=aF.un D bm
 have aJ:=Bg G L.lt
 have Q:=L.un D aJ
 have aK:=uB aG G D
 have bv:=Cq G aG.size
 refine A9 rfl<|A4<|Ag (BA rfl Q DU rfl CJ)<|A0 (.ixr1 DU B5 rfl rfl 0 rfl oO)<|Ag (Ad (Bw _) rfl P rfl)<|A0 (.ixr1 DU B5 rfl rfl 1 rfl oO)<|Ag (Ad (Bw _) rfl P rfl)<|?_
 refine A0 (.buildL (ps:=_) Ol rfl rfl rfl pS) ?_
 refine WL.c1 AN rfl rfl ((Ta ⟨ka,kb,kc,kd,ke,kf⟩ a b _)) (λbU C=>?_)
 have T:=P.bl C
 have U:=Q.bl C
 have V:=aI.bl C
 have X:=DJ aK C
 rw [<- hu]
 simp only [ptR]
 refine A2 rfl<|A0 (.ext rfl rfl)<|A0 (.ext rfl rfl)<|BV LG rfl (λbV bK A ao q bw=>?_)
 have aL:=Bg A T.lt
 have aM:=T.un q aL
 have aN:=Bg A U.lt
 have aO:=U.un q aN
 have aP:=Bg A V.lt
 have aQ:=V.un q aP
 have aR:=uB X A q
 have bn:=Cq A X.size
 refine Az rfl rfl ao Ca rfl rfl (λbW ap s bx=>?_)
 have E:=aM.up s
 have Y:=aO.up s
 have a0:=aQ.up s
 have a1:=CN aR oO s
 refine A9 rfl<|Ah<|A4<|A2 rfl<|A0 (.neq rfl rfl)<|WL.e<|Ac rfl (λa2=>?_) (λa2=>?_)
 have aS:=JY a2
 refine A4<|A0 (.build (cs:=(LF Wx).toArray) rfl (by rw [RJ];rfl)) ?_
 refine A2 rfl<|Az rfl rfl a0 CJ rfl rfl (λbX aq ar bz=>?_)
 have aT:=CN a1 oO ar
 refine A9 rfl<|Ai (EE rfl rfl (Bq aq DU rfl CJ) rfl ?_)
 exact ⟨D1 (by rw [A6 oO];rfl),aT⟩
 have aS:=JZ a2
 refine W.k<|A4<|Ag (BA rfl Y DU rfl CJ)<|A0 (.ixr1 DU B5 rfl rfl 2 rfl oO)<|Ag (Ad (Bw _) rfl E rfl)<|A0 (.ixr1 DU B5 rfl rfl 3 rfl oO)<|Ag (Ad (Bw _) rfl E rfl)<|?_
 refine A0 (.buildL (ps:=_) Ol rfl rfl rfl pS) ?_
 refine WL.c1 AN rfl rfl ((Ta ⟨ka,kb,kc,kd,ke,kf⟩ c d _)) (λbY B=>?_)
 have a3:=E.bl B
 have a4:=Y.bl B
 have a5:=a0.bl B
 have a6:=ap.bl B
 have a7:=DJ a1 B
 rw [<- hv]
 simp only [ptR]
 refine A2 rfl<|A0 (.ext rfl rfl)<|A0 (.ext rfl rfl)<|BV LG rfl (λbZ bM l au i bA=>?_)
 have aU:=Bg l a3.lt
 have aV:=a3.un i aU
 have aW:=Bg l a4.lt
 have aX:=a4.un i aW
 have aY:=Bg l a5.lt
 have aZ:=a5.un i aY
 have a':=Bg l a6.lt
 have b0:=a6.un i a'
 have b2:=uB a7 l i
 have bo:=Cq l a7.size
 refine Az rfl rfl au Ca rfl rfl (λb' av j bB=>?_)
 have F:=aV.up j
 have a8:=aX.up j
 have a9:=aZ.up j
 have b4:=b0.up j
 have aa:=CN b2 oO j
 refine A9 rfl<|Ah<|A4<|A2 rfl<|A0 (.neq rfl rfl)<|WL.e<|Ac rfl (λab=>?_) (λab=>?_)
 have b5:=JY ab
 refine A4<|A0 (.build (cs:=(LF Wx).toArray) rfl (by rw [RJ];rfl)) ?_
 refine A2 rfl<|Az rfl rfl a9 CJ rfl rfl (λc0 aw ax bC=>?_)
 have b6:=CN aa oO ax
 refine A9 rfl<|Ai (EE rfl rfl (Bq aw DU rfl CJ) rfl ?_)
 exact ⟨D1 (by rw [A1 oO,A6 oO];rfl),b6⟩
 have b5:=JZ ab
 refine W.k<|A4<|Ag (BA rfl a8 DU rfl CJ)<|A0 (.ixr1 DU B5 rfl rfl 4 rfl oO)<|Ag (Ad (Bw _) rfl F rfl)<|A0 (.ixr1 DU B5 rfl rfl 5 rfl oO)<|Ag (Ad (Bw _) rfl F rfl)<|?_
 refine A0 (.buildL (ps:=_) Ol rfl rfl rfl pS) ?_
 refine WL.c1 AN rfl rfl ((Tb ⟨ka,kb,kc,kd,ke,kf⟩ e f _)) (λc2 o=>?_)
 have b8:=F.bl o
 have b9:=a8.bl o
 have ac:=a9.bl o
 have ad:=b4.bl o
 have ae:=av.bl o
 have af:=DJ aa o
 rw [<- ht]
 simp only [ptR]
 refine A2 rfl<|A0 (.ext rfl rfl)<|A0 (.ext rfl rfl)<|BV LG rfl (λc3 bN g ay x bD=>?_)
 have bO:=Bg g b8.lt
 have bP:=Bg g b9.lt
 have ba:=Bg g ac.lt
 have bb:=ac.un x ba
 have bc:=Bg g ad.lt
 have bd:=ad.un x bc
 have be:=Bg g ae.lt
 have bf:=ae.un x be
 have bg:=uB af g x
 have bp:=Cq g af.size
 refine Az rfl rfl ay Ca rfl rfl (λc4 H y bE=>?_)
 have ag:=bb.up y
 have ah:=bd.up y
 have ai:=bf.up y
 have aj:=CN bg oO y
 refine A9 rfl<|Ah<|A4<|A2 rfl<|A0 (.neq rfl rfl)<|WL.e<|Ac rfl (λak=>?_) (λak=>?_)
 have bh:=JY ak
 refine A4<|A0 (.build (cs:=(LF Wx).toArray) rfl (by rw [RJ];rfl)) ?_
 refine A2 rfl<|Az rfl rfl ag CJ rfl rfl (λc5 az aA bG=>?_)
 have bi:=CN aj oO aA
 refine A9 rfl<|Ai (EE rfl rfl (Bq az DU rfl CJ) rfl ?_)
 exact ⟨D1 (by rw [A1 oO,A1 oO,A6 oO];rfl),bi⟩
 have bh:=JZ ak
 refine W.k<|A4<|A0 (.fa CS rfl B5 dD rfl)<|Ag (Ad (Bw _) rfl ah rfl)<|A0 (.fa CS rfl B5 dD rfl)<|Ag (Ad (Bw _) rfl ah rfl)<|A0 (.fa CS rfl B5 dD rfl)<|Ag (Ad (Bw _) rfl ai rfl)<|A0 (.fa CS rfl B5 dD rfl)<|Ag (Ad (Bw _) rfl ai rfl)<|A0 (.fa CS rfl B5 dD rfl)<|Ag (Ad (Bw _) rfl H rfl)<|A0 (.fa CS rfl B5 dD rfl)<|Ag (Ad (Bw _) rfl H rfl)<|?_
 refine A0 (.build (cs:=(LF ⟨u1,u2,v1,v2,t1,t2⟩).toArray) rfl (by rw [RJ];rfl)) ?_
 refine Az rfl rfl ag CJ rfl rfl (λbQ am an bq=>?_)
 have aB:=CN aj oO an
 refine A9 rfl<|Ai (EE rfl rfl (Bq am DU rfl CJ) rfl ?_)
 exact ⟨D1 (by rw [A1 oO,A1 oO,A1 oO];rfl),aB⟩
theorem A4n (bs_:Nat) (m:M6) (w:World) (h:AF w bs_ (stC 0) 216) :
  Calls Tryz.prog 172 #[.pointer (some ⟨bs_,0,none⟩),.agg (LF m).toArray] w λr w'=>r=.returned (.int .i64 (Rz m).1)/\AB w.heap.size [bs_] w w'/\AF w' bs_ (stC (Rz m).2) 216:=by
 obtain ⟨a,b,c,d,e,f⟩:=m
 simp only [LF]
 refine W.e func172 rfl ntmps172 bL ?_
 have A:=AB.refl w.heap.size ([bs_]) w
 refine A4<|CU rfl rfl (λF G B g l Q=>?_)
 have H:=Bg B h.lt
 have J:=h.un l H
 have y:=Cq B A.size
 have K:=DA A (Hf l y)
 refine A9 rfl<|Ah<|Dr 14 rfl C7 (λw'=>w'.heap[F]?=G.heap[F]?/\True) (λU o=>?_)
 have L:=J.drew o
 have q:=g.drew o
 have C:=DA K (Q8 o)
 have i:=Dm (q.trans g.symm) BG
 refine Af 0 rfl (.mv rfl) i rfl ?_
 refine Af 1 rfl (.ixr1 DU B5 rfl rfl 0 rfl oO) i rfl ?_
 refine BY 2 rfl (λw' hw'=>Ad (Bw _) rfl ((hw'.1).trans g) rfl) i rfl ?_
 refine Af 3 rfl (.ixr1 DU B5 rfl rfl 3 rfl oO) i rfl ?_
 refine BY 4 rfl (λw' hw'=>Ad (Bw _) rfl ((hw'.1).trans g) rfl) i rfl ?_
 refine Af 6 rfl (.mv rfl) i rfl ?_
 refine Af 7 rfl (.ixr1 DU B5 rfl rfl 1 rfl oO) i rfl ?_
 refine BY 8 rfl (λw' hw'=>Ad (Bw _) rfl ((hw'.1).trans g) rfl) i rfl ?_
 refine Af 9 rfl (.ixr1 DU B5 rfl rfl 2 rfl oO) i rfl ?_
 refine BY 10 rfl (λw' hw'=>Ad (Bw _) rfl ((hw'.1).trans g) rfl) i rfl ?_
 refine An 5 rfl<|WL.c1 AN rfl rfl ((Q5 bs_ 0 a d _ L)) (λV s=>?_)
 have j:=Dl q s.1 q.lt (by simp only [Ar,AA,C8,not_or,AY];omega)
 have t:=DA C (AB.wide s.1 C.size (by simp <;> omega))
 have N:=s.2
 refine WL.e<|⟨⟨(j).trans (g).symm,tT⟩,?_⟩
 refine An 11 rfl<|WL.c1 AN rfl rfl ((Q5 bs_ _ b c _ N)) (λR k=>?_)
 have D:=Dl j k.1 j.lt (by simp only [Ar,AA,C8,not_or,AY];omega)
 have u:=DA t (AB.wide k.1 t.size (by simp <;> omega))
 have O:=k.2
 refine WL.e<|?_
 have v:=Dm (D.trans g.symm) BG
 refine ⟨v,?_⟩
 refine Af 12 rfl (.as rfl) v rfl ?_
 refine Af 13 rfl (.as rfl) v rfl ?_
 refine Bd kR<|A4<|A2 rfl<|A2 rfl<|A2 rfl<|WL.c1 AN rfl rfl ((YA bs_ _ _ _ _ O)) (λT x=>?_)
 have E:=DA u (AB.wide x.1 u.size (by simp <;> omega))
 have P:=x.2
 refine A9 rfl<|Ai (AZ rfl rfl ?_)
 exact ⟨rfl,E,P⟩
section
variable {P:Program} {f:Fr}
theorem Bx.shrV  {k ky:IntKind} {ty:TypeId} {a b:Int} (hx:D0 f x=some (.int k a)) (hy:D0 f y=some (.int ky b)) (h0:0<=b) (h1:b<=k.bits) (r:Int) (hr:a / 2 ^ b.toNat=r):Bx P (.binOp .shr tx x y ty) f (.int k r):=λρ hρ d ty' pos aft g w=>by
 have e:=shift_shr k ky a b h0 h1
 rw [hr] at e
 simp [execOp,hρ _ _ hx,hρ _ _ hy,eqGuard,binOp_shr,e]
end
theorem A0I:∀ k<25,(ES.getD k 0) / 2=ES.getD (k+1) 0:=by decide
theorem A3d:∀ k<26,(0<ES.getD k 0↔k<25)/\0<=ES.getD k 0/\ES.getD k 0<=16777216:=by decide
theorem A3c:∀ k<25,2 * ES.getD (k+1) 0<=ES.getD k 0:=by decide
theorem A0J:∀ k<25,ES.drop k=ES.getD k 0::ES.drop (k+1):=by decide
theorem A3e:ES.drop 25=[]:=by decide
theorem A5h {a b:Int} (h0:0<=a) (h:a<=b):a * a<=b * b:=Int.mul_le_mul h h h0 oO
theorem A2F (a:Int) (w:World):Calls Tryz.prog 175 #[.int .i64 a] w λe w'=>e=.returned (Ky (LL a))/\w=w':=by
 refine W.e func175 rfl ntmps175 bL ?_
 refine A4<|Dp rfl<|A9 rfl<|Ah<|A4<|A2 rfl<|WL.c1 AN rfl rfl ((IV _ _)) (λC o=>?_)
 obtain rfl:=o
 refine A0 (.not rfl)<|A2 rfl<|B1 rfl rfl rfl (λc=>?_) (λc=>?_)
 have q:=(nF c)
 refine A2 rfl<|Ew rfl rfl rfl (by rw [(nF c)] <;> rfl)<|A0 (.lss rfl rfl)<|A0 (.pkF rfl (by rw [(nF c)] <;> rfl) rfl)<|WL.e<|Ac rfl (λg=>?_) (λg=>?_)
 have s:=dT g
 refine A4<|Dp rfl<|A9 rfl<|Ai (Ex rfl rfl rfl ?_)
 exact ⟨HZ (by unfold LL;rw [A1 (by simp_all)]),rfl⟩
 have s:=dF g
 have hf:Ao a=true/\0<=a:=by simp_all
 have J:=MW hf.1
 have K:=hf.2
 refine W.k<|A4<|A2 rfl<|A0 (.mul rfl rfl (Bp oO))<|A9 rfl<|A4<|A9 rfl<|Ah<|A4<|A9 rfl<|W.b<|Cj (α:=Nat × Int) (λt=>[(4,.int .i64 (a * 65536)),(5,.int .i64 t.2),(6,.int .i64 (ES.getD t.1 0))]) (λt w'=>w=w'/\t.1<=25/\0<=t.2/\t.2+2 * ES.getD t.1 0<=33554432/\t.2<=33554431/\NI (ES.drop t.1) (a * 65536) t.2=NI ES (a * 65536) 0) (λt=>25-t.1) ((0,0)) ⟨rfl,rfl,rfl,tT⟩ (⟨rfl,by decide,by decide,by decide,by decide,rfl⟩) (λt C hR=>?_)
 obtain ⟨⟨k,r⟩,u⟩:∃ i,i=t:=⟨t,rfl⟩
 subst u
 obtain ⟨rfl,D,E,F,G,d⟩:=hR
 simp only at D E F G d
 dsimp only
 obtain ⟨v,L,N⟩:=A3d k oO
 have P:=A5h (a:=r+ES.getD k 0) (b:=33554432) oO oO
 have Q:0<=(r+ES.getD k 0) * (r+ES.getD k 0):=Int.mul_nonneg oO oO
 have R:=A5h (a:=r) (b:=33554432) oO oO
 have T:0<=r * r:=Int.mul_nonneg oO oO
 refine Ah<|A4<|A2 rfl<|A0 (.gtr rfl rfl)<|WL.e<|Ac rfl (λj=>?_) (λj=>?_)
 have x:=dT j
 have hk:k<25:=v.1 aS
 have hd:=A0J k hk
 have hh:=A0I k hk
 have H:=A3c k hk
 refine W.k<|Ah<|W.b<|A4<|A2 rfl<|A2 rfl<|A0 (.add rfl rfl (Bp oO))<|A2 rfl<|A2 rfl<|A0 (.add rfl rfl (Bp oO))<|A0 (.mul rfl rfl (Bp oO))<|A2 rfl<|A0 (.leq rfl rfl)<|WL.e<|Ac rfl (λl=>?_) (λl=>?_)
 have y:=dT l
 refine Ak<|A2 rfl<|A2 rfl<|A0 (.add rfl rfl (Bp oO))<|A9 rfl<|Ak<|A2 rfl<|A0 (.shrV rfl rfl dD dD (ES.getD (k+1) 0) (by rw [<- hh];rfl))<|A9 rfl ?_
 exact ⟨(k+1,r+ES.getD k 0),⟨rfl,rfl,rfl,tT⟩,⟨rfl,by ((try simp only) <;> omega),by ((try simp only) <;> omega),by ((try simp only) <;> omega),by ((try simp only) <;> omega),by rw [<- d,hd,NI,A6 aS]⟩,by ((try simp only) <;> omega)⟩
 have y:=dF l
 refine W.k<|Ak<|A2 rfl<|A0 (.shrV rfl rfl dD dD (ES.getD (k+1) 0) (by rw [<- hh];rfl))<|A9 rfl ?_
 exact ⟨(k+1,r),⟨rfl,rfl,rfl,tT⟩,⟨rfl,by ((try simp only) <;> omega),by ((try simp only) <;> omega),by ((try simp only) <;> omega),by ((try simp only) <;> omega),by rw [<- d,hd,NI,A1 aS]⟩,by ((try simp only) <;> omega)⟩
 have x:=dF j
 refine C0<|Ah<|Ah ?_
 obtain rfl:k=25:=by have:=v.2;omega
 have f:NI ES (a * 65536) 0=r:=by rw [<- d,A3e];rfl
 refine Ak<|A2 rfl<|A2 rfl<|A2 rfl<|A0 (.mul rfl rfl (Bp oO))<|A0 (.sub rfl rfl (Bp oO))<|A2 rfl<|A0 (.gtr rfl rfl)<|WL.e<|Ac rfl (λm=>?_) (λm=>?_)
 have B:=dT m
 refine Ak<|A2 rfl<|A0 (.add rfl rfl (Bp oO))<|A9 rfl<|A4<|A2 rfl<|Dp rfl<|A9 rfl<|Ai (Ex rfl rfl rfl ?_)
 exact ⟨HZ (by unfold LL UQ;rw [A6 (by simp_all),f];simp only;rw [A6 aS]),rfl⟩
 have B:=dF m
 refine W.k<|A4<|A2 rfl<|Dp rfl<|A9 rfl<|Ai (Ex rfl rfl rfl ?_)
 exact ⟨HZ (by unfold LL UQ;rw [A6 (by simp_all),f];simp only;rw [A1 aS]),rfl⟩
 have q:=(nT c)
 refine EL rfl rfl rfl (by rw [(nT c)] <;> rfl)<|A0 (.pkT rfl (by rw [(nT c)] <;> rfl) rfl)<|WL.e<|DR rfl rfl<|A4<|Dp rfl<|A9 rfl<|Ai (Ex rfl rfl rfl ?_)
 exact ⟨HZ (by unfold LL;rw [A1 (by simp_all)]),rfl⟩
end
section
theorem A6G (m:M6):(Rz m).1<=2147483647/\-2147483648<=(Rz m).1:=by
 have:=MW (Zy (Fz m.a m.d).1 (Fz m.b m.c).1)
 exact ⟨this.2,this.1⟩
theorem A09 (m:M6) (w:World):Calls Tryz.prog 147 #[.agg (LF m).toArray] w λr w'=>r=.returned (Ky (Ik m))/\Below w.heap.size w w':=by
 have hd:=A6G m
 obtain ⟨d,a⟩:∃ d,d=Rz m:=⟨_,rfl⟩
 have P:Ik m=(if EH (if d.1<0 then ((IH 0 d.1).1,EH d.2 (IH 0 d.1).2) else d).2 (LL (max (if d.1<0 then ((IH 0 d.1).1,EH d.2 (IH 0 d.1).2) else d).1 0)).2≠0 then (0,EH (if d.1<0 then ((IH 0 d.1).1,EH d.2 (IH 0 d.1).2) else d).2 (LL (max (if d.1<0 then ((IH 0 d.1).1,EH d.2 (IH 0 d.1).2) else d).1 0)).2) else ((LL (max (if d.1<0 then ((IH 0 d.1).1,EH d.2 (IH 0 d.1).2) else d).1 0)).1,0)):=by rw [a];rfl
 rw [P]
 rw [<- a] at hd
 refine W.e func147 rfl ntmps147 bL ?_
 have v:=EM (w.heap.size) w
 refine A4<|CU rfl rfl (λb1 a3 x b E a1=>?_)
 have y:=uB v x E
 have Y:=Cq x v.size
 refine Dp rfl<|A9 rfl<|A4<|BV zeroValue216 rfl (λc a4 f F g a2=>?_)
 have Q:=Bg f b.lt
 have T:=b.un g Q
 have B:=uB y f g
 have a0:=Cq f y.size
 refine WL.e<|A4<|Ag (BA rfl T DU rfl CJ)<|WL.c1 AN rfl rfl ((A4n c m _ F)) (λw7 C=>?_)
 have i:=EZ B (AB.below C.1 B.size (by simp <;> omega))
 have j:=C.2
 rw [<- a] at j
 rw [<- a]
 refine A9 rfl<|D4 (α:=Int × Int) (λt=>[(4,.pointer (some ⟨c,0,none⟩)),(5,.int .i64 t.1)]) (λt w'=>Below w.heap.size w w'/\AF w' c (stC t.2) 216/\t=(if d.1<0 then ((IH 0 d.1).1,EH d.2 (IH 0 d.1).2) else d)) ?_ (λt w1 hR=>?_)
 refine A4<|A2 rfl<|A0 (.lss rfl rfl)<|WL.e<|Ac rfl (λl=>?_) (λl=>?_)
 have G:=dT l
 refine Ak<|A2 rfl<|WL.c1 AN rfl rfl ((YA c _ _ _ _ j)) (λa5 o=>?_)
 have H:=EZ i (AB.below o.1 i.size (by simp <;> omega))
 have U:=o.2
 refine A9 rfl ?_
 exact ⟨((IH 0 d.1).1,EH d.2 (IH 0 d.1).2),⟨rfl,rfl,tT⟩,H,U,(A6 aS).symm⟩
 have G:=dF l
 refine W.k ?_
 exact ⟨d,⟨rfl,rfl,tT⟩,i,j,(A1 aS).symm⟩
 obtain ⟨V,j2,j3⟩:=hR
 rw [<- j3]
 have X:max t.1 0=(if 0 > t.1 then 0 else t.1):=by split <;> omega
 obtain ⟨S,hS⟩:∃ S,S=LL (if 0 > t.1 then 0 else t.1):=⟨_,rfl⟩
 rw [X,<- hS]
 refine A4<|A2 rfl<|A0 (.max2 rfl rfl)<|WL.c1 AN rfl rfl ((A2F _ _)) (λa6 J=>?_)
 obtain rfl:=J
 rw [<- hS]
 simp only [Ky]
 refine A0 (.ext rfl rfl)<|A0 (.ext rfl rfl)<|WL.c1 AN rfl rfl ((O0 c _ _ _ _ j2)) (λa7 q=>?_)
 have s:=EZ V (AB.below q.1 V.size (by simp <;> omega))
 have D:=q.2
 refine A9 rfl<|Ah<|A4<|A0 (.fa SF rfl Gq dD rfl)<|Ag (Ad (Gs _) rfl D rfl)<|A0 (.neq rfl rfl)<|WL.e<|Ac rfl (λu=>?_) (λu=>?_)
 have K:=JY u
 refine Ah<|E2 C7 kR<|At (.fa SF rfl Gq dD rfl) rfl<|Di (λm=>Ad (Gs _) rfl D rfl) rfl<|At (.as rfl) rfl<|At (.as rfl) rfl<|Da (λa8 L=>?_)
 have N:=CZ.below s L
 refine Ai (Ex rfl rfl rfl ?_)
 exact ⟨D1 (by rw [A6 aS];(first | done | rfl)),N⟩
 have K:=JZ u
 refine W.k<|A4<|A2 rfl<|Dp rfl<|A9 rfl<|Ai (Ex rfl rfl rfl ?_)
 exact ⟨D1 (by rw [A1 (λh=>h aS)];(first | done | rfl)),s⟩
end
section
open Go.RowKit Go.WideShapes Go.ChangeShapes
section
variable {P:Program} {f:Fr}
theorem Bx.s2a  {arr:TypeId} {len:Nat} (hu:P.underlying arr=some (.array m e)) (hx:D0 f x=some (.slice p len c)) (hl:m<=len):Bx P (.sliceToArrayPointer arr x) f (.pointer p):=λρ hρ d ty' pos aft g w=>by
 simp [execOp,hρ _ _ hx,Instr.arrayAt,B8 hu,Nat.not_lt.2 hl]
end
theorem A72  {L:Fe α} {L':Fe β} {t:TypeId} {l:List α} {dd:TypeDesc} (hu:P.underlying t=some dd) (hdd:dd.isRow=true) (hi:(P.info? t).map (·.size)=some L'.m) (hr:Be L w p l) (y:β)
  (e:L.flat l=L'.V y) (hl:0<l.length) (hx:D0 f x=some (.pointer p)):Rd P (.load t x) f w (.agg (L'.V y).toArray):=by
 have hp:=hr.isp hl
 have hr':Be L' w p [y]:=by
  refine FZ (λ_=>hp) λk v hk=>?_
  have hk':(L'.V y)[k]?=some v:=by simpa [Fe.flat] using hk
  exact hr.flat k v (by rw [e];exact hk')
 exact DP (P:=P) (f:=f) (x:=x) hu hdd hi hr' 0 (by simp) (by rw [hx,hp];show _=some (Value.pointer (some ((pA (some (pA p))).add (0 * L'.m))));rw [Nat.zero_mul,EU];rfl)
end
section
def QI (m:Int) (v:Value) (s n:BQ):Array Value:=#[.int .i64 m,v,.int .i64 s.fX,.int .i64 s.fY,.int .i64 n.fX,.int .i64 n.fY]
theorem A2n {l:List CK} (h:0<l.length):Ib l=(l[l.length-1]'oO).fKind:=by
 unfold Ib
 rw [List.getLast?_eq_getElem?,A7 oO]
theorem NM (bp:Nat) (m:Int) (p:Option Addr) (c:Nat) (P:CP) (w:World) (h:AF w bp (QI m (.slice p P.list.length c) P.start P.now) 97) (hr:Be Fq w p P.list) (hl:P.list.length<=1000000) :
  Calls Tryz.prog 105 #[.pointer (some ⟨bp,0,none⟩)] w λr w'=>r=.returned (.int .i64 (Ib P.list))/\Below w.heap.size w w':=by
 refine W.e func105 rfl ntmps105 bL ?_
 have f:=EM (w.heap.size) w
 refine A4<|A9 rfl<|Ah<|A4<|A2 rfl<|A0 (.nck rfl)<|A0 (.fa Kb rfl IL dD rfl)<|Ag (Ad (JL _) rfl h rfl)<|A0 (.lenS Fj rfl)<|A0 (.eql rfl rfl)<|WL.e<|Ac rfl (λg=>?_) (λg=>?_)
 have i:=dT g
 refine A4<|A9 rfl<|Ai (AZ rfl rfl ?_)
 exact ⟨D1 (by rw [Cz (l:=P.list) oO];rfl),f⟩
 have i:=dF g
 have o:0<P.list.length:=by omega
 have hk:=A2n o
 refine W.k<|Ah<|Dr 14 rfl C7 (λw'=>w'.heap[bp]?=w.heap[bp]?/\Be Fq w' p P.list/\True) (λq d=>?_)
 have b:=h.drew d
 have a:=hr.drew d
 have j:=CZ.below f d
 refine Af 0 rfl (.mv rfl) ⟨(b).trans (h).symm,a,tT⟩ rfl ?_
 refine Af 1 rfl (.nck rfl) ⟨(b).trans (h).symm,a,tT⟩ rfl ?_
 refine Af 2 rfl (.fa Kb rfl IL dD rfl) ⟨(b).trans (h).symm,a,tT⟩ rfl ?_
 refine BY 3 rfl (λw' hw'=>Ad (JL _) rfl ((hw'.1).trans h) rfl) ⟨(b).trans (h).symm,a,tT⟩ rfl ?_
 refine Af 4 rfl (.mv rfl) ⟨(b).trans (h).symm,a,tT⟩ rfl ?_
 refine Af 5 rfl (.nck rfl) ⟨(b).trans (h).symm,a,tT⟩ rfl ?_
 refine Af 6 rfl (.fa Kb rfl IL dD rfl) ⟨(b).trans (h).symm,a,tT⟩ rfl ?_
 refine BY 7 rfl (λw' hw'=>Ad (JL _) rfl ((hw'.1).trans h) rfl) ⟨(b).trans (h).symm,a,tT⟩ rfl ?_
 refine Af 8 rfl (.lenS Fj rfl) ⟨(b).trans (h).symm,a,tT⟩ rfl ?_
 refine Af 9 rfl (.sub rfl rfl (Bp oO)) ⟨(b).trans (h).symm,a,tT⟩ rfl ?_
 refine Af 10 rfl (.ixm Fj Kq rfl rfl (a.isp oC) ((P.list.length-1)) oO oO) ⟨(b).trans (h).symm,a,tT⟩ rfl ?_
 refine Af 11 rfl (.fa JF rfl B5 dD rfl) ⟨(b).trans (h).symm,a,tT⟩ rfl ?_
 refine BY 12 rfl (λw' hw'=>AO (Bw _) rfl (((hw'.2.1).field ((P.list.length-1)) oC 0 dD).trans rfl)) ⟨(b).trans (h).symm,a,tT⟩ rfl ?_
 refine Af 13 rfl (.as rfl) ⟨(b).trans (h).symm,a,tT⟩ rfl ?_
 refine Bd kR<|Ai (AZ rfl rfl ?_)
 exact ⟨D1 (by rw [hk]),j⟩
theorem BO  {L:Fe α} {t:TypeId} {b:Nat} {l:List α} {cs:Array Value} (h:AD L e B w v l) (hb:AF w b cs t) (he:e≠t):∀ g,v.ownBlock=some g->g≠b:=λg hg hgb=>by
 rcases h with ⟨rfl,-⟩ | ⟨g1,cap,cur,rfl,-,h1,-⟩
 · cases hg
 ·
  cases hg
  have hgb:g1=b:=hgb
  rw [hgb,show w.heap[b]?=_ from hb] at h1
  simp only [Bm,Obj.cells.injEq] at h1
  exact he h1.2.1.symm
def vb (v:Value) (b:Nat):Nat:=v.ownBlock.getD b
structure CG (B:Nat) (w:World) (bp:Nat) (m:Int) (P:CP) (v:Value):Prop where
 blk:AF w bp (QI m v P.start P.now) 97
 own:AD Fq 94 B w v P.list
 len:(P.list.length:Int)<=m/\m<=1000000
 base:B<=w.heap.size
theorem CG.sep  {m:Int} {P:CP} (h:CG B w bp m P v):∀ g,v.ownBlock=some g->g≠bp:=BO h.own h.blk dD
def FK (w:World) (v v':Value):Prop:=∀ g,v'.ownBlock=some g->v.ownBlock=some g\/w.heap.size<=g
theorem FK.refl (w:World) (v:Value):FK w v v:=λ_ h=>.inl h
theorem FK.mono  (h:∀ g,v'.ownBlock=some g->v.ownBlock=some g\/w1.heap.size<=g) (hs:w.heap.size<=w1.heap.size):FK w v v':=λg hg=>(h g hg).imp id λh=>AW hs h
theorem FK.sep  {b:Nat} (h:FK w v v') (hs:∀ g,v.ownBlock=some g->g≠b) (hb:b<w.heap.size):∀ g,v'.ownBlock=some g->g≠b:=λg hg=>by
 rcases h g hg with h | h
 · exact hs g h
 · omega
def A0N (B:Nat) (w:World) (bp:Nat) (m:Int) (v:Value) (r:CP × Int) (e:Ending) (w':World):Prop :=
 e=.returned (.int .i64 r.2)/\AB w.heap.size [bp,vb v bp] w w'/\∃ v',CG B w' bp m r.1 v'/\FK w v v'
theorem A5A:(Tryz.prog.info? 94).map (λi=>(i.zero,i.size,i.bytes))=some (some (.agg (JG ⟨0,Fv,Fv,Fv⟩).toArray),7,56):=by kernel_rfl
theorem HQ (B bp:Nat) (m:Int) (v:Value) (P:CP) (t:BQ) (q:Option Addr) (l:List CK) (c:Nat) (w:World) (h:CG B w bp m P v) (hr:Be Fq w q l) (hl:l.length<=10) (hc:l=[]->c=0\/q≠none) :
  Calls Tryz.prog 106 #[.pointer (some ⟨bp,0,none⟩),.agg (DH t).toArray,.slice q l.length c] w (A0N B w bp m v (G4 m P t l)):=by
 have E:=h.sep
 obtain ⟨t0,ai⟩:∃ x,x=t:=⟨t,rfl⟩
 subst ai
 obtain ⟨G,F,a2,a3⟩:=h
 have L:=F.lt
 obtain ⟨p,cc,rfl,-,-,-,-⟩:=F.row
 refine W.e func106 rfl ntmps106 bL ?_
 have a0:=AB.refl w.heap.size ([bp,vb (.slice p P.list.length cc) bp]) w
 refine A4<|CU rfl rfl (λb1 aj H a4 i au=>?_)
 have a5:=AW a3 i.size
 have ak:=GU F H i
 have al:=Bg H G.lt
 have J:=G.un i al
 have a6:=λh0=>H▸hr.lt h0
 have am:=Be.upd hr i (λh0=>Js (a6 h0))
 have T:=Cq H a0.size
 have an:=DA a0 (Hf i T)
 refine A9 rfl<|Ah<|Ah<|Dr 13 rfl C7 (λw'=>w'.heap[bp]?=aj.heap[bp]?/\True) (λw9 j=>?_)
 have s:=CZ.le a5 j
 have N:=AD.drew ak j
 have u:=J.drew j
 have a7:=a4.drew j
 have a8:=am.drew j
 have f:=DA an (Q8 j)
 have a:=Dm (u.trans J.symm) BG
 refine Af 0 rfl (.mv rfl) a rfl ?_
 refine Af 1 rfl (.nck rfl) a rfl ?_
 refine Af 2 rfl (.fa Kb rfl IL dD rfl) a rfl ?_
 refine BY 3 rfl (λw' hw'=>Ad (JL _) rfl ((hw'.1).trans J) rfl) a rfl ?_
 refine Af 4 rfl (.lenS Fj rfl) a rfl ?_
 refine Af 5 rfl (.mv rfl) a rfl ?_
 refine Af 6 rfl (.lenS Fj rfl) a rfl ?_
 refine Af 7 rfl (.add rfl rfl (Bp oO)) a rfl ?_
 refine Af 8 rfl (.mv rfl) a rfl ?_
 refine Af 9 rfl (.nck rfl) a rfl ?_
 refine Af 10 rfl (.fa Kb rfl B5 dD rfl) a rfl ?_
 refine BY 11 rfl (λw' hw'=>Ad (Bw _) rfl ((hw'.1).trans J) rfl) a rfl ?_
 refine Af 12 rfl (.gtr rfl rfl) a rfl ?_
 refine Bd kR<|Ac rfl (λQ=>?_) (λQ=>?_)
 have a9:=dT Q
 refine A4<|A9 rfl<|Ai (AZ rfl rfl ?_)
 exact ⟨D1 (by unfold G4;rw [A6 oO]),f,_,⟨by unfold G4;rw [A6 oO];exact u,by unfold G4;rw [A6 oO];exact N,by unfold G4;rw [A6 oO];exact a2,s⟩,FK.refl _ _⟩
 have a9:=dF Q
 refine W.k<|A4<|A2 rfl<|A2 rfl<|A0 (.nck rfl)<|A0 (.fa Kb rfl IL dD rfl)<|Ag (Ad (JL _) rfl u rfl)<|A2 rfl<|CW Fj A5A rfl rfl rfl N rfl a8 oO (s) rfl (hc) (λa1 av K U y A=>?_)
 have aa:=u.grown y (λe=>E _ e rfl)
 have ab:=a7.grown y (λe=>by have:=L _ e;omega)
 have ac:=DA f (C1 y (λg hg=>.inl (by have hg:(Value.slice p P.list.length cc).ownBlock=some g:=hg;unfold vb;rw [hg];simp)) f.size)
 have V:=AW s U.size
 refine A0 (.nck rfl)<|A0 (.fa Kb rfl IL dD rfl)<|C2 (o:=1) ((QI m a1 P.start P.now)) IL rfl (rfl) rfl ((K).one) aa bL (rfl) (λao C b aq=>?_)
 have C:AF ao bp _ _:=C
 have b:BF bp _ _:=b
 have X:=AW V b.size
 have ad:=Ia K b (λg hg=>FK.sep (FK.mono A f.size) E G.lt g hg)
 have ae:=ab.up b
 have af:=kU ac b
 refine WL.e<|A4<|A2 rfl<|Ag (BA rfl ae CS rfl Ca)<|A0 (.nck rfl)<|A0 (.fa Kb rfl Fs dD rfl)<|Eh (o:=4) ((QI m a1 P.start t0)) rfl (rfl) rfl C Ca rfl bL (rfl) (λap D d ar=>?_)
 have D:AF ap bp _ _:=D
 have d:BF bp _ _:=d
 have Y:=AW X d.size
 have ag:=Ia ad d (λg hg=>FK.sep (FK.mono A f.size) E G.lt g hg)
 have ah:=kU af d
 refine WL.e<|A4<|A9 rfl<|Ai (AZ rfl rfl ?_)
 exact ⟨D1 (by unfold G4;rw [A1 oO]),ah,_,⟨by unfold G4;rw [A1 oO];exact D,by unfold G4;rw [A1 oO];exact ag,by unfold G4;rw [A1 oO];simp only [A5];omega,Y⟩,FK.mono A f.size⟩
end
section
theorem A1s  (l:List α) (x:α) (h:0<l.length):l.set (l.length-1) x=l.dropLast++[x]:=by
 rcases List.eq_nil_or_concat l with rfl | ⟨m,y,rfl⟩
 · simp at h
 · simp [List.concat_eq_append]
theorem PA:Tryz.prog.built 92=λCl=>Instr.fill (λi=>some (i * 2,2)) #[.int .i64 0,.int .i64 0,.int .i64 0,.int .i64 0,.int .i64 0,.int .i64 0] Cl:=by kernel_rfl
theorem blS:Tryz.prog.built 94=λCl=>Instr.fill (([(0,1),(1,6)]:List (Nat × Nat)).toArray[·]?) #[.int .i64 0,.int .i64 0,.int .i64 0,.int .i64 0,.int .i64 0,.int .i64 0,.int .i64 0] Cl:=by kernel_rfl
def Vc (a b c:BQ):Array Value:=#[.int .i64 a.fX,.int .i64 a.fY,.int .i64 b.fX,.int .i64 b.fY,.int .i64 c.fX,.int .i64 c.fY]
theorem A0g {l:List CK} (h:Ib l≠0):0<l.length:=by
 rcases Ho l.length with a | a
 · rw [Cz a] at h;exact CM rfl h
 · exact a
theorem NA  {b:Nat} {l:List CK} (h:AD Fq e B w v l) (hb:b<w.heap.size):vb v b<w.heap.size:=by
 unfold vb
 cases hv:v.ownBlock with
 | none=>exact hb
 | some g=>exact (h.lt g hv).2
theorem Ve (B bp:Nat) (m:Int) (v:Value) (P:CP) (a:BQ) (w:World) (h:CG B w bp m P v) :
  Calls Tryz.prog 76 #[.pointer (some ⟨bp,0,none⟩),.agg (DH a).toArray] w (A0N B w bp m v (GC m P a)):=by
 have X:=h.sep
 have hP:=h
 obtain ⟨ar,Y,au,bv⟩:=h
 have F:=Y.lt
 have aL:=ar.lt
 have cu:=NA Y aL
 obtain ⟨p,cc,rfl,-,-,-,-⟩:=Y.row
 refine W.e func76 rfl ntmps76 bL ?_
 have bi:=AB.refl w.heap.size ([bp,vb (.slice p P.list.length cc) bp]) w
 refine A4<|CU rfl rfl (λb1 cB av a9 a0 cv=>?_)
 have bw:=AW bv a0.size
 have c3:=GU Y av a0
 have c4:=Bg av ar.lt
 have bj:=ar.un a0 c4
 have aM:=Cq av bi.size
 have bk:=DA bi (Hf a0 aM)
 refine A9 rfl<|Ah<|W.b<|A4<|A2 rfl<|A0 (.bis (false) (.eqP WF rfl) (by rfl))<|A9 rfl<|DS rfl rfl<|A4<|Ag (BA rfl a9 CS rfl Ca)<|Cu (L:=Ed) (ps:=_) ([a]) G1 Fs LG rfl rfl rfl rfl rfl rD rfl rfl (λb7 c5 ag bx T cw=>?_)
 have bz:=AW bw T.size
 have c6:=GU c3 ag T
 have bA:=Bg ag bj.lt
 have bB:=bj.un T bA
 have bC:=Bg ag a9.lt
 have bD:=a9.un T bC
 have aN:=Cq ag bk.size
 have bE:=DA bk (Hf T aN)
 have aO:b7<=c5.heap.size:=by omega
 refine WL.c1 AN rfl rfl ((OP _ [a] 1 _ (bx).rowp (by simp))) (λcC K=>?_)
 have ah:=AW bz K.size
 have aw:=AD.below c6 K
 have aP:=AW aO K.size
 have aa:=bB.bl K
 have ab:=bD.bl K
 have ac:=kB bE K
 refine A0 (.not rfl)<|A9 rfl<|Ac rfl (λax=>?_) (λax=>?_)
 have bG:=(nT ax)
 have y:C5 a=false:=by simpa using (show ([a].all C5)=false by assumption)
 refine A4<|A9 rfl<|Ai (AZ rfl rfl ?_)
 exact ⟨D1 (by unfold GC;rw [A6 y]),ac,_,⟨by unfold GC;rw [A6 y];exact aa,by unfold GC;rw [A6 y];exact aw,by unfold GC;rw [A6 y];exact au,ah⟩,FK.refl _ _⟩
 have bG:=(nF ax)
 have y:C5 a=true:=by simpa using (show ([a].all C5)=true by assumption)
 refine W.k<|A4<|Ag (BA rfl ab CS rfl Ca)<|?_
 refine A0 (.build (cs:=Vc a Fv Fv) rfl (by rw [PA];rfl)) ?_
 refine A0 (.build (cs:=(JG (Gp 1 a)).toArray) rfl (by rw [blS];rfl)) ?_
 refine BV Ov rfl (λbm cy a1 aQ A cm=>?_)
 have aR:=AW ah A.size
 have bH:=GU aw a1 A
 have aT:=AW aP A.size
 have bI:=Bg a1 aa.lt
 have bJ:=aa.un A bI
 have bK:=Bg a1 ab.lt
 have bM:=ab.un A bK
 have ay:=Cq a1 ac.size
 have bN:=DA ac (Hf A ay)
 refine Az rfl rfl aQ K0 rfl rfl (λcD aU t cn=>?_)
 have aV:=AW aR t.size
 have az:=Ia bH t (λg hg e=>by first | (exact X g hg e) | (have:=F g hg;omega))
 have aW:=AW aT t.size
 have aA:=bJ.up t
 have bO:=bM.up t
 have bP:=DA bN (by first | exact Hf t oO | exact Tf t G | exact Tf t (by simp))
 refine WL.e<|Ah<|A4<|A2 rfl<|WL.c1 AN rfl rfl ((NM bp m p cc P _ aA (az).rowp oO)) (λbn D=>?_)
 have ai:=AW aV D.size
 have ad:=AD.below az D
 have aj:=AW aW D.size
 have c:=aA.bl D
 have a2:=bO.bl D
 have d:=aU.bl D
 have ae:=kB bP D
 refine A0 (.eql rfl rfl)<|WL.e<|Ac rfl (λaB=>?_) (λaB=>?_)
 have bQ:=dT aB
 have h0:=A0g (l:=P.list) oO
 have c7:=(ad).rowp.isp h0
 refine Ah<|Dr 13 rfl C7 (λw'=>w'.heap[bp]?=bn.heap[bp]?/\w'.heap[bm]?=bn.heap[bm]?/\True) (λcE E=>?_)
 have aX:=CZ.le ai E
 have aC:=AD.drew ad E
 have aY:=CZ.le aj E
 have f:=c.drew E
 have bR:=a2.drew E
 have i:=d.drew E
 have bS:=DA ae (Q8 E)
 refine Af 0 rfl (.mv rfl) ⟨(f).trans (c).symm,(i).trans (d).symm,tT⟩ rfl ?_
 refine Af 1 rfl (.nck rfl) ⟨(f).trans (c).symm,(i).trans (d).symm,tT⟩ rfl ?_
 refine Af 2 rfl (.fa Kb rfl IL dD rfl) ⟨(f).trans (c).symm,(i).trans (d).symm,tT⟩ rfl ?_
 refine BY 3 rfl (λw' hw'=>Ad (JL _) rfl ((hw'.1).trans c) rfl) ⟨(f).trans (c).symm,(i).trans (d).symm,tT⟩ rfl ?_
 refine Af 4 rfl (.mv rfl) ⟨(f).trans (c).symm,(i).trans (d).symm,tT⟩ rfl ?_
 refine Af 5 rfl (.nck rfl) ⟨(f).trans (c).symm,(i).trans (d).symm,tT⟩ rfl ?_
 refine Af 6 rfl (.fa Kb rfl IL dD rfl) ⟨(f).trans (c).symm,(i).trans (d).symm,tT⟩ rfl ?_
 refine BY 7 rfl (λw' hw'=>Ad (JL _) rfl ((hw'.1).trans c) rfl) ⟨(f).trans (c).symm,(i).trans (d).symm,tT⟩ rfl ?_
 refine Af 8 rfl (.lenS Fj rfl) ⟨(f).trans (c).symm,(i).trans (d).symm,tT⟩ rfl ?_
 refine Af 9 rfl (.sub rfl rfl (Bp oO)) ⟨(f).trans (c).symm,(i).trans (d).symm,tT⟩ rfl ?_
 refine BY 10 rfl (λw' hw'=>BA rfl ((hw'.2.1).trans d) JF rfl K0) ⟨(f).trans (c).symm,(i).trans (d).symm,tT⟩ rfl ?_
 refine Af 11 rfl (.ixm Fj Kq rfl rfl c7 (P.list.length-1) oO oO) ⟨(f).trans (c).symm,(i).trans (d).symm,tT⟩ rfl ?_
 refine An 12 rfl<|RM (L:=Fq) (Gp 1 a) (P.list.length-1) aC oO K0 rfl rfl rfl (λc8 ak H u aZ=>?_)
 have c9:=(aC).lt ak (by rw [H];rfl)
 have cF:=X ak (by rw [H];rfl)
 have cz:=(F ak (by rw [H];rfl)).2
 have G:ak∈[bp,vb (.slice p P.list.length cc) bp]:=by rw [H];exact List.mem_cons_of_mem _ (Am.2 rfl)
 have a':=AW aY u.size
 have aD:=f.up u
 have N:=bR.up u
 have bT:=i.up u
 have bU:=DA bS (by first | exact Hf u oO | exact Tf u G | exact Tf u (by simp))
 have b0:=AW aX u.size
 refine WL.e<|⟨⟨(aD).trans (c).symm,(bT).trans (d).symm,tT⟩,?_⟩
 refine Bd kR<|Ah<|Dr 10 rfl C7 (λw'=>w'.heap[b1]?=c8.heap[b1]?/\True) (λcG Q=>?_)
 have b2:=CZ.le a' Q
 have b3:=CZ.le b0 Q
 have bV:=AD.drew aZ Q
 have bW:=aD.drew Q
 have aE:=N.drew Q
 have bX:=DA bU (Q8 Q)
 have V:=Dm (aE.trans N.symm) BG
 refine Af 0 rfl (.mv rfl) V rfl ?_
 refine Af 1 rfl (.mv rfl) V rfl ?_
 refine BY 2 rfl (λw' hw'=>BA rfl ((hw'.1).trans N) CS rfl Ca) V rfl ?_
 refine BY 3 rfl (λw' hw'=>BA rfl ((hw'.1).trans N) CS rfl Ca) V rfl ?_
 refine Af 4 rfl (.nck rfl) V rfl ?_
 refine Af 5 rfl (.fa Kb rfl Fs dD rfl) V rfl ?_
 refine An 6 rfl<|Eh (o:=2) ((QI m (.slice p P.list.length cc) a P.now)) rfl (rfl) rfl bW Ca rfl bL (rfl) (λca a3 j co=>?_)
 have a3:AF ca bp _ _:=a3
 have j:BF bp _ _:=j
 have b4:=AW b2 j.size
 have b5:=AW b3 j.size
 have bY:=Ia bV j (λg hg e=>by first | (exact X g hg e) | (have:=F g hg;omega))
 have aF:=aE.up j
 have bZ:=DA bX (by first | exact Hf j oO | exact Tf j G | exact Tf j (by simp))
 refine WL.e<|?_
 have aG:=Dm (aF.trans N.symm) BG
 refine ⟨aG,?_⟩
 refine Af 7 rfl (.nck rfl) aG rfl ?_
 refine Af 8 rfl (.fa Kb rfl Fs dD rfl) aG rfl ?_
 refine An 9 rfl<|Eh (o:=4) ((QI m (.slice p P.list.length cc) a a)) rfl (rfl) rfl a3 Ca rfl bL (rfl) (λcb a4 q cq=>?_)
 have a4:AF cb bp _ _:=a4
 have q:BF bp _ _:=q
 have cr:=AW b4 q.size
 have aH:=AW b5 q.size
 have b':=Ia bY q (λg hg e=>by first | (exact X g hg e) | (have:=F g hg;omega))
 have b6:=aF.up q
 have b8:=DA bZ (by first | exact Hf q oO | exact Tf q G | exact Tf q (by simp))
 refine WL.e<|⟨⟨(b6).trans (N).symm,tT⟩,?_⟩
 refine Bd kR<|A4<|A9 rfl<|Ai (AZ rfl rfl ?_)
 have a6:GC m P a=(⟨P.list.dropLast++[Gp 1 a],a,a⟩,0):=by unfold GC;rw [A1 (by rw [y];decide),A6 aS]
 rw [a6]
 exact ⟨rfl,b8,_,⟨a4,by rw [<- A1s _ _ h0];exact b',by simp only [A5,List.length_dropLast,CD];omega,aH⟩,FK.refl _ _⟩
 have bQ:=dF aB
 refine W.k<|A4<|A2 rfl<|Ag (BA rfl a2 CS rfl Ca)<|Ag (BA rfl d JF rfl K0)<|Cu (L:=Fq) (ps:=_) ([Gp 1 a]) Fj Kq Ov rfl rfl rfl rfl rfl rD rfl rfl (λc0 b9 J aI x cd=>?_)
 have a7:=AW ai x.size
 have ba:=GU ad J x
 have aJ:=AW aj x.size
 have bb:=Bg J c.lt
 have bc:=c.un x bb
 have bd:=Bg J a2.lt
 have am:=a2.un x bd
 have ct:=Bg J d.lt
 have ap:=Cq J ae.size
 have a5:=DA ae (Hf x ap)
 have aq:c0<=b9.heap.size:=by omega
 refine WL.c1 AN rfl rfl ((HQ B bp m _ P a _ [Gp 1 a] 1 _ ⟨bc,ba,au,a7⟩ (aI).rowp (by simp) (λh=>by simp at h))) (λcA C=>?_)
 have cf:=AW a7 C.1.size
 have cg:=AW aJ C.1.size
 have ci:=AW aq C.1.size
 have be:=Dl am C.1 am.lt (by simp only [Ar,AA,C8,not_or,AY];omega)
 have an:=DA a5 (AB.wide C.1 a5.size (by simp <;> omega))
 obtain ⟨v1,a8,cj⟩:=C.2
 have bo:=a8.blk
 have bq:=a8.own
 have ao:=a8.base
 have bt:=FK.mono cj a5.size
 have ck:=a8.sep
 have bu:=a8.len
 refine A9 rfl<|Ah<|A4<|A2 rfl<|A0 (.eql rfl rfl)<|WL.e<|Ac rfl (λaf=>?_) (λaf=>?_)
 have bf:=dT af
 refine Ak<|A2 rfl<|Ag (BA rfl be CS rfl Ca)<|A0 (.nck rfl)<|A0 (.fa Kb rfl Fs dD rfl)<|Eh (o:=2) ((QI m v1 a (G4 m P a [Gp 1 a]).1.now)) rfl (rfl) rfl bo Ca rfl bL (rfl) (λc2 U s cl=>?_)
 have U:AF c2 bp _ _:=U
 have s:BF bp _ _:=s
 have aK:=AW ao s.size
 have bg:=Ia bq s (ck)
 have bh:=DA an (by first | exact Hf s oO | exact Tf s G | exact Tf s (by simp))
 refine WL.e<|A4<|A2 rfl<|A9 rfl<|Ai (AZ rfl rfl ?_)
 have a6:GC m P a=({ (G4 m P a [Gp 1 a]).1 with start:=a },(G4 m P a [Gp 1 a]).2):=by unfold GC;rw [A1 (by rw [y];decide),A1 aS,A6 aS]
 rw [a6]
 exact ⟨rfl,bh,_,⟨U,bg,bu,aK⟩,bt⟩
 have bf:=dF af
 refine W.k<|A4<|A2 rfl<|A9 rfl<|Ai (AZ rfl rfl ?_)
 have a6:GC m P a=((G4 m P a [Gp 1 a]).1,(G4 m P a [Gp 1 a]).2):=by unfold GC;rw [A1 (by rw [y];decide),A1 aS,A1 aS]
 rw [a6]
 exact ⟨rfl,an,_,⟨bo,bq,bu,ao⟩,bt⟩
end
section
theorem Vd (B bp:Nat) (m:Int) (v:Value) (P:CP) (s:CK) (q:BQ) (w:World) (h:CG B w bp m P v) :
    Calls Tryz.prog 109 #[.pointer (some ⟨bp,0,none⟩),.agg (JG s).toArray,.agg (DH q).toArray] w (A0N B w bp m v (Fw m P s q)):=by
  have df:=h.sep;obtain ⟨aP,a8,t,bW⟩:=h;have cA:=a8.lt;have ba:=aP.lt;have dg:=NA a8 ba;obtain ⟨p,cc,rfl,-,-,-,-⟩:=a8.row;refine W.e func109 rfl ntmps109 bL ?_;have bS:=AB.refl w.heap.size ([bp,vb (.slice p P.list.length cc) bp]) w;refine A4<|CU rfl rfl (λb1 dx aQ aR a9 dh=>?_);have bX:=AW bW a9.size;have cB:=GU a8 aQ a9;have cC:=Bg aQ aP.lt;have bT:=aP.un a9 cC;have bb:=Cq aQ bS.size;have bU:=DA bS (Hf a9 bb);refine CU rfl rfl (λb7 dy aA bY a3 di=>?_);have bZ:=AW bX a3.size;have bV:=GU cB aA a3;have b':=Bg aA bT.lt;have aT:=bT.un a3 b';have c0:=Bg aA aR.lt;have c2:=aR.un a3 c0;have bc:=Cq aA bU.size;have c3:=DA bU (Hf a3 bc);refine A9 rfl<|Ah<|A4<|A2 rfl<|WL.c1 AN rfl rfl ((NM bp m p cc P _ aT (bV).rowp oO)) (λdz K=>?_);have aa:=AW bZ K.size;have ar:=AD.below bV K;have ab:=aT.bl K;have au:=c2.bl K;have av:=bY.bl K;have ac:=kB c3 K;refine WL.e<|W.b<|A4<|A0 (.eql rfl rfl)<|A9 rfl<|Ac rfl (λaU=>?_) (λaU=>?_)
  · have c4 := dT aU
    refine A4<|A9 rfl<|Ai (AZ rfl rfl ?_)
    (have f : Fw m P s q = (P, 10) := A6 aS
     rw [f];exact ⟨rfl,ac,_,⟨ab,ar,t,aa⟩,FK.refl _ _⟩)
  have c4:=dF aU;refine A4<|A0 (.eql rfl rfl)<|A9 rfl<|Ac rfl (λaV=>?_) (λaV=>?_)
  · have c5 := dT aV
    refine Ah<|Ma 12 rfl C7 (λdA N=>?_);have o:=CZ.le aa N;have u:=AD.drew ar N;have a:=ab.drew N;have g:=au.drew N;have d:=av.drew N;have c:=DA ac (Q8 N);refine Bh 0 rfl (.mv rfl) rfl<|Bh 2 rfl (.mv rfl) rfl<|Bh 3 rfl (.nck rfl) rfl<|Bh 4 rfl (.fa Kb rfl Fs dD rfl) rfl<|TB [1,5,8] kR rfl ⟨⟨_,rfl,?_⟩,⟨_,rfl,?_⟩,⟨_,rfl,?_⟩,tT⟩;refine Ag (BA rfl d CS rfl Ca)<|WL.e<|E9 5 rfl 8 rfl ?_ ?_;refine Ag (Ck (L:=Ed) CS rfl Ca a (P.now) (rfl) rfl)<|WL.e<|?_;refine Bh 6 rfl (.build (cs:=Vc P.now Fv Fv) rfl (by rw [PA];rfl)) rfl ?_;refine Bh 7 rfl (.build (cs:=(JG (Gp 1 P.now)).toArray) rfl (by rw [blS];rfl)) rfl ?_;refine Ay 8 rfl<|Ag (BA rfl g JF rfl K0)<|WL.e<|Ay 9 rfl<|Cu (L:=Fq) (ps:=_) ([Gp 1 P.now,s]) Fj Kq Ov rfl rfl rfl rfl rfl rD rfl rfl (λcD c6 a4 bd Q cY=>?_);have aB:=AW o Q.size;have c7:=GU u a4 Q;have c8:=Bg a4 a.lt;have c9:=a.un Q c8;have dj:=Bg a4 g.lt;have dk:=Bg a4 d.lt;have aW:=Cq a4 c.size;have aw:=DA c (Hf Q aW);have aX:cD<=c6.heap.size:=by omega
    refine WL.e<|Ay 10 rfl<|WL.c1 AN rfl rfl ((HQ B bp m _ P q _ [Gp 1 P.now,s] 2 _ ⟨c9,c7,t,aB⟩ (bd).rowp (by simp) (λh=>by simp at h))) (λdB ad=>?_);have cZ:=AW aB ad.1.size;have c':=AW aX ad.1.size;have ca:=DA aw (AB.wide ad.1 aw.size (by simp <;> omega));obtain ⟨v1,i,j⟩:=ad.2;have l:=FK.mono j aw.size;refine WL.e<|Bh 11 rfl (.as rfl) rfl<|C3 kR<|Ai (AZ rfl rfl ?_)
    (have f : Fw m P s q = G4 m P q [Gp 1 P.now, s] := by unfold Fw; rw [A1 aS, A6 aS]
     rw [f];exact ⟨rfl,ca,_,i,l⟩)
    refine Ag (BA rfl g JF rfl K0)<|WL.e<|Ay 5 rfl<|Ag (Ck (L:=Ed) CS rfl Ca a (P.now) (rfl) rfl)<|WL.e<|?_;refine Bh 6 rfl (.build (cs:=Vc P.now Fv Fv) rfl (by rw [PA];rfl)) rfl ?_;refine Bh 7 rfl (.build (cs:=(JG (Gp 1 P.now)).toArray) rfl (by rw [blS];rfl)) rfl ?_;refine Ay 9 rfl<|Cu (L:=Fq) (ps:=_) ([Gp 1 P.now,s]) Fj Kq Ov rfl rfl rfl rfl rfl rD rfl rfl (λcE cb a5 be T d0=>?_);have aC:=AW o T.size;have cd:=GU u a5 T;have cf:=Bg a5 a.lt;have cg:=a.un T cf;have dl:=Bg a5 g.lt;have dm:=Bg a5 d.lt;have aY:=Cq a5 c.size;have ax:=DA c (Hf T aY);have aZ:cE<=cb.heap.size:=by omega
    refine WL.e<|Ay 10 rfl<|WL.c1 AN rfl rfl ((HQ B bp m _ P q _ [Gp 1 P.now,s] 2 _ ⟨cg,cd,t,aC⟩ (be).rowp (by simp) (λh=>by simp at h))) (λdC ae=>?_);have d1:=AW aC ae.1.size;have d2:=AW aZ ae.1.size;have ci:=DA ax (AB.wide ae.1 ax.size (by simp <;> omega));obtain ⟨v1,i,j⟩:=ae.2;have l:=FK.mono j ax.size;refine WL.e<|Bh 11 rfl (.as rfl) rfl<|C3 kR<|Ai (AZ rfl rfl ?_)
    (have f : Fw m P s q = G4 m P q [Gp 1 P.now, s] := by unfold Fw; rw [A1 aS, A6 aS]
     rw [f];exact ⟨rfl,ci,_,i,l⟩)
    refine Ag (Ck (L:=Ed) CS rfl Ca a (P.now) (rfl) rfl)<|WL.e<|?_;refine Bh 6 rfl (.build (cs:=Vc P.now Fv Fv) rfl (by rw [PA];rfl)) rfl ?_;refine Bh 7 rfl (.build (cs:=(JG (Gp 1 P.now)).toArray) rfl (by rw [blS];rfl)) rfl ?_;refine E9 1 rfl 8 rfl ?_ ?_;refine Ag (BA rfl d CS rfl Ca)<|WL.e<|Ay 8 rfl<|Ag (BA rfl g JF rfl K0)<|WL.e<|Ay 9 rfl<|Cu (L:=Fq) (ps:=_) ([Gp 1 P.now,s]) Fj Kq Ov rfl rfl rfl rfl rfl rD rfl rfl (λcF cj a6 bf U d3=>?_);have aD:=AW o U.size;have ck:=GU u a6 U;have cl:=Bg a6 a.lt;have cm:=a.un U cl;have dn:=Bg a6 g.lt;have dp:=Bg a6 d.lt;have a':=Cq a6 c.size;have ay:=DA c (Hf U a');have b0:cF<=cj.heap.size:=by omega
    refine WL.e<|Ay 10 rfl<|WL.c1 AN rfl rfl ((HQ B bp m _ P q _ [Gp 1 P.now,s] 2 _ ⟨cm,ck,t,aD⟩ (bf).rowp (by simp) (λh=>by simp at h))) (λdE af=>?_);have d4:=AW aD af.1.size;have d5:=AW b0 af.1.size;have cn:=DA ay (AB.wide af.1 ay.size (by simp <;> omega));obtain ⟨v1,i,j⟩:=af.2;have l:=FK.mono j ay.size;refine WL.e<|Bh 11 rfl (.as rfl) rfl<|C3 kR<|Ai (AZ rfl rfl ?_)
    (have f : Fw m P s q = G4 m P q [Gp 1 P.now, s] := by unfold Fw; rw [A1 aS, A6 aS]
     rw [f];exact ⟨rfl,cn,_,i,l⟩)
    refine Ag (BA rfl g JF rfl K0)<|WL.e<|E9 1 rfl 9 rfl ?_ ?_;refine Ag (BA rfl d CS rfl Ca)<|WL.e<|Ay 9 rfl<|Cu (L:=Fq) (ps:=_) ([Gp 1 P.now,s]) Fj Kq Ov rfl rfl rfl rfl rfl rD rfl rfl (λcG co a7 bg V d6=>?_);have aE:=AW o V.size;have cq:=GU u a7 V;have cr:=Bg a7 a.lt;have ct:=a.un V cr;have dq:=Bg a7 g.lt;have dr:=Bg a7 d.lt;have b2:=Cq a7 c.size;have az:=DA c (Hf V b2);have b3:cG<=co.heap.size:=by omega
    refine WL.e<|Ay 10 rfl<|WL.c1 AN rfl rfl ((HQ B bp m _ P q _ [Gp 1 P.now,s] 2 _ ⟨ct,cq,t,aE⟩ (bg).rowp (by simp) (λh=>by simp at h))) (λdG ag=>?_);have cH:=AW aE ag.1.size;have cI:=AW b3 ag.1.size;have bh:=DA az (AB.wide ag.1 az.size (by simp <;> omega));obtain ⟨v1,i,j⟩:=ag.2;have l:=FK.mono j az.size;refine WL.e<|Bh 11 rfl (.as rfl) rfl<|C3 kR<|Ai (AZ rfl rfl ?_)
    (have f : Fw m P s q = G4 m P q [Gp 1 P.now, s] := by unfold Fw; rw [A1 aS, A6 aS]
     rw [f];exact ⟨rfl,bh,_,i,l⟩)
    refine Cu (L:=Fq) (ps:=_) ([Gp 1 P.now,s]) Fj Kq Ov rfl rfl rfl rfl rfl rD rfl rfl (λcu bi A b4 x cJ=>?_);have am:=AW o x.size;have bj:=GU u A x;have bk:=Bg A a.lt;have bm:=a.un x bk;have d7:=Bg A g.lt;have bn:=Bg A d.lt;have bo:=d.un x bn;have aF:=Cq A c.size;have ah:=DA c (Hf x aF);have aG:cu<=bi.heap.size:=by omega
    refine WL.e<|Ay 1 rfl<|Ag (BA rfl bo CS rfl Ca)<|WL.e<|Ay 10 rfl<|WL.c1 AN rfl rfl ((HQ B bp m _ P q _ [Gp 1 P.now,s] 2 _ ⟨bm,bj,t,am⟩ (b4).rowp (by simp) (λh=>by simp at h))) (λds X=>?_);have cK:=AW am X.1.size;have cL:=AW aG X.1.size;have bq:=DA ah (AB.wide X.1 ah.size (by simp <;> omega));obtain ⟨v1,i,j⟩:=X.2;have l:=FK.mono j ah.size;refine WL.e<|Bh 11 rfl (.as rfl) rfl<|C3 kR<|Ai (AZ rfl rfl ?_)
    (have f : Fw m P s q = G4 m P q [Gp 1 P.now, s] := by unfold Fw; rw [A1 aS, A6 aS]
     rw [f];exact ⟨rfl,bq,_,i,l⟩)
    refine Ag (BA rfl g JF rfl K0)<|WL.e<|E9 1 rfl 5 rfl ?_ ?_;refine Ag (BA rfl d CS rfl Ca)<|WL.e<|Ay 5 rfl<|Ag (Ck (L:=Ed) CS rfl Ca a (P.now) (rfl) rfl)<|WL.e<|?_;refine Bh 6 rfl (.build (cs:=Vc P.now Fv Fv) rfl (by rw [PA];rfl)) rfl ?_;refine Bh 7 rfl (.build (cs:=(JG (Gp 1 P.now)).toArray) rfl (by rw [blS];rfl)) rfl ?_;refine Ay 9 rfl<|Cu (L:=Fq) (ps:=_) ([Gp 1 P.now,s]) Fj Kq Ov rfl rfl rfl rfl rfl rD rfl rfl (λcv bt C b5 D cM=>?_);have an:=AW o D.size;have bu:=GU u C D;have bv:=Bg C a.lt;have bw:=a.un D bv;have d8:=Bg C g.lt;have d9:=Bg C d.lt;have aH:=Cq C c.size;have ai:=DA c (Hf D aH);have aI:cv<=bt.heap.size:=by omega
    refine WL.e<|Ay 10 rfl<|WL.c1 AN rfl rfl ((HQ B bp m _ P q _ [Gp 1 P.now,s] 2 _ ⟨bw,bu,t,an⟩ (b5).rowp (by simp) (λh=>by simp at h))) (λdt Y=>?_);have cN:=AW an Y.1.size;have cO:=AW aI Y.1.size;have bx:=DA ai (AB.wide Y.1 ai.size (by simp <;> omega));obtain ⟨v1,i,j⟩:=Y.2;have l:=FK.mono j ai.size;refine WL.e<|Bh 11 rfl (.as rfl) rfl<|C3 kR<|Ai (AZ rfl rfl ?_)
    (have f : Fw m P s q = G4 m P q [Gp 1 P.now, s] := by unfold Fw; rw [A1 aS, A6 aS]
     rw [f];exact ⟨rfl,bx,_,i,l⟩)
    refine Ag (Ck (L:=Ed) CS rfl Ca a (P.now) (rfl) rfl)<|WL.e<|?_;refine Bh 6 rfl (.build (cs:=Vc P.now Fv Fv) rfl (by rw [PA];rfl)) rfl ?_;refine Bh 7 rfl (.build (cs:=(JG (Gp 1 P.now)).toArray) rfl (by rw [blS];rfl)) rfl ?_;refine E9 1 rfl 9 rfl ?_ ?_;refine Ag (BA rfl d CS rfl Ca)<|WL.e<|Ay 9 rfl<|Cu (L:=Fq) (ps:=_) ([Gp 1 P.now,s]) Fj Kq Ov rfl rfl rfl rfl rfl rD rfl rfl (λcw bz E b6 F cP=>?_);have ao:=AW o F.size;have bA:=GU u E F;have bB:=Bg E a.lt;have bC:=a.un F bB;have da:=Bg E g.lt;have db:=Bg E d.lt;have aJ:=Cq E c.size;have aj:=DA c (Hf F aJ);have aK:cw<=bz.heap.size:=by omega
    refine WL.e<|Ay 10 rfl<|WL.c1 AN rfl rfl ((HQ B bp m _ P q _ [Gp 1 P.now,s] 2 _ ⟨bC,bA,t,ao⟩ (b6).rowp (by simp) (λh=>by simp at h))) (λdu a0=>?_);have cQ:=AW ao a0.1.size;have cR:=AW aK a0.1.size;have bD:=DA aj (AB.wide a0.1 aj.size (by simp <;> omega));obtain ⟨v1,i,j⟩:=a0.2;have l:=FK.mono j aj.size;refine WL.e<|Bh 11 rfl (.as rfl) rfl<|C3 kR<|Ai (AZ rfl rfl ?_)
    (have f : Fw m P s q = G4 m P q [Gp 1 P.now, s] := by unfold Fw; rw [A1 aS, A6 aS]
     rw [f];exact ⟨rfl,bD,_,i,l⟩)
    refine Cu (L:=Fq) (ps:=_) ([Gp 1 P.now,s]) Fj Kq Ov rfl rfl rfl rfl rfl rD rfl rfl (λcy bE G b8 y cS=>?_);have ap:=AW o y.size;have bG:=GU u G y;have bH:=Bg G a.lt;have bI:=a.un y bH;have dc:=Bg G g.lt;have bJ:=Bg G d.lt;have bK:=d.un y bJ;have aL:=Cq G c.size;have ak:=DA c (Hf y aL);have aM:cy<=bE.heap.size:=by omega
    refine WL.e<|Ay 1 rfl<|Ag (BA rfl bK CS rfl Ca)<|WL.e<|Ay 10 rfl<|WL.c1 AN rfl rfl ((HQ B bp m _ P q _ [Gp 1 P.now,s] 2 _ ⟨bI,bG,t,ap⟩ (b8).rowp (by simp) (λh=>by simp at h))) (λdv a1=>?_);have cT:=AW ap a1.1.size;have cU:=AW aM a1.1.size;have bM:=DA ak (AB.wide a1.1 ak.size (by simp <;> omega));obtain ⟨v1,i,j⟩:=a1.2;have l:=FK.mono j ak.size;refine WL.e<|Bh 11 rfl (.as rfl) rfl<|C3 kR<|Ai (AZ rfl rfl ?_)
    (have f : Fw m P s q = G4 m P q [Gp 1 P.now, s] := by unfold Fw; rw [A1 aS, A6 aS]
     rw [f];exact ⟨rfl,bM,_,i,l⟩)
  have c5:=dF aV;refine W.k<|A4<|A2 rfl<|Ag (BA rfl av CS rfl Ca)<|Ag (BA rfl au JF rfl K0)<|Cu (L:=Fq) (ps:=_) ([s]) Fj Kq Ov rfl rfl rfl rfl rfl rD rfl rfl (λcz bN H b9 J cV=>?_);have aq:=AW aa J.size;have bO:=GU ar H J;have bP:=Bg H ab.lt;have bQ:=ab.un J bP;have dd:=Bg H au.lt;have de:=Bg H av.lt;have aN:=Cq H ac.size;have al:=DA ac (Hf J aN);have aO:cz<=bN.heap.size:=by omega
  refine WL.c1 AN rfl rfl ((HQ B bp m _ P q _ [s] 1 _ ⟨bQ,bO,t,aq⟩ (b9).rowp (by simp) (λh=>by simp at h))) (λdw a2=>?_);have cW:=AW aq a2.1.size;have cX:=AW aO a2.1.size;have bR:=DA al (AB.wide a2.1 al.size (by simp <;> omega));obtain ⟨v1,i,j⟩:=a2.2;have l:=FK.mono j al.size;refine A9 rfl<|Ai (AZ rfl rfl ?_)
  (have f : Fw m P s q = G4 m P q [s] := by unfold Fw; rw [A1 aS, A1 aS]
   rw [f];exact ⟨rfl,bR,_,i,l⟩)
theorem Vf (B bp:Nat) (m:Int) (v:Value) (P:CP) (a:BQ) (w:World) (h:CG B w bp m P v) :
  Calls Tryz.prog 78 #[.pointer (some ⟨bp,0,none⟩),.agg (DH a).toArray] w (A0N B w bp m v (Fa m P a)):=by
 have ah:=h.sep
 obtain ⟨t,f,u,U⟩:=h
 have a7:=f.lt
 have F:=t.lt
 have ai:=NA f F
 obtain ⟨p,cc,rfl,-,-,-,-⟩:=f.row
 refine W.e func78 rfl ntmps78 bL ?_
 have N:=AB.refl w.heap.size ([bp,vb (.slice p P.list.length cc) bp]) w
 refine A4<|CU rfl rfl (λb1 al x o g aj=>?_)
 have V:=AW U g.size
 have a8:=GU f x g
 have a9:=Bg x t.lt
 have Q:=t.un g a9
 have G:=Cq x N.size
 have T:=DA N (Hf g G)
 refine A9 rfl<|Ah<|W.b<|A4<|A2 rfl<|A0 (.bis (false) (.eqP WF rfl) (by rfl))<|A9 rfl<|DS rfl rfl<|A4<|Ag (BA rfl o CS rfl Ca)<|Cu (L:=Ed) (ps:=_) ([a]) G1 Fs LG rfl rfl rfl rfl rfl rD rfl rfl (λb7 aa s X d ak=>?_)
 have Y:=AW V d.size
 have ab:=GU a8 s d
 have a0:=Bg s Q.lt
 have a1:=Q.un d a0
 have a2:=Bg s o.lt
 have a3:=o.un d a2
 have H:=Cq s T.size
 have a4:=DA T (Hf d H)
 have J:b7<=aa.heap.size:=by omega
 refine WL.c1 AN rfl rfl ((OP _ [a] 1 _ (X).rowp (by simp))) (λam c=>?_)
 have i:=AW Y c.size
 have y:=AD.below ab c
 have K:=AW J c.size
 have A:=a1.bl c
 have C:=a3.bl c
 have j:=kB a4 c
 refine A0 (.not rfl)<|A9 rfl<|Ac rfl (λD=>?_) (λD=>?_)
 have a5:=(nT D)
 have q:C5 a=false:=by simpa using (show ([a].all C5)=false by assumption)
 refine A4<|A9 rfl<|Ai (AZ rfl rfl ?_)
 have E:Fa m P a=(P,11):=A6 q
 rw [E]
 exact ⟨rfl,j,_,⟨A,y,u,i⟩,FK.refl _ _⟩
 have a5:=(nF D)
 have q:C5 a=true:=by simpa using (show ([a].all C5)=true by assumption)
 refine W.k<|A4<|A2 rfl<|Ag (BA rfl C CS rfl Ca)<|?_
 refine A0 (.build (cs:=Vc a Fv Fv) rfl (by rw [PA];rfl)) ?_
 refine A0 (.build (cs:=(JG (Gp 2 a)).toArray) rfl (by rw [blS];rfl)) ?_
 refine Ag (BA rfl C CS rfl Ca)<|WL.c1 AN rfl rfl ((Vd B bp m _ P (Gp 2 a) a _ ⟨A,y,u,i⟩)) (λan l=>?_)
 have af:=AW i l.1.size
 have ag:=AW K l.1.size
 have a6:=DA j (AB.wide l.1 j.size (by simp <;> omega))
 obtain ⟨v1,ac,ad⟩:=l.2
 have ae:=FK.mono ad j.size
 refine A9 rfl<|Ai (AZ rfl rfl ?_)
 have E:Fa m P a=Fw m P (Gp 2 a) a:=A1 (by rw [q];decide)
 rw [E]
 exact ⟨rfl,a6,_,ac,ae⟩
theorem OL (B bp:Nat) (m:Int) (v:Value) (P:CP) (a b c:BQ) (w:World) (h:CG B w bp m P v) :
  Calls Tryz.prog 79 #[.pointer (some ⟨bp,0,none⟩),.agg (DH a).toArray,.agg (DH b).toArray,.agg (DH c).toArray] w (A0N B w bp m v (HR m P a b c)):=by
 have aR:=h.sep
 obtain ⟨E,o,F,af⟩:=h
 have aF:=o.lt
 have a5:=E.lt
 have aS:=NA o a5
 obtain ⟨p,cc,rfl,-,-,-,-⟩:=o.row
 refine W.e func79 rfl ntmps79 bL ?_
 have ac:=AB.refl w.heap.size ([bp,vb (.slice p P.list.length cc) bp]) w
 refine A4<|CU rfl rfl (λb1 aW G H q aT=>?_)
 have ag:=AW af q.size
 have aG:=GU o G q
 have aH:=Bg G E.lt
 have ad:=E.un q aH
 have a6:=Cq G ac.size
 have ae:=DA ac (Hf q a6)
 refine CU rfl rfl (λb7 aX D J j aU=>?_)
 have ah:=AW ag j.size
 have aI:=GU aG D j
 have ai:=Bg D ad.lt
 have K:=ad.un j ai
 have aj:=Bg D H.lt
 have N:=H.un j aj
 have a7:=Cq D ae.size
 have Q:=DA ae (Hf j a7)
 refine CU rfl rfl (λaY aV l s g aN=>?_)
 have a8:=AW ah g.size
 have ak:=GU aI l g
 have al:=Bg l K.lt
 have T:=K.un g al
 have am:=Bg l N.lt
 have y:=N.un g am
 have an:=Bg l J.lt
 have A:=J.un g an
 have U:=Cq l Q.size
 have V:=DA Q (Hf g U)
 refine A9 rfl<|Ah<|W.b<|A4<|A2 rfl<|A0 (.bis (false) (.eqP WF rfl) (by rfl))<|A9 rfl<|DS rfl rfl<|A4<|Ag (BA rfl y CS rfl Ca)<|Ag (BA rfl A CS rfl Ca)<|Ag (BA rfl s CS rfl Ca)<|Cu (L:=Ed) (ps:=_) ([a,b,c]) G1 Fs LG rfl rfl rfl rfl rfl rD rfl rfl (λaJ ao i a9 d aO=>?_)
 have aa:=AW a8 d.size
 have ap:=GU ak i d
 have aq:=Bg i T.lt
 have ar:=T.un d aq
 have au:=Bg i y.lt
 have av:=y.un d au
 have aw:=Bg i A.lt
 have ax:=A.un d aw
 have ay:=Bg i s.lt
 have az:=s.un d ay
 have X:=Cq i V.size
 have aA:=DA V (Hf d X)
 have Y:aJ<=ao.heap.size:=by omega
 refine WL.c1 AN rfl rfl ((OP _ [a,b,c] 3 _ (a9).rowp (by simp))) (λaZ f=>?_)
 have t:=AW aa f.size
 have a0:=AD.below ap f
 have ab:=AW Y f.size
 have a1:=ar.bl f
 have aB:=av.bl f
 have aC:=ax.bl f
 have a2:=az.bl f
 have u:=kB aA f
 refine A0 (.not rfl)<|A9 rfl<|Ac rfl (λa3=>?_) (λa3=>?_)
 have aD:=(nT a3)
 have C:(C5 a && C5 b && C5 c)=false:=by simpa [Bool.and_assoc] using (show ([a,b,c].all C5)=false by assumption)
 refine A4<|A9 rfl<|Ai (AZ rfl rfl ?_)
 have a4:HR m P a b c=(P,11):=A6 C
 rw [a4]
 exact ⟨rfl,u,_,⟨a1,a0,F,t⟩,FK.refl _ _⟩
 have aD:=(nF a3)
 have C:(C5 a && C5 b && C5 c)=true:=by simpa [Bool.and_assoc,and_assoc] using (show ([a,b,c].all C5)=true by assumption)
 refine W.k<|A4<|A2 rfl<|Ag (BA rfl aB CS rfl Ca)<|Ag (BA rfl aC CS rfl Ca)<|Ag (BA rfl a2 CS rfl Ca)<|?_
 refine A0 (.build (cs:=Vc a b c) rfl (by rw [PA];rfl)) ?_
 refine A0 (.build (cs:=(JG ⟨3,a,b,c⟩).toArray) rfl (by rw [blS];rfl)) ?_
 refine Ag (BA rfl a2 CS rfl Ca)<|WL.c1 AN rfl rfl ((Vd B bp m _ P ⟨3,a,b,c⟩ c _ ⟨a1,a0,F,t⟩)) (λa' x=>?_)
 have aP:=AW t x.1.size
 have aQ:=AW ab x.1.size
 have aE:=DA u (AB.wide x.1 u.size (by simp <;> omega))
 obtain ⟨v1,aK,aL⟩:=x.2
 have aM:=FK.mono aL u.size
 refine A9 rfl<|Ai (AZ rfl rfl ?_)
 have a4:HR m P a b c=Fw m P ⟨3,a,b,c⟩ c:=A1 (by rw [C];decide)
 rw [a4]
 exact ⟨rfl,aE,_,aK,aM⟩
theorem OM (B bp:Nat) (m:Int) (v:Value) (P:CP) (w:World) (h:CG B w bp m P v) :
    Calls Tryz.prog 82 #[.pointer (some ⟨bp,0,none⟩)] w (A0N B w bp m v (Ge m P)):=by
  have ad:=h.sep;obtain ⟨x,c,j,T⟩:=h;have a3:=c.lt;have H:=x.lt;have ae:=NA c H;obtain ⟨p,cc,rfl,-,-,-,-⟩:=c.row;refine W.e func82 rfl ntmps82 bL ?_;have a4:=AB.refl w.heap.size ([bp,vb (.slice p P.list.length cc) bp]) w;refine A4<|A9 rfl<|Ah<|W.b<|A4<|A2 rfl<|A0 (.bis (false) (.eqP WF rfl) (by rfl))<|A9 rfl<|DS rfl rfl<|A4<|A2 rfl<|WL.c1 AN rfl rfl ((NM bp m p cc P _ x (c).rowp oO)) (λw1 s=>?_);have y:=AW T s.size;have A:=AD.below c s;have C:=x.bl s;have K:=kB a4 s;refine A0 (.eql rfl rfl)<|A2 rfl<|B1 rfl rfl rfl (λd=>?_) (λd=>?_)
  · have a5 := dF d
    refine A2 rfl<|As d<|WL.c1 AN rfl rfl ((NM bp m p cc P _ C (A).rowp oO)) (λw7 t=>?_);have D:=AW y t.size;have Q:=AD.below A t;have f:=C.bl t;have l:=kB K t;refine As d<|A0 (.eql rfl rfl)<|A0 (.pkF rfl d rfl)<|A9 rfl<|Ac rfl (λE=>?_) (λE=>?_)
    · have U := dT E
      refine A4<|A9 rfl<|Ai (AZ rfl rfl ?_)
      (have i : Ge m P = (P, 0) := A6 oO
       rw [i];exact ⟨rfl,l,_,⟨f,Q,j,D⟩,FK.refl _ _⟩)
    have U:=dF E;refine W.k<|A4<|A2 rfl<|A2 rfl<|A0 (.nck rfl)<|A0 (.fa Kb rfl Fs dD rfl)<|Ag (Ck (L:=Ed) CS rfl Ca f (P.start) (rfl) rfl)<|?_;refine A0 (.build (cs:=(JG (Gp 4 Fv)).toArray) rfl (by rw [blS];rfl)) ?_;refine Cu (L:=Fq) (ps:=_) ([Gp 4 Fv]) Fj Kq Ov rfl rfl rfl rfl rfl rD rfl rfl (λa6 V o J a aa=>?_);have u:=AW D a.size;have X:=GU Q o a;have a0:=Bg o f.lt;have a1:=f.un a a0;have F:=Cq o l.size;have q:=DA l (Hf a F);have G:a6<=V.heap.size:=by omega
    refine WL.c1 AN rfl rfl ((HQ B bp m _ P P.start _ [Gp 4 Fv] 1 _ ⟨a1,X,j,u⟩ (J).rowp (by simp) (λh=>by simp at h))) (λaf g=>?_);have ab:=AW u g.1.size;have ac:=AW G g.1.size;have a2:=DA q (AB.wide g.1 q.size (by simp <;> omega));obtain ⟨v1,a7,a8⟩:=g.2;have a9:=FK.mono a8 q.size;refine A9 rfl<|Ai (AZ rfl rfl ?_)
    (have i : Ge m P = G4 m P P.start [Gp 4 Fv] := A1 oO
     rw [i];exact ⟨rfl,a2,_,a7,a9⟩)
  have a5:=dT d;refine Aa d<|Aa d<|A0 (.pkT rfl d rfl)<|A9 rfl<|DR rfl rfl<|A4<|A9 rfl<|Ai (AZ rfl rfl ?_)
  (have i : Ge m P = (P, 0) := A6 oO
   rw [i];exact ⟨rfl,K,_,⟨C,A,j,y⟩,FK.refl _ _⟩)
end
section
theorem MU:(Tryz.prog.info? 61).map (λi=>(i.zero,i.size,i.bytes))=some (some (.agg #[.slice none 0 0,.bool false]),2,32):=by kernel_rfl
theorem HV (p:Option Addr) (l:List CK) (c:Nat) (w:World) (h:Be Fq w p l) (hl:l.length<=1000000) :
    Calls Tryz.prog 114 #[.slice p l.length c] w λe w'=>∃ x:Option Addr × Nat,e=.returned (.slice x.1 l.length x.2)/\Below w.heap.size w w'/\AD Fq 94 w.heap.size w' (.slice x.1 l.length x.2) l:=by
  refine W.e func114 rfl ntmps114 bL ?_;have j:=EM (w.heap.size) w;refine A4<|A9 rfl<|Ah<|A4<|A2 rfl<|A0 (.eqSN Fj rfl)<|WL.e<|Ac rfl (λK=>?_) (λK=>?_);have hp:p=none:=by cases p with | none=>rfl | some a=>exact CM (show (some a).isNone=true by assumption) (by simp)
  have v:l=[]:=by
    cases l with
    | nil=>rfl
    | cons x r=>have:=h.isp (by simp);rw [hp] at this;cases this
  refine A4<|A9 rfl<|Ai (AZ rfl rfl ?_);exact ⟨(none,0),by rw [v];rfl,j,by rw [v];exact AD.nil _ _ _ _⟩;have B:p≠none:=λe=>by (have q:p.isNone=false:=by assumption);rw [e] at q;cases q
  refine W.k<|A4<|Z9 Fj Kq rfl (λD E f b m N=>?_);have y:=λA=>f▸h.lt A
  have F:=Be.upd h m (λA=>Js (y A));have G:=uB j f m;have u:=Cq f j.size;have b:=AD.of (L:=Fq) (l:=[]) (b D (FL _));have i:D<=E.heap.size:=by omega
  refine A2 rfl<|CW Fj A5A rfl rfl rfl b rfl F (by simp only [Ae];omega) (i) rfl (λ_=>.inr B) (λR T o s P Q=>?_);have H:=EZ G (s.mono (u));have J:=AW i s.size;refine A9 rfl<|Ai (AZ rfl rfl ?_)
  (have t := (o).base (C := w.heap.size) (fun g hg => AW (Nat.le_of_eq f.symm) ((o).lt g hg).1)
   simp only [CF] at t;obtain ⟨q,d,rfl,-⟩:=t.row;exact ⟨(q,d),rfl,H,t⟩)
theorem G7 (p:Option Addr) (l:List Bv) (c:Nat) (w:World) (h:Be Gk w p l) (hl:l.length<=1000000) :
    Calls Tryz.prog 116 #[.slice p l.length c] w λe w'=>∃ x:Option Addr × Nat,e=.returned (.slice x.1 l.length x.2)/\Below w.heap.size w w'/\AD Gk 61 w.heap.size w' (.slice x.1 l.length x.2) l:=by
  refine W.e func116 rfl ntmps116 bL ?_;have j:=EM (w.heap.size) w;refine A4<|A9 rfl<|Ah<|A4<|A2 rfl<|A0 (.eqSN Fi rfl)<|WL.e<|Ac rfl (λK=>?_) (λK=>?_);have hp:p=none:=by cases p with | none=>rfl | some a=>exact CM (show (some a).isNone=true by assumption) (by simp)
  have v:l=[]:=by
    cases l with
    | nil=>rfl
    | cons x r=>have:=h.isp (by simp);rw [hp] at this;cases this
  refine A4<|A9 rfl<|Ai (AZ rfl rfl ?_);exact ⟨(none,0),by rw [v];rfl,j,by rw [v];exact AD.nil _ _ _ _⟩;have B:p≠none:=λe=>by (have q:p.isNone=false:=by assumption);rw [e] at q;cases q
  refine W.k<|A4<|Z9 Fi Kr rfl (λD E f b m N=>?_);have y:=λA=>f▸h.lt A
  have F:=Be.upd h m (λA=>Js (y A));have G:=uB j f m;have u:=Cq f j.size;have b:=AD.of (L:=Gk) (l:=[]) (b D (FL _));have i:D<=E.heap.size:=by omega
  refine A2 rfl<|CW Fi MU rfl rfl rfl b rfl F (by simp only [Ae];omega) (i) rfl (λ_=>.inr B) (λR T o s P Q=>?_);have H:=EZ G (s.mono (u));have J:=AW i s.size;refine A9 rfl<|Ai (AZ rfl rfl ?_)
  (have t := (o).base (C := w.heap.size) (fun g hg => AW (Nat.le_of_eq f.symm) ((o).lt g hg).1)
   simp only [CF] at t;obtain ⟨q,d,rfl,-⟩:=t.row;exact ⟨(q,d),rfl,H,t⟩)
theorem Vg (B bp:Nat) (m:Int) (v:Value) (P:CP) (w:World) (h:CG B w bp m P v) :
  Calls Tryz.prog 80 #[.pointer (some ⟨bp,0,none⟩)] w λe w'=>e=.returned (if P.list.length=0 then .tuple #[.agg (DH Fv).toArray,.int .i64 10] else .tuple #[.agg (DH P.now).toArray,.int .i64 0])/\Below w.heap.size w w':=by
 obtain ⟨f,l,E,F⟩:=h
 obtain ⟨p,cc,rfl,-,-,-,-⟩:=l.row
 refine W.e func80 rfl ntmps80 bL ?_
 have g:=EM (w.heap.size) w
 refine A4<|BV LG rfl (λN K a c d G=>?_)
 have y:=Bg a f.lt
 have i:=f.un d y
 have j:=uB g a d
 have D:=Cq a g.size
 refine A9 rfl<|Ah<|W.b<|A4<|A2 rfl<|A0 (.bis (false) (.eqP WF rfl) (by rfl))<|A9 rfl<|DS rfl rfl<|A4<|A2 rfl<|A0 (.nck rfl)<|A0 (.fa Kb rfl IL dD rfl)<|Ag (Ad (JL _) rfl i rfl)<|A0 (.lenS Fj rfl)<|A0 (.eql rfl rfl)<|A9 rfl<|Ac rfl (λo=>?_) (λo=>?_)
 have A:=dT o
 refine A4<|A0 (.buildL (ps:=_) Ol rfl rfl rfl pZ) ?_
 refine Az rfl rfl c Ca rfl rfl (λQ q s H=>?_)
 have C:=CN j oO s
 refine A9 rfl<|Ai (EE rfl rfl (Bq q CS rfl Ca) rfl ?_)
 exact ⟨D1 (by rw [A6 oO];rfl),C⟩
 have A:=dF o
 refine W.k<|A4<|A2 rfl<|A0 (.nck rfl)<|A0 (.fa Kb rfl Fs dD rfl)<|Ag (Ck (L:=Ed) CS rfl Ca i (P.now) (rfl) rfl)<|Az rfl rfl c Ca rfl rfl (λT t u J=>?_)
 have x:=CN j oO u
 refine A9 rfl<|Ai (EE rfl rfl (Bq t CS rfl Ca) rfl ?_)
 exact ⟨D1 (by rw [A1 oO];rfl),x⟩
theorem U0 (B bp:Nat) (m:Int) (v:Value) (P:CP) (w:World) (h:CG B w bp m P v) :
  Calls Tryz.prog 113 #[.pointer (some ⟨bp,0,none⟩)] w λe w'=>∃ x:Option Addr × Nat,e=.returned (.slice x.1 P.list.length x.2)/\Below w.heap.size w w'/\AD Fq 94 w.heap.size w' (.slice x.1 P.list.length x.2) P.list:=by
 obtain ⟨c,b,i,j⟩:=h
 obtain ⟨p,cc,rfl,d,-,-,-⟩:=b.row
 refine W.e func113 rfl ntmps113 bL ?_
 have f:=EM (w.heap.size) w
 refine A4<|A9 rfl<|Ah<|A4<|A2 rfl<|A0 (.bis (false) (.eqP WF rfl) (by rfl))<|WL.e<|DS rfl rfl<|W.k<|A4<|A2 rfl<|A0 (.nck rfl)<|A0 (.fa Kb rfl IL dD rfl)<|Ag (Ad (JL _) rfl c rfl)<|DQ AN rfl rfl ((HV p P.list cc _ d oO)) (λx l a=>?_)
 have g:=DJ f a.1
 have hx:=a.2
 refine A9 rfl<|Ai (AZ rfl rfl ?_)
 exact ⟨x,rfl,g,hx⟩
theorem ZQ (B bp:Nat) (m:Int) (v:Value) (P:CP) (w:World) (h:CG B w bp m P v) :
  Calls Tryz.prog 117 #[.pointer (some ⟨bp,0,none⟩)] w λe w'=>e=.returned (.tuple #[])/\AB w.heap.size [bp] w w'/\CG B w' bp m I9 (.slice none 0 0):=by
 obtain ⟨l,u,j,k⟩:=h
 refine W.e func117 rfl ntmps117 bL ?_
 have q:=AB.refl w.heap.size ([bp]) w
 refine A4<|A2 rfl<|A0 (.bis (true) (.neP WF rfl) (by rfl))<|WL.e<|DR rfl rfl<|Ak<|A2 rfl<|A2 rfl<|A2 rfl<|?_
 refine A0 (.buildL (ps:=_) Ol rfl rfl rfl pZ) ?_
 refine A0 (.buildL (ps:=_) Ol rfl rfl rfl pZ) ?_
 refine A0 (.nck rfl)<|A0 (.fa Kb rfl IL dD rfl)<|C2 (o:=1) ((QI m (.slice none 0 0) P.start P.now)) IL rfl (rfl) rfl (rfl) l bL (rfl) (λx a b y=>?_)
 have a:AF x bp _ _:=a
 have b:BF bp _ _:=b
 have s:=kU q b
 refine A0 (.nck rfl)<|A0 (.fa Kb rfl Fs dD rfl)<|Eh (o:=2) ((QI m (.slice none 0 0) Fv P.now)) rfl (rfl) rfl a Ca rfl bL (rfl) (λA c d C=>?_)
 have c:AF A bp _ _:=c
 have d:BF bp _ _:=d
 have t:=kU s d
 refine A0 (.nck rfl)<|A0 (.fa Kb rfl Fs dD rfl)<|Eh (o:=4) ((QI m (.slice none 0 0) Fv Fv)) rfl (rfl) rfl c Ca rfl bL (rfl) (λD f g E=>?_)
 have f:AF D bp _ _:=f
 have g:BF bp _ _:=g
 have i:=kU t g
 refine WL.e<|BJ (Bt rfl ?_)
 exact ⟨rfl,i,⟨f,AD.nil _ _ _ _,⟨by show (0:Int)<=m;omega,j.2⟩,AW k i.size⟩⟩
theorem blP:Tryz.prog.built 97=λCl=>Instr.fill (([(0,1),(1,1),(2,2),(4,2)]:List (Nat × Nat)).toArray[·]?) #[.int .i64 0,.slice none 0 0,.int .i64 0,.int .i64 0,.int .i64 0,.int .i64 0] Cl:=by kernel_rfl
theorem A45 (m:Int) (w:World) (hm:0<=m/\m<=1000000) :
  Calls Tryz.prog 18 #[.int .i64 m] w λe w'=>∃ bp:Nat,e=.returned (.pointer (some ⟨bp,0,none⟩))/\Below w.heap.size w w'/\w.heap.size<=bp/\CG w.heap.size w' bp m I9 (.slice none 0 0):=by
 refine W.e func18 rfl ntmps18 bL ?_
 have a:=EM (w.heap.size) w
 refine A4<|A9 rfl<|A4<|A2 rfl<|?_
 refine A0 (.build (cs:=QI m (.slice none 0 0) Fv Fv) rfl (by rw [blP];rfl)) ?_
 refine CU rfl rfl (λi k b d f j=>?_)
 have c:=uB a b f
 have g:=Cq b a.size
 refine A9 rfl<|Ai (AZ rfl rfl ?_)
 exact ⟨i,rfl,c,by omega,⟨d,AD.nil _ _ _ _,⟨hm.1,hm.2⟩,c.size⟩⟩
end
section
theorem Im:∀ (n:Nat) (d:Nat) (o l:l8_) (s r:l8_),l.length<=n->Dd d o l=some (s,r)->r.length<=l.length
 | n,d,o,[],s,r,_,h=>by rw [Dd.eq_def] at h;cases h
 | 0,d,o,c::t,s,r,hn,h=>by simp at hn
 | n+1,d,o,c::t,s,r,hn,h=>by
  simp only [A8] at hn ⊢
  rw [Dd.eq_def] at h
  simp only at h
  split at h
  · have:=Im n _ _ t s r oO h;omega
  ·
   split at h
   ·
    split at h
    · simp only [Bm,CQ] at h;rw [h.2];omega
    · have:=Im n _ _ t s r oO h;omega
   ·
    split at h
    ·
     split at h
     · cases h
     ·
      next e r' =>
      have h2:=VZ e r'
      simp only [A8] at hn
      have:=Im n _ _ _ s r oO h
      simp only [A8];omega
    ·
     split at h
     ·
      have h2:=No t
      have:=Im n _ _ _ s r oO h;omega
     · have:=Im n _ _ t s r oO h;omega
theorem M0:∀ (l:l8_) (h:Option Nat) (o:l8_) (s r:l8_),M1 h o l=some (s,r)->r.length<=l.length
 | [],h,o,s,r,e=>by simp [M1] at e
 | c::t,h,o,s,r,e=>by
  simp only [A8]
  unfold M1 at e
  split at e
  · have:=M0 t _ _ s r e;omega
  ·
   split at e
   · simp only [Bm,CQ] at e;rw [<- e.2];omega
   ·
    split at e
    · cases e
    ·
     split at e
     · have:=M0 t _ _ s r e;omega
     · have:=M0 t _ _ s r e;omega
theorem Ml {o:Option (l8_ × l8_)} {t:JM} {r:l8_} (h:Hz o=.ok (t,r)):∃ s,o=some (s,r)/\t=⟨6,0,s⟩/\s.length<=65535:=by
 unfold Hz at h
 split at h
 · cases h
 ·
  next s r' =>
  split at h
  · cases h
  ·
   simp only [Except.ok.injEq,CQ] at h
   obtain ⟨rfl,rfl⟩:=h
   exact ⟨s,rfl,rfl,by omega⟩
theorem KC {k:Int} {l:l8_} {t:JM} {r:l8_} (h:IR k l=.ok (t,r)):r=l.dropWhile DO/\t=⟨k,0,l.takeWhile DO⟩/\(l.takeWhile DO).length<=127:=by
 unfold IR at h
 split at h
 · cases h
 ·
  simp only [Except.ok.injEq,CQ] at h
  exact ⟨h.2.symm,h.1.symm,by omega⟩
theorem IB (l:l8_):(l.dropWhile DO).length<=l.length:=(List.dropWhile_sublist DO).length_le
theorem Sb (o:Option (Nat × Bool)):(H8 o).ok=true->(H8 o).e=0->(H8 o).kind=1\/(H8 o).kind=2:=by
 unfold H8
 split
 · simp [CA]
 · split <;> simp [GZ,Ih]
theorem V7 (l:l8_):(Ft l).ok=true->(Ft l).e=0->(Ft l).kind=1\/(Ft l).kind=2:=by
 unfold Ft
 split
 ·
  unfold LS
  repeat' split
  all_goals first | exact Sb _ | simp [CA]
 · simp [CA]
theorem UJ (l:l8_) (h:(Gv l).ok=true) (he:(Gv l).e=0):(Gv l).kind=1\/(Gv l).kind=2:=by
 have hf:∀ a b c,(P6 a b c).ok=true->(P6 a b c).e=0->(P6 a b c).kind=1\/(P6 a b c).kind=2:=by
  intro a b c;unfold P6;repeat' split
  all_goals simp [CA,GZ,Ih,Mj]
 revert h he
 unfold Gv
 split
 · simp [CA]
 ·
  split
  · exact V7 l
  ·
   split
   · simp [Ih]
   ·
    unfold QD
    split
    ·
     split
     · exact hf _ _ _
     · simp [CA]
    · exact hf _ _ _
theorem V3 {c:UInt8} (h1:Er c=false) (h2:c≠37) (h40:c≠40) (h41:c≠41) (h60:¬ (c=60\/c=62)) (h123:c≠123) (h125:c≠125) (h91:¬ (c=91\/c=93)) (h47:c≠47):DO c=true:=by
 unfold DO Nq
 rw [h1]
 simp only [not_or] at h60 h91
 simp [h2,h40,h41,h60.1,h60.2,h123,h125,h91.1,h91.2,h47]
theorem A18 {c:UInt8} {r:l8_} (h1:Er c=false) (h2:c≠37) {t:JM} (h:MI c r=.ok (t,s)):s.length<=r.length/\t.kind≠0:=by
  unfold MI at h
  split at h
  · obtain ⟨s', ho, rfl, -⟩ := Ml h
    exact ⟨Im _ _ _ _ _ _ (FL _) ho,by simp⟩
  · split at h
    · cases h
    · split at h
      · unfold Ld at h
        split at h
        · split at h
          · simp only [Except.ok.injEq, CQ] at h
            obtain ⟨rfl,rfl⟩:=h
            exact ⟨by simp,by simp⟩
          · split at h
            · obtain ⟨s', ho, rfl, -⟩ := Ml h
              exact ⟨M0 _ _ _ _ _ ho,by simp⟩
            · cases h
        · split at h
          · obtain ⟨s', ho, rfl, -⟩ := Ml h
            exact ⟨M0 _ _ _ _ _ ho,by simp⟩
          · cases h
      · split at h
        · simp only [Except.ok.injEq, CQ] at h
          obtain ⟨rfl,rfl⟩:=h
          exact ⟨FL _,by simp⟩
        · split at h
          · simp only [Except.ok.injEq, CQ] at h
            obtain ⟨rfl,rfl⟩:=h
            exact ⟨FL _,by simp⟩
          · split at h
            · simp only [Except.ok.injEq, CQ] at h
              obtain ⟨rfl,rfl⟩:=h
              exact ⟨FL _,by simp⟩
            · split at h
              · unfold LM at h
                split at h
                · split at h
                  · next d r' _ =>
                    obtain ⟨rfl,rfl,-⟩:=KC h
                    have:=IB r'
                    exact ⟨by simp only [A8];omega,by simp⟩
                  · obtain ⟨rfl, rfl, -⟩ := KC h
                    exact ⟨IB _,by simp⟩
                · obtain ⟨rfl, rfl, -⟩ := KC h
                  exact ⟨IB _,by simp⟩
              · have e := V3 h1 h2 aS aS aS aS aS aS aS
                have a:(c::r).dropWhile DO=r.dropWhile DO:=by simp [List.dropWhile_cons,e]
                have b:=IB r
                unfold Sz at h
                simp only at h
                split at h
                · cases h
                · next he =>
                  split at h
                  · next hk =>
                    simp only [Except.ok.injEq,CQ] at h
                    obtain ⟨rfl,rfl⟩:=h
                    rw [a]
                    refine ⟨b,?_⟩
                    have:=UJ _ hk (by simpa using he)
                    intro f
                    simp only at f
                    omega
                  · obtain ⟨rfl, rfl, -⟩ := KC h
                    rw [a]
                    exact ⟨b,by simp⟩
theorem Jw:∀ (l:l8_) (m:Bool) {c:UInt8} {r:l8_},DV m l=c::r->Er c=false/\c≠37
 | [],m,c,r,h=>by cases m <;> simp [DV] at h
 | x::t,false,c,r,h=>by
  unfold DV at h
  split at h
  · exact Jw t true h
  ·
   split at h
   · exact Jw t false h
   ·
    simp only [DE] at h
    obtain ⟨rfl,rfl⟩:=h
    exact ⟨by simp_all,by assumption⟩
 | x::t,true,c,r,h=>by
  unfold DV at h
  split at h
  · exact Jw t false h
  · exact Jw t true h
theorem Zp {l:l8_} {t:JM} (h:Lu l=.ok (t,s)):(t.kind=0/\s=[])\/(t.kind≠0/\s.length<l.length):=by
 unfold Lu at h
 split at h
 ·
  simp only [Except.ok.injEq,CQ] at h
  obtain ⟨rfl,rfl⟩:=h
  exact Or.inl ⟨rfl,rfl⟩
 ·
  next c r hs =>
  have hh:=Jw l false hs
  obtain ⟨d,b⟩:=A18 (t:=t) (s:=s) hh.1 hh.2 h
  have a:=GI l false
  rw [hs] at a
  simp only [A8] at a
  exact Or.inr ⟨b,by omega⟩
theorem WK {o:Option (l8_ × l8_)} {k:Int} (h:Hz o=.error k):k=14\/k=9:=by
 unfold Hz at h
 split at h
 · cases h;exact Or.inl rfl
 ·
  split at h
  · cases h;exact Or.inr rfl
  · cases h
theorem XB {i:Int} {l:l8_} {k:Int} (h:IR i l=.error k):k=9:=by
 unfold IR at h
 split at h
 · cases h;rfl
 · cases h
theorem Zs {c:UInt8} {r:l8_} {k:Int} (h:MI c r=.error k):k≠0:=by
 have ht:∀ {o:Option (l8_ × l8_)},Hz o=.error k->k≠0:=λh=>by rcases WK h with rfl | rfl <;> decide
 have hn:∀ {i:Int} {l:l8_},IR i l=.error k->k≠0:=λh=>by rw [XB h];decide
 unfold MI at h
 split at h
 · exact ht h
 ·
  split at h
  · cases h;decide
  ·
   split at h
   ·
    unfold Ld at h
    split at h
    ·
     split at h
     · cases h
     ·
      split at h
      · exact ht h
      · cases h;decide
    ·
     split at h
     · exact ht h
     · cases h;decide
   ·
    split at h
    · cases h
    ·
     split at h
     · cases h
     ·
      split at h
      · cases h
      ·
       split at h
       ·
        unfold LM at h
        split at h
        ·
         split at h
         · exact hn h
         · exact hn h
        · exact hn h
       ·
        unfold Sz at h
        simp only at h
        split at h
        · next he=>cases h;exact he
        ·
         split at h
         · cases h
         · exact hn h
theorem Zq {l:l8_} (h:Lu l=.error 0):False:=by
 unfold Lu at h
 split at h
 · cases h
 · exact Zs (k:=0) h rfl
theorem R2 (l:l8_) (a:Nat) (ha:a<=l.length):(Gh l a).e≠0\/((Gh l a).k=0/\(Gh l a).at'=l.length)\/((Gh l a).k≠0/\(a:Int)<(Gh l a).at'/\(Gh l a).at'<=l.length):=by
 have e:Gh l a=A05 l (Lu (l.drop a)):=by unfold Gh;rw [A1 oO];rfl
 rw [e]
 cases h:Lu (l.drop a) with
 | error k =>
  by_cases hk:k=0
  · exfalso;subst hk;exact Zq h
  · exact Or.inl hk
 | ok p =>
  obtain ⟨t,s⟩:=p
  right
  simp only [A05]
  rcases Zp h with ⟨b,rfl⟩ | ⟨b,c⟩
  · exact Or.inl ⟨b,by simp⟩
  ·
   rw [B4] at c
   exact Or.inr ⟨b,by omega,by omega⟩
end
section
def MM:l8_->Option (l8_)
 | []=>some []
 | [c]=>if c=35 then none else some [c]
 | [c,a]=>if c=35 then none else (MM [a]).map (c::·)
 | c::a::b::r =>
  if c=35 then (if Ee a<16/\Ee b<16 then (MM r).map (ch ((16 * Ee a+Ee b:Nat):Int)::·) else none)
  else (MM (a::b::r)).map (c::·)
def Jc (l:l8_) (t:Nat):Except Int (l8_ × Nat) :=
 match MM (E0 l t) with
 | none=>.error 23
 | some out=>if out=[]\/0∈out then .error 23 else if 127<out.length then .error 25 else .ok (out,BP l t)
def Ja (c:UInt8):Bool:=c != 62 && (Er c || decide (Ee c<16))
def Pq (l:l8_) (t:Nat):Bool:=if l[t]?=some 60 then (l.drop (t+1)).all Ja else true
def Km (l:l8_) (t:Nat):Except Int (l8_ × Nat) :=
 if (Gh l t).e=14/\Pq l t=true then .error 24
 else if (Gh l t).e=9 then .error 25
 else if (Gh l t).e≠0\/(Gh l t).k≠6 then .error 23
 else .ok ((Gh l t).s,(Gh l t).at'.toNat)
abbrev MN:=Except Int (PV × Nat)
def HU (obj:Nat->MN) (l:l8_):Nat->List PV->Nat->Except Int (List PV × Nat)
 | 0,_,_=>.error 24
 | f+1,acc,t =>
  match l[AP false l t]? with
  | none=>.error 24
  | some c =>
   if c=93 then .ok (acc,AP false l t+1)
   else if 65535<=acc.length then .error 25
   else match obj (AP false l t) with
    | .error k=>.error k
    | .ok (o,t')=>HU obj l f (acc++[o]) t'
def GT (obj:Nat->MN) (l:l8_):Nat->List (l8_)->List PV->Nat->Except Int (List (l8_) × List PV × Nat)
 | 0,_,_,_=>.error 24
 | f+1,ks,os,t =>
  match l[AP false l t]? with
  | none=>.error 24
  | some c =>
   if c=62/\l.length<=AP false l t+1 then .error 24
   else if c=62/\l[AP false l t+1]?=some 62 then .ok (ks,os,AP false l t+2)
   else if c≠47 then .error 23
   else match Jc l (AP false l t+1) with
    | .error k=>.error k
    | .ok (k,t1) =>
     if k∈ks then .error 23
     else if 65535<=os.length then .error 25
     else match l[AP false l t1]? with
      | none=>.error 24
      | some _=>match obj (AP false l t1) with
       | .error k=>.error k
       | .ok (o,t')=>GT obj l f (ks++[k]) (os++[o]) t'
def IG (l:l8_) (t:Nat):MN:=match Km l t with | .error k=>.error k | .ok (s,t')=>.ok (JJ 5 0 s,t')
def Lp (l:l8_) (t:Nat):MN:=match Jc l t with | .error k=>.error k | .ok (s,t')=>.ok (JJ 4 0 s,t')
def Rf (r:Except Int (List PV × Nat)):MN:=match r with | .error k=>.error k | .ok (os,t')=>.ok (.mk 6 0 [] [] os,t')
def Nc (r:Except Int (List (l8_) × List PV × Nat)):MN:=match r with | .error k=>.error k | .ok (ks,os,t')=>.ok (.mk 7 0 [] ks os,t')
def J2 (X:WR):MN:=if X.ok then .ok (JJ X.kind X.n [],X.np) else .error 23
def FD (refs:Bool) (l:l8_):Nat->Nat->MN
 | 0,t =>
  match l[t]? with
  | none=>.error 24
  | some c =>
   if c=47 then Lp l (t+1)
   else if c=91 then .error 25
   else if c=40 then IG l t
   else if c=60 then (if l.length<=t+1 then .error 24 else if l[t+1]?≠some 60 then IG l t else .error 25)
   else J2 (F4 refs l t)
 | d+1,t =>
  match l[t]? with
  | none=>.error 24
  | some c =>
   if c=47 then Lp l (t+1)
   else if c=91 then Rf (HU (FD refs l d) l (l.length+1) [] (t+1))
   else if c=40 then IG l t
   else if c=60 then (if l.length<=t+1 then .error 24 else if l[t+1]?≠some 60 then IG l t else Nc (GT (FD refs l d) l (l.length+1) [] [] (t+2)))
   else J2 (F4 refs l t)
end
section
def Np (c:UInt8):Int:=match A2w c with | some d=>(d:Int) | none=>-1
theorem JB (c:UInt8):Np c=-1/\15<Ee c\/Np c=Ee c/\Ee c<16:=by
 unfold Np A2w
 by_cases h:Ee c<16
 · rw [A6 h];exact Or.inr ⟨rfl,h⟩
 · rw [A1 h];exact Or.inl ⟨rfl,by omega⟩
theorem X3 (c:UInt8) (w:World) :
  Calls Tryz.prog 198 #[.int .u8 (c.toNat:Int)] w λe w'=>e=.returned (.int .i64 (Np c))/\w=w':=by
 obtain ⟨R,hR⟩:∃ R:Int,R=Np c:=⟨_,rfl⟩
 rw [<- hR]
 have hR':R=if 48<=c.toNat/\c.toNat<=57 then (c.toNat:Int)-48 else if 97<=c.toNat/\c.toNat<=102 then (c.toNat:Int)-87 else if 65<=c.toNat/\c.toNat<=70 then (c.toNat:Int)-55 else -1:=by
  rw [hR];unfold Np A2w
  by_cases h1:48<=c.toNat/\c.toNat<=57;rw [show Ee c=c.toNat-48 by unfold Ee;rw [A6 h1],A6 oO,A6 h1];show ((c.toNat-48:Nat):Int)=_;omega
  rw [A1 h1]
  by_cases m:97<=c.toNat/\c.toNat<=102;rw [show Ee c=c.toNat-87 by unfold Ee;rw [A1 h1,A6 oO],A6 oO,A6 m];show ((c.toNat-87:Nat):Int)=_;omega
  rw [A1 m]
  by_cases h3:65<=c.toNat/\c.toNat<=70;rw [show Ee c=c.toNat-55 by unfold Ee;rw [A1 h1,A1 oO,A6 oO],A6 oO,A6 h3];show ((c.toNat-55:Nat):Int)=_;omega
  rw [A1 h3,A1];unfold Ee;rw [A1 h1]
  split
  omega
  split <;> omega
 have hc:c.toNat<256:=Ce c
 refine W.e func198 rfl ntmps198 bL ?_
 refine A4<|A9 rfl<|Ah<|W.b<|A4<|A2 rfl<|A0 (.geq rfl rfl)<|A2 rfl<|B1 rfl rfl rfl (λf=>?_) (λf=>?_)
 have D:=dT f
 refine A2 rfl<|As f<|A0 (.leq rfl rfl)<|A0 (.pkT rfl f rfl)<|A9 rfl<|Ac rfl (λm=>?_) (λm=>?_)
 have E:=dT m
 refine A4<|A2 rfl<|A0 (.sub rfl rfl (TJ oO))<|A0 (.cvt Lk JQ rfl (Bp oO))<|A9 rfl<|Ai (AZ rfl rfl ?_)
 exact ⟨E7 (by rw [hR'];(repeat' split) <;> omega),rfl⟩
 have E:=dF m
 refine A4<|A2 rfl<|A0 (.geq rfl rfl)<|A2 rfl<|B1 rfl rfl rfl (λg=>?_) (λg=>?_)
 have F:=dT g
 refine A2 rfl<|As g<|A0 (.leq rfl rfl)<|A0 (.pkT rfl g rfl)<|A9 rfl<|Ac rfl (λt=>?_) (λt=>?_)
 have G:=dT t
 refine A4<|A2 rfl<|A0 (.sub rfl rfl (TJ oO))<|A0 (.cvt Lk JQ rfl (Bp oO))<|A0 (.add rfl rfl (Bp oO))<|A9 rfl<|Ai (AZ rfl rfl ?_)
 exact ⟨E7 (by rw [hR'];(repeat' split) <;> omega),rfl⟩
 have G:=dF t
 refine A4<|A2 rfl<|A0 (.geq rfl rfl)<|A2 rfl<|B1 rfl rfl rfl (λi=>?_) (λi=>?_)
 have H:=dT i
 refine A2 rfl<|As i<|A0 (.leq rfl rfl)<|A0 (.pkT rfl i rfl)<|A9 rfl<|Ac rfl (λu=>?_) (λu=>?_)
 have J:=dT u
 refine A4<|A2 rfl<|A0 (.sub rfl rfl (TJ oO))<|A0 (.cvt Lk JQ rfl (Bp oO))<|A0 (.add rfl rfl (Bp oO))<|A9 rfl<|Ai (AZ rfl rfl ?_)
 exact ⟨E7 (by rw [hR'];(repeat' split) <;> omega),rfl⟩
 have J:=dF u
 refine W.k<|A4<|A9 rfl<|Ai (AZ rfl rfl ?_)
 exact ⟨E7 (by rw [hR'];(repeat' split) <;> omega),rfl⟩
 have H:=dF i
 refine Aa i<|A0 (.pkF rfl i rfl)<|A9 rfl<|DS rfl rfl<|W.k<|A4<|A9 rfl<|Ai (AZ rfl rfl ?_)
 exact ⟨E7 (by rw [hR'];(repeat' split) <;> omega),rfl⟩
 have F:=dF g
 refine Aa g<|A0 (.pkF rfl g rfl)<|A9 rfl<|DS rfl rfl<|A4<|A2 rfl<|A0 (.geq rfl rfl)<|A2 rfl<|B1 rfl rfl rfl (λj=>?_) (λj=>?_)
 have K:=dT j
 refine A2 rfl<|As j<|A0 (.leq rfl rfl)<|A0 (.pkT rfl j rfl)<|A9 rfl<|Ac rfl (λv=>?_) (λv=>?_)
 have L:=dT v
 refine A4<|A2 rfl<|A0 (.sub rfl rfl (TJ oO))<|A0 (.cvt Lk JQ rfl (Bp oO))<|A0 (.add rfl rfl (Bp oO))<|A9 rfl<|Ai (AZ rfl rfl ?_)
 exact ⟨E7 (by rw [hR'];(repeat' split) <;> omega),rfl⟩
 have L:=dF v
 refine W.k<|A4<|A9 rfl<|Ai (AZ rfl rfl ?_)
 exact ⟨E7 (by rw [hR'];(repeat' split) <;> omega),rfl⟩
 have K:=dF j
 refine Aa j<|A0 (.pkF rfl j rfl)<|A9 rfl<|DS rfl rfl<|W.k<|A4<|A9 rfl<|Ai (AZ rfl rfl ?_)
 exact ⟨E7 (by rw [hR'];(repeat' split) <;> omega),rfl⟩
 have D:=dF f
 refine Aa f<|A0 (.pkF rfl f rfl)<|A9 rfl<|DS rfl rfl<|A4<|A2 rfl<|A0 (.geq rfl rfl)<|A2 rfl<|B1 rfl rfl rfl (λl=>?_) (λl=>?_)
 have P:=dT l
 refine A2 rfl<|As l<|A0 (.leq rfl rfl)<|A0 (.pkT rfl l rfl)<|A9 rfl<|Ac rfl (λo=>?_) (λo=>?_)
 have x:=dT o
 refine A4<|A2 rfl<|A0 (.sub rfl rfl (TJ oO))<|A0 (.cvt Lk JQ rfl (Bp oO))<|A0 (.add rfl rfl (Bp oO))<|A9 rfl<|Ai (AZ rfl rfl ?_)
 exact ⟨E7 (by rw [hR'];(repeat' split) <;> omega),rfl⟩
 have x:=dF o
 refine A4<|A2 rfl<|A0 (.geq rfl rfl)<|A2 rfl<|B1 rfl rfl rfl (λa=>?_) (λa=>?_)
 have y:=dT a
 refine A2 rfl<|As a<|A0 (.leq rfl rfl)<|A0 (.pkT rfl a rfl)<|A9 rfl<|Ac rfl (λq=>?_) (λq=>?_)
 have A:=dT q
 refine A4<|A2 rfl<|A0 (.sub rfl rfl (TJ oO))<|A0 (.cvt Lk JQ rfl (Bp oO))<|A0 (.add rfl rfl (Bp oO))<|A9 rfl<|Ai (AZ rfl rfl ?_)
 exact ⟨E7 (by rw [hR'];(repeat' split) <;> omega),rfl⟩
 have A:=dF q
 refine W.k<|A4<|A9 rfl<|Ai (AZ rfl rfl ?_)
 exact ⟨E7 (by rw [hR'];(repeat' split) <;> omega),rfl⟩
 have y:=dF a
 refine Aa a<|A0 (.pkF rfl a rfl)<|A9 rfl<|DS rfl rfl<|W.k<|A4<|A9 rfl<|Ai (AZ rfl rfl ?_)
 exact ⟨E7 (by rw [hR'];(repeat' split) <;> omega),rfl⟩
 have P:=dF l
 refine Aa l<|A0 (.pkF rfl l rfl)<|A9 rfl<|DS rfl rfl<|A4<|A2 rfl<|A0 (.geq rfl rfl)<|A2 rfl<|B1 rfl rfl rfl (λd=>?_) (λd=>?_)
 have B:=dT d
 refine A2 rfl<|As d<|A0 (.leq rfl rfl)<|A0 (.pkT rfl d rfl)<|A9 rfl<|Ac rfl (λs=>?_) (λs=>?_)
 have C:=dT s
 refine A4<|A2 rfl<|A0 (.sub rfl rfl (TJ oO))<|A0 (.cvt Lk JQ rfl (Bp oO))<|A0 (.add rfl rfl (Bp oO))<|A9 rfl<|Ai (AZ rfl rfl ?_)
 exact ⟨E7 (by rw [hR'];(repeat' split) <;> omega),rfl⟩
 have C:=dF s
 refine W.k<|A4<|A9 rfl<|Ai (AZ rfl rfl ?_)
 exact ⟨E7 (by rw [hR'];(repeat' split) <;> omega),rfl⟩
 have B:=dF d
 refine Aa d<|A0 (.pkF rfl d rfl)<|A9 rfl<|DS rfl rfl<|W.k<|A4<|A9 rfl<|Ai (AZ rfl rfl ?_)
 exact ⟨E7 (by rw [hR'];(repeat' split) <;> omega),rfl⟩
theorem OG (k:Int) (s:l8_) (w:World) (hs:s.length<=100000000) :
  Calls Tryz.prog 155 #[.int .i64 k,.string (bs s)] w (Cg 30 (if 127<s.length then .error 9 else .ok (⟨k,0,s⟩:JM)) JM.val (λ_ w'=>Below w.heap.size w w') (λw'=>Below w.heap.size w w')):=by
 refine W.e func155 rfl ntmps155 bL ?_
 have a:=EM (w.heap.size) w
 refine A4<|BV IF rfl (λv u b d f q=>?_)
 have c:=uB a b f
 have o:=Cq b a.size
 refine WL.e<|Ah<|A4<|A2 rfl<|A0 (.len Ju rfl)<|A0 (.gtr rfl rfl)<|WL.e<|Ac rfl (λg=>?_) (λg=>?_)
 have l:=dT g
 refine Ak<|A0 (.mkI LJ rfl)<|Fo rfl (Aw ?_)
 exact Bn 9 (by rw [A6 oO]) c
 have l:=dF g
 refine W.k<|A4<|A2 rfl<|A2 rfl<|?_
 refine A0 (.buildL (ps:=_) J7 rfl rfl rfl pS) ?_
 refine Az rfl rfl d Br rfl rfl (λx i j t=>?_)
 have m:=CN c oO j
 refine WL.e<|Ai (C4 rfl rfl (Bq i Ec rfl Br)  ?_)
 exact Cg.ok ⟨k,0,s⟩ (by rw [A1 oO]) rfl m
theorem Jr (p:Option Addr) (s:l8_) (c:Nat) (w:World) (hb:Av w p s) (hs:s.length<=100000000) :
  Calls Tryz.prog 180 #[.slice p s.length c] w (Cg 30 (if 65535<s.length then .error 9 else .ok (⟨6,0,s⟩:JM)) JM.val (λ_ w'=>Below w.heap.size w w') (λw'=>Below w.heap.size w w')):=by
 refine W.e func180 rfl ntmps180 bL ?_
 have d:=EM (w.heap.size) w
 refine A4<|BV IF rfl (λC B a g b x=>?_)
 have i:=λy=>a▸hb.lt y
 have q:=DB hb b i
 have f:=uB d a b
 have v:=Cq a d.size
 refine WL.e<|Ah<|A4<|A2 rfl<|A0 (.lenS Bu rfl)<|A0 (.gtr rfl rfl)<|WL.e<|Ac rfl (λj=>?_) (λj=>?_)
 have t:=dT j
 refine Ak<|A0 (.mkI LJ rfl)<|Fo rfl (Aw ?_)
 exact Bn 9 (by rw [A6 oO]) f
 have t:=dF j
 refine W.k<|A4<|A2 rfl<|Ag (Mc (l:=s) Bu Lk Ju rfl (q))<|?_
 refine A0 (.buildL (ps:=_) J7 rfl rfl rfl pS) ?_
 refine Az rfl rfl g Br rfl rfl (λD m o A=>?_)
 have u:=CN f oO o
 refine WL.e<|Ai (C4 rfl rfl (Bq m Ec rfl Br)  ?_)
 exact Cg.ok ⟨6,0,s⟩ (by rw [A1 oO]) rfl u
def Xe (l:l8_) (t:Nat):Bool:=decide (t<l.length) && DO l[t]!
theorem A62 {l:l8_} (h:Xe l t=true):t<l.length/\BP l t=BP l (t+1):=by
 unfold Xe at h
 simp only [A3,Ab] at h
 obtain ⟨a,b⟩:=h
 rw [getElem!_pos l t a] at b
 refine ⟨a,?_⟩
 unfold BP
 rw [Gx DO l t a,A6 b,A8];omega
theorem A63 {l:l8_} (h:Xe l t=false):BP l t=t:=by
 unfold BP
 by_cases h1:t<l.length
 ·
  unfold Xe at h
  rw [Aj h1,Cx,getElem!_pos l t h1] at h
  rw [Gx DO l t h1,A1 (bF h)];rfl
 · rw [B9 oO];rfl
theorem ZL (x:UInt8) (w:World) (m:Nat):Calls Tryz.prog 182 #[.int .u8 (x.toNat:Int)] (w.drewN m) λe w'=>e=.returned (.bool (DO x))/\∃ k,w'=w.drewN k :=
 (TS x (w.drewN m)).mono λe w' h=>⟨h.1,m,h.2.symm⟩
theorem OF (r:Nat) (p:Option Addr) (l:l8_) (c a:Nat) (w:World) (h:Jm w r p l c a) (hne:0<l.length->(pA p).block≠r) (hc:l.length<=c) (hl:l.length<=100000000) (ha:a<=l.length) :
  Calls Tryz.prog 154 #[.pointer (some ⟨r,0,none⟩)] w λe w'=>e=.returned (.string (bs ((l.drop a).takeWhile DO)))/\Jm w' r p l c (BP l a)/\Bf w.heap.size r w w':=by
 have hr:=h.1
 have hb:=h.2
 refine W.e func154 rfl ntmps154 bL ?_
 refine A4<|A9 rfl<|A4<|A2 rfl<|A0 (.nck rfl)<|A0 (.fa Dt rfl B5 dD rfl)<|Ag (Ad (Bw _) rfl hr rfl)<|A9 rfl<|Ah<|W.b<|Cj (α:=Nat) (λt=>[(0,.pointer (some ⟨r,0,none⟩)),(3,.int .i64 (a:Int))]) (λt w'=>Jm w' r p l c t/\Bf w.heap.size r w w'/\a<=t/\t<=l.length/\BP l t=BP l a) (λt=>l.length-t) (a) ⟨rfl,rfl,tT⟩ (⟨h,Bf.refl _ _ _,FL _,ha,rfl⟩) (λt L hR=>?_)
 obtain ⟨f,hT,x,ht,hw⟩:=hR
 refine Ah<|ME 22 (Xe l t) ?_ (λL s=>?_)
 refine E2 C7 kR<|At (.mv rfl) rfl<|WQ.c1 AN rfl rfl (λm=>(U8 r p l c t _ ⟨f.1,f.2⟩ m))<|At (.mv rfl) rfl<|M9 rfl rfl rfl (λd=>?_) (λd=>?_)
 have E:=dT d
 refine At (.mv rfl) rfl<|BT rfl rfl rfl d<|At (.nck rfl) rfl<|BT rfl rfl rfl d<|At (.fa Dt rfl G3 dD rfl) rfl<|BT rfl rfl rfl d<|Di (λm=>Ad (g22_ _) rfl f.1 rfl) rfl<|BT rfl rfl rfl d<|At (.mv rfl) rfl<|BT rfl rfl rfl d<|At (.nck rfl) rfl<|BT rfl rfl rfl d<|At (.fa Dt rfl B5 dD rfl) rfl<|BT rfl rfl rfl d<|Di (λm=>Ad (Bw _) rfl f.1 rfl) rfl<|BT rfl rfl rfl d<|At (.ixb Bu I7 rfl rfl (f.2.isp oD) (t) oO oO) rfl<|BT rfl rfl rfl d<|Di (λm=>AO (Ou _) rfl ((f.2.drewN m).cells (t) oO)) rfl<|BT rfl rfl rfl d<|WQ.c1 AN rfl rfl (λm=>(ZL _ _ m))<|At (.pkT rfl d rfl) rfl<|Da (λQ F=>?_)
 exact ⟨G8 (Cy rfl (by (by_cases hq:t<l.length) <;> (unfold Xe;first | (exfalso;omega) | (rw [getElem!_pos l t hq,Aj hq];rfl) | (rw [Al hq];simp_all;done)))),F⟩
 have E:=dF d
 refine Bb rfl rfl rfl d<|Bb rfl rfl rfl d<|Bb rfl rfl rfl d<|Bb rfl rfl rfl d<|Bb rfl rfl rfl d<|Bb rfl rfl rfl d<|Bb rfl rfl rfl d<|Bb rfl rfl rfl d<|Bb rfl rfl rfl d<|Bb rfl rfl rfl d<|At (.pkF rfl d rfl) rfl<|Da (λT G=>?_)
 exact ⟨G8 (Cy rfl (by (by_cases hq:t<l.length) <;> (unfold Xe;first | (exfalso;omega) | (rw [getElem!_pos l t hq,Aj hq];rfl) | (rw [Al hq];simp_all;done)))),G⟩
 have i:=f.1.drew s
 have o:=f.2.drew s
 have u:=BN hT (NE s)
 refine Ac rfl (λH=>?_) (λH=>?_)
 obtain ⟨v,N⟩:=A62 aS
 refine W.k<|W.b<|Ak<|A2 rfl<|A0 (.nck rfl)<|A0 (.fa Dt rfl B5 dD rfl)<|Ag (Ad (Bw _) rfl i rfl)<|A0 (.iis (((t+1:Nat):Int)) (.add rfl rfl (Bp oO)) oO)<|A0 (.nck rfl)<|A0 (.fa Dt rfl B5 dD rfl)<|WL.st B5 rfl rfl rfl i oQ (λJ j g K=>?_)
 have j:AF J r _ _:=j
 have g:BF r _ _:=g
 have y:=Av.upd o g hne
 have A:=BN u (BM g)
 refine WL.e<|?_
 exact ⟨t+1,⟨rfl,rfl,tT⟩,⟨⟨j,y⟩,A,by omega,by omega,by omega⟩,by omega⟩
 have v:=A63 aS
 refine C0<|Ah<|E2 C7 kR<|At (.mv rfl) rfl<|At (.nck rfl) rfl<|At (.fa Dt rfl G3 dD rfl) rfl<|Di (λm=>Ad (g22_ _) rfl i rfl) rfl<|At (.mv rfl) rfl<|At (.mv rfl) rfl<|At (.nck rfl) rfl<|At (.fa Dt rfl B5 dD rfl) rfl<|Di (λm=>Ad (Bw _) rfl i rfl) rfl<|At (.slb Bu I7 rfl rfl rfl  (a) (t) (rfl) (rfl) (x) oO) rfl<|Di (λm=>Nt Bu Lk Ju rfl rfl (o.drewN m) x ht hc) rfl<|At (.as rfl) rfl<|Da (λP q=>?_)
 have B:=i.drew q
 have C:=o.drew q
 have D:=BN u (NE q)
 refine Ai (AZ rfl rfl ?_)
 exact ⟨Ci (by rw [<- Sy,<- hw,v]),⟨by rw [<- hw,v];exact B,C⟩,D⟩
theorem OV {k e:Int} {l:l8_} (h:(if 127<(l.takeWhile DO).length then (.error 9:Except Int JM) else .ok ⟨k,0,l.takeWhile DO⟩)=.error e):IR k l=.error e:=by
 unfold IR
 split at h
 · next h1=>rw [A6 h1];cases h;rfl
 · cases h
theorem R7 {k:Int} {l:l8_} {a:JM} (h:(if 127<(l.takeWhile DO).length then (.error 9:Except Int JM) else .ok ⟨k,0,l.takeWhile DO⟩)=.ok a):IR k l=.ok (a,l.dropWhile DO):=by
 unfold IR
 split at h
 · cases h
 · next h1=>rw [A1 h1];cases h;rfl
theorem Qg (l:l8_) (t:Nat):((l.drop t).takeWhile DO).length<=l.length:=by
 have:=(List.takeWhile_sublist DO (l:=l.drop t)).length_le
 rw [B4] at this;omega
def A3r (w0:World) (r:Nat) (p:Option Addr) (l:l8_) (c:Nat) (a:JM × l8_) (w':World):Prop:=∃ k,a.2=l.drop k/\k<=l.length/\Jm w' r p l c k/\Bf w0.heap.size r w0 w'
theorem WZ (r:Nat) (p:Option Addr) (l:l8_) (c t:Nat) (w:World) (h:Jm w r p l c t) (hne:0<l.length->(pA p).block≠r) (hc:l.length<=c) (hl:l.length<=100000000) (ht:t<=l.length) :
  Calls Tryz.prog 153 #[.pointer (some ⟨r,0,none⟩)] w (Cg 30 (LM (l.drop t)) (λa=>a.1.val) (A3r w r p l c) (λw'=>Bf w.heap.size r w w')):=by
 have hr:=h.1
 have hb:=h.2
 have hy:=A1p (l:=l) (s:=t) (d:=(l[t]?).getD 0) rfl
 refine W.e func153 rfl ntmps153 bL ?_
 have V:=Bf.refl (w.heap.size) r w
 refine A4<|BV IF rfl (λb1 aA F G A az=>?_)
 have ah:=Bg F hr.lt
 have ai:=hr.un A ah
 have B:=λH=>F▸hb.lt H
 have aj:=DB hb A B
 have R:=Cq F V.size
 have X:=BN V (Es A R)
 refine WL.e<|Ah<|A4<|A2 rfl<|WL.c1 AN rfl rfl ((Mo r p l c t 47 _ ⟨ai,aj⟩ hne hl ht)) (λw7 C=>?_)
 have D:=C.1.1
 have E:=I4 G C.2 G.lt oO
 have J:=C.1.2
 have g:=BN X (G2 C.2 X.size)
 refine WL.e<|Ac rfl (λak=>?_) (λak=>?_)
 obtain ⟨am,an⟩:=Q3 (x:=47) aS
 rw [A6 aS] at D
 rw [A6 (by rw [A7 am,an];rfl)] at hy
 refine A4<|A2 rfl<|WL.c1 AN rfl rfl ((OF r p l c (t+1) _ ⟨D,J⟩ hne hc hl oO)) (λaB i=>?_)
 have Y:=i.1.1
 have Z:=I4 E i.2 E.lt oO
 have K:=i.1.2
 have j:=BN g (G2 i.2 g.size)
 refine Bk AN rfl rfl ((OG 5 _ _ (by have:=Qg l (t+1);omega))) (λao ap m b=>?_) (λaq ap m b=>?_)
 have L:=BN j (G2 (Jo b) j.size)
 exact Aw (Bn ao (by rw [hy];exact OV m) L)
 have a1:=Y.bl b
 have a2:=Z.bl b
 have a3:=GY K b (λH=>K.lt H)
 have a4:=BN j (G2 (Jo b) j.size)
 obtain ⟨N,ar⟩:∃ N,N=aq:=⟨_,rfl⟩
 have O:=m
 refine Az rfl rfl a2 Br rfl rfl (λaC T o ax=>?_)
 have a5:=a1.up o
 have a6:=DB a3 o B
 have a7:=BN a4 (Es o oO)
 refine WL.e<|Ai (C4 rfl rfl (Bq T Ec rfl Br)  ?_)
 exact Cg.ok (_,l.drop (BP l (t+1))) (by rw [hy,R7 O,Mf]) rfl ⟨_,rfl,(EX l (t+1) oO).2,⟨a5,a6⟩,a7⟩
 rw [A1 (bF aS)] at D
 rw [A1 (by
  by_cases hq:t<l.length;rw [A7 hq];exact U6 (x:=47) aS hq;rw [AK oO];decide)] at hy
 refine W.k<|A4<|A2 rfl<|WL.c1 AN rfl rfl ((OF r p l c t _ ⟨D,J⟩ hne hc hl oO)) (λaD q=>?_)
 have a8:=q.1.1
 have a9:=I4 E q.2 E.lt oO
 have P:=q.1.2
 have u:=BN g (G2 q.2 g.size)
 refine Bk AN rfl rfl ((OG 4 _ _ (by have:=Qg l t;omega))) (λau av v f=>?_) (λaw av v f=>?_)
 have Q:=BN u (G2 (Jo f) u.size)
 exact Aw (Bn au (by rw [hy];exact OV v) Q)
 have aa:=a8.bl f
 have ab:=a9.bl f
 have ac:=GY P f (λH=>P.lt H)
 have ad:=BN u (G2 (Jo f) u.size)
 obtain ⟨N,ar⟩:∃ N,N=aw:=⟨_,rfl⟩
 have O:=v
 refine Az rfl rfl ab Br rfl rfl (λaE U y ay=>?_)
 have ae:=aa.up y
 have af:=DB ac y B
 have ag:=BN ad (Es y oO)
 refine WL.e<|Ai (C4 rfl rfl (Bq U Ec rfl Br)  ?_)
 exact Cg.ok (_,l.drop (BP l t)) (by rw [hy,R7 O,Mf]) rfl ⟨_,rfl,(EX l t oO).2,⟨ae,af⟩,ag⟩
end
section
theorem A5m (h d:Nat) (hh:h<16) (hd:d<16):bits .or .i64 ((h:Int) * 16) (d:Int)=(h:Int) * 16+d:=by
 have key:∀ h d:Fin 16,bits .or .i64 ((h.1:Int) * 16) (d.1:Int)=(h.1:Int) * 16+d.1:=by decide +kernel
 exact key ⟨h,hh⟩ ⟨d,hd⟩
theorem Bx.shl4  {ty:TypeId} {a:Int} (hx:D0 f x=some (.int .i64 a)) (r:Int) (hr:IntKind.i64.wrap (a * 16)=r):Bx P (.binOp .shl tx x (.const (.int .u64 4)) ty) f (.int .i64 r):=λρ hρ d ty' pos aft g w=>by
 have h4:ρ (.const (.int .u64 4))=.int .u64 4:=hρ _ _ rfl
 simp [execOp,hρ _ _ hx,h4,eqGuard,binOp,shift_shl_i64,hr]
theorem Bx.or  {k:IntKind} {ty:TypeId} {a b r:Int} (hx:D0 f x=some (.int k a)) (hy:D0 f y=some (.int k b)) (hr:bits .or k a b=r):Bx P (.binOp .or tx x y ty) f (.int k r):=λρ hρ d ty' pos aft g w=>by
 simp [execOp,hρ _ _ hx,hρ _ _ hy,eqGuard,binOp,intBits_or,hr]
theorem Ii {l:l8_} {k:Int} (h:Qm l t=.error k):l.length<=t/\k=14:=by
 unfold Qm at h
 split at h
 · cases h
 · next h1=>cases h;exact ⟨List.getElem?_eq_none_iff.1 h1,rfl⟩
theorem NF {l:l8_} {x:UInt8} (h:Qm l t=.ok x):∃ ht:t<l.length,x=l[t]'ht:=by
 unfold Qm at h
 split at h
 · next h1=>cases h;obtain ⟨a,b⟩:=BR.1 h1;exact ⟨a,b.symm⟩
 · cases h
theorem OB {e:Int} {r:l8_} (h:(if 65535<s.length then (.error 9:Except Int JM) else .ok ⟨6,0,s⟩)=.error e):Hz (some (s,r))=.error e:=by
 simp only [Hz]
 split at h
 · next h1=>rw [A6 h1];cases h;rfl
 · cases h
theorem Ql  {r:l8_} {a:JM} (h:(if 65535<s.length then (.error 9:Except Int JM) else .ok ⟨6,0,s⟩)=.ok a):Hz (some (s,r))=.ok (a,r):=by
 simp only [Hz]
 split at h
 · cases h
 · next h1=>rw [A1 h1];cases h;rfl
theorem A1v (r:Nat) (p:Option Addr) (l:l8_) (c t:Nat) (w:World) (h:Jm w r p l c t) (hne:0<l.length->(pA p).block≠r) (hc:l.length<=c) (hl:l.length<=100000000) (ht:t<=l.length) :
  Calls Tryz.prog 181 #[.pointer (some ⟨r,0,none⟩)] w (Cg 30 (Hz (M1 none [] (l.drop t))) (λa=>a.1.val) (A3r w r p l c) (λw'=>Bf w.heap.size r w w')):=by
 have hr:=h.1
 have hb:=h.2
 obtain ⟨R,hR⟩:∃ R,R=M1 none [] (l.drop t):=⟨_,rfl⟩
 rw [<- hR]
 obtain ⟨a,rfl⟩:∃ a,a=t:=⟨t,rfl⟩
 refine W.e func181 rfl ntmps181 bL ?_
 have aw:=Bf.refl (w.heap.size) r w
 refine A4<|BV IF rfl (λb1 bK a1 ay X bH=>?_)
 have be:=Bg a1 hr.lt
 have bf:=hr.un X be
 have Y:=λF=>a1▸hb.lt F
 have bg:=DB hb X Y
 have aj:=Cq a1 aw.size
 have bh:=BN aw (Es X aj)
 refine WL.e<|Ah ?_
 have ax:0<l.length->(pA p).block<b1+1:=λF=>by have:=hb.lt F;omega
 have bM:r<b1:=by have:=hr.lt;omega
 refine Ak<|A9 rfl<|A4<|A9 rfl<|Ah<|W.b<|Cj (α:=Value × l8_ × Option Nat × Nat) (λt=>[(0,.pointer (some ⟨r,0,none⟩)),(2,.pointer (some ⟨b1,0,none⟩)),(3,t.1),(4,.int .i64 (XJ t.2.2.1))]) (λt w'=>Jm w' r p l c t.2.2.2/\Bf w.heap.size r w w'/\AF w' b1 #[.int .i64 0,.int .i64 0,.string ⟨#[]⟩] 147/\Cc 5 (b1+1) w' t.1 (AI t.2.1)/\M1 t.2.2.1 t.2.1 (l.drop t.2.2.2)=R/\(∀ x,t.2.2.1=some x->x<16)/\t.2.1.length<=t.2.2.2/\t.2.2.2<=l.length) (λt=>l.length-t.2.2.2) ((.slice none 0 0,[],none,a)) ⟨rfl,rfl,rfl,rfl,tT⟩ (⟨⟨bf,bg⟩,bh,ay,Cc.nil _ _ _,hR.symm,λx hx=>(by cases hx),Gg _,ht⟩) (λt w1 hR=>?_)
 obtain ⟨v,o,h,s⟩:=t
 obtain ⟨a2,hT,a3,a4,hw,L,bi,hs⟩:=hR
 simp only at a2 hT a3 a4 hw L bi hs ⊢
 refine W.b<|A4<|A2 rfl<|Bk AN rfl rfl ((Mn r p l c s _ ⟨a2.1,a2.2⟩ hne hl)) (λk9 w7 N G=>?_) (λa8 w7 N G=>?_)
 have ak:=BN hT (G2 G hT.size)
 exact Aw (Bn k9 (by rw [(Ii N).2,<- hw,B9 (Ii N).1];(first | done | rfl)) ak)
 have H:=It a4 G.2 oO
 have i:=G.1.1
 have j:=I4 a3 G.2 a3.lt oO
 have g:=G.1.2
 have f:=BN hT (G2 G.2 hT.size)
 obtain ⟨bj,hx⟩:=NF N
 obtain ⟨x,bk⟩:∃ x,x=a8:=⟨_,rfl⟩
 rw [<- bk] at hx ⊢
 have m:=A0j h o l s bj
 rw [<- hx] at m
 refine A9 rfl<|Ah<|A4<|A2 rfl<|WL.c1 AN rfl rfl ((N6 x _)) (λbN az=>?_)
 obtain rfl:=az
 refine WL.e<|Ac rfl (λbm=>?_) (λbm=>?_)
 refine C0 ?_
 exact ⟨(_,o,h,s+1),⟨rfl,rfl,rfl,rfl,tT⟩,⟨⟨i,g⟩,f,j,H,(by rw [<- hw,m,A6 aS]),L,by ((try simp only) <;> omega),by ((try simp only) <;> omega)⟩,by ((try simp only) <;> omega)⟩
 refine W.k<|Ah<|A4<|A2 rfl<|A0 (.eql rfl rfl)<|WL.e<|Ac rfl (λa5=>?_) (λa5=>?_)
 have aA:=dT a5
 refine C0<|Ah<|A4<|A2 rfl<|A0 (.geq rfl rfl)<|WL.e<|Ac rfl (λa6=>?_) (λa6=>?_)
 have aB:=dT a6
 obtain ⟨y,rfl⟩:∃ y,h=some y:=by cases h with | none=>exfalso;have:XJ none=-1:=rfl;omega | some y=>exact ⟨y,rfl⟩
 have hy:=L y rfl
 have bn:XJ (some y)=(y:Int):=rfl
 refine Ak<|A2 rfl<|A2 rfl<|A0 (.iis ((y:Int) * 16) (.shl4 rfl _ (Bp oO)) oO)<|A0 (.cvt JQ Lk rfl (TJ oO))<|Ct (ps:=_) Bu I7 PE rfl rfl rfl rfl rfl pR rfl (λbO bI J am u bA=>?_)
 have aC:=Cc.new H J u
 have aD:=Bg J i.lt
 have aE:=i.un u aD
 have aF:=Bg J j.lt
 have a7:=j.un u aF
 have an:=λF=>J▸g.lt F
 have aG:=DB g u an
 have a9:=Cq J f.size
 have aH:=BN f (Es u a9)
 refine ED Bu Gr rfl rfl rfl aC rfl am rfl (by rw [B3];omega) (a7.lt) rfl (λbP bQ ao D bB=>?_)
 have aI:=aE.below D oO
 have aJ:=a7.below D oO
 have aa:=GY aG D ax
 have P:=BN aH (Jo (D.mono oO))
 have aK:=Eo ao (ch ((y * 16:Nat):Int)) (by rw [JD _ oO oO];omega)
 refine A9 rfl<|Ah ?_
 obtain ⟨q,cq,rfl,ab,bo⟩:=Cc.bytes aK
 refine Ak<|A2 rfl<|Bk AN rfl rfl ((Jr q _ cq _ ab (by first | omega | (simp only [A5,A8,Ae];omega)))) (λbp bq Q B=>?_) (λbt bq Q B=>?_)
 have ac:=BN P (G2 (Jo B) P.size)
 exact Aw (Bn bp (by rw [<- hw,m,A1 (bF aS),A6 (Cr (d:=62) aS)];exact OB Q) ac)
 have aL:=aI.bl B
 have aM:=aJ.bl B
 have aN:=GY aa B (λF=>aa.lt F)
 have aO:=BN P (G2 (Jo B) P.size)
 obtain ⟨a0,bu⟩:∃ a0,a0=bt:=⟨_,rfl⟩
 have ad:=Q
 refine Az rfl rfl aM Br rfl rfl (λbR ap T bC=>?_)
 have aP:=aL.up T
 have aQ:=DB aN T Y
 have aR:=BN aO (Es T oO)
 refine WL.e<|Ai (C4 rfl rfl (Bq ap Ec rfl Br)  ?_)
 exact Cg.ok (_,l.drop (s+1)) (by rw [<- hw,m,A1 (bF aS),A6 (Cr (d:=62) aS)];exact Ql ad) rfl ⟨_,rfl,by omega,⟨aP,aQ⟩,aR⟩
 have aB:=dF a6
 obtain rfl:h=none:=by cases h with | none=>rfl | some y=>exfalso;have:XJ (some y)=(y:Int):=rfl;omega
 refine W.k<|Ah ?_
 obtain ⟨q,cq,rfl,ab,bo⟩:=Cc.bytes H
 refine Ak<|A2 rfl<|Bk AN rfl rfl ((Jr q _ cq _ ab (by first | omega | (simp only [A5,A8,Ae];omega)))) (λbv bw U C=>?_) (λbx bw U C=>?_)
 have ae:=BN f (G2 (Jo C) f.size)
 exact Aw (Bn bv (by rw [<- hw,m,A1 (bF aS),A6 (Cr (d:=62) aS)];exact OB U) ae)
 have aT:=i.bl C
 have aU:=j.bl C
 have aV:=GY g C (λF=>g.lt F)
 have aW:=BN f (G2 (Jo C) f.size)
 obtain ⟨a0,bu⟩:∃ a0,a0=bx:=⟨_,rfl⟩
 have ad:=U
 refine Az rfl rfl aU Br rfl rfl (λbS aq V bD=>?_)
 have aX:=aT.up V
 have aY:=DB aV V Y
 have aZ:=BN aW (Es V oO)
 refine WL.e<|Ai (C4 rfl rfl (Bq aq Ec rfl Br)  ?_)
 exact Cg.ok (_,l.drop (s+1)) (by rw [<- hw,m,A1 (bF aS),A6 (Cr (d:=62) aS)];exact Ql ad) rfl ⟨_,rfl,by omega,⟨aX,aY⟩,aZ⟩
 have aA:=dF a5
 refine W.k<|A4<|A2 rfl<|WL.c1 AN rfl rfl ((X3 x _)) (λbT a'=>?_)
 obtain rfl:=a'
 have bz:=JB x
 refine A9 rfl<|W.b<|A4<|A2 rfl<|A0 (.lss rfl rfl)<|A9 rfl<|Ac rfl (λaf=>?_) (λaf=>?_)
 have b0:=dT af
 refine Ak<|A0 (.mkI LJ rfl)<|Fo rfl (Aw ?_)
 exact Bn 14 (by rw [<- hw,m,A1 (bF aS),A1 (Dn (d:=62) aS),A6 oO];(first | done | rfl)) f
 have b0:=dF af
 refine A4<|A2 rfl<|A0 (.lss rfl rfl)<|A9 rfl<|Ac rfl (λag=>?_) (λag=>?_)
 have b2:=dT ag
 obtain rfl:h=none:=by cases h with | none=>rfl | some y=>exfalso;have:XJ (some y)=(y:Int):=rfl;omega
 refine Ak<|A2 rfl<|A9 rfl ?_
 exact ⟨(_,o,some (Ee x),s+1),⟨rfl,rfl,rfl,LA rfl (by show Np x=(Ee x:Int);omega),tT⟩,⟨⟨i,g⟩,f,j,H,(by rw [<- hw,m,A1 (bF aS),A1 (Dn (d:=62) aS),A1 oO]),λz hz=>(by obtain rfl:=DC hz;omega),by ((try simp only) <;> omega),by ((try simp only) <;> omega)⟩,by ((try simp only) <;> omega)⟩
 have b2:=dF ag
 obtain ⟨y,rfl⟩:∃ y,h=some y:=by cases h with | none=>exfalso;have:XJ none=-1:=rfl;omega | some y=>exact ⟨y,rfl⟩
 have hy:=L y rfl
 have bn:XJ (some y)=(y:Int):=rfl
 refine A4<|A2 rfl<|A2 rfl<|A0 (.iis ((y:Int) * 16) (.shl4 rfl _ (Bp oO)) oO)<|A2 rfl<|A0 (.or rfl rfl (show bits .or .i64 ((y:Int) * 16) (Np x)=(y:Int) * 16+(Ee x:Int) by rw [(bz.resolve_left (λh=>by have:=h.1;omega)).1];exact A5m _ _ hy oO))<|A0 (.cvt JQ Lk rfl (TJ oO))<|Ct (ps:=_) Bu I7 PE rfl rfl rfl rfl rfl pR rfl (λbU bJ K ar A bE=>?_)
 have b3:=Cc.new H K A
 have b4:=Bg K i.lt
 have b5:=i.un A b4
 have b6:=Bg K j.lt
 have ah:=j.un A b6
 have au:=λF=>K▸g.lt F
 have b7:=DB g A au
 have ai:=Cq K f.size
 have b8:=BN f (Es A ai)
 refine ED Bu Gr rfl rfl rfl b3 rfl ar rfl (by rw [B3];omega) (ah.lt) rfl (λbV bW av E bG=>?_)
 have b9:=b5.below E oO
 have ba:=ah.below E oO
 have bb:=GY b7 E ax
 have bc:=BN b8 (Jo (E.mono oO))
 have bd:=Eo av (ch ((y * 16+Ee x:Nat):Int)) (by rw [JD _ oO oO];omega)
 refine A9 rfl<|Ak<|A9 rfl ?_
 exact ⟨(_,o++[_],none,s+1),⟨rfl,rfl,rfl,rfl,tT⟩,⟨⟨b9,bb⟩,bc,ba,bd,(by rw [<- hw,m,A1 (bF aS),A1 (Dn (d:=62) aS),A1 oO]),λz hz=>(by cases hz),oF,by ((try simp only) <;> omega)⟩,by ((try simp only) <;> omega)⟩
theorem Ws  {b:Nat} {c d:UInt8} {t:TypeId} (h:AF w b #[.int .u8 (c.toNat:Int),.int .u8 (d.toNat:Int)] t):Av w (some ⟨b,0,none⟩) [c,d] :=
 ⟨λ_=>rfl,λj hj=>by
  have e1:(pA (some ⟨b,0,none⟩)).add j=⟨b,j,none⟩:=by
   show (⟨b,0,none⟩:Addr).add j=_
   unfold Addr.add;split
   · next h=>subst h;rfl
   · simp
  rw [e1,h.cell j]
  match j,hj with
  | 0,_=>rfl
  | 1,_=>rfl⟩
theorem Qx (r:Nat) (p:Option Addr) (l:l8_) (c t:Nat) (x:UInt8) (w:World) (h:Jm w r p l c t) (hne:0<l.length->(pA p).block≠r) (hc:l.length<=c) (hl:l.length<=100000000) (ht:t<=l.length) (hx:x≠0) :
  Calls Tryz.prog 152 #[.pointer (some ⟨r,0,none⟩),.int .u8 (x.toNat:Int)] w (Cg 30 (Ld x (l.drop t)) (λa=>a.1.val) (A3r w r p l c) (λw'=>Bf w.heap.size r w w')):=by
 have hr:=h.1
 have hb:=h.2
 have hy:=A3g (l:=l) (s:=t) (c:=x) (d:=(l[t]?).getD 0) hx rfl
 refine W.e func152 rfl ntmps152 bL ?_
 have Q:=Bf.refl (w.heap.size) r w
 refine A4<|BV IF rfl (λb1 az D E v ax=>?_)
 have af:=Bg D hr.lt
 have ag:=hr.un v af
 have y:=λU=>D▸hb.lt U
 have ah:=DB hb v y
 have J:=Cq D Q.size
 have T:=BN Q (Es v J)
 refine WL.e<|Ah<|W.b<|A4<|A2 rfl<|A2 rfl<|WL.c1 AN rfl rfl ((Mo r p l c t x _ ⟨ag,ah⟩ hne hl ht)) (λw7 B=>?_)
 have u:=B.1.1
 have C:=I4 E B.2 E.lt oO
 have A:=B.1.2
 have g:=BN T (G2 B.2 T.size)
 refine A9 rfl<|Ac rfl (λai=>?_) (λai=>?_)
 obtain ⟨aj,ak⟩:=Q3 (x:=x) aS
 rw [A6 aS] at u
 rw [A6 (by rw [A7 aj,ak];rfl)] at hy
 refine A4<|A2 rfl<|A2 rfl<|Ct (ps:=_) Bu I7 PE rfl rfl rfl rfl rfl pR rfl (λaA ay j K i au=>?_)
 have V:=Bg j u.lt
 have X:=u.un i V
 have Y:=Bg j C.lt
 have a1:=C.un i Y
 have L:=λU=>j▸A.lt U
 have a2:=DB A i L
 have F:=Cq j g.size
 have a3:=BN g (Es i F)
 refine Ag (Mc (l:=[x,x]) Bu Lk Ju rfl (Ws K))<|?_
 refine A0 (.buildL (ps:=_) J7 rfl rfl rfl pS) ?_
 refine Az rfl rfl a1 Br rfl rfl (λaB N m av=>?_)
 have a4:=X.up m
 have a5:=DB a2 m y
 have a6:=BN a3 (Es m oO)
 refine WL.e<|Ai (C4 rfl rfl (Bq N Ec rfl Br)  ?_)
 exact Cg.ok (⟨3,0,[x,x]⟩,l.drop (t+1)) hy rfl ⟨_,rfl,by omega,⟨a4,a5⟩,a6⟩
 rw [A1 (bF aS)] at u
 rw [A1 (by
  by_cases hq:t<l.length;rw [A7 hq];exact U6 (x:=x) aS hq;rw [AK oO];exact λe=>hx e.symm)] at hy
 refine A4<|A2 rfl<|A0 (.eql rfl rfl)<|A9 rfl<|Ac rfl (λG=>?_) (λG=>?_)
 have a7:=dT G
 refine A4<|A2 rfl<|Bk AN rfl rfl ((A1v r p l c t _ ⟨u,A⟩ hne hc hl ht)) (λam an o f=>?_) (λao an o f=>?_)
 have H:=BN g (G2 f g.size)
 exact Aw (Bn am (by rw [hy,A6 (Cr aS)];exact o) H)
 obtain ⟨kr,ap,aq,f⟩:=f
 have a8:=f.1.1
 have a9:=I4 C f.2 C.lt oO
 have aa:=f.1.2
 have ab:=BN g (G2 f.2 g.size)
 have ar:=o
 obtain ⟨a0,aC⟩:∃ a0,a0=ao:=⟨_,rfl⟩
 refine Az rfl rfl a9 Br rfl rfl (λaD P q aw=>?_)
 have ac:=a8.up q
 have ad:=DB aa q y
 have ae:=BN ab (Es q oO)
 refine WL.e<|Ai (C4 rfl rfl (Bq P Ec rfl Br)  ?_)
 exact Cg.ok _ (by rw [hy,A6 (Cr aS)];exact ar) rfl ⟨_,ap,aq,⟨ac,ad⟩,ae⟩
 have a7:=dF G
 refine W.k<|Ak<|A0 (.mkI LJ rfl)<|Fo rfl (Aw ?_)
 exact Bn 14 (by rw [hy,A1 (Dn (d:=60) aS)]) g
end
section
theorem Q2 (l:l8_) (t:Nat) (ht:t<=l.length):t<=(if Hc l t 10 then t+1 else t)/\(if Hc l t 10 then t+1 else t)<=l.length/\l.drop (if Hc l t 10 then t+1 else t)=J4 (l.drop t):=by
 have e:Hc l t 10=lfB l t:=rfl
 rw [e]
 cases hb:lfB l t with
 | true=>have:=A7B hb;rw [A6 rfl];exact ⟨by omega,by omega,this.2.symm⟩
 | false=>rw [A1 (by simp)];exact ⟨FL _,ht,(A7C hb).symm⟩
theorem UW (B r:Nat) (p:Option Addr) (l:l8_) (c t:Nat) (x:UInt8) (v:Value) (o:l8_) (w:World) (h:Jm w r p l c t) (hne:0<l.length->(pA p).block≠r) (hl:l.length<=100000000) (ht:t<=l.length)
  (hrB:r<B) (hBw:B<=w.heap.size) (hpB:0<l.length->(pA p).block<B) (hown:Cc 5 B w v (AI o)) (hol:o.length<=500000000) :
  Calls Tryz.prog 178 #[.pointer (some ⟨r,0,none⟩),v,.int .u8 (x.toNat:Int)] w λe w'=>∃ v',e=.returned v'/\∃ k,Jm w' r p l c k/\Bf B r w w'/\Cc 5 B w' v' (AI (o++(IW x (l.drop t)).1))/\t<=k/\k<=l.length/\l.drop k=(IW x (l.drop t)).2:=by
 have hr:=h.1
 have hb:=h.2
 refine W.e func178 rfl ntmps178 bL ?_
 have f:=Bf.refl (B) r w
 refine A4<|A9 rfl<|Ah<|A4<|A2 rfl<|WL.e<|W.b<|A4<|A0 (.eql rfl rfl)<|A9 rfl<|Ac rfl (λh1=>?_) (λh1=>?_)
 have cH:=dT h1
 refine A4<|A2 rfl<|Ct (ps:=_) Bu I7 PE rfl rfl rfl rfl rfl pR rfl (λb2 dn ac bx T d3=>?_)
 have cI:=Cc.new hown ac T
 have cJ:=Bg ac hr.lt
 have cK:=hr.un T cJ
 have bz:=λi=>ac▸hb.lt i
 have cL:=DB hb T bz
 have aL:=Cq ac f.size
 have bq:=BN f (Es T (AW hBw aL))
 refine ED Bu Gr rfl rfl rfl cI rfl bx rfl (by rw [B3];omega) ((AW hBw bq.size)) rfl (λv9 dp aM U cR=>?_)
 have bA:=cK.below U oO
 have bB:=GY cL U hpB
 have bC:=BN bq (Jo (U.mono (FL _)))
 have bD:=Eo aM (10) (rfl)
 refine A9 rfl<|Ai (AZ rfl rfl ?_)
 exact ⟨_,rfl,t,⟨bA,bB⟩,bC,(by rw [show x=110 from Cr aS,A2N];exact bD),FL _,ht,(by rw [show x=110 from Cr aS,A2N])⟩
 have cH:=dF h1
 refine A4<|A0 (.eql rfl rfl)<|A9 rfl<|Ac rfl (λaj=>?_) (λaj=>?_)
 have bE:=dT aj
 refine A4<|A2 rfl<|Ct (ps:=_) Bu I7 PE rfl rfl rfl rfl rfl pR rfl (λdq d4 V aN y cS=>?_)
 have bG:=Cc.new hown V y
 have bH:=Bg V hr.lt
 have bI:=hr.un y bH
 have aO:=λi=>V▸hb.lt i
 have bJ:=DB hb y aO
 have ak:=Cq V f.size
 have al:=BN f (Es y (AW hBw ak))
 refine ED Bu Gr rfl rfl rfl bG rfl aN rfl (by rw [B3];omega) ((AW hBw al.size)) rfl (λdr ds aP X cT=>?_)
 have bK:=bI.below X oO
 have bM:=GY bJ X hpB
 have bN:=BN al (Jo (X.mono (FL _)))
 have bO:=Eo aP (13) (rfl)
 refine A9 rfl<|Ai (AZ rfl rfl ?_)
 exact ⟨_,rfl,t,⟨bK,bM⟩,bN,(by rw [show x=114 from Cr aS,A2M];exact bO),FL _,ht,(by rw [show x=114 from Cr aS,A2M])⟩
 have bE:=dF aj
 refine A4<|A0 (.eql rfl rfl)<|A9 rfl<|Ac rfl (λam=>?_) (λam=>?_)
 have bP:=dT am
 refine A4<|A2 rfl<|Ct (ps:=_) Bu I7 PE rfl rfl rfl rfl rfl pR rfl (λdt d5 a0 aQ A cU=>?_)
 have bQ:=Cc.new hown a0 A
 have bR:=Bg a0 hr.lt
 have bS:=hr.un A bR
 have aR:=λi=>a0▸hb.lt i
 have bT:=DB hb A aR
 have an:=Cq a0 f.size
 have ao:=BN f (Es A (AW hBw an))
 refine ED Bu Gr rfl rfl rfl bQ rfl aQ rfl (by rw [B3];omega) ((AW hBw ao.size)) rfl (λdu dv aT a1 cV=>?_)
 have bU:=bS.below a1 oO
 have bV:=GY bT a1 hpB
 have bW:=BN ao (Jo (a1.mono (FL _)))
 have bX:=Eo aT (9) (rfl)
 refine A9 rfl<|Ai (AZ rfl rfl ?_)
 exact ⟨_,rfl,t,⟨bU,bV⟩,bW,(by rw [show x=116 from Cr aS,A2L];exact bX),FL _,ht,(by rw [show x=116 from Cr aS,A2L])⟩
 have bP:=dF am
 refine A4<|A0 (.eql rfl rfl)<|A9 rfl<|Ac rfl (λap=>?_) (λap=>?_)
 have bY:=dT ap
 refine A4<|A2 rfl<|Ct (ps:=_) Bu I7 PE rfl rfl rfl rfl rfl pR rfl (λdw d6 a2 aU C cW=>?_)
 have bZ:=Cc.new hown a2 C
 have b':=Bg a2 hr.lt
 have c0:=hr.un C b'
 have aV:=λi=>a2▸hb.lt i
 have c2:=DB hb C aV
 have aq:=Cq a2 f.size
 have ar:=BN f (Es C (AW hBw aq))
 refine ED Bu Gr rfl rfl rfl bZ rfl aU rfl (by rw [B3];omega) ((AW hBw ar.size)) rfl (λdx dy aW a3 cX=>?_)
 have c3:=c0.below a3 oO
 have c4:=GY c2 a3 hpB
 have c5:=BN ar (Jo (a3.mono (FL _)))
 have c6:=Eo aW (8) (rfl)
 refine A9 rfl<|Ai (AZ rfl rfl ?_)
 exact ⟨_,rfl,t,⟨c3,c4⟩,c5,(by rw [show x=98 from Cr aS,A5F];exact c6),FL _,ht,(by rw [show x=98 from Cr aS,A5F])⟩
 have bY:=dF ap
 refine A4<|A0 (.eql rfl rfl)<|A9 rfl<|Ac rfl (λau=>?_) (λau=>?_)
 have c7:=dT au
 refine A4<|A2 rfl<|Ct (ps:=_) Bu I7 PE rfl rfl rfl rfl rfl pR rfl (λdz d7 a4 aX D cY=>?_)
 have c8:=Cc.new hown a4 D
 have c9:=Bg a4 hr.lt
 have ca:=hr.un D c9
 have aY:=λi=>a4▸hb.lt i
 have cb:=DB hb D aY
 have av:=Cq a4 f.size
 have aw:=BN f (Es D (AW hBw av))
 refine ED Bu Gr rfl rfl rfl c8 rfl aX rfl (by rw [B3];omega) ((AW hBw aw.size)) rfl (λdA dB aZ a5 cZ=>?_)
 have cc:=ca.below a5 oO
 have cd:=GY cb a5 hpB
 have cf:=BN aw (Jo (a5.mono (FL _)))
 have cg:=Eo aZ (12) (rfl)
 refine A9 rfl<|Ai (AZ rfl rfl ?_)
 exact ⟨_,rfl,t,⟨cc,cd⟩,cf,(by rw [show x=102 from Cr aS,A2O];exact cg),FL _,ht,(by rw [show x=102 from Cr aS,A2O])⟩
 have c7:=dF au
 refine A4<|A0 (.eql rfl rfl)<|A9 rfl<|Ac rfl (λax=>?_) (λax=>?_)
 have ci:=dT ax
 refine A4<|A2 rfl<|A9 rfl<|Ai (AZ rfl rfl ?_)
 exact ⟨_,rfl,t,⟨hr,hb⟩,f,(by rw [show x=10 from Cr aS,A5H,BK];exact hown),FL _,ht,(by rw [show x=10 from Cr aS,A5H])⟩
 have ci:=dF ax
 refine A4<|A0 (.eql rfl rfl)<|A9 rfl<|Ac rfl (λay=>?_) (λay=>?_)
 have cj:=dT ay
 have az:x=13:=Cr aS
 refine A4<|A2 rfl<|WL.c1 AN rfl rfl ((Mo r p l c t 10 _ ⟨hr,hb⟩ hne hl ht)) (λdC a6=>?_)
 have ck:=It hown a6.2 oO
 have cl:=a6.1.1
 have cm:=a6.1.2
 have cn:=BN f (G2 a6.2 (AW hBw f.size))
 refine WL.e<|A4<|A2 rfl<|A9 rfl<|Ai (AZ rfl rfl ?_)
 exact ⟨_,rfl,_,⟨cl,cm⟩,cn,(by rw [az,A5G,BK];exact ck),(Q2 l t ht).1,(Q2 l t ht).2.1,(by rw [az,A5G];exact (Q2 l t ht).2.2)⟩
 have cj:=dF ay
 refine W.k<|Ah<|A4<|A2 rfl<|A0 (.lss rfl rfl)<|A2 rfl<|B1 rfl rfl rfl (λJ=>?_) (λJ=>?_)
 have co:=dF J
 refine A2 rfl<|As J<|A0 (.gtr rfl rfl)<|A0 (.pkF rfl J rfl)<|WL.e<|Ac rfl (λaA=>?_) (λaA=>?_)
 have cq:=dT aA
 refine A4<|A2 rfl<|A2 rfl<|Ct (ps:=_) Bu I7 PE rfl rfl rfl rfl rfl pR rfl (λdE d8 a7 a' E c'=>?_)
 have cr:=Cc.new hown a7 E
 have ct:=Bg a7 hr.lt
 have cu:=hr.un E ct
 have b0:=λi=>a7▸hb.lt i
 have cv:=DB hb E b0
 have aB:=Cq a7 f.size
 have aC:=BN f (Es E (AW hBw aB))
 refine ED Bu Gr rfl rfl rfl cr rfl a' rfl (by rw [B3];omega) ((AW hBw aC.size)) rfl (λdG dH b1 a8 d0=>?_)
 have cw:=cu.below a8 oO
 have cy:=GY cv a8 hpB
 have cz:=BN aC (Jo (a8.mono (FL _)))
 have cA:=Eo b1 (x) (rfl)
 refine A9 rfl<|Ai (AZ rfl rfl ?_)
 exact ⟨_,rfl,t,⟨cw,cy⟩,cz,(by rw [Ob _ oO oO oO oO oO oO oO oO];exact cA),FL _,ht,(by rw [Ob _ oO oO oO oO oO oO oO oO])⟩
 have cq:=dF aA
 refine W.k<|A4<|A2 rfl<|A0 (.sub rfl rfl (TJ oO))<|A0 (.cvt Lk JQ rfl (Bp oO))<|A9 rfl<|Ah<|A4<|A9 rfl<|W.b ?_
 obtain ⟨tt,aD⟩:∃ tt,tt=t:=⟨t,rfl⟩
 have bt:48<=(x.toNat:Int):=by omega
 have bu:(x.toNat:Int)<=55:=by omega
 refine Cj (α:=Nat × Nat × Nat) (λt=>[(0,.pointer (some ⟨r,0,none⟩)),(1,v),(7,.int .i64 (t.1:Int)),(8,.int .i64 (t.2.1:Int))]) (λt w'=>Jm w' r p l c t.2.2/\Bf B r w w'/\Cc 5 B w' v (AI o)/\tt<=t.2.2/\t.2.2<=l.length/\(t.2.1=0/\t.1<=7\/t.2.1=1/\t.1<=63\/t.2.1=2/\t.1<=511)/\Ng (2-t.2.1) t.1 (l.drop t.2.2)=Ng 2 (x.toNat-48) (l.drop tt)) (λt=>2-t.2.1) ((x.toNat-48,0,tt)) ⟨rfl,rfl,LA rfl oM,rfl,tT⟩ (⟨⟨by rw [aD];exact hr,hb⟩,f,hown,FL _,by rw [aD];exact ht,Or.inl ⟨rfl,by ((try simp only) <;> omega)⟩,rfl⟩) (λt w1 hR=>?_)
 subst aD
 obtain ⟨m,k,u⟩:=t
 obtain ⟨g,hT,ad,bv,bw,hm,aE⟩:=hR
 simp only at g hT ad bv bw hm aE ⊢
 refine Ah<|ME 87 (U5 l k u) ?_ (λdI a9=>?_)
 refine E2 C7 kR<|At (.mv rfl) rfl<|At (.lss rfl rfl) rfl<|At (.mv rfl) rfl<|M9 rfl rfl rfl (λK=>?_) (λK=>?_)
 have cB:=dT K
 refine At (.mv rfl) rfl<|BT rfl rfl rfl K<|WQ.c1 AN rfl rfl (λm=>(U8 r p l c u _ ⟨g.1,g.2⟩ m))<|At (.pkT rfl K rfl) rfl<|At (.mv rfl) rfl<|M9 rfl rfl rfl (λa=>?_) (λa=>?_)
 have cC:=dT a
 refine At (.mv rfl) rfl<|BT rfl rfl rfl a<|At (.nck rfl) rfl<|BT rfl rfl rfl a<|At (.fa Dt rfl G3 dD rfl) rfl<|BT rfl rfl rfl a<|Di (λm=>Ad (g22_ _) rfl g.1 rfl) rfl<|BT rfl rfl rfl a<|At (.mv rfl) rfl<|BT rfl rfl rfl a<|At (.nck rfl) rfl<|BT rfl rfl rfl a<|At (.fa Dt rfl B5 dD rfl) rfl<|BT rfl rfl rfl a<|Di (λm=>Ad (Bw _) rfl g.1 rfl) rfl<|BT rfl rfl rfl a<|At (.ixb Bu I7 rfl rfl (g.2.isp oD) (u) oO oO) rfl<|BT rfl rfl rfl a<|Di (λm=>AO (Ou _) rfl ((g.2.drewN m).cells (u) oO)) rfl<|BT rfl rfl rfl a<|At (.geq rfl rfl) rfl<|At (.pkT rfl a rfl) rfl<|At (.mv rfl) rfl<|M9 rfl rfl rfl (λd=>?_) (λd=>?_)
 have cD:=dT d
 refine At (.mv rfl) rfl<|BT rfl rfl rfl d<|At (.nck rfl) rfl<|BT rfl rfl rfl d<|At (.fa Dt rfl G3 dD rfl) rfl<|BT rfl rfl rfl d<|Di (λm=>Ad (g22_ _) rfl g.1 rfl) rfl<|BT rfl rfl rfl d<|At (.mv rfl) rfl<|BT rfl rfl rfl d<|At (.nck rfl) rfl<|BT rfl rfl rfl d<|At (.fa Dt rfl B5 dD rfl) rfl<|BT rfl rfl rfl d<|Di (λm=>Ad (Bw _) rfl g.1 rfl) rfl<|BT rfl rfl rfl d<|At (.ixb Bu I7 rfl rfl (g.2.isp oD) (u) oO oO) rfl<|BT rfl rfl rfl d<|Di (λm=>AO (Ou _) rfl ((g.2.drewN m).cells (u) oO)) rfl<|BT rfl rfl rfl d<|At (.leq rfl rfl) rfl<|At (.pkT rfl d rfl) rfl<|Da (λdJ cE=>?_)
 exact ⟨G8 (Cy rfl (by (by_cases hq:u<l.length) <;> (unfold U5;first | (exfalso;omega) | (rw [getElem!_pos l u hq];(apply AU.2;(try simp only [A3,Bo,AH,Ab,Aq,By,BI,false_iff,iff_false,true_iff,iff_true]);omega)) | (apply AU.2;(try simp only [A3,Bo,AH,Ab,Aq,By,BI,false_iff,iff_false,true_iff,iff_true]);omega)))),cE⟩
 have cD:=dF d
 refine Bb rfl rfl rfl d<|Bb rfl rfl rfl d<|Bb rfl rfl rfl d<|Bb rfl rfl rfl d<|Bb rfl rfl rfl d<|Bb rfl rfl rfl d<|Bb rfl rfl rfl d<|Bb rfl rfl rfl d<|Bb rfl rfl rfl d<|Bb rfl rfl rfl d<|At (.pkF rfl d rfl) rfl<|Da (λd9 b3=>?_)
 exact ⟨G8 (Cy rfl (by (by_cases hq:u<l.length) <;> (unfold U5;first | (exfalso;omega) | (rw [getElem!_pos l u hq];(apply AU.2;(try simp only [A3,Bo,AH,Ab,Aq,By,BI,false_iff,iff_false,true_iff,iff_true]);omega)) | (apply AU.2;(try simp only [A3,Bo,AH,Ab,Aq,By,BI,false_iff,iff_false,true_iff,iff_true]);omega)))),b3⟩
 have cC:=dF a
 refine Bb rfl rfl rfl a<|Bb rfl rfl rfl a<|Bb rfl rfl rfl a<|Bb rfl rfl rfl a<|Bb rfl rfl rfl a<|Bb rfl rfl rfl a<|Bb rfl rfl rfl a<|Bb rfl rfl rfl a<|Bb rfl rfl rfl a<|Bb rfl rfl rfl a<|At (.pkF rfl a rfl) rfl<|At (.mv rfl) rfl<|Bb rfl rfl rfl rfl<|Bb rfl rfl rfl rfl<|Bb rfl rfl rfl rfl<|Bb rfl rfl rfl rfl<|Bb rfl rfl rfl rfl<|Bb rfl rfl rfl rfl<|Bb rfl rfl rfl rfl<|Bb rfl rfl rfl rfl<|Bb rfl rfl rfl rfl<|Bb rfl rfl rfl rfl<|Bb rfl rfl rfl rfl<|At (.pkF rfl rfl rfl) rfl<|Da (λda b4=>?_)
 exact ⟨G8 (Cy rfl (by (by_cases hq:u<l.length) <;> (unfold U5;first | (exfalso;omega) | (rw [getElem!_pos l u hq];(apply AU.2;(try simp only [A3,Bo,AH,Ab,Aq,By,BI,false_iff,iff_false,true_iff,iff_true]);omega)) | (apply AU.2;(try simp only [A3,Bo,AH,Ab,Aq,By,BI,false_iff,iff_false,true_iff,iff_true]);omega)))),b4⟩
 have cB:=dF K
 refine Bb rfl rfl rfl K<|At (.pkF rfl K rfl) rfl<|At (.mv rfl) rfl<|Bb rfl rfl rfl rfl<|Bb rfl rfl rfl rfl<|Bb rfl rfl rfl rfl<|Bb rfl rfl rfl rfl<|Bb rfl rfl rfl rfl<|Bb rfl rfl rfl rfl<|Bb rfl rfl rfl rfl<|Bb rfl rfl rfl rfl<|Bb rfl rfl rfl rfl<|Bb rfl rfl rfl rfl<|Bb rfl rfl rfl rfl<|At (.pkF rfl rfl rfl) rfl<|At (.mv rfl) rfl<|Bb rfl rfl rfl rfl<|Bb rfl rfl rfl rfl<|Bb rfl rfl rfl rfl<|Bb rfl rfl rfl rfl<|Bb rfl rfl rfl rfl<|Bb rfl rfl rfl rfl<|Bb rfl rfl rfl rfl<|Bb rfl rfl rfl rfl<|Bb rfl rfl rfl rfl<|Bb rfl rfl rfl rfl<|Bb rfl rfl rfl rfl<|At (.pkF rfl rfl rfl) rfl<|Da (λdb b5=>?_)
 exact ⟨G8 (Cy rfl (by (by_cases hq:u<l.length) <;> (unfold U5;first | (exfalso;omega) | (rw [getElem!_pos l u hq];(apply AU.2;(try simp only [A3,Bo,AH,Ab,Aq,By,BI,false_iff,iff_false,true_iff,iff_true]);omega)) | (apply AU.2;(try simp only [A3,Bo,AH,Ab,Aq,By,BI,false_iff,iff_false,true_iff,iff_true]);omega)))),b5⟩
 have ae:=Cc.drew ad a9
 have aa:=g.1.drew a9
 have ab:=g.2.drew a9
 have F:=BN hT (NE a9)
 refine Ac rfl (λcF=>?_) (λcF=>?_)
 obtain ⟨dc,cM,dd,de,L⟩:=A6i aS
 refine W.k<|Ah<|W.b<|Ak<|A2 rfl<|A0 (.mul rfl rfl (Bp oO))<|A2 rfl<|Bk AN rfl rfl ((Mn r p l c u _ ⟨aa,ab⟩ hne hl)) (λdf cG P j=>?_) (λdg cG P j=>?_)
 exact CM (Ii P).1 oO
 have b6:=It ae j.2 oO
 have b7:=j.1.1
 have b8:=j.1.2
 have b9:=BN F (G2 j.2 (AW hBw F.size))
 obtain ⟨dK,hx⟩:=NF P
 rw [hx]
 refine A0 (.sub rfl rfl (TJ oO))<|A0 (.cvt Lk JQ rfl (Bp oO))<|A0 (.add rfl rfl (Bp oO))<|A9 rfl<|Ak<|A2 rfl<|A0 (.add rfl rfl (Bp oO))<|A9 rfl ?_
 exact ⟨(8 * m+((l[u]'cM).toNat-48),k+1,u+1),⟨rfl,rfl,LA rfl oM,LA rfl oM,tT⟩,⟨⟨b7,b8⟩,b9,b6,by ((try simp only) <;> omega),by ((try simp only) <;> omega),by ((try simp only) <;> omega),by rw [<- aE,L m]⟩,by ((try simp only) <;> omega)⟩
 have L:=A6j aS m
 rw [aE] at L
 refine C0<|A4<|A2 rfl<|A2 rfl<|A0 (.cvt JQ Lk rfl (show IntKind.u8.wrap (m:Int)=((m % 256:Nat):Int) by rw [IntKind.wrap_u8'];(first | done | rfl)))<|Ct (ps:=_) Bu I7 PE rfl rfl rfl rfl rfl pR rfl (λdh d1 G aF q cN=>?_)
 have ba:=Cc.new ae G q
 have bb:=Bg G aa.lt
 have bc:=aa.un q bb
 have aG:=λi=>G▸ab.lt i
 have bd:=DB ab q aG
 have ah:=Cq G F.size
 have af:=BN F (Es q (AW hBw ah))
 refine ED Bu Gr rfl rfl rfl ba rfl aF rfl (by rw [B3];omega) ((AW hBw af.size)) rfl (λdi dj aH Q cO=>?_)
 have be:=bc.below Q oO
 have bf:=GY bd Q hpB
 have bg:=BN af (Jo (Q.mono (FL _)))
 have bh:=Eo aH (ch ((m % 256:Nat):Int)) (by rw [JD _ oO oO])
 refine A9 rfl<|Ai (AZ rfl rfl ?_)
 exact ⟨_,rfl,u,⟨be,bf⟩,bg,(by rw [Um _ bt bu,L];exact bh),bv,bw,(by rw [Um _ bt bu,L])⟩
 have co:=dT J
 refine Aa J<|A0 (.pkT rfl J rfl)<|WL.e<|DR rfl rfl<|A4<|A2 rfl<|A2 rfl<|Ct (ps:=_) Bu I7 PE rfl rfl rfl rfl rfl pR rfl (λdk d2 H aI s cP=>?_)
 have bi:=Cc.new hown H s
 have bj:=Bg H hr.lt
 have bk:=hr.un s bj
 have aJ:=λi=>H▸hb.lt i
 have bl:=DB hb s aJ
 have ai:=Cq H f.size
 have ag:=BN f (Es s (AW hBw ai))
 refine ED Bu Gr rfl rfl rfl bi rfl aI rfl (by rw [B3];omega) ((AW hBw ag.size)) rfl (λdl dm aK R cQ=>?_)
 have bm:=bk.below R oO
 have bn:=GY bl R hpB
 have bo:=BN ag (Jo (R.mono (FL _)))
 have bp:=Eo aK (x) (rfl)
 refine A9 rfl<|Ai (AZ rfl rfl ?_)
 exact ⟨_,rfl,t,⟨bm,bn⟩,bo,(by rw [Ob _ oO oO oO oO oO oO oO oO];exact bp),FL _,ht,(by rw [Ob _ oO oO oO oO oO oO oO oO])⟩
theorem A2K (x:UInt8) (r:l8_):(IW x r).1.length<=1:=by
 unfold IW
 repeat' split
 all_goals simp
theorem X0 (r:Nat) (p:Option Addr) (l:l8_) (c t:Nat) (w:World) (h:Jm w r p l c t) (hne:0<l.length->(pA p).block≠r) (hc:l.length<=c) (hl:l.length<=100000000) (ht:t<=l.length) :
  Calls Tryz.prog 151 #[.pointer (some ⟨r,0,none⟩)] w (Cg 30 (Hz (Dd 1 [] (l.drop t))) (λa=>a.1.val) (A3r w r p l c) (λw'=>Bf w.heap.size r w w')):=by
 have hr:=h.1
 have hb:=h.2
 obtain ⟨R,hR⟩:∃ R,R=Dd 1 [] (l.drop t):=⟨_,rfl⟩
 rw [<- hR]
 obtain ⟨a,rfl⟩:∃ a,a=t:=⟨t,rfl⟩
 refine W.e func151 rfl ntmps151 bL ?_
 have bA:=Bf.refl (w.heap.size) r w
 refine A4<|BV IF rfl (λb1 dq aj bE a7 da=>?_)
 have cy:=Bg aj hr.lt
 have cz:=hr.un a7 cy
 have ak:=λK=>aj▸hb.lt K
 have cA:=DB hb a7 ak
 have aX:=Cq aj bA.size
 have cB:=BN bA (Es a7 aX)
 refine WL.e<|Ah ?_
 have a5:0<l.length->(pA p).block<b1+1:=λK=>by have:=hb.lt K;omega
 have dr:r<b1:=by have:=hr.lt;omega
 refine Ak<|A9 rfl<|A4<|A9 rfl<|W.b<|Cj (α:=Value × l8_ × Nat × Nat) (λt=>[(0,.pointer (some ⟨r,0,none⟩)),(2,.pointer (some ⟨b1,0,none⟩)),(3,t.1),(4,.int .i64 (t.2.2.1:Int))]) (λt w'=>Jm w' r p l c t.2.2.2/\Bf w.heap.size r w w'/\AF w' b1 #[.int .i64 0,.int .i64 0,.string ⟨#[]⟩] 147/\Cc 5 (b1+1) w' t.1 (AI t.2.1)/\Dd t.2.2.1 t.2.1 (l.drop t.2.2.2)=R/\1<=t.2.2.1/\t.2.2.1<=t.2.2.2+1/\t.2.1.length<=t.2.2.2/\t.2.2.2<=l.length) (λt=>l.length-t.2.2.2) ((.slice none 0 0,[],1,a)) ⟨rfl,rfl,rfl,rfl,tT⟩ (⟨⟨cz,cA⟩,cB,bE,Cc.nil _ _ _,hR.symm,FL _,by ((try simp only) <;> omega),Gg _,ht⟩) (λt w1 hR=>?_)
 obtain ⟨v,o,d,s⟩:=t
 obtain ⟨am,hT,an,ao,hw,bB,cC,cD,hs⟩:=hR
 simp only at am hT an ao hw bB cC cD hs ⊢
 refine W.b<|A4<|A2 rfl<|Bk AN rfl rfl ((Mn r p l c s _ ⟨am.1,am.2⟩ hne hl)) (λk9 w7 a2 T=>?_) (λa8 w7 a2 T=>?_)
 have aY:=BN hT (G2 T hT.size)
 exact Aw (Bn k9 (by rw [(Ii a2).2,<- hw,B9 (Ii a2).1,Dd.eq_def];(first | done | rfl)) aY)
 have m:=It ao T.2 oO
 have j:=T.1.1
 have g:=I4 an T.2 an.lt oO
 have i:=T.1.2
 have f:=BN hT (G2 T.2 hT.size)
 obtain ⟨cE,hx⟩:=NF a2
 obtain ⟨x,cF⟩:∃ x,x=a8:=⟨_,rfl⟩
 rw [<- cF] at hx ⊢
 have C:=ZI d o l s cE
 rw [<- hx] at C
 refine A9 rfl<|Ah<|A4<|A2 rfl<|WL.e<|W.b<|A4<|A0 (.eql rfl rfl)<|A9 rfl<|Ac rfl (λap=>?_) (λap=>?_)
 have bG:=dT ap
 refine Ak<|A2 rfl<|A0 (.iis (((d+1:Nat):Int)) (.add rfl rfl (Bp oO)) oO)<|A9 rfl<|Ah<|A4<|A2 rfl<|A0 (.eql rfl rfl)<|WL.e<|Ac rfl (λaq=>?_) (λaq=>?_)
 have bH:=dT aq
 refine Ah ?_
 obtain ⟨q,cq,rfl,U,ar⟩:=Cc.bytes m
 refine Ak<|A2 rfl<|Bk AN rfl rfl ((Jr q _ cq _ U oO)) (λds cG ab au=>?_) (λcH cG ab au=>?_)
 (exfalso;omega)
 have bI:=g.bl au
 obtain ⟨V,av⟩:∃ V,V=cH:=⟨_,rfl⟩
 have ac:=ab
 refine Az rfl rfl bI Br rfl rfl (λdt aZ d1 d2=>?_)
 refine WL.e<|Ai (C4 rfl rfl (Bq aZ Ec rfl Br)  ?_)
 (exfalso;omega)
 have bH:=dF aq
 refine W.k<|Ak<|A2 rfl<|A2 rfl<|Ct (ps:=_) Bu I7 PE rfl rfl rfl rfl rfl pR rfl (λdu db X a' D d3=>?_)
 have bJ:=Cc.new m X D
 have bK:=Bg X j.lt
 have bM:=j.un D bK
 have bN:=Bg X g.lt
 have aw:=g.un D bN
 have b0:=λK=>X▸i.lt K
 have bO:=DB i D b0
 have ax:=Cq X f.size
 have bP:=BN f (Es D ax)
 refine ED Bu Gr rfl rfl rfl bJ rfl a' rfl (by rw [B3];omega) (aw.lt) rfl (λdv dw b2 N d4=>?_)
 have bQ:=bM.below N oO
 have bR:=aw.below N oO
 have bS:=GY bO N a5
 have bT:=BN bP (Jo (N.mono oO))
 have bU:=Eo b2 (x) (rfl)
 refine A9 rfl ?_
 exact ⟨(_,o++[_],d+1,s+1),⟨rfl,rfl,rfl,rfl,tT⟩,⟨⟨bQ,bS⟩,bT,bR,bU,(by rw [<- hw,C,show x=40 from Cr aS,A6 rfl]),by ((try simp only) <;> omega),by ((try simp only) <;> omega),oF,by ((try simp only) <;> omega)⟩,by ((try simp only) <;> omega)⟩
 have bG:=dF ap
 refine A4<|A0 (.eql rfl rfl)<|A9 rfl<|Ac rfl (λay=>?_) (λay=>?_)
 have bV:=dT ay
 refine Ak<|A2 rfl<|A0 (.iis (((d-1:Nat):Int)) (.sub rfl rfl (Bp oO)) oO)<|A9 rfl<|Ah<|A4<|A2 rfl<|A0 (.eql rfl rfl)<|WL.e<|Ac rfl (λaz=>?_) (λaz=>?_)
 have bW:=dT az
 refine Ah ?_
 obtain ⟨q,cq,rfl,U,ar⟩:=Cc.bytes m
 refine Ak<|A2 rfl<|Bk AN rfl rfl ((Jr q _ cq _ U oO)) (λcI cJ a3 L=>?_) (λcK cJ a3 L=>?_)
 have aA:=BN f (G2 (Jo L) f.size)
 exact Aw (Bn cI (by rw [<- hw,C,show x=41 from Cr aS,A1 dD,A6 rfl,A6 oO];exact OB a3) aA)
 have bX:=j.bl L
 have bY:=g.bl L
 have bZ:=GY i L (λK=>i.lt K)
 have b':=BN f (G2 (Jo L) f.size)
 obtain ⟨V,av⟩:∃ V,V=cK:=⟨_,rfl⟩
 have ac:=a3
 refine Az rfl rfl bY Br rfl rfl (λdx b3 a4 d5=>?_)
 have c0:=bX.up a4
 have c2:=DB bZ a4 ak
 have c3:=BN b' (Es a4 oO)
 refine WL.e<|Ai (C4 rfl rfl (Bq b3 Ec rfl Br)  ?_)
 exact Cg.ok (_,l.drop (s+1)) (by rw [<- hw,C,show x=41 from Cr aS,A1 dD,A6 rfl,A6 oO];exact Ql ac) rfl ⟨_,rfl,by omega,⟨c0,c2⟩,c3⟩
 have bW:=dF az
 refine W.k<|Ak<|A2 rfl<|A2 rfl<|Ct (ps:=_) Bu I7 PE rfl rfl rfl rfl rfl pR rfl (λdy dc Y b4 E d6=>?_)
 have c4:=Cc.new m Y E
 have c5:=Bg Y j.lt
 have c6:=j.un E c5
 have c7:=Bg Y g.lt
 have aB:=g.un E c7
 have b5:=λK=>Y▸i.lt K
 have c8:=DB i E b5
 have aC:=Cq Y f.size
 have c9:=BN f (Es E aC)
 refine ED Bu Gr rfl rfl rfl c4 rfl b4 rfl (by rw [B3];omega) (aB.lt) rfl (λdz dA b6 P d7=>?_)
 have ca:=c6.below P oO
 have cb:=aB.below P oO
 have cc:=GY c8 P a5
 have cd:=BN c9 (Jo (P.mono oO))
 have cf:=Eo b6 (x) (rfl)
 refine A9 rfl ?_
 exact ⟨(_,o++[_],d-1,s+1),⟨rfl,rfl,rfl,rfl,tT⟩,⟨⟨ca,cc⟩,cd,cb,cf,(by rw [<- hw,C,show x=41 from Cr aS,A1 dD,A6 rfl,A1 oO]),by ((try simp only) <;> omega),by ((try simp only) <;> omega),oF,by ((try simp only) <;> omega)⟩,by ((try simp only) <;> omega)⟩
 have bV:=dF ay
 refine A4<|A0 (.eql rfl rfl)<|A9 rfl<|Ac rfl (λaD=>?_) (λaD=>?_)
 have cg:=dT aD
 refine A4<|A2 rfl<|A2 rfl<|A2 rfl<|Bk AN rfl rfl ((Mn r p l c (s+1) _ ⟨j,i⟩ hne hl)) (λcL cM Q B=>?_) (λcN cM Q B=>?_)
 have aE:=BN f (G2 B f.size)
 exact Aw (Bn cL (by rw [(Ii Q).2,<- hw,C,show x=92 from Cr aS,A1 dD,A1 dD,A6 rfl,B9 (Ii Q).1];(first | done | rfl)) aE)
 have ci:=It m B.2 oO
 have cj:=B.1.1
 have aF:=I4 g B.2 g.lt oO
 have ck:=B.1.2
 have cl:=BN f (G2 B.2 f.size)
 obtain ⟨cm,bC⟩:=NF Q
 obtain ⟨y,cO⟩:∃ y,y=cN:=⟨_,rfl⟩
 rw [<- cO] at bC ⊢
 refine DQ AN rfl rfl ((UW (b1+1) r p l c (s+1+1) y v o _ ⟨cj,ck⟩ hne hl oO oO (aF).lt a5 ci oO)) (λv2 dB cn=>?_)
 obtain ⟨k2,aG,bD,cP,dd,de,co⟩:=cn
 have cr:=I4 aF bD oO oO
 have cQ:=BN cl (bD.mono oO)
 have df:=A2K y (l.drop (s+1+1))
 refine A9 rfl<|C0 ?_
 exact ⟨(v2,o++(IW y (l.drop (s+1+1))).1,d,k2),⟨rfl,rfl,rfl,rfl,tT⟩,⟨⟨aG.1,aG.2⟩,cQ,cr,cP,(by rw [co,<- hw,C,show x=92 from Cr aS,A1 dD,A1 dD,A6 rfl,Ap cm,<- bC]),bB,by ((try simp only) <;> omega),oF,by ((try simp only) <;> omega)⟩,by ((try simp only) <;> omega)⟩
 have cg:=dF aD
 refine A4<|A0 (.eql rfl rfl)<|A9 rfl<|Ac rfl (λaH=>?_) (λaH=>?_)
 have ct:=dT aH
 refine A4<|A2 rfl<|WL.c1 AN rfl rfl ((Mo r p l c (s+1) 10 _ ⟨j,i⟩ hne hl oO)) (λdC a1=>?_)
 have aI:=It m a1.2 oO
 have aJ:=a1.1.1
 have a9:=I4 g a1.2 g.lt oO
 have aK:=a1.1.2
 have aL:=BN f (G2 a1.2 f.size)
 have cR:=Q2 l (s+1) oO
 refine WL.e<|Ak<|A9 rfl<|Ah<|A4<|A2 rfl<|A0 (.eql rfl rfl)<|WL.e<|Ac rfl (λaM=>?_) (λaM=>?_)
 have cu:=dT aM
 refine Ah ?_
 obtain ⟨q,cq,rfl,U,ar⟩:=Cc.bytes aI
 refine Ak<|A2 rfl<|Bk AN rfl rfl ((Jr q _ cq _ U oO)) (λdE cS ad aN=>?_) (λcT cS ad aN=>?_)
 (exfalso;omega)
 have b7:=a9.bl aN
 obtain ⟨V,av⟩:∃ V,V=cT:=⟨_,rfl⟩
 have ac:=ad
 refine Az rfl rfl b7 Br rfl rfl (λdg aO cU cV=>?_)
 refine WL.e<|Ai (C4 rfl rfl (Bq aO Ec rfl Br)  ?_)
 (exfalso;omega)
 have cu:=dF aM
 refine W.k<|Ak<|A2 rfl<|A2 rfl<|Ct (ps:=_) Bu I7 PE rfl rfl rfl rfl rfl pR rfl (λdh d8 F aP u cW=>?_)
 have b8:=Cc.new aI F u
 have b9:=Bg F aJ.lt
 have ba:=aJ.un u b9
 have bb:=Bg F a9.lt
 have ae:=a9.un u bb
 have aQ:=λK=>F▸aK.lt K
 have bc:=DB aK u aQ
 have ah:=Cq F aL.size
 have bd:=BN aL (Es u ah)
 refine ED Bu Gr rfl rfl rfl b8 rfl aP rfl (by rw [B3];omega) (ae.lt) rfl (λdi dj aR G cX=>?_)
 have be:=ba.below G oO
 have bf:=ae.below G oO
 have bg:=GY bc G a5
 have bh:=BN bd (Jo (G.mono oO))
 have bi:=Eo aR (10) (rfl)
 refine A9 rfl ?_
 exact ⟨(_,o++[_],d,(if Hc l (s+1) 10 then s+1+1 else s+1)),⟨rfl,rfl,rfl,rfl,tT⟩,⟨⟨be,bg⟩,bh,bf,bi,(by show Dd d (o++[10]) (l.drop (if Hc l (s+1) 10 then s+1+1 else s+1))=R;rw [cR.2.2,<- hw,C,show x=13 from Cr aS,A1 dD,A1 dD,A1 dD,A6 rfl]),by ((try simp only) <;> omega),by ((try simp only) <;> omega),oF,by ((try simp only) <;> omega)⟩,by ((try simp only) <;> omega)⟩
 have ct:=dF aH
 refine W.k<|Ah<|A4<|A2 rfl<|A0 (.eql rfl rfl)<|WL.e<|Ac rfl (λaa=>?_) (λaa=>?_)
 have bj:=dT aa
 refine Ah ?_
 obtain ⟨q,cq,rfl,U,ar⟩:=Cc.bytes m
 refine Ak<|A2 rfl<|Bk AN rfl rfl ((Jr q _ cq _ U oO)) (λdk cv a6 af=>?_) (λcw cv a6 af=>?_)
 (exfalso;omega)
 have bk:=g.bl af
 obtain ⟨V,av⟩:∃ V,V=cw:=⟨_,rfl⟩
 have ac:=a6
 refine Az rfl rfl bk Br rfl rfl (λdl aT cY cZ=>?_)
 refine WL.e<|Ai (C4 rfl rfl (Bq aT Ec rfl Br)  ?_)
 (exfalso;omega)
 have bj:=dF aa
 refine W.k<|Ak<|A2 rfl<|A2 rfl<|Ct (ps:=_) Bu I7 PE rfl rfl rfl rfl rfl pR rfl (λdm d9 H aU A c'=>?_)
 have bm:=Cc.new m H A
 have bn:=Bg H j.lt
 have bo:=j.un A bn
 have bp:=Bg H g.lt
 have ag:=g.un A bp
 have aV:=λK=>H▸i.lt K
 have bq:=DB i A aV
 have ai:=Cq H f.size
 have bt:=BN f (Es A ai)
 refine ED Bu Gr rfl rfl rfl bm rfl aU rfl (by rw [B3];omega) (ag.lt) rfl (λdn dp aW J d0=>?_)
 have bu:=bo.below J oO
 have bv:=ag.below J oO
 have bw:=GY bq J a5
 have bx:=BN bt (Jo (J.mono oO))
 have bz:=Eo aW (x) (rfl)
 refine A9 rfl ?_
 exact ⟨(_,o++[_],d,s+1),⟨rfl,rfl,rfl,rfl,tT⟩,⟨⟨bu,bw⟩,bx,bv,bz,(by rw [<- hw,C,A1 (Dn (d:=40) aS),A1 (Dn (d:=41) aS),A1 (Dn (d:=92) aS),A1 (Dn (d:=13) aS)]),by ((try simp only) <;> omega),by ((try simp only) <;> omega),oF,by ((try simp only) <;> omega)⟩,by ((try simp only) <;> omega)⟩
end
section
theorem WX (r:Nat) (p:Option Addr) (l:l8_) (c n:Nat) (w:World) (h:Jm w r p l c n) (hne:0<l.length->(pA p).block≠r) (hc:l.length<=c) (hl:l.length<=100000000) (ht:n<=l.length) :
  Calls Tryz.prog 121 #[.pointer (some ⟨r,0,none⟩)] w (Cg 30 (Lu (l.drop n)) (λa=>a.1.val) (A3r w r p l c) (λw'=>Bf w.heap.size r w w')):=by
 have hr:=h.1
 have hb:=h.2
 refine W.e func121 rfl ntmps121 bL ?_
 have cP:=Bf.refl (w.heap.size) r w
 refine A4<|BV IF rfl (λb1 eQ ba bb aH eC=>?_)
 have dP:=Bg ba hr.lt
 have dQ:=hr.un aH dP
 have f:=λh0=>ba▸hb.lt h0
 have dR:=DB hb aH f
 have bN:=Cq ba cP.size
 have cQ:=BN cP (Es aH bN)
 refine WL.e<|Ah ?_
 have eR:r<b1:=by have:=hr.lt;omega
 refine Ak<|A2 rfl<|WL.c1 AN rfl rfl ((ZD r p l c n _ ⟨dQ,dR⟩ hne hl ht)) (λw7 aL=>?_)
 have cR:=aL.1.1
 have dS:=I4 bb aL.2 bb.lt oO
 have bc:=aL.1.2
 have cV:=BN cQ (G2 aL.2 cQ.size)
 have cS:=Pg false l n
 have eS:=Ff false l n
 generalize AP false l n=s at *
 refine WL.e<|Ah<|A4<|A2 rfl<|WL.c1 AN rfl rfl ((Mp r p l c s _ ⟨cR,bc⟩)) (λeT ah=>?_)
 have ai:=cR.drew ah
 have bd:=dS.drew ah
 have aj:=bc.drew ah
 have be:=BN cV (NE ah)
 refine A0 (.not rfl)<|WL.e<|Ac rfl (λbf=>?_) (λbf=>?_)
 have cW:=(nT bf)
 refine A4<|A0 (.buildL (ps:=_) J7 rfl rfl rfl pZ) ?_
 refine Az rfl rfl bd Br rfl rfl (λeU bO ak el=>?_)
 have cX:=ai.up ak
 have cY:=DB aj ak f
 have cZ:=BN be (Es ak oO)
 refine WL.e<|Ai (C4 rfl rfl (Bq bO Ec rfl Br)  ?_)
 exact Cg.ok (⟨0,0,[]⟩,[]) (A15 cS (by simp_all)) rfl ⟨s,by rw [B9 (by simp_all)],by omega,⟨cX,cY⟩,cZ⟩
 have cW:=(nF bf)
 have bg:s<l.length:=by simp_all
 have hT:=A3O cS bg
 obtain ⟨x,hx⟩:∃ x,x=l[s]'bg:=⟨_,rfl⟩
 rw [<- hx] at hT
 have cT:=EX l s oO
 refine W.k<|Ah<|Ah<|E2 C7 kR<|At (.mv rfl) rfl<|At (.nck rfl) rfl<|At (.fa Dt rfl G3 dD rfl) rfl<|Di (λm=>Ad (g22_ _) rfl ai rfl) rfl<|At (.mv rfl) rfl<|At (.nck rfl) rfl<|At (.fa Dt rfl B5 dD rfl) rfl<|Di (λm=>Ad (Bw _) rfl ai rfl) rfl<|At (.ixb Bu I7 rfl rfl (aj.isp oD) (s) oO oO) rfl<|Di (λm=>Rd.iis ((x.toNat:Int)) (AO (Ou _) rfl ((aj.drewN m).cells (s) oO)) (by rw [hx])) rfl<|At (.as rfl) rfl<|Da (λeV am=>?_)
 have d:=ai.drew am
 have j:=bd.drew am
 have o:=aj.drew am
 have g:=BN be (NE am)
 refine A4<|A2 rfl<|WL.e<|W.b<|A4<|A0 (.eql rfl rfl)<|A9 rfl<|Ac rfl (λbh=>?_) (λbh=>?_)
 have c':=dT bh
 refine A4<|A2 rfl<|A0 (.nck rfl)<|A0 (.fa Dt rfl B5 dD rfl)<|Ag (Ad (Bw _) rfl d rfl)<|A0 (.iis (((s+1:Nat):Int)) (.add rfl rfl (Bp oO)) oO)<|A0 (.nck rfl)<|A0 (.fa Dt rfl B5 dD rfl)<|WL.st B5 rfl rfl rfl d oQ (λdU an E em=>?_)
 have an:AF dU r _ _:=an
 have E:BF r _ _:=E
 have bi:=j.up E
 have d0:=Av.upd o E hne
 have ao:=BN g (BM E)
 refine WL.e<|A4<|A2 rfl<|Bk AN rfl rfl ((X0 r p l c (s+1) _ ⟨an,d0⟩ hne hc hl oO)) (λdV dW ap q=>?_) (λdX dW ap q=>?_)
 have bj:=BN ao (G2 q ao.size)
 exact Aw (Bn dV (by rw [hT,show x=40 from Cr aS,A1c];exact ap) bj)
 obtain ⟨kr,a6,a7,q⟩:=q
 have d1:=q.1.1
 have d2:=I4 bi q.2 bi.lt oO
 have d3:=q.1.2
 have d4:=BN ao (G2 q.2 ao.size)
 have F:=ap
 obtain ⟨G,aM⟩:∃ G,G=dX:=⟨_,rfl⟩
 refine Az rfl rfl d2 Br rfl rfl (λeW bP aq en=>?_)
 have d5:=d1.up aq
 have d6:=DB d3 aq f
 have d7:=BN d4 (Es aq oO)
 refine WL.e<|Ai (C4 rfl rfl (Bq bP Ec rfl Br)  ?_)
 exact Cg.ok _ (by rw [hT,show x=40 from Cr aS,A1c];exact F) rfl ⟨_,a6,a7,⟨d5,d6⟩,d7⟩
 have c':=dF bh
 refine A4<|A0 (.eql rfl rfl)<|A9 rfl<|Ac rfl (λbk=>?_) (λbk=>?_)
 have d8:=dT bk
 refine Ak<|A0 (.mkI LJ rfl)<|Fo rfl (Aw ?_)
 exact Bn 14 (by rw [hT,show x=41 from Cr aS,A5U]) g
 have d8:=dF bk
 refine Ah<|A4<|A0 (.eql rfl rfl)<|A9 rfl<|Ac rfl (λaN=>?_) (λaN=>?_)
 have d9:=dT aN
 refine W.k<|DR rfl aN<|A4<|A2 rfl<|A0 (.nck rfl)<|A0 (.fa Dt rfl B5 dD rfl)<|Ag (Ad (Bw _) rfl d rfl)<|A0 (.iis (((s+1:Nat):Int)) (.add rfl rfl (Bp oO)) oO)<|A0 (.nck rfl)<|A0 (.fa Dt rfl B5 dD rfl)<|WL.st B5 rfl rfl rfl d oQ (λdY ar H eo=>?_)
 have ar:AF dY r _ _:=ar
 have H:BF r _ _:=H
 have bm:=j.up H
 have da:=Av.upd o H hne
 have au:=BN g (BM H)
 refine WL.e<|A4<|A2 rfl<|A2 rfl<|Bk AN rfl rfl ((Qx r p l c (s+1) x _ ⟨ar,da⟩ hne hc hl oO (by rintro rfl;first | exact CM (show (0:Int)=60 by assumption) dD | exact CM (show (0:Int)=62 by assumption) dD))) (λdZ d' av t=>?_) (λe0 d' av t=>?_)
 have bn:=BN au (G2 t au.size)
 exact Aw (Bn dZ (by rw [hT,show x=60 from Cr aS,A1a,<- show x=60 from Cr aS];exact av) bn)
 obtain ⟨kr,a6,a7,t⟩:=t
 have db:=t.1.1
 have dc:=I4 bm t.2 bm.lt oO
 have dd:=t.1.2
 have de:=BN au (G2 t.2 au.size)
 have F:=av
 obtain ⟨G,aM⟩:∃ G,G=e0:=⟨_,rfl⟩
 refine Az rfl rfl dc Br rfl rfl (λeX bQ aw ep=>?_)
 have df:=db.up aw
 have dg:=DB dd aw f
 have dh:=BN de (Es aw oO)
 refine WL.e<|Ai (C4 rfl rfl (Bq bQ Ec rfl Br)  ?_)
 exact Cg.ok _ (by rw [hT,show x=60 from Cr aS,A1a,<- show x=60 from Cr aS];exact F) rfl ⟨_,a6,a7,⟨df,dg⟩,dh⟩
 have d9:=dF aN
 refine Ak<|A0 (.eql rfl rfl)<|A9 rfl<|Ac rfl (λbo=>?_) (λbo=>?_)
 have di:=dT bo
 refine A4<|A2 rfl<|A0 (.nck rfl)<|A0 (.fa Dt rfl B5 dD rfl)<|Ag (Ad (Bw _) rfl d rfl)<|A0 (.iis (((s+1:Nat):Int)) (.add rfl rfl (Bp oO)) oO)<|A0 (.nck rfl)<|A0 (.fa Dt rfl B5 dD rfl)<|WL.st B5 rfl rfl rfl d oQ (λe1 ax J eq=>?_)
 have ax:AF e1 r _ _:=ax
 have J:BF r _ _:=J
 have bp:=j.up J
 have dj:=Av.upd o J hne
 have ay:=BN g (BM J)
 refine WL.e<|A4<|A2 rfl<|A2 rfl<|Bk AN rfl rfl ((Qx r p l c (s+1) x _ ⟨ax,dj⟩ hne hc hl oO (by rintro rfl;first | exact CM (show (0:Int)=60 by assumption) dD | exact CM (show (0:Int)=62 by assumption) dD))) (λe2 e3 az u=>?_) (λe4 e3 az u=>?_)
 have bq:=BN ay (G2 u ay.size)
 exact Aw (Bn e2 (by rw [hT,show x=62 from Cr aS,A19,<- show x=62 from Cr aS];exact az) bq)
 obtain ⟨kr,a6,a7,u⟩:=u
 have dk:=u.1.1
 have dl:=I4 bp u.2 bp.lt oO
 have dm:=u.1.2
 have dn:=BN ay (G2 u.2 ay.size)
 have F:=az
 obtain ⟨G,aM⟩:∃ G,G=e4:=⟨_,rfl⟩
 refine Az rfl rfl dl Br rfl rfl (λeY bR aA er=>?_)
 have dp:=dk.up aA
 have dq:=DB dm aA f
 have dr:=BN dn (Es aA oO)
 refine WL.e<|Ai (C4 rfl rfl (Bq bR Ec rfl Br)  ?_)
 exact Cg.ok _ (by rw [hT,show x=62 from Cr aS,A19,<- show x=62 from Cr aS];exact F) rfl ⟨_,a6,a7,⟨dp,dq⟩,dr⟩
 have di:=dF bo
 refine Ah<|A4<|A0 (.eql rfl rfl)<|A9 rfl<|Ac rfl (λaO=>?_) (λaO=>?_)
 have ds:=dT aO
 refine W.k<|DR rfl aO<|A4<|A2 rfl<|A0 (.nck rfl)<|A0 (.fa Dt rfl B5 dD rfl)<|Ag (Ad (Bw _) rfl d rfl)<|A0 (.iis (((s+1:Nat):Int)) (.add rfl rfl (Bp oO)) oO)<|A0 (.nck rfl)<|A0 (.fa Dt rfl B5 dD rfl)<|WL.st B5 rfl rfl rfl d oQ (λe5 aB K es=>?_)
 have aB:AF e5 r _ _:=aB
 have K:BF r _ _:=K
 have bt:=j.up K
 have dt:=Av.upd o K hne
 have du:=BN g (BM K)
 refine WL.e<|Ah<|A4<|A2 rfl<|A0 (.eql rfl rfl)<|WL.e<|Ac rfl (λbu=>?_) (λbu=>?_)
 have dv:=dT bu
 refine A4<|A0 (.buildL (ps:=_) J7 rfl rfl rfl pS) ?_
 refine Az rfl rfl bt Br rfl rfl (λeZ bS aC et=>?_)
 have dw:=aB.up aC
 have dx:=DB dt aC f
 have dy:=BN du (Es aC oO)
 refine WL.e<|Ai (C4 rfl rfl (Bq bS Ec rfl Br)  ?_)
 exact Cg.ok (⟨7,0,[]⟩,l.drop (s+1)) (by rw [hT,show x=123 from Cr aS,A3R]) rfl ⟨_,rfl,by omega,⟨dw,dx⟩,dy⟩
 have dv:=dF bu
 refine W.k<|A4<|A0 (.buildL (ps:=_) J7 rfl rfl rfl pS) ?_
 refine Az rfl rfl bt Br rfl rfl (λe' bT eu ev=>?_)
 refine WL.e<|Ai (C4 rfl rfl (Bq bT Ec rfl Br)  ?_)
 (exfalso;omega)
 have ds:=dF aO
 refine Ak<|A0 (.eql rfl rfl)<|A9 rfl<|Ac rfl (λbv=>?_) (λbv=>?_)
 have dz:=dT bv
 refine A4<|A2 rfl<|A0 (.nck rfl)<|A0 (.fa Dt rfl B5 dD rfl)<|Ag (Ad (Bw _) rfl d rfl)<|A0 (.iis (((s+1:Nat):Int)) (.add rfl rfl (Bp oO)) oO)<|A0 (.nck rfl)<|A0 (.fa Dt rfl B5 dD rfl)<|WL.st B5 rfl rfl rfl d oQ (λe6 aD L ew=>?_)
 have aD:AF e6 r _ _:=aD
 have L:BF r _ _:=L
 have bw:=j.up L
 have dA:=Av.upd o L hne
 have dB:=BN g (BM L)
 refine WL.e<|Ah<|A4<|A2 rfl<|A0 (.eql rfl rfl)<|WL.e<|Ac rfl (λbx=>?_) (λbx=>?_)
 have dC:=dT bx
 refine A4<|A0 (.buildL (ps:=_) J7 rfl rfl rfl pS) ?_
 refine Az rfl rfl bw Br rfl rfl (λf0 bU ex ey=>?_)
 refine WL.e<|Ai (C4 rfl rfl (Bq bU Ec rfl Br)  ?_)
 (exfalso;omega)
 have dC:=dF bx
 refine W.k<|A4<|A0 (.buildL (ps:=_) J7 rfl rfl rfl pS) ?_
 refine Az rfl rfl bw Br rfl rfl (λeD bz a8 e7=>?_)
 have bV:=aD.up a8
 have bW:=DB dA a8 f
 have bX:=BN dB (Es a8 oO)
 refine WL.e<|Ai (C4 rfl rfl (Bq bz Ec rfl Br)  ?_)
 exact Cg.ok (⟨8,0,[]⟩,l.drop (s+1)) (by rw [hT,show x=125 from Cr aS,A3Q]) rfl ⟨_,rfl,by omega,⟨bV,bW⟩,bX⟩
 have dz:=dF bv
 refine Ah<|A4<|A0 (.eql rfl rfl)<|A9 rfl<|Ac rfl (λaE=>?_) (λaE=>?_)
 have bY:=dT aE
 refine W.k<|DR rfl aE<|A4<|A2 rfl<|A0 (.nck rfl)<|A0 (.fa Dt rfl B5 dD rfl)<|Ag (Ad (Bw _) rfl d rfl)<|A0 (.iis (((s+1:Nat):Int)) (.add rfl rfl (Bp oO)) oO)<|A0 (.nck rfl)<|A0 (.fa Dt rfl B5 dD rfl)<|WL.st B5 rfl rfl rfl d oQ (λdE N v e8=>?_)
 have N:AF dE r _ _:=N
 have v:BF r _ _:=v
 have aP:=j.up v
 have aQ:=Av.upd o v hne
 have aR:=BN g (BM v)
 refine WL.e<|A4<|A2 rfl<|Ct (ps:=_) Bu I7 PE rfl rfl rfl rfl rfl pR rfl (λeF ez Y bA P e9=>?_)
 have bZ:=Bg Y N.lt
 have b':=N.un P bZ
 have c0:=Bg Y aP.lt
 have c2:=aP.un P c0
 have bB:=λh0=>Y▸aQ.lt h0
 have c3:=DB aQ P bB
 have b5:=Cq Y aR.size
 have c4:=BN aR (Es P b5)
 refine Ag (Mc (l:=[x]) Bu Lk Ju rfl (Av.one bA rfl))<|?_
 refine A0 (.buildL (ps:=_) J7 rfl rfl rfl pS) ?_
 refine Az rfl rfl c2 Br rfl rfl (λeG bC a9 ea=>?_)
 have c5:=b'.up a9
 have c6:=DB c3 a9 f
 have c7:=BN c4 (Es a9 oO)
 refine WL.e<|Ai (C4 rfl rfl (Bq bC Ec rfl Br)  ?_)
 exact Cg.ok (⟨3,0,[x]⟩,l.drop (s+1)) (by rw [hT,show x=91 from Cr aS,A5T]) rfl ⟨_,rfl,by omega,⟨c5,c6⟩,c7⟩
 have bY:=dF aE
 refine Ak<|A0 (.eql rfl rfl)<|A9 rfl<|Ac rfl (λaI=>?_) (λaI=>?_)
 have c8:=dT aI
 refine A4<|A2 rfl<|A0 (.nck rfl)<|A0 (.fa Dt rfl B5 dD rfl)<|Ag (Ad (Bw _) rfl d rfl)<|A0 (.iis (((s+1:Nat):Int)) (.add rfl rfl (Bp oO)) oO)<|A0 (.nck rfl)<|A0 (.fa Dt rfl B5 dD rfl)<|WL.st B5 rfl rfl rfl d oQ (λdG Q y eb=>?_)
 have Q:AF dG r _ _:=Q
 have y:BF r _ _:=y
 have aT:=j.up y
 have aU:=Av.upd o y hne
 have aV:=BN g (BM y)
 refine WL.e<|A4<|A2 rfl<|Ct (ps:=_) Bu I7 PE rfl rfl rfl rfl rfl pR rfl (λeH eA a1 bD U ec=>?_)
 have c9:=Bg a1 Q.lt
 have ca:=Q.un U c9
 have cb:=Bg a1 aT.lt
 have cc:=aT.un U cb
 have bE:=λh0=>a1▸aU.lt h0
 have cd:=DB aU U bE
 have b6:=Cq a1 aV.size
 have cf:=BN aV (Es U b6)
 refine Ag (Mc (l:=[x]) Bu Lk Ju rfl (Av.one bD rfl))<|?_
 refine A0 (.buildL (ps:=_) J7 rfl rfl rfl pS) ?_
 refine Az rfl rfl cc Br rfl rfl (λeI bG aa ed=>?_)
 have cg:=ca.up aa
 have ci:=DB cd aa f
 have cj:=BN cf (Es aa oO)
 refine WL.e<|Ai (C4 rfl rfl (Bq bG Ec rfl Br)  ?_)
 exact Cg.ok (⟨3,0,[x]⟩,l.drop (s+1)) (by rw [hT,show x=93 from Cr aS,A5S]) rfl ⟨_,rfl,by omega,⟨cg,ci⟩,cj⟩
 have c8:=dF aI
 refine A4<|A0 (.eql rfl rfl)<|A9 rfl<|Ac rfl (λaJ=>?_) (λaJ=>?_)
 have ck:=dT aJ
 refine A4<|A2 rfl<|A0 (.nck rfl)<|A0 (.fa Dt rfl B5 dD rfl)<|Ag (Ad (Bw _) rfl d rfl)<|A0 (.iis (((s+1:Nat):Int)) (.add rfl rfl (Bp oO)) oO)<|A0 (.nck rfl)<|A0 (.fa Dt rfl B5 dD rfl)<|WL.st B5 rfl rfl rfl d oQ (λdH ab B ee=>?_)
 have ab:AF dH r _ _:=ab
 have B:BF r _ _:=B
 have aW:=j.up B
 have cl:=Av.upd o B hne
 have a2:=BN g (BM B)
 refine WL.e<|A4<|A2 rfl<|Bk AN rfl rfl ((WZ r p l c (s+1) _ ⟨ab,cl⟩ hne hc hl oO)) (λdI dJ ac i=>?_) (λdK dJ ac i=>?_)
 have b7:=BN a2 (G2 i a2.size)
 exact Aw (Bn dI (by rw [hT,show x=47 from Cr aS,A1b];exact ac) b7)
 obtain ⟨kr,a6,a7,i⟩:=i
 have cm:=i.1.1
 have cn:=I4 aW i.2 aW.lt oO
 have co:=i.1.2
 have cq:=BN a2 (G2 i.2 a2.size)
 have F:=ac
 obtain ⟨G,aM⟩:∃ G,G=dK:=⟨_,rfl⟩
 refine Az rfl rfl cn Br rfl rfl (λeJ bH ad ef=>?_)
 have cr:=cm.up ad
 have ct:=DB co ad f
 have cu:=BN cq (Es ad oO)
 refine WL.e<|Ai (C4 rfl rfl (Bq bH Ec rfl Br)  ?_)
 exact Cg.ok _ (by rw [hT,show x=47 from Cr aS,A1b];exact F) rfl ⟨_,a6,a7,⟨cr,ct⟩,cu⟩
 have ck:=dF aJ
 refine W.k<|A4<|A2 rfl<|WL.c1 AN rfl rfl ((OF r p l c s _ ⟨d,o⟩ hne hc hl oO)) (λeK a3=>?_)
 have cv:=a3.1.1
 have cw:=I4 j a3.2 j.lt oO
 have aX:=a3.1.2
 have aY:=BN g (G2 a3.2 g.size)
 refine A9 rfl<|Ah ?_
 obtain ⟨T,cU⟩:∃ T,T=Gv ((l.drop s).takeWhile DO):=⟨_,rfl⟩
 have hX:Lu (l.drop n)=if T.e≠0 then .error T.e else if T.ok then .ok (⟨T.kind,T.n,[]⟩,l.drop (BP l s)) else IR 3 (l.drop s):=by rw [hT,Zr _ oO oO oO oO oO oO oO oO oO,hx,<- Ap bg,<- Mf,cU];rfl
 have eg:∀ w,Calls Tryz.prog 95 #[.string (bs ((l.drop s).takeWhile DO))] w λe w'=>e=.returned T.val/\Below w.heap.size w w':=λw=>by rw [cU];exact Ts _ w
 refine Ak<|A2 rfl<|WL.c1 AN rfl rfl ((eg _)) (λeL a4=>?_)
 have aZ:=cv.bl a4
 have a':=cw.bl a4
 have b0:=GY aX a4 (λh0=>aX.lt h0)
 have b2:=BN aY (G2 (Jo a4) aY.size)
 refine A2 rfl<|A0 (.ext rfl rfl)<|A0 (.ext rfl rfl)<|A0 (.ext rfl rfl)<|BV IF rfl (λeM eB a5 bI V eh=>?_)
 have cy:=Bg a5 aZ.lt
 have cz:=aZ.un V cy
 have cA:=Bg a5 a'.lt
 have cB:=a'.un V cA
 have aG:=λh0=>a5▸b0.lt h0
 have cC:=DB b0 V aG
 have b8:=Cq a5 b2.size
 have cD:=BN b2 (Es V b8)
 refine Az rfl rfl bI Br rfl rfl (λeN bJ X ei=>?_)
 have b3:=cz.up X
 have b4:=cB.up X
 have aF:=DB cC X aG
 have C:=BN cD (Es X oO)
 refine Dp rfl<|A9 rfl<|Ah<|W.b<|A4<|A2 rfl<|A0 (.neq rfl rfl)<|A9 rfl<|Ac rfl (λaK=>?_) (λaK=>?_)
 have cE:=JY aK
 refine Ak<|A2 rfl<|A0 (.mkI LJ rfl)<|Fo rfl (Aw ?_)
 exact Bn T.e (by rw [hX,A6 aS]) C
 have cE:=JZ aK
 refine A4<|A2 rfl<|A9 rfl<|Ac rfl (λdL=>?_) (λdL=>?_)
 refine A4<|Ag (BA rfl bJ Ec rfl Br)<|Az rfl rfl b4 Br rfl rfl (λeO bK ae ej=>?_)
 have cF:=b3.up ae
 have cG:=DB aF ae f
 have cH:=BN C (Es ae oO)
 refine WL.e<|Ai (C4 rfl rfl (Bq bK Ec rfl Br)  ?_)
 exact Cg.ok (⟨T.kind,T.n,[]⟩,l.drop (BP l s)) (by rw [hX,A1 (λh=>h aS),A6 aS]) rfl ⟨_,rfl,cT.2,⟨cF,cG⟩,cH⟩
 refine W.k<|A4<|A2 rfl<|Bk AN rfl rfl ((OG 3 _ _ (by have:=Qg l s;omega))) (λdM dN af D=>?_) (λdO dN af D=>?_)
 have b9:=BN C (G2 (Jo D) C.size)
 exact Aw (Bn dM (by rw [hX,A1 (λh=>h aS),A1 (bF aS)];exact OV af) b9)
 have cI:=b3.bl D
 have cJ:=b4.bl D
 have cK:=GY aF D (λh0=>aF.lt h0)
 have cL:=BN C (G2 (Jo D) C.size)
 obtain ⟨G,aM⟩:∃ G,G=dO:=⟨_,rfl⟩
 have F:=af
 refine Az rfl rfl cJ Br rfl rfl (λeP bM ag ek=>?_)
 have cM:=cI.up ag
 have cN:=DB cK ag f
 have cO:=BN cL (Es ag oO)
 refine WL.e<|Ai (C4 rfl rfl (Bq bM Ec rfl Br)  ?_)
 exact Cg.ok (_,l.drop (BP l s)) (by rw [hX,A1 (λh=>h aS),A1 (bF aS),R7 F,Mf]) rfl ⟨_,rfl,cT.2,⟨cM,cN⟩,cO⟩
end
section
set_option maxRecDepth 4000
theorem N5 (b1 b2 b5:Nat) (w:World) :
  CallsD Tryz.prog 120 #[.pointer (some ⟨b1,0,none⟩),.pointer (some ⟨b2,0,none⟩),.pointer (some ⟨b5,0,none⟩)] .returning w λe u' w'=>u'=.returning/\(∃ v,e=.returned v)/\w'=w:=by
 refine Iw func120 rfl ntmps120 bL rfl<|A9 rfl<|A4<|A2 rfl<|A0 (.neNil0 kR rfl)<|WL.e<|DS rfl rfl<|W.k<|BJ (Bt rfl ?_)
 exact ⟨⟨_,rfl⟩,rfl⟩
theorem UX (b1 b2 b5 B:Nat) (x y:Int) (z:ByteArray) (i j k:Int) (w:World) (h1:AF w b1 #[.int .i64 x,.int .i64 y,.string z] 147) (h2:AF w b2 #[.int .i64 i] 3) (h5:AF w b5 #[.int .i64 j] 30) (hB1:B<=b1) (h12:b1<b2) (h25:b2<b5) :
  CallsD Tryz.prog 120 #[.pointer (some ⟨b1,0,none⟩),.pointer (some ⟨b2,0,none⟩),.pointer (some ⟨b5,0,none⟩)] (.panicking [{ v:=.iface 30 (.int .i64 k),recovered:=false }]) w
   λe u' w'=>u'=.panicking [{ v:=.iface 30 (.int .i64 k),recovered:=true }]/\(∃ v,e=.returned v) /\
    AF w' b1 #[.int .i64 0,.int .i64 0,.string ⟨#[]⟩] 147/\AF w' b2 #[.int .i64 0] 3/\AF w' b5 #[.int .i64 k] 30/\Below B w w':=by
 refine Iw func120 rfl ntmps120 bL rfl ?_
 have q:=EM (B) w
 refine A9 rfl<|A4<|A2 rfl<|A0 (.neNil kR rfl)<|WL.e<|DR rfl rfl<|A4<|A2 rfl<|A0 (.tas LJ rfl)<|A2 rfl<|A0 (.ext rfl rfl)<|A0 (.ext rfl rfl)<|Dp rfl<|A9 rfl<|Ah<|A4<|A2 rfl<|A0 (.not rfl)<|WL.e<|DS rfl rfl ?_
 refine W.k<|Ak<|A0 (.buildL (ps:=_) J7 rfl rfl rfl pZ) ?_
 refine A2 rfl<|Az rfl rfl h1 Br rfl rfl (λL g c F=>?_)
 have s:=h2.upd c oM
 have t:=h5.upd c oM
 have u:=CN q oO c
 refine WL.st B5 rfl rfl rfl s oQ (λG d a H=>?_)
 have d:AF G b2 _ _:=d
 have a:BF b2 _ _:=a
 have C:=g.up a
 have D:=t.up a
 have E:=CN u oO a
 refine WL.st Gq rfl rfl rfl D oQ (λJ f b K=>?_)
 have f:AF J b5 _ _:=f
 have b:BF b5 _ _:=b
 have l:=C.up b
 have m:=d.up b
 have o:=CN E oO b
 refine WL.e<|BJ (Bt rfl ?_)
 exact ⟨⟨_,rfl⟩,l,m,f,o⟩
theorem ZE (a:Int) (p:Option Addr) (l:l8_) (c:Nat) (w:World) (hb:Av w p l) (hc:l.length<=c) (hl:l.length<=100000000) :
    Calls Tryz.prog 90 #[.slice p l.length c,.int .i64 a] w λe w'=>e=.returned (Gh l a).val/\Below w.heap.size w w':=by
  refine RO func90 rfl ntmps90 bL ?_;have ay:=EM (w.heap.size) w;refine WD.seq<|Ak<|BV IF rfl (λb1 bp af ag ah bk=>?_);have aD:=λJ=>af▸hb.lt J
  have az:=DB hb ah aD;have aA:=uB ay af ah;have b6:=Cq af ay.size;refine BV PG rfl (λx bq ae ai a6 bl=>?_);have aO:=Bg ae ag.lt;have aB:=ag.un a6 aO;have aE:=λJ=>ae▸az.lt J
  have aC:=DB az a6 aE;have aj:=uB aA ae a6;have b7:=Cq ae aA.size;refine BV zeroValue30 rfl (λd bm C K y b8=>?_);have aF:=Bg C aB.lt;have a7:=aB.un y aF;have aG:=Bg C ai.lt;have a8:=ai.un y aG;have ap:=λJ=>C▸aC.lt J
  have ak:=DB aC y ap;have a9:=uB aj C y;have aP:=Cq C aj.size;refine WL.e<|WD.seq<|Fd 15 (decide (a<0\/(l.length:Int)<a)) ?_ ?_;refine Ak<|A2 rfl<|A0 (.lss rfl rfl)<|A2 rfl<|B1 rfl rfl rfl (λf=>?_) (λf=>?_)
  · have aH := dF f
    refine A2 rfl<|As f<|A2 rfl<|As f<|A0 (.lenS Bu rfl)<|As f<|A0 (.gtr rfl rfl)<|A0 (.pkF rfl f rfl)<|WL.e<|?_;exact ⟨G8 (Cy rfl (by (apply AU.2;(try simp only [A3,Bo,AH,Ab,Aq,By,BI,false_iff,iff_false,true_iff,iff_true]);omega))),rfl⟩
  have aH:=dT f;refine Aa f<|Aa f<|Aa f<|A0 (.pkT rfl f rfl)<|WL.e<|?_;exact ⟨G8 (Cy rfl (by (apply AU.2;(try simp only [A3,Bo,AH,Ab,Aq,By,BI,false_iff,iff_false,true_iff,iff_true]);omega))),rfl⟩;refine A3n rfl (λaI=>?_) (λaI=>?_)
  · skip
    refine A4<|A0 (.buildL (ps:=_) J7 rfl rfl rfl pZ) ?_;refine Az rfl rfl a7 Br rfl rfl (λbt aq L b9=>?_);refine WL.st B5 rfl rfl rfl (a8.up L) oQ (λaQ P j ba=>?_);have P:AF aQ x _ _:=P;have j:BF x _ _:=j;refine WL.st Gq rfl rfl rfl ((K.up L).up j) oQ (λaR Q m bb=>?_);have Q:AF aR d _ _:=Q;have m:BF d _ _:=m;refine WL.e<|Ai ?_;exact Nu (I2 rfl rfl rfl rfl (Bq ((aq.up j).up m) Ec rfl Br) (Bi (P.up m) (Bw _) rfl) (Bi Q (Gs _) rfl)) ⟨Ci (by unfold Gh;rw [A6 oO];(first | done | rfl)),(CN (CN (CN a9 oO L) oO j) oO m)⟩
  obtain ⟨n,rfl⟩:=Int.eq_ofNat_of_zero_le (a:=a) oO;have hN:Gh l (n:Int)=A05 l (Lu (l.drop n)):=by unfold Gh;rw [A1 oO];rfl
  refine W.k<|WD.defer rfl rfl<|WD.of<|A4<|A2 rfl<|A2 rfl<|?_;refine A0 (.buildL (ps:=_) A6Q rfl rfl rfl pS) ?_;refine CU rfl rfl (λaS bn v ar o bc=>?_);have aJ:=Bg v a7.lt;have T:=a7.un o aJ;have aK:=Bg v a8.lt;have U:=a8.un o aK;have aL:=Bg v K.lt;have V:=K.un o aL;have au:=λJ=>v▸ak.lt J
  have X:=uB a9 v o;have aT:=Cq v a9.size;refine A9 rfl<|A4<|A2 rfl<|Bk AN rfl rfl ((WX aS p l c n _ ⟨ar,(DB ak o au)⟩ (λJ=>by have:=hb.lt J;omega) hc hl oO)) (λaU aV a0 b=>?_) (λaW aV a0 b=>?_);exact Li YK (λw'=>_) (UX b1 x d w.heap.size _ _ _ _ _ aU _ (I4 T b T.lt oO) (I4 U b U.lt oO) (I4 V b V.lt oO) oO oO oO)
    (λw' hS=>⟨_,I2 rfl rfl rfl rfl (Bq hS.1 Ec rfl Br) (Bi hS.2.1 (Bw _) rfl) (Bi hS.2.2.1 (Gs _) rfl),Ci (by rw [hN,a0];(first | done | rfl)),(EZ X (Bf.below b X.size oO)).trans hS.2.2.2⟩)
  obtain ⟨kr,aX,am,b⟩:=b;have an:=a0;obtain ⟨t0,rest⟩:=aW;obtain rfl:rest=l.drop kr:=aX;refine Az rfl rfl (I4 T b.2 T.lt oO) Br rfl rfl (λbu av A bd=>?_);refine WL.e<|Ah<|Uu<|Ma 8 rfl C7 (λbv D=>?_);have E:=av.drew D;have aa:=((I4 U b.2 U.lt oO).up A).drew D;have ab:=((I4 V b.2 V.lt oO).up A).drew D;have ac:=(b.1.1.up A).drew D;have ad:=CZ.below (CN (EZ X (Bf.below b.2 X.size oO)) oO A) D;refine Bh 1 rfl (.mv rfl) rfl<|Bh 2 rfl (.nck rfl) rfl<|Bh 3 rfl (.fa Dt rfl B5 dD rfl) rfl<|E9 0 rfl 4 rfl ?_ ?_;refine Ag (BA rfl E Ec rfl Br)<|WL.e<|E9 4 rfl 5 rfl ?_ ?_;refine Ag (Ad (Bw _) rfl ac rfl)<|WL.e<|Ay 5 rfl<|Az rfl rfl E Br rfl rfl (λbw aw a1 be=>?_);refine WL.e<|Ay 6 rfl<|WL.st B5 rfl rfl rfl (aa.up a1) oQ (λaY a2 q bf=>?_);have a2:AF aY x _ _:=a2;have q:BF x _ _:=q;refine WL.e<|Ay 7 rfl<|WL.st Gq rfl rfl rfl ((ab.up a1).up q) oQ (λaZ a3 s bg=>?_);have a3:AF aZ d _ _:=a3;have s:BF d _ _:=s;refine WL.e<|C3 kR<|Ai ?_;exact Ek.ret YK (λw'=>_) (N5 b1 x d _)
    (λw' hS=>by subst hS;exact ⟨_,I2 rfl rfl rfl rfl (Bq ((aw.up q).up s) Ec rfl Br) (Bi (a2.up s) (Bw _) rfl) (Bi a3 (Gs _) rfl),Ci (by rw [hN,an,OT _ _ _ am];(first | done | rfl)),(CN (CN (CN ad oO a1) oO q) oO s)⟩)
  refine Az rfl rfl E Br rfl rfl (λbx ax B bh=>?_);refine WL.e<|Ay 4 rfl<|Ag (Ad (Bw _) rfl (ac.up B) rfl)<|WL.e<|Ay 6 rfl<|WL.st B5 rfl rfl rfl (aa.up B) oQ (λa' a4 t bi=>?_);have a4:AF a' x _ _:=a4;have t:BF x _ _:=t;refine WL.e<|Ay 7 rfl<|WL.st Gq rfl rfl rfl ((ab.up B).up t) oQ (λb0 a5 u bj=>?_);have a5:AF b0 d _ _:=a5;have u:BF d _ _:=u;refine WL.e<|C3 kR<|Ai ?_;exact Ek.ret YK (λw'=>_) (N5 b1 x d _)
    (λw' hS=>by subst hS;exact ⟨_,I2 rfl rfl rfl rfl (Bq ((ax.up t).up u) Ec rfl Br) (Bi (a4.up u) (Bw _) rfl) (Bi a5 (Gs _) rfl),Ci (by rw [hN,an,OT _ _ _ am];(first | done | rfl)),(CN (CN (CN ad oO B) oO t) oO u)⟩)
  refine Ag (Ad (Bw _) rfl ac rfl)<|WL.e<|Ay 0 rfl<|Ag (BA rfl E Ec rfl Br)<|WL.e<|Ay 5 rfl<|Az rfl rfl E Br rfl rfl (λbo ao F b2=>?_);refine WL.e<|Ay 6 rfl<|WL.st B5 rfl rfl rfl (aa.up F) oQ (λaM G g b3=>?_);have G:AF aM x _ _:=G;have g:BF x _ _:=g;refine WL.e<|Ay 7 rfl<|WL.st Gq rfl rfl rfl ((ab.up F).up g) oQ (λaN H i b4=>?_);have H:AF aN d _ _:=H;have i:BF d _ _:=i;refine WL.e<|C3 kR<|Ai ?_;exact Ek.ret YK (λw'=>_) (N5 b1 x d _)
    (λw' hS=>by subst hS;exact ⟨_,I2 rfl rfl rfl rfl (Bq ((ao.up g).up i) Ec rfl Br) (Bi (G.up i) (Bw _) rfl) (Bi H (Gs _) rfl),Ci (by rw [hN,an,OT _ _ _ am];(first | done | rfl)),(CN (CN (CN ad oO F) oO g) oO i)⟩)
end
section
section
variable {P:Program} {f:Fr} {x y:Operand} {tx ty:TypeId} {a b r:Int} {k:IntKind}
theorem Bx.shr6 (hx:D0 f x=some (.int .u8 a)) (hr:a.fdiv 64=r):Bx P (.binOp .shr tx x (.const (.int .u64 6)) ty) f (.int .u8 r):=λρ hρ d ty' pos aft g w=>by
 have h4:ρ (.const (.int .u64 6))=.int .u64 6:=hρ _ _ rfl
 have e:(Op.shift .shr .u8 a .u64 6).run P w=.ok (.int .u8 r) w:=by
  subst hr;rfl
 simp [execOp,hρ _ _ hx,h4,eqGuard,binOp,e]
theorem Bx.and (hx:D0 f x=some (.int k a)) (hy:D0 f y=some (.int k b)) (hr:bits .and k a b=r):Bx P (.binOp .and tx x y ty) f (.int k r):=λρ hρ d ty' pos aft g w=>by
 simp [execOp,hρ _ _ hx,hρ _ _ hy,eqGuard,binOp,intBits_and,hr]
end
def A2j (c:UInt8):UInt8:=c ||| ((32:UInt8) * ((c >>> (6:UInt8)) &&& (1:UInt8)))
theorem A4q (c:UInt8):(c.toNat:Int).fdiv 64=((c >>> (6:UInt8)).toNat:Int):=by
 have key:∀ n:Fin 256,((UInt8.ofNat n.1).toNat:Int).fdiv 64=(((UInt8.ofNat n.1) >>> (6:UInt8)).toNat:Int):=by decide +kernel
 have h:=key ⟨c.toNat,Ce c⟩
 have e:UInt8.ofNat (⟨c.toNat,Ce c⟩:Fin 256).1=c:=UInt8.ofNat_toNat
 rw [e] at h
 exact h
theorem A4t (c:UInt8):bits .and .u8 ((c >>> (6:UInt8)).toNat:Int) 1=(((c >>> (6:UInt8)) &&& (1:UInt8)).toNat:Int):=by
 have key:∀ n:Fin 256,bits .and .u8 (((UInt8.ofNat n.1) >>> (6:UInt8)).toNat:Int) 1=((((UInt8.ofNat n.1) >>> (6:UInt8)) &&& (1:UInt8)).toNat:Int):=by decide +kernel
 have h:=key ⟨c.toNat,Ce c⟩
 have e:UInt8.ofNat (⟨c.toNat,Ce c⟩:Fin 256).1=c:=UInt8.ofNat_toNat
 rw [e] at h
 exact h
theorem A4r (c:UInt8):IntKind.u8.wrap (32 * (((c >>> (6:UInt8)) &&& (1:UInt8)).toNat:Int))=(((32:UInt8) * ((c >>> (6:UInt8)) &&& (1:UInt8))).toNat:Int):=by
 have key:∀ n:Fin 256,IntKind.u8.wrap (32 * ((((UInt8.ofNat n.1) >>> (6:UInt8)) &&& (1:UInt8)).toNat:Int))=(((32:UInt8) * (((UInt8.ofNat n.1) >>> (6:UInt8)) &&& (1:UInt8))).toNat:Int):=by decide +kernel
 have h:=key ⟨c.toNat,Ce c⟩
 have e:UInt8.ofNat (⟨c.toNat,Ce c⟩:Fin 256).1=c:=UInt8.ofNat_toNat
 rw [e] at h
 exact h
theorem A6o (c:UInt8):bits .or .u8 (c.toNat:Int) (((32:UInt8) * ((c >>> (6:UInt8)) &&& (1:UInt8))).toNat:Int)=((A2j c).toNat:Int):=by
 have key:∀ n:Fin 256,bits .or .u8 ((UInt8.ofNat n.1).toNat:Int) (((32:UInt8) * (((UInt8.ofNat n.1) >>> (6:UInt8)) &&& (1:UInt8))).toNat:Int)=((A2j (UInt8.ofNat n.1)).toNat:Int):=by decide +kernel
 have h:=key ⟨c.toNat,Ce c⟩
 have e:UInt8.ofNat (⟨c.toNat,Ce c⟩:Fin 256).1=c:=UInt8.ofNat_toNat
 rw [e] at h
 exact h
theorem A4s (c:UInt8):Lib.indexByte [48,49,50,51,52,53,54,55,56,57,97,98,99,100,101,102] (A2j c)=Np c:=by
 have key:∀ n:Fin 256,Lib.indexByte [48,49,50,51,52,53,54,55,56,57,97,98,99,100,101,102] (A2j (UInt8.ofNat n.1))=Np (UInt8.ofNat n.1):=by decide +kernel
 have h:=key ⟨c.toNat,Ce c⟩
 have e:UInt8.ofNat (⟨c.toNat,Ce c⟩:Fin 256).1=c:=UInt8.ofNat_toNat
 rw [e] at h
 exact h
theorem Jy (c:UInt8) (w:World):Calls Tryz.prog 87 #[.int .u8 (c.toNat:Int)] w λe w'=>e=.returned (.int .i64 (Np c))/\w=w':=by
 refine W.e func87 rfl ntmps87 bL ?_
 refine A4<|A9 rfl<|A4<|A2 rfl<|A2 rfl<|A0 (.shr6 rfl (A4q c))<|A0 (.and rfl rfl (A4t c))<|A0 (.mul rfl rfl (A4r c))<|A0 (.or rfl rfl (A6o c))<|WL.c1 AN rfl rfl ((Nj [48,49,50,51,52,53,54,55,56,57,97,98,99,100,101,102] (A2j c) _)) (λb a=>?_)
 obtain rfl:=a
 refine A9 rfl<|Ai (AZ rfl rfl ?_)
 exact ⟨E7 (A4s c),rfl⟩
theorem YP (c:UInt8) (w:World) (m:Nat):Calls Tryz.prog 87 #[.int .u8 (c.toNat:Int)] (w.drewN m) λe w'=>e=.returned (.int .i64 (Np c))/\∃ k,w'=w.drewN k :=
 (Jy c (w.drewN m)).mono λe w' h=>⟨h.1,m,h.2.symm⟩
theorem KI (c:UInt8) (r:l8_):MM (c::r)=if c=35 then (match r with | a::b::r'=>if Ee a<16/\Ee b<16 then (MM r').map (ch ((16 * Ee a+Ee b:Nat):Int)::·) else none | _=>none) else (MM r).map (c::·):=by
 match r with
 | []=>by_cases h:c=35 <;> simp [MM,h]
 | [a]=>by_cases h:c=35 <;> simp [MM,h]
 | a::b::r'=>by_cases h:c=35 <;> simp [MM,h]
def PT (acc s:l8_):Option (l8_):=(MM s).map (acc++·)
theorem A2R (acc:l8_):PT acc []=some acc:=by simp [PT,MM]
theorem XS (acc s:l8_) (i:Nat) (h:i<s.length) (hc:s[i]≠35):PT acc (s.drop i)=PT (acc++[s[i]]) (s.drop (i+1)):=by
 unfold PT
 rw [Ap h,KI,A1 hc,Option.map_map]
 congr 1
 funext x
 simp
theorem XR (acc s:l8_) (i:Nat) (h:i<s.length) (hc:s[i]=35) (h2:s.length<=i+2):PT acc (s.drop i)=none:=by
 unfold PT
 rw [Ap h,KI,A6 hc]
 have hl:(s.drop (i+1)).length<=1:=by rw [B4];omega
 match s.drop (i+1),hl with
 | [],_=>rfl
 | [a],_=>rfl
theorem P9 (acc s:l8_) (i:Nat) (h:i+2<s.length) (hc:s[i]=35):PT acc (s.drop i)=if Ee s[i+1]<16/\Ee s[i+2]<16 then PT (acc++[ch ((16 * Ee s[i+1]+Ee s[i+2]:Nat):Int)]) (s.drop (i+3)) else none:=by
 unfold PT
 rw [Ap (show i<s.length by omega),KI,A6 hc,Ap (show i+1<s.length by omega),Ap (show i+1+1<s.length by omega)]
 simp only
 split
 ·
  rw [Option.map_map]
  congr 1
  funext x
  simp
 · rfl
theorem A4u (q:Option Addr) (s:l8_) (c:Nat) (x:UInt8) (w:World) (hb:Av w q s) (hl:s.length<=1000000000) :
  Calls Tryz.prog 119 #[.slice q s.length c,.int .u8 (x.toNat:Int)] w λe w'=>(∃ a:Int,e=.returned (.int .i64 a)/\(0<=a↔x∈s))/\w=w':=by
 refine W.e func119 rfl ntmps119 bL ?_
 refine A4<|A9 rfl<|Ah<|A4<|A2 rfl<|A0 (.lenS Bu rfl)<|A2 rfl<|WL.e<|W.b<|Cj (α:=Nat) (λt=>[(0,.slice q s.length c),(1,.int .u8 (x.toNat:Int)),(7,.int .i64 (s.length:Int)),(8,.int .i64 (t:Int))]) (λt w'=>w=w'/\t<=s.length/\x ∉ s.take t) (λt=>s.length-t) (0) ⟨rfl,rfl,rfl,rfl,tT⟩ (⟨rfl,Gg _,by simp⟩) (λt m hR=>?_)
 obtain ⟨i,rfl⟩:∃ i,i=t:=⟨t,rfl⟩
 obtain ⟨rfl,hi,d⟩:=hR
 refine A4<|A0 (.lss rfl rfl)<|WL.e<|Ah<|Ac rfl (λf=>?_) (λf=>?_)
 have j:=dT f
 refine W.k<|Ah<|W.b<|A4<|A2 rfl<|A9 rfl<|A4<|A2 rfl<|A2 rfl<|A2 rfl<|A0 (.ixb Bu I7 rfl rfl (hb.isp oD) (i) (rfl) oO)<|Ag (AO (Ou _) rfl (hb.cells (i) oO))<|A0 (.eql rfl rfl)<|WL.e<|Ac rfl (λg=>?_) (λg=>?_)
 have l:=dT g
 refine A4<|A2 rfl<|A9 rfl<|Ai (AZ rfl rfl ?_)
 exact ⟨⟨_,rfl,λ_=>by rw [show x=s[i]'oO from Cr aS];exact AJ _,λ_=>by omega⟩,rfl⟩
 have l:=dF g
 refine W.k<|Ak<|A0 (.iis (((i+1:Nat):Int)) (.add rfl rfl (Bp oO)) oO)<|A2 rfl<|WL.e<|?_
 exact ⟨i+1,⟨rfl,rfl,rfl,rfl,tT⟩,⟨rfl,by ((try simp only) <;> omega),by
  rw [List.take_add_one,A7 oO,Option.toList_some,Ba,Am];exact λh=>h.elim d (Dn aS)⟩,by ((try simp only) <;> omega)⟩
 have j:=dF f
 refine C0<|A4<|A9 rfl<|Ai (AZ rfl rfl ?_)
 exact ⟨⟨_,rfl,λh=>CM h dD,λh=>by rw [show s.take i=s from AR oO] at d;exact CM h d⟩,rfl⟩
theorem A4v (q:Option Addr) (s:l8_) (c:Nat) (x:UInt8) (w:World) (hb:Av w q s) (hl:s.length<=1000000000) :
  Calls Tryz.prog 88 #[.slice q s.length c,.int .u8 (x.toNat:Int)] w λe w'=>e=.returned (.bool (decide (x∈s)))/\w=w':=by
 have hI:∀ b,Av b q s->Calls Tryz.prog 119 #[.slice q s.length c,.int .u8 (x.toNat:Int)] b λe w'=>∃ a:{ a:Int // 0<=a↔x∈s },e=.returned (.int .i64 a.1)/\b=w':=λb f =>
  (A4u q s c x b f hl).mono λe w' ⟨⟨a,g,i⟩,j⟩=>⟨⟨a,i⟩,g,j⟩
 refine W.e func88 rfl ntmps88 bL ?_
 refine A4<|A9 rfl<|A4<|A2 rfl<|A2 rfl<|DQ AN rfl rfl ((hI _ hb)) (λa b d=>?_)
 obtain rfl:=d
 refine A0 (.geq rfl rfl)<|A9 rfl<|Ai (AZ rfl rfl ?_)
 exact ⟨EI (D5.2 a.2),rfl⟩
theorem SZ (r:Nat) (p:Option Addr) (l:l8_) (c t:Nat) (refs:Bool) (w:World) (h:PX w r p l c t refs) (hne:0<l.length->(pA p).block≠r) (hc:l.length<=c) (hl:l.length<=100000000) (ht:t<=l.length) :
  Calls Tryz.prog 59 #[.pointer (some ⟨r,0,none⟩)] w (Cg 30 (Jc l t) (λa=>.string (bs a.1)) (λa w'=>PX w' r p l c a.2 refs/\Bf w.heap.size r w w') (λw'=>Bf w.heap.size r w w')):=by
 have hr:=h.1
 have hb:=h.2
 obtain ⟨X,hX⟩:∃ X,X=Jc l t:=⟨_,rfl⟩
 rw [<- hX]
 unfold Jc at hX
 have aO:=EX l t ht
 have aP:=SA l t
 have T:∀ K,Av K p l->∀ m,Calls Tryz.prog 64 #[.slice p l.length c,.int .i64 (t:Int)] (K.drewN m) λe w'=>e=.returned (.tuple #[.string (bs (E0 l t)),.int .i64 (BP l t:Int)])/\∃ k,w'=K.drewN k:=λK h1 m=>TF p l c t K h1 hc ht hl m
 generalize E0 l t=s at hX aP T
 generalize BP l t=t1 at hX aO T
 obtain ⟨D,hD⟩:∃ D,D=MM s:=⟨_,rfl⟩
 rw [<- hD] at hX
 refine W.e func59 rfl ntmps59 bL ?_
 have aQ:=Bf.refl (w.heap.size) r w
 refine A4<|A9 rfl<|Ah ?_
 have b9:r<w.heap.size:=hr.lt
 have ae:0<l.length->(pA p).block<w.heap.size:=λL=>hb.lt L
 refine E2 C7 kR<|At (.mv rfl) rfl<|At (.nck rfl) rfl<|At (.fa CL rfl G3 dD rfl) rfl<|Di (λm=>Ad (g22_ _) rfl hr rfl) rfl<|At (.mv rfl) rfl<|At (.nck rfl) rfl<|At (.fa CL rfl B5 dD rfl) rfl<|Di (λm=>Ad (Bw _) rfl hr rfl) rfl<|WQ.c1 AN rfl rfl (λm=>(T _ hb m))<|At (.mv rfl) rfl<|At (.ext rfl rfl) rfl<|At (.ext rfl rfl) rfl<|At (.as rfl) rfl<|At (.as rfl) rfl<|Da (λK U=>?_)
 have aR:=hr.drew U
 have aT:=hb.drew U
 have aU:=BN aQ (NE U)
 refine A4<|A2 rfl<|A2 rfl<|A0 (.nck rfl)<|A0 (.fa CL rfl B5 dD rfl)<|WL.st B5 rfl rfl rfl aR oQ (λw5 P B b6=>?_)
 have P:AF w5 r _ _:=P
 have B:BF r _ _:=B
 have aV:=Av.upd aT B hne
 have aW:=BN aU (BM B)
 refine WL.e<|A4<|A9 rfl<|Ah<|A4<|A9 rfl<|W.b<|Cj (α:=Value × l8_ × Nat) (λt=>[(0,.pointer (some ⟨r,0,none⟩)),(3,.string (bs s)),(5,t.1),(6,.int .i64 (t.2.2:Int))]) (λt w'=>PX w' r p l c t1 refs/\Bf w.heap.size r w w'/\Cc 5 w.heap.size w' t.1 (AI t.2.1)/\PT t.2.1 (s.drop t.2.2)=D/\t.2.1.length<=t.2.2/\t.2.2<=s.length) (λt=>s.length-t.2.2) ((.slice none 0 0,[],0)) ⟨rfl,rfl,rfl,rfl,tT⟩ (⟨⟨P,aV⟩,aW,Cc.nil _ _ _,by rw [hD,TE];simp [PT],Gg _,Gg _⟩) (λt K hR=>?_)
 obtain ⟨v,o,i⟩:=t
 obtain ⟨j,hT,C,hw,aX,hi⟩:=hR
 simp only at j hT C hw aX hi ⊢
 refine Ah<|A4<|A2 rfl<|A2 rfl<|A0 (.len Ju rfl)<|A0 (.lss rfl rfl)<|WL.e<|Ac rfl (λh8=>?_) (λh8=>?_)
 have aY:=dT h8
 refine W.k<|Ah<|W.b<|A4<|A2 rfl<|A2 rfl<|A0 (.ix Ju rfl rfl (i) (rfl) oO)<|A9 rfl<|Ah<|A4<|A2 rfl<|A0 (.eql rfl rfl)<|WL.e<|Ac rfl (λh9=>?_) (λh9=>?_)
 have aZ:=dT h9
 have A:s[i]'oO=35:=Cr aS
 refine Ah<|A4<|A2 rfl<|A0 (.add rfl rfl (Bp oO))<|A2 rfl<|A0 (.len Ju rfl)<|A0 (.geq rfl rfl)<|A2 rfl<|B1 rfl rfl rfl (λf=>?_) (λf=>?_)
 have ah:=dF f
 refine A2 rfl<|As f<|A2 rfl<|As f<|A0 (.iis (((i+1:Nat):Int)) (.add rfl rfl (Bp oO)) oO)<|As f<|A0 (.ix Ju rfl rfl (i+1) (rfl) oO)<|As f<|WL.c1 AN rfl rfl ((Jy _ _)) (λba ai=>?_)
 obtain rfl:=ai
 have bb:=JB (s[i+1]'oO)
 refine As f<|A0 (.lss rfl rfl)<|A0 (.pkF rfl f rfl)<|A2 rfl<|B1 rfl rfl rfl (λg=>?_) (λg=>?_)
 have aj:=dF g
 refine A2 rfl<|As g<|A2 rfl<|As g<|A0 (.iis (((i+2:Nat):Int)) (.add rfl rfl (Bp oO)) oO)<|As g<|A0 (.ix Ju rfl rfl (i+2) (rfl) oO)<|As g<|WL.c1 AN rfl rfl ((Jy _ _)) (λbc ak=>?_)
 obtain rfl:=ak
 have a':=JB (s[i+2]'oO)
 refine As g<|A0 (.lss rfl rfl)<|A0 (.pkF rfl g rfl)<|WL.e<|Ac rfl (λV=>?_) (λV=>?_)
 have al:=dT V
 refine Ak<|FQ AN rfl ((CV 23 _)) (λbd am=>?_)
 obtain rfl:=am
 exact Aw (Bn 23 (by rw [hX,<- hw,P9 _ _ _ oO A,A1 oO]) hT)
 have al:=dF V
 refine W.k<|Ah<|E2 C7 kR<|At (.mv rfl) rfl<|At (.mv rfl) rfl<|At (.iis (((i+1:Nat):Int)) (.add rfl rfl (Bp oO)) oO) rfl<|At (.ix Ju rfl rfl (i+1) (rfl) oO) rfl<|WQ.c1 AN rfl rfl (λm=>(YP (s[i+1]'oO) _ m))<|At (.iis (((Ee (s[i+1]'oO):Nat):Int) * 16) (.shl4 rfl _ (Bp oO)) oO) rfl<|At (.mv rfl) rfl<|At (.mv rfl) rfl<|At (.iis (((i+2:Nat):Int)) (.add rfl rfl (Bp oO)) oO) rfl<|At (.ix Ju rfl rfl (i+2) (rfl) oO) rfl<|WQ.c1 AN rfl rfl (λm=>(YP (s[i+2]'oO) _ m))<|At (.or rfl rfl (show bits .or .i64 (((Ee (s[i+1]'oO):Nat):Int) * 16) (Np (s[i+2]'oO))=((Ee (s[i+1]'oO):Nat):Int) * 16+((Ee (s[i+2]'oO):Nat):Int) by rw [(a'.resolve_left (λh=>by have:=h.1;omega)).1];exact A5m _ _ oO oO)) rfl<|At (.cvt JQ Lk rfl (TJ oO)) rfl<|At (.as rfl) rfl<|Da (λbe E=>?_)
 have an:=Cc.drew C E
 have a0:=j.1.drew E
 have a1:=j.2.drew E
 have a2:=BN hT (NE E)
 refine Ak<|A2 rfl<|A0 (.add rfl rfl (Bp oO))<|A9 rfl<|Ak<|A2 rfl<|A2 rfl<|Ct (ps:=_) Bu I7 PE rfl rfl rfl rfl rfl pR rfl (λbf b7 F a8 u b2=>?_)
 have ao:=Cc.new an F u
 have ap:=Bg F a0.lt
 have aq:=a0.un u ap
 have a9:=λL=>F▸a1.lt L
 have ar:=DB a1 u a9
 have a3:=Cq F a2.size
 have a4:=BN a2 (Es u a3)
 refine ED Bu Gr rfl rfl rfl ao rfl a8 rfl (by rw [B3];omega) (a4.size) rfl (λbg bh aa G b3=>?_)
 have au:=aq.below G oO
 have av:=GY ar G ae
 have aw:=BN a4 (Jo (G.mono (FL _)))
 have ax:=Eo aa (ch ((16 * Ee (s[i+1]'oO)+Ee (s[i+2]'oO):Nat):Int)) (by rw [JD _ oO oO];omega)
 refine A9 rfl<|Ak<|A2 rfl<|A0 (.add rfl rfl (Bp oO))<|A9 rfl ?_
 exact ⟨(_,o++[_],i+3),⟨rfl,rfl,rfl,LA rfl oM,tT⟩,⟨⟨au,av⟩,aw,ax,by rw [<- hw,P9 _ _ _ oO A,A6 oO],by simp only [A5,A8,Ae];omega,by ((try simp only) <;> omega)⟩,by ((try simp only) <;> omega)⟩
 have aj:=dT g
 refine Aa g<|Aa g<|Aa g<|Aa g<|Aa g<|A0 (.pkT rfl g rfl)<|WL.e<|DR rfl rfl<|Ak<|FQ AN rfl ((CV 23 _)) (λbi ay=>?_)
 obtain rfl:=ay
 exact Aw (Bn 23 (by rw [hX,<- hw,P9 _ _ _ oO A,A1 oO]) hT)
 have ah:=dT f
 refine Aa f<|Aa f<|Aa f<|Aa f<|Aa f<|A0 (.pkT rfl f rfl)<|A2 rfl<|Aa rfl<|Aa rfl<|Aa rfl<|Aa rfl<|Aa rfl<|Aa rfl<|A0 (.pkT rfl rfl rfl)<|WL.e<|DR rfl rfl<|Ak<|FQ AN rfl ((CV 23 _)) (λbj az=>?_)
 obtain rfl:=az
 exact Aw (Bn 23 (by rw [hX,<- hw,XR _ _ _ oO A oO]) hT)
 have aZ:=dF h9
 have A:s[i]'oO≠35:=Dn (d:=35) aS
 refine W.k<|Ak<|A2 rfl<|A2 rfl<|Ct (ps:=_) Bu I7 PE rfl rfl rfl rfl rfl pR rfl (λb0 b8 H ab x b4=>?_)
 have aA:=Cc.new C H x
 have aB:r<b0:=by rw [H];exact j.1.lt
 have aC:=j.1.un x aB
 have ac:=λL=>H▸j.2.lt L
 have aD:=Av.upd j.2 x (λL=>Js (ac L))
 have a5:=Cq H hT.size
 have a6:=BN hT (Es x a5)
 refine ED Bu Gr rfl rfl rfl aA rfl ab rfl (by rw [B3];omega) (a6.size) rfl (λbk bl ad J b5=>?_)
 have aE:=aC.below J oO
 have aF:=GY aD J ae
 have aG:=BN a6 (Jo (J.mono (FL _)))
 have aH:=Eo ad (s[i]'oO) (rfl)
 refine A9 rfl<|Ak<|A2 rfl<|A0 (.add rfl rfl (Bp oO))<|A9 rfl ?_
 exact ⟨(_,o++[_],i+1),⟨rfl,rfl,rfl,LA rfl oM,tT⟩,⟨⟨aE,aF⟩,aG,aH,by rw [<- hw,XS _ _ _ oO A],by simp only [A5,A8,Ae];omega,by ((try simp only) <;> omega)⟩,by ((try simp only) <;> omega)⟩
 have aY:=dF h8
 refine C0<|Ah<|W.b<|Ah ?_
 obtain ⟨q,cq,rfl,af,bm⟩:=Cc.bytes C
 have Q:D=some o:=by rw [<- hw,show i=s.length by omega,F3,A2R]
 refine Ak<|A2 rfl<|A0 (.lenS Bu rfl)<|A0 (.eql rfl rfl)<|A2 rfl<|B1 rfl rfl rfl (λy=>?_) (λy=>?_)
 have aI:=dF y
 refine A2 rfl<|As y<|WL.c1 AN rfl rfl ((A4v q o cq 0 _ af oO)) (λbn aJ=>?_)
 obtain rfl:=aJ
 refine A0 (.pkF rfl y rfl)<|A9 rfl<|Ac rfl (λb1=>?_) (λb1=>?_)
 refine Ak<|FQ AN rfl ((CV 23 _)) (λbo aK=>?_)
 obtain rfl:=aK
 exact Aw (Bn 23 (by rw [hX,Q];simp only [];rw [A6 (.inr (dT aS))]) hT)
 refine Ah ?_
 have ag:¬ (o=[]\/0∈o):=λh=>h.elim (λh=>by rw [h] at *;simp_all) (λh=>by simp_all)
 refine Ak<|A2 rfl<|A0 (.lenS Bu rfl)<|A0 (.gtr rfl rfl)<|A9 rfl<|Ac rfl (λa7=>?_) (λa7=>?_)
 have aL:=dT a7
 refine Ak<|FQ AN rfl ((CV 25 _)) (λbp aM=>?_)
 obtain rfl:=aM
 exact Aw (Bn 25 (by rw [hX,Q];simp only [];rw [A1 ag,A6 oO]) hT)
 have aL:=dF a7
 refine W.k<|A4<|A2 rfl<|Ag (Mc (l:=o) Bu Lk Ju rfl (af))<|A9 rfl<|Ai (AZ rfl rfl ?_)
 exact Cg.ok (o,t1) (by rw [hX,Q];simp only [];rw [A1 ag,A1 oO]) rfl ⟨⟨j.1,j.2⟩,hT⟩
 have aI:=dT y
 refine Aa y<|A0 (.pkT rfl y rfl)<|A9 rfl<|DR rfl rfl<|Ak<|FQ AN rfl ((CV 23 _)) (λbq aN=>?_)
 obtain rfl:=aN
 exact Aw (Bn 23 (by rw [hX,Q];simp only [];rw [A6 (.inl (Cp.1 oO))]) hT)
end
section
theorem Wg (l:l8_) (i:Nat) (h:i<l.length):(l.drop i).all Ja=(Ja l[i] && (l.drop (i+1)).all Ja):=by
 rw [Ap h,Cw]
theorem NT {c:UInt8} (h:c=62\/(Er c=false/\Np c<0)):Ja c=false:=by
 rcases h with rfl | ⟨a,d⟩
 · rfl
 ·
  unfold Ja
  rcases JB c with b | b
  · rw [a,Al oO];simp
  · omega
theorem Ms {c:UInt8} (h:c≠62) (h2:Er c=true\/¬ Np c<0):Ja c=true:=by
 unfold Ja
 rw [bne_iff_ne.2 h,Cx]
 rcases h2 with h2 | h2
 · rw [h2];rfl
 ·
  rcases JB c with a | a
  · omega
  · rw [Aj a.2];simp
theorem ZR (r:Nat) (p:Option Addr) (l:l8_) (c t:Nat) (refs:Bool) (w:World) (h:PX w r p l c t refs) (hl:l.length<=100000000) (ht:t<l.length) :
  Calls Tryz.prog 91 #[.pointer (some ⟨r,0,none⟩)] w λe w'=>e=.returned (.bool (Pq l t))/\Below w.heap.size w w':=by
 have hr:=h.1
 have hb:=h.2
 have hg:l[t]?=some l[t]:=A7 ht
 refine W.e func91 rfl ntmps91 bL ?_
 have a3:=EM (w.heap.size) w
 refine A4<|A9 rfl<|A4<|A9 rfl<|Ah<|Ah<|E2 C7 kR<|At (.mv rfl) rfl<|At (.nck rfl) rfl<|At (.fa CL rfl G3 dD rfl) rfl<|Di (λm=>Ad (g22_ _) rfl hr rfl) rfl<|At (.mv rfl) rfl<|At (.nck rfl) rfl<|At (.fa CL rfl B5 dD rfl) rfl<|Di (λm=>Ad (Bw _) rfl hr rfl) rfl<|At (.ixb Bu I7 rfl rfl (hb.isp oD) (t) (rfl) (ht)) rfl<|Di (λm=>AO (Ou _) rfl ((hb.drewN m).cells (t) (ht))) rfl<|At (.eql rfl rfl) rfl<|Da (λw1 y=>?_)
 have x:=hr.drew y
 have F:=hb.drew y
 have G:=CZ.below a3 y
 refine Ac rfl (λH=>?_) (λH=>?_)
 have a4:=dT H
 refine Ak<|A9 rfl<|Ah<|A4<|A2 rfl<|A0 (.nck rfl)<|A0 (.fa CL rfl B5 dD rfl)<|Ag (Ad (Bw _) rfl x rfl)<|A0 (.iis (((t+1:Nat):Int)) (.add rfl rfl (Bp oO)) oO)<|A9 rfl<|W.b ?_
 obtain ⟨T0,A⟩:∃ T0,T0=t:=⟨t,rfl⟩
 subst A
 refine Cj (α:=Nat × Int) (λt=>[(0,.pointer (some ⟨r,0,none⟩)),(3,.int .u8 t.2),(4,.int .i64 (t.1:Int))]) (λt w'=>Below w.heap.size w w'/\PX w' r p l c T0 refs/\T0+1<=t.1/\t.1<=l.length/\((t.2=62/\l[T0]?=some 60/\(l.drop (T0+1)).all Ja=(l.drop t.1).all Ja)\/(t.2=41/\l[T0]?≠some 60))) (λt=>l.length-t.1) ((T0+1,_)) ⟨rfl,rfl,rfl,tT⟩ (⟨G,⟨x,F⟩,FL _,ht,by first | exact .inl ⟨rfl,by rw [hg,show l[T0]=60 from Cr aS],rfl⟩ | exact .inr ⟨rfl,by rw [hg];exact λh=>CM (DC h) (Dn (d:=60) aS)⟩⟩) (λt w1 hR=>?_)
 obtain ⟨i,z⟩:=t
 obtain ⟨hT,a,B,hi,hz⟩:=hR
 simp only at B hi hz ⊢
 refine Ah<|Fd 32 (decide (i<l.length/\z=62)) ?_ ?_
 refine Ak<|A2 rfl<|A2 rfl<|A0 (.nck rfl)<|A0 (.fa CL rfl G3 dD rfl)<|Ag (Ad (g22_ _) rfl a.1 rfl)<|A0 (.lenS Bu rfl)<|A0 (.lss rfl rfl)<|A2 rfl<|B1 rfl rfl rfl (λv=>?_) (λv=>?_)
 have a5:=dT v
 refine A2 rfl<|As v<|A0 (.eql rfl rfl)<|A0 (.pkT rfl v rfl)<|WL.e<|?_
 exact ⟨G8 (Cy rfl (by (apply AU.2;(try simp) <;> omega))),rfl⟩
 have a5:=dF v
 refine Aa v<|A0 (.pkF rfl v rfl)<|WL.e<|?_
 exact ⟨G8 (Cy rfl (by (apply AU.2;(try simp) <;> omega))),rfl⟩
 refine Ac rfl (λJ=>?_) (λJ=>?_)
 have a6:=dT J
 have f:l[T0]?=some 60/\(l.drop (T0+1)).all Ja=(l.drop i).all Ja:=by rcases hz with h | h;exact h.2;omega
 have o:=Wg l i oO
 refine W.k<|Ah<|W.b<|A4<|A2 rfl<|A0 (.nck rfl)<|A0 (.fa CL rfl G3 dD rfl)<|Ag (Ad (g22_ _) rfl a.1 rfl)<|A2 rfl<|A0 (.ixb Bu I7 rfl rfl (a.2.isp oD) (i) (rfl) oO)<|Ag (AO (Ou _) rfl (a.2.cells (i) oO))<|A9 rfl<|A4<|A2 rfl<|A0 (.eql rfl rfl)<|A2 rfl<|B1 rfl rfl rfl (λj=>?_) (λj=>?_)
 have a7:=dF j
 refine A2 rfl<|As j<|WL.c1 AN rfl rfl ((KY _ _)) (λw9 a8=>?_)
 obtain rfl:=a8
 refine As j<|A0 (.not rfl)<|As j<|A2 rfl<|B1 rfl rfl rfl (λq=>?_) (λq=>?_)
 have K:=(nT q)
 refine A2 rfl<|Ew rfl rfl rfl (by rw [(nT q)] <;> rfl)<|WL.c1 AN rfl rfl ((Jy _ _)) (λa9 L=>?_)
 obtain rfl:=L
 refine Ew rfl rfl rfl (by rw [(nT q)] <;> rfl)<|A0 (.lss rfl rfl)<|As j<|A0 (.pkT rfl (by rw [(nT q)] <;> rfl) rfl)<|A0 (.pkF rfl j rfl)<|WL.e<|Ac rfl (λC=>?_) (λC=>?_)
 have P:=dT C
 refine A4<|A9 rfl<|Ai (AZ rfl rfl ?_)
 exact ⟨EI (by unfold Pq;rw [A6 f.1,f.2,o,NT (.inr ⟨by assumption,by assumption⟩)];rfl),hT⟩
 have P:=dF C
 refine W.k<|Ak<|A2 rfl<|A0 (.iis (((i+1:Nat):Int)) (.add rfl rfl (Bp oO)) oO)<|A9 rfl ?_
 exact ⟨(i+1,z),⟨rfl,rfl,rfl,tT⟩,⟨hT,⟨a.1,a.2⟩,by ((try simp only) <;> omega),by ((try simp only) <;> omega),.inl ⟨by omega,f.1,by rw [f.2,o,Ms (Dn (d:=62) aS) (.inr aS),Cx]⟩⟩,by ((try simp only) <;> omega)⟩
 have K:=(nF q)
 refine EL rfl rfl rfl (by rw [(nF q)] <;> rfl)<|EL rfl rfl rfl (by rw [(nF q)] <;> rfl)<|As j<|A0 (.pkF rfl (by rw [(nF q)] <;> rfl) rfl)<|A0 (.pkF rfl j rfl)<|WL.e<|DS rfl rfl<|W.k<|Ak<|A2 rfl<|A0 (.iis (((i+1:Nat):Int)) (.add rfl rfl (Bp oO)) oO)<|A9 rfl ?_
 exact ⟨(i+1,z),⟨rfl,rfl,rfl,tT⟩,⟨hT,⟨a.1,a.2⟩,by ((try simp only) <;> omega),by ((try simp only) <;> omega),.inl ⟨by omega,f.1,by rw [f.2,o,Ms (Dn (d:=62) aS) (.inl aS),Cx]⟩⟩,by ((try simp only) <;> omega)⟩
 have a7:=dT j
 refine Aa j<|Aa j<|Aa j<|FN<|FN<|FN<|Aa j<|A0 (.pkT rfl j rfl)<|WL.e<|DR rfl rfl<|A4<|A9 rfl<|Ai (AZ rfl rfl ?_)
 exact ⟨EI (by unfold Pq;rw [A6 f.1,f.2,o,NT (.inl (Cr (d:=62) aS))];rfl),hT⟩
 have a6:=dF J
 refine C0<|A4<|A9 rfl<|Ai (AZ rfl rfl ?_)
 exact ⟨EI (by
  unfold Pq;rcases hz with h | h;rw [A6 h.2.1,h.2.2,B9 oO];rfl;rw [A1 h.2]),hT⟩
 have a4:=dF H
 refine W.k<|Ah<|A4<|A2 rfl<|A0 (.nck rfl)<|A0 (.fa CL rfl B5 dD rfl)<|Ag (Ad (Bw _) rfl x rfl)<|A0 (.iis (((t+1:Nat):Int)) (.add rfl rfl (Bp oO)) oO)<|A9 rfl<|W.b ?_
 obtain ⟨T0,A⟩:∃ T0,T0=t:=⟨t,rfl⟩
 subst A
 refine Cj (α:=Nat × Int) (λt=>[(0,.pointer (some ⟨r,0,none⟩)),(3,.int .u8 t.2),(4,.int .i64 (t.1:Int))]) (λt w'=>Below w.heap.size w w'/\PX w' r p l c T0 refs/\T0+1<=t.1/\t.1<=l.length/\((t.2=62/\l[T0]?=some 60/\(l.drop (T0+1)).all Ja=(l.drop t.1).all Ja)\/(t.2=41/\l[T0]?≠some 60))) (λt=>l.length-t.1) ((T0+1,_)) ⟨rfl,rfl,rfl,tT⟩ (⟨G,⟨x,F⟩,FL _,ht,by first | exact .inl ⟨rfl,by rw [hg,show l[T0]=60 from Cr aS],rfl⟩ | exact .inr ⟨rfl,by rw [hg];exact λh=>CM (DC h) (Dn (d:=60) aS)⟩⟩) (λt w1 hR=>?_)
 obtain ⟨i,z⟩:=t
 obtain ⟨hT,a,B,hi,hz⟩:=hR
 simp only at B hi hz ⊢
 refine Ah<|Fd 32 (decide (i<l.length/\z=62)) ?_ ?_
 refine Ak<|A2 rfl<|A2 rfl<|A0 (.nck rfl)<|A0 (.fa CL rfl G3 dD rfl)<|Ag (Ad (g22_ _) rfl a.1 rfl)<|A0 (.lenS Bu rfl)<|A0 (.lss rfl rfl)<|A2 rfl<|B1 rfl rfl rfl (λu=>?_) (λu=>?_)
 have Q:=dT u
 refine A2 rfl<|As u<|A0 (.eql rfl rfl)<|A0 (.pkT rfl u rfl)<|WL.e<|?_
 exact ⟨G8 (Cy rfl (by (apply AU.2;(try simp) <;> omega))),rfl⟩
 have Q:=dF u
 refine Aa u<|A0 (.pkF rfl u rfl)<|WL.e<|?_
 exact ⟨G8 (Cy rfl (by (apply AU.2;(try simp) <;> omega))),rfl⟩
 refine Ac rfl (λD=>?_) (λD=>?_)
 have T:=dT D
 have f:l[T0]?=some 60/\(l.drop (T0+1)).all Ja=(l.drop i).all Ja:=by rcases hz with h | h;exact h.2;omega
 have o:=Wg l i oO
 refine W.k<|Ah<|W.b<|A4<|A2 rfl<|A0 (.nck rfl)<|A0 (.fa CL rfl G3 dD rfl)<|Ag (Ad (g22_ _) rfl a.1 rfl)<|A2 rfl<|A0 (.ixb Bu I7 rfl rfl (a.2.isp oD) (i) (rfl) oO)<|Ag (AO (Ou _) rfl (a.2.cells (i) oO))<|A9 rfl<|A4<|A2 rfl<|A0 (.eql rfl rfl)<|A2 rfl<|B1 rfl rfl rfl (λg=>?_) (λg=>?_)
 have V:=dF g
 refine A2 rfl<|As g<|WL.c1 AN rfl rfl ((KY _ _)) (λaa X=>?_)
 obtain rfl:=X
 refine As g<|A0 (.not rfl)<|As g<|A2 rfl<|B1 rfl rfl rfl (λs=>?_) (λs=>?_)
 have a0:=(nT s)
 refine A2 rfl<|Ew rfl rfl rfl (by rw [(nT s)] <;> rfl)<|WL.c1 AN rfl rfl ((Jy _ _)) (λab a1=>?_)
 obtain rfl:=a1
 refine Ew rfl rfl rfl (by rw [(nT s)] <;> rfl)<|A0 (.lss rfl rfl)<|As g<|A0 (.pkT rfl (by rw [(nT s)] <;> rfl) rfl)<|A0 (.pkF rfl g rfl)<|WL.e<|Ac rfl (λE=>?_) (λE=>?_)
 have a2:=dT E
 refine A4<|A9 rfl<|Ai (AZ rfl rfl ?_)
 exact ⟨EI (by unfold Pq;rw [A6 f.1,f.2,o,NT (.inr ⟨by assumption,by assumption⟩)];rfl),hT⟩
 have a2:=dF E
 refine W.k<|Ak<|A2 rfl<|A0 (.iis (((i+1:Nat):Int)) (.add rfl rfl (Bp oO)) oO)<|A9 rfl ?_
 exact ⟨(i+1,z),⟨rfl,rfl,rfl,tT⟩,⟨hT,⟨a.1,a.2⟩,by ((try simp only) <;> omega),by ((try simp only) <;> omega),.inl ⟨by omega,f.1,by rw [f.2,o,Ms (Dn (d:=62) aS) (.inr aS),Cx]⟩⟩,by ((try simp only) <;> omega)⟩
 have a0:=(nF s)
 refine EL rfl rfl rfl (by rw [(nF s)] <;> rfl)<|EL rfl rfl rfl (by rw [(nF s)] <;> rfl)<|As g<|A0 (.pkF rfl (by rw [(nF s)] <;> rfl) rfl)<|A0 (.pkF rfl g rfl)<|WL.e<|DS rfl rfl<|W.k<|Ak<|A2 rfl<|A0 (.iis (((i+1:Nat):Int)) (.add rfl rfl (Bp oO)) oO)<|A9 rfl ?_
 exact ⟨(i+1,z),⟨rfl,rfl,rfl,tT⟩,⟨hT,⟨a.1,a.2⟩,by ((try simp only) <;> omega),by ((try simp only) <;> omega),.inl ⟨by omega,f.1,by rw [f.2,o,Ms (Dn (d:=62) aS) (.inl aS),Cx]⟩⟩,by ((try simp only) <;> omega)⟩
 have V:=dT g
 refine Aa g<|Aa g<|Aa g<|FN<|FN<|FN<|Aa g<|A0 (.pkT rfl g rfl)<|WL.e<|DR rfl rfl<|A4<|A9 rfl<|Ai (AZ rfl rfl ?_)
 exact ⟨EI (by unfold Pq;rw [A6 f.1,f.2,o,NT (.inl (Cr (d:=62) aS))];rfl),hT⟩
 have T:=dF D
 refine C0<|A4<|A9 rfl<|Ai (AZ rfl rfl ?_)
 exact ⟨EI (by
  unfold Pq;rcases hz with h | h;rw [A6 h.2.1,h.2.2,B9 oO];rfl;rw [A1 h.2]),hT⟩
theorem SY (r:Nat) (p:Option Addr) (l:l8_) (c t:Nat) (refs:Bool) (w:World) (h:PX w r p l c t refs) (hne:0<l.length->(pA p).block≠r) (hc:l.length<=c) (hl:l.length<=100000000) (ht:t<l.length) :
  Calls Tryz.prog 62 #[.pointer (some ⟨r,0,none⟩)] w (Cg 30 (Km l t) (λa=>.agg (U3 5 0 a.1).toArray) (λa w'=>PX w' r p l c a.2 refs/\Bf w.heap.size r w w') (λw'=>Bf w.heap.size r w w')):=by
 have hr:=h.1
 have hb:=h.2
 obtain ⟨X,hX⟩:∃ X,X=Km l t:=⟨_,rfl⟩
 rw [<- hX]
 unfold Km at hX
 have hN:∀ w1,Av w1 p l->Calls Tryz.prog 90 #[.slice p l.length c,.int .i64 (t:Int)] w1 λe w'=>e=.returned (Gh l t).val/\Below w1.heap.size w1 w':=λw1 h1=>ZE t p l c w1 h1 hc hl
 have bh:=R2 l t oO
 generalize Gh l t=N at hX hN bh
 refine W.e func62 rfl ntmps62 bL ?_
 have cI:=Bf.refl (w.heap.size) r w
 refine A4<|BV Jg rfl (λb1 ew aO cK ar e7=>?_)
 have dI:=Bg aO hr.lt
 have dJ:=hr.un ar dI
 have au:=λd=>aO▸hb.lt d
 have dK:=DB hb ar au
 have bi:=Cq aO cI.size
 have dL:=BN cI (Es ar bi)
 refine WL.e<|?_
 obtain ⟨t0,A⟩:∃ t0,t0=t:=⟨t,rfl⟩
 refine D4 (α:=Nat) (λt=>[(0,.pointer (some ⟨r,0,none⟩)),(2,.pointer (some ⟨b1,0,none⟩)),(3,.pointer (some ⟨t,0,none⟩)),(4,.int .i64 N.at'),(5,.int .i64 N.e)]) (λt w'=>Bf w.heap.size r w w'/\AF w' r #[.slice p l.length c,.int .i64 (t0:Int),.bool refs] 112/\Av w' p l/\AF w' b1 (U3 0 0 []).toArray 99/\AF w' t #[.int .i64 N.k,.int .i64 N.n,.string (bs N.s)] 147/\b1<t) ?_ (λt w1 hR=>?_)
 have ex:r<b1:=by have:=hr.lt;omega
 refine Ma 17 rfl C7 (λw7 aC=>?_)
 have i:=dJ.drew aC
 have u:=cK.drew aC
 have f:=dK.drew aC
 have g:=BN dL (NE aC)
 refine Bh 0 rfl (.mv rfl) rfl<|Bh 1 rfl (.nck rfl) rfl<|Bh 2 rfl (.fa CL rfl G3 dD rfl) rfl<|Bh 4 rfl (.mv rfl) rfl<|Bh 5 rfl (.nck rfl) rfl<|Bh 6 rfl (.fa CL rfl B5 dD rfl) rfl<|TB [3,7,13] kR rfl ⟨⟨_,rfl,?_⟩,⟨_,rfl,?_⟩,⟨_,rfl,?_⟩,tT⟩
 refine Ag (Ad (g22_ _) rfl i rfl)<|WL.e<|E9 7 rfl 13 rfl ?_ ?_
 refine Ag (Ad (Bw _) rfl i rfl)<|WL.e<|E9 8 rfl 13 rfl ?_ ?_
 refine WL.c1 AN rfl rfl ((hN _ f)) (λey ag=>?_)
 have aP:=i.bl ag
 have aQ:=u.bl ag
 have aR:=GY f ag (λd=>f.lt d)
 have aT:=BN g (G2 (Jo ag) g.size)
 refine WL.e<|Bh 9 rfl (.mv rfl) rfl<|Bh 10 rfl (.ext rfl rfl) rfl<|Bh 11 rfl (.ext rfl rfl) rfl<|Bh 12 rfl (.ext rfl rfl) rfl<|Ay 13 rfl<|BV IF rfl (λez e8 ah bj Q dX=>?_)
 have cL:=Bg ah aP.lt
 have cM:=aP.un Q cL
 have cN:=Bg ah aQ.lt
 have cO:=aQ.un Q cN
 have aD:=λd=>ah▸aR.lt d
 have cP:=DB aR Q aD
 have aU:=Cq ah aT.size
 have cQ:=BN aT (Es Q aU)
 refine WL.e<|Ay 14 rfl<|Az rfl rfl bj Br rfl rfl (λeA bk T dY=>?_)
 have cR:=cM.up T
 have cS:=cO.up T
 have cT:=DB cP T aD
 have cU:=BN cQ (Es T oO)
 refine WL.e<|Bh 15 rfl (.as rfl) rfl<|Bh 16 rfl (.as rfl) rfl<|C3 kR ?_
 exact ⟨_,⟨rfl,rfl,rfl,rfl,rfl,tT⟩,cU,by rw [A];exact cR,cT,cS,bk,by omega⟩
 refine BV IF rfl (λeB e9 ai bm U dZ=>?_)
 have cV:=Bg ai i.lt
 have cW:=i.un U cV
 have cX:=Bg ai u.lt
 have cY:=u.un U cX
 have aE:=λd=>ai▸f.lt d
 have av:=DB f U aE
 have aV:=Cq ai g.size
 have aW:=BN g (Es U aV)
 refine WL.e<|Ay 8 rfl<|WL.c1 AN rfl rfl ((hN _ av)) (λeC a8=>?_)
 have cZ:=cW.bl a8
 have c':=cY.bl a8
 have d0:=bm.bl a8
 have d1:=GY av a8 (λd=>av.lt d)
 have d2:=BN aW (G2 (Jo a8) aW.size)
 refine WL.e<|Bh 9 rfl (.mv rfl) rfl<|Bh 10 rfl (.ext rfl rfl) rfl<|Bh 11 rfl (.ext rfl rfl) rfl<|Bh 12 rfl (.ext rfl rfl) rfl<|Ay 14 rfl<|Az rfl rfl d0 Br rfl rfl (λeD bn V d'=>?_)
 have d3:=cZ.up V
 have d4:=c'.up V
 have d5:=DB d1 V aE
 have d6:=BN d2 (Es V oO)
 refine WL.e<|Bh 15 rfl (.as rfl) rfl<|Bh 16 rfl (.as rfl) rfl<|C3 kR ?_
 exact ⟨_,⟨rfl,rfl,rfl,rfl,rfl,tT⟩,d6,by rw [A];exact d3,d5,d4,bn,by omega⟩
 refine BV IF rfl (λeF ea aj bo a0 e0=>?_)
 have d7:=Bg aj i.lt
 have aX:=i.un a0 d7
 have d8:=Bg aj u.lt
 have d9:=u.un a0 d8
 have aF:=λd=>aj▸f.lt d
 have aw:=DB f a0 aF
 have aY:=Cq aj g.size
 have aZ:=BN g (Es a0 aY)
 refine WL.e<|Ay 7 rfl<|Ag (Ad (Bw _) rfl aX rfl)<|WL.e<|Ay 8 rfl<|WL.c1 AN rfl rfl ((hN _ aw)) (λeG a9=>?_)
 have da:=aX.bl a9
 have db:=d9.bl a9
 have dc:=bo.bl a9
 have dd:=GY aw a9 (λd=>aw.lt d)
 have de:=BN aZ (G2 (Jo a9) aZ.size)
 refine WL.e<|Bh 9 rfl (.mv rfl) rfl<|Bh 10 rfl (.ext rfl rfl) rfl<|Bh 11 rfl (.ext rfl rfl) rfl<|Bh 12 rfl (.ext rfl rfl) rfl<|Ay 14 rfl<|Az rfl rfl dc Br rfl rfl (λeH bp a1 e1=>?_)
 have df:=da.up a1
 have dg:=db.up a1
 have dh:=DB dd a1 aF
 have di:=BN de (Es a1 oO)
 refine WL.e<|Bh 15 rfl (.as rfl) rfl<|Bh 16 rfl (.as rfl) rfl<|C3 kR ?_
 exact ⟨_,⟨rfl,rfl,rfl,rfl,rfl,tT⟩,di,by rw [A];exact df,dh,dg,bp,by omega⟩
 refine Ag (Ad (Bw _) rfl i rfl)<|WL.e<|E9 3 rfl 13 rfl ?_ ?_
 refine Ag (Ad (g22_ _) rfl i rfl)<|WL.e<|E9 8 rfl 13 rfl ?_ ?_
 refine WL.c1 AN rfl rfl ((hN _ f)) (λeI ak=>?_)
 have a':=i.bl ak
 have b0:=u.bl ak
 have b2:=GY f ak (λd=>f.lt d)
 have b4:=BN g (G2 (Jo ak) g.size)
 refine WL.e<|Bh 9 rfl (.mv rfl) rfl<|Bh 10 rfl (.ext rfl rfl) rfl<|Bh 11 rfl (.ext rfl rfl) rfl<|Bh 12 rfl (.ext rfl rfl) rfl<|Ay 13 rfl<|BV IF rfl (λeJ eb am bq a2 e2=>?_)
 have dj:=Bg am a'.lt
 have dk:=a'.un a2 dj
 have dl:=Bg am b0.lt
 have dm:=b0.un a2 dl
 have aG:=λd=>am▸b2.lt d
 have dn:=DB b2 a2 aG
 have b5:=Cq am b4.size
 have dp:=BN b4 (Es a2 b5)
 refine WL.e<|Ay 14 rfl<|Az rfl rfl bq Br rfl rfl (λeK bt a3 e3=>?_)
 have dq:=dk.up a3
 have dr:=dm.up a3
 have ds:=DB dn a3 aG
 have dt:=BN dp (Es a3 oO)
 refine WL.e<|Bh 15 rfl (.as rfl) rfl<|Bh 16 rfl (.as rfl) rfl<|C3 kR ?_
 exact ⟨_,⟨rfl,rfl,rfl,rfl,rfl,tT⟩,dt,by rw [A];exact dq,ds,dr,bt,by omega⟩
 refine BV IF rfl (λeL ec an bu a4 e4=>?_)
 have du:=Bg an i.lt
 have dv:=i.un a4 du
 have dw:=Bg an u.lt
 have dx:=u.un a4 dw
 have aH:=λd=>an▸f.lt d
 have ax:=DB f a4 aH
 have b6:=Cq an g.size
 have b7:=BN g (Es a4 b6)
 refine WL.e<|Ay 8 rfl<|WL.c1 AN rfl rfl ((hN _ ax)) (λeM aa=>?_)
 have dy:=dv.bl aa
 have dz:=dx.bl aa
 have dA:=bu.bl aa
 have dB:=GY ax aa (λd=>ax.lt d)
 have dC:=BN b7 (G2 (Jo aa) b7.size)
 refine WL.e<|Bh 9 rfl (.mv rfl) rfl<|Bh 10 rfl (.ext rfl rfl) rfl<|Bh 11 rfl (.ext rfl rfl) rfl<|Bh 12 rfl (.ext rfl rfl) rfl<|Ay 14 rfl<|Az rfl rfl dA Br rfl rfl (λed b8 B dM=>?_)
 have bv:=dy.up B
 have bw:=dz.up B
 have bx:=DB dB B aH
 have bz:=BN dC (Es B oO)
 refine WL.e<|Bh 15 rfl (.as rfl) rfl<|Bh 16 rfl (.as rfl) rfl<|C3 kR ?_
 exact ⟨_,⟨rfl,rfl,rfl,rfl,rfl,tT⟩,bz,by rw [A];exact bv,bx,bw,b8,by omega⟩
 refine BV IF rfl (λee e5 a5 b9 C dN=>?_)
 have bA:=Bg a5 i.lt
 have aI:=i.un C bA
 have bB:=Bg a5 u.lt
 have bC:=u.un C bB
 have ap:=λd=>a5▸f.lt d
 have ao:=DB f C ap
 have aM:=Cq a5 g.size
 have aJ:=BN g (Es C aM)
 refine WL.e<|Ay 3 rfl<|Ag (Ad (g22_ _) rfl aI rfl)<|WL.e<|Ay 8 rfl<|WL.c1 AN rfl rfl ((hN _ ao)) (λef D=>?_)
 have bD:=aI.bl D
 have bE:=bC.bl D
 have bG:=b9.bl D
 have bH:=GY ao D (λd=>ao.lt d)
 have bI:=BN aJ (G2 (Jo D) aJ.size)
 refine WL.e<|Bh 9 rfl (.mv rfl) rfl<|Bh 10 rfl (.ext rfl rfl) rfl<|Bh 11 rfl (.ext rfl rfl) rfl<|Bh 12 rfl (.ext rfl rfl) rfl<|Ay 14 rfl<|Az rfl rfl bG Br rfl rfl (λeg ba E dO=>?_)
 have bJ:=bD.up E
 have bK:=bE.up E
 have bM:=DB bH E ap
 have bN:=BN bI (Es E oO)
 refine WL.e<|Bh 15 rfl (.as rfl) rfl<|Bh 16 rfl (.as rfl) rfl<|C3 kR ?_
 exact ⟨_,⟨rfl,rfl,rfl,rfl,rfl,tT⟩,bN,by rw [A];exact bJ,bM,bK,ba,by omega⟩
 refine BV IF rfl (λeh e6 a6 aq F dP=>?_)
 have bO:=Bg a6 i.lt
 have v:=i.un F bO
 have bP:=Bg a6 u.lt
 have aK:=u.un F bP
 have ab:=λd=>a6▸f.lt d
 have x:=DB f F ab
 have aN:=Cq a6 g.size
 have a7:=BN g (Es F aN)
 refine WL.e<|E9 3 rfl 7 rfl ?_ ?_
 refine Ag (Ad (g22_ _) rfl v rfl)<|WL.e<|Ay 7 rfl<|Ag (Ad (Bw _) rfl v rfl)<|WL.e<|Ay 8 rfl<|WL.c1 AN rfl rfl ((hN _ x)) (λei G=>?_)
 have bQ:=v.bl G
 have bR:=aK.bl G
 have bS:=aq.bl G
 have bT:=GY x G (λd=>x.lt d)
 have bU:=BN a7 (G2 (Jo G) a7.size)
 refine WL.e<|Bh 9 rfl (.mv rfl) rfl<|Bh 10 rfl (.ext rfl rfl) rfl<|Bh 11 rfl (.ext rfl rfl) rfl<|Bh 12 rfl (.ext rfl rfl) rfl<|Ay 14 rfl<|Az rfl rfl bS Br rfl rfl (λej bb H dQ=>?_)
 have bV:=bQ.up H
 have bW:=bR.up H
 have bX:=DB bT H ab
 have bY:=BN bU (Es H oO)
 refine WL.e<|Bh 15 rfl (.as rfl) rfl<|Bh 16 rfl (.as rfl) rfl<|C3 kR ?_
 exact ⟨_,⟨rfl,rfl,rfl,rfl,rfl,tT⟩,bY,by rw [A];exact bV,bX,bW,bb,by omega⟩
 refine Ag (Ad (Bw _) rfl v rfl)<|WL.e<|Ay 3 rfl<|Ag (Ad (g22_ _) rfl v rfl)<|WL.e<|Ay 8 rfl<|WL.c1 AN rfl rfl ((hN _ x)) (λek J=>?_)
 have bZ:=v.bl J
 have b':=aK.bl J
 have c0:=aq.bl J
 have c2:=GY x J (λd=>x.lt d)
 have c3:=BN a7 (G2 (Jo J) a7.size)
 refine WL.e<|Bh 9 rfl (.mv rfl) rfl<|Bh 10 rfl (.ext rfl rfl) rfl<|Bh 11 rfl (.ext rfl rfl) rfl<|Bh 12 rfl (.ext rfl rfl) rfl<|Ay 14 rfl<|Az rfl rfl c0 Br rfl rfl (λel bc K dR=>?_)
 have c4:=bZ.up K
 have c5:=b'.up K
 have c6:=DB c2 K ab
 have c7:=BN c3 (Es K oO)
 refine WL.e<|Bh 15 rfl (.as rfl) rfl<|Bh 16 rfl (.as rfl) rfl<|C3 kR ?_
 exact ⟨_,⟨rfl,rfl,rfl,rfl,rfl,tT⟩,c7,by rw [A];exact c4,c6,c5,bc,by omega⟩
 obtain ⟨b3,rfl⟩:∃ b3,b3=t:=⟨t,rfl⟩
 subst A
 obtain ⟨hT,bd,hb2,cJ,be,eN⟩:=hR
 refine Ah<|W.b<|A4<|A2 rfl<|A0 (.eql rfl rfl)<|A2 rfl<|B1 rfl rfl rfl (λy=>?_) (λy=>?_)
 have c8:=dT y
 refine A2 rfl<|As y<|WL.c1 AN rfl rfl ((ZR r p l c t0 refs _ ⟨bd,hb2⟩ hl ht)) (λem L=>?_)
 have c9:=bd.bl L
 have ca:=cJ.bl L
 have aL:=be.bl L
 have cb:=GY hb2 L (λd=>hb2.lt d)
 have P:=BN hT (G2 (Jo L) hT.size)
 refine A0 (.pkT rfl y rfl)<|A9 rfl<|Ac rfl (λdE=>?_) (λdE=>?_)
 refine Ak<|FQ AN rfl ((CV 24 _)) (λen cc=>?_)
 obtain rfl:=cc
 exact Aw (Bn 24 (by rw [hX,A6 ⟨by assumption,by assumption⟩]) P)
 refine A4<|A2 rfl<|A0 (.eql rfl rfl)<|A9 rfl<|Ac rfl (λay=>?_) (λay=>?_)
 have cd:=dT ay
 refine Ak<|FQ AN rfl ((CV 25 _)) (λeo cf=>?_)
 obtain rfl:=cf
 exact Aw (Bn 25 (by rw [hX,A1 (by rintro ⟨h1,h2⟩;simp_all),A6 aS]) P)
 have cd:=dF ay
 refine A4<|A2 rfl<|A0 (.neq rfl rfl)<|A2 rfl<|B1 rfl rfl rfl (λo=>?_) (λo=>?_)
 have cg:=JZ o
 refine A0 (.fa Ec rfl B5 dD rfl)<|As o<|Ag (Ad (Bw _) rfl aL rfl)<|As o<|A0 (.neq rfl rfl)<|A0 (.pkF rfl o rfl)<|A9 rfl<|Ac rfl (λaz=>?_) (λaz=>?_)
 have ci:=JY az
 refine Ak<|FQ AN rfl ((CV 23 _)) (λep cj=>?_)
 obtain rfl:=cj
 exact Aw (Bn 23 (by rw [hX,A1 (by rintro ⟨h1,h2⟩;simp_all),A1 aS,A6 (.inr aS)]) P)
 have ci:=JZ az
 refine W.k<|A4<|A2 rfl<|A0 (.iis (((N.at'.toNat:Nat):Int)) (.mv rfl) oO)<|A0 (.nck rfl)<|A0 (.fa CL rfl B5 dD rfl)<|WL.st B5 rfl rfl rfl c9 oQ (λdG ac j dS=>?_)
 have ac:AF dG r _ _:=ac
 have j:BF r _ _:=j
 have ck:=ca.up j
 have cl:=aL.up j
 have cm:=Av.upd cb j hne
 have cn:=BN P (BM j)
 refine WL.e<|A4<|A0 (.fa Ec rfl Lv dD rfl)<|Ag (Ad (KP _) rfl cl rfl)<|?_
 refine A0 (.buildL (ps:=_) GQ rfl rfl rfl pS) ?_
 refine Az rfl rfl ck B2 rfl rfl (λeq bf ad dU=>?_)
 have co:=ac.up ad
 have cq:=DB cm ad au
 have cr:=BN cn (Es ad oO)
 refine WL.e<|Ai (C4 rfl rfl (Bq bf CB rfl B2)  ?_)
 exact Cg.ok (N.s,N.at'.toNat) (by rw [hX,A1 (by rintro ⟨h1,h2⟩;simp_all),A1 aS,A1 oO]) rfl ⟨⟨co,cq⟩,cr⟩
 have cg:=JY o
 refine Aa o<|Aa o<|A0 (.pkT rfl o rfl)<|A9 rfl<|DR rfl rfl<|Ak<|FQ AN rfl ((CV 23 _)) (λer ct=>?_)
 obtain rfl:=ct
 exact Aw (Bn 23 (by rw [hX,A1 (by rintro ⟨h1,h2⟩;simp_all),A1 aS,A6 (.inl aS)]) P)
 have c8:=dF y
 refine Aa y<|A0 (.pkF rfl y rfl)<|A9 rfl<|DS rfl rfl<|A4<|A2 rfl<|A0 (.eql rfl rfl)<|A9 rfl<|Ac rfl (λaA=>?_) (λaA=>?_)
 have cu:=dT aA
 refine Ak<|FQ AN rfl ((CV 25 _)) (λes cv=>?_)
 obtain rfl:=cv
 exact Aw (Bn 25 (by rw [hX,A1 (by rintro ⟨h1,h2⟩;simp_all),A6 aS]) hT)
 have cu:=dF aA
 refine A4<|A2 rfl<|A0 (.neq rfl rfl)<|A2 rfl<|B1 rfl rfl rfl (λq=>?_) (λq=>?_)
 have cw:=JZ q
 refine A0 (.fa Ec rfl B5 dD rfl)<|As q<|Ag (Ad (Bw _) rfl be rfl)<|As q<|A0 (.neq rfl rfl)<|A0 (.pkF rfl q rfl)<|A9 rfl<|Ac rfl (λaB=>?_) (λaB=>?_)
 have cy:=JY aB
 refine Ak<|FQ AN rfl ((CV 23 _)) (λet cz=>?_)
 obtain rfl:=cz
 exact Aw (Bn 23 (by rw [hX,A1 (by rintro ⟨h1,h2⟩;simp_all),A1 aS,A6 (.inr aS)]) hT)
 have cy:=JZ aB
 refine W.k<|A4<|A2 rfl<|A0 (.iis (((N.at'.toNat:Nat):Int)) (.mv rfl) oO)<|A0 (.nck rfl)<|A0 (.fa CL rfl B5 dD rfl)<|WL.st B5 rfl rfl rfl bd oQ (λdH ae m dV=>?_)
 have ae:AF dH r _ _:=ae
 have m:BF r _ _:=m
 have cA:=cJ.up m
 have cB:=be.up m
 have cC:=Av.upd hb2 m hne
 have cD:=BN hT (BM m)
 refine WL.e<|A4<|A0 (.fa Ec rfl Lv dD rfl)<|Ag (Ad (KP _) rfl cB rfl)<|?_
 refine A0 (.buildL (ps:=_) GQ rfl rfl rfl pS) ?_
 refine Az rfl rfl cA B2 rfl rfl (λeu bg af dW=>?_)
 have cE:=ae.up af
 have cF:=DB cC af au
 have cG:=BN cD (Es af oO)
 refine WL.e<|Ai (C4 rfl rfl (Bq bg CB rfl B2)  ?_)
 exact Cg.ok (N.s,N.at'.toNat) (by rw [hX,A1 (by rintro ⟨h1,h2⟩;simp_all),A1 aS,A1 oO]) rfl ⟨⟨cE,cF⟩,cG⟩
 have cw:=JY q
 refine Aa q<|Aa q<|A0 (.pkT rfl q rfl)<|A9 rfl<|DR rfl rfl<|Ak<|FQ AN rfl ((CV 23 _)) (λev cH=>?_)
 obtain rfl:=cH
 exact Aw (Bn 23 (by rw [hX,A1 (by rintro ⟨h1,h2⟩;simp_all),A1 aS,A6 (.inl aS)]) hT)
def SL (l:l8_) (t:Nat):Except Int UInt8:=match l[AP false l t]? with | none=>.error 24 | some x=>.ok x
theorem ON (r:Nat) (p:Option Addr) (l:l8_) (c t:Nat) (refs:Bool) (w:World) (h:PX w r p l c t refs) (hne:0<l.length->(pA p).block≠r) (hl:l.length<=100000000) (ht:t<=l.length) :
  Calls Tryz.prog 89 #[.pointer (some ⟨r,0,none⟩)] w (Cg 30 (SL l t) (λx=>.int .u8 (x.toNat:Int)) (λ_ w'=>PX w' r p l c (AP false l t) refs/\Bf w.heap.size r w w') (λw'=>Bf w.heap.size r w w')):=by
 have hr:=h.1
 have hb:=h.2
 unfold SL
 obtain ⟨s,hs⟩:∃ s,s=AP false l t:=⟨_,rfl⟩
 have a8:s<=l.length:=by rw [hs];exact Ff _ _ _
 rw [<- hs]
 have hS:∀ B,Av B p l->Calls Tryz.prog 42 #[.slice p l.length c,.int .i64 (t:Int)] B λe w'=>e=.returned (.int .i64 (s:Int))/\B=w':=λB h1=>(OO p l c t B h1 hl).mono λe w' h=>⟨by rw [h.1,Rl l t ht,hs],h.2⟩
 refine W.e func89 rfl ntmps89 bL ?_
 have a1:=Bf.refl (w.heap.size) r w
 refine A4<|A9 rfl<|Ah<|Ma 13 rfl C7 (λB C=>?_)
 have f:=hr.drew C
 have A:=hb.drew C
 have J:=BN a1 (NE C)
 refine Bh 0 rfl (.mv rfl) rfl<|Bh 1 rfl (.mv rfl) rfl<|Bh 2 rfl (.nck rfl) rfl<|Bh 3 rfl (.fa CL rfl G3 dD rfl) rfl<|Bh 5 rfl (.mv rfl) rfl<|Bh 6 rfl (.nck rfl) rfl<|Bh 7 rfl (.fa CL rfl B5 dD rfl) rfl<|E9 4 rfl 8 rfl ?_ ?_
 refine Ag (Ad (g22_ _) rfl f rfl)<|WL.e<|Ay 8 rfl<|Ag (Ad (Bw _) rfl f rfl)<|WL.e<|Ay 9 rfl<|WL.c1 AN rfl rfl ((hS _ A)) (λw5 a2=>?_)
 obtain rfl:=a2
 refine WL.e<|Bh 10 rfl (.nck rfl) rfl<|Bh 11 rfl (.fa CL rfl B5 dD rfl) rfl<|Ay 12 rfl<|WL.st B5 rfl rfl rfl f oQ (λw6 d g a7=>?_)
 have d:AF w6 r _ _:=d
 have g:BF r _ _:=g
 have a3:=Av.upd A g hne
 have a4:=BN J (BM g)
 refine WL.e<|C3 kR<|Ah<|Ah<|E2 C7 kR<|At (.mv rfl) rfl<|At (.nck rfl) rfl<|At (.fa CL rfl B5 dD rfl) rfl<|Di (λm=>Ad (Bw _) rfl d rfl) rfl<|At (.mv rfl) rfl<|At (.nck rfl) rfl<|At (.fa CL rfl G3 dD rfl) rfl<|Di (λm=>Ad (g22_ _) rfl d rfl) rfl<|At (.lenS Bu rfl) rfl<|At (.geq rfl rfl) rfl<|Da (λw9 D=>?_)
 have i:=d.drew D
 have j:=a3.drew D
 have E:=BN a4 (NE D)
 refine Ac rfl (λF=>?_) (λF=>?_)
 have K:=dT F
 refine Ak<|FQ AN rfl ((CV 24 _)) (λa9 L=>?_)
 obtain rfl:=L
 exact Aw (Bn 24 (by rw [AK oO]) E)
 have K:=dF F
 refine W.k<|Ah<|E2 C7 kR<|At (.mv rfl) rfl<|At (.nck rfl) rfl<|At (.fa CL rfl G3 dD rfl) rfl<|Di (λm=>Ad (g22_ _) rfl i rfl) rfl<|At (.mv rfl) rfl<|At (.nck rfl) rfl<|At (.fa CL rfl B5 dD rfl) rfl<|Di (λm=>Ad (Bw _) rfl i rfl) rfl<|At (.ixb Bu I7 rfl rfl (j.isp oD) (s) (rfl) oO) rfl<|Di (λm=>AO (Ou _) rfl ((j.drewN m).cells (s) oO)) rfl<|At (.as rfl) rfl<|Da (λaa o=>?_)
 have M:=i.drew o
 have N:=j.drew o
 have O:=BN E (NE o)
 refine Ai (AZ rfl rfl ?_)
 exact Cg.ok (l[s]'oO) (by rw [A7 oO]) rfl ⟨⟨M,N⟩,O⟩
 refine Ag (Ad (Bw _) rfl f rfl)<|WL.e<|Ay 4 rfl<|Ag (Ad (g22_ _) rfl f rfl)<|WL.e<|Ay 9 rfl<|WL.c1 AN rfl rfl ((hS _ A)) (λab P=>?_)
 obtain rfl:=P
 refine WL.e<|Bh 10 rfl (.nck rfl) rfl<|Bh 11 rfl (.fa CL rfl B5 dD rfl) rfl<|Ay 12 rfl<|WL.st B5 rfl rfl rfl f oQ (λa5 a b a6=>?_)
 have a:AF a5 r _ _:=a
 have b:BF r _ _:=b
 have Q:=Av.upd A b hne
 have T:=BN J (BM b)
 refine WL.e<|C3 kR<|Ah<|Ah<|E2 C7 kR<|At (.mv rfl) rfl<|At (.nck rfl) rfl<|At (.fa CL rfl B5 dD rfl) rfl<|Di (λm=>Ad (Bw _) rfl a rfl) rfl<|At (.mv rfl) rfl<|At (.nck rfl) rfl<|At (.fa CL rfl G3 dD rfl) rfl<|Di (λm=>Ad (g22_ _) rfl a rfl) rfl<|At (.lenS Bu rfl) rfl<|At (.geq rfl rfl) rfl<|Da (λac q=>?_)
 have u:=a.drew q
 have v:=Q.drew q
 have G:=BN T (NE q)
 refine Ac rfl (λH=>?_) (λH=>?_)
 have U:=dT H
 refine Ak<|FQ AN rfl ((CV 24 _)) (λad V=>?_)
 obtain rfl:=V
 exact Aw (Bn 24 (by rw [AK oO]) G)
 have U:=dF H
 refine W.k<|Ah<|E2 C7 kR<|At (.mv rfl) rfl<|At (.nck rfl) rfl<|At (.fa CL rfl G3 dD rfl) rfl<|Di (λm=>Ad (g22_ _) rfl u rfl) rfl<|At (.mv rfl) rfl<|At (.nck rfl) rfl<|At (.fa CL rfl B5 dD rfl) rfl<|Di (λm=>Ad (Bw _) rfl u rfl) rfl<|At (.ixb Bu I7 rfl rfl (v.isp oD) (s) (rfl) oO) rfl<|Di (λm=>AO (Ou _) rfl ((v.drewN m).cells (s) oO)) rfl<|At (.as rfl) rfl<|Da (λae y=>?_)
 have X:=u.drew y
 have Y:=v.drew y
 have a0:=BN G (NE y)
 refine Ai (AZ rfl rfl ?_)
 exact Cg.ok (l[s]'oO) (by rw [A7 oO]) rfl ⟨⟨X,Y⟩,a0⟩
end
section
structure Iv (w:World) (S:Nat->Prop) (cs:List PC) (acc:List PV):Prop where
 len:cs.length=acc.length
 sub:∀ i (h:i<cs.length) (h2:i<acc.length),Dj w S cs[i] acc[i]
theorem Iv.nil (w:World) (S:Nat->Prop):Iv w S [] []:=⟨rfl,λi h=>by simp at h⟩
theorem Iv.same {w w1:World} {S:Nat->Prop} {cs:List PC} {acc:List PV} (h:Iv w S cs acc) (hb:∀ k,S k->k<w.heap.size->w1.heap[k]?=w.heap[k]?):Iv w1 S cs acc:=⟨h.len,λi h1 h2=>(h.sub i h1 h2).same hb⟩
abbrev Ni:=@Iv.same
theorem Iv.mono  {S:Nat->Prop} {cs:List PC} {acc:List PV} (h:Iv w S cs acc) (hST:∀ k,S k->k<w.heap.size->T k):Iv w T cs acc:=⟨h.len,λi h1 h2=>(h.sub i h1 h2).mono hST⟩
theorem Iu  {S:Nat->Prop} {cs:List PC} {acc:List PV} (h:Iv w S cs acc) (hb:∀ k,S k->k<w.heap.size->w1.heap[k]?=w.heap[k]?) (hT:∀ k,S k->k<w.heap.size->T k):Iv w1 T cs acc :=
 ((h.mono (T:=λk=>S k/\k<w.heap.size) (λk hk hl=>⟨hk,hl⟩)).same (λk hk _=>hb k hk.1 hk.2)).mono (λk hk _=>hT k hk.1 hk.2)
theorem Iv.push  {S:Nat->Prop} {cs:List PC} {acc:List PV} {x:PC} {o:PV} (h:Iv w S cs acc) (hx:Dj w S x o):Iv w S (cs++[x]) (acc++[o]) :=
  ⟨by simp [h.len], fun i h1 h2 => by
    have hl:=h.len
    rcases BU i cs.length with h3 | h3
    · rw [Gt h3, Gt oO]
      exact h.sub i h3 oO
    · obtain rfl : i = cs.length := by simp at h1; omega
      rw [Ga (FL _),Ga oO]
      simpa [hl] using hx⟩
theorem RR  {S:Nat->Prop} {k n:Int} {kp lp:Option Addr} {kl kc lc:Nat} {keys:List (l8_)} {cs:List PC} {acc:List PV} (hk:RQ S w (.slice kp kl kc) keys) (hr:Wo S w (.slice lp cs.length lc) cs) (h:Iv w S cs acc) :
  Dj w S ⟨k,n,s,kp,kl,kc,lp,cs.length,lc⟩ (.mk k n s keys acc):=Dj.mk ⟨k,n,s,kp,kl,kc,lp,cs.length,lc⟩ keys acc cs hk hr h.len h.sub
theorem Pu:(Tryz.prog.info? 99).map (λi=>(i.zero,i.size,i.bytes))=some (some (.agg (U3 0 0 []).toArray),6,104):=by kernel_rfl
def A74 (w:World) (r:Nat) (p:Option Addr) (l:l8_) (c:Nat) (refs:Bool) (a:PV × Nat) (v:Value) (w':World):Prop :=
 ∃ x:PC,v=.agg (pcV x).toArray/\Dj w' (λk=>w.heap.size<=k) x a.1/\PX w' r p l c a.2 refs/\Bf w.heap.size r w w'
def A3t (p:Option Addr) (l:l8_) (c:Nat) (refs:Bool) (D:Int):Prop :=
 ∀ (r t:Nat) (w:World),PX w r p l c t refs->(0<l.length->(pA p).block≠r)->t<l.length ->
  Calls Tryz.prog 46 #[.pointer (some ⟨r,0,none⟩),.int .i64 D] w (Hk 30 (FD refs l D.toNat t) (A74 w r p l c refs) (λw'=>Bf w.heap.size r w w'))
theorem Qr {l:l8_} {x:UInt8} (h:SL l t=.ok x):l[AP false l t]?=some x:=by
 unfold SL at h
 split at h
 · cases h
 · next h1=>rw [h1];cases h;rfl
theorem Jq {l:l8_} {k:Int} (h:SL l t=.error k):l[AP false l t]?=none/\k=24:=by
 unfold SL at h
 split at h
 · next h1=>cases h;exact ⟨h1,rfl⟩
 · cases h
theorem GJ (l:l8_) (t:Nat) (ht:t<=l.length):t<=AP false l t:=by
 unfold AP
 have a:=GI (l.drop t) false
 rw [B4] at a
 omega
theorem XC {obj:Nat->MN} {l:l8_} {f:Nat} {acc:List PV} (hf:0<f):HU obj l f acc t=(match l[AP false l t]? with
  | none=>.error 24
  | some c=>if c=93 then .ok (acc,AP false l t+1) else if 65535<=acc.length then .error 25 else match obj (AP false l t) with | .error k=>.error k | .ok (o,t')=>HU obj l (f-1) (acc++[o]) t'):=by
 cases f with
 | zero=>omega
 | succ f=>rfl
theorem ZS (p:Option Addr) (l:l8_) (c:Nat) (refs:Bool) (D:Int) (hO:A3t p l c refs D) (hadv:∀ t o t',t<l.length->FD refs l D.toNat t=.ok (o,t')->t<t'/\t'<=l.length) (r t:Nat) (w:World) (h:PX w r p l c t refs) (hne:0<l.length->(pA p).block≠r) (hl:l.length<=100000000) (ht:t<=l.length) :
  Calls Tryz.prog 61 #[.pointer (some ⟨r,0,none⟩),.int .i64 D] w (Hk 30 (Rf (HU (FD refs l D.toNat) l (l.length+1) [] t)) (A74 w r p l c refs) (λw'=>Bf w.heap.size r w w')):=by
 have hr:=h.1
 have hb:=h.2
 have d9:0<l.length->(pA p).block<w.heap.size:=λY=>hb.lt Y
 obtain ⟨R,hR⟩:∃ R,R=HU (FD refs l D.toNat) l (l.length+1) [] t:=⟨_,rfl⟩
 rw [<- hR]
 obtain ⟨t0,da⟩:∃ t0,t0=t:=⟨t,rfl⟩
 subst da
 refine W.e func61 rfl ntmps61 bL ?_
 have c4:=Bf.refl (w.heap.size) r w
 refine Ah ?_
 have dN:r<w.heap.size:=hr.lt
 refine Ak<|BV Jg rfl (λb1 dO aH aI an dJ=>?_)
 have db:=Bg aH hr.lt
 have aa:=hr.un an db
 have aJ:=λY=>aH▸hb.lt Y
 have c5:=DB hb an aJ
 have bg:=Cq aH c4.size
 have c6:=BN c4 (Es an bg)
 refine WL.e<|?_
 refine A4<|A0 (.buildL (ps:=_) GQ rfl rfl rfl pS) ?_
 refine BV Jg rfl (λB dP ay cb ac dK=>?_)
 have dc:=Bg ay aa.lt
 have dd:=aa.un ac dc
 have cc:=Bg ay aI.lt
 have cd:=aI.un ac cc
 have U:=λY=>ay▸c5.lt Y
 have cf:=DB c5 ac U
 have bh:=Cq ay c6.size
 have cg:=BN c6 (Es ac bh)
 refine Az rfl rfl cb B2 rfl rfl (λdQ bi a1 dC=>?_)
 have ci:=dd.up a1
 have cj:=cd.up a1
 have ck:=DB cf a1 U
 have cm:=BN cg (Es a1 oO)
 refine WL.e<|Ah<|W.b ?_
 have aK:0<l.length->(pA p).block<B+1:=λY=>by have:=d9 Y;omega
 have dR:r<B:=by omega
 refine Cj (α:=Value × List PC × List PV × Nat × Nat) (λt=>[(0,.pointer (some ⟨r,0,none⟩)),(1,.int .i64 D),(4,.pointer (some ⟨b1,0,none⟩)),(5,.pointer (some ⟨B,0,none⟩))]) (λt w'=>PX w' r p l c t.2.2.2.1 refs/\Bf w.heap.size r w w'/\AF w' b1 (U3 0 0 []).toArray 99/\AF w' B #[.int .i64 6,.int .i64 0,.string ⟨#[]⟩,.slice none 0 0,t.1,.slice none 0 0] 99/\AD Nb 99 (B+1) w' t.1 t.2.1/\Iv w' (λk=>B<k/\t.1.ownBlock≠some k) t.2.1 t.2.2.1/\HU (FD refs l D.toNat) l t.2.2.2.2 t.2.2.1 t.2.2.2.1=R/\l.length<t.2.2.2.2+t.2.2.2.1/\t.2.2.2.1<=l.length/\t.2.2.1.length<=65535) (λt=>t.2.2.2.2) ((.slice none 0 0,[],[],t0,l.length+1)) ⟨rfl,rfl,rfl,rfl,tT⟩ (⟨⟨ci,ck⟩,cm,cj,bi,AD.nil _ _ _ _,Iv.nil _ _,hR.symm,by ((try simp only) <;> omega),ht,by simp⟩) (λt w1 hR=>?_)
 obtain ⟨v,cs,acc,t,f⟩:=t
 obtain ⟨aL,hT,c7,aa,ao,ap,hw,de,aM,df⟩:=hR
 simp only at aL aa ao ap hw de aM df ⊢
 have K:=XC (obj:=FD refs l D.toNat) (l:=l) (acc:=acc) (t:=t) (f:=f) oO
 have dL:=GJ l t aM
 have dS:=ap.len
 obtain ⟨pl,cl,rfl,-⟩:=ao.row
 refine Ah<|A4<|A2 rfl<|Bk AN rfl rfl ((ON r p l c t refs _ ⟨aL.1,aL.2⟩ hne hl aM)) (λdg c8 a2 x=>?_) (λdh c8 a2 x=>?_)
 have aN:=BN hT (G2 x hT.size)
 exact Aw (Dq dg (by rw [<- hw,K,(Jq a2).1,(Jq a2).2];rfl) aN)
 have aO:=E6 ao x.2 oO
 have aP:=Ni (w1:=c8) ap (λk hk hl=>x.2.block k hl (by first | omega | (have:=hk.1;omega)))
 have aq:=x.1.1
 have aQ:=I4 c7 x.2 c7.lt oO
 have ar:=I4 aa x.2 aa.lt oO
 have aR:=x.1.2
 have au:=BN hT (G2 x.2 hT.size)
 have aT:=Qr a2
 rw [aT] at K
 obtain ⟨az,di⟩:=BR.1 aT
 obtain ⟨x0,dj⟩:∃ x0,x0=dh:=⟨_,rfl⟩
 rw [<- dj] at K di aT ⊢
 generalize AP false l t=s at *
 refine A0 (.neq rfl rfl)<|WL.e<|Ac rfl (λaU=>?_) (λaU=>?_)
 have cn:=JY aU
 refine W.k<|W.b<|Ah<|A4<|A0 (.fa CB rfl EO dD rfl)<|Ag (Ad (GN _) rfl ar rfl)<|A0 (.lenS EY rfl)<|A0 (.geq rfl rfl)<|WL.e<|Ac rfl (λaV=>?_) (λaV=>?_)
 have co:=dT aV
 refine Ak<|FQ AN rfl ((CV 25 _)) (λdU cq=>?_)
 obtain rfl:=cq
 exact Aw (Dq 25 (by rw [<- hw,K];simp only [];rw [A1 (Dn (d:=93) aS),A6 oO];rfl) au)
 have co:=dF aV
 refine W.k<|Ma 9 rfl C7 (λdk N=>?_)
 have ad:=AD.drew aO N
 have aW:=Ni (w1:=dk) aP (λk hk hl=>(by obtain ⟨m,rfl⟩:=N;rfl))
 have aX:=aq.drew N
 have ae:=aQ.drew N
 have P:=ar.drew N
 have aY:=aR.drew N
 have C:=BN au (NE N)
 refine Bh 0 rfl (.fa CB rfl EO dD rfl) rfl<|Bh 2 rfl (.mv rfl) rfl<|Bh 3 rfl (.mv rfl) rfl<|E9 1 rfl 4 rfl ?_ ?_
 refine Ag (Ad (GN _) rfl P rfl)<|WL.e<|Ay 4 rfl<|WL.cx AN rfl rfl ((hO r s _ ⟨aX,aY⟩ hne az)) (λdl dm af av=>?_) (λdn dV dm af av=>?_)
 have aZ:=BN C (G2 av C.size)
 exact Aw (Dq dl (by rw [<- hw,K];simp only [];rw [A1 (Dn (d:=93) aS),A1 oO,af];rfl) aZ)
 have ab:=af
 obtain ⟨oX,tX⟩:=dn
 obtain ⟨x1,rfl,a',a4,E⟩:=av
 have aA:=hadv s oX tX az ab
 have aB:=E6 ad E oO
 have ag:=Ni aW (λk hk hl=>E.block k hl (by have:=hk.1;omega))
 have Q:=I4 ae E (ae).lt oO
 have F:=I4 P E (P).lt oO
 have a5:=BN C (G2 E C.size)
 have aw:=a'.mono (T:=λk=>B<k/\(Value.slice pl cs.length cl).ownBlock≠some k) (λk hk _=>⟨by have:=(P).lt;omega,λe=>by have:=((ad).lt k e).2;omega⟩)
 have a3:=ag.push aw
 have a6:=a4.1
 have a7:=a4.2
 refine WL.e<|Ay 5 rfl<|Cu (L:=Nb) (ps:=_) ([x1]) EY Il Jg rfl rfl rfl rfl rfl rD rfl rfl (λdp b0 Z bj y dE=>?_)
 have cr:=GU aB Z y
 have ct:=Ni (w1:=b0) a3 (λk hk hl=>y.other k oO)
 have cu:=Bg Z a6.lt
 have cv:=a6.un y cu
 have cw:=Bg Z Q.lt
 have cy:=Q.un y cw
 have cz:=Bg Z F.lt
 have b2:=F.un y cz
 have bk:=λY=>Z▸a7.lt Y
 have cA:=DB a7 y bk
 have b3:=Cq Z a5.size
 have cB:=BN a5 (Es y b3)
 have dq:dp<=b0.heap.size:=by omega
 refine WL.e<|Ay 6 rfl<|CW EY Pu rfl rfl rfl cr rfl (bj).rowp oE ((b2).lt) rfl (λh=>nomatch h) (λdr dW aC V bl bm=>?_)
 have cC:=cv.below V oO
 have cD:=cy.below V oO
 have cE:=b2.below V oO
 have cF:=Iu (T:=λk=>B<k/\(dr).ownBlock≠some k) ct (λk hk hl=>bl.block k hl (λe=>hk.2 e.symm)) (λk hk hl=>⟨hk.1,λe=>by rcases bm k e with h | h;exact hk.2 h;omega⟩)
 have cG:=GY cA V aK
 have cH:=BN cB (Jo (V.mono oO))
 refine WL.e<|Bh 7 rfl (.fa CB rfl EO dD rfl) rfl<|Ay 8 rfl<|WL.st EO rfl rfl (aC).one cE oQ (λc9 ah q dG=>?_)
 have ah:AF c9 B _ _:=ah
 have q:BF B _ _:=q
 have cI:=CO aC q oM
 have cJ:=Ni (w1:=c9) cF (λk hk hl=>q.other k (by first | ((try simp only) <;> omega) | (have:=hk.1;((try simp only) <;> omega))))
 have cK:=cC.up q
 have cL:=cD.up q
 have cM:=DB cG q U
 have cN:=BN cH (Es q oO)
 refine WL.e<|C3 kR ?_
 exact ⟨(_,cs++[x1],acc++[oX],tX,f-1),⟨rfl,rfl,rfl,rfl,tT⟩,⟨⟨cK,cM⟩,cN,cL,ah,cI,cJ,by rw [<- hw,K];simp only [];rw [A1 (Dn (d:=93) aS),A1 oO,ab],by ((try simp only) <;> omega),aA.2,by simp only [A5,A8,Ae];omega⟩,by ((try simp only) <;> omega)⟩
 refine WL.cx AN rfl rfl ((hO r s _ ⟨aX,aY⟩ hne az)) (λds dt ai ax=>?_) (λdu dX dt ai ax=>?_)
 have b4:=BN C (G2 ax C.size)
 exact Aw (Dq ds (by rw [<- hw,K];simp only [];rw [A1 (Dn (d:=93) aS),A1 oO,ai];rfl) b4)
 have ab:=ai
 obtain ⟨oX,tX⟩:=du
 obtain ⟨x1,rfl,a',a4,E⟩:=ax
 have aA:=hadv s oX tX az ab
 have aB:=E6 ad E oO
 have ag:=Ni aW (λk hk hl=>E.block k hl (by have:=hk.1;omega))
 have Q:=I4 ae E (ae).lt oO
 have F:=I4 P E (P).lt oO
 have a5:=BN C (G2 E C.size)
 have aw:=a'.mono (T:=λk=>B<k/\(Value.slice pl cs.length cl).ownBlock≠some k) (λk hk _=>⟨by have:=(P).lt;omega,λe=>by have:=((ad).lt k e).2;omega⟩)
 have a3:=ag.push aw
 have a6:=a4.1
 have a7:=a4.2
 refine WL.e<|E9 1 rfl 5 rfl ?_ ?_
 refine Ag (Ad (GN _) rfl F rfl)<|WL.e<|Ay 5 rfl<|Cu (L:=Nb) (ps:=_) ([x1]) EY Il Jg rfl rfl rfl rfl rfl rD rfl rfl (λdv b5 a0 bn A dH=>?_)
 have cO:=GU aB a0 A
 have cP:=Ni (w1:=b5) a3 (λk hk hl=>A.other k oO)
 have cQ:=Bg a0 a6.lt
 have cR:=a6.un A cQ
 have cS:=Bg a0 Q.lt
 have cT:=Q.un A cS
 have cU:=Bg a0 F.lt
 have b6:=F.un A cU
 have bo:=λY=>a0▸a7.lt Y
 have cV:=DB a7 A bo
 have b8:=Cq a0 a5.size
 have cW:=BN a5 (Es A b8)
 have dw:dv<=b5.heap.size:=by omega
 refine WL.e<|Ay 6 rfl<|CW EY Pu rfl rfl rfl cO rfl (bn).rowp oE ((b6).lt) rfl (λh=>nomatch h) (λdx dY aD X bp bq=>?_)
 have cX:=cR.below X oO
 have cY:=cT.below X oO
 have cZ:=b6.below X oO
 have c':=Iu (T:=λk=>B<k/\(dx).ownBlock≠some k) cP (λk hk hl=>bp.block k hl (λe=>hk.2 e.symm)) (λk hk hl=>⟨hk.1,λe=>by rcases bq k e with h | h;exact hk.2 h;omega⟩)
 have d0:=GY cV X aK
 have d1:=BN cW (Jo (X.mono oO))
 refine WL.e<|Bh 7 rfl (.fa CB rfl EO dD rfl) rfl<|Ay 8 rfl<|WL.st EO rfl rfl (aD).one cZ oQ (λca aj u dI=>?_)
 have aj:AF ca B _ _:=aj
 have u:BF B _ _:=u
 have d2:=CO aD u oM
 have d3:=Ni (w1:=ca) c' (λk hk hl=>u.other k (by first | ((try simp only) <;> omega) | (have:=hk.1;((try simp only) <;> omega))))
 have d4:=cX.up u
 have bt:=cY.up u
 have bu:=DB d0 u U
 have bv:=BN d1 (Es u oO)
 refine WL.e<|C3 kR ?_
 exact ⟨(_,cs++[x1],acc++[oX],tX,f-1),⟨rfl,rfl,rfl,rfl,tT⟩,⟨⟨d4,bu⟩,bv,bt,aj,d2,d3,by rw [<- hw,K];simp only [];rw [A1 (Dn (d:=93) aS),A1 oO,ab],by ((try simp only) <;> omega),aA.2,by simp only [A5,A8,Ae];omega⟩,by ((try simp only) <;> omega)⟩
 refine Cu (L:=Nb) (ps:=_) ([x1]) EY Il Jg rfl rfl rfl rfl rfl rD rfl rfl (λd5 aE J b9 j dy=>?_)
 have bw:=GU aB J j
 have bx:=Ni (w1:=aE) a3 (λk hk hl=>j.other k oO)
 have bz:=Bg J a6.lt
 have bA:=a6.un j bz
 have bB:=Bg J Q.lt
 have bC:=Q.un j bB
 have bD:=Bg J F.lt
 have ak:=F.un j bD
 have ba:=λY=>J▸a7.lt Y
 have bE:=DB a7 j ba
 have aG:=Cq J a5.size
 have bG:=BN a5 (Es j aG)
 have d8:d5<=aE.heap.size:=by omega
 refine WL.e<|Ay 1 rfl<|Ag (Ad (GN _) rfl ak rfl)<|WL.e<|Ay 6 rfl<|CW EY Pu rfl rfl rfl bw rfl (b9).rowp oE ((ak).lt) rfl (λh=>nomatch h) (λd6 dM am G bb bc=>?_)
 have bH:=bA.below G oO
 have bI:=bC.below G oO
 have bJ:=ak.below G oO
 have bK:=Iu (T:=λk=>B<k/\(d6).ownBlock≠some k) bx (λk hk hl=>bb.block k hl (λe=>hk.2 e.symm)) (λk hk hl=>⟨hk.1,λe=>by rcases bc k e with h | h;exact hk.2 h;omega⟩)
 have bM:=GY bE G aK
 have bN:=BN bG (Jo (G.mono oO))
 refine WL.e<|Bh 7 rfl (.fa CB rfl EO dD rfl) rfl<|Ay 8 rfl<|WL.st EO rfl rfl (am).one bJ oQ (λbd a8 a dz=>?_)
 have a8:AF bd B _ _:=a8
 have a:BF B _ _:=a
 have bO:=CO am a oM
 have bP:=Ni (w1:=bd) bK (λk hk hl=>a.other k (by first | ((try simp only) <;> omega) | (have:=hk.1;((try simp only) <;> omega))))
 have bQ:=bH.up a
 have bR:=bI.up a
 have bS:=DB bM a U
 have bT:=BN bN (Es a oO)
 refine WL.e<|C3 kR ?_
 exact ⟨(_,cs++[x1],acc++[oX],tX,f-1),⟨rfl,rfl,rfl,rfl,tT⟩,⟨⟨bQ,bS⟩,bT,bR,a8,bO,bP,by rw [<- hw,K];simp only [];rw [A1 (Dn (d:=93) aS),A1 oO,ab],by ((try simp only) <;> omega),aA.2,by simp only [A5,A8,Ae];omega⟩,by ((try simp only) <;> omega)⟩
 have cn:=JZ aU
 refine C0<|A4<|A2 rfl<|A0 (.nck rfl)<|A0 (.fa CL rfl B5 dD rfl)<|Ag (Ad (Bw _) rfl aq rfl)<|A0 (.iis (((s+1:Nat):Int)) (.add rfl rfl (Bp oO)) oO)<|A0 (.nck rfl)<|A0 (.fa CL rfl B5 dD rfl)<|WL.st B5 rfl rfl rfl aq oQ (λbe a9 i dA=>?_)
 have a9:AF be r _ _:=a9
 have i:BF r _ _:=i
 have bU:=CO aO i oM
 have bV:=Ni (w1:=be) aP (λk hk hl=>i.other k (by first | ((try simp only) <;> omega) | (have:=hk.1;((try simp only) <;> omega))))
 have bW:=aQ.up i
 have bX:=ar.up i
 have bY:=Av.upd aR i hne
 have bZ:=BN au (BM i)
 refine WL.e<|A4<|Ag (BA rfl bX CB rfl B2)<|Az rfl rfl bW B2 rfl rfl (λd7 bf H dB=>?_)
 have aF:=CO bU H oM
 have b':=Ni (w1:=d7) bV (λk hk hl=>H.other k (by first | ((try simp only) <;> omega) | (have:=hk.1;((try simp only) <;> omega))))
 have c0:=a9.up H
 have c2:=DB bY H aJ
 have c3:=BN bZ (Es H oO)
 refine WL.e<|Ai (C4 rfl rfl (Bq bf CB rfl B2)  ?_)
 exact GD (.mk 6 0 [] [] acc,s+1) _ (by rw [<- hw,K];simp only [];rw [A6 (Cr (d:=93) aS)];rfl) rfl ⟨⟨6,0,[],none,0,0,pl,cs.length,cl⟩,rfl,RR ⟨AD.nil _ _ _ _,λg h=>by cases h⟩ ⟨(aF).base (λg hg=>Gg _),λg hg=>by have:=(aF).lt g hg;omega⟩ ((b').mono (λk hk _=>by have:=hk.1;omega)),⟨c0,c2⟩,c3⟩
end
end Go.Proofs.YthmhfjeojkbpfaaGreatDoor
