/-
  What the claim leans on, part 4: pruned and joined by my own tool out of the texts that stand in wip/ as templates.
-/
import Derived.Test.YtiddobdioipidaaGreatDoorTr3
set_option maxHeartbeats 6400000
set_option maxRecDepth 100000
namespace Go.Proofs.YtiddobdioipidaaGreatDoor
open Go.RowKit
open Go.Proofs.Tryz
variable {pa pb:Addr} {aft:Array Edge} {ops:Array Oper} {ats:Array TypeId} {args cs:Array Value} {st:Bool} {Q:Exit->Fr->World->Prop} {f:Fr} {F:FuncId} {D a:Int} {ks:List (List UInt8)} {ns:List Int} {A d l s:List UInt8} {vs xs:List Value} {B M N c i id j wk:Nat} {S T:Nat->Prop} {x y:Operand} {dp p:Option Addr} {P:Program} {pos:String} {α ι:Type} {E e ta tb tx ty:TypeId} {u v z:Value} {w w1:World} {S':World->Prop}
section
theorem Xr (p:Option Addr) (l:l8_) (n c:Nat) (q:Option Addr) (s:l8_) (m d:Nat) (w:World) (hn:l.length=n) (hm:s.length=m) (ha:Af w p l) (hb:Af w q s) :
  Calls Tryz.prog 46 #[.slice p n c,.slice q m d] w λe w'=>e=.returned (.bool (decide (l=s)))/\w=w':=by
 subst hn hm
 refine AF func46 rfl ntmps46<|A4<|A8 rfl<|A4<|A3 rfl<|Aj (Fa (l:=l) B1 Ga FV rfl (ha))<|A3 rfl<|Aj (Fa (l:=s) B1 Ga FV rfl (hb))<|A1 (.eqs rfl rfl)<|A8 rfl<|AY ?_
 exact ⟨rfl,rfl⟩
theorem Lg (p:Option Addr) (l:l8_) (n c:Nat) (q:Option Addr) (s:l8_) (m d:Nat) (w:World) (hn:l.length=n) (hm:s.length=m) (ha:Af w p l) (hb:Af w q s) (hle:s.length<=l.length) (hc:l.length<=c) :
  Calls Tryz.prog 26 #[.slice p n c,.slice q m d] w λe w'=>e=.returned (.bool (decide (l.take s.length=s)))/\w=w':=by
 subst hn hm
 have hp:Af w (DO p c 0) (l.take s.length):=by
  have:=Af.part (a:=0) (b:=s.length) ha oO hle hc
  simpa using this
 refine AF func26 rfl ntmps26<|A4<|A8 rfl<|A4<|A3 rfl<|A1 (.lenS B1 rfl)<|A3 rfl<|A1 (.lenS B1 rfl)<|A1 (.bis (true) (.geq rfl rfl) (by simp;omega))<|A3 rfl<|AE rfl<|A3 rfl<|AE rfl<|A3 rfl<|AE rfl<|A1 (.lenS B1 rfl)<|AE rfl<|A1 (.slbT B1 EC rfl rfl  (s.length) (rfl) oO)<|AE rfl<|A3 rfl<|AE rfl<|Cs BQ rfl rfl ((Xr _ (l.take s.length) _ _ _ s _ _ _ (by rw [Ap];omega) rfl hp hb)) (λg f=>?_)
 obtain rfl:=f
 refine A1 (.pkT rfl rfl rfl)<|A8 rfl<|AY ?_
 exact ⟨rfl,rfl⟩
theorem Ii (t:Bool) (p:Option Addr) (l:l8_) (n c:Nat) (q:Option Addr) (s:l8_) (m d:Nat) (w:World) (hn:l.length=n) (hm:s.length=m) (ha:Af w p l) (hb:Af w q s) (hle:s.length<=l.length) (hc:l.length<=c) (ht:decide (l.take s.length=s)=t) :
  Calls Tryz.prog 26 #[.slice p n c,.slice q m d] w λe w'=>e=.returned (.bool t)/\w=w' :=
 (Lg p l n c q s m d w hn hm ha hb hle hc).mono λe w' h=>⟨h.1.trans (rbE ht),h.2⟩
theorem CF.baseB  {C:Nat} {l:List Value} (h:CF e B w v l) (hC:C<=B):CF e C w v l:=by
 obtain ⟨hl,h⟩:=h
 exact ⟨hl,h.imp id λ⟨g,cap,cur,a,b,c⟩=>⟨g,cap,cur,a,CT hC b,c⟩⟩
theorem Pz (p:Option Addr) (l:l8_) (c:Nat) (w:World) (h:Af w p l) (hc:l=[]->c=0\/p≠none) (hl:l.length<=100000000) :
  Calls Tryz.prog 28 #[.slice p l.length c] w λe w'=>∃ v,e=.returned v/\AL w w'/\CF 5 w.heap.size w' v (AN l):=by
 refine AF func28 rfl ntmps28 ?_
 have f:=Dh w
 refine A4<|A8 rfl<|Ad<|A4<|A3 rfl<|A1 (.eqSN B1 rfl)<|A0<|Ai rfl (λC=>?_) (λC=>?_)
 have hp:p=none:=by cases p with | none=>rfl | some a=>exact Dp (show (some a).isNone=true by assumption) (by simp)
 have t:l=[]:=by
  cases l with
  | nil=>rfl
  | cons x r=>have:=h.isp (by simp);rw [hp] at this;cases this
 subst t
 refine A4<|A8 rfl<|AY ?_
 first
 | exact ⟨_,rfl,f,CF.nil _ _ _⟩
 | exact ⟨_,rfl,f,by simpa using CF.baseB (OWN) b⟩
 refine As<|A4<|ID B1 EC rfl (λu y g d i D=>?_)
 have m:=λo=>g▸h.lt o
 have A:=Af.upd h i (λo=>CV (m o))
 have B:=uB f g i
 have b:=CW g f.size
 have d:=d u (DS _)
 have j:u<=y.heap.size:=by omega
 refine A3 rfl<|Sb B1 Id rfl rfl rfl d rfl A (by simp only [Am];omega) (j) rfl (hc) (λF G q s E=>?_)
 have k:=Ex B (s.mono (b))
 refine A8 rfl<|AY ?_
 first
 | exact ⟨_,rfl,k,CF.nil _ _ _⟩
 | exact ⟨_,rfl,k,by simpa using CF.baseB (q) b⟩
theorem Xs (p:Option Addr) (l:l8_) (n c:Nat) (w:World) (hn:l.length=n) (h:Af w p l) (hc:l=[]->c=0\/p≠none) (hl:l.length<=100000000) :
  Calls Tryz.prog 28 #[.slice p n c] w λe w'=>∃ v,e=.returned v/\AL w w'/\CF 5 w.heap.size w' v (AN l):=by
 subst hn;exact Pz p l c w h hc hl
def Es (S:Nat->Prop) (w:World) (v:Value) (l:l8_):Prop:=CF 5 0 w v (AN l)/\∀ g,v.ownBlock=some g->S g
theorem CF.ltB  (h:CF e B w v xs):∀ g,v.ownBlock=some g->B<=g/\g<w.heap.size:=λg hg=>by
 obtain ⟨hl,h⟩:=h
 rcases h with ⟨rfl,-⟩ | ⟨g',cap,cur,rfl,hB,hg',-⟩
 · cases hg
 · cases hg;exact ⟨hB,(B5.1 hg').1⟩
theorem Es.same  (h:Es S w v l) (hb:∀ k,S k->k<w.heap.size->w1.heap[k]?=w.heap[k]?):Es S w1 v l:=by
 obtain ⟨⟨hl,h⟩,hS⟩:=h
 refine ⟨⟨hl,h.imp id λ⟨g,cap,cur,a,c,b,d⟩=>⟨g,cap,cur,a,c,?_,d⟩⟩,hS⟩
 subst a
 exact (hb g (hS g rfl) (B5.1 b).1).trans b
theorem Es.mono  (h:Es S w v l) (hT:∀ k,S k->k<w.heap.size->T k):Es T w v l:=⟨h.1,λg hg=>hT g (h.2 g hg) (h.1.ltB g hg).2⟩
theorem Es.nil (S:Nat->Prop) (w:World):Es S w (.slice none 0 0) []:=⟨CF.nil _ _ _,λg h=>by cases h⟩
theorem LK (p:Option Addr) (l:l8_) (n c:Nat) (w:World) (hn:l.length=n) (h:Af w p l) (hc:l=[]->c=0\/p≠none) (hl:l.length<=100000000) :
  Calls Tryz.prog 28 #[.slice p n c] w λe w'=>∃ x:Option Addr × Nat,e=.returned (.slice x.1 l.length x.2)/\AL w w'/\Af w' x.1 l/\(0<l.length->w.heap.size<=(pA x.1).block)/\l.length<=x.2/\x.2<=9223372036854775807/\Es (λk=>w.heap.size<=k) w' (.slice x.1 l.length x.2) l:=by
 subst hn
 refine (Pz p l c w h hc hl).mono λe w' ⟨v,i,j,b⟩=>?_
 obtain ⟨q,d,rfl,m,o,s,-⟩:=b.bytesC
 refine ⟨(q,d),i,j,m,o,s,?_,CF.baseB b (FN _),λg hg=>(b.ltB g hg).1⟩
 obtain ⟨hl,t⟩:=b
 rcases t with ⟨a,-⟩ | ⟨g,cap,cur,a,-,-,u,f,-⟩
 · simp only [Value.slice.injEq] at a;obtain ⟨-,-,rfl⟩:=a;exact FN _
 · simp only [Value.slice.injEq] at a;obtain ⟨-,-,rfl⟩:=a;unfold maxLen at f;show d<=_;omega
theorem OA (r:Int):IntKind.u32.wrap r=r % 4294967296:=by rw [IntKind.wrap_u32']
theorem R1 (l:l8_) (k:Nat) (h1:1<=k) (hk:k<=l.length):(Lib.RK.H (l.drop k).reverse % 4294967296 * 16777619 % 4294967296+((l[k-1]'oO).toNat:Int)) % 4294967296=Lib.RK.H (l.drop (k-1)).reverse % 4294967296:=by
 have e:=Aw (show k-1<l.length by omega)
 rw [show k-1+1=k by omega] at e
 rw [e,List.reverse_cons,Lib.RK.H_snoc]
 omega
theorem Ww (l:l8_) (n j:Nat) (hn:1<=n) (hj:1<=j) (h:j+n<=l.length):((Lib.RK.H ((l.drop j).take n).reverse % 4294967296 * 16777619 % 4294967296+((l[j-1]'oO).toNat:Int)) % 4294967296-16777619 ^ n % 4294967296 * ((l[j-1+n]'oO).toNat:Int) % 4294967296) % 4294967296=Lib.RK.H ((l.drop (j-1)).take n).reverse % 4294967296:=by
  obtain ⟨m,rfl⟩:∃ m,n=m+1:=⟨n-1,oO⟩
  obtain ⟨i,rfl⟩:∃ i,j=i+1:=⟨j-1,oO⟩
  have d:=Lib.RK.win_snoc l (i+1) m oO
  have c:=Lib.RK.win_cons l i m oO
  unfold Lib.RK.win at d c
  have hx:l[i+1+m]'oO=l[i+1-1+(m+1)]'oO:=by congr 1;omega
  have hy:l[i]'oO=l[i+1-1]'oO:=by congr 1
  rw [hx] at d;rw [hy] at c
  have e:=Lib.RK.roll_mod (h:=Lib.RK.H ((l.drop (i+1)).take (m+1)).reverse % 4294967296) (pw:=16777619 ^ (m+1) % 4294967296) (l[i+1-1+(m+1)]'oO) (l[i+1-1]'oO) ((l.drop (i+1)).take m).reverse
    (by rw [d,List.reverse_append,List.reverse_singleton,List.singleton_append]) (by rw [List.length_reverse,Ap,Aq,Nat.min_eq_left oO])
  simp only [G8] at e c ⊢
  rw [c,List.reverse_cons]
  have hc:((l[i+(m+1)]'oO).toNat:Int) % 4294967296=((l[i+(m+1)]'oO).toNat:Int):=by have:=(l[i+(m+1)]'oO).toNat_lt;omega
  rw [hc] at e
  rw [<- e]
  generalize Lib.RK.H ((l.drop (i+1)).take (m+1)).reverse % 4294967296=a
  generalize (16777619:Int) ^ (m+1) % 4294967296 * ((l[i+(m+1)]'oO).toNat:Int)=b
  omega
theorem Bz.shrK  {k ky:IntKind} {b:Int} (hx:CE f x=some (.int k a)) (hy:CE f y=some (.int ky b)) (h0:0<=b) (h1:b<=k.bits) (r:Int) (hr:a / 2 ^ b.toNat=r):Bz P (.binOp .shr tx x y ty) f (.int k r):=λρ hρ d ty' pos aft g w=>by
 have e:=shift_shr k ky a b h0 h1
 rw [hr] at e
 simp [execOp,hρ _ _ hx,hρ _ _ hy,eqGuard,binOp_shr,e]
theorem TB (p:Option Addr) (s:l8_) (c:Nat) (w:World) (hb:Af w p s) (hl:s.length<=100000000) :
  Calls Tryz.prog 69 #[.slice p s.length c] w λe w'=>e=.returned (.tuple #[.int .u32 (Lib.RK.H s.reverse % 4294967296),.int .u32 (16777619 ^ s.length % 4294967296)])/\w=w':=by
 refine AF func69 rfl ntmps69<|A4<|CL rfl<|A8 rfl<|A4<|A8 rfl<|Ad<|A4<|A3 rfl<|A1 (.lenS B1 rfl)<|A1 (.sub rfl rfl (Bb oO))<|A8 rfl<|AT<|BO (α:=Nat) (λt=>[(0,.slice p s.length c),(4,.int .u32 (Lib.RK.H (s.drop t).reverse % 4294967296)),(5,Ag ((t:Int)-1))]) (λt w'=>w=w'/\t<=s.length) (λt=>t) (s.length) ⟨rfl,N8 rfl (by simp [Lib.RK.H]),rfl,tT⟩ (⟨rfl,DS _⟩) (λt o hR=>?_)
 obtain ⟨k,rfl⟩:=eX t
 obtain ⟨rfl,hk⟩:=hR
 refine Ad<|A4<|A3 rfl<|A1 (.geq rfl rfl)<|A0<|Ai rfl (λb=>?_) (λb=>?_)
 have g:=dT b
 refine As<|Ad<|AT ?_
 have hb8:=(s[k-1]'oO).toNat_lt
 refine An<|A3 rfl<|A1 (.mul rfl rfl (OA _))<|A3 rfl<|A3 rfl<|A1 (.ixb B1 EC rfl rfl (hb.isp oO) (k-1) oO oO)<|Aj (BG (IU _) rfl (hb.cells (k-1) oO))<|A1 (.cvt Ga underlying125 rfl (A0r oO))<|A1 (.iis (Lib.RK.H (s.drop (k-1)).reverse % 4294967296) (.add rfl rfl (OA _)) (by exact R1 s k oO hk))<|A8 rfl<|An<|A3 rfl<|A1 (.iis (((k-1:Nat):Int)-1) (.sub rfl rfl (Bb oO)) oO)<|A8 rfl ?_
 exact ⟨k-1,⟨rfl,rfl,rfl,tT⟩,⟨rfl,oM⟩,oM⟩
 have g:=dF b
 refine BL<|Ad ?_
 obtain rfl:k=0:=by omega
 rw [Lh]
 refine An<|CL rfl<|A8 rfl<|Ad<|A4<|A3 rfl<|A1 (.lenS B1 rfl)<|A8 rfl<|AT<|BO (α:=Nat × Int × Int) (λt=>[(4,.int .u32 (Lib.RK.H s.reverse % 4294967296)),(6,.int .u32 t.2.1),(7,.int .u32 t.2.2),(8,Ag (t.1:Int))]) (λt w'=>w=w'/\t.1<=s.length/\0<=t.2.1/\t.2.1<4294967296/\Lib.RK.PowInv s.length t.1 t.2.1 t.2.2) (λt=>t.1) ((s.length,1,16777619)) ⟨rfl,rfl,rfl,rfl,tT⟩ (⟨rfl,DS _,(show (0:Int)<=1 by decide),(show (1:Int)<4294967296 by decide),Lib.RK.pow_start _⟩) (λt o hR=>?_)
 obtain ⟨⟨i,pw,sq⟩,rfl⟩:=eX t
 obtain ⟨rfl,hi,h,j,a⟩:=hR
 simp only at hi h j a
 refine Ad<|A4<|A3 rfl<|A1 (.gtr rfl rfl)<|A0<|Ai rfl (λd=>?_) (λd=>?_)
 have l:=dT d
 refine As<|Ad<|AT<|Ad<|A4<|A3 rfl<|A1 (.and rfl rfl (and_one i oO))<|A1 (.neq rfl rfl)<|A0<|Ai rfl (λf=>?_) (λf=>?_)
 have m:=ndT f
 refine An<|A3 rfl<|A3 rfl<|A1 (.mul rfl rfl (OA _))<|A8 rfl<|An<|A3 rfl<|A3 rfl<|A1 (.mul rfl rfl (OA _))<|A8 rfl<|An<|A3 rfl<|A1 (.shrK rfl rfl dD dD ((i / 2:Nat):Int) (by show (i:Int) / 2=_;omega))<|A8 rfl ?_
 first
 | exact ⟨(i / 2,pw * sq % 4294967296,sq * sq % 4294967296),⟨rfl,rfl,rfl,rfl,tT⟩,⟨rfl,oM,oM,oM,Lib.RK.pow_odd a oO⟩,oM⟩
 | exact ⟨(i / 2,pw,sq * sq % 4294967296),⟨rfl,rfl,rfl,rfl,tT⟩,⟨rfl,oM,oM,oM,Lib.RK.pow_even a oO⟩,oM⟩
 have m:=ndF f
 refine As<|An<|A3 rfl<|A3 rfl<|A1 (.mul rfl rfl (OA _))<|A8 rfl<|An<|A3 rfl<|A1 (.shrK rfl rfl dD dD ((i / 2:Nat):Int) (by show (i:Int) / 2=_;omega))<|A8 rfl ?_
 first
 | exact ⟨(i / 2,pw * sq % 4294967296,sq * sq % 4294967296),⟨rfl,rfl,rfl,rfl,tT⟩,⟨rfl,oM,oM,oM,Lib.RK.pow_odd a oO⟩,oM⟩
 | exact ⟨(i / 2,pw,sq * sq % 4294967296),⟨rfl,rfl,rfl,rfl,tT⟩,⟨rfl,oM,oM,oM,Lib.RK.pow_even a oO⟩,oM⟩
 have l:=dF d
 refine BL<|Ad ?_
 obtain rfl:i=0:=by omega
 have epw:=Lib.RK.pow_end a h j
 refine An<|A3 rfl<|A3 rfl<|CL rfl<|A8 rfl<|AU (Du rfl rfl rfl ?_)
 exact ⟨EO (by rw [epw]),rfl⟩
theorem A2h  (hwin:(l.drop i).take s.length=s) (hno:∀ j,i<j->j+s.length<=l.length->(l.drop j).take s.length≠s) (hj:i<j) (hjl:j+s.length<=l.length) :
    decide ((l.drop (j-1)).take (j-1+s.length-(j-1))=s)=decide (j-1=i):=by
  rw [Nat.add_sub_cancel_left]
  by_cases h:j-1=i
  · rw [h,hwin];simp
  · have := hno (j - 1) oO oO
    simp [h,this]
theorem A0C  (hwin:(l.drop i).take s.length=s) (h:¬ Lib.RK.H ((l.drop (j-1)).take s.length).reverse % 4294967296=Lib.RK.H s.reverse % 4294967296):false=decide (j-1=i):=by
 symm
 rw [Bg]
 intro a
 exact h (by rw [a,hwin])
theorem Vd (p:Option Addr) (l:l8_) (c:Nat) (q:Option Addr) (s:l8_) (d i:Nat) (w:World) (ha:Af w p l) (hb:Af w q s) (hc:l.length<=c) (hl:l.length<=100000000) (h1:1<=s.length) (hi:i+s.length<l.length)
  (hwin:(l.drop i).take s.length=s) (hno:∀ j,i<j->j+s.length<=l.length->(l.drop j).take s.length≠s) :
  Calls Tryz.prog 48 #[.slice p l.length c,.slice q s.length d] w λe w'=>e=.returned (Ag (i:Int))/\Cn w w':=by
 obtain ⟨last,N⟩:∃ last:Nat,last+s.length=l.length:=⟨l.length-s.length,oO⟩
 refine AF func48 rfl ntmps48<|A4<|A8 rfl<|A4<|A3 rfl<|Au (TB q s d _ hb oO) (λB C=>?_)
 obtain rfl:=C
 refine A3 rfl<|A1 (.ext rfl rfl)<|A1 (.ext rfl rfl)<|CL rfl<|A8 rfl<|A4<|A3 rfl<|A1 (.lenS B1 rfl)<|A8 rfl<|A4<|A3 rfl<|A1 (.lenS B1 rfl)<|A3 rfl<|A1 (.iis ((last:Int)) (.sub rfl rfl (Bb oO)) oO)<|A8 rfl<|A4<|A8 rfl<|Ad<|A4<|A3 rfl<|A1 (.lenS B1 rfl)<|A1 (.sub rfl rfl (Bb oO))<|A8 rfl<|AT<|BO (α:=Nat) (λt=>[(0,.slice p l.length c),(1,.slice q s.length d),(5,.int .u32 (Lib.RK.H s.reverse % 4294967296)),(6,.int .u32 (16777619 ^ s.length % 4294967296)),(7,Ag (s.length:Int)),(8,Ag (last:Int)),(9,.int .u32 (Lib.RK.H (l.drop t).reverse % 4294967296)),(10,Ag ((t:Int)-1))]) (λt w'=>w=w'/\t<=l.length/\last<=t) (λt=>t) (l.length) ⟨rfl,rfl,rfl,rfl,rfl,rfl,N8 rfl (by simp [Lib.RK.H]),rfl,tT⟩ (⟨rfl,DS _,oO⟩) (λt B hR=>?_)
 obtain ⟨k,rfl⟩:=eX t
 obtain ⟨rfl,hk,P⟩:=hR
 refine Ad<|A4<|A3 rfl<|A3 rfl<|A1 (.geq rfl rfl)<|A0<|Ai rfl (λo=>?_) (λo=>?_)
 have D:=dT o
 refine As<|Ad<|AT ?_
 have hb8:=(l[k-1]'oO).toNat_lt
 refine An<|A3 rfl<|A1 (.mul rfl rfl (OA _))<|A3 rfl<|A3 rfl<|A1 (.ixb B1 EC rfl rfl (ha.isp oO) (k-1) oO oO)<|Aj (BG (IU _) rfl (ha.cells (k-1) oO))<|A1 (.cvt Ga underlying125 rfl (A0r oO))<|A1 (.iis (Lib.RK.H (l.drop (k-1)).reverse % 4294967296) (.add rfl rfl (OA _)) (by exact R1 l k oO hk))<|A8 rfl<|An<|A3 rfl<|A1 (.iis (((k-1:Nat):Int)-1) (.sub rfl rfl (Bb oO)) oO)<|A8 rfl ?_
 exact ⟨k-1,⟨rfl,rfl,rfl,rfl,rfl,rfl,rfl,rfl,tT⟩,⟨rfl,oM,oM⟩,oM⟩
 have D:=dF o
 refine BL<|Ad ?_
 obtain rfl:k=last:=by omega
 have E:=hno k oO oO
 have F:(l.drop k).take s.length=l.drop k:=Al (by rw [Aq];omega)
 refine IE 50 (false) ?_ (λX G=>?_)
 refine DE BS kR<|WQ.p (.mv rfl) rfl<|WQ.p (.mv rfl) rfl<|WQ.p (.eql rfl rfl) rfl<|WQ.p (.mv rfl) rfl<|JJ rfl rfl rfl (λb=>?_) (λb=>?_)
 have J:=dT b
 refine WQ.p (.mv rfl) rfl<|BP rfl rfl rfl b<|WQ.p (.mv rfl) rfl<|BP rfl rfl rfl b<|WQ.p (.slbF B1 EC rfl rfl  (k) (rfl) oO) rfl<|BP rfl rfl rfl b<|D2 (λm=>Il B1 Ga FV rfl rfl (ha.drewN m) oO oO oO) rfl<|BP rfl rfl rfl b<|WQ.p (.mv rfl) rfl<|BP rfl rfl rfl b<|D2 (λm=>Fa (l:=s) B1 Ga FV rfl ((hb).drewN m)) rfl<|BP rfl rfl rfl b<|WQ.p (.eqs rfl rfl) rfl<|WQ.p (.pkT rfl b rfl) rfl<|CO (λY K=>?_)
 exact ⟨GC (DI rfl (by (rw [Bg];intro hq;exact E (by rw [show s.length=l.length-k by omega];simpa using hq)))),K⟩
 have J:=dF b
 refine Bc rfl rfl rfl b<|Bc rfl rfl rfl b<|Bc rfl rfl rfl b<|Bc rfl rfl rfl b<|Bc rfl rfl rfl b<|Bc rfl rfl rfl b<|WQ.p (.pkF rfl b rfl) rfl<|CO (λw8 L=>?_)
 exact ⟨GC (DI rfl (by rfl)),L⟩
 refine Ay rfl rfl<|As<|Ad<|A4<|A3 rfl<|A1 (.sub rfl rfl (Bb oO))<|A8 rfl<|AT<|BO (α:=Nat) (λt=>[(0,.slice p l.length c),(1,.slice q s.length d),(5,.int .u32 (Lib.RK.H s.reverse % 4294967296)),(6,.int .u32 (16777619 ^ s.length % 4294967296)),(7,Ag (s.length:Int)),(9,.int .u32 (Lib.RK.H ((l.drop t).take s.length).reverse % 4294967296)),(11,Ag ((t:Int)-1))]) (λt w'=>Cn w w'/\i<t/\t<=k) (λt=>t) (k) ⟨rfl,rfl,rfl,rfl,rfl,N8 rfl (by rw [F]),rfl,tT⟩ (⟨G,oO,DS _⟩) (λt B hR=>?_)
 obtain ⟨j,rfl⟩:=eX t
 obtain ⟨hD,hj,Q⟩:=hR
 have f:=ha.drew hD
 have hb1:=hb.drew hD
 refine Ad<|A4<|A3 rfl<|A1 (.bis (true) (.geq rfl rfl) (by simp;omega))<|A0<|BZ rfl rfl<|As<|Ad<|AT<|Ad ?_
 have hb8:=(l[j-1]'oO).toNat_lt
 have hb9:=(l[j-1+s.length]'oO).toNat_lt
 refine An<|A3 rfl<|A1 (.mul rfl rfl (OA _))<|A8 rfl<|A4<|A3 rfl<|A3 rfl<|A3 rfl<|A1 (.ixb B1 EC rfl rfl (f.isp oO) (j-1) oO oO)<|Aj (BG (IU _) rfl (f.cells (j-1) oO))<|A1 (.cvt Ga underlying125 rfl (A0r oO))<|A1 (.add rfl rfl (OA _))<|A8 rfl<|A4<|A3 rfl<|A3 rfl<|A3 rfl<|A3 rfl<|A3 rfl<|A1 (.add rfl rfl (Bb oO))<|A1 (.ixb B1 EC rfl rfl (f.isp oO) (j-1+s.length) oO oO)<|Aj (BG (IU _) rfl (f.cells (j-1+s.length) oO))<|A1 (.cvt Ga underlying125 rfl (A0r oO))<|A1 (.mul rfl rfl (OA _))<|A1 (.iis (Lib.RK.H ((l.drop (j-1)).take s.length).reverse % 4294967296) (.sub rfl rfl (OA _)) (by exact Ww l s.length j h1 oO oO))<|A8 rfl<|IE 92 (decide (j-1=i)) ?_ (λT g=>?_)
 refine DE BS kR<|WQ.p (.mv rfl) rfl<|WQ.p (.mv rfl) rfl<|WQ.p (.eql rfl rfl) rfl<|WQ.p (.mv rfl) rfl<|JJ rfl rfl rfl (λa=>?_) (λa=>?_)
 have u:=dT a
 refine WQ.p (.mv rfl) rfl<|BP rfl rfl rfl a<|WQ.p (.mv rfl) rfl<|BP rfl rfl rfl a<|WQ.p (.mv rfl) rfl<|BP rfl rfl rfl a<|WQ.p (.mv rfl) rfl<|BP rfl rfl rfl a<|WQ.p (.add rfl rfl (Bb oO)) rfl<|BP rfl rfl rfl a<|WQ.p (.slb B1 EC rfl rfl rfl  (j-1) (j-1+s.length) oO oO oO oO) rfl<|BP rfl rfl rfl a<|D2 (λm=>Il B1 Ga FV rfl rfl (f.drewN m) oO oO oO) rfl<|BP rfl rfl rfl a<|WQ.p (.mv rfl) rfl<|BP rfl rfl rfl a<|D2 (λm=>Fa (l:=s) B1 Ga FV rfl ((hb1).drewN m)) rfl<|BP rfl rfl rfl a<|WQ.p (.eqs rfl rfl) rfl<|WQ.p (.pkT rfl a rfl) rfl<|CO (λU v=>?_)
 exact ⟨GC (DI rfl (by exact A2h hwin hno hj oO)),v⟩
 have u:=dF a
 refine Bc rfl rfl rfl a<|Bc rfl rfl rfl a<|Bc rfl rfl rfl a<|Bc rfl rfl rfl a<|Bc rfl rfl rfl a<|Bc rfl rfl rfl a<|Bc rfl rfl rfl a<|Bc rfl rfl rfl a<|Bc rfl rfl rfl a<|WQ.p (.pkF rfl a rfl) rfl<|CO (λV x=>?_)
 exact ⟨GC (DI rfl (by exact A0C hwin aS)),x⟩
 refine Ai rfl (λh=>?_) (λh=>?_)
 have y:=dT h
 refine A4<|A3 rfl<|A8 rfl<|AY ?_
 exact ⟨EO (by congr 1;omega),hD.trans g⟩
 have y:=dF h
 refine As<|An<|A3 rfl<|A1 (.iis (((j-1:Nat):Int)-1) (.sub rfl rfl (Bb oO)) oO)<|A8 rfl ?_
 exact ⟨j-1,⟨rfl,rfl,rfl,rfl,rfl,rfl,rfl,tT⟩,⟨hD.trans g,oM,oM⟩,oM⟩
theorem Qp (p:Option Addr) (l:l8_) (c:Nat) (q:Option Addr) (s:l8_) (d i:Nat) (w:World) (ha:Af w p l) (hb:Af w q s) (hc:l.length<=c) (hl:l.length<=100000000) (h1:2<=s.length) (hi:i+s.length<l.length)
  (hwin:(l.drop i).take s.length=s) (hno:∀ j,i<j->j+s.length<=l.length->(l.drop j).take s.length≠s) :
  Calls Tryz.prog 27 #[.slice p l.length c,.slice q s.length d] w λe w'=>e=.returned (Ag (i:Int))/\Cn w w':=by
 refine AF func27 rfl ntmps27<|A4<|A8 rfl<|A4<|A3 rfl<|A1 (.lenS B1 rfl)<|A8 rfl<|Ad<|AT<|A4<|A3 rfl<|A1 (.bis (false) (.eql rfl rfl) (by exact AH oO))<|A8 rfl<|Ay rfl rfl<|A4<|A3 rfl<|A1 (.bis (false) (.eql rfl rfl) (by exact AH oO))<|A8 rfl<|Ay rfl rfl<|A4<|A3 rfl<|A3 rfl<|A1 (.lenS B1 rfl)<|A1 (.bis (false) (.eql rfl rfl) (by exact AH oO))<|A8 rfl<|Ay rfl rfl<|A4<|A3 rfl<|A3 rfl<|A1 (.lenS B1 rfl)<|A1 (.bis (false) (.gtr rfl rfl) (by exact AH oO))<|A8 rfl<|Ay rfl rfl<|As<|A4<|A3 rfl<|A3 rfl<|Au (Vd p l c q s d i _ ha hb hc hl oO hi hwin hno) (λb a=>?_)
 refine A8 rfl<|AY ?_
 exact ⟨rfl,a⟩
end
section
open Go.ChangeShapes Go.WideShapes Go.ChangeAt Go.RowKit
structure AC where
 kind:Int
 n:Int
 text:l8_
 kp:Option Addr
 kl:Nat
 kc:Nat
 lp:Option Addr
 ll:Nat
 lc:Nat
 dp:Option Addr
 dl:Nat
 dc:Nat
def D3 (x:AC):List Value:=[Ag x.kind,Ag x.n,.string (bs x.text),.slice x.kp x.kl x.kc,.slice x.lp x.ll x.lc,.slice x.dp x.dl x.dc]
def Fi:FK AC:=⟨6,D3,dD,λ_=>rfl,λx u hu=>AP.1 (show (D3 x).all Value.oneCell'=true from rfl) u hu⟩
structure A3S (x:AC) (nk nl nd:Nat):Prop where
 n:-9223372036854775808<=x.n/\x.n<=9223372036854775807
 text:x.text.length<=9223372036854775807
 kl:x.kl=nk
 ll:x.ll=nl
 dl:x.dl=nd
 kc:nk<=x.kc
 lc:nl<=x.lc
 dc:nd<=x.dc
 km:x.kc<=9223372036854775807
 lm:x.lc<=9223372036854775807
 dm:x.dc<=9223372036854775807
inductive At (w:World) (S:Nat->Prop):AC->AV->Prop
 | mk (x:AC) (keys:List (l8_)) (list:List AV) (data:l8_) (cs:List AC) (ok:A3S x keys.length cs.length data.length) (hkl:∀ k∈keys,k.length<=9223372036854775807)
   (hk:AM F4 w x.kp keys) (hks:0<keys.length->S (pA x.kp).block) (hr:AA Fi w x.lp cs) (hrs:0<cs.length->S (pA x.lp).block)
   (hd:Af w x.dp data) (hds:0<data.length->S (pA x.dp).block) (hlen:cs.length=list.length)
   (hsub:∀ i (h:i<cs.length) (h2:i<list.length),At w S cs[i] list[i]):At w S x (.mk x.kind x.n x.text keys list data)
theorem AM.same  {V:α->Value} {l:List α} (h:AM V w p l) (hb:0<l.length->w1.heap[(pA p).block]?=w.heap[(pA p).block]?):AM V w1 p l :=
 ⟨h.isp,λj hj=>by rw [World.cell?_of_block (w:=w) (by rw [E4];exact hb oO)];exact h.cells j hj⟩
theorem Af.same  (h:Af w p l) (hb:0<l.length->w1.heap[(pA p).block]?=w.heap[(pA p).block]?):Af w1 p l :=
 ⟨h.isp,λj hj=>by rw [World.cell?_of_block (w:=w) (by rw [E4];exact hb oO)];exact h.cells j hj⟩
theorem At.same  {x:AC} {o:AV} (h:At w S x o) (hb:∀ k,S k->k<w.heap.size->w1.heap[k]?=w.heap[k]?):At w1 S x o:=by
 induction h with
 | mk x keys list data cs ok hkl hk hks hr hrs hd hds hlen _ ih =>
  exact .mk x keys list data cs ok hkl (hk.same λa=>hb _ (hks a) (hk.lt a)) hks (hr.same λa=>hb _ (hrs a) (hr.lt a)) hrs (hd.same λa=>hb _ (hds a) (hd.lt a)) hds hlen ih
theorem At.mono  {x:AC} {o:AV} (h:At w S x o) (hST:∀ k,S k->k<w.heap.size->T k):At w T x o:=by
 induction h with
 | mk x keys list data cs ok hkl hk hks hr hrs hd hds hlen _ ih =>
  exact .mk x keys list data cs ok hkl hk (λa=>hST _ (hks a) (hk.lt a)) hr (λa=>hST _ (hrs a) (hr.lt a)) hd (λa=>hST _ (hds a) (hd.lt a)) hlen ih
theorem At.inv  {x:AC} {o:AV} (h:At w S x o):∃ (keys:List (l8_)) (list:List AV) (data:l8_) (cs:List AC),o=.mk x.kind x.n x.text keys list data/\A3S x keys.length cs.length data.length/\(∀ k∈keys,k.length<=9223372036854775807)/\AM F4 w x.kp keys/\(0<keys.length->S (pA x.kp).block) /\
  AA Fi w x.lp cs/\(0<cs.length->S (pA x.lp).block)/\Af w x.dp data/\(0<data.length->S (pA x.dp).block)/\cs.length=list.length/\∀ i (h:i<cs.length) (h2:i<list.length),At w S cs[i] list[i]:=by
 cases h with
 | mk x keys list data cs ok hkl hk hks hr hrs hd hds hlen hsub=>exact ⟨keys,list,data,cs,rfl,ok,hkl,hk,hks,hr,hrs,hd,hds,hlen,hsub⟩
structure AJ (w:World) (S:Nat->Prop) (cs:List AC) (acc:List AV):Prop where
 len:cs.length=acc.length
 sub:∀ i (h:i<cs.length) (h2:i<acc.length),At w S cs[i] acc[i]
theorem AJ.same  {cs:List AC} {acc:List AV} (h:AJ w S cs acc) (hb:∀ k,S k->k<w.heap.size->w1.heap[k]?=w.heap[k]?):AJ w1 S cs acc:=⟨h.len,λi h1 h2=>(h.sub i h1 h2).same hb⟩
theorem AJ.mono {w:World} {S T:Nat->Prop} {cs:List AC} {acc:List AV} (h:AJ w S cs acc) (hST:∀ k,S k->k<w.heap.size->T k):AJ w T cs acc:=⟨h.len,λi h1 h2=>(h.sub i h1 h2).mono hST⟩
def Cx (x:PC):AC:=⟨x.kind,x.n,x.text,x.kp,x.kl,x.kc,x.lp,x.ll,x.lc,none,0,0⟩
mutual
def Rg:PV->AV
 | .mk k n t ks l=>.mk k n t ks (W5 l) []
def W5:List PV->List AV
 | []=>[]
 | o::r=>Rg o::W5 r
end
theorem Oq:∀ l:List PV,W5 l=l.map Rg
 | []=>by simp [W5]
 | o::r=>by rw [W5,Oq r];rfl
theorem A1I {w:World} {p:Option Addr} {cs:List PC} (h:AA Q7 w p cs):AA Fi w p (cs.map Cx) :=
 ⟨λh0=>h.isp (by simpa using h0),λj hj i hi=>by
  have:=h.cells j (by simpa using hj) i hi
  rw [GX]
  exact this⟩
inductive PWf:PV->Prop
 | mk (k n:Int) (t:l8_) (ks:List (l8_)) (l:List PV) (hn:-9223372036854775808<=n/\n<=9223372036854775807) (ht:t.length<=9223372036854775807) (hk:∀ k∈ks,k.length<=9223372036854775807) (h:∀ o∈l,PWf o):PWf (.mk k n t ks l)
theorem AO.full  {L:FK α} {n:Nat} {l:List α} (h:AO L e B w (.slice p n c) l):n=l.length/\l.length<=c/\c<=9223372036854775807/\AA L w p l/\(0<l.length->(Value.slice p n c).ownBlock=some (pA p).block):=by
 obtain ⟨p',c',hv,hr,-,hc,-,ho,hm,-⟩:=h.row
 cases hv
 unfold maxLen at hm
 refine ⟨rfl,hc,oO,hr,λa=>?_⟩
 rw [ho,hr.isp a];rfl
theorem BJ.rep  {x:PC} {o:PV} (h:BJ w S x o) (hw:PWf o):At w S (Cx x) (Rg o):=by
  induction h with
  | mk x keys list cs hk hr hlen hsub ih =>
    cases hw with
    | mk _ _ _ _ _ hn ht hkl hl =>
    obtain ⟨b,c,d,e,f⟩:=hk.1.full
    obtain ⟨g,k,l,m,q⟩:=hr.1.full
    rw [Rg,Oq]
    refine At.mk (Cx x) keys (list.map Rg) [] (cs.map Cx) ⟨hn,ht,b,by rw [Bo];exact g,rfl,c,by rw [Bo];exact k,FN _,d,l,FN _⟩ hkl e.strs (λa=>hk.2 _ (f a)) (A1I m) (λa=>hr.2 _ (q (by simpa using a)))
      ⟨λh=>by simp at h,λj h=>by simp at h⟩ (λh=>by simp at h) (by simpa using hlen) λi h s=>?_
    rw [GX,GX]
    exact ih i (by simpa using h) (by simpa using s) (hl _ (Ar _))
theorem ZK  {o:AV} (h:FJ D st o):o.kind≠9->Rg (Jd o)=o:=by
 induction h with
 | null D st=>intro _;simp [Jd,Rg,IY,W5]
 | bool D st n hn=>intro _;simp [Jd,Rg,IY,W5]
 | num D st k n hk hf=>intro _;simp [Jd,Rg,IY,W5]
 | name D st s hs=>intro _;simp [Jd,Rg,IY,W5]
 | text D st s hs=>intro _;simp [Jd,Rg,IY,W5]
 | ref D st n hn=>intro _;simp [Jd,Rg,IY,W5]
 | arr D st L hD hl hS ih =>
  intro _
  rw [Jd,Rg,Gs,Oq,List.map_map]
  congr 1
  refine Eq.trans (List.map_congr_left λo ho=>ih o ho (LX (hS o ho))) (List.map_id'' (λ_=>rfl) L)
 | dict D st k ks L dd hk hD hl hkl hn hnd hS ih =>
  intro a
  have hd:dd=[]:=by rcases hk with ⟨-,h⟩ | ⟨h,-⟩;exact h;exact Dp h a
  subst hd
  rw [Jd,Rg,Gs,Oq,List.map_map]
  congr 1
  refine Eq.trans (List.map_congr_left λo ho=>ih o ho (LX (hS o ho))) (List.map_id'' (λ_=>rfl) L)
theorem Ry  {o:AV} (h:FJ D st o):PWf (Jd o):=by
 induction h with
 | null D st=>rw [Jd,IY];exact .mk _ _ _ _ _ oO (by simp) (λo h=>by cases h) (λo h=>by cases h)
 | bool D st n hn=>rw [Jd,IY];exact .mk _ _ _ _ _ oO (by simp) (λo h=>by cases h) (λo h=>by cases h)
 | num D st k n hk hf=>have:=KH hf;rw [Jd,IY];exact .mk _ _ _ _ _ oO (by simp) (λo h=>by cases h) (λo h=>by cases h)
 | name D st s hs=>have:=hs.2.2;rw [Jd,IY];exact .mk _ _ _ _ _ oO oO (λo h=>by cases h) (λo h=>by cases h)
 | text D st s hs=>rw [Jd,IY];exact .mk _ _ _ _ _ oO oO (λo h=>by cases h) (λo h=>by cases h)
 | ref D st n hn=>rw [Jd,IY];exact .mk _ _ _ _ _ oO (by simp) (λo h=>by cases h) (λo h=>by cases h)
 | arr D st L hD hl hS ih=>rw [Jd,Gs];exact .mk _ _ _ _ _ oO (by simp) (λo h=>by cases h) (λo h=>by obtain ⟨a,ha,rfl⟩:=Ee.1 h;exact ih a ha)
 | dict D st k ks L dd hk hD hl hkl hn hnd hS ih=>rw [Jd,Gs];exact .mk _ _ _ _ _ oO (by simp) (λk h=>by have:=(hn k h).2.2;omega) (λo h=>by obtain ⟨a,ha,rfl⟩:=Ee.1 h;exact ih a ha)
end
section
def A4L (D:Int) (st:Bool) (k n:Int) (t:l8_) (ks:List (l8_)) (m:Nat) (d:l8_):Prop :=
 (k=6/\1<=D/\n=0/\t=[]/\ks=[]/\d=[]) \/
 (((k=7/\d=[])\/(k=9/\st=true/\d.length<=1048576/\[76,101,110,103,116,104] ∉ ks))/\1<=D/\n=0/\t=[]/\ks.length=m/\(∀ x∈ks,JM x)/\ks.Nodup)
theorem XO {c:UInt8} (hi:i<l.length) (h:c ∉ l.take i) (hc:l[i]≠c):c ∉ l.take (i+1):=by
 rw [List.take_add_one,Ak hi,Option.toList_some,Bj,Bl]
 exact λhx=>hx.elim h (λe=>hc e.symm)
def nmB (s:l8_):Bool:=!decide (0∈s) && decide (1<=(s.length:Int)) && decide ((s.length:Int)<=127)
theorem N0 (s:l8_) (w:World) (hs:s.length<=9223372036854775807) :
  Calls Tryz.prog 65 #[.string (bs s)] w λe w'=>e=.returned (.bool (nmB s))/\w=w':=by
 refine AF func65 rfl ntmps65<|A4<|A8 rfl<|Ad<|A4<|A8 rfl<|AT<|BO (α:=Nat) (λt=>[(0,.string (bs s)),(3,Ag (t:Int))]) (λt w'=>w=w'/\t<=s.length/\0 ∉ s.take t) (λt=>s.length-t) (0) ⟨rfl,rfl,tT⟩ (⟨rfl,FN _,by simp⟩) (λt k hR=>?_)
 obtain ⟨i,rfl⟩:=eX t
 obtain ⟨rfl,hi,b⟩:=hR
 refine Ad<|A4<|A3 rfl<|A3 rfl<|A1 (.len FV rfl)<|A1 (.lss rfl rfl)<|A0<|Ai rfl (λc=>?_) (λc=>?_)
 have g:=dT c
 refine As<|Ad<|AT<|A4<|A3 rfl<|A3 rfl<|A1 (.ix FV rfl rfl (i) (rfl) oO)<|A1 (.eql rfl rfl)<|A0<|Ai rfl (λf=>?_) (λf=>?_)
 have h:=dT f
 refine A4<|A8 rfl<|AY ?_
 exact ⟨Cu (by unfold nmB;rw [show decide (0∈s)=true from AR (by rw [<- show s[i]'oO=0 from Cf (d:=0) aS];exact Ar _)];rfl),rfl⟩
 have h:=dF f
 refine As<|An<|A3 rfl<|A1 (.iis (((i+1:Nat):Int)) (.add rfl rfl (Bb oO)) oO)<|A8 rfl ?_
 exact ⟨i+1,⟨rfl,rfl,tT⟩,⟨rfl,oM,XO oO b (D6 (d:=0) aS)⟩,oM⟩
 have g:=dF c
 refine BL<|Ad ?_
 have hz:0 ∉ s:=by rw [<- Al (show s.length<=i by omega)];exact b
 refine An<|A3 rfl<|A1 (.len FV rfl)<|A1 (.geq rfl rfl)<|A3 rfl<|Cc rfl rfl rfl (λa=>?_) (λa=>?_)
 have j:=dT a
 refine A3 rfl<|AE a<|A1 (.len FV rfl)<|AE a<|A1 (.leq rfl rfl)<|A1 (.pkT rfl a rfl)<|A8 rfl<|AY ?_
 exact ⟨Cu (by unfold nmB;rw [AH hz,show decide (1<=(s.length:Int))=true from AR oO];rfl),rfl⟩
 have j:=dF a
 refine B6 a<|B6 a<|A1 (.pkF rfl a rfl)<|A8 rfl<|AY ?_
 exact ⟨Cu (by unfold nmB;rw [AH hz,show decide (1<=(s.length:Int))=false from AH oO];rfl),rfl⟩
end
section
theorem Yr (c:UInt8) (w:World) :
  Calls Tryz.prog 68 #[.int .u8 (c.toNat:Int)] w λe w'=>e=.returned (.string (bs [Cr[c.toNat / 16]!,Cr[c.toNat % 16]!]))/\Cn w w':=by
 have hc:=C7 c
 have key:∀ c:UInt8,([48,49,50,51,52,53,54,55,56,57,97,98,99,100,101,102].drop (c.toNat / 16)).take (c.toNat / 16+1-c.toNat / 16)++([48,49,50,51,52,53,54,55,56,57,97,98,99,100,101,102].drop (c.toNat % 16)).take (c.toNat % 16+1-c.toNat % 16)=[Cr[c.toNat / 16]!,Cr[c.toNat % 16]!] :=
  Jx (q:=λc=>([48,49,50,51,52,53,54,55,56,57,97,98,99,100,101,102].drop (c.toNat / 16)).take (c.toNat / 16+1-c.toNat / 16)++([48,49,50,51,52,53,54,55,56,57,97,98,99,100,101,102].drop (c.toNat % 16)).take (c.toNat % 16+1-c.toNat % 16)=[Cr[c.toNat / 16]!,Cr[c.toNat % 16]!]) (by decide +kernel)
 refine AF func68 rfl ntmps68<|A4<|A8 rfl<|A4<|A8 rfl<|Ad<|DE BS kR<|WQ.p (.mv rfl) rfl<|WQ.p (.mv rfl) rfl<|WQ.p (.iis (((c.toNat / 16:Nat):Int)) (.quo rfl rfl oO (u8q oO oO oO)) oO) rfl<|WQ.p (.mv rfl) rfl<|WQ.p (.iis (((c.toNat / 16:Nat):Int)) (.quo rfl rfl oO (u8q oO oO oO)) oO) rfl<|WQ.p (.iis (((c.toNat / 16+1:Nat):Int)) (.add rfl rfl (PO oO)) oO) rfl<|WQ.p (.slS FV rfl rfl rfl (c.toNat / 16) (c.toNat / 16+1) (rfl) (rfl) oO (by simp;omega)) rfl<|WQ.p (.mv rfl) rfl<|WQ.p (.mv rfl) rfl<|WQ.p (.iis (((c.toNat % 16:Nat):Int)) (.rem rfl rfl oO (Int.tmod_eq_emod_of_nonneg oO)) oO) rfl<|WQ.p (.mv rfl) rfl<|WQ.p (.iis (((c.toNat % 16:Nat):Int)) (.rem rfl rfl oO (Int.tmod_eq_emod_of_nonneg oO)) oO) rfl<|WQ.p (.iis (((c.toNat % 16+1:Nat):Int)) (.add rfl rfl (PO oO)) oO) rfl<|WQ.p (.slS FV rfl rfl rfl (c.toNat % 16) (c.toNat % 16+1) (rfl) (rfl) oO (by simp;omega)) rfl<|WQ.p (.cat rfl rfl (by simp only [Ap,Aq,Aa,Am];omega)) rfl<|WQ.p (.as rfl) rfl<|CO (λb a=>?_)
 refine AY ?_
 exact ⟨AQ (by rw [key c]),a⟩
theorem flat_take {f:UInt8->l8_} (h:i<s.length):(s.take (i+1)).flatMap f=(s.take i).flatMap f++f s[i]:=by
 rw [B7 h,List.flatMap_append];simp
theorem Ld {f:UInt8->l8_} {k:Nat} (hf:∀ c,(f c).length<=k) (s:l8_) (i:Nat):((s.take i).flatMap f).length<=k * s.length:=by
 have a:=flat_len hf (s.take i)
 have b:(s.take i).length<=s.length:=by rw [Ap];omega
 exact CT a (Nat.mul_le_mul_left _ b)
theorem Sr  (h:i<s.length):(s.drop i).take (i+1-i)=[s[i]]:=by
 rw [show i+1-i=1 by omega,Aw h];rfl
theorem RO (c:UInt8):Gv c=(decide ((c.toNat:Int)<33) || decide ((c.toNat:Int) > 126) || decide ((c.toNat:Int)=35) || GP c):=by
 have a:(c == 35)=decide ((c.toNat:Int)=35):=(Gn c 35).symm
 have b:decide (c.toNat<33)=decide ((c.toNat:Int)<33):=by rw [GW];omega
 have d:decide (126<c.toNat)=decide ((c.toNat:Int) > 126):=by rw [GW];omega
 unfold Gv
 rw [a,b,d]
theorem EY (s:l8_) (w:World) (hs:s.length<=1000000) :
  Calls Tryz.prog 44 #[.string (bs s)] w λe w'=>e=.returned (.string (bs (TQ s)))/\Cn w w':=by
 refine AF func44 rfl ntmps44<|A4<|A8 rfl<|A4<|A8 rfl<|Ad<|A4<|A8 rfl<|AT<|BO (α:=Nat) (λt=>[(0,.string (bs s)),(3,.string (bs (47::(s.take t).flatMap Od))),(4,Ag (t:Int))]) (λt w'=>Cn w w'/\t<=s.length) (λt=>s.length-t) (0) ⟨rfl,rfl,rfl,tT⟩ (⟨Cn.refl _,FN _⟩) (λt C hR=>?_)
 obtain ⟨i,rfl⟩:=eX t
 obtain ⟨hD,hi⟩:=hR
 have A:=Ld RM s i
 refine Ad<|A4<|A3 rfl<|A3 rfl<|A1 (.len FV rfl)<|A1 (.lss rfl rfl)<|A0<|Ai rfl (λu=>?_) (λu=>?_)
 have v:=dT u
 refine As<|Ad<|AT<|Ad ?_
 have g:=flat_take (f:=Od) (show i<s.length by omega)
 obtain ⟨a,m⟩:∃ b,b=decide (((s[i]'oO).toNat:Int)<33):=⟨_,rfl⟩
 obtain ⟨c,o⟩:∃ b,b=decide (((s[i]'oO).toNat:Int) > 126):=⟨_,rfl⟩
 obtain ⟨d,q⟩:∃ b,b=decide (((s[i]'oO).toNat:Int)=35):=⟨_,rfl⟩
 have h:Gv (s[i]'oO)=(a || c || d || GP (s[i]'oO)):=by rw [m,o,q];exact RO _
 refine An<|A3 rfl<|A3 rfl<|A1 (.ix FV rfl rfl (i) (rfl) oO)<|A8 rfl<|FG 28 ((a || c || d || GP (s[i]'oO))) ?_ ?_
 refine An<|A3 rfl<|A1 (.bis (a) (.lss rfl rfl) (by exact m.symm))<|A3 rfl<|Cc rfl rfl rfl (λj=>?_) (λj=>?_)
 refine A3 rfl<|AE j<|A1 (.bis (c) (.gtr rfl rfl) (by exact o.symm))<|A1 (.pkF rfl j rfl)<|A3 rfl<|Cc rfl rfl rfl (λk=>?_) (λk=>?_)
 refine A3 rfl<|AE k<|A1 (.bis (d) (.eql rfl rfl) (by exact q.symm))<|A1 (.pkF rfl k rfl)<|A3 rfl<|Cc rfl rfl rfl (λl=>?_) (λl=>?_)
 refine A3 rfl<|AE l<|Au (PX _ _) (λD x=>?_)
 obtain rfl:=x
 refine A1 (.pkF rfl l rfl)<|A0<|?_
 exact ⟨GC (DI rfl (by cases a <;> cases c <;> cases d <;> first | rfl | contradiction)),rfl⟩
 refine B6 l<|A1 (.pkT rfl l rfl)<|A0<|?_
 exact ⟨GC (DI rfl (by cases a <;> cases c <;> cases d <;> first | rfl | contradiction)),rfl⟩
 refine B6 k<|A1 (.pkT rfl k rfl)<|A3 rfl<|B6 rfl<|B6 rfl<|A1 (.pkT rfl rfl rfl)<|A0<|?_
 exact ⟨GC (DI rfl (by cases a <;> cases c <;> cases d <;> first | rfl | contradiction)),rfl⟩
 refine B6 j<|A1 (.pkT rfl j rfl)<|A3 rfl<|B6 rfl<|B6 rfl<|A1 (.pkT rfl rfl rfl)<|A3 rfl<|B6 rfl<|B6 rfl<|A1 (.pkT rfl rfl rfl)<|A0<|?_
 exact ⟨GC (DI rfl (by cases a <;> cases c <;> cases d <;> first | rfl | contradiction)),rfl⟩
 refine Ai rfl (λy=>?_) (λy=>?_)
 refine An<|A3 rfl<|A1 (.cat rfl rfl (by simp only [A9,Aa,Am,Ap,Aq];omega))<|A3 rfl<|Au (Yr _ _) (λE B=>?_)
 refine A1 (.cat rfl rfl (by simp only [A9,Aa,Am,Ap,Aq];omega))<|A8 rfl<|An<|A3 rfl<|A1 (.iis (((i+1:Nat):Int)) (.add rfl rfl (Bb oO)) oO)<|A8 rfl ?_
 first
 | exact ⟨i+1,⟨rfl,JN rfl (by rw [g,show Od (s[i]'oO)=[35,Cr[(s[i]'oO).toNat / 16]!,Cr[(s[i]'oO).toNat % 16]!] from A5 (by rw [h];assumption)];simp),rfl,tT⟩,⟨hD.trans aS,oM⟩,oM⟩
 | exact ⟨i+1,⟨rfl,JN rfl (by rw [g,Sr oO,show Od (s[i]'oO)=[s[i]'oO] from A2 (bF (by rw [h];assumption))];simp),rfl,tT⟩,⟨hD,oM⟩,oM⟩
 refine An<|A3 rfl<|A3 rfl<|A3 rfl<|A3 rfl<|A1 (.iis (((i+1:Nat):Int)) (.add rfl rfl (Bb oO)) oO)<|A1 (.slS FV rfl rfl rfl (i) (i+1) (rfl) (rfl) oO oO)<|A1 (.cat rfl rfl (by simp only [A9,Aa,Am,Ap,Aq];omega))<|A8 rfl<|An<|A3 rfl<|A1 (.iis (((i+1:Nat):Int)) (.add rfl rfl (Bb oO)) oO)<|A8 rfl ?_
 first
 | exact ⟨i+1,⟨rfl,JN rfl (by rw [g,show Od (s[i]'oO)=[35,Cr[(s[i]'oO).toNat / 16]!,Cr[(s[i]'oO).toNat % 16]!] from A5 (by rw [h];assumption)];simp),rfl,tT⟩,⟨hD.trans aS,oM⟩,oM⟩
 | exact ⟨i+1,⟨rfl,JN rfl (by rw [g,Sr oO,show Od (s[i]'oO)=[s[i]'oO] from A2 (bF (by rw [h];assumption))];simp),rfl,tT⟩,⟨hD,oM⟩,oM⟩
 have v:=dF u
 refine BL<|A4<|A3 rfl<|A8 rfl<|AY ?_
 exact ⟨AQ (by rw [Al (show s.length<=i by omega)];rfl),hD⟩
theorem A28 (c:UInt8):U0 c=if (decide ((c.toNat:Int)=40) || decide ((c.toNat:Int)=41) || decide ((c.toNat:Int)=92))=true then [92,c] else if (decide ((c.toNat:Int)<32) || decide ((c.toNat:Int) > 126))=true then N3 c else [c]:=by
 have key:∀ c:UInt8,U0 c=if (decide ((c.toNat:Int)=40) || decide ((c.toNat:Int)=41) || decide ((c.toNat:Int)=92))=true then [92,c] else if (decide ((c.toNat:Int)<32) || decide ((c.toNat:Int) > 126))=true then N3 c else [c] :=
  Jx (q:=λc=>U0 c=if (decide ((c.toNat:Int)=40) || decide ((c.toNat:Int)=41) || decide ((c.toNat:Int)=92))=true then [92,c] else if (decide ((c.toNat:Int)<32) || decide ((c.toNat:Int) > 126))=true then N3 c else [c]) (by decide +kernel)
 exact key c
theorem UL (x:UInt8):#[Value.int .u8 92,.int .u8 (48+(x.toNat:Int) / 64),.int .u8 (48+(x.toNat:Int) / 8 % 8),.int .u8 (48+(x.toNat:Int) % 8)]=(AN (N3 x)).toArray:=by
 have hc:=C7 x
 have a:((ch (48+(x.toNat:Int) / 64)).toNat:Int)=48+(x.toNat:Int) / 64:=Ih _ oO oO
 have b:((ch (48+(x.toNat:Int) / 8 % 8)).toNat:Int)=48+(x.toNat:Int) / 8 % 8:=Ih _ oO oO
 have c:((ch (48+(x.toNat:Int) % 8)).toNat:Int)=48+(x.toNat:Int) % 8:=Ih _ oO oO
 simp [AN,N3,a,b,c]
theorem WK (s:l8_) (w:World) (hs:s.length<=1000000) :
  Cl 45 #[.string (bs s)] w (.string (bs (txT s))):=by
 refine AF func45 rfl ntmps45 ?_
 have aa:=Dh w
 refine A4<|A8 rfl<|A4<|CC (ps:=_) B1 EC Li rfl rfl rfl rfl rfl pR rfl (λb1 az ab ah ai aT=>?_)
 have aA:=uB aa ab ai
 have d:=CW ab aa.size
 have aB:=CF.lit (m:=1) ah rfl (by unfold maxLen;omega)
 have aj:b1<=az.heap.size:=by omega
 have ak:CF _ _ _ _ (AN [40]):=aB
 refine A8 rfl<|Ad<|A4<|A8 rfl<|AT<|BO (α:=Value × Nat) (λt=>[(0,.string (bs s)),(3,t.1),(4,Ag (t.2:Int))]) (λt w'=>AL w w'/\CF 5 b1 w' t.1 (AN (40::(s.take t.2).flatMap U0))/\t.2<=s.length/\b1<=w'.heap.size) (λt=>s.length-t.2) ((_,0)) ⟨rfl,rfl,rfl,tT⟩ (⟨aA,ak,FN _,aj⟩) (λt w1 hR=>?_)
 obtain ⟨v,i⟩:=t
 obtain ⟨hT,g,hi,j⟩:=hR
 simp only at g hi ⊢
 have aY:=Ld Vp s i
 refine Ad<|A4<|A3 rfl<|A3 rfl<|A1 (.len FV rfl)<|A1 (.lss rfl rfl)<|A0<|Ai rfl (λh5=>?_) (λh5=>?_)
 have aC:=dT h5
 refine As<|Ad<|AT<|Ad ?_
 have c:=flat_take (f:=U0) (show i<s.length by omega)
 have a:=A28 (s[i]'oO)
 obtain ⟨n1,ac⟩:∃ b,b=decide (((s[i]'oO).toNat:Int)=40):=⟨_,rfl⟩
 obtain ⟨n2,ad⟩:∃ b,b=decide (((s[i]'oO).toNat:Int)=41):=⟨_,rfl⟩
 obtain ⟨n3,ae⟩:∃ b,b=decide (((s[i]'oO).toNat:Int)=92):=⟨_,rfl⟩
 obtain ⟨n4,af⟩:∃ b,b=decide (((s[i]'oO).toNat:Int)<32):=⟨_,rfl⟩
 obtain ⟨n5,ag⟩:∃ b,b=decide (((s[i]'oO).toNat:Int) > 126):=⟨_,rfl⟩
 rw [<- ac,<- ad,<- ae,<- af,<- ag] at a
 have aZ:=C7 (s[i]'oO)
 refine An<|A3 rfl<|A3 rfl<|A1 (.ix FV rfl rfl (i) (rfl) oO)<|A8 rfl<|AT<|FG 20 ((n1 || n2 || n3)) ?_ ?_
 refine An<|A3 rfl<|A1 (.bis (n1) (.eql rfl rfl) (by exact ac.symm))<|A3 rfl<|Cc rfl rfl rfl (λg6=>?_) (λg6=>?_)
 refine A3 rfl<|AE g6<|A1 (.bis (n2) (.eql rfl rfl) (by exact ad.symm))<|A1 (.pkF rfl g6 rfl)<|A3 rfl<|Cc rfl rfl rfl (λg7=>?_) (λg7=>?_)
 refine A3 rfl<|AE g7<|A1 (.bis (n3) (.eql rfl rfl) (by exact ae.symm))<|A1 (.pkF rfl g7 rfl)<|A8 rfl ?_
 exact ⟨GC (DI rfl (by cases n1 <;> cases n2 <;> cases n3 <;> first | rfl | contradiction)),rfl⟩
 refine B6 g7<|A1 (.pkT rfl g7 rfl)<|A8 rfl ?_
 exact ⟨GC (DI rfl (by cases n1 <;> cases n2 <;> cases n3 <;> first | rfl | contradiction)),rfl⟩
 refine B6 g6<|A1 (.pkT rfl g6 rfl)<|A3 rfl<|B6 rfl<|B6 rfl<|A1 (.pkT rfl rfl rfl)<|A8 rfl ?_
 exact ⟨GC (DI rfl (by cases n1 <;> cases n2 <;> cases n3 <;> first | rfl | contradiction)),rfl⟩
 refine Ai rfl (λh8=>?_) (λh8=>?_)
 refine An<|A3 rfl<|A3 rfl<|CC (ps:=_) B1 EC Li rfl rfl rfl rfl rfl pR rfl (λb9 a' a2 al B aU=>?_)
 have P:=CT j B.size
 have am:=Dw g a2 B
 have an:=uB hT a2 B
 have aJ:=CW a2 hT.size
 have aD:=Af.lit (l:=[92,s[i]'oO]) al (rfl)
 refine Sb B1 Id rfl rfl rfl am rfl aD (by simp only [Ca,Aa,Am,N3];omega) (P) rfl (λh=>nomatch h) (λb0 b2 a3 Q aK=>?_)
 have C:=Ex an (Q.mono (d))
 have D:=CF.cat a3
 have k:=CT P Q.size
 refine A8 rfl<|An<|A3 rfl<|A1 (.iis (((i+1:Nat):Int)) (.add rfl rfl (Bb oO)) oO)<|A8 rfl ?_
 first
 | exact ⟨(_,i+1),⟨rfl,rfl,rfl,tT⟩,⟨C,by rw [c,a,A5 aS];exact D,oM,k⟩,oM⟩
 | exact ⟨(_,i+1),⟨rfl,rfl,rfl,tT⟩,⟨C,by rw [c,a,A2 (bF aS),A5 aS];exact D,oM,k⟩,oM⟩
 | exact ⟨(_,i+1),⟨rfl,rfl,rfl,tT⟩,⟨C,by rw [c,a,A2 (bF aS),A2 (bF aS)];exact D,oM,k⟩,oM⟩
 refine FG 35 ((n4 || n5)) ?_ ?_
 refine An<|A3 rfl<|A1 (.bis (n4) (.lss rfl rfl) (by exact af.symm))<|A3 rfl<|Cc rfl rfl rfl (λA=>?_) (λA=>?_)
 refine A3 rfl<|AE A<|A1 (.bis (n5) (.gtr rfl rfl) (by exact ag.symm))<|A1 (.pkF rfl A rfl)<|A8 rfl ?_
 exact ⟨GC (DI rfl (by cases n4 <;> cases n5 <;> first | rfl | contradiction)),rfl⟩
 refine B6 A<|A1 (.pkT rfl A rfl)<|A8 rfl ?_
 exact ⟨GC (DI rfl (by cases n4 <;> cases n5 <;> first | rfl | contradiction)),rfl⟩
 refine Ai rfl (λaE=>?_) (λaE=>?_)
 refine An<|A3 rfl<|A3 rfl<|A1 (.quo rfl rfl oO (u8q oO oO oO))<|A1 (.iis (48+((s[i]'oO).toNat:Int) / 64) (.add rfl rfl (PO oO)) oO)<|A3 rfl<|A1 (.quo rfl rfl oO (u8q oO oO oO))<|A1 (.rem rfl rfl oO (Int.tmod_eq_emod_of_nonneg oO))<|A1 (.iis (48+((s[i]'oO).toNat:Int) / 8 % 8) (.add rfl rfl (PO oO)) oO)<|A3 rfl<|A1 (.rem rfl rfl oO (Int.tmod_eq_emod_of_nonneg oO))<|A1 (.iis (48+((s[i]'oO).toNat:Int) % 8) (.add rfl rfl (PO oO)) oO)<|CC (ps:=_) B1 EC Li rfl rfl rfl rfl rfl pR rfl (λb3 aV E a4 o aL=>?_)
 have T:=CT j o.size
 have ao:=Dw g E o
 have ap:=uB hT E o
 have aF:=CW E hT.size
 have aG:=Af.lit (l:=N3 (s[i]'oO)) a4 (UL _)
 refine Sb B1 Id rfl rfl rfl ao rfl aG (by simp only [Ca,Aa,Am,N3];omega) (T) rfl (λh=>by unfold N3 at h;cases h) (λb4 b5 a5 U aM=>?_)
 have F:=Ex ap (U.mono (d))
 have G:=CF.cat a5
 have q:=CT T U.size
 refine A8 rfl<|An<|A3 rfl<|A1 (.iis (((i+1:Nat):Int)) (.add rfl rfl (Bb oO)) oO)<|A8 rfl ?_
 first
 | exact ⟨(_,i+1),⟨rfl,rfl,rfl,tT⟩,⟨F,by rw [c,a,A5 aS];exact G,oM,q⟩,oM⟩
 | exact ⟨(_,i+1),⟨rfl,rfl,rfl,tT⟩,⟨F,by rw [c,a,A2 (bF aS),A5 aS];exact G,oM,q⟩,oM⟩
 | exact ⟨(_,i+1),⟨rfl,rfl,rfl,tT⟩,⟨F,by rw [c,a,A2 (bF aS),A2 (bF aS)];exact G,oM,q⟩,oM⟩
 refine An<|A3 rfl<|A3 rfl<|CC (ps:=_) B1 EC Li rfl rfl rfl rfl rfl pR rfl (λb6 aW H a6 u aN=>?_)
 have V:=CT j u.size
 have aq:=Dw g H u
 have ar:=uB hT H u
 have aH:=CW H hT.size
 refine En B1 Id rfl rfl rfl aq rfl a6 rfl (by simp only [Ca,Aa,Am,N3];omega) (V) rfl (λb7 b8 a7 X aO=>?_)
 have J:=Ex ar (X.mono (d))
 have K:=E1 a7 (s[i]'oO) (rfl)
 have x:=CT V X.size
 refine A8 rfl<|An<|A3 rfl<|A1 (.iis (((i+1:Nat):Int)) (.add rfl rfl (Bb oO)) oO)<|A8 rfl ?_
 first
 | exact ⟨(_,i+1),⟨rfl,rfl,rfl,tT⟩,⟨J,by rw [c,a,A5 aS];exact K,oM,x⟩,oM⟩
 | exact ⟨(_,i+1),⟨rfl,rfl,rfl,tT⟩,⟨J,by rw [c,a,A2 (bF aS),A5 aS];exact K,oM,x⟩,oM⟩
 | exact ⟨(_,i+1),⟨rfl,rfl,rfl,tT⟩,⟨J,by rw [c,a,A2 (bF aS),A2 (bF aS)];exact K,oM,x⟩,oM⟩
 have aC:=dF h5
 refine BL<|Ad ?_
 have au:s.take i=s:=Al oO
 refine An<|A3 rfl<|CC (ps:=_) B1 EC Li rfl rfl rfl rfl rfl pR rfl (λba aX L a8 y aP=>?_)
 have a0:=CT j y.size
 have av:=Dw g L y
 have aw:=uB hT L y
 have aI:=CW L hT.size
 refine En B1 Id rfl rfl rfl av rfl a8 rfl (by simp only [Ca,Aa,Am,N3];omega) (a0) rfl (λbb bc a9 a1 aQ=>?_)
 have ax:=Ex aw (a1.mono (d))
 have ay:=E1 a9 (41) (rfl)
 have aR:=CT a0 a1.size
 obtain ⟨pq,cq,eq,hq,bd,be,bf⟩:=CF.bytesC (l:=(40::(s.take i).flatMap U0++[41])) ay
 subst eq
 refine Aj (Fa (l:=(40::(s.take i).flatMap U0++[41])) B1 Ga FV rfl (hq))<|A8 rfl<|AY ?_
 exact ⟨AQ (by rw [au];rfl),ax⟩
end
section
def EL (x:l8_):l8_:=(DA false x).takeWhile D1
def Jy (x:l8_):l8_:=(DA false x).dropWhile D1
def NoR (k:Int) (r:l8_):Prop:=k=2->¬ (EL r=[48]/\EL (Jy r)=[82])
theorem VV:∀ x:l8_,x.drop (x.takeWhile D1).length=x.dropWhile D1
 | []=>rfl
 | c::r=>by
  rw [List.takeWhile_cons,List.dropWhile_cons]
  cases h:D1 c with
  | true=>simp only [if_true,Aa,List.drop_succ_cons];exact VV r
  | false=>rfl
theorem Xn (l:l8_) (a:Nat):l.drop (Bq l a)=(l.drop a).dropWhile D1:=by
 unfold Bq
 rw [<- DU]
 exact VV (l.drop a)
theorem Ur (refs:Bool) (l s:l8_) (t:Nat) (r:l8_) (h:l.drop t=r) (hn:¬ (EL r=[48]/\EL (Jy r)=[82])):IJ refs l s t=none:=by
 subst h
 unfold IJ
 have a:Dk l (AW false l t)=EL (l.drop t):=by rw [Ow,H0];rfl
 have b:Dk l (AW false l (Bq l (AW false l t)))=EL (Jy (l.drop t)):=by rw [Ow,H0,Xn,H0];rfl
 rw [a,b]
 split
 ·
  split
  · rw [A2 λh=>hn ⟨aS,h⟩]
  · rfl
 · rfl
section
variable {l:l8_} {t:Nat}
theorem G6 {c:UInt8} {r:l8_} (h:l.drop t=c::r):l[t]?=some c/\t<l.length/\l.drop (t+1)=r:=by
 have a:(l.drop t)[0]?=some c:=by rw [h];rfl
 rw [List.getElem?_drop] at a
 refine ⟨a,(C1.1 a).1,?_⟩
 rw [<- DU,h];rfl
theorem GL (d:Nat) {c:UInt8} {r:l8_} (h:l.drop t=c::r) (h1:c≠47) (h2:c≠91) (h3:c≠40) (h4:c≠60):EJ true l d t=FT (EP true l t):=by
 have:=KB true l (d:Int) t c (G6 h).1
 rw [Int.toNat_natCast,A2 h1,A2 h2,A2 h3,A2 h4] at this
 exact this
end
def R2 (c:UInt8):Bool:=!CJ c && !(c == 37) && !(c == 93) && !(c == 62) && !(c == 82)
theorem Ib {c:UInt8} (h:BN c=true\/c=45\/c=43):R2 c=true/\c≠47/\c≠91/\c≠40/\c≠60/\c≠110/\c≠116/\c≠102:=by
 have key:∀ c:UInt8,(BN c=true\/c=45\/c=43)->R2 c=true/\c≠47/\c≠91/\c≠40/\c≠60/\c≠110/\c≠116/\c≠102 :=
  Jx (q:=λc=>(BN c=true\/c=45\/c=43)->R2 c=true/\c≠47/\c≠91/\c≠40/\c≠60/\c≠110/\c≠116/\c≠102) (by decide +kernel)
 exact key c h
theorem Md  {o:AV} (h:FJ D st o):∃ c r,Da o=c::r/\R2 c=true:=by
 cases h with
 | null=>exact ⟨_,_,by simp [Da];exact ⟨rfl,rfl⟩,dD⟩
 | bool _ _ n h=>rcases h with rfl | rfl <;> exact ⟨_,_,by simp [Da];exact ⟨rfl,rfl⟩,dD⟩
 | num _ _ k n hk h =>
  rcases hk with rfl | rfl
  ·
   obtain ⟨c,r,e,hc⟩:=Mv n h
   exact ⟨c,r,by simp [Da];exact e,(Ib hc).1⟩
  ·
   obtain ⟨c,r,e,hc⟩:=QI n h
   exact ⟨c,r,by simp [Da,N6 h];exact e,(Ib hc).1⟩
 | name _ _ t h=>exact ⟨47,_,by simp [Da,TQ];rfl,dD⟩
 | text _ _ t h=>exact ⟨40,_,by simp [Da,txT];rfl,dD⟩
 | ref _ _ n h =>
  obtain ⟨c,r,e,hc⟩:=Mv n (by simp [Db];omega)
  exact ⟨c,r++[32,48,32,82],by simp [Da,e],(Ib hc).1⟩
 | arr _ _ l hD hl h=>exact ⟨91,_,by simp [Da];rfl,dD⟩
 | dict _ _ k ks l d hk hD hl hkl hn hnd h=>rcases hk with ⟨rfl,-⟩ | ⟨rfl,-⟩ <;> exact ⟨60,_,by simp [Da];rfl,dD⟩
theorem RY {c:UInt8} (h:R2 c=true):CJ c=false/\c≠37/\c≠93/\c≠62/\c≠82:=by
 simp only [R2,AG,BE,Dr] at h
 exact ⟨h.1.1.1.1,h.1.1.1.2,h.1.1.2,h.1.2,h.2⟩
theorem Iw  {o:AV} (h:FJ D st o) (x:l8_):DA false (Da o++x)=Da o++x:=by
 obtain ⟨c,r,e,hc⟩:=Md h
 have:=RY hc
 rw [e,Bh,EH this.1 this.2.1]
theorem A1i  {o:AV} (h:FJ D st o) (x:l8_):EL (Da o++x)≠[82]:=by
 obtain ⟨c,r,e,hc⟩:=Md h
 have:=RY hc
 unfold EL
 rw [Iw h,e,Bh,List.takeWhile_cons]
 split
 · exact λhe=>this.2.2.2.2 (List.cons.inj he).1
 · exact λhe=>by cases he
theorem A1j  {o:AV} (h:FJ D st o) {x:l8_} (hx:O7 x) (h0:EL (Da o++x)=[48]):Jy (Da o++x)=x:=by
 have hw:∀ A:l8_,(∀ y∈A,D1 y=true)->Da o=A->EL (Da o++x)=A/\Jy (Da o++x)=x:=λA hA e=>by
  unfold EL Jy
  rw [Iw h,e,Ro hA hx,A2L hA hx];exact ⟨rfl,rfl⟩
 have hd:∀ (c:UInt8) (r:l8_),Da o=c::r->D1 c=false->EL (Da o++x)=[]:=λc r e hc=>by
  unfold EL
  rw [Iw h,e,Bh,List.takeWhile_cons,hc];rfl
 cases h with
 | null=>exact (hw [110,117,108,108] dD (by simp [Da])).2
 | bool _ _ n h =>
  rcases h with rfl | rfl
  · exact (hw [102,97,108,115,101] dD (by simp [Da])).2
  · exact (hw [116,114,117,101] dD (by simp [Da])).2
 | num _ _ k n hk h =>
  rcases hk with rfl | rfl
  · exact (hw _ (Ol n h) (by simp [Da])).2
  · exact (hw _ (OS n h).2.2 (by simp [Da,N6 h])).2
 | name _ _ t h=>rw [hd 47 (t.flatMap Od) (by simp [Da,TQ]) dD] at h0;cases h0
 | text _ _ t h=>rw [hd 40 _ (by simp [Da,txT];rfl) dD] at h0;cases h0
 | ref _ _ n h =>
  exfalso
  have hf:Db n=true:=by simp [Db];omega
  have hs:=Iw (FJ.ref D st n h) x
  unfold EL at h0
  have e:Da (.mk 8 n [] [] [] [])=ED n++[32,48,32,82]:=by simp [Da]
  rw [hs,e,AS,show ([32,48,32,82]:l8_)++x=32::(48::32::82::x) from rfl,Ro (Ol n hf) (O7.cons dD)] at h0
  obtain ⟨m,W,b,-,-,-,hv,-⟩:=J9 n hf
  have hn:Ck (B0 n.natAbs)=n.natAbs:=(IA n.natAbs).2.1
  have a:ED n=B0 n.natAbs:=by unfold ED;rw [A2 oO]
  rw [a] at h0
  rw [h0] at hn
  have:Ck [48]=0:=by decide
  omega
 | arr _ _ l hD hl h=>rw [hd 91 _ (by simp [Da];rfl) dD] at h0;cases h0
 | dict _ _ k ks l d hk hD hl hkl hn hnd h =>
  have e:∃ r,Da (.mk k 0 [] ks l d)=60::r:=by rcases hk with ⟨rfl,-⟩ | ⟨rfl,-⟩ <;> exact ⟨_,by simp [Da];rfl⟩
  obtain ⟨r,e⟩:=e
  rw [hd 60 r e dD] at h0;cases h0
theorem TC (r:List AV) (x:l8_):O7 (FF r++93::x):=by
 cases r with
 | nil=>exact O7.cons dD
 | cons o r=>rw [FF];exact O7.cons dD
theorem KI (x:l8_):EL (32::x)=EL x/\Jy (32::x)=Jy x:=by unfold EL Jy;rw [I6];exact ⟨rfl,rfl⟩
theorem Jp {c:UInt8} (x:l8_) (h:D1 c=false) (h1:CJ c=false) (h2:c≠37):EL (c::x)=[]:=by
 unfold EL;rw [EH h1 h2,List.takeWhile_cons,h];rfl
theorem A0X  (k:Int) (r:List AV) (hr:∀ o∈r,FJ D false o) (x:l8_):NoR k (FF r++93::x):=by
 intro _ ⟨b,a⟩
 cases r with
 | nil =>
  rw [show FF []++93::x=93::x by simp [FF],Jp x dD dD dD] at b;cases b
 | cons o r =>
  have e:FF (o::r)++93::x=32::(Da o++(FF r++93::x)):=by simp [FF]
  rw [e,(KI _).1] at b
  rw [e,(KI _).2,A1j (hr o (by simp)) (TC r x) b] at a
  cases r with
  | nil=>rw [show FF []++93::x=93::x by simp [FF],Jp x dD dD dD] at a;cases a
  | cons o2 r =>
   have e:FF (o2::r)++93::x=32::(Da o2++(FF r++93::x)):=by simp [FF]
   rw [e,(KI _).1] at a
   exact A1i (hr o2 (by simp)) _ a
theorem Lr (ks:List (l8_)) (r:List AV) (x:l8_):∃ c y,Im ks r++32::62::x=32::c::y/\(c=47\/c=62):=by
 match ks,r with
 | [],r=>exact ⟨62,x,by simp [Im],.inr rfl⟩
 | k::ks,[]=>exact ⟨62,x,by simp [Im],.inr rfl⟩
 | k::ks,o::r=>exact ⟨47,k.flatMap Od++32::(Da o++Im ks r)++32::62::x,by simp [Im,TQ],.inl rfl⟩
theorem YC (k:Int) (ks:List (l8_)) (r:List AV) (x:l8_):NoR k (Im ks r++32::62::x):=by
 intro _ ⟨a,_⟩
 obtain ⟨c,y,e,hc⟩:=Lr ks r x
 rw [e,(KI _).1,Jp y (by rcases hc with rfl | rfl <;> decide) (by rcases hc with rfl | rfl <;> decide) (by rcases hc with rfl | rfl <;> decide)] at a
 cases a
theorem UC:∀ l:List AV,l.length<=(FF l).length
 | []=>DS _
 | o::r=>by
  have:=UC r
  rw [FF,Aa,Aa,A9];omega
theorem Yt:∀ (ks:List (l8_)) (l:List AV),ks.length=l.length->l.length<=(Im ks l).length
 | [],[],_=>DS _
 | k::ks,o::r,h=>by
  have:=Yt ks r (by simpa using h)
  simp only [Im,Aa,A9];omega
def ZW (o:AV):Prop:=∀ (l:l8_) (t:Nat) (rest:l8_) (d:Nat),t<=l.length->l.drop t=Da o++rest->O7 rest->NoR o.kind rest->EJ true l d t=if MI o<=d then .ok (Jd o,l.length-rest.length) else .error 25
theorem MR  {r:l8_} {t:Nat} (ht:t<=l.length) (h:l.drop t=A++r):l.drop (l.length-r.length)=r/\l.length-r.length<=l.length/\r.length<=l.length:=by
 have hl:=BH List.length h
 rw [Aq,A9] at hl
 refine ⟨?_,oO,oO⟩
 rw [show l.length-r.length=t+A.length by omega,<- DU,h,List.drop_left]
theorem NH (l:l8_) (d:Nat) (rest:l8_) {D:Int}:∀ (r:List AV) (acc:List PV) (t f:Nat),(∀ o∈r,FJ D false o)->(∀ o∈r,ZW o)->t<=l.length->DA false (l.drop t)=(FF r).drop 1++93::rest->r.length<f->acc.length+r.length<=65535 ->
  Ic (EJ true l d) l f acc t=if NL r<=d then .ok (acc++IY r,l.length-rest.length) else .error 25
 | [],acc,t,f,_,_,ht,h,hf,_=>by
  obtain ⟨-,h2⟩:=HH h
  rw [show (FF []).drop 1++93::rest=93::rest by simp [FF]] at h2
  obtain ⟨h3,h4,-⟩:=G6 h2
  have hl:=BH List.length h2
  rw [Aq,Aa] at hl
  rw [Lx oO,h3]
  simp only [if_true]
  rw [A5 (show NL []<=d by simp [NL])]
  congr 2
  · simp [IY]
  · omega
 | o::r,acc,t,f,hS,hR,ht,h,hf,ha=>by
  obtain ⟨-,h2⟩:=HH h
  have hso:=hS o (by simp)
  rw [show (FF (o::r)).drop 1++93::rest=Da o++(FF r++93::rest) by simp [FF]] at h2
  obtain ⟨c,q,hq,hc⟩:=Md hso
  obtain ⟨h3,h4,-⟩:=G6 (show l.drop (AW false l t)=c::(q++(FF r++93::rest)) by rw [h2,hq];rfl)
  rw [Lx oO,h3]
  simp only
  simp only [Aa] at hf ha
  rw [A2 (RY hc).2.2.1,A2 oO]
  rw [hR o (by simp) l _ _ d oO h2 (TC r rest) (A0X o.kind r (λx hx=>hS x (by simp [hx])) rest)]
  by_cases hd:MI o<=d
  ·
   rw [A5 hd]
   simp only
   obtain ⟨g1,g2,g3⟩:=MR oO h2
   rw [NH l d rest r (acc++[Jd o]) _ (f-1) (λx hx=>hS x (by simp [hx])) (λx hx=>hR x (by simp [hx])) g2 (by
    rw [g1]
    cases r with
    | nil=>rw [show FF []++93::rest=93::rest by simp [FF]];exact EH dD dD
    | cons o2 r2 =>
     rw [show FF (o2::r2)++93::rest=32::(Da o2++(FF r2++93::rest)) by simp [FF],I6,Iw (hS o2 (by simp))]
     simp [FF]) oO (by rw [A9,A4B];omega)]
   have e:NL (o::r)=max (MI o) (NL r):=by rw [NL]
   by_cases h5:NL r<=d
   · rw [A5 h5,A5 oO];simp [IY]
   · rw [A2 h5,A2 oO]
  ·
   rw [A2 hd]
   simp only
   rw [A2 (by rw [NL];omega)]
theorem Mg (l:l8_) (d:Nat) (rest:l8_) {D:Int}:∀ (ks:List (l8_)) (r:List AV) (ka:List (l8_)) (acc:List PV) (t f:Nat),ks.length=r.length->(∀ k∈ks,JM k)->(ka++ks).Nodup->(∀ o∈r,FJ D false o)->(∀ o∈r,ZW o)->t<=l.length ->
  DA false (l.drop t)=(Im ks r++32::62::62::rest).drop 1->r.length<f->acc.length+r.length<=65535 ->
  Gb (EJ true l d) l f ka acc t=if NL r<=d then .ok (ka++ks,acc++IY r,l.length-rest.length) else .error 25
 | [],[],ka,acc,t,f,_,_,_,_,_,ht,h,hf,_=>by
  obtain ⟨-,h2⟩:=HH h
  rw [show (Im [] []++32::62::62::rest).drop 1=62::62::rest by simp [Im]] at h2
  obtain ⟨h3,h4,h5⟩:=G6 h2
  obtain ⟨h6,h7,-⟩:=G6 h5
  have hl:=BH List.length h2
  rw [Aq,Aa,Aa] at hl
  rw [JZ oO,h3]
  simp only
  rw [A2 (by rintro ⟨-,h⟩;omega),A5 (by exact ⟨by trivial,h6⟩),A5 (show NL []<=d by simp [NL])]
  congr 3
  · simp
  · simp [IY]
  · omega
 | k::ks,o::r,ka,acc,t,f,hkl,hk,hnd,hS,hR,ht,h,hf,ha=>by
  obtain ⟨-,h2⟩:=HH h
  have hso:=hS o (by simp)
  have e0:(Im (k::ks) (o::r)++32::62::62::rest).drop 1=47::(k.flatMap Od++32::(Da o++(Im ks r++32::62::62::rest))):=by simp [Im,TQ]
  rw [e0] at h2
  obtain ⟨h3,h4,h5⟩:=G6 h2
  simp only [Aa] at hf ha
  have g:=T7 oO h5 (hk k (by simp)) (O7.cons dD)
  obtain ⟨m,y,A⟩:=MR oO h5
  have s:DA false (l.drop (l.length-(32::(Da o++(Im ks r++32::62::62::rest))).length))=Da o++(Im ks r++32::62::62::rest):=by rw [m,I6,Iw hso]
  obtain ⟨-,b⟩:=HH s
  obtain ⟨c,q,hq,hc⟩:=Md hso
  obtain ⟨u,B,-⟩:=G6 (b.trans (show _=c::(q++(Im ks r++32::62::62::rest)) by rw [hq];rfl))
  obtain ⟨C,E,i,a⟩:=Lr ks r (62::rest)
  rw [JZ oO,h3]
  simp only
  rw [A2 (by rintro ⟨h,-⟩;cases h),A2 (by rintro ⟨h,-⟩;cases h),A2 (by simp),g]
  simp only
  have j:k ∉ ka:=λhm=>by
   have:=(List.nodup_append.1 hnd).2.2 k hm k (by simp)
   exact this rfl
  rw [A2 j,A2 oO,u]
  simp only
  rw [hR o (by simp) l _ _ d oO b (by rw [i];exact O7.cons dD) (YC o.kind ks r (62::rest))]
  by_cases hd:MI o<=d
  ·
   rw [A5 hd]
   simp only
   obtain ⟨v,w,F⟩:=MR oO b
   rw [Mg l d rest ks r (ka++[k]) (acc++[Jd o]) _ (f-1) (by simpa using hkl) (λx hx=>hk x (by simp [hx])) (by simpa using hnd) (λx hx=>hS x (by simp [hx])) (λx hx=>hR x (by simp [hx])) w (by
    rw [v,i,I6,EH (by rcases a with rfl | rfl <;> decide) (by rcases a with rfl | rfl <;> decide)];rfl) oO (by rw [A9,A4B];omega)]
   have e:NL (o::r)=max (MI o) (NL r):=by rw [NL]
   by_cases h5:NL r<=d
   · rw [A5 h5,A5 oO];simp [IY]
   · rw [A2 h5,A2 oO]
  ·
   rw [A2 hd]
   simp only
   rw [A2 (by rw [NL];omega)]
theorem QP (l:l8_) (t:Nat) (k n:Int) (s:l8_) (hs:Dk l t=s) (hh:∃ c r,s=c::r/\(BN c=true\/c=45\/c=43)) (hr:IJ true l s (Bq l t)=none) (hn:Mi s=(k,n,true)):EP true l t=⟨k,n,s,true,Bq l t⟩:=by
 obtain ⟨c,r,e,hc⟩:=hh
 have hq:=Ib hc
 unfold EP
 rw [hs,A2 (by rw [e];intro h;exact hq.2.2.2.2.2.1 (List.cons.inj h).1),A2 (by rw [e];intro h;exact hq.2.2.2.2.2.2.1 (List.cons.inj h).1),A2 (by rw [e];intro h;exact hq.2.2.2.2.2.2.2 (List.cons.inj h).1),hr,hn]
 simp
theorem TV (n:Int) (h:1<=n/\n<=4096):Fn (ED n) 4096=(n,true):=by
 obtain ⟨a,b,c⟩:=IA n.natAbs
 have hl:=Dv 3 n.natAbs oO
 have hd:ED n=B0 n.natAbs:=by unfold ED;rw [A2 oO]
 unfold Fn Fv
 rw [hd,AP.2 a,AR (show (B0 n.natAbs).length<=10 by omega),AH c]
 simp only [Bool.not_false,Bool.and_self,if_true]
 rw [b]
 simp;omega
theorem A3i  {o:AV} (h:FJ D st o):o.kind≠9->ZW o:=by
  induction h with
  | null D st =>
    intro _ l t rest d ht h hb _
    have e:Da (.mk 0 0 [] [] [] [])=[110,117,108,108]:=by simp [Da]
    rw [e] at h
    obtain ⟨a,f,-⟩:=Gm ht h dD hb
    rw [GL d h dD dD dD dD,A5 (by simp [MI])]
    unfold EP
    rw [a,A5 rfl,f];simp [FT,Jd,IY,IL]
  | bool D st n hn =>
    intro _ l t rest d ht h hb _
    rcases hn with rfl | rfl
    · have e : Da (.mk 1 0 [] [] [] []) = [102, 97, 108, 115, 101] := by simp [Da]
      rw [e] at h
      obtain ⟨a,f,-⟩:=Gm ht h dD hb
      rw [GL d h dD dD dD dD,A5 (by simp [MI])]
      unfold EP
      rw [a,A2 dD,A2 dD,A5 rfl,f];simp [FT,Jd,IY,IL]
    · have e : Da (.mk 1 1 [] [] [] []) = [116, 114, 117, 101] := by simp [Da]
      rw [e] at h
      obtain ⟨a,f,-⟩:=Gm ht h dD hb
      rw [GL d h dD dD dD dD,A5 (by simp [MI])]
      unfold EP
      rw [a,A2 dD,A5 rfl,f];simp [FT,Jd,IY,IL]
  | num D st k n hk hf =>
    intro _ l t rest d ht h hb w
    rcases hk with rfl | rfl
    · have e : Da (.mk 2 n [] [] [] []) = ED n := by simp [Da]
      rw [e] at h
      obtain ⟨a,f,q⟩:=Gm ht h (Ol n hf) hb
      obtain ⟨c,r,ec,hc⟩:=Mv n hf
      have hq:=Ib hc
      rw [GL d (show l.drop t=c::(r++rest) by rw [h,ec];rfl) hq.2.1 hq.2.2.1 hq.2.2.2.1 hq.2.2.2.2.1,A5 (by simp [MI])]
      rw [QP l t 2 n _ a ⟨c,r,ec,hc⟩ (Ur _ _ _ _ _ q (w rfl)) (YA n hf),f]
      simp [FT,Jd,IY,IL]
    · have e : Da (.mk 3 n [] [] [] []) = H7 n := by simp [Da, N6 hf]
      rw [e] at h
      obtain ⟨E,x,F⟩:=OS n hf
      obtain ⟨a,f,q⟩:=Gm ht h F hb
      obtain ⟨c,r,ec,hc⟩:=QI n hf
      have hq:=Ib hc
      rw [GL d (show l.drop t=c::(r++rest) by rw [h,ec];rfl) hq.2.1 hq.2.2.1 hq.2.2.2.1 hq.2.2.2.2.1,A5 (by simp [MI])]
      have y:(Fn (H7 n) 4096).2=false:=by
        unfold Fn Fv
        have:(H7 n).all BN=false:=by
          cases hx:(H7 n).all BN with
          | false=>rfl
          | true=>exact Dp (AP.1 hx 46 (List.contains_iff_mem.1 x)) dD
        rw [this];simp
      rw [QP l t 3 n _ a ⟨c,r,ec,hc⟩ (by unfold IJ;rw [y];simp) (by unfold Mi;rw [x,E];rfl),f]
      simp [FT,Jd,IY,IL]
  | name D st s hs =>
    intro _ l t rest d ht h hb _
    have e:Da (.mk 4 0 s [] [] [])=47::s.flatMap Od:=by simp [Da,TQ]
    rw [e] at h
    obtain ⟨g,v,i⟩:=G6 h
    have:=KB true l (d:Int) t 47 g
    rw [Int.toNat_natCast,A5 rfl] at this
    rw [this,A5 (by simp [MI])]
    unfold La
    rw [T7 oO i hs hb]
    simp [Jd,IY,IL]
  | text D st s hs =>
    intro _ l t rest d ht h hb _
    have e:Da (.mk 5 0 s [] [] [])=txT s:=by simp [Da]
    rw [e] at h
    obtain ⟨g,v,i⟩:=G6 (show l.drop t=40::((s.flatMap U0++[41])++rest) by rw [h];rfl)
    have:=KB true l (d:Int) t 40 g
    rw [Int.toNat_natCast,A2 dD,A2 dD,A5 rfl] at this
    rw [this,A5 (by simp [MI])]
    unfold I4
    rw [Y2 ht h hs]
    simp [Jd,IY,IL]
  | ref D st n hn =>
    intro _ l t rest d ht h hb _
    have hf:Db n=true:=by simp [Db];omega
    have e:Da (.mk 8 n [] [] [] [])=ED n++[32,48,32,82]:=by simp [Da]
    rw [e,AS] at h
    obtain ⟨a,f,q⟩:=Gm ht h (Ol n hf) (O7.cons dD)
    obtain ⟨c,r,ec,hc⟩:=Mv n hf
    have hq:=Ib hc
    have b:=BH List.length h
    simp only [Aq,A9,Aa,Am] at b
    rw [GL d (show l.drop t=c::(r++([32,48,32,82]++rest)) by rw [h,ec];rfl) hq.2.1 hq.2.2.1 hq.2.2.2.1 hq.2.2.2.2.1,A5 (by simp [MI])]
    have G:DA false (l.drop (Bq l t))=48::32::82::rest:=by rw [q];exact (I6 _).trans (EH dD dD)
    obtain ⟨-,H⟩:=HH G
    obtain ⟨J,X,K⟩:=Gm (E3 _ _ _) (show l.drop (AW false l (Bq l t))=[48]++(32::82::rest) by rw [H];rfl) dD (O7.cons dD)
    have M:DA false (l.drop (Bq l (AW false l (Bq l t))))=82::rest:=by rw [K];exact (I6 _).trans (EH dD dD)
    obtain ⟨-,N⟩:=HH M
    obtain ⟨O,P,Y⟩:=Gm (E3 _ _ _) (show l.drop (AW false l (Bq l (AW false l (Bq l t))))=[82]++rest by rw [N];rfl) dD hb
    have hR:IJ true l (ED n) (Bq l t)=some (n,l.length-rest.length):=by
      unfold IJ
      rw [TV n hn,J,O,P]
      simp;omega
    unfold EP
    rw [a,A2 (by rw [ec];intro h;exact hq.2.2.2.2.2.1 (List.cons.inj h).1),A2 (by rw [ec];intro h;exact hq.2.2.2.2.2.2.1 (List.cons.inj h).1),A2 (by rw [ec];intro h;exact hq.2.2.2.2.2.2.2 (List.cons.inj h).1),hR]
    simp [FT,Jd,IY,IL,Ym,Uq]
  | arr D st L hD hl hS ih =>
    intro _ l t rest d ht h hb _
    have e:Da (.mk 6 0 [] [] L [])=91::((FF L).drop 1++[93]):=by simp [Da]
    rw [e] at h
    obtain ⟨g,v,i⟩:=G6 (show l.drop t=91::((FF L).drop 1++[93]++rest) by rw [h];rfl)
    have:=KB true l (d:Int) t 91 g
    rw [Int.toNat_natCast,A2 dD,A5 rfl] at this
    rw [this]
    have m:MI (.mk 6 0 [] [] L [])=NL L+1:=by simp [MI]
    rw [m]
    by_cases hd:(d:Int)<1
    · rw [A5 hd,A2 oO]
    · rw [A2 hd, show ((d : Int) - 1).toNat = d - 1 by omega]
      have b:=BH List.length i
      have A:=UC L
      simp only [Aq,A9,Aa,Am] at b
      rw [NH l (d-1) rest L [] (t+1) (l.length+1) hS (λo ho=>ih o ho (LX (hS o ho))) oO (by
        rw [i]
        cases L with
        | nil=>simp only [FF,List.drop_nil,BT,Bh];exact EH dD dD
        | cons o r =>
          rw [show (FF (o::r)).drop 1++[93]++rest=Da o++(FF r++93::rest) by simp [FF],Iw (hS o (by simp))]
          simp [FF]) oO (by simpa using hl)]
      by_cases j:NL L<=d-1
      · rw [A5 j,A5 oO];simp [Ph,Jd]
      · rw [A2 j,A2 oO];rfl
  | dict D st k ks L dd hk hD hl hkl hn hnd hS ih =>
    intro Q l t rest d ht h hb _
    rcases hk with ⟨rfl,rfl⟩ | ⟨rfl,-⟩
    · have e : Da (.mk 7 0 [] ks L []) = 60 :: 60 :: (Im ks L ++ [32, 62, 62]) := by simp [Da]
      rw [e] at h
      obtain ⟨g,v,i⟩:=G6 (show l.drop t=60::(60::(Im ks L++[32,62,62]++rest)) by rw [h];rfl)
      obtain ⟨R,j,B⟩:=G6 i
      have:=KB true l (d:Int) t 60 g
      rw [Int.toNat_natCast,A2 dD,A2 dD,A2 dD,A5 rfl,A2 oO,A2 (λh=>h R)] at this
      rw [this]
      have m:MI (.mk 7 0 [] ks L [])=NL L+1:=by simp [MI]
      rw [m]
      by_cases hd:(d:Int)<1
      · rw [A5 hd,A2 oO]
      · rw [A2 hd, show ((d : Int) - 1).toNat = d - 1 by omega]
        have b:=BH List.length B
        have A:=Yt ks L hkl
        simp only [Aq,A9,Aa,Am] at b
        obtain ⟨T,U,C,u⟩:=Lr ks L (62::rest)
        have V:l.drop (t+1+1)=32::T::U:=by rw [B,<- C];simp
        rw [Mg l (d-1) rest ks L [] [] (t+2) (l.length+1) hkl hn (by simpa using hnd) hS (λo ho=>ih o ho (LX (hS o ho))) oO (by
          rw [show t+2=t+1+1 from rfl,V,C,I6,EH (by rcases u with rfl | rfl <;> decide) (by rcases u with rfl | rfl <;> decide)];rfl) oO (by simpa using hl)]
        by_cases j:NL L<=d-1
        · rw [A5 j,A5 oO];simp [Ls,Jd]
        · rw [A2 j,A2 oO];rfl
    · exact Dp rfl Q
end
section
theorem KY (n:Int) (w:World) (h:Db n=false) :
  Cl 66 #[Ag n] w (.string (bs [48])):=by
 go_enter func66,ntmps66
 go_wp2_with (go_at_call 64;refine (I7 _ _).mono ?_;rintro e a ⟨rfl,rfl⟩)
 go_ret
 exact ⟨rfl,Fl _ _⟩
theorem Pw (n:Int) (h:0<=n):ED n=B0 n.toNat:=by
 unfold ED;rw [A2 oO];congr 1;omega
theorem QK (n m:Int) (hm:m=(n.natAbs:Int)):Gu n=JG n++ED (m / 65536)++(if 0<m % 65536 then [46] else [])++Hc (m % 65536).toNat:=by
  subst hm
  rw [Pw _ oO]
  have a:((n.natAbs:Int) / 65536).toNat=n.natAbs / 65536:=by omega
  have b:((n.natAbs:Int) % 65536).toNat=n.natAbs % 65536:=by omega
  rw [a,b]
  unfold Gu GE IW
  by_cases h0:n.natAbs % 65536=0
  · have hc : ¬ (0 : Int) < (n.natAbs : Int) % 65536 := by omega
    simp [hc,h0,Jo]
  · have hc : (0 : Int) < (n.natAbs : Int) % 65536 := by omega
    simp [hc,Ti _ (show 0<n.natAbs % 65536 by omega) oO]
theorem A2P:(⟨#[]⟩:ByteArray)=bs []:=rfl
theorem Zy (c:UInt8):(⟨#[c]⟩:ByteArray)=bs [c]:=rfl
theorem PT (n:Int) (w:World) (h:0<=n) (h':n<=2147483647) :
    Cl 66 #[Ag n] w (.string (bs (Gu n))):=by
  have hf:=KG (n:=n) oO h'
  have hd:=Jb (n / 65536) oO oO
  have hP:=QK n n oO
  rw [JG,A2 oO] at hP
  by_cases hr:0<n % 65536
  all_goals
    first | rw [A5 hr] at hP | rw [A2 hr] at hP
    have HP:=E2 hP;clear hP
    go_enter func66,ntmps66
    go_wp2_with first | (go_at_call 64;refine (I7 _ _).mono ?_;rintro e c ⟨rfl,rfl⟩) | (go_at_call 21;go_must (refine (Kt _ _ oO oO).mono ?_);rintro e c ⟨rfl,hb1⟩)
    go_loopw [3,4] (λs r wr=>∃ (t:l8_) (m:Nat),s=.string (bs t)/\r=Ag m/\m<65536/\AL w wr/\t.length+(Hc m).length<=60/\Gu n=t++Hc m) (λ_ r _=>(Hc (intOf r).toNat).length)
    case atStart =>
      have hl:=J6 (n % 65536).toNat
      rw [BM] at hd
      refine ⟨_,(n % 65536).toNat,?_,by go_num,oO,hb1,?_,HP.out⟩
      · simp [A2P,Zy,Er]
      · simp;omega
    case round =>
      obtain ⟨t,m,rfl,rfl,hm,hb,i,hp⟩:=hrel
      have Hp:=E2 hp;clear hp HP
      by_cases hm0:0<m
      · have b := LE m hm0 hm
        have Hst:=E2 b;clear b
        have d:=BH List.length Hst.out
        simp only [Aa] at d
        have l:(bs t).size<=60:=by rw [BM];omega
        have o:=Jb ((m:Int) * 10 / 65536) oO oO
        clear hd hb1
        have f:=hb.size
        go_wp2_with (go_at_call 21;go_must (refine (Kt _ _ oO oO).mono ?_);rintro e c ⟨rfl,hb1⟩)
        have g:ED ((m:Int) * 10 / 65536)=[ch (48+((m * 10 / 65536:Nat):Int))]:=by
          rw [Pw _ oO,Eg _ oO,Int.toNat_of_nonneg oO,Int.natCast_ediv,Int.natCast_mul];rfl
        refine ⟨⟨t++ED ((m:Int) * 10 / 65536),m * 10 % 65536,by rw [Er],by go_num,oO,hb.trans (hb1.mono f),?_,?_⟩,?_⟩
        · rw [g];simp;omega
        · rw [Hp.out,Hst.out,g];simp
        · have j : ((m : Int) * 10 % 65536).toNat = m * 10 % 65536 := by omega
          have k:((m:Int)).toNat=m:=by omega
          simp only [intOf,j,k];omega
      · have a : m = 0 := by omega
        have Hm:=E2 a;clear a
        go_wp2
        go_ret
        exact ⟨LZ (by rw [Hp.out,Hm.out,Jo,Fu]),hb⟩
theorem PU (k:Int) (w:World) (h:0<k) (h':k<=2147483648) :
    Calls Tryz.prog 66 #[Ag (-k)] w λe w'=>e=.returned (.string (bs (Gu (-k))))/\AL w w':=by
  have hf:=KG (n:=-k) oO oO
  have hd:=Jb (k / 65536) oO oO
  have hP:=QK (-k) k oO
  rw [JG,A5 oO] at hP
  by_cases hr:0<k % 65536
  all_goals
    first | rw [A5 hr] at hP | rw [A2 hr] at hP
    have HP:=E2 hP;clear hP
    go_enter func66,ntmps66
    go_wp2_with first | (go_at_call 64;refine (I7 _ _).mono ?_;rintro e c ⟨rfl,rfl⟩) | (go_at_call 21;go_must (refine (Kt _ _ oO oO).mono ?_);rintro e c ⟨rfl,hb1⟩)
    go_loopw [3,4] (λs r wr=>∃ (t:l8_) (m:Nat),s=.string (bs t)/\r=Ag m/\m<65536/\AL w wr/\t.length+(Hc m).length<=60/\Gu (-k)=t++Hc m) (λ_ r _=>(Hc (intOf r).toNat).length)
    case atStart =>
      have hl:=J6 (k % 65536).toNat
      rw [BM] at hd
      refine ⟨_,(k % 65536).toNat,?_,by go_num,oO,hb1,?_,HP.out⟩
      · simp [Zy,Er]
      · simp;omega
    case round =>
      obtain ⟨t,m,rfl,rfl,hm,hb,i,hp⟩:=hrel
      have Hp:=E2 hp;clear hp HP
      by_cases hm0:0<m
      · have b := LE m hm0 hm
        have Hst:=E2 b;clear b
        have d:=BH List.length Hst.out
        simp only [Aa] at d
        have o:(bs t).size<=60:=by rw [BM];omega
        have q:=Jb ((m:Int) * 10 / 65536) oO oO
        clear hd hb1
        have f:=hb.size
        go_wp2_with (go_at_call 21;go_must (refine (Kt _ _ oO oO).mono ?_);rintro e c ⟨rfl,hb1⟩)
        have g:ED ((m:Int) * 10 / 65536)=[ch (48+((m * 10 / 65536:Nat):Int))]:=by
          rw [Pw _ oO,Eg _ oO,Int.toNat_of_nonneg oO,Int.natCast_ediv,Int.natCast_mul];rfl
        refine ⟨⟨t++ED ((m:Int) * 10 / 65536),m * 10 % 65536,by rw [Er],by go_num,oO,hb.trans (hb1.mono f),?_,?_⟩,?_⟩
        · rw [g];simp;omega
        · rw [Hp.out,Hst.out,g];simp
        · have j : ((m : Int) * 10 % 65536).toNat = m * 10 % 65536 := by omega
          have l:((m:Int)).toNat=m:=by omega
          simp only [intOf,j,l];omega
      · have a : m = 0 := by omega
        have Hm:=E2 a;clear a
        go_wp2
        go_ret
        exact ⟨LZ (by rw [Hp.out,Hm.out,Jo,Fu]),hb⟩
theorem MX (n:Int) (w:World) :
    Calls Tryz.prog 66 #[Ag n] w λe w'=>e=.returned (.string (bs (Gu (norm n))))/\AL w w':=by
  have a:Gu 0=[48]:=by
    have hz:IW 0=[]:=rfl
    have hd:B0 0=[48]:=by rw [Eg 0 oO];rfl
    simp [Gu,JG,GE,hz,hd]
  unfold norm
  by_cases h1:n < -2147483648
  · rw [Mr h1];simp only [BV,if_false,a];exact KY n w (Mr h1)
  · by_cases h2 : 2147483647 < n
    · rw [Tm h2];simp only [BV,if_false,a];exact KY n w (Tm h2)
    · rw [KG oO oO]
      by_cases h3:n<0
      · have h := PU (-n) w oO oO
        rw [Int.neg_neg] at h;exact h
      · exact PT n w oO oO
theorem Qy (n:Int):((n.tmod 65536) == 0)=decide (n.natAbs % 65536=0):=by
 rw [B3]
 simp only [beq_iff_eq,AI]
 rcases Int.le_total 0 n with h | h
 · rw [Int.tmod_eq_emod_of_nonneg h];omega
 ·
  have e:n.tmod 65536=-((-n) % 65536):=by
   rw [<- Int.tmod_eq_emod_of_nonneg oO,Int.neg_tmod,Int.neg_neg]
  rw [e];omega
theorem NA (n:Int):(bs (Gu (norm n))).size<=60:=by
 have a:=U7 (norm n)
 have b:=Nt (norm n) (VI n) (VJ n)
 have c:=Um (norm n)
 rw [BM] at *
 unfold Gu
 split <;> simp <;> omega
theorem PW (n:Int) (w:World) :
    Calls Tryz.prog 43 #[Ag n] w λe w'=>e=.returned (.string (bs (H7 (norm n))))/\AL w w':=by
  have hs:=NA n
  by_cases hf:Db n=true
  · have hn : norm n = n := by rw [norm, hf]; rfl
    by_cases a:n.natAbs % 65536=0
    · have ht : (n.tmod 65536 == 0) = true := by rw [Qy]; simpa using a
      have hr:=(MW n).2 a
      have Hr:=E2 hr;have Hn:=E2 hn;clear hr hn a
      go_enter func43,ntmps43
      go_wp2_with first | (go_at_call 64;refine (I7 _ _).mono ?_;rintro e b ⟨rfl,rfl⟩) | (go_at_call 66;go_must (refine (MX _ _).mono ?_);rintro e b ⟨rfl,hb1⟩)
      go_ret
      refine ⟨LZ ?_,hb1⟩
      rw [Hn.out,H7,Gu,A5 Hr.out,A5 Hr.out]
      show bs _++bs [46,48]=_
      rw [Er];simp
    · have ht : (n.tmod 65536 == 0) = false := by rw [Qy]; simpa using a
      have hr:=λx=>a ((MW n).1 x)
      have Hr:=E2 hr;have Hn:=E2 hn;clear hr hn a
      go_enter func43,ntmps43
      go_wp2_with first | (go_at_call 64;refine (I7 _ _).mono ?_;rintro e b ⟨rfl,rfl⟩) | (go_at_call 66;go_must (refine (MX _ _).mono ?_);rintro e b ⟨rfl,hb1⟩)
      go_ret
      refine ⟨LZ ?_,hb1⟩
      rw [Hn.out,H7,Gu,A2 Hr.out,A2 Hr.out]
  · have hf' : Db n = false := by simpa using hf
    have hn:norm n=0:=by rw [norm,hf'];rfl
    have Hn:=E2 hn;clear hf hn
    have c:=NA 0
    go_enter func43,ntmps43
    go_wp2_with first | (go_at_call 64;refine (I7 _ _).mono ?_;rintro e b ⟨rfl,rfl⟩) | (go_at_call 66;go_must (refine (MX _ _).mono ?_);rintro e b ⟨rfl,hb1⟩)
    go_ret
    refine ⟨LZ ?_,hb1⟩
    have hz:IW 0=[]:=rfl
    have a:norm 0=0:=rfl
    rw [Hn.out,a,H7,Gu,A5 hz,A5 hz]
    show bs _++bs [46,48]=_
    rw [Er];simp
end
section
theorem A2o (l:List AV) (i:Nat) (hi:i<l.length):(Da l[i]).length<=(FF l).length/\(FF (l.take (i+1))).length<=(FF l).length:=by
 have e:l=l.take i++l[i]::l.drop (i+1):=by rw [<- Aw hi,Ds]
 have a:FF l=FF (l.take i)++(32::(Da l[i]++FF (l.drop (i+1)))):=by conv=>lhs;rw [e,Ji,FF]
 have b:FF (l.take (i+1))=FF (l.take i)++32::Da l[i]:=by rw [B7 hi,SO]
 rw [b,a]
 simp only [A9,Aa]
 omega
theorem SN (l:List AV) (i:Nat) (hi:i<l.length):(FF (l.take i)).length<=(FF l).length:=by
 have e:l=l.take i++l.drop i:=(Ds i l).symm
 have a:FF l=FF (l.take i)++FF (l.drop i):=by conv=>lhs;rw [e,Ji]
 rw [a,A9];omega
theorem SL:∀ (ks:List (l8_)) (l:List AV) (i:Nat) (h1:i<ks.length) (h2:i<l.length),Im (ks.take (i+1)) (l.take (i+1))=Im (ks.take i) (l.take i)++32::(TQ ks[i]++32::Da l[i])
 | k::ks,o::l,0,_,_=>by simp [Im]
 | k::ks,o::l,i+1,h1,h2=>by
  have:=SL ks l i (by simpa using h1) (by simpa using h2)
  simp only [List.take_succ_cons,Im,IH,this]
  simp
theorem A2n (ks:List (l8_)) (l:List AV) (i:Nat) (h1:i<ks.length) (h2:i<l.length):(Im (ks.take (i+1)) (l.take (i+1))).length<=(Im ks l).length:=by
 have key:∀ (ks:List (l8_)) (l:List AV) (j:Nat),(Im (ks.take j) (l.take j)).length<=(Im ks l).length:=by
  intro ks
  induction ks with
  | nil=>intro l j;simp [Im]
  | cons k ks ih =>
   intro l j
   cases l with
   | nil=>simp [Im]
   | cons o l =>
    cases j with
    | zero=>simp [Im]
    | succ j=>have:=ih l j;simp only [List.take_succ_cons,Im,Aa,A9];omega
 exact key ks l (i+1)
theorem V9 (l:List AV) (i:Nat) (hi:i<l.length):(FF (l.take (i+1))).drop 1=(if i=0 then [] else (FF (l.take i)).drop 1++[32])++Da l[i]:=by
 rw [B7 hi,SO]
 cases i with
 | zero=>simp [FF]
 | succ i =>
  rw [A2 oO]
  have:0<(FF (l.take (i+1))).length:=by
   have:=UC (l.take (i+1))
   rw [Ap] at this;omega
  rw [List.drop_append_of_le_length oO]
  simp
theorem S5:∀ (l:List AV) (m:Nat),(∀ o∈l,MI o<=m)->NL l<=m
 | [],m,_=>by simp [NL]
 | o::r,m,h=>by
  have h1:=h o (by simp)
  have h2:=S5 r m λx hx=>h x (by simp [hx])
  rw [NL];omega
theorem A1X  {o:AV} (h:FJ D st o):(MI o:Int)<=max D 0:=by
 induction h with
 | arr D st l hD hl h ih =>
  have:=S5 l (D-1).toNat λo ho=>by have:=ih o ho;omega
  rw [MI,A5 (.inl rfl)];omega
 | dict D st k ks l d hk hD hl hkl hn hnd h ih =>
  have:=S5 l (D-1).toNat λo ho=>by have:=ih o ho;omega
  rw [MI];split <;> omega
 | num D st k n hk h=>rw [MI];rcases hk with rfl | rfl <;> simp <;> omega
 | _=>simp [MI];omega
theorem FE (n:Int) (w:World) (h:-9223372036854775808<=n) (h':n<=9223372036854775807):Cl 21 #[Ag n] w (.string (bs (ED n))):=Kt n w h h'
theorem Uy:∀ (n:Nat) (o:AV),SizeOf.sizeOf o<n->∀ (x:AC) (S:Nat->Prop) (D:Int) (st:Bool) (w:World),At w S x o->FJ D st o->(Da o).length<=100000000 ->
  Cl 22 #[.agg (D3 x).toArray] w (.string (bs (Da o))):=by
 intro n
 induction n with
 | zero=>intro o h;omega
 | succ n ih =>
 intro o hn x S D st w hx hS hL
 obtain ⟨keys,list,data,cs,rfl,ok,ay,hk,eA,hr,e6,hd,eB,e7,d5⟩:=hx.inv
 obtain ⟨k,i,s,kp,kl,kc,lp,ll,lc,dp,dl,dc⟩:=x
 have e1:=ok.kl;have e2:=ok.ll;have e3:=ok.dl
 have m1:=ok.kc;have m2:=ok.lc;have m3:=ok.dc;have m4:=ok.km;have m5:=ok.lm;have m6:=ok.dm;have m7:=ok.text;have m8:=ok.n
 simp only at e1 e2 e3 m1 m2 m3 m4 m5 m6 m7 m8 hk hr hd e6 hS hL ⊢
 subst e1;subst e2;subst e3
 simp only [AV.mk.sizeOf_spec] at hn
 have V:∀ j (h:j<list.length),SizeOf.sizeOf list[j]<n:=λj h=>by have:=List.sizeOf_lt_of_mem (Ar h);omega
 have e8:AJ w S cs list:=⟨e7,d5⟩
 simp only [D3]
 obtain ⟨R,hX⟩:=eX (Da (.mk k i s keys list data))
 rw [<- hX] at hL ⊢
 have aC:k=6\/k=7\/k=9->∀ o∈list,FJ (D-1) false o:=λhk=>by
  cases hS with
  | arr _ _ _ hD hl h=>exact h
  | dict _ _ _ _ _ _ hk' hD hl ay hn hnd h=>exact h
  | num _ _ _ _ h' _=>rcases h' with rfl | rfl <;> omega
  | null=>omega
  | bool=>omega
  | name=>omega
  | text=>omega
  | ref=>omega
 have bL:k=7\/k=9->keys.length=list.length/\(∀ x∈keys,JM x):=λhk=>by
  cases hS with
  | arr _ _ _ hD hl h=>omega
  | dict _ _ _ _ _ _ hk' hD hl ay hn hnd h=>exact ⟨ay,hn⟩
  | num _ _ _ _ h' _=>rcases h' with rfl | rfl <;> omega
  | null=>omega
  | bool=>omega
  | name=>omega
  | text=>omega
  | ref=>omega
 have em:k=0\/k=1\/k=2\/k=3\/k=4\/k=5\/k=8\/k=6\/k=7\/k=9:=by
  cases hS with
  | arr _ _ _ hD hl h=>omega
  | dict _ _ _ _ _ _ hk' hD hl ay hn hnd h=>rcases hk' with ⟨h,-⟩ | ⟨h,-⟩ <;> omega
  | num _ _ _ _ h' _=>rcases h' with rfl | rfl <;> omega
  | null=>omega
  | bool=>omega
  | name=>omega
  | text=>omega
  | ref=>omega
 have en:s.length<=65535:=by
  cases hS with
  | name _ _ _ h=>have:=h.2.2;omega
  | text _ _ _ h=>exact h
  | _=>simp
 have eo:data.length<=1048576:=by
  cases hS with
  | dict _ _ _ _ _ _ hk' hD hl ay hn hnd h=>rcases hk' with ⟨-,rfl⟩ | h;simp;exact h.2.2.1
  | _=>simp
 rw [Da] at hX
 refine AF func22 rfl ntmps22 ?_
 have d2:=Dh w
 refine A4<|WL.box rfl rfl (λb1 e9 az U an eq=>?_)
 have d3:=AJ.same (w1:=e9) e8 (λk hk hl=>an.other k oO)
 have d6:=λb=>az▸hk.lt b
 have ea:=AM.upd hk an (λb=>CV (d6 b))
 have d7:=λb=>az▸hr.lt b
 have d4:=AA.upd hr an (λb=>CV (d7 b))
 have d8:=λb=>az▸hd.lt b
 have eb:=Cy hd an d8
 have c:=uB d2 az an
 have ep:=CW az d2.size
 refine A8 rfl<|Ad<|A4<|A1 (.fa Av rfl BI dD rfl)<|Aj (Ae (C5 _) rfl U rfl)<|A0<|AT<|A4<|A1 (.eql rfl rfl)<|A8 rfl<|Ai rfl (λbb=>?_) (λbb=>?_)
 have d9:=dT bb
 refine A4<|A8 rfl<|AY ?_
 first
 | (rw [A5 aS] at hX;subst hX;exact ⟨rfl,c⟩)
 | (rw [A2 oO,A5 aS,A5 aS] at hX;subst hX;exact ⟨rfl,c⟩)
 | (rw [A2 oO,A5 aS,A2 aS] at hX;subst hX;exact ⟨rfl,c⟩)
 | (rw [A2 oO,A2 oO,A5 aS] at hX;subst hX;exact ⟨rfl,c⟩)
 | (rw [A2 oO,A2 oO,A2 oO,A5 aS] at hX;subst hX;exact ⟨rfl,c⟩)
 | (rw [A2 oO,A2 oO,A2 oO,A2 oO,A5 aS] at hX;subst hX;exact ⟨rfl,c⟩)
 | (rw [A2 oO,A2 oO,A2 oO,A2 oO,A2 oO,A5 aS] at hX;subst hX;exact ⟨rfl,c⟩)
 | (rw [A2 oO,A2 oO,A2 oO,A2 oO,A2 oO,A2 oO,A5 aS] at hX;subst hX;exact ⟨rfl,c⟩)
 | exact ⟨AQ (by rw [hX];rfl),c⟩
 | exact ⟨AQ (by rw [hX,A5 aS];simp),c⟩
 | exact ⟨AQ (by rw [hX,A2 aS];simp [Gf]),c⟩
 have d9:=dF bb
 refine A4<|A1 (.eql rfl rfl)<|A8 rfl<|Ai rfl (λbc=>?_) (λbc=>?_)
 have da:=dT bc
 refine Ad<|A4<|A1 (.fa Av rfl BI dD rfl)<|Aj (Ae (C5 _) rfl U rfl)<|A1 (.eql rfl rfl)<|A0<|Ai rfl (λbd=>?_) (λbd=>?_)
 have db:=dT bd
 refine A4<|A8 rfl<|AY ?_
 first
 | (rw [A5 aS] at hX;subst hX;exact ⟨rfl,c⟩)
 | (rw [A2 oO,A5 aS,A5 aS] at hX;subst hX;exact ⟨rfl,c⟩)
 | (rw [A2 oO,A5 aS,A2 aS] at hX;subst hX;exact ⟨rfl,c⟩)
 | (rw [A2 oO,A2 oO,A5 aS] at hX;subst hX;exact ⟨rfl,c⟩)
 | (rw [A2 oO,A2 oO,A2 oO,A5 aS] at hX;subst hX;exact ⟨rfl,c⟩)
 | (rw [A2 oO,A2 oO,A2 oO,A2 oO,A5 aS] at hX;subst hX;exact ⟨rfl,c⟩)
 | (rw [A2 oO,A2 oO,A2 oO,A2 oO,A2 oO,A5 aS] at hX;subst hX;exact ⟨rfl,c⟩)
 | (rw [A2 oO,A2 oO,A2 oO,A2 oO,A2 oO,A2 oO,A5 aS] at hX;subst hX;exact ⟨rfl,c⟩)
 | exact ⟨AQ (by rw [hX];rfl),c⟩
 | exact ⟨AQ (by rw [hX,A5 aS];simp),c⟩
 | exact ⟨AQ (by rw [hX,A2 aS];simp [Gf]),c⟩
 have db:=dF bd
 refine As<|A4<|A8 rfl<|AY ?_
 first
 | (rw [A5 aS] at hX;subst hX;exact ⟨rfl,c⟩)
 | (rw [A2 oO,A5 aS,A5 aS] at hX;subst hX;exact ⟨rfl,c⟩)
 | (rw [A2 oO,A5 aS,A2 aS] at hX;subst hX;exact ⟨rfl,c⟩)
 | (rw [A2 oO,A2 oO,A5 aS] at hX;subst hX;exact ⟨rfl,c⟩)
 | (rw [A2 oO,A2 oO,A2 oO,A5 aS] at hX;subst hX;exact ⟨rfl,c⟩)
 | (rw [A2 oO,A2 oO,A2 oO,A2 oO,A5 aS] at hX;subst hX;exact ⟨rfl,c⟩)
 | (rw [A2 oO,A2 oO,A2 oO,A2 oO,A2 oO,A5 aS] at hX;subst hX;exact ⟨rfl,c⟩)
 | (rw [A2 oO,A2 oO,A2 oO,A2 oO,A2 oO,A2 oO,A5 aS] at hX;subst hX;exact ⟨rfl,c⟩)
 | exact ⟨AQ (by rw [hX];rfl),c⟩
 | exact ⟨AQ (by rw [hX,A5 aS];simp),c⟩
 | exact ⟨AQ (by rw [hX,A2 aS];simp [Gf]),c⟩
 have da:=dF bc
 refine A4<|A1 (.eql rfl rfl)<|A8 rfl<|Ai rfl (λbe=>?_) (λbe=>?_)
 have dd:=dT be
 refine A4<|A1 (.fa Av rfl BI dD rfl)<|Aj (Ae (C5 _) rfl U rfl)<|Au (FE i _ m8.1 m8.2) (λeC de=>?_)
 have G:=Ci c de
 refine A8 rfl<|AY ?_
 first
 | (rw [A5 aS] at hX;subst hX;exact ⟨rfl,G⟩)
 | (rw [A2 oO,A5 aS,A5 aS] at hX;subst hX;exact ⟨rfl,G⟩)
 | (rw [A2 oO,A5 aS,A2 aS] at hX;subst hX;exact ⟨rfl,G⟩)
 | (rw [A2 oO,A2 oO,A5 aS] at hX;subst hX;exact ⟨rfl,G⟩)
 | (rw [A2 oO,A2 oO,A2 oO,A5 aS] at hX;subst hX;exact ⟨rfl,G⟩)
 | (rw [A2 oO,A2 oO,A2 oO,A2 oO,A5 aS] at hX;subst hX;exact ⟨rfl,G⟩)
 | (rw [A2 oO,A2 oO,A2 oO,A2 oO,A2 oO,A5 aS] at hX;subst hX;exact ⟨rfl,G⟩)
 | (rw [A2 oO,A2 oO,A2 oO,A2 oO,A2 oO,A2 oO,A5 aS] at hX;subst hX;exact ⟨rfl,G⟩)
 | exact ⟨AQ (by rw [hX];rfl),G⟩
 | exact ⟨AQ (by rw [hX,A5 aS];simp),G⟩
 | exact ⟨AQ (by rw [hX,A2 aS];simp [Gf]),G⟩
 have dd:=dF be
 refine A4<|A1 (.eql rfl rfl)<|A8 rfl<|Ai rfl (λbf=>?_) (λbf=>?_)
 have df:=dT bf
 refine A4<|A1 (.fa Av rfl BI dD rfl)<|Aj (Ae (C5 _) rfl U rfl)<|Au (PW i _) (λeD dg=>?_)
 have H:=Ci c dg
 refine A8 rfl<|AY ?_
 first
 | (rw [A5 aS] at hX;subst hX;exact ⟨rfl,H⟩)
 | (rw [A2 oO,A5 aS,A5 aS] at hX;subst hX;exact ⟨rfl,H⟩)
 | (rw [A2 oO,A5 aS,A2 aS] at hX;subst hX;exact ⟨rfl,H⟩)
 | (rw [A2 oO,A2 oO,A5 aS] at hX;subst hX;exact ⟨rfl,H⟩)
 | (rw [A2 oO,A2 oO,A2 oO,A5 aS] at hX;subst hX;exact ⟨rfl,H⟩)
 | (rw [A2 oO,A2 oO,A2 oO,A2 oO,A5 aS] at hX;subst hX;exact ⟨rfl,H⟩)
 | (rw [A2 oO,A2 oO,A2 oO,A2 oO,A2 oO,A5 aS] at hX;subst hX;exact ⟨rfl,H⟩)
 | (rw [A2 oO,A2 oO,A2 oO,A2 oO,A2 oO,A2 oO,A5 aS] at hX;subst hX;exact ⟨rfl,H⟩)
 | exact ⟨AQ (by rw [hX];rfl),H⟩
 | exact ⟨AQ (by rw [hX,A5 aS];simp),H⟩
 | exact ⟨AQ (by rw [hX,A2 aS];simp [Gf]),H⟩
 have df:=dF bf
 refine A4<|A1 (.eql rfl rfl)<|A8 rfl<|Ai rfl (λbg=>?_) (λbg=>?_)
 have dh:=dT bg
 refine A4<|A1 (.fa Av rfl FP dD rfl)<|Aj (Ae (FU _) rfl U rfl)<|Au (EY s _ oO) (λeF di=>?_)
 have J:=Cn.below c di
 refine A8 rfl<|AY ?_
 first
 | (rw [A5 aS] at hX;subst hX;exact ⟨rfl,J⟩)
 | (rw [A2 oO,A5 aS,A5 aS] at hX;subst hX;exact ⟨rfl,J⟩)
 | (rw [A2 oO,A5 aS,A2 aS] at hX;subst hX;exact ⟨rfl,J⟩)
 | (rw [A2 oO,A2 oO,A5 aS] at hX;subst hX;exact ⟨rfl,J⟩)
 | (rw [A2 oO,A2 oO,A2 oO,A5 aS] at hX;subst hX;exact ⟨rfl,J⟩)
 | (rw [A2 oO,A2 oO,A2 oO,A2 oO,A5 aS] at hX;subst hX;exact ⟨rfl,J⟩)
 | (rw [A2 oO,A2 oO,A2 oO,A2 oO,A2 oO,A5 aS] at hX;subst hX;exact ⟨rfl,J⟩)
 | (rw [A2 oO,A2 oO,A2 oO,A2 oO,A2 oO,A2 oO,A5 aS] at hX;subst hX;exact ⟨rfl,J⟩)
 | exact ⟨AQ (by rw [hX];rfl),J⟩
 | exact ⟨AQ (by rw [hX,A5 aS];simp),J⟩
 | exact ⟨AQ (by rw [hX,A2 aS];simp [Gf]),J⟩
 have dh:=dF bg
 refine A4<|A1 (.eql rfl rfl)<|A8 rfl<|Ai rfl (λbh=>?_) (λbh=>?_)
 have dj:=dT bh
 refine A4<|A1 (.fa Av rfl FP dD rfl)<|Aj (Ae (FU _) rfl U rfl)<|Au (WK s _ oO) (λeG dk=>?_)
 have K:=Ci c dk
 refine A8 rfl<|AY ?_
 first
 | (rw [A5 aS] at hX;subst hX;exact ⟨rfl,K⟩)
 | (rw [A2 oO,A5 aS,A5 aS] at hX;subst hX;exact ⟨rfl,K⟩)
 | (rw [A2 oO,A5 aS,A2 aS] at hX;subst hX;exact ⟨rfl,K⟩)
 | (rw [A2 oO,A2 oO,A5 aS] at hX;subst hX;exact ⟨rfl,K⟩)
 | (rw [A2 oO,A2 oO,A2 oO,A5 aS] at hX;subst hX;exact ⟨rfl,K⟩)
 | (rw [A2 oO,A2 oO,A2 oO,A2 oO,A5 aS] at hX;subst hX;exact ⟨rfl,K⟩)
 | (rw [A2 oO,A2 oO,A2 oO,A2 oO,A2 oO,A5 aS] at hX;subst hX;exact ⟨rfl,K⟩)
 | (rw [A2 oO,A2 oO,A2 oO,A2 oO,A2 oO,A2 oO,A5 aS] at hX;subst hX;exact ⟨rfl,K⟩)
 | exact ⟨AQ (by rw [hX];rfl),K⟩
 | exact ⟨AQ (by rw [hX,A5 aS];simp),K⟩
 | exact ⟨AQ (by rw [hX,A2 aS];simp [Gf]),K⟩
 have dj:=dF bh
 refine A4<|A1 (.eql rfl rfl)<|A8 rfl<|Ai rfl (λbi=>?_) (λbi=>?_)
 have dn:=dT bi
 refine A4<|A1 (.fa Av rfl BI dD rfl)<|Aj (Ae (C5 _) rfl U rfl)<|Au (FE i _ m8.1 m8.2) (λeH dq=>?_)
 have L:=Ci c dq
 refine A1 (.cat rfl rfl (by have:=Kg i m8.1 m8.2;simp only [Aa,Am];omega))<|A8 rfl<|AY ?_
 first
 | (rw [A5 aS] at hX;subst hX;exact ⟨rfl,L⟩)
 | (rw [A2 oO,A5 aS,A5 aS] at hX;subst hX;exact ⟨rfl,L⟩)
 | (rw [A2 oO,A5 aS,A2 aS] at hX;subst hX;exact ⟨rfl,L⟩)
 | (rw [A2 oO,A2 oO,A5 aS] at hX;subst hX;exact ⟨rfl,L⟩)
 | (rw [A2 oO,A2 oO,A2 oO,A5 aS] at hX;subst hX;exact ⟨rfl,L⟩)
 | (rw [A2 oO,A2 oO,A2 oO,A2 oO,A5 aS] at hX;subst hX;exact ⟨rfl,L⟩)
 | (rw [A2 oO,A2 oO,A2 oO,A2 oO,A2 oO,A5 aS] at hX;subst hX;exact ⟨rfl,L⟩)
 | (rw [A2 oO,A2 oO,A2 oO,A2 oO,A2 oO,A2 oO,A5 aS] at hX;subst hX;exact ⟨rfl,L⟩)
 | exact ⟨AQ (by rw [hX];rfl),L⟩
 | exact ⟨AQ (by rw [hX,A5 aS];simp),L⟩
 | exact ⟨AQ (by rw [hX,A2 aS];simp [Gf]),L⟩
 have dn:=dF bi
 refine A4<|A1 (.eql rfl rfl)<|A8 rfl<|Ai rfl (λbj=>?_) (λbj=>?_)
 have dr:=dT bj
 rw [A2 oO,A2 oO,A2 oO,A2 oO,A2 oO,A2 oO,A2 oO,A5 aS] at hX
 have E:=aC oO
 have bk:R.length=1+((FF list).drop 1).length+1:=by rw [hX];simp;omega
 refine A4<|A8 rfl<|Ad<|A4<|A8 rfl<|AT<|BO (α:=Nat) (λt=>[(1,ptV b1),(3,.string (bs (91::(FF (list.take t)).drop 1))),(4,Ag (t:Int))]) (λt w'=>AL w w'/\B4 w' b1 #[Ag k,Ag i,.string (bs s),.slice kp keys.length kc,.slice lp cs.length lc,.slice dp data.length dc] 27/\AA Fi w' lp cs/\AJ w' S cs list/\t<=cs.length) (λt=>cs.length-t) (0) ⟨rfl,rfl,rfl,tT⟩ (⟨c,U,d4,d3,FN _⟩) (λt w1 hR=>?_)
 obtain ⟨a,rfl⟩:=eX t
 obtain ⟨d,ah,N,ao,ht⟩:=hR
 refine Ad<|A4<|A3 rfl<|A1 (.fa Av rfl CQ dD rfl)<|Aj (Ae (DW _) rfl ah rfl)<|A1 (.lenS Cg rfl)<|A1 (.lss rfl rfl)<|A0<|Ai rfl (λbm=>?_) (λbm=>?_)
 have ds:=dT bm
 refine As<|Ad<|AT<|Ad<|Ad ?_
 have eI:=A2o list a oO
 have er:=SN list a oO
 have aD:=V9 list a oO
 refine An<|A3 rfl<|A1 (.gtr rfl rfl)<|A0<|Ai rfl (λbn=>?_) (λbn=>?_)
 have dt:=dT bn
 refine An<|A3 rfl<|A1 (.cat rfl rfl oL)<|A8 rfl<|An<|A3 rfl<|A1 (.fa Av rfl CQ dD rfl)<|Aj (Ae (DW _) rfl ah rfl)<|A3 rfl<|A1 (.ixm Cg Dd rfl rfl (N.isp oO) (a) (rfl) oO)<|Aj (DG Av rfl Ah N (a) oO rfl)<|Cs BQ rfl rfl ((ih (list[a]'oO) (V a oO) _ S (D-1) false _ ((ao).sub a oO oO) (E _ (Ar _)) (by simp only [Aq] at bk;omega))) (λec ap=>?_)
 have bo:=AJ.same (w1:=ec) ao (λk hk hl=>ap.block k hl)
 have bp:=ah.bl ap
 have bq:=Ea N ap (λb=>N.lt b)
 have bt:=Ci d ap
 refine A1 (.cat rfl rfl oL)<|A8 rfl<|An<|A3 rfl<|A1 (.iis (((a+1:Nat):Int)) (.add rfl rfl (Bb oO)) oO)<|A8 rfl ?_
 first
 | exact ⟨a+1,⟨rfl,JN rfl (by rw [aD,A2 oO];simp),rfl,tT⟩,⟨bt,bp,bq,bo,oM⟩,oM⟩
 | exact ⟨a+1,⟨rfl,JN rfl (by (obtain rfl:a=0:=oO);rw [aD,A5 rfl];simp [FF]),rfl,tT⟩,⟨bt,bp,bq,bo,oM⟩,oM⟩
 have dt:=dF bn
 refine As<|An<|A3 rfl<|A1 (.fa Av rfl CQ dD rfl)<|Aj (Ae (DW _) rfl ah rfl)<|A3 rfl<|A1 (.ixm Cg Dd rfl rfl (N.isp oO) (a) (rfl) oO)<|Aj (DG Av rfl Ah N (a) oO rfl)<|Cs BQ rfl rfl ((ih (list[a]'oO) (V a oO) _ S (D-1) false _ ((ao).sub a oO oO) (E _ (Ar _)) (by simp only [Aq] at bk;omega))) (λed aq=>?_)
 have bu:=AJ.same (w1:=ed) ao (λk hk hl=>aq.block k hl)
 have bv:=ah.bl aq
 have bw:=Ea N aq (λb=>N.lt b)
 have bz:=Ci d aq
 refine A1 (.cat rfl rfl oL)<|A8 rfl<|An<|A3 rfl<|A1 (.iis (((a+1:Nat):Int)) (.add rfl rfl (Bb oO)) oO)<|A8 rfl ?_
 first
 | exact ⟨a+1,⟨rfl,JN rfl (by rw [aD,A2 oO];simp),rfl,tT⟩,⟨bz,bv,bw,bu,oM⟩,oM⟩
 | exact ⟨a+1,⟨rfl,JN rfl (by (obtain rfl:a=0:=oO);rw [aD,A5 rfl];simp [FF]),rfl,tT⟩,⟨bz,bv,bw,bu,oM⟩,oM⟩
 have ds:=dF bm
 refine BL<|Ad ?_
 have bA:list.take a=list:=Al oO
 rw [bA]
 refine An<|A3 rfl<|A1 (.cat rfl rfl oL)<|A8 rfl<|AY ?_
 first
 | (rw [A5 aS] at hX;subst hX;exact ⟨rfl,d⟩)
 | (rw [A2 oO,A5 aS,A5 aS] at hX;subst hX;exact ⟨rfl,d⟩)
 | (rw [A2 oO,A5 aS,A2 aS] at hX;subst hX;exact ⟨rfl,d⟩)
 | (rw [A2 oO,A2 oO,A5 aS] at hX;subst hX;exact ⟨rfl,d⟩)
 | (rw [A2 oO,A2 oO,A2 oO,A5 aS] at hX;subst hX;exact ⟨rfl,d⟩)
 | (rw [A2 oO,A2 oO,A2 oO,A2 oO,A5 aS] at hX;subst hX;exact ⟨rfl,d⟩)
 | (rw [A2 oO,A2 oO,A2 oO,A2 oO,A2 oO,A5 aS] at hX;subst hX;exact ⟨rfl,d⟩)
 | (rw [A2 oO,A2 oO,A2 oO,A2 oO,A2 oO,A2 oO,A5 aS] at hX;subst hX;exact ⟨rfl,d⟩)
 | exact ⟨AQ (by rw [hX];rfl),d⟩
 | exact ⟨AQ (by rw [hX,A5 aS];simp),d⟩
 | exact ⟨AQ (by rw [hX,A2 aS];simp [Gf]),d⟩
 have dr:=dF bj
 rw [A2 oO,A2 oO,A2 oO,A2 oO,A2 oO,A2 oO,A2 oO,A2 aS] at hX
 have du:k=7\/k=9:=by omega
 have E:=aC oO
 have ee:=bL du
 have bk:2+(Im keys list).length<=R.length:=by rw [hX];simp;omega
 refine As<|A4<|A8 rfl<|Ad<|A4<|A8 rfl<|AT<|BO (α:=Nat) (λt=>[(1,ptV b1),(5,.string (bs (60::60::Im (keys.take t) (list.take t)))),(6,Ag (t:Int))]) (λt w'=>AL w w'/\B4 w' b1 #[Ag k,Ag i,.string (bs s),.slice kp keys.length kc,.slice lp cs.length lc,.slice dp data.length dc] 27/\AM F4 w' kp keys/\AA Fi w' lp cs/\Af w' dp data/\AJ w' S cs list/\t<=cs.length) (λt=>cs.length-t) (0) ⟨rfl,rfl,rfl,tT⟩ (⟨c,U,ea,d4,eb,d3,FN _⟩) (λt w1 hR=>?_)
 obtain ⟨a,rfl⟩:=eX t
 obtain ⟨d,ah,dv,N,bB,ao,ht⟩:=hR
 have eJ:keys.length=cs.length:=by omega
 refine Ad<|A4<|A3 rfl<|A1 (.fa Av rfl E6 dD rfl)<|Aj (Ae (Fs _) rfl ah rfl)<|A1 (.lenS DD rfl)<|A1 (.lss rfl rfl)<|A0<|Ai rfl (λbC=>?_) (λbC=>?_)
 have dw:=dT bC
 refine As<|Ad<|AT ?_
 have X:=SL keys list a oO oO
 have es:=A2n keys list a oO oO
 have ef:=BH List.length X
 simp only [A9,Aa] at ef
 have eg:=(ee.2 _ (Ar (show a<keys.length by omega))).2.2
 refine F2 18 rfl BS (λeh ai=>?_)
 have P:=AJ.same (w1:=eh) ao (λk hk hl=>(by obtain ⟨m,rfl⟩:=ai;rfl))
 have q:=ah.drew ai
 have f:=dv.drew ai
 have g:=N.drew ai
 have Q:=bB.drew ai
 have T:=Cn.below d ai
 refine AB 0 rfl (.mv rfl) rfl<|AB 1 rfl (.cat rfl rfl oL) rfl<|AB 2 rfl (.fa Av rfl E6 dD rfl) rfl<|AB 4 rfl (.mv rfl) rfl<|AB 10 rfl (.fa Av rfl CQ dD rfl) rfl<|AB 12 rfl (.mv rfl) rfl<|Ct 3 rfl 11 rfl ?_ ?_
 refine Aj (Ae (Fs _) rfl q rfl)<|A0<|AB 5 rfl (.ixb DD FP rfl rfl (f.isp oO) (a) (rfl) oO) rfl<|Ct 6 rfl 11 rfl ?_ ?_
 refine Aj (BG (FU _) rfl (f.cells (a) oO))<|A0<|Ct 7 rfl 11 rfl ?_ ?_
 refine Au (EY (keys[a]'oO) _ oO) (λei aj=>?_)
 have bD:=AJ.same (w1:=ei) P (λk hk hl=>(by obtain ⟨m,rfl⟩:=aj;rfl))
 have bE:=q.drew aj
 have bG:=f.drew aj
 have ar:=g.drew aj
 have bH:=Q.drew aj
 have dx:=Cn.below T aj
 refine A0<|AB 8 rfl (.cat rfl rfl oL) rfl<|AB 9 rfl (.cat rfl rfl oL) rfl<|Ao 11 rfl<|Aj (Ae (DW _) rfl bE rfl)<|A0<|AB 13 rfl (.ixm Cg Dd rfl rfl (ar.isp oO) (a) (rfl) oO) rfl<|Ao 14 rfl<|Aj (DG Av rfl Ah ar (a) oO rfl)<|A0<|Ao 15 rfl<|Cs BQ rfl rfl ((ih (list[a]'oO) (V a oO) _ S (D-1) false _ ((bD).sub a oO oO) (E _ (Ar _)) oO)) (λej ak=>?_)
 have dy:=AJ.same (w1:=ej) bD (λk hk hl=>ak.block k hl)
 have dz:=bE.bl ak
 have dA:=AM.below bG ak (λb=>bG.lt b)
 have dB:=Ea ar ak (λb=>ar.lt b)
 have dC:=Fh bH ak (λb=>bH.lt b)
 have dE:=Ci dx ak
 refine A0<|AB 16 rfl (.cat rfl rfl oL) rfl<|AB 17 rfl (.as rfl) rfl<|Be kR<|An<|A3 rfl<|A1 (.iis (((a+1:Nat):Int)) (.add rfl rfl (Bb oO)) oO)<|A8 rfl ?_
 exact ⟨a+1,⟨rfl,JN rfl (by rw [X];simp),rfl,tT⟩,⟨dE,dz,dA,dB,dC,dy,oM⟩,oM⟩
 refine Aj (Ae (DW _) rfl q rfl)<|A0<|AB 13 rfl (.ixm Cg Dd rfl rfl (g.isp oO) (a) (rfl) oO) rfl<|Ct 7 rfl 14 rfl ?_ ?_
 refine Au (EY (keys[a]'oO) _ oO) (λek al=>?_)
 have bI:=AJ.same (w1:=ek) P (λk hk hl=>(by obtain ⟨m,rfl⟩:=al;rfl))
 have dG:=q.drew al
 have bJ:=f.drew al
 have aA:=g.drew al
 have bK:=Q.drew al
 have dH:=Cn.below T al
 refine A0<|AB 8 rfl (.cat rfl rfl oL) rfl<|AB 9 rfl (.cat rfl rfl oL) rfl<|Ao 14 rfl<|Aj (DG Av rfl Ah aA (a) oO rfl)<|A0<|Ao 15 rfl<|Cs BQ rfl rfl ((ih (list[a]'oO) (V a oO) _ S (D-1) false _ ((bI).sub a oO oO) (E _ (Ar _)) oO)) (λel am=>?_)
 have dI:=AJ.same (w1:=el) bI (λk hk hl=>am.block k hl)
 have dJ:=dG.bl am
 have dK:=AM.below bJ am (λb=>bJ.lt b)
 have dL:=Ea aA am (λb=>aA.lt b)
 have bM:=Fh bK am (λb=>bK.lt b)
 have bN:=Ci dH am
 refine A0<|AB 16 rfl (.cat rfl rfl oL) rfl<|AB 17 rfl (.as rfl) rfl<|Be kR<|An<|A3 rfl<|A1 (.iis (((a+1:Nat):Int)) (.add rfl rfl (Bb oO)) oO)<|A8 rfl ?_
 exact ⟨a+1,⟨rfl,JN rfl (by rw [X];simp),rfl,tT⟩,⟨bN,dJ,dK,dL,bM,dI,oM⟩,oM⟩
 refine Aj (DG Av rfl Ah g (a) oO rfl)<|A0<|Ao 7 rfl<|Au (EY (keys[a]'oO) _ oO) (λdM Y=>?_)
 have aE:=AJ.same (w1:=dM) P (λk hk hl=>(by obtain ⟨m,rfl⟩:=Y;rfl))
 have bO:=q.drew Y
 have aF:=f.drew Y
 have aG:=g.drew Y
 have aH:=Q.drew Y
 have bP:=Cn.below T Y
 refine A0<|AB 8 rfl (.cat rfl rfl oL) rfl<|AB 9 rfl (.cat rfl rfl oL) rfl<|Ao 15 rfl<|Cs BQ rfl rfl ((ih (list[a]'oO) (V a oO) _ S (D-1) false _ ((aE).sub a oO oO) (E _ (Ar _)) oO)) (λdN a0=>?_)
 have bQ:=AJ.same (w1:=dN) aE (λk hk hl=>a0.block k hl)
 have bR:=bO.bl a0
 have bS:=AM.below aF a0 (λb=>aF.lt b)
 have bT:=Ea aG a0 (λb=>aG.lt b)
 have bU:=Fh aH a0 (λb=>aH.lt b)
 have bV:=Ci bP a0
 refine A0<|AB 16 rfl (.cat rfl rfl oL) rfl<|AB 17 rfl (.as rfl) rfl<|Be kR<|An<|A3 rfl<|A1 (.iis (((a+1:Nat):Int)) (.add rfl rfl (Bb oO)) oO)<|A8 rfl ?_
 exact ⟨a+1,⟨rfl,JN rfl (by rw [X];simp),rfl,tT⟩,⟨bV,bR,bS,bT,bU,bQ,oM⟩,oM⟩
 refine Aj (Ae (DW _) rfl q rfl)<|A0<|AB 13 rfl (.ixm Cg Dd rfl rfl (g.isp oO) (a) (rfl) oO) rfl<|Ct 6 rfl 14 rfl ?_ ?_
 refine Aj (BG (FU _) rfl (f.cells (a) oO))<|A0<|Ct 7 rfl 14 rfl ?_ ?_
 refine Au (EY (keys[a]'oO) _ oO) (λdO a1=>?_)
 have aI:=AJ.same (w1:=dO) P (λk hk hl=>(by obtain ⟨m,rfl⟩:=a1;rfl))
 have bW:=q.drew a1
 have aJ:=f.drew a1
 have au:=g.drew a1
 have aK:=Q.drew a1
 have bX:=Cn.below T a1
 refine A0<|AB 8 rfl (.cat rfl rfl oL) rfl<|AB 9 rfl (.cat rfl rfl oL) rfl<|Ao 14 rfl<|Aj (DG Av rfl Ah au (a) oO rfl)<|A0<|Ao 15 rfl<|Cs BQ rfl rfl ((ih (list[a]'oO) (V a oO) _ S (D-1) false _ ((aI).sub a oO oO) (E _ (Ar _)) oO)) (λdP a2=>?_)
 have bY:=AJ.same (w1:=dP) aI (λk hk hl=>a2.block k hl)
 have bZ:=bW.bl a2
 have b':=AM.below aJ a2 (λb=>aJ.lt b)
 have c0:=Ea au a2 (λb=>au.lt b)
 have c2:=Fh aK a2 (λb=>aK.lt b)
 have c3:=Ci bX a2
 refine A0<|AB 16 rfl (.cat rfl rfl oL) rfl<|AB 17 rfl (.as rfl) rfl<|Be kR<|An<|A3 rfl<|A1 (.iis (((a+1:Nat):Int)) (.add rfl rfl (Bb oO)) oO)<|A8 rfl ?_
 exact ⟨a+1,⟨rfl,JN rfl (by rw [X];simp),rfl,tT⟩,⟨c3,bZ,b',c0,c2,bY,oM⟩,oM⟩
 refine Aj (DG Av rfl Ah g (a) oO rfl)<|A0<|Ao 7 rfl<|Au (EY (keys[a]'oO) _ oO) (λdQ a3=>?_)
 have aL:=AJ.same (w1:=dQ) P (λk hk hl=>(by obtain ⟨m,rfl⟩:=a3;rfl))
 have c4:=q.drew a3
 have aM:=f.drew a3
 have aN:=g.drew a3
 have aO:=Q.drew a3
 have c5:=Cn.below T a3
 refine A0<|AB 8 rfl (.cat rfl rfl oL) rfl<|AB 9 rfl (.cat rfl rfl oL) rfl<|Ao 15 rfl<|Cs BQ rfl rfl ((ih (list[a]'oO) (V a oO) _ S (D-1) false _ ((aL).sub a oO oO) (E _ (Ar _)) oO)) (λdR a4=>?_)
 have c6:=AJ.same (w1:=dR) aL (λk hk hl=>a4.block k hl)
 have c7:=c4.bl a4
 have c8:=AM.below aM a4 (λb=>aM.lt b)
 have c9:=Ea aN a4 (λb=>aN.lt b)
 have ca:=Fh aO a4 (λb=>aO.lt b)
 have cb:=Ci c5 a4
 refine A0<|AB 16 rfl (.cat rfl rfl oL) rfl<|AB 17 rfl (.as rfl) rfl<|Be kR<|An<|A3 rfl<|A1 (.iis (((a+1:Nat):Int)) (.add rfl rfl (Bb oO)) oO)<|A8 rfl ?_
 exact ⟨a+1,⟨rfl,JN rfl (by rw [X];simp),rfl,tT⟩,⟨cb,c7,c8,c9,ca,c6,oM⟩,oM⟩
 refine Aj (DG Av rfl Ah g (a) oO rfl)<|A0<|Ao 6 rfl<|Aj (BG (FU _) rfl (f.cells (a) oO))<|A0<|Ao 7 rfl<|Au (EY (keys[a]'oO) _ oO) (λdS a5=>?_)
 have aP:=AJ.same (w1:=dS) P (λk hk hl=>(by obtain ⟨m,rfl⟩:=a5;rfl))
 have cc:=q.drew a5
 have aQ:=f.drew a5
 have aR:=g.drew a5
 have aT:=Q.drew a5
 have cd:=Cn.below T a5
 refine A0<|AB 8 rfl (.cat rfl rfl oL) rfl<|AB 9 rfl (.cat rfl rfl oL) rfl<|Ao 15 rfl<|Cs BQ rfl rfl ((ih (list[a]'oO) (V a oO) _ S (D-1) false _ ((aP).sub a oO oO) (E _ (Ar _)) oO)) (λdU a6=>?_)
 have cf:=AJ.same (w1:=dU) aP (λk hk hl=>a6.block k hl)
 have cg:=cc.bl a6
 have ci:=AM.below aQ a6 (λb=>aQ.lt b)
 have cj:=Ea aR a6 (λb=>aR.lt b)
 have ck:=Fh aT a6 (λb=>aT.lt b)
 have cl:=Ci cd a6
 refine A0<|AB 16 rfl (.cat rfl rfl oL) rfl<|AB 17 rfl (.as rfl) rfl<|Be kR<|An<|A3 rfl<|A1 (.iis (((a+1:Nat):Int)) (.add rfl rfl (Bb oO)) oO)<|A8 rfl ?_
 exact ⟨a+1,⟨rfl,JN rfl (by rw [X];simp),rfl,tT⟩,⟨cl,cg,ci,cj,ck,cf,oM⟩,oM⟩
 refine Aj (Ae (DW _) rfl q rfl)<|A0<|AB 13 rfl (.ixm Cg Dd rfl rfl (g.isp oO) (a) (rfl) oO) rfl<|Ct 3 rfl 14 rfl ?_ ?_
 refine Aj (Ae (Fs _) rfl q rfl)<|A0<|AB 5 rfl (.ixb DD FP rfl rfl (f.isp oO) (a) (rfl) oO) rfl<|Ct 6 rfl 14 rfl ?_ ?_
 refine Aj (BG (FU _) rfl (f.cells (a) oO))<|A0<|Ct 7 rfl 14 rfl ?_ ?_
 refine Au (EY (keys[a]'oO) _ oO) (λdV a7=>?_)
 have aU:=AJ.same (w1:=dV) P (λk hk hl=>(by obtain ⟨m,rfl⟩:=a7;rfl))
 have cm:=q.drew a7
 have aV:=f.drew a7
 have av:=g.drew a7
 have aW:=Q.drew a7
 have cn:=Cn.below T a7
 refine A0<|AB 8 rfl (.cat rfl rfl oL) rfl<|AB 9 rfl (.cat rfl rfl oL) rfl<|Ao 14 rfl<|Aj (DG Av rfl Ah av (a) oO rfl)<|A0<|Ao 15 rfl<|Cs BQ rfl rfl ((ih (list[a]'oO) (V a oO) _ S (D-1) false _ ((aU).sub a oO oO) (E _ (Ar _)) oO)) (λdW a8=>?_)
 have co:=AJ.same (w1:=dW) aU (λk hk hl=>a8.block k hl)
 have cq:=cm.bl a8
 have cr:=AM.below aV a8 (λb=>aV.lt b)
 have ct:=Ea av a8 (λb=>av.lt b)
 have cu:=Fh aW a8 (λb=>aW.lt b)
 have cv:=Ci cn a8
 refine A0<|AB 16 rfl (.cat rfl rfl oL) rfl<|AB 17 rfl (.as rfl) rfl<|Be kR<|An<|A3 rfl<|A1 (.iis (((a+1:Nat):Int)) (.add rfl rfl (Bb oO)) oO)<|A8 rfl ?_
 exact ⟨a+1,⟨rfl,JN rfl (by rw [X];simp),rfl,tT⟩,⟨cv,cq,cr,ct,cu,co,oM⟩,oM⟩
 refine Aj (DG Av rfl Ah g (a) oO rfl)<|A0<|Ao 7 rfl<|Au (EY (keys[a]'oO) _ oO) (λdX a9=>?_)
 have aX:=AJ.same (w1:=dX) P (λk hk hl=>(by obtain ⟨m,rfl⟩:=a9;rfl))
 have cw:=q.drew a9
 have aY:=f.drew a9
 have aZ:=g.drew a9
 have a':=Q.drew a9
 have cy:=Cn.below T a9
 refine A0<|AB 8 rfl (.cat rfl rfl oL) rfl<|AB 9 rfl (.cat rfl rfl oL) rfl<|Ao 15 rfl<|Cs BQ rfl rfl ((ih (list[a]'oO) (V a oO) _ S (D-1) false _ ((aX).sub a oO oO) (E _ (Ar _)) oO)) (λdY aa=>?_)
 have cz:=AJ.same (w1:=dY) aX (λk hk hl=>aa.block k hl)
 have cA:=cw.bl aa
 have cB:=AM.below aY aa (λb=>aY.lt b)
 have cC:=Ea aZ aa (λb=>aZ.lt b)
 have cD:=Fh a' aa (λb=>a'.lt b)
 have cE:=Ci cy aa
 refine A0<|AB 16 rfl (.cat rfl rfl oL) rfl<|AB 17 rfl (.as rfl) rfl<|Be kR<|An<|A3 rfl<|A1 (.iis (((a+1:Nat):Int)) (.add rfl rfl (Bb oO)) oO)<|A8 rfl ?_
 exact ⟨a+1,⟨rfl,JN rfl (by rw [X];simp),rfl,tT⟩,⟨cE,cA,cB,cC,cD,cz,oM⟩,oM⟩
 refine Aj (DG Av rfl Ah g (a) oO rfl)<|A0<|Ao 6 rfl<|Aj (BG (FU _) rfl (f.cells (a) oO))<|A0<|Ao 7 rfl<|Au (EY (keys[a]'oO) _ oO) (λdZ ab=>?_)
 have b0:=AJ.same (w1:=dZ) P (λk hk hl=>(by obtain ⟨m,rfl⟩:=ab;rfl))
 have cF:=q.drew ab
 have b2:=f.drew ab
 have b3:=g.drew ab
 have b4:=Q.drew ab
 have cG:=Cn.below T ab
 refine A0<|AB 8 rfl (.cat rfl rfl oL) rfl<|AB 9 rfl (.cat rfl rfl oL) rfl<|Ao 15 rfl<|Cs BQ rfl rfl ((ih (list[a]'oO) (V a oO) _ S (D-1) false _ ((b0).sub a oO oO) (E _ (Ar _)) oO)) (λd' ac=>?_)
 have cH:=AJ.same (w1:=d') b0 (λk hk hl=>ac.block k hl)
 have cI:=cF.bl ac
 have cJ:=AM.below b2 ac (λb=>b2.lt b)
 have cK:=Ea b3 ac (λb=>b3.lt b)
 have cL:=Fh b4 ac (λb=>b4.lt b)
 have cM:=Ci cG ac
 refine A0<|AB 16 rfl (.cat rfl rfl oL) rfl<|AB 17 rfl (.as rfl) rfl<|Be kR<|An<|A3 rfl<|A1 (.iis (((a+1:Nat):Int)) (.add rfl rfl (Bb oO)) oO)<|A8 rfl ?_
 exact ⟨a+1,⟨rfl,JN rfl (by rw [X];simp),rfl,tT⟩,⟨cM,cI,cJ,cK,cL,cH,oM⟩,oM⟩
 refine Aj (DG Av rfl Ah g (a) oO rfl)<|A0<|Ao 3 rfl<|Aj (Ae (Fs _) rfl q rfl)<|A0<|AB 5 rfl (.ixb DD FP rfl rfl (f.isp oO) (a) (rfl) oO) rfl<|Ao 6 rfl<|Aj (BG (FU _) rfl (f.cells (a) oO))<|A0<|Ao 7 rfl<|Au (EY (keys[a]'oO) _ oO) (λe0 ad=>?_)
 have b5:=AJ.same (w1:=e0) P (λk hk hl=>(by obtain ⟨m,rfl⟩:=ad;rfl))
 have cN:=q.drew ad
 have b6:=f.drew ad
 have b7:=g.drew ad
 have b8:=Q.drew ad
 have cO:=Cn.below T ad
 refine A0<|AB 8 rfl (.cat rfl rfl oL) rfl<|AB 9 rfl (.cat rfl rfl oL) rfl<|Ao 15 rfl<|Cs BQ rfl rfl ((ih (list[a]'oO) (V a oO) _ S (D-1) false _ ((b5).sub a oO oO) (E _ (Ar _)) oO)) (λe4 ae=>?_)
 have cP:=AJ.same (w1:=e4) b5 (λk hk hl=>ae.block k hl)
 have cQ:=cN.bl ae
 have cR:=AM.below b6 ae (λb=>b6.lt b)
 have cS:=Ea b7 ae (λb=>b7.lt b)
 have cT:=Fh b8 ae (λb=>b8.lt b)
 have cU:=Ci cO ae
 refine A0<|AB 16 rfl (.cat rfl rfl oL) rfl<|AB 17 rfl (.as rfl) rfl<|Be kR<|An<|A3 rfl<|A1 (.iis (((a+1:Nat):Int)) (.add rfl rfl (Bb oO)) oO)<|A8 rfl ?_
 exact ⟨a+1,⟨rfl,JN rfl (by rw [X];simp),rfl,tT⟩,⟨cU,cQ,cR,cS,cT,cP,oM⟩,oM⟩
 have dw:=dF bC
 refine BL<|Ad<|Ad ?_
 have bA:list.take a=list:=Al oO
 have e5:keys.take a=keys:=Al oO
 rw [bA,e5]
 refine An<|A1 (.fa Av rfl BI dD rfl)<|Aj (Ae (C5 _) rfl ah rfl)<|A1 (.eql rfl rfl)<|A0<|Ai rfl (λaB=>?_) (λaB=>?_)
 have cV:=dT aB
 refine A4<|A3 rfl<|A1 (.cat rfl rfl oL)<|A8 rfl<|AY ?_
 first
 | (rw [A5 aS] at hX;subst hX;exact ⟨rfl,d⟩)
 | (rw [A2 oO,A5 aS,A5 aS] at hX;subst hX;exact ⟨rfl,d⟩)
 | (rw [A2 oO,A5 aS,A2 aS] at hX;subst hX;exact ⟨rfl,d⟩)
 | (rw [A2 oO,A2 oO,A5 aS] at hX;subst hX;exact ⟨rfl,d⟩)
 | (rw [A2 oO,A2 oO,A2 oO,A5 aS] at hX;subst hX;exact ⟨rfl,d⟩)
 | (rw [A2 oO,A2 oO,A2 oO,A2 oO,A5 aS] at hX;subst hX;exact ⟨rfl,d⟩)
 | (rw [A2 oO,A2 oO,A2 oO,A2 oO,A2 oO,A5 aS] at hX;subst hX;exact ⟨rfl,d⟩)
 | (rw [A2 oO,A2 oO,A2 oO,A2 oO,A2 oO,A2 oO,A5 aS] at hX;subst hX;exact ⟨rfl,d⟩)
 | exact ⟨AQ (by rw [hX];rfl),d⟩
 | exact ⟨AQ (by rw [hX,A5 aS];simp),d⟩
 | exact ⟨AQ (by rw [hX,A2 aS];simp [Gf]),d⟩
 have cV:=dF aB
 refine As<|Ad ?_
 have eK:=Kg (data.length:Int) oO oO
 refine F2 14 rfl BS (λet aw=>?_)
 have af:=ah.drew aw
 have F:=bB.drew aw
 have ag:=Cn.below d aw
 refine AB 0 rfl (.mv rfl) rfl<|AB 1 rfl (.cat rfl rfl oL) rfl<|AB 2 rfl (.fa Av rfl CZ dD rfl) rfl<|AB 8 rfl (.fa Av rfl CZ dD rfl) rfl<|Ct 3 rfl 9 rfl ?_ ?_
 refine Aj (Ae (g22_ _) rfl af rfl)<|A0<|AB 4 rfl (.lenS B1 rfl) rfl<|Ct 5 rfl 9 rfl ?_ ?_
 refine Cs BQ rfl rfl ((FE _ _ oO oO)) (λeu ax=>?_)
 have cW:=af.bl ax
 have cX:=Fh F ax (λb=>F.lt b)
 have u:=Ci ag ax
 refine A0<|AB 6 rfl (.cat rfl rfl oL) rfl<|AB 7 rfl (.cat rfl rfl oL) rfl<|Ao 9 rfl<|Aj (Ae (g22_ _) rfl cW rfl)<|A0<|Ao 10 rfl<|Aj (Fa (l:=data) B1 Ga FV rfl (cX))<|A0<|AB 11 rfl (.cat rfl rfl oL) rfl<|AB 12 rfl (.cat rfl rfl oL) rfl<|AB 13 rfl (.as rfl) rfl<|Be kR<|AY ?_
 first
 | (rw [A5 aS] at hX;subst hX;exact ⟨rfl,u⟩)
 | (rw [A2 oO,A5 aS,A5 aS] at hX;subst hX;exact ⟨rfl,u⟩)
 | (rw [A2 oO,A5 aS,A2 aS] at hX;subst hX;exact ⟨rfl,u⟩)
 | (rw [A2 oO,A2 oO,A5 aS] at hX;subst hX;exact ⟨rfl,u⟩)
 | (rw [A2 oO,A2 oO,A2 oO,A5 aS] at hX;subst hX;exact ⟨rfl,u⟩)
 | (rw [A2 oO,A2 oO,A2 oO,A2 oO,A5 aS] at hX;subst hX;exact ⟨rfl,u⟩)
 | (rw [A2 oO,A2 oO,A2 oO,A2 oO,A2 oO,A5 aS] at hX;subst hX;exact ⟨rfl,u⟩)
 | (rw [A2 oO,A2 oO,A2 oO,A2 oO,A2 oO,A2 oO,A5 aS] at hX;subst hX;exact ⟨rfl,u⟩)
 | exact ⟨AQ (by rw [hX];rfl),u⟩
 | exact ⟨AQ (by rw [hX,A5 aS];simp),u⟩
 | exact ⟨AQ (by rw [hX,A2 aS];simp [Gf]),u⟩
 refine Aj (Ae (g22_ _) rfl af rfl)<|A0<|Ct 5 rfl 10 rfl ?_ ?_
 refine Cs BQ rfl rfl ((FE _ _ oO oO)) (λev b9=>?_)
 have cY:=Fh F b9 (λb=>F.lt b)
 have v:=Ci ag b9
 refine A0<|AB 6 rfl (.cat rfl rfl oL) rfl<|AB 7 rfl (.cat rfl rfl oL) rfl<|Ao 10 rfl<|Aj (Fa (l:=data) B1 Ga FV rfl (cY))<|A0<|AB 11 rfl (.cat rfl rfl oL) rfl<|AB 12 rfl (.cat rfl rfl oL) rfl<|AB 13 rfl (.as rfl) rfl<|Be kR<|AY ?_
 first
 | (rw [A5 aS] at hX;subst hX;exact ⟨rfl,v⟩)
 | (rw [A2 oO,A5 aS,A5 aS] at hX;subst hX;exact ⟨rfl,v⟩)
 | (rw [A2 oO,A5 aS,A2 aS] at hX;subst hX;exact ⟨rfl,v⟩)
 | (rw [A2 oO,A2 oO,A5 aS] at hX;subst hX;exact ⟨rfl,v⟩)
 | (rw [A2 oO,A2 oO,A2 oO,A5 aS] at hX;subst hX;exact ⟨rfl,v⟩)
 | (rw [A2 oO,A2 oO,A2 oO,A2 oO,A5 aS] at hX;subst hX;exact ⟨rfl,v⟩)
 | (rw [A2 oO,A2 oO,A2 oO,A2 oO,A2 oO,A5 aS] at hX;subst hX;exact ⟨rfl,v⟩)
 | (rw [A2 oO,A2 oO,A2 oO,A2 oO,A2 oO,A2 oO,A5 aS] at hX;subst hX;exact ⟨rfl,v⟩)
 | exact ⟨AQ (by rw [hX];rfl),v⟩
 | exact ⟨AQ (by rw [hX,A5 aS];simp),v⟩
 | exact ⟨AQ (by rw [hX,A2 aS];simp [Gf]),v⟩
 refine Aj (Fa (l:=data) B1 Ga FV rfl (F))<|A0<|Ao 5 rfl<|Cs BQ rfl rfl ((FE _ _ oO oO)) (λew cZ=>?_)
 have y:=Ci ag cZ
 refine A0<|AB 6 rfl (.cat rfl rfl oL) rfl<|AB 7 rfl (.cat rfl rfl oL) rfl<|AB 11 rfl (.cat rfl rfl oL) rfl<|AB 12 rfl (.cat rfl rfl oL) rfl<|AB 13 rfl (.as rfl) rfl<|Be kR<|AY ?_
 first
 | (rw [A5 aS] at hX;subst hX;exact ⟨rfl,y⟩)
 | (rw [A2 oO,A5 aS,A5 aS] at hX;subst hX;exact ⟨rfl,y⟩)
 | (rw [A2 oO,A5 aS,A2 aS] at hX;subst hX;exact ⟨rfl,y⟩)
 | (rw [A2 oO,A2 oO,A5 aS] at hX;subst hX;exact ⟨rfl,y⟩)
 | (rw [A2 oO,A2 oO,A2 oO,A5 aS] at hX;subst hX;exact ⟨rfl,y⟩)
 | (rw [A2 oO,A2 oO,A2 oO,A2 oO,A5 aS] at hX;subst hX;exact ⟨rfl,y⟩)
 | (rw [A2 oO,A2 oO,A2 oO,A2 oO,A2 oO,A5 aS] at hX;subst hX;exact ⟨rfl,y⟩)
 | (rw [A2 oO,A2 oO,A2 oO,A2 oO,A2 oO,A2 oO,A5 aS] at hX;subst hX;exact ⟨rfl,y⟩)
 | exact ⟨AQ (by rw [hX];rfl),y⟩
 | exact ⟨AQ (by rw [hX,A5 aS];simp),y⟩
 | exact ⟨AQ (by rw [hX,A2 aS];simp [Gf]),y⟩
 refine Aj (Ae (g22_ _) rfl af rfl)<|A0<|Ct 3 rfl 10 rfl ?_ ?_
 refine Aj (Ae (g22_ _) rfl af rfl)<|A0<|AB 4 rfl (.lenS B1 rfl) rfl<|Ct 5 rfl 10 rfl ?_ ?_
 refine Cs BQ rfl rfl ((FE _ _ oO oO)) (λex ba=>?_)
 have c':=Fh F ba (λb=>F.lt b)
 have A:=Ci ag ba
 refine A0<|AB 6 rfl (.cat rfl rfl oL) rfl<|AB 7 rfl (.cat rfl rfl oL) rfl<|Ao 10 rfl<|Aj (Fa (l:=data) B1 Ga FV rfl (c'))<|A0<|AB 11 rfl (.cat rfl rfl oL) rfl<|AB 12 rfl (.cat rfl rfl oL) rfl<|AB 13 rfl (.as rfl) rfl<|Be kR<|AY ?_
 first
 | (rw [A5 aS] at hX;subst hX;exact ⟨rfl,A⟩)
 | (rw [A2 oO,A5 aS,A5 aS] at hX;subst hX;exact ⟨rfl,A⟩)
 | (rw [A2 oO,A5 aS,A2 aS] at hX;subst hX;exact ⟨rfl,A⟩)
 | (rw [A2 oO,A2 oO,A5 aS] at hX;subst hX;exact ⟨rfl,A⟩)
 | (rw [A2 oO,A2 oO,A2 oO,A5 aS] at hX;subst hX;exact ⟨rfl,A⟩)
 | (rw [A2 oO,A2 oO,A2 oO,A2 oO,A5 aS] at hX;subst hX;exact ⟨rfl,A⟩)
 | (rw [A2 oO,A2 oO,A2 oO,A2 oO,A2 oO,A5 aS] at hX;subst hX;exact ⟨rfl,A⟩)
 | (rw [A2 oO,A2 oO,A2 oO,A2 oO,A2 oO,A2 oO,A5 aS] at hX;subst hX;exact ⟨rfl,A⟩)
 | exact ⟨AQ (by rw [hX];rfl),A⟩
 | exact ⟨AQ (by rw [hX,A5 aS];simp),A⟩
 | exact ⟨AQ (by rw [hX,A2 aS];simp [Gf]),A⟩
 refine Aj (Fa (l:=data) B1 Ga FV rfl (F))<|A0<|Ao 5 rfl<|Cs BQ rfl rfl ((FE _ _ oO oO)) (λey d0=>?_)
 have B:=Ci ag d0
 refine A0<|AB 6 rfl (.cat rfl rfl oL) rfl<|AB 7 rfl (.cat rfl rfl oL) rfl<|AB 11 rfl (.cat rfl rfl oL) rfl<|AB 12 rfl (.cat rfl rfl oL) rfl<|AB 13 rfl (.as rfl) rfl<|Be kR<|AY ?_
 first
 | (rw [A5 aS] at hX;subst hX;exact ⟨rfl,B⟩)
 | (rw [A2 oO,A5 aS,A5 aS] at hX;subst hX;exact ⟨rfl,B⟩)
 | (rw [A2 oO,A5 aS,A2 aS] at hX;subst hX;exact ⟨rfl,B⟩)
 | (rw [A2 oO,A2 oO,A5 aS] at hX;subst hX;exact ⟨rfl,B⟩)
 | (rw [A2 oO,A2 oO,A2 oO,A5 aS] at hX;subst hX;exact ⟨rfl,B⟩)
 | (rw [A2 oO,A2 oO,A2 oO,A2 oO,A5 aS] at hX;subst hX;exact ⟨rfl,B⟩)
 | (rw [A2 oO,A2 oO,A2 oO,A2 oO,A2 oO,A5 aS] at hX;subst hX;exact ⟨rfl,B⟩)
 | (rw [A2 oO,A2 oO,A2 oO,A2 oO,A2 oO,A2 oO,A5 aS] at hX;subst hX;exact ⟨rfl,B⟩)
 | exact ⟨AQ (by rw [hX];rfl),B⟩
 | exact ⟨AQ (by rw [hX,A5 aS];simp),B⟩
 | exact ⟨AQ (by rw [hX,A2 aS];simp [Gf]),B⟩
 refine Aj (Fa (l:=data) B1 Ga FV rfl (F))<|A0<|Ao 3 rfl<|Aj (Ae (g22_ _) rfl af rfl)<|A0<|AB 4 rfl (.lenS B1 rfl) rfl<|Ao 5 rfl<|Cs BQ rfl rfl ((FE _ _ oO oO)) (λez d1=>?_)
 have C:=Ci ag d1
 refine A0<|AB 6 rfl (.cat rfl rfl oL) rfl<|AB 7 rfl (.cat rfl rfl oL) rfl<|AB 11 rfl (.cat rfl rfl oL) rfl<|AB 12 rfl (.cat rfl rfl oL) rfl<|AB 13 rfl (.as rfl) rfl<|Be kR<|AY ?_
 first
 | (rw [A5 aS] at hX;subst hX;exact ⟨rfl,C⟩)
 | (rw [A2 oO,A5 aS,A5 aS] at hX;subst hX;exact ⟨rfl,C⟩)
 | (rw [A2 oO,A5 aS,A2 aS] at hX;subst hX;exact ⟨rfl,C⟩)
 | (rw [A2 oO,A2 oO,A5 aS] at hX;subst hX;exact ⟨rfl,C⟩)
 | (rw [A2 oO,A2 oO,A2 oO,A5 aS] at hX;subst hX;exact ⟨rfl,C⟩)
 | (rw [A2 oO,A2 oO,A2 oO,A2 oO,A5 aS] at hX;subst hX;exact ⟨rfl,C⟩)
 | (rw [A2 oO,A2 oO,A2 oO,A2 oO,A2 oO,A5 aS] at hX;subst hX;exact ⟨rfl,C⟩)
 | (rw [A2 oO,A2 oO,A2 oO,A2 oO,A2 oO,A2 oO,A5 aS] at hX;subst hX;exact ⟨rfl,C⟩)
 | exact ⟨AQ (by rw [hX];rfl),C⟩
 | exact ⟨AQ (by rw [hX,A5 aS];simp),C⟩
 | exact ⟨AQ (by rw [hX,A2 aS];simp [Gf]),C⟩
end
section
theorem A0U  {a:Nat} {d:Int} {t:Nat} (ha:a<=l.length) (hs:AW false l a=t) (ht:t<l.length):SX l a d=match EJ true l d.toNat t with | .ok (o,t')=>(o,(t':Int),0) | .error k=>(IL 0 0 [],0,k):=by
 unfold SX
 rw [A2 oO,show (a:Int).toNat=a from rfl,hs,A5 ht]
 all_goals (cases EJ true l d.toNat t <;> rfl)
end
section
def sx (l r:l8_):Nat:=l.length-r.length
theorem Gq (l r:l8_):sx l r<=l.length:=Nat.sub_le _ _
theorem Eu  {r:l8_} (h:r <:+ l):l.drop (sx l r)=r:=by
 obtain ⟨a,rfl⟩:=h
 unfold sx
 rw [A9,G8,List.drop_left]
theorem DN  {r:l8_} (h:(A++r) <:+ l):r <:+ l:=(List.suffix_append A r).trans h
theorem E8  {r:l8_} {c:UInt8} (h:(c::r) <:+ l):r <:+ l:=(List.suffix_cons c r).trans h
theorem MQ  {r:l8_} (h:(A++r) <:+ l):sx l (A++r)+A.length=sx l r:=by
 have:=h.length_le
 unfold sx;simp only [A9] at this ⊢;omega
theorem Hq  {r:l8_} (h:r <:+ l):sx l r+r.length=l.length:=by
 have:=h.length_le
 unfold sx;omega
theorem Sm (n:Nat) (hn:n<10000000000):Fv (B0 n)=true:=by
 have d:=Dv 9 n oO
 have a:=Nh n
 have b:(B0 n).all BN=true:=AP.2 λc hc=>by
  have:=I0 n c hc
  unfold BN
  simp [this.1,this.2]
 unfold Fv
 simp [a,b];omega
section
variable {br:Nat} {p:Option Addr} {l:l8_} {c:Nat} {w:World}
theorem IX (B s r:l8_) (h:B4 w br (IK p l c (sx l (B++(s++r)))) 78) (hb:Af w p l) (hc:l.length<=c) (hl:l.length<=100000000) (hpb:0<l.length->(pA p).block≠br)
  (hs:(B++(s++r)) <:+ l) (hB:∀ c∈B,CJ c=true) (hs0:s≠[]) (hreg:∀ c∈s,D1 c=true) (hr:O7 r) :
  Calls Tryz.prog 52 #[ptV br,.string (bs s)] w λe w'=>e=.returned (.tuple #[])/\B9 w.heap.size [br] w w'/\B4 w' br (IK p l c (sx l r)) 78:=by
 obtain ⟨a,b,-,-⟩:=P7 (Eu hs) hB hs0 hreg hr
 have:=A0J br p l c (sx l _) s w h hb hc hl (Gq _ _) hpb a
 rw [b] at this;exact this
theorem Lp (n:Nat) (hn:n<10000000000) (B r:l8_) (h:B4 w br (IK p l c (sx l (B++(B0 n++r)))) 78) (hb:Af w p l) (hc:l.length<=c) (hl:l.length<=100000000) (hpb:0<l.length->(pA p).block≠br)
  (hs:(B++(B0 n++r)) <:+ l) (hB:∀ c∈B,CJ c=true) (hr:O7 r) :
  Calls Tryz.prog 75 #[ptV br] w λe w'=>e=.returned (Ag (n:Int))/\B9 w.heap.size [br] w w'/\B4 w' br (IK p l c (sx l r)) 78:=by
 obtain ⟨a,b,-,-⟩:=P7 (Eu hs) hB (Nh n) (Ng n) hr
 have:=WB br p l c (sx l _) (B0 n) w h hb hc hl (Gq _ _) hpb a (Sm n hn)
 rw [b,show Ck (B0 n)=n from K3 n] at this;exact this
theorem Jh (b d:UInt8) (r:l8_) (h:B4 w br (IK p l c (sx l (b::d::r))) 78) (hb:Af w p l) (hl:l.length<=100000000) (hpb:0<l.length->(pA p).block≠br)
  (hs:(b::d::r) <:+ l) (hbb:CJ b=true) (hd:CJ d=false) :
  Calls Tryz.prog 29 #[ptV br] w λe w'=>e=.returned (.tuple #[])/\B9 w.heap.size [br] w w'/\B4 w' br (IK p l c (sx l (d::r))) 78:=by
 have hD:=Eu hs
 have a:=Hq hs
 simp only [Aa] at a
 have f:l[sx l (b::d::r)]'oO=b:=by
  have q:=Aw (l:=l) (i:=sx l (b::d::r)) oO
  rw [hD] at q;injection q with q1 q2;exact q1.symm
 have g:l[sx l (b::d::r)+1]'oO=d:=by
  have q:=Aw (l:=l) (i:=sx l (b::d::r)+1) oO
  rw [<- DU,hD] at q;simp only [List.drop_succ_cons,Lh] at q;injection q with q1 q2;exact q1.symm
 have hA:sx l (b::d::r)+1=sx l (d::r):=MQ (A:=[b]) hs
 have:=WJ br p l c (sx l (b::d::r)) 1 w h hb hl oO oO hpb (λj hj k m=>by
  obtain rfl:j=sx l (b::d::r):=by omega
  rw [f];exact hbb) (λ_=>by rw [g];exact hd)
 rw [hA] at this;exact this
theorem WE (n:Nat) (hn:n<10000000000) (r:l8_) (h:B4 w br (IK p l c (sx l (DX n++r))) 78) (hb:Af w p l) (hc:l.length<=c) (hl:l.length<=100000000) (hpb:0<l.length->(pA p).block≠br)
  (hs:(DX n++r) <:+ l):Calls Tryz.prog 76 #[ptV br] w λe w'=>e=.returned (.tuple #[Ag (n:Int),.bool true])/\B9 w.heap.size [br] w w'/\B4 w' br (IK p l c (sx l r)) 78:=by
 have:=Yq br p l c _ n r w h hb hc hl hpb hn (Eu hs)
 rw [<- Js hn,MQ hs] at this;exact this
theorem WC (r:l8_) (h:B4 w br (IK p l c (sx l (E0++r))) 78) (hb:Af w p l) (hc:l.length<=c) (hl:l.length<=100000000) (hpb:0<l.length->(pA p).block≠br)
  (hs:(E0++r) <:+ l):Calls Tryz.prog 76 #[ptV br] w λe w'=>e=.returned (.tuple #[Ag 0,.bool false])/\B9 w.heap.size [br] w w'/\B4 w' br (IK p l c (sx l r)) 78:=by
 have a:=Hq hs
 have b:E0.length=20:=rfl
 have:=WG br p l c _ r w h hb hc hl hpb (by rw [A9] at a;omega) (Eu hs)
 rw [<- b,MQ hs] at this;exact this
end
theorem Dz {c:UInt8} {r:l8_} (h:CJ c=true):O7 (c::r):=XE h
theorem SH (br:Nat) (p:Option Addr) (l:l8_) (c n:Nat) (hn:n<10000000000) (r:l8_) (w:World) (h:B4 w br (IK p l c (sx l (B0 n++(32::48::32::111::98::106::10::r)))) 78) (hb:Af w p l) (hc:l.length<=c) (hl:l.length<=100000000) (hpb:0<l.length->(pA p).block≠br)
  (hs:(B0 n++(32::48::32::111::98::106::10::r)) <:+ l) :
  Calls Tryz.prog 139 #[ptV br,Ag (n:Int)] w λe w'=>e=.returned (.tuple #[])/\B9 w.heap.size [br] w w'/\B4 w' br (IK p l c (sx l (10::r))) 78:=by
 have o:=DN hs
 have x:=DN (A:=[32,48]) o
 refine AF func139 rfl ntmps139 ?_
 have g:=B9.refl w.heap.size ([br]) w
 refine A4<|A3 rfl<|Au (Lp n hn [] _ h hb hc hl hpb hs (by simp) (Dz dD)) (λy a=>?_)
 have b:=Af.keepB hb a.1 (λd=>⟨hb.lt d,by simpa using (hpb) d⟩)
 have i:=E7 g (Do a.1 g.size (by simp <;> omega))
 have q:=a.2
 refine A3 rfl<|A1 (.bis (true) (.eql rfl rfl) (by simp))<|Au (CN _) (λB s=>?_)
 obtain rfl:=s
 refine A0<|A4<|A3 rfl<|Au (IX [32] [48] _ q b hc hl hpb o dD dD dD (Dz dD)) (λC f=>?_)
 have t:=Af.keepB b f.1 (λd=>⟨b.lt d,by simpa using (hpb) d⟩)
 have j:=E7 i (Do f.1 i.size (by simp <;> omega))
 have u:=f.2
 refine A0<|An<|A3 rfl<|Au (IX [32] [111,98,106] _ u t hc hl hpb x dD dD dD (Dz dD)) (λD k=>?_)
 have m:=E7 j (Do k.1 j.size (by simp <;> omega))
 have v:=k.2
 refine A0<|D9 (CU rfl ?_)
 exact ⟨rfl,m,v⟩
def RF (ps:List Nat) (x:Int):Option Int:=if 1<=x then (ps[(x-1).toNat]?).map λn=>(n:Int) else none
def JT (i:Nat) (x:Int):Option Int:=if 0<=x/\x<i then some 1 else none
theorem Ws (i:Nat):(λx:Int=>if x=(i:Int) then some (1:Int) else JT i x)=JT (i+1):=by
 funext x
 unfold JT
 by_cases h:x=(i:Int)
 · rw [A5 h,A5 oO]
 ·
  rw [A2 h]
  by_cases h2:0<=x/\x<i
  · rw [A5 h2,A5 oO]
  · rw [A2 h2,A2 oO]
theorem LY (i:Nat):JT i (i:Int)=none:=by unfold JT;rw [A2 oO]
theorem VE (ps:List Nat) (i:Nat) (h:i<ps.length):(λx:Int=>if x=((i+1:Nat):Int) then some (ps[i]:Int) else RF (ps.take i) x)=RF (ps.take (i+1)):=by
 funext x
 unfold RF
 by_cases h1:x=((i+1:Nat):Int)
 · rw [A5 h1,A5 oO,show (x-1).toNat=i by omega,List.getElem?_take,A5 oO,Ak h];rfl
 ·
  rw [A2 h1]
  by_cases h2:1<=x
  ·
   rw [A5 h2,A5 h2,List.getElem?_take,List.getElem?_take]
   by_cases h3:(x-1).toNat<i
   · rw [A5 h3,A5 oO]
   · rw [A2 h3,A2 oO]
  · rw [A2 h2,A2 h2]
theorem Yw (ps:List Nat) (i:Nat):RF (ps.take i) ((i+1:Nat):Int)=none:=by
 unfold RF
 rw [A5 oO,show (((i+1:Nat):Int)-1).toNat=i by omega,List.getElem?_take,A2 oO];rfl
theorem A0R:RF []=λ_=>none:=by funext x;unfold RF;split <;> simp
theorem Yv (ps:List Nat) (j:Nat) (h:j<ps.length):RF ps ((j+1:Nat):Int)=some (ps[j]:Int):=by
 unfold RF
 rw [A5 oO,show (((j+1:Nat):Int)-1).toNat=j by omega,Ak h];rfl
end
section
theorem wfI {n:Int} (h:-9223372036854775808<=n/\n<=9223372036854775807):(Lit.int .i64 n).wf=true:=by
 simp only [Lit.wf,AG,AI];exact h
def PS (ps:List Nat) (rest:l8_):Nat->l8_
 | 0=>E0++(ps.flatMap DX++rest)
 | i+1=>(ps.drop i).flatMap DX++rest
def plV (ps:List Nat):Nat->Nat
 | 0=>0
 | i+1=>ps.getD i 0
theorem WF (br:Nat) (p:Option Addr) (l:l8_) (c:Nat) (ps:List Nat) (rest:l8_) (i:Nat) (w:World) (h:B4 w br (IK p l c (sx l (PS ps rest i))) 78) (hb:Af w p l) (hc:l.length<=c) (hl:l.length<=100000000) (hpb:0<l.length->(pA p).block≠br)
  (hs:PS ps rest i <:+ l) (hps:∀ n∈ps,n<10000000000) (hi:i<ps.length+1) :
  Calls Tryz.prog 76 #[ptV br] w λe w'=>e=.returned (.tuple #[Ag (plV ps i:Int),.bool (decide (0<i))])/\B9 w.heap.size [br] w w'/\B4 w' br (IK p l c (sx l (PS ps rest (i+1)))) 78:=by
 cases i with
 | zero =>
  have:=WC _ h hb hc hl hpb hs
  simpa [PS,plV] using this
 | succ j =>
  have hj:j<ps.length:=by omega
  have e:PS ps rest (j+1)=DX ps[j]++PS ps rest (j+2):=by
   show (ps.drop j).flatMap DX++rest=DX ps[j]++((ps.drop (j+1)).flatMap DX++rest)
   rw [Aw hj,Dx,AS]
  rw [e] at h hs
  have:=WE ps[j] (hps _ (Ar hj)) _ h hb hc hl hpb hs
  have hv:plV ps (j+1)=ps[j]:=by show ps.getD j 0=_;rw [D8,Ak hj];rfl
  rw [hv,show decide (0<j+1)=true by simp]
  exact this
theorem Yh {ps:List Nat} {rest l:l8_} (h:(EB ps++rest) <:+ l):∀ i,i<=ps.length+1->PS ps rest i <:+ l
 | 0,_=>by
  show E0++(ps.flatMap DX++rest) <:+ l
  rw [<- AS];exact h
 | i+1,hi=>by
  have h1:ps.flatMap DX++rest <:+ l:=by
   unfold EB at h;rw [AS] at h;exact DN h
  show (ps.drop i).flatMap DX++rest <:+ l
  conv at h1=>lhs;rw [<- Ds i ps,List.flatMap_append,AS]
  exact DN h1
theorem Ut (br bf bs bm:Nat) (p:Option Addr) (l:l8_) (c:Nat) (cs:Array Value) (ps:List Nat) (rest:l8_) (w:World)
    (h:B4 w br (IK p l c (sx l (B0 0++(32::(B0 (ps.length+1)++(10::(EB ps++rest))))))) 78) (hf:B4 w bf cs 82) (h1:cs[1]?=some (.map (some bm)))
    (hms:Dn Tryz.prog 3 3 w bs 0 (JT 0) 0) (hmm:Dn Tryz.prog 3 3 w bm 0 (RF []) 0)
    (hb:Af w p l) (hc:l.length<=c) (hl:l.length<=100000000) (hs:(B0 0++(32::(B0 (ps.length+1)++(10::(EB ps++rest))))) <:+ l) (hps:∀ n∈ps,n<10000000000) (hpl:ps.length<=4096)
    (hpb:0<l.length->(pA p).block≠br) (hpb2:0<l.length->(pA p).block≠bs) (hpb3:0<l.length->(pA p).block≠bm)
    (n1:bf≠br) (n2:bs≠br) (n3:bm≠br) (n4:bs≠bm) (n5:bf≠bs) (n6:bf≠bm) :
    Calls Tryz.prog 54 #[ptV br,ptV bf,.map (some bs)] w λe w'=>e=.returned (.tuple #[])/\B9 w.heap.size [br,bs,bm] w w'/\B4 w' br (IK p l c (sx l rest)) 78 /\
      Dn Tryz.prog 3 3 w' bs (ps.length+1) (JT (ps.length+1)) (ps.length+1)/\Dn Tryz.prog 3 3 w' bm ps.length (RF ps) ps.length:=by
  have s1:=DN hs;have s2:(10::(EB ps++rest)) <:+ l:=DN (E8 s1);have s3:(EB ps++rest) <:+ l:=E8 s2;have a3:=Yh s3;have F:EB ps++rest=48::((E0.tail++ps.flatMap DX)++rest):=rfl;have e0:PS ps rest 0=48::((E0.tail++ps.flatMap DX)++rest):=by rw [<- F];show E0++(ps.flatMap DX++rest)=_;rw [<- AS];rfl
  have eN:PS ps rest (ps.length+1)=rest:=by show (ps.drop ps.length).flatMap DX++rest=rest;rw [NQ];rfl
  refine AF func54 rfl ntmps54 ?_;have V:=B9.refl w.heap.size ([br,bs,bm]) w;refine A4<|A3 rfl<|Au (Lp 0 dD [] _ h hb hc hl hpb hs (by simp) (Dz dD)) (λw1 o=>?_);have ae:=Dn.same (w1:=w1) hms (λk hk hl=>o.1.block k hl (by (simp only [A7,A6,Ax,not_or,Ab];omega)));have af:=Dn.same (w1:=w1) hmm (λk hk hl=>o.1.block k hl (by (simp only [A7,A6,Ax,not_or,Ab];omega)));have X:=B4.keepB hf o.1 hf.lt (by simp only [A7,A6,Ax,not_or,Ab];omega);have G:=Af.keepB hb o.1 (λm=>⟨hb.lt m,by simpa using (hpb) m⟩);have a0:=E7 V (Do o.1 V.size (by simp <;> omega));have ag:=o.2;refine A8 rfl<|A4<|A3 rfl<|Au (Lp (ps.length+1) oO [32] _ ag G hc hl hpb s1 dD (Dz dD)) (λw7 q=>?_);have ah:=Dn.same (w1:=w7) ae (λk hk hl=>q.1.block k hl (by (simp only [A7,A6,Ax,not_or,Ab];omega)));have ai:=Dn.same (w1:=w7) af (λk hk hl=>q.1.block k hl (by (simp only [A7,A6,Ax,not_or,Ab];omega)));have H:=B4.keepB X q.1 X.lt (by simp only [A7,A6,Ax,not_or,Ab];omega);have u:=Af.keepB G q.1 (λm=>⟨G.lt m,by simpa using (hpb) m⟩);have J:=E7 a0 (Do q.1 a0.size (by simp <;> omega));have aj:=q.2;refine A8 rfl<|A4<|A3 rfl<|Au (Jh 10 48 ((E0.tail++ps.flatMap DX)++rest) (by rw [<- F];exact aj) u hl hpb (by rw [<- F];exact s2) dD dD) (λa1 f=>?_);have a4:=Dn.same (w1:=a1) ah (λk hk hl=>f.1.block k hl (by (simp only [A7,A6,Ax,not_or,Ab];omega)));have a5:=Dn.same (w1:=a1) ai (λk hk hl=>f.1.block k hl (by (simp only [A7,A6,Ax,not_or,Ab];omega)));have a6:=B4.keepB H f.1 H.lt (by simp only [A7,A6,Ax,not_or,Ab];omega);have a7:=Af.keepB u f.1 (λm=>⟨u.lt m,by simpa using (hpb) m⟩);have a8:=E7 J (Do f.1 J.size (by simp <;> omega));have ak:=f.2
  refine A0<|A4<|A3 rfl<|A3 rfl<|A0<|AT<|BO (α:=Nat) (λt=>[(0,ptV br),(1,ptV bf),(2,.map (some bs)),(6,Ag 0),(18,Ag ((ps.length+1:Nat):Int)),(19,Ag (t:Int))]) (λt w'=>B9 w.heap.size [br,bs,bm] w w'/\B4 w' br (IK p l c (sx l (PS ps rest t))) 78/\B4 w' bf cs 82/\Af w' p l/\Dn Tryz.prog 3 3 w' bs t (JT t) t/\Dn Tryz.prog 3 3 w' bm (t-1) (RF (ps.take (t-1))) (t-1)/\t<=ps.length+1) (λt=>ps.length+1-t) (0) ⟨rfl,rfl,rfl,rfl,rfl,rfl,tT⟩ (⟨a8,by rw [e0];exact ak,a6,a7,a4,a5,FN _⟩) (λt w1 hR=>?_);obtain ⟨i,rfl⟩:=eX t;obtain ⟨q1,q2,q3,q4,q5,q6,q7⟩:=hR;refine A4<|A1 (.lss rfl rfl)<|A0<|Ad<|Ai rfl (λK=>?_) (λK=>?_)
  · have a9 := dT K
    refine As<|Ad<|AT<|A4<|A3 rfl<|A8 rfl<|A4<|A3 rfl<|Au (WF br p l c ps rest i _ q2 q4 hc hl hpb (a3 i oO) hps oO) (λa2 g=>?_);have v:=Dn.same (w1:=a2) q5 (λk hk hl=>g.1.block k hl (by (simp only [A7,A6,Ax,not_or,Ab];omega)));have aa:=Dn.same (w1:=a2) q6 (λk hk hl=>g.1.block k hl (by (simp only [A7,A6,Ax,not_or,Ab];omega)));have ab:=B4.keepB q3 g.1 q3.lt (by simp only [A7,A6,Ax,not_or,Ab];omega);have ac:=Af.keepB q4 g.1 (λm=>⟨q4.lt m,by simpa using (hpb) m⟩);have ad:=E7 q1 (Do g.1 q1.size (by simp <;> omega));have al:=g.2;refine A3 rfl<|A1 (.ext rfl rfl)<|A1 (.ext rfl rfl)<|CL rfl<|A8 rfl<|A4<|A3 rfl<|A3 rfl<|A1 (.iis ((i:Int)) (.add rfl rfl (Bb oO)) oO)<|A8 rfl<|Ad<|A4<|A3 rfl<|A1 (.bis (false) (.gtr rfl rfl) (by exact AH oO))<|A3 rfl<|AE rfl<|A3 rfl<|AE rfl<|A3 rfl<|AE rfl<|Aj (ZZ v ML ML XP z3_ rfl rfl (wfI oO))<|AE rfl<|A1 (.bis (false) (.gtr rfl rfl) (by rw [LY];rfl))<|A1 (.pkF rfl rfl rfl)<|A0<|Ay rfl rfl<|As<|A4<|A3 rfl<|A3 rfl<|Aj (ZZ v ML ML XP z3_ rfl rfl (wfI oO))<|A1 (.iis (1) (.add rfl rfl (Bb (by rw [LY];decide))) (by rw [LY];rfl))<|ZO v ML ML XP rfl rfl rfl (wfI oO) (wfI dD) (oO) (λam U a ap=>?_);have x:=Dn.same (w1:=am) aa (λk hk hl=>a.other k oM);have s:=ab.up a;have y:=al.upd a oM;have B:=Af.upd ac a hpb2;have C:=E7 ad (by exact Qc a (by simp));refine A0<|Ad ?_;have D:=U;rw [Ws,LY,A2 (by simp)] at D;refine An<|A3 rfl<|A0<|Ai rfl (λan=>?_) (λan=>?_);obtain ⟨j,rfl⟩:∃ j,i=j+1:=⟨i-1,by have:=dT (show decide (0<i)=true by assumption);omega⟩;have hj:j<ps.length:=by omega
    have hv:plV ps (j+1)=ps[j]:=by show ps.getD j 0=_;rw [D8,Ak hj];rfl
    have ar:=hps _ (Ar hj);refine An<|A3 rfl<|A1 (.nck rfl)<|A1 (.fa PP rfl sizeOf80 dD rfl)<|Aj (Ae (isAgg80 _) rfl s h1)<|A3 rfl<|A3 rfl<|ZO x ML ML XP rfl rfl rfl (wfI oO) (wfI oO) (oO) (λao E b aq=>?_);have L:=Dn.same (w1:=ao) D (λk hk hl=>b.other k oM);have N:=s.up b;have P:=y.up b;have Q:=Af.upd B b hpb3;have T:=E7 C (by exact Qc b (by simp));refine A0<|An<|A1 (.add rfl rfl (Bb oO))<|A3 rfl<|A0<|?_
    first
    | (have d := E
       rw [hv] at d;simp only [G8] at d;rw [VE ps j hj,Yw,A2 (by simp)] at d;exact ⟨j+1+1,⟨rfl,rfl,rfl,rfl,rfl,rfl,tT⟩,⟨T,P,N,Q,L,d,oM⟩,oM⟩)
    | exact ⟨1,⟨rfl,rfl,rfl,rfl,rfl,rfl,tT⟩,⟨T,P,N,Q,L,E,oM⟩,oM⟩
    obtain rfl:i=0:=by have:=dF (show decide (0<i)=false by assumption);omega
    refine As<|An<|A1 (.add rfl rfl (Bb oO))<|A3 rfl<|A0<|?_
    first
    | (have d := x
       rw [hv] at d;simp only [G8] at d;rw [VE ps j hj,Yw,A2 (by simp)] at d;exact ⟨j+1+1,⟨rfl,rfl,rfl,rfl,rfl,rfl,tT⟩,⟨C,y,s,B,D,d,oM⟩,oM⟩)
    | exact ⟨1,⟨rfl,rfl,rfl,rfl,rfl,rfl,tT⟩,⟨C,y,s,B,D,x,oM⟩,oM⟩
  have a9:=dF K;refine BL<|D9 (CU rfl ?_);obtain rfl:i=ps.length+1:=by omega
  rw [eN] at q2;rw [G8,D7] at q6;exact ⟨rfl,q1,q2,q5,q6⟩
end
section
theorem Ta (q : Option Addr) (s : List (l8_)) (c : Nat) (x : l8_) (w : World) (hb : AM F4 w q s) (hl : s.length ≤ 1000000000) (i : Nat) (hi : i < s.length) (hx : s[i] = x) (hf : x ∉ s.take i) :
    Calls Tryz.prog 60 #[.slice q s.length c,.string (bs x)] w λe w'=>e=.returned (Ag (i:Int))/\w=w':=by
  refine AF func60 rfl ntmps60<|A4<|A8 rfl<|Ad<|A4<|A3 rfl<|A1 (.lenS DD rfl)<|A3 rfl<|A0<|AT<|BO (α:=Nat) (λt=>[(0,.slice q s.length c),(1,.string (bs x)),(7,Ag (s.length:Int)),(8,Ag (t:Int))]) (λt w'=>w=w'/\t<=i) (λt=>s.length-t) (0) ⟨rfl,rfl,rfl,rfl,tT⟩ (⟨rfl,FN _⟩) (λt h hR=>?_);obtain ⟨k,rfl⟩:=eX t;obtain ⟨rfl,hk⟩:=hR;refine A4<|A1 (.lss rfl rfl)<|A0<|Ad<|Ai rfl (λb=>?_) (λb=>?_)
  · have f := dT b
    refine As<|Ad<|AT<|A4<|A3 rfl<|A8 rfl<|A4<|A3 rfl<|A3 rfl<|A3 rfl<|A1 (.ixb DD FP rfl rfl (hb.isp oO) (k) (rfl) oO)<|Aj (BG (FU _) rfl (hb.cells (k) oO))<|A1 (.eqs rfl rfl)<|A0<|Ai rfl (λd=>?_) (λd=>?_)
    · have g := dT d
      refine A4<|A3 rfl<|A8 rfl<|AY ?_
      first
      | (exfalso;omega)
      | exact ⟨EO (by
          rcases By k i with a | a
          · exact Dp (show x∈s.take i by
              rw [show x=s[k]'oO by assumption];exact List.mem_take_iff_getElem.2 ⟨k,oO,rfl⟩) hf
          · obtain rfl : k = i := by omega
            rfl),rfl⟩
    have g:=dF d;refine As<|An<|A1 (.iis (((k+1:Nat):Int)) (.add rfl rfl (Bb oO)) oO)<|A3 rfl<|A0<|?_;exact ⟨k+1,⟨rfl,rfl,rfl,rfl,tT⟩,⟨rfl,by
      rcases By k i with a | a
      · ((try simp only) <;> omega)
      · obtain rfl : k = i := by omega
        exact Dp hx.symm aS⟩,oM⟩
  have f:=dF b;refine BL<|A4<|A8 rfl<|AY ?_
  first
  | (exfalso;omega)
  | exact ⟨EO (by
      rcases By k i with a | a
      · exact Dp (show x∈s.take i by
          rw [show x=s[k]'oO by assumption];exact List.mem_take_iff_getElem.2 ⟨k,oO,rfl⟩) hf
      · obtain rfl : k = i := by omega
        rfl),rfl⟩
theorem BJ.parts  {x:PC} {k n:Int} {t:l8_} {l:List PV} (h:BJ w S x (.mk k n t ks l)):∃ cs:List PC,x.kind=k/\x.n=n/\x.text=t/\DY S w (.slice x.kp x.kl x.kc) ks/\Rj S w (.slice x.lp x.ll x.lc) cs/\cs.length=l.length/\∀ i (h:i<cs.length) (h2:i<l.length),BJ w S cs[i] l[i]:=by
 obtain ⟨o,ho⟩:=eX (PV.mk k n t ks l)
 rw [<- ho] at h
 cases h with
 | mk _ keys list cs hk hr hlen hsub =>
  injection ho with h1 h2 h3 h4 h5
  subst h1 h2 h3 h4 h5
  exact ⟨cs,rfl,rfl,rfl,hk,hr,hlen,hsub⟩
def fdC (p:Option Addr) (l:l8_) (c bm:Nat) (y:PC):Array Value:=#[.slice p l.length c,.map (some bm),Ag y.kind,Ag y.n,.string (bs y.text),.slice y.kp y.kl y.kc,.slice y.lp y.ll y.lc,.slice none 0 0]
theorem Ku (bf bm:Nat) (p:Option Addr) (l:l8_) (c:Nat) (y:PC) (S:Nat->Prop) (kd n:Int) (tx:l8_) (ks:List (l8_)) (vs:List PV) (x:l8_) (i:Nat) (w:World) (h:B4 w bf (fdC p l c bm y) 82)
  (hy:BJ w S y (.mk kd n tx ks vs)) (hi:i<ks.length) (hi2:i<vs.length) (hl:ks.length<=1000000000) (hx:ks[i]=x) (hf:x ∉ ks.take i) :
  Calls Tryz.prog 56 #[ptV bf,.string (bs x)] w λe w'=>∃ z:{ z:PC // BJ w S z vs[i] },e=.returned (.agg (VF z.1).toArray)/\AL w w':=by
 obtain ⟨cs,-,-,-,hk,hr,J,m⟩:=hy.parts
 obtain ⟨A,K,U,L,-⟩:=hk.1.full
 obtain ⟨B,N,V,o,-⟩:=hr.1.full
 have q:=L.strs
 obtain ⟨yk,yn,yt,ykp,ykl,ykc,ylp,yll,ylc⟩:=y
 simp only at A B q o K N
 subst A B
 refine AF func56 rfl ntmps56 ?_
 have C:=Dh w
 refine A4<|Bm CA rfl (λX Q d s a P=>?_)
 have D:=Bt d h.lt
 have j:=h.un a D
 have t:=λb=>d▸q.lt b
 have E:=AM.upd q a (λb=>CV (t b))
 have u:=λb=>d▸o.lt b
 have k:=AA.upd o a (λb=>CV (u b))
 have F:=uB C d a
 refine A0<|A4<|A3 rfl<|A1 (.nck rfl)<|A1 (.fa PP rfl Dd dD rfl)<|A1 (.fa Av rfl E6 dD rfl)<|Aj (Ae (Fs _) rfl j rfl)<|A3 rfl<|Au (Ta _ ks _ x _ E hl i hi hx hf) (λY G=>?_)
 obtain rfl:=G
 refine A8 rfl<|Ad<|A4<|A3 rfl<|A1 (.lss rfl rfl)<|A0<|Ay rfl rfl<|As<|A4<|A3 rfl<|A1 (.nck rfl)<|A1 (.fa PP rfl Dd dD rfl)<|A1 (.fa Av rfl CQ dD rfl)<|Aj (Ae (DW _) rfl j rfl)<|A3 rfl<|A1 (.ixm Cg Dd rfl rfl (k.isp oO) (i) (rfl) (by show i<cs.length;omega))<|Aj (DG Av rfl Ah k (i) oO rfl)<|Az rfl rfl s Ah rfl rfl (λT f g H=>?_)
 have v:=BR F oO g
 refine A0<|AU (BD rfl rfl (Ba f Av rfl Ah)  ?_)
 exact ⟨⟨_,m i oO hi2⟩,rfl,v⟩
end
section
theorem RL  {o:AV} (h:FJ D st o) (h9:o.kind≠9) {B r:l8_} (hs:(B++(Da o++r)) <:+ l) (hB:∀ c∈B,CJ c=true) (hb:O7 r) (hn:NoR o.kind r) (hd:MI o<=32) :
  SX l (sx l (B++(Da o++r)):Nat) 32=(Jd o,(sx l r:Int),0):=by
 have e:DA false (l.drop (sx l (B++(Da o++r))))=Da o++r:=by rw [Eu hs,HI B _ hB];exact Iw h r
 obtain ⟨f,i⟩:=HH e
 have a:=DN hs
 have d:=Hq a
 obtain ⟨ch,rr,ec,g⟩:=Md h
 rw [ec] at d
 simp only [Bh,Aa] at d
 have b:l.length-(Da o++r).length=sx l (Da o++r):=rfl
 rw [A0U (Gq _ _) f (by rw [b,ec];simp only [Bh];omega),A3i h h9 l _ r (32:Int).toNat (by rw [b];exact Gq _ _) (by rw [b];exact Eu a) hb hn,A5 (by show MI o<=32;exact hd)]
 rfl
def Mm:l8_:=[82,111,111,116]
def Ml:l8_:=[83,105,122,101]
def Rq (K:Nat):AV:=.mk 7 0 [] [Mm,Ml] [.mk 8 1 [] [] [] [],.mk 2 (K:Int) [] [] [] []] []
theorem A2b (K:Nat):Da (Rq K)=[60,60,32,47,82,111,111,116,32,49,32,48,32,82,32,47,83,105,122,101,32]++(B0 K++[32,62,62]):=by
 have b:TQ Mm=[47,82,111,111,116]:=by decide
 have c:TQ Ml=[47,83,105,122,101]:=by decide
 have a:∀ K:Nat,ED (K:Int)=B0 K:=λK=>by unfold ED;rw [A2 oO];simp
 have d:ED (1:Int)=[49]:=by rw [show (1:Int)=((1:Nat):Int) from rfl,a,Eg 1 dD];rfl
 simp [Rq,Da,Im,b,c,d,a]
theorem Rp (K:Nat) (hK:K<=10000):FJ 32 true (Rq K):=by
 refine .dict _ _ 7 _ _ _ (.inl ⟨rfl,rfl⟩) dD (by simp) rfl ?_ dD ?_
 ·
  intro x hx
  rcases A7.1 hx with rfl | hx
  · exact ⟨dD,dD,dD⟩
  · rw [Bl] at hx;subst hx;exact ⟨dD,dD,dD⟩
 ·
  intro o ho
  rcases A7.1 ho with rfl | ho
  · exact .ref _ _ _ dD
  ·
   rw [Bl] at ho;subst ho
   exact .num _ _ _ _ (.inl rfl) (by unfold Db;simp;omega)
def S2:l8_:=[116,114,97,105,108,101,114]
def Jf (ps:List Nat) (r:l8_):Nat->l8_
 | 0=>B0 0++(32::(B0 (ps.length+1)++(10::(EB ps++(S2++(10::(Da (Rq (ps.length+1))++(10::r))))))))
 | _+1=>S2++(10::(Da (Rq (ps.length+1))++(10::r)))
def trP (K:Nat):PV:=.mk 7 0 [] [Mm,Ml] [.mk 8 1 [] [] [],.mk 2 (K:Int) [] [] []]
theorem Uz (K:Nat):Jd (Rq K)=trP K:=by simp [Rq,trP,Jd,IY]
theorem BJ.kindE  {x:PC} {k n:Int} {t:l8_} {l:List PV} (h:BJ w S x (.mk k n t ks l)):x.kind=k:=h.parts.choose_spec.1
theorem Ya:JT 0=λ_=>none:=by funext x;unfold JT;rw [A2 oO]
theorem A48 (k:Nat) (h:k<=1):decide ((if k=0 then [48] else S2)=[116,114,97,105,108,101,114])=decide (k=1):=by
 rcases (by omega:k=0\/k=1) with rfl | rfl
 · decide
 · decide
theorem A2M (K:Nat):MI (Rq K)<=32:=by simp [Rq,MI,NL]
theorem Yp (br bf bm:Nat) (p:Option Addr) (l:l8_) (c:Nat) (ps:List Nat) (r:l8_) (w:World)
  (h:B4 w br (IK p l c (sx l ([120,114,101,102]++(10::Jf ps r 0)))) 78) (hf:B4 w bf (fdC p l c bm (DR 0 0 [])) 82)
  (hmm:Dn Tryz.prog 3 3 w bm 0 (RF []) 0)
  (hb:Af w p l) (hc:l.length<=c) (hl:l.length<=100000000) (hs:([120,114,101,102]++(10::Jf ps r 0)) <:+ l) (hps:∀ n∈ps,n<10000000000) (hpl:ps.length<=4096)
  (hpb:0<l.length->(pA p).block≠br) (hpb2:0<l.length->(pA p).block≠bf) (hpb3:0<l.length->(pA p).block≠bm)
  (n1:bf≠br) (n3:bm≠br) (n6:bf≠bm) :
  Calls Tryz.prog 31 #[ptV br,ptV bf] w λe w'=>e=.returned (.tuple #[])/\B9 w.heap.size [br,bf,bm] w w' /\
   ∃ y,B4 w' bf (fdC p l c bm y) 82/\BJ w' (λk=>w.heap.size<=k) y (trP (ps.length+1))/\Dn Tryz.prog 3 3 w' bm ps.length (RF ps) ps.length:=by
 have s0:(10::Jf ps r 0) <:+ l:=DN hs
 have av:Jf ps r 0=48::(32::(B0 (ps.length+1)++(10::(EB ps++(S2++(10::(Da (Rq (ps.length+1))++(10::r)))))))):=by
  show B0 0++_=_
  rw [Eg 0 dD];rfl
 have s1:Jf ps r 0 <:+ l:=E8 s0
 have sT:∀ t,Jf ps r t <:+ l:=λt=>by
  cases t with
  | zero=>exact s1
  | succ t =>
   have q:(EB ps++Jf ps r 1) <:+ l:=E8 (DN (E8 (DN (A:=B0 0) s1)));exact DN q
 have s2:(10::(Da (Rq (ps.length+1))++(10::r))) <:+ l:=DN (sT 1)
 have hW:∀ t,Dk l (AW false l (sx l (Jf ps r t)))=if t=0 then [48] else S2:=λt=>by
  cases t with
  | zero=>exact (P7 (B:=[]) (A:=B0 0) (Eu (sT 0)) (by simp) (Nh 0) (Ng 0) (Dz dD)).1.trans (Eg 0 dD)
  | succ t=>exact (P7 (B:=[]) (A:=S2) (Eu (sT (t+1))) (by simp) dD dD (Dz dD)).1
 have hN:Bq l (AW false l (sx l (Jf ps r 1)))=sx l (10::(Da (Rq (ps.length+1))++(10::r))):=(P7 (B:=[]) (A:=S2) (Eu (sT 1)) (by simp) dD dD (Dz dD)).2.1
 have hO:=RL (B:=[10]) (Rp (ps.length+1) oO) (by simp [Rq,AV.kind]) s2 dD (Dz dD) (λq=>by simp [Rq,AV.kind] at q) (A2M _)
 rw [Uz] at hO
 have cL:=hmm.lt
 refine AF func31 rfl ntmps31 ?_
 have bA:=B9.refl w.heap.size ([br,bf,bm]) w
 refine A4<|A3 rfl<|Au (IX [] [120,114,101,102] _ h hb hc hl hpb hs (by simp) dD dD (Dz dD)) (λw1 a4=>?_)
 have cw:=Dn.same (w1:=w1) hmm (λk hk hl=>a4.1.block k hl (by (simp only [A7,A6,Ax,not_or,Ab];omega)))
 have bB:=B4.keepB hf a4.1 hf.lt (by simp only [A7,A6,Ax,not_or,Ab];omega)
 have aw:=Af.keepB hb a4.1 (λj=>⟨hb.lt j,by simpa using (hpb) j⟩)
 have bC:=E7 bA (Do a4.1 bA.size (by simp <;> omega))
 have cy:=a4.2
 refine A0<|A4<|A3 rfl<|Au (Jh 10 48 _ (by rw [<- av];exact cy) aw hl hpb (by rw [<- av];exact s0) dD dD) (λw6 a5=>?_)
 have bD:=Dn.same (w1:=w6) cw (λk hk hl=>a5.1.block k hl (by (simp only [A7,A6,Ax,not_or,Ab];omega)))
 have ax:=B4.keepB bB a5.1 bB.lt (by simp only [A7,A6,Ax,not_or,Ab];omega)
 have ay:=Af.keepB aw a5.1 (λj=>⟨aw.lt j,by simpa using (hpb) j⟩)
 have az:=E7 bC (Do a5.1 bC.size (by simp <;> omega))
 have aA:=a5.2
 refine A0<|Ad<|An ?_
 have cz:=ay
 have cM:=(aA).lt
 have cN:=(ax).lt
 have cO:=(bD).lt
 refine ZP 3 3 rfl (λah bM P ai s cF=>?_)
 have bN:=Dn.same (w1:=bM) bD (λk hk hl=>s.other k oO)
 have bO:=Bt P ax.lt
 have bP:=ax.un s bO
 have bQ:=Bt P aA.lt
 have bR:=aA.un s bQ
 have b1:=λj=>P▸ay.lt j
 have aB:=Cy ay s b1
 have aC:=CW P az.size
 have aD:=E7 az (Ip s aC)
 refine A8 rfl<|Ad<|A4<|A8 rfl<|AT ?_
 have bS:0<l.length->(pA p).block≠ah:=λj=>by have:=cz.lt j;omega
 have bT:=ai
 have cP:=bT.lt
 have cQ:=aD.size
 have cU:=aB
 refine BO (α:=Nat) (λt=>[(0,ptV br),(1,ptV bf),(4,.map (some ah)),(5,Ag (t:Int))]) (λt w'=>B9 w.heap.size [br,bf,bm] w w'/\B4 w' br (IK p l c (sx l (Jf ps r t))) 78/\B4 w' bf (fdC p l c bm (DR 0 0 [])) 82/\Af w' p l/\Dn Tryz.prog 3 3 w' ah (t * (ps.length+1)) (JT (t * (ps.length+1))) (t * (ps.length+1))/\Dn Tryz.prog 3 3 w' bm (t * ps.length) (RF (ps.take (t * ps.length))) (t * ps.length)/\t<=1) (λt=>1-t) (0) ⟨rfl,rfl,rfl,rfl,tT⟩ (⟨aD,by rw [av];exact bR,bP,aB,by simpa [Ya] using ai,by simpa using bN,FN _⟩) (λt w1 hR=>?_)
 obtain ⟨k,rfl⟩:=eX t
 obtain ⟨q1,q2,q3,q4,q5,q6,q7⟩:=hR
 have cV:=q5.lt
 have cW:=q6.lt
 refine Ad<|AT<|Ad<|DF 19 rfl BS (λw'=>w'.heap[br]?=w1.heap[br]?/\True) (λbE C=>?_)
 have bU:=Dn.same (w1:=bE) q5 (λk hk hl=>(by obtain ⟨m,rfl⟩:=C;rfl))
 have aE:=Dn.same (w1:=bE) q6 (λk hk hl=>(by obtain ⟨m,rfl⟩:=C;rfl))
 have ab:=q2.drew C
 have Q:=q3.drew C
 have o:=q4.drew C
 have ac:=E7 q1 (RU C)
 have b:=BU (ab.trans q2.symm) BF
 refine Ac 0 rfl (.mv rfl) b ?_
 refine Ac 1 rfl (.nck rfl) b ?_
 refine Ac 2 rfl (.fa Dy rfl CZ dD rfl) b ?_
 refine C6 3 rfl (λw' hw'=>Ae (g22_ _) rfl ((hw'.1).trans q2) rfl) b rfl ?_
 refine Ac 4 rfl (.mv rfl) b ?_
 refine Ac 5 rfl (.nck rfl) b ?_
 refine Ac 6 rfl (.fa Dy rfl CZ dD rfl) b ?_
 refine C6 7 rfl (λw' hw'=>Ae (g22_ _) rfl ((hw'.1).trans q2) rfl) b rfl ?_
 refine Ac 8 rfl (.mv rfl) b ?_
 refine Ac 9 rfl (.nck rfl) b ?_
 refine Ac 10 rfl (.fa Dy rfl BI dD rfl) b ?_
 refine C6 11 rfl (λw' hw'=>Ae (C5 _) rfl ((hw'.1).trans q2) rfl) b rfl ?_
 refine Br 12 rfl<|Au (Ia p l c _ _ (Gq _ _) o hl) (λcX bV=>?_)
 obtain rfl:=bV
 refine A0<|⟨b,?_⟩
 refine Br 13 rfl<|Au (GK p l c _ _ (E3 _ _ _) o hc hl) (λcY bW=>?_)
 obtain rfl:=bW
 refine A0<|⟨b,?_⟩
 refine Ac 14 rfl (.mv rfl) b ?_
 refine Ac 15 rfl (.ext rfl rfl) b ?_
 refine Ac 16 rfl (.ext rfl rfl) b ?_
 refine Ac 17 rfl (.as rfl) b ?_
 refine Ac 18 rfl (.as rfl) b ?_
 refine C3 kR<|Ad<|FG 40 (decide (k=1)) ?_ ?_
 refine An<|A3 rfl<|A1 (.bis (decide (k=1)) (.eqs rfl rfl) (by rw [hW];exact A48 k q7))<|A3 rfl<|Cc rfl rfl rfl (λG=>?_) (λG=>?_)
 have bX:=dT G
 refine A3 rfl<|AE G<|A1 (.gtr rfl rfl)<|A1 (.pkT rfl G rfl)<|A0<|?_
 exact ⟨GC (DI rfl (by (apply B3.2;(try simp) <;> omega))),rfl⟩
 have bX:=dF G
 refine B6 G<|A1 (.pkF rfl G rfl)<|A0<|?_
 exact ⟨GC (DI rfl (by (apply B3.2;(try simp) <;> omega))),rfl⟩
 refine Ai rfl (λaF=>?_) (λaF=>?_)
 have bY:=dT aF
 obtain rfl:k=1:=by assumption
 rw [hN]
 refine A4<|A3 rfl<|A3 rfl<|A1 (.nck rfl)<|A1 (.fa Dy rfl BI dD rfl)<|BA BI rfl rfl rfl ab (by exact Nat.le_of_ble_eq_true rfl) (λaG a f cG=>?_)
 have a:B4 aG br _ _:=a
 have f:CP br _ _:=f
 have bZ:=Dn.same (w1:=aG) aE (λk hk hl=>f.other k oM)
 have b':=Q.up f
 have c0:=Af.upd o f hpb
 have c2:=E7 ac (by exact Qc f (by simp))
 refine A0<|BL<|Ad<|DF 17 rfl BS (λw'=>w'.heap[br]?=aG.heap[br]?/\True) (λbG H=>?_)
 have ad:=Dn.same (w1:=bG) bZ (λk hk hl=>(by obtain ⟨m,rfl⟩:=H;rfl))
 have J:=a.drew H
 have U:=b'.drew H
 have ae:=c0.drew H
 have V:=E7 c2 (RU H)
 have D:=BU (J.trans a.symm) BF
 refine Ac 0 rfl (.mv rfl) D ?_
 refine Ac 1 rfl (.nck rfl) D ?_
 refine Ac 2 rfl (.fa Dy rfl CZ dD rfl) D ?_
 refine C6 3 rfl (λw' hw'=>Ae (g22_ _) rfl ((hw'.1).trans a) rfl) D rfl ?_
 refine Ac 4 rfl (.mv rfl) D ?_
 refine Ac 5 rfl (.nck rfl) D ?_
 refine Ac 6 rfl (.fa Dy rfl BI dD rfl) D ?_
 refine C6 7 rfl (λw' hw'=>Ae (C5 _) rfl ((hw'.1).trans a) rfl) D rfl ?_
 refine IS 8 rfl 13 rfl ?_ ?_
 refine Bf BQ rfl rfl ((HJ p l c _ _ _ _ ae hc hl hO)) (λrr bH K=>?_)
 have c3:=Dn.same (w1:=bH) ad (λk hk hl=>K.1.block k hl)
 have af:=J.bl K.1
 have aH:=U.bl K.1
 have aI:=kB V K.1
 obtain ⟨y,rfl,a6⟩:=K.2
 have aJ:=V.size
 have hy:=a6.mono (T:=λk=>w.heap.size<=k/\bG.heap.size<=k/\k<bH.heap.size) (λk hk aK=>⟨CT aJ hk,hk,aK⟩)
 have aL:=a6.kindE
 have c4:=(U).lt
 have c5:=(J).lt
 have c6:=(ad).lt
 refine A0<|?_
 have a7:=BU (af.trans a.symm) BF
 refine ⟨a7,?_⟩
 refine Ac 9 rfl (.mv rfl) a7 ?_
 refine Ac 10 rfl (.ext rfl rfl) a7 ?_
 refine Ac 11 rfl (.ext rfl rfl) a7 ?_
 refine Ac 12 rfl (.ext rfl rfl) a7 ?_
 refine Br 13 rfl<|Bm CA rfl (λcZ aM ag b2 u cH=>?_)
 have c7:=Dn.same (w1:=aM) c3 (λk hk hl=>u.other k oO)
 have c8:=BJ.same (w1:=aM) hy (λk hk hl=>u.other k oO)
 have c9:=Bt ag af.lt
 have aN:=af.un u c9
 have ca:=Bt ag aH.lt
 have cb:=aH.un u ca
 have aO:=CW ag aI.size
 have cc:=E7 aI (Ip u aO)
 refine A0<|⟨⟨(aN).trans (a).symm,tT⟩,?_⟩
 refine Br 14 rfl<|Az rfl rfl b2 Ah rfl rfl (λbI aj v cI=>?_)
 have cd:=Dn.same (w1:=bI) c7 (λk hk hl=>v.other k oM)
 have cf:=BJ.same (w1:=bI) c8 (λk hk hl=>v.other k oM)
 have cg:=aN.up v
 have ci:=cb.up v
 have cj:=E7 cc (by exact Ip v oO)
 refine A0<|?_
 have aP:=BU (cg.trans a.symm) BF
 refine ⟨aP,?_⟩
 refine Ac 15 rfl (.as rfl) aP ?_
 refine Ac 16 rfl (.as rfl) aP ?_
 refine C3 kR<|Ad<|A4<|A3 rfl<|A1 (.bis (false) (.neq rfl rfl) dD)<|A0<|Ay rfl rfl<|As<|A4<|A1 (.fa Av rfl BI dD rfl)<|Aj (Ae (C5 _) rfl aj rfl)<|A1 (.bis (true) (.eql rfl rfl) (by rw [aL];rfl))<|Au (CN _) (λc' ck=>?_)
 obtain rfl:=ck
 refine A0<|A4<|A3 rfl<|Aj (Bd rfl aj Av rfl Ah)<|A1 (.nck rfl)<|A1 (.fa PP rfl Dd dD rfl)<|W8 2 (fdC p l c bm y) ci Ah (λbJ ak X cJ=>?_)
 have cl:=Dn.same (w1:=bJ) cd (λk hk hl=>X.other k oM)
 have aQ:=BJ.same (w1:=bJ) cf (λk hk hl=>X.other k oM)
 have cm:=E7 cj (by exact Qc X (by simp))
 refine A0<|An<|A3 rfl<|Bf BQ rfl rfl ((Ku bf bm p l c y _ 7 0 [] [Mm,Ml] _ Ml 1 _ ak aQ dD (by simp) dD rfl dD)) (λz1 bK a0=>?_)
 have cn:=Dn.same (w1:=bK) cl (λk hk hl=>a0.block k hl)
 have aR:=BJ.same (w1:=bK) aQ (λk hk hl=>a0.block k hl)
 have aS:=ak.bl a0
 have co:=kB cm a0
 refine A1 (.fld Av rfl C5 rfl rfl)<|A1 (.bis (true) (.eql rfl rfl) (by rw [BJ.kindE z1.2];rfl))<|A3 rfl<|AE rfl<|A3 rfl<|AE rfl<|Bf BQ rfl rfl ((Ku bf bm p l c y _ 7 0 [] [Mm,Ml] _ Mm 0 _ aS aR dD (by simp) dD rfl dD)) (λz2 bL a1=>?_)
 have cq:=Dn.same (w1:=bL) cn (λk hk hl=>a1.block k hl)
 have cr:=BJ.same (w1:=bL) aR (λk hk hl=>a1.block k hl)
 have ct:=aS.bl a1
 have cu:=kB co a1
 refine AE rfl<|A1 (.fld Av rfl C5 rfl rfl)<|AE rfl<|A1 (.bis (true) (.eql rfl rfl) (by rw [BJ.kindE z2.2];rfl))<|A1 (.pkT rfl rfl rfl)<|Au (CN _) (λd0 cv=>?_)
 obtain rfl:=cv
 refine A0<|D9 (CU rfl ?_)
 exact ⟨rfl,cu,y,ct,(cr).mono (λk hk _=>hk.1),by simpa using cq⟩
 refine Bm CA rfl (λd1 aT a2 b3 x cK=>?_)
 have am:=Dn.same (w1:=aT) ad (λk hk hl=>x.other k oO)
 have b4:=Bt a2 J.lt
 have a3:=J.un x b4
 have b5:=Bt a2 U.lt
 have an:=U.un x b5
 have aU:=λj=>a2▸ae.lt j
 have b6:=Cy ae x aU
 have aV:=CW a2 V.size
 have ao:=E7 V (Ip x aV)
 refine A0<|⟨⟨(a3).trans (a).symm,tT⟩,?_⟩
 refine Br 8 rfl<|Bf BQ rfl rfl ((HJ p l c _ _ _ _ b6 hc hl hO)) (λrr aW g=>?_)
 have b7:=Dn.same (w1:=aW) am (λk hk hl=>g.1.block k hl)
 have ap:=a3.bl g.1
 have b8:=an.bl g.1
 have b9:=b3.bl g.1
 have ba:=kB ao g.1
 obtain ⟨y,rfl,a6⟩:=g.2
 have aJ:=ao.size
 have hy:=a6.mono (T:=λk=>w.heap.size<=k/\aT.heap.size<=k/\k<aW.heap.size) (λk hk aK=>⟨CT aJ hk,hk,aK⟩)
 have aL:=a6.kindE
 have c4:=(an).lt
 have c5:=(a3).lt
 have c6:=(am).lt
 refine A0<|?_
 have a8:=BU (ap.trans a.symm) BF
 refine ⟨a8,?_⟩
 refine Ac 9 rfl (.mv rfl) a8 ?_
 refine Ac 10 rfl (.ext rfl rfl) a8 ?_
 refine Ac 11 rfl (.ext rfl rfl) a8 ?_
 refine Ac 12 rfl (.ext rfl rfl) a8 ?_
 refine Br 14 rfl<|Az rfl rfl b9 Ah rfl rfl (λaX a9 d cA=>?_)
 have bb:=Dn.same (w1:=aX) b7 (λk hk hl=>d.other k oM)
 have bc:=BJ.same (w1:=aX) hy (λk hk hl=>d.other k oM)
 have bd:=ap.up d
 have be:=b8.up d
 have bg:=E7 ba (by exact Ip d oO)
 refine A0<|?_
 have aY:=BU (bd.trans a.symm) BF
 refine ⟨aY,?_⟩
 refine Ac 15 rfl (.as rfl) aY ?_
 refine Ac 16 rfl (.as rfl) aY ?_
 refine C3 kR<|Ad<|A4<|A3 rfl<|A1 (.bis (false) (.neq rfl rfl) dD)<|A0<|Ay rfl rfl<|As<|A4<|A1 (.fa Av rfl BI dD rfl)<|Aj (Ae (C5 _) rfl a9 rfl)<|A1 (.bis (true) (.eql rfl rfl) (by rw [aL];rfl))<|Au (CN _) (λcR bh=>?_)
 obtain rfl:=bh
 refine A0<|A4<|A3 rfl<|Aj (Bd rfl a9 Av rfl Ah)<|A1 (.nck rfl)<|A1 (.fa PP rfl Dd dD rfl)<|W8 2 (fdC p l c bm y) be Ah (λaZ aa L cB=>?_)
 have bi:=Dn.same (w1:=aZ) bb (λk hk hl=>L.other k oM)
 have aq:=BJ.same (w1:=aZ) bc (λk hk hl=>L.other k oM)
 have bj:=E7 bg (by exact Qc L (by simp))
 refine A0<|An<|A3 rfl<|Bf BQ rfl rfl ((Ku bf bm p l c y _ 7 0 [] [Mm,Ml] _ Ml 1 _ aa aq dD (by simp) dD rfl dD)) (λz1 a' E=>?_)
 have bk:=Dn.same (w1:=a') bi (λk hk hl=>E.block k hl)
 have ar:=BJ.same (w1:=a') aq (λk hk hl=>E.block k hl)
 have au:=aa.bl E
 have bn:=kB bj E
 refine A1 (.fld Av rfl C5 rfl rfl)<|A1 (.bis (true) (.eql rfl rfl) (by rw [BJ.kindE z1.2];rfl))<|A3 rfl<|AE rfl<|A3 rfl<|AE rfl<|Bf BQ rfl rfl ((Ku bf bm p l c y _ 7 0 [] [Mm,Ml] _ Mm 0 _ au ar dD (by simp) dD rfl dD)) (λz2 b0 F=>?_)
 have bo:=Dn.same (w1:=b0) bk (λk hk hl=>F.block k hl)
 have bp:=BJ.same (w1:=b0) ar (λk hk hl=>F.block k hl)
 have bq:=au.bl F
 have bt:=kB bn F
 refine AE rfl<|A1 (.fld Av rfl C5 rfl rfl)<|AE rfl<|A1 (.bis (true) (.eql rfl rfl) (by rw [BJ.kindE z2.2];rfl))<|A1 (.pkT rfl rfl rfl)<|Au (CN _) (λcS bu=>?_)
 obtain rfl:=bu
 refine A0<|D9 (CU rfl ?_)
 exact ⟨rfl,bt,y,bq,(bp).mono (λk hk _=>hk.1),by simpa using bo⟩
 have bY:=dF aF
 obtain rfl:k=0:=by omega
 refine As<|An<|A3 rfl<|A3 rfl<|A3 rfl<|Cs BQ rfl rfl ((Ut br bf ah bm p l c _ ps (Jf ps r 1) _ ab Q rfl (by simpa [Ya] using bU) (by simpa using aE) o hc hl s1 hps hpl hpb bS hpb3 n1 oO n3 oO oO n6)) (λcT i=>?_)
 have bv:=B4.keepB Q i.1 Q.lt (by simp only [A7,A6,Ax,not_or,Ab];omega)
 have bw:=Af.keepB o i.1 (λj=>⟨o.lt j,by (have q:=(hpb) j;have q1:=o.lt j;simp only [A7,A6,Ax,not_or,Ab];omega)⟩)
 have bz:=E7 ac (Do i.1 ac.size (by simp <;> omega))
 have cC:=i.2.1
 have cD:=i.2.2.1
 have cE:=i.2.2.2
 refine A0<|An<|A3 rfl<|A1 (.add rfl rfl (Bb oO))<|A8 rfl ?_
 exact ⟨1,⟨rfl,rfl,rfl,rfl,tT⟩,⟨bz,cC,bv,bw,by simpa using cD,by simpa using cE,oM⟩,oM⟩
end
section
def Nd:l8_:=[115,116,97,114,116,120,114,101,102]
def Kd (ts:List (l8_)):Nat:=9+(Ep 0 ts).length
def IQ (ts:List (l8_)):l8_:=Nd++(10::(B0 (Kd ts)++(10::37::37::69::79::70::[10])))
theorem VT (ts:List (l8_)):Ez ts=(Jq++Ep 0 ts)++([120,114,101,102]++(10::Jf (Dm 9 0 ts) (IQ ts) 0)):=by
 unfold Ez
 rw [AS]
 congr 2
 have a:B0 0=[48]:=Eg 0 dD
 simp only [Jf,a,A2b,S1,KJ,Ok,S2,IQ,Nd,VU,Kd,GN,AS,Bh,BT]
theorem Tp (ts:List (l8_)):([120,114,101,102]++(10::Jf (Dm 9 0 ts) (IQ ts) 0)) <:+ Ez ts:=by rw [VT];exact List.suffix_append _ _
theorem To (ts:List (l8_)):sx (Ez ts) ([120,114,101,102]++(10::Jf (Dm 9 0 ts) (IQ ts) 0))=Kd ts:=by
 unfold sx
 rw [VT,A9,G8,A9];rfl
theorem Ms (ts:List (l8_)):IQ ts <:+ Ez ts:=by
 have a:=Tp ts
 have b:Jf (Dm 9 0 ts) (IQ ts) 0 <:+ Ez ts:=DN (A:=[120,114,101,102,10]) a
 have q:(EB (Dm 9 0 ts)++Jf (Dm 9 0 ts) (IQ ts) 1) <:+ Ez ts:=E8 (DN (E8 (DN (A:=B0 0) b)))
 exact E8 (DN (E8 (DN (A:=S2) (DN q))))
theorem Xm (ts:List (l8_)):∃ r,Ez ts=37::80::68::70::45::49::46::52::10::r:=⟨_,rfl⟩
theorem A1l (ts:List (l8_)):((Ez ts).drop (sx (Ez ts) (IQ ts))).take Nd.length=Nd:=by
 rw [Eu (Ms ts)]
 exact List.take_left
theorem A2J (ts:List (l8_)) (j:Nat) (hj:sx (Ez ts) (IQ ts)<j) (hjl:j+Nd.length<=(Ez ts).length):((Ez ts).drop j).take Nd.length≠Nd:=by
 intro h
 obtain ⟨i,rfl⟩:∃ i,j=sx (Ez ts) (IQ ts)+(i+1):=⟨j-sx (Ez ts) (IQ ts)-1,oO⟩
 rw [<- DU,Eu (Ms ts)] at h
 have hm:(115:UInt8)∈((IQ ts).drop (i+1)).take Nd.length:=by rw [h];decide
 have a:=JL (show (115:UInt8)∈((IQ ts).drop 1).drop i by rw [DU,Nat.add_comm 1 i];exact EA hm)
 have e:(IQ ts).drop 1=[116,97,114,116,120,114,101,102,10]++(B0 (Kd ts)++[10,37,37,69,79,70,10]):=rfl
 rw [e] at a
 rcases Bj.1 a with b | b
 · revert b;decide
 ·
  rcases Bj.1 b with c | c
  · have:=(I0 _ _ c).2;revert this;decide
  · revert c;decide
theorem A1m (ts:List (l8_)):sx (Ez ts) (IQ ts)+Nd.length<(Ez ts).length:=by
 have:=Hq (Ms ts)
 have e:(IQ ts).length=9+(1+((B0 (Kd ts)).length+7)):=by simp only [IQ,A9,Aa,Am];show 9+_=_;omega
 have a:Nd.length=9:=rfl
 omega
def AK (S:Nat->Prop) (w:World) (bf:Nat) (l:l8_) (ps:List Nat):Prop :=
 ∃ p c bm y,B4 w bf (fdC p l c bm y) 82/\S bf/\Af w p l/\(0<l.length->S (pA p).block)/\l.length<=c/\Dn Tryz.prog 3 3 w bm ps.length (RF ps) ps.length/\S bm/\BJ w S y (trP (ps.length+1))
theorem AK.same  {bf:Nat} {ps:List Nat} (h:AK S w bf l ps) (hb:∀ k,S k->k<w.heap.size->w1.heap[k]?=w.heap[k]?):AK S w1 bf l ps:=by
 obtain ⟨p,c,bm,y,a,b,d,e,i,m,f,o⟩:=h
 exact ⟨p,c,bm,y,(hb bf b a.lt).trans a,b,d.same λg=>hb _ (e g) (d.lt g),e,i,m.same λj hj hl=>hb j (hj▸f) hl,f,o.same hb⟩
theorem AK.mono  {bf:Nat} {ps:List Nat} (h:AK S w bf l ps) (hb:∀ k,S k->k<w.heap.size->T k):AK T w bf l ps:=by
 obtain ⟨p,c,bm,y,a,f,b,g,i,d,j,m⟩:=h
 exact ⟨p,c,bm,y,a,hb _ f a.lt,b,λe=>hb _ (g e) (b.lt e),i,d,hb _ j d.lt,m.mono hb⟩
theorem Af.rest  {r:l8_} (h:Af w p l) (hc:l.length<=c) (hs:r <:+ l):Af w (DO p c (sx l r)) r:=by
 have:=Af.part (a:=sx l r) (b:=l.length) h (Gq _ _) (DS _) hc
 rwa [Eu hs,Al (by have:=Hq hs;omega)] at this
theorem WI (br:Nat) (p:Option Addr) (l:l8_) (c n:Nat) (r:l8_) (w:World) (h:B4 w br (IK p l c (sx l (B0 n++(10::37::37::69::79::70::r)))) 78) (hb:Af w p l) (hc:l.length<=c) (hl:l.length<=100000000) (hpb:0<l.length->(pA p).block≠br)
  (hs:(B0 n++(10::37::37::69::79::70::r)) <:+ l) (hn:n<10000000000) :
  Calls Tryz.prog 30 #[ptV br] w λe w'=>e=.returned (Ag (n:Int))/\B9 w.heap.size [br] w w'/\∃ t,B4 w' br (IK p l c t) 78:=by
 obtain ⟨ad,ae,-⟩:=Gm (Gq _ _) (Eu hs) (Ng n) (Dz dD)
 have V:=Dv 9 n oO
 have X:(B0 n).all BN=true:=AP.2 λc hc=>by
  have:=I0 n c hc;unfold BN;simp [this.1,this.2]
 have s1:=DN hs
 have s2:=E8 s1
 have aq:=Hq s2
 refine AF func30 rfl ntmps30 ?_
 have af:=B9.refl w.heap.size ([br]) w
 refine A4<|A8 rfl<|Ad<|DF 14 rfl BS (λw'=>w'.heap[br]?=w.heap[br]?/\True) (λw1 B=>?_)
 have C:=h.drew B
 have D:=hb.drew B
 have U:=E7 af (RU B)
 have a:=BU (C.trans h.symm) BF
 refine Ac 0 rfl (.mv rfl) a ?_
 refine Ac 1 rfl (.nck rfl) a ?_
 refine Ac 2 rfl (.fa Dy rfl CZ dD rfl) a ?_
 refine C6 3 rfl (λw' hw'=>Ae (g22_ _) rfl ((hw'.1).trans h) rfl) a rfl ?_
 refine Ac 4 rfl (.mv rfl) a ?_
 refine Ac 5 rfl (.nck rfl) a ?_
 refine Ac 6 rfl (.fa Dy rfl BI dD rfl) a ?_
 refine C6 7 rfl (λw' hw'=>Ae (C5 _) rfl ((hw'.1).trans h) rfl) a rfl ?_
 refine Br 8 rfl<|Au (GK p l c _ _ (Gq _ _) D hc hl) (λw5 ag=>?_)
 obtain rfl:=ag
 refine A0<|⟨a,?_⟩
 refine Ac 9 rfl (.mv rfl) a ?_
 refine Ac 10 rfl (.ext rfl rfl) a ?_
 refine Ac 11 rfl (.ext rfl rfl) a ?_
 refine Ac 12 rfl (.as rfl) a ?_
 refine Ac 13 rfl (.as rfl) a ?_
 refine C3 kR<|Ad ?_
 rw [ad,ae]
 refine An<|A3 rfl<|A1 (.bis (true) (.nes rfl rfl) (by simp [Nh]))<|A3 rfl<|AE rfl<|A3 rfl<|AE rfl<|A1 (.len FV rfl)<|AE rfl<|A1 (.bis (true) (.leq rfl rfl) (by exact AR oO))<|A1 (.pkT rfl rfl rfl)<|Au (CN _) (λw6 ah=>?_)
 obtain rfl:=ah
 refine A0<|A4<|A3 rfl<|Vf FV B1 Ga rfl rfl (λb7 av cz E hz aw m ar=>?_)
 have ai:=Bt E C.lt
 have aj:=C.un m ai
 have Q:=λk=>E▸D.lt k
 have F:=Cy D m Q
 have R:=CW E U.size
 have a0:=E7 U (Ip m R)
 refine Cs BQ rfl rfl ((by have q:=JV _ (B0 n) _ cz _ rfl hz V X;rw [show Ck (B0 n)=n from K3 n] at q;exact q)) (λax o=>?_)
 have a1:=aj.bl o
 have a2:=Fh F o (λk=>F.lt k)
 have a3:=kB a0 o
 refine A8 rfl<|A4<|A3 rfl<|A3 rfl<|A1 (.nck rfl)<|A1 (.fa Dy rfl BI dD rfl)<|BA BI rfl rfl rfl a1 (by exact Nat.le_of_ble_eq_true rfl) (λak g d an=>?_)
 have g:B4 ak br _ _:=g
 have d:CP br _ _:=d
 have s:=Af.upd a2 d (hpb)
 have G:=E7 a3 (by exact Qc d (by simp))
 refine A0<|A4<|A3 rfl<|Au (Jh 10 37 _ g s hl hpb s1 dD dD) (λal u=>?_)
 have a4:=Af.keepB s u.1 (λk=>⟨s.lt k,by simpa using (hpb) k⟩)
 have a5:=E7 G (Do u.1 G.size (by simp <;> omega))
 have f:=u.2
 refine A0<|Ad<|DF 13 rfl BS (λw'=>w'.heap[br]?=al.heap[br]?/\True) (λay v=>?_)
 have x:=f.drew v
 have H:=a4.drew v
 have J:=E7 a5 (RU v)
 have b:=BU (x.trans f.symm) BF
 refine Ac 0 rfl (.mv rfl) b ?_
 refine Ac 1 rfl (.nck rfl) b ?_
 refine Ac 2 rfl (.fa Dy rfl CZ dD rfl) b ?_
 refine C6 3 rfl (λw' hw'=>Ae (g22_ _) rfl ((hw'.1).trans f) rfl) b rfl ?_
 refine Ac 4 rfl (.mv rfl) b ?_
 refine Ac 5 rfl (.nck rfl) b ?_
 refine Ac 6 rfl (.fa Dy rfl BI dD rfl) b ?_
 refine C6 7 rfl (λw' hw'=>Ae (C5 _) rfl ((hw'.1).trans f) rfl) b rfl ?_
 refine Ac 8 rfl (.slbF B1 EC rfl rfl  (sx l (37::37::69::79::70::r)) (rfl) (Gq _ _)) b ?_
 refine Br 9 rfl<|CC (ps:=_) B1 EC Li rfl rfl rfl rfl rfl pR rfl (λaz au y T i ao=>?_)
 have a6:=Bt y x.lt
 have K:=x.un i a6
 have A:=λk=>y▸H.lt k
 have a7:=Cy H i A
 have L:=CW y J.size
 have a8:=E7 J (Ip i L)
 refine A0<|⟨⟨(K).trans (f).symm,tT⟩,?_⟩
 refine Br 10 rfl<|LM ([37,37,69,79,70]) B1 Ga rfl T rfl rfl (λaA hy j ap=>?_)
 have N:=K.up j
 have a9:=Cy a7 j A
 have aa:=E7 a8 (by exact Ip j oO)
 refine A0<|?_
 have P:=BU (N.trans f.symm) BF
 refine ⟨P,?_⟩
 refine Br 11 rfl ?_
 have am:=(a9).rest hc s2
 refine Cs BQ rfl rfl ((Lg _ (37::37::69::79::70::r) _ _ _ [37,37,69,79,70] _ _ _ oO rfl am hy oE oO)) (λaB ab=>?_)
 obtain rfl:=ab
 refine A0<|⟨P,?_⟩
 refine Br 12 rfl<|Au (CN _) (λaC ac=>?_)
 obtain rfl:=ac
 refine A0<|⟨P,?_⟩
 refine C3 kR<|A4<|A3 rfl<|A8 rfl<|AY ?_
 exact ⟨rfl,aa,_,N⟩
end
section
theorem JC  {fn:Func} {a b:Tmp} {x y:Value} (hr:fn.results=#[.cell a ta,.cell b tb]) (ha:look f a=some (.pointer (some pa))) (hb:look f b=some (.pointer (some pb)))
  (hx:(loadVar ta pa).run P w=.ok x w) (hy:(loadVar tb pb).run P w=.ok y w):CK P fn f w (.tuple #[x,y]):=λtmps hh=>by
 have e1:=hh _ _ ha;have e2:=hh _ _ hb
 simp only [AD] at e1 e2
 simp [results,hr,e1,e2,asAddr,hx,hy]
end
section
theorem KZ (b:Nat) (w:World):Calls Tryz.prog 24 #[.nilIface,ptV b] w λe w'=>e=.returned (.tuple #[])/\w=w':=by
 refine AF func24 rfl ntmps24<|Ad<|A4<|A3 rfl<|A1 (.eqNil0 kR rfl)<|A0<|BZ rfl rfl<|AU (CU rfl  ?_)
 exact ⟨rfl,rfl⟩
theorem UK (b2 b3:Nat) (w:World) (h:B4 w b3 #[Ag 0] 35) :
  CallsD Tryz.prog 23 #[ptV b3,ptV b2] .returning w λe u' w'=>u'=.returning/\(∃ v,e=.returned v)/\w'=w:=by
 refine Et func23 rfl ntmps23 bL rfl<|Au (KZ _ _) (λb a=>?_)
 obtain rfl:=a
 refine A0<|A4<|Aj (Ae (Eh _) rfl h rfl)<|A1 (.neq rfl rfl)<|A0<|Ay rfl rfl<|As<|D9 (CU rfl ?_)
 exact ⟨⟨_,rfl⟩,rfl⟩
theorem Zp (n:Nat):∃ d ds,B0 n=d::ds/\CJ d=false:=by
 obtain ⟨d,ds,hd⟩:=List.exists_cons_of_ne_nil (Nh n)
 exact ⟨d,ds,hd,(SD (Tw (I0 n d (by rw [hd];simp)))).1⟩
theorem UB (p0:Option Addr) (c0:Nat) (ts:List (l8_)) (w:World) (ha:Af w p0 (Ez ts)) (hc:(Ez ts).length<=c0) (hl:(Ez ts).length<=1048576) (hts:ts.length<=4096) :
  Calls Tryz.prog 14 #[.slice p0 (Ez ts).length c0] w λe w'=>∃ bf,e=.returned (.tuple #[ptV bf,Ag 0])/\AK (λk=>w.heap.size<=k) w' bf (Ez ts) (Dm 9 0 ts)/\AL w w':=by
 have bg:=A1l ts
 have bM:=A2J ts
 have bN:=A1m ts
 have ao:=Ms ts
 have bh:=Tp ts
 have htab_at:=To ts
 have cz:=GN ts 9 0
 have bO:∀ n∈Dm 9 0 ts,n<10000000000:=λn hn=>by
  have h1:=Kw ts 9 0 n hn;have h2:=Gq (Ez ts) ([120,114,101,102]++(10::Jf (Dm 9 0 ts) (IQ ts) 0));rw [htab_at] at h2;unfold Kd at h2;omega
 have bP:=Gq (Ez ts) ([120,114,101,102]++(10::Jf (Dm 9 0 ts) (IQ ts) 0))
 rw [htab_at] at bP
 obtain ⟨hr,hh⟩:=Xm ts
 have hR:IQ ts=Nd++(10::(B0 (Kd ts)++(10::37::37::69::79::70::[10]))):=rfl
 generalize Dm 9 0 ts=ps at *
 generalize Kd ts=at0 at *
 generalize IQ ts=R at *
 generalize Ez ts=l at *
 subst hR
 have e8:8<l.length:=by rw [hh];simp only [Aa];omega
 have e7:l[7]=52:=by subst hh;rfl
 have bi:decide (l.take 7=[37,80,68,70,45,49,46])=true:=by rw [hh];rfl
 have s1:=DN ao
 have s2:=E8 s1
 have a9:=MQ ao
 have h9:Nd.length=9:=rfl
 obtain ⟨d,ds,ap,bQ⟩:=Zp at0
 have bj:l=[]->c0=0\/p0≠none:=λe=>by rw [e] at e8;simp at e8
 refine Hk func14 rfl ntmps14 bL ?_
 have ba:=Dh w
 refine WD.seq<|An<|Bm zeroValue38 rfl (λb1 cA aq ar au cm=>?_)
 have bk:=λa=>aq▸ha.lt a
 have bb:=Cy ha au bk
 have bc:=uB ba aq au
 have cb:=CW aq ba.size
 refine Bm Sk rfl (λb5 cB a8 av a2 cn=>?_)
 have bR:=Bt a8 ar.lt
 have bd:=ar.un a2 bR
 have bm:=λa=>a8▸bb.lt a
 have be:=Cy bb a2 bm
 have aw:=uB bc a8 a2
 have cc:=CW a8 bc.size
 refine A0<|WD.seq<|A4<|A3 rfl<|A1 (.lenS B1 rfl)<|A1 (.bis (false) (.gtr rfl rfl) (by exact AH oO))<|A0<|Ay rfl rfl<|As<|WD.defer rfl rfl<|NN<|A4<|CC (ps:=_) B1 EC Li rfl rfl rfl rfl rfl pR rfl (λcC co D a' u cd=>?_)
 have bn:=Bt D bd.lt
 have bo:=Bt D av.lt
 have aa:=λa=>D▸be.lt a
 have bS:=CW D aw.size
 refine LM ([37,80,68,70,45,49,46]) B1 Ga rfl a' rfl rfl (λcD bT x cf=>?_)
 have ax:=(bd.un u bn).up x
 have ay:=(av.un u bo).up x
 have m:=Cy (Cy be u aa) x aa
 have az:=BR (uB aw D u) oO x
 refine A8 rfl<|A4<|A3 rfl<|A3 rfl<|Cs BQ rfl rfl ((Ii true p0 l _ c0 _ [37,80,68,70,45,49,46] _ 7 _ rfl rfl m bT oE hc bi)) (λcE bp=>?_)
 obtain rfl:=bp
 refine A3 rfl<|AE rfl<|A3 rfl<|AE rfl<|A1 (.lenS B1 rfl)<|AE rfl<|A3 rfl<|AE rfl<|A1 (.lenS B1 rfl)<|AE rfl<|A1 (.bis (true) (.gtr rfl rfl) (by exact AR oO))<|A1 (.pkT rfl rfl rfl)<|A3 rfl<|AE rfl<|A3 rfl<|AE rfl<|A3 rfl<|AE rfl<|A1 (.lenS B1 rfl)<|AE rfl<|A1 (.ixb B1 EC rfl rfl (m.isp oO) (7) (rfl) oO)<|AE rfl<|Aj (BG (IU _) rfl (m.cells (7) oO))<|AE rfl<|A1 (.bis (true) (.geq rfl rfl) (by rw [e7];rfl))<|A1 (.pkT rfl rfl rfl)<|A3 rfl<|AE rfl<|A3 rfl<|AE rfl<|A3 rfl<|AE rfl<|A1 (.lenS B1 rfl)<|AE rfl<|A1 (.ixb B1 EC rfl rfl (m.isp oO) (7) (rfl) oO)<|AE rfl<|Aj (BG (IU _) rfl (m.cells (7) oO))<|AE rfl<|A1 (.bis (true) (.leq rfl rfl) (by rw [e7];rfl))<|A1 (.pkT rfl rfl rfl)<|Au (CN _) (λcF bq=>?_)
 obtain rfl:=bq
 refine A0<|A4<|A3 rfl<|CC (ps:=_) B1 EC Li rfl rfl rfl rfl rfl pR rfl (λcG cq E b0 A cg=>?_)
 have bt:=Bt E ax.lt
 have bu:=Bt E ay.lt
 have ab:=λa=>E▸m.lt a
 have bU:=CW E az.size
 refine LM ([115,116,97,114,116,120,114,101,102]) B1 Ga rfl b0 rfl rfl (λcH bV B ci=>?_)
 have aA:=Cy (Cy m A ab) B ab
 refine Cs BQ rfl rfl ((Qp p0 l c0 _ Nd _ _ _ aA bV hc oO dD bN bg bM)) (λcI P=>?_)
 have aB:=((ax.un A bt).up B).drew P
 have aC:=((ay.un A bu).up B).drew P
 have aD:=Cn.below (BR (uB az E A) oO B) P
 refine A8 rfl<|A4<|A3 rfl<|A1 (.bis (true) (.geq rfl rfl) (by exact AR oO))<|Au (CN _) (λcJ bv=>?_)
 obtain rfl:=bv
 refine A0<|A4<|A3 rfl<|?_
 have cr:=(aB).lt
 have ct:=(aC).lt
 refine Bf BQ rfl rfl ((Xs p0 l _ c0 _ rfl (aA.drew P) bj oO)) (λv cK Q=>?_)
 have aE:=aB.bl Q.1
 have aF:=aC.bl Q.1
 have aG:=Ci aD Q.1
 have bw:=Q.2
 have cu:=aD.size
 obtain ⟨pcl,ccl,ecl,aH,T,a3,cv⟩:=CF.bytesC (l:=l) bw
 subst ecl
 have bz:=(aH).lt
 refine A3 rfl<|A1 (.iis ((sx l (10::(B0 at0++(10::37::37::69::79::70::[10]))):Int)) (.add rfl rfl (Bb oO)) oO)<|?_
 refine A1 (.buildL (ps:=_) ZE rfl rfl rfl pS) ?_
 refine WL.box rfl rfl (λF bA G b2 C cj=>?_)
 have bB:=Bt G aE.lt
 have aI:=aE.un C bB
 have bC:=Bt G aF.lt
 have aJ:=aF.un C bC
 have ac:=λa=>G▸aH.lt a
 have a4:=Cy aH C ac
 have aK:=uB aG G C
 have bW:=CW G aG.size
 have bX:B4 bA F (IK pcl l ccl (sx l (10::(B0 at0++(10::37::37::69::79::70::[10]))))) 78:=b2
 have i:0<l.length->(pA pcl).block≠F:=λa=>by have:=bz a;omega
 refine A8 rfl<|A4<|A3 rfl<|Au (Jh 10 d (ds++(10::37::37::69::79::70::[10])) (by rw [show 10::d::(ds++(10::37::37::69::79::70::[10]))=10::(B0 at0++(10::37::37::69::79::70::[10])) by rw [ap];rfl];exact bX) a4 oO i (by rw [show 10::d::(ds++(10::37::37::69::79::70::[10]))=10::(B0 at0++(10::37::37::69::79::70::[10])) by rw [ap];rfl];exact s1) dD bQ) (λbY H=>?_)
 have aL:=B4.keepB aI H.1 aI.lt (by simp only [A7,A6,Ax,not_or,Ab];omega)
 have aM:=B4.keepB aJ H.1 aJ.lt (by simp only [A7,A6,Ax,not_or,Ab];omega)
 have a5:=Af.keepB a4 H.1 (λa=>⟨a4.lt a,by simpa using i a⟩)
 have aN:=Ex aK (B9.below H.1 aK.size (by simp <;> omega))
 have bZ:B4 bY F (IK pcl l ccl (sx l (B0 at0++(10::37::37::69::79::70::[10])))) 78:=by have q:=H.2;rwa [show d::(ds++(10::37::37::69::79::70::[10]))=B0 at0++(10::37::37::69::79::70::[10]) by rw [ap];rfl] at q
 refine A0<|A4<|A3 rfl<|Au (WI F pcl l ccl at0 [10] _ bZ a5 a3 oO i s2 oO) (λcL J=>?_)
 have aO:=B4.keepB aL J.1 aL.lt (by simp only [A7,A6,Ax,not_or,Ab];omega)
 have aP:=B4.keepB aM J.1 aM.lt (by simp only [A7,A6,Ax,not_or,Ab];omega)
 have a6:=Af.keepB a5 J.1 (λa=>⟨a5.lt a,by simpa using i a⟩)
 have aQ:=Ex aN (B9.below J.1 aN.size (by simp <;> omega))
 obtain ⟨t5,ad⟩:=J.2
 refine A8 rfl<|A4<|A3 rfl<|A3 rfl<|A1 (.lenS B1 rfl)<|A1 (.bis (true) (.leq rfl rfl) (by exact AR oO))<|Au (CN _) (λcM bD=>?_)
 obtain rfl:=bD
 refine A0<|A4<|A3 rfl<|A1 (.nck rfl)<|A1 (.fa Dy rfl CZ dD rfl)<|Aj (Ae (g22_ _) rfl ad rfl)<|?_
 have ae:=(a6).lt
 have ck:=(ad).lt
 refine ZP 3 3 rfl (λN cw t b3 o cl=>?_)
 have bE:=Bt t aO.lt
 have aR:=aO.un o bE
 have bG:=Bt t aP.lt
 have aS:=aP.un o bG
 have bH:=Bt t ad.lt
 have aT:=ad.un o bH
 have aU:=λa=>t▸a6.lt a
 have af:=Cy a6 o aU
 have ag:=uB aQ t o
 have b':=CW t aQ.size
 refine A1 (.build (cs:=fdC pcl l ccl N (DR 0 0 [])) rfl (by rw [A3w];rfl)) ?_
 refine WL.box rfl rfl (λU V j aV f c2=>?_)
 have b4:=Bt j aR.lt
 have b6:=Bt j aS.lt
 have b7:=Bt j aT.lt
 have aW:=λa=>j▸af.lt a
 have ah:=Cy af f aW
 have bK:=CW j ag.size
 have ai:0<l.length->(pA pcl).block≠U:=λa=>by have:=(ah).lt a;have:=ae a;omega
 have aj:0<l.length->(pA pcl).block≠N:=λa=>by have:=ae a;omega
 have c3:B4 V U (fdC pcl l ccl N (DR 0 0 [])) 82:=aV
 have bI:Dn Tryz.prog 3 3 V N 0 (RF []) 0:=by rw [A0R];exact (Dn.same (w1:=V) b3 (λk hk hl=>f.other k oO))
 refine C2 (aR.un f b4) sizeOf38 (λbJ aX g c4=>?_)
 refine A0<|A4<|A3 rfl<|A3 rfl<|A1 (.nck rfl)<|A1 (.fa Dy rfl BI dD rfl)<|BA BI rfl rfl rfl ((aT.un f b7).up g) (by exact Nat.le_of_ble_eq_true rfl) (λaY K b c5=>?_)
 have K:B4 aY F _ _:=K
 have b:CP F _ _:=b
 have X:=aX.up b
 have ak:=((aS.un f b6).up g).up b
 have a0:=Cy (Af.upd ah g (λa=>by have:=T a;omega)) b ac
 have am:=BR (BR (uB ag j f) oO g) oO b
 refine A0<|A4<|A3 rfl<|Aj (Ae (isAgg38 _) rfl X rfl)<|Cs BQ rfl rfl ((Yp F U N pcl l ccl ps _ _ (by rw [htab_at];exact K) ((c3.upd g oM).up b) (Dn.same (w1:=aY) (Dn.same (w1:=bJ) bI (λk hk hl=>g.other k oM)) (λk hk hl=>b.other k oM)) a0 a3 oO bh bO oO i ai aj oO oO oO)) (λcy s=>?_)
 have an:=B4.keepB X s.1 X.lt (by simp only [A7,A6,Ax,not_or,Ab];omega)
 obtain ⟨y,c6,c7,c8⟩:=s.2
 refine A0<|A4<|Aj (Ae (isAgg38 _) rfl an rfl)<|BA sizeOf38 rfl rfl rfl an (by exact Nat.le_of_ble_eq_true rfl) (λa7 L c c9=>?_)
 have L:B4 a7 b1 _ _:=L
 have c:CP b1 _ _:=c
 refine C2 ((B4.keepB ak s.1 ak.lt (by simp only [A7,A6,Ax,not_or,Ab];omega)).up c) Fd (λaZ a1 h ca=>?_)
 have b8:=Dn.same (w1:=aZ) (Dn.same (w1:=a7) c8 (λk hk hl=>c.other k oM)) (λk hk hl=>h.other k oM)
 have b9:=BJ.same (w1:=aZ) (BJ.same (w1:=a7) c7 (λk hk hl=>c.other k oM)) (λk hk hl=>h.other k oM)
 refine A0<|AU ?_
 exact CX.ret A4f (λw'=>_) (UK b1 b5 _ a1) (λw' hS=>by
  subst hS;exact ⟨_,JC rfl rfl rfl (B2 (L.up h) (isAgg38 _) rfl) (B2 a1 (Eh _) rfl),⟨U,EO rfl,⟨pcl,ccl,N,y,((c6.upd c oM).up h),oO,(Af.upd (Af.upd (Af.keepB a0 s.1 (λa=>⟨a0.lt a,by (have q2:=ai a;have q3:=aj a;have q1:=i a;simp only [A7,A6,Ax,not_or,Ab];omega)⟩)) c (λa=>by have:=T a;omega)) h (λa=>by have:=T a;omega)),λa=>by (have:=T a;omega),a3,b8,oO,(b9).mono (λk hk _=>by omega)⟩,(BR (BR (Ex am (B9.below s.1 am.size (by simp <;> omega))) oO c) oO h)⟩⟩)
end
section
def Vm (S:Nat->Prop) (w:World) (v:Value) (cs:List AC):Prop:=AO Fi 27 0 w v cs/\∀ g,v.ownBlock=some g->S g
theorem Vm.same  {l:List AC} (h:Vm S w v l) (hb:∀ k,S k->k<w.heap.size->w1.heap[k]?=w.heap[k]?):Vm S w1 v l:=⟨h.1.same λg hg=>hb g (h.2 g hg) (h.1.lt g hg).2,h.2⟩
theorem Vm.mono  {l:List AC} (h:Vm S w v l) (hT:∀ k,S k->k<w.heap.size->T k):Vm T w v l:=⟨h.1,λg hg=>hT g (h.2 g hg) (h.1.lt g hg).2⟩
theorem DY.mono  {l:List (l8_)} (h:DY S w v l) (hT:∀ k,S k->k<w.heap.size->T k):DY T w v l:=⟨h.1,λg hg=>hT g (h.2 g hg) (h.1.lt g hg).2⟩
theorem A1L  {cs:List PC} (h:AO Q7 e B w v cs):AO Fi e B w v (cs.map Cx):=by
  have hf:Fi.flat (cs.map Cx)=Q7.flat cs:=by
    unfold FK.flat
    rw [List.flatMap_map];rfl
  rcases h with ⟨a,b⟩ | ⟨g,cap,cur,a,b,c,d,f,i,j⟩
  · exact .inl ⟨a,by rw [b];rfl⟩
  · refine .inr ⟨g, cap, cur, by rw [Bo]; exact a, b, c, by rw [Bo]; exact d, f, i, ?_⟩
    rw [Bo,hf];exact j
structure TH (w:World) (S:Nat->Prop) (z:AC):Prop where
 k:∃ ks,DY S w (.slice z.kp z.kl z.kc) ks
 l:∃ cs,Vm S w (.slice z.lp z.ll z.lc) cs
 d:∃ d,Es S w (.slice z.dp z.dl z.dc) d
theorem TH.same  {z:AC} (h:TH w S z) (hb:∀ k,S k->k<w.heap.size->w1.heap[k]?=w.heap[k]?):TH w1 S z:=⟨h.k.imp λ_ q=>q.same hb,h.l.imp λ_ q=>q.same hb,h.d.imp λ_ q=>q.same hb⟩
theorem TH.mono  {z:AC} (h:TH w S z) (hb:∀ k,S k->k<w.heap.size->T k):TH w T z:=⟨h.k.imp λ_ q=>q.mono hb,h.l.imp λ_ q=>q.mono hb,h.d.imp λ_ q=>q.mono hb⟩
theorem BJ.tops  {x:PC} {o:PV} (h:BJ w S x o):TH w S (Cx x):=by
 cases h with
 | mk _ keys list cs hk hr hlen hsub=>exact ⟨⟨keys,hk⟩,⟨_,A1L hr.1,hr.2⟩,⟨[],Es.nil _ _⟩⟩
def JO (w:World) (S:Nat->Prop) (z:AC) (o:AV):Prop:=At w S z o/\TH w S z
theorem JO.same  {z:AC} {o:AV} (h:JO w S z o) (hb:∀ k,S k->k<w.heap.size->w1.heap[k]?=w.heap[k]?):JO w1 S z o:=⟨h.1.same hb,h.2.same hb⟩
theorem JO.mono  {z:AC} {o:AV} (h:JO w S z o) (hb:∀ k,S k->k<w.heap.size->T k):JO w T z o:=⟨h.1.mono hb,h.2.mono hb⟩
def Gc:l8_:=[76,101,110,103,116,104]
theorem BJ.nE  {x:PC} {k n:Int} {t:l8_} {l:List PV} (h:BJ w S x (.mk k n t ks l)):x.n=n:=h.parts.choose_spec.2.1
theorem RD (f:Value) (y:PC) (S:Nat->Prop) (ks:List (l8_)) (vs:List PV) (m:Nat) (w:World) (hy:BJ w S y (.mk 7 0 [] (ks++[Gc]) (vs++[IL 2 (m:Int) []]))) (hn:Gc ∉ ks) (hl:ks.length<=100000) (hkl:ks.length=vs.length) :
  Cl 161 #[f,.agg (VF y).toArray] w (Ag (m:Int)):=by
 obtain ⟨cs,-,-,-,hk,hr,L,o⟩:=hy.parts
 obtain ⟨C,N,k3,P,-⟩:=hk.1.full
 obtain ⟨D,Q,r3,q,-⟩:=hr.1.full
 have s:=P.strs
 have e1:(ks++[Gc]).length=ks.length+1:=by simp
 have e2:(vs++[IL 2 (m:Int) []]).length=vs.length+1:=by simp
 have hz:BJ w S (cs[ks.length]'oO) (IL 2 (m:Int) []):=by
  have:=o ks.length oO oO
  rwa [Cp oO,show (IL 2 (m:Int) []::[])[ks.length-vs.length]'(by simp;omega)=IL 2 (m:Int) [] by simp] at this
 have i:=hz.kindE
 have j:=hz.nE
 obtain ⟨yk,yn,yt,ykp,ykl,ykc,ylp,yll,ylc⟩:=y
 simp only at C D s q N Q
 subst C D
 refine AF func161 rfl ntmps161 ?_
 have k:=Dh w
 refine A4<|WL.box rfl rfl (λb1 V d g b T=>?_)
 have t:=λc=>d▸s.lt c
 have E:=AM.upd s b (λc=>CV (t c))
 have u:=λc=>d▸q.lt c
 have l:=AA.upd q b (λc=>CV (u c))
 have F:=uB k d b
 have J:=CW d k.size
 refine A8 rfl<|A4<|A1 (.fa Av rfl E6 dD rfl)<|Aj (Ae (Fs _) rfl g rfl)<|Cs BQ rfl rfl ((Ta _ (ks++[Gc]) _ Gc _ E oO ks.length oO (by simp) (by simpa using hn))) (λw7 G=>?_)
 obtain rfl:=G
 refine A8 rfl<|Ad<|A4<|A3 rfl<|A1 (.bis (false) (.lss rfl rfl) (by exact AH oO))<|A0<|Ay rfl rfl<|As<|A4<|A1 (.fa Av rfl CQ dD rfl)<|Aj (Ae (DW _) rfl g rfl)<|A3 rfl<|A1 (.ixm Cg Dd rfl rfl (l.isp oO) (ks.length) (rfl) (by show ks.length<cs.length;omega))<|Aj (DG Av rfl Ah l (ks.length) oO rfl)<|Bm CA rfl (λb8 X H v x U=>?_)
 have A:=uB F H x
 refine Az rfl rfl v Ah rfl rfl (λa0 a h K=>?_)
 have B:=BR A oO h
 refine A0<|Ad<|A4<|A1 (.fa Av rfl BI dD rfl)<|Aj (Ae (C5 _) rfl a rfl)<|A1 (.bis (false) (.eql rfl rfl) (by rw [i];rfl))<|A0<|Ay rfl rfl<|As<|Ad<|A4<|A1 (.fa Av rfl BI dD rfl)<|Aj (Ae (C5 _) rfl a rfl)<|A1 (.bis (false) (.neq rfl rfl) (by rw [i];rfl))<|A3 rfl<|AE rfl<|A1 (.fa Av rfl BI dD rfl)<|AE rfl<|Aj (Ae (C5 _) rfl a rfl)<|AE rfl<|A1 (.bis (false) (.lss rfl rfl) (by rw [j];exact AH oO))<|A1 (.pkF rfl rfl rfl)<|A0<|Ay rfl rfl<|As<|A4<|A1 (.fa Av rfl BI dD rfl)<|Aj (Ae (C5 _) rfl a rfl)<|A8 rfl<|AY ?_
 exact ⟨EO (show Value.int .i64 (cs[ks.length]'oO).n=Ag (m:Int) by rw [j]),B⟩
theorem SV  {a:Nat} (h:p=some (pA p)):DO p c a≠none:=by
 unfold DO
 rw [h];split <;> simp
def Mt:l8_:=[115,116,114,101,97,109]
def EQ:l8_:=[101,110,100,115,116,114,101,97,109]
theorem A18  (hn:Gc ∉ ks) (i:Nat) (hi:i<(ks++[Gc]).length):(!decide ((ks++[Gc])[i]=[76,101,110,103,116,104]))=!decide (ks.length<=i):=by
  congr 1
  by_cases h:ks.length<=i
  · have e : (ks ++ [Gc])[i] = Gc := by
      rw [Cp h]
      simp
    rw [e,AR h];rfl
  · rw [AH h, Bg, CY oO]
    exact λq=>hn (by rw [show Gc=ks[i]'oO from q.symm];exact Ar _)
theorem UW  (i:Nat) (hi:i<ks.length) (hi2:i<(ks++[Gc]).length):ks.take i++[(ks++[Gc])[i]]=ks.take (i+1):=by
 rw [CY hi,B7 hi]
theorem AO.cast  {L:FK α} {l l':List α} (h:AO L e B w v l) (q:l=l'):AO L e B w v l':=q▸h
theorem Ui  {cs:List α} {n:Nat} (hi:i<n) (hn:n<=cs.length):(cs.take n).take i++[cs[i]'oO]=(cs.take n).take (i+1):=by
 have h:=B7 (l:=cs.take n) (i:=i) (by rw [Ap];omega)
 rw [MG] at h
 exact h.symm
theorem Y4  {nk ck nl cl dc:Nat} {pk pl:Option Addr} {cs:List PC} {vs:List AV} (hk:AO GZ 9 M w (.slice pk nk ck) ks) (hr:AO Q7 27 M w (.slice pl nl cl) cs) (hSM:∀ g,M<=g->S g)
  (hkk:∀ k∈ks,k.length<=127) (hd:Af w dp d) (hdS:0<d.length->S (pA dp).block) (hdc:d.length<=dc) (hdm:dc<=9223372036854775807) (hlen:cs.length=vs.length) (hsub:∀ i (h:i<cs.length) (h2:i<vs.length),BJ w S cs[i] (Jd vs[i])) (hsnd:∀ o∈vs,FJ 31 false o) :
  At w S ⟨9,0,[],pk,nk,ck,pl,nl,cl,dp,d.length,dc⟩ (.mk 9 0 [] ks vs d):=by
 obtain ⟨b,c,e,f,j⟩:=hk.full
 obtain ⟨l,m,q,s,t⟩:=hr.full
 refine At.mk ⟨9,0,[],pk,nk,ck,pl,nl,cl,dp,d.length,dc⟩ ks vs d (cs.map Cx) ⟨by simp,by simp,b,by rw [Bo];exact l,rfl,c,by rw [Bo];exact m,hdc,e,q,hdm⟩ (λk h=>by have:=hkk k h;omega) f.strs (λa=>hSM _ (hk.lt _ (j a)).1) (A1I s) (λa=>hSM _ (hr.lt _ (t (by simpa using a))).1) hd hdS (by simpa using hlen) λi h h2=>?_
 rw [GX]
 have ho:=hsnd _ (Ar h2)
 have:=(hsub i (by simpa using h) h2).rep (Ry ho)
 rwa [ZK ho (LX ho)] at this
theorem RC (f:Value) (br B:Nat) (p:Option Addr) (l:l8_) (c:Nat) (y:PC) (ks:List (l8_)) (vs:List AV) (d X:l8_) (w:World) (h:B4 w br (IK p l c (sx l (10::(d++(10::(EQ++(10::X))))))) 78) (hb:Af w p l) (hc:l.length<=c) (hl:l.length<=100000000) (hpb:0<l.length->(pA p).block≠br)
    (hs:(10::(d++(10::(EQ++(10::X))))) <:+ l) (hy:BJ w (λk=>B<=k/\br<k) y (.mk 7 0 [] (ks++[Gc]) (IY vs++[IL 2 (d.length:Int) []]))) (hB:B<=w.heap.size) (hn:Gc ∉ ks) (hkk:∀ k∈ks,k.length<=127) (hkl:ks.length=vs.length) (hvl:vs.length<=100) (hd:d.length<=1048576)
    (hsnd:∀ o∈vs,FJ 31 false o) :
    Calls Tryz.prog 141 #[f,ptV br,.agg (VF y).toArray] w λe w'=>∃ z:AC,e=.returned (.agg (D3 z).toArray)/\JO w' (λk=>B<=k) z (.mk 9 0 [] ks vs d)/\B9 w.heap.size [br] w w'/\B4 w' br (IK p l c (sx l (10::X))) 78:=by
  have s1:=E8 hs;have s2:=DN s1;have a1:=MQ (A:=[10]) hs;have a2:=MQ s1;have l1:=Hq s1;have l0:=Hq hs;simp only [A9,Aa,Am] at l1 l0 a1;have hq:BJ w (λk=>(B<=k/\br<k)/\k<w.heap.size) y (.mk 7 0 [] (ks++[Gc]) (IY vs++[IL 2 (d.length:Int) []])):=hy.mono λk hk iS=>⟨hk,iS⟩
  obtain ⟨cs,jz,jA,jB,hk,hr,hN,hO⟩:=hq.parts;have js:=λ(w1:World) (h1:AL w w1)=>h1
  obtain ⟨k1,k2,k3,k4,-⟩:=hk.1.full;obtain ⟨r1,r2,r3,r4,-⟩:=hr.1.full;have k5:=k4.strs;have e1:(ks++[Gc]).length=ks.length+1:=by simp
  have e2:(IY vs++[IL 2 (d.length:Int) []]).length=vs.length+1:=by rw [Gs];simp
  have jC:decide (d.length<=9223372036854775807)=true:=AR oO;have hP:Gl w (λk=>(B<=k/\br<k)/\k<w.heap.size) cs (IY vs++[IL 2 (d.length:Int) []]):=⟨hN,hO⟩;obtain ⟨yk,yn,yt,ykp,ykl,ykc,ylp,yll,ylc⟩:=y;simp only at k1 r1 k5 r4 k2 r2;subst k1 r1;have jD:=h.lt;have k6:=hk.1.full.2.2.2.2;have r6:=hr.1.full.2.2.2.2;have b4:0<(ks++[Gc]).length->(B<=(pA ykp).block/\br<(pA ykp).block)/\(pA ykp).block<w.heap.size:=λj=>hk.2 _ (k6 j)
  have b5:0<cs.length->(B<=(pA ylp).block/\br<(pA ylp).block)/\(pA ylp).block<w.heap.size:=λj=>hr.2 _ (r6 j)
  refine AF func141 rfl ntmps141 ?_;have ht:=B9.refl w.heap.size ([br]) w;refine A4<|WL.box rfl rfl (λb1 hu bI dr aA jt=>?_);have iT:=Gk (w1:=hu) hP (λk hk hl=>aA.other k oO);have iU:=BJ.same (w1:=hu) hq (λk hk hl=>aA.other k oO);have iV:=Bt bI h.lt;have hv:=h.un aA iV;have hQ:=λj=>bI▸hb.lt j
  have hz:=Cy hb aA hQ;have hS:=λj=>bI▸k5.lt j
  have hA:=AM.upd k5 aA (λj=>CV (hS j));have eC:=λj=>bI▸r4.lt j
  have ds:=AA.upd r4 aA (λj=>CV (eC j));have eD:=CW bI ht.size;have dt:=E7 ht (Ip aA eD);refine Bm CA rfl (λar c2 aK eF ak jm=>?_);have hU:=Gk (w1:=c2) iT (λk hk hl=>ak.other k oO);have hV:=BJ.same (w1:=c2) iU (λk hk hl=>ak.other k oO);have hW:=Bt aK hv.lt;have ba:=hv.un ak hW;have hX:=Bt aK dr.lt;have hY:=dr.un ak hX;have eG:=λj=>aK▸hz.lt j
  have hZ:=Cy hz ak eG;have eH:=λj=>aK▸hA.lt j
  have h':=AM.upd hA ak (λj=>CV (eH j));have eI:=λj=>aK▸ds.lt j
  have i0:=AA.upd ds ak (λj=>CV (eI j));have du:=CW aK dt.size;have i1:=E7 dt (Ip ak du);refine A0<|Ad<|DF 10 rfl BS (λw'=>w'.heap[br]?=c2.heap[br]?/\True) (λhC au=>?_);have i2:=Gk (w1:=hC) hU (λk hk hl=>(by obtain ⟨m,rfl⟩:=au;rfl));have i3:=BJ.same (w1:=hC) hV (λk hk hl=>(by obtain ⟨m,rfl⟩:=au;rfl));have c3:=ba.drew au;have dv:=hY.drew au;have dw:=eF.drew au;have dx:=hZ.drew au;have dy:=h'.drew au;have dz:=i0.drew au;have dA:=E7 i1 (RU au);have az:=BU (c3.trans ba.symm) BF;refine Ac 0 rfl (.mv rfl) az ?_;refine Ac 1 rfl (.nck rfl) az ?_;refine Ac 2 rfl (.fa Dy rfl CZ dD rfl) az ?_;refine C6 3 rfl (λw' hw'=>Ae (g22_ _) rfl ((hw'.1).trans ba) rfl) az rfl ?_;refine Ac 4 rfl (.mv rfl) az ?_;refine Ac 5 rfl (.nck rfl) az ?_;refine Ac 6 rfl (.fa Dy rfl BI dD rfl) az ?_;refine C6 7 rfl (λw' hw'=>Ae (C5 _) rfl ((hw'.1).trans ba) rfl) az rfl ?_;refine Ac 8 rfl (.slbF B1 EC rfl rfl  (sx l (10::(d++(10::(EQ++(10::X)))))) (rfl) (Gq _ _)) az ?_;refine Ac 9 rfl (.as rfl) az ?_;refine C3 kR<|Ad<|AT<|A4<|A3 rfl<|CC (ps:=_) B1 EC Li rfl rfl rfl rfl rfl pR rfl (λjE dB aB eJ af jn=>?_);have i4:=Gk (w1:=dB) i2 (λk hk hl=>af.other k oO);have i5:=BJ.same (w1:=dB) i3 (λk hk hl=>af.other k oO);have i6:=Bt aB c3.lt;have i7:=c3.un af i6;have i8:=Bt aB dv.lt;have i9:=dv.un af i8;have ia:=Bt aB dw.lt;have ib:=dw.un af ia;have cf:=λj=>aB▸dx.lt j
  have ic:=Cy dx af cf;have cg:=λj=>aB▸dy.lt j
  have id:=AM.upd dy af (λj=>CV (cg j));have ci:=λj=>aB▸dz.lt j
  have ie:=AA.upd dz af (λj=>CV (ci j));have dC:=CW aB dA.size;have ig:=E7 dA (Ip af dC);refine LM ([13,10]) B1 Ga rfl eJ rfl rfl (λhD iW ag jo=>?_);have ih:=Gk (w1:=hD) i4 (λk hk hl=>ag.other k oM);have ii:=BJ.same (w1:=hD) i5 (λk hk hl=>ag.other k oM);have dE:=i7.up ag;have dG:=i9.up ag;have dH:=ib.up ag;have c4:=Cy ic ag cf;have dI:=AM.upd id ag (λj=>CV (cg j));have dJ:=AA.upd ie ag (λj=>CV (ci j));have dK:=E7 ig (by exact Ip ag oO);have iX:=(c4).rest hc hs;refine Cs BQ rfl rfl ((Ii false _ (10::(d++(10::(EQ++(10::X))))) _ _ _ [13,10] _ _ _ (by have:=Hq hs;omega) rfl iX iW (by simp only [Aa,A9,Am];omega) (by have:=Hq hs;omega) (by simp))) (λjF ij=>?_);obtain rfl:=ij;refine A8 rfl<|Ay rfl rfl<|A4<|A3 rfl<|CC (ps:=_) B1 EC Li rfl rfl rfl rfl rfl pR rfl (λjG dL aC eK ah jp=>?_);have ik:=Gk (w1:=dL) ih (λk hk hl=>ah.other k oO);have il:=BJ.same (w1:=dL) ii (λk hk hl=>ah.other k oO);have im:=Bt aC dE.lt;have io:=dE.un ah im;have ip:=Bt aC dG.lt;have iq:=dG.un ah ip;have ir:=Bt aC dH.lt;have it:=dH.un ah ir;have cj:=λj=>aC▸c4.lt j
  have iu:=Cy c4 ah cj;have cm:=λj=>aC▸dI.lt j
  have iv:=AM.upd dI ah (λj=>CV (cm j));have cn:=λj=>aC▸dJ.lt j
  have iw:=AA.upd dJ ah (λj=>CV (cn j));have dM:=CW aC dK.size;have iy:=E7 dK (Ip ah dM);refine LM ([10]) B1 Ga rfl eK rfl rfl (λhE iY ai jq=>?_);have iz:=Gk (w1:=hE) ik (λk hk hl=>ai.other k oM);have iA:=BJ.same (w1:=hE) il (λk hk hl=>ai.other k oM);have dN:=io.up ai;have iB:=iq.up ai;have iC:=it.up ai;have dO:=Cy iu ai cj;have iD:=AM.upd iv ai (λj=>CV (cm j));have iE:=AA.upd iw ai (λj=>CV (cn j));have iF:=E7 iy (by exact Ip ai oO);have iZ:=(dO).rest hc hs;refine Cs BQ rfl rfl ((Ii true _ (10::(d++(10::(EQ++(10::X))))) _ _ _ [10] _ _ _ (by have:=Hq hs;omega) rfl iZ iY (by simp only [Aa,A9,Am];omega) (by have:=Hq hs;omega) (by simp))) (λjH iG=>?_);obtain rfl:=iG;refine A8 rfl<|BZ rfl rfl<|An<|A3 rfl<|A1 (.nck rfl)<|A1 (.fa Dy rfl BI dD rfl)<|Aj (Ae (C5 _) rfl dN rfl)<|A1 (.iis ((sx l (d++(10::(EQ++(10::X)))):Int)) (.add rfl rfl (Bb oO)) oO)<|A1 (.nck rfl)<|A1 (.fa Dy rfl BI dD rfl)<|BA BI rfl rfl rfl dN (by exact Nat.le_of_ble_eq_true rfl) (λdP bb aa jr=>?_);have bb:B4 dP br _ _:=bb;have aa:CP br _ _:=aa;have iH:=Gk (w1:=dP) iz (λk hk hl=>aa.other k oM);have iI:=BJ.same (w1:=dP) iA (λk hk hl=>aa.other k oM);have dQ:=iB.up aa;have iJ:=iC.up aa;have dR:=Af.upd dO aa (hpb);have co:=AM.upd iD aa ((λj=>by have:=b4 j;omega));have cq:=AA.upd iE aa ((λj=>by have:=b5 j;omega));have eL:=E7 iF (by exact Qc aa (by simp));refine A0<|A4<|A3 rfl<|?_;have i':=iI;refine Aj (Bd rfl dQ Av rfl Ah)<|Cs BQ rfl rfl ((RD f _ _ ks (IY vs) d.length _ i' hn oO (by rw [Gs];simpa using hkl))) (λdS am=>?_);have eM:=Gk (w1:=dS) iH (λk hk hl=>am.block k hl);have aO:=bb.bl am;have eN:=dQ.bl am;have eO:=iJ.bl am;have eP:=Fh dR am (λj=>dR.lt j);have eQ:=AM.below co am (λj=>co.lt j);have eR:=Ea cq am (λj=>cq.lt j)
  have eS:=kB eL am;refine A8 rfl<|Ad<|Ad<|DF 12 rfl BS (λw'=>w'.heap[br]?=dS.heap[br]?/\True) (λdU an=>?_);have eT:=Gk (w1:=dU) eM (λk hk hl=>(by obtain ⟨m,rfl⟩:=an;rfl));have H:=aO.drew an;have cr:=eN.drew an;have ct:=eO.drew an;have eU:=eP.drew an;have eV:=eQ.drew an;have eW:=eR.drew an;have eY:=E7 eS (RU an);have aw:=BU (H.trans aO.symm) BF;refine Ac 0 rfl (.mv rfl) aw ?_;refine Ac 1 rfl (.mv rfl) aw ?_;refine Ac 2 rfl (.nck rfl) aw ?_;refine Ac 3 rfl (.fa Dy rfl CZ dD rfl) aw ?_;refine C6 4 rfl (λw' hw'=>Ae (g22_ _) rfl ((hw'.1).trans aO) rfl) aw rfl ?_;refine Ac 5 rfl (.lenS B1 rfl) aw ?_;refine Ac 6 rfl (.mv rfl) aw ?_;refine Ac 7 rfl (.nck rfl) aw ?_;refine Ac 8 rfl (.fa Dy rfl BI dD rfl) aw ?_;refine C6 9 rfl (λw' hw'=>Ae (C5 _) rfl ((hw'.1).trans aO) rfl) aw rfl ?_;refine Ac 10 rfl (.sub rfl rfl (Bb oO)) aw ?_;refine Ac 11 rfl (.bis (false) (.gtr rfl rfl) (by exact AH oO)) aw ?_;refine C3 kR<|Ay rfl rfl<|As ?_;have jI:=(cr).lt;have jJ:=(ct).lt;refine Mz (α:=(Option Addr × Nat) × Nat) (λt=>[(1,ptV br),(5,ptV b1),(6,ptV ar),(8,Ag (d.length:Int)),(9,ptV t.2)]) (λt w'=>B9 w.heap.size [br] w w'/\B4 w' br (IK p l c (sx l (d++(10::(EQ++(10::X)))))) 78/\B4 w' b1 #[Ag yk,Ag yn,.string (bs yt),.slice ykp (ks++[Gc]).length ykc,.slice ylp cs.length ylc,.slice none 0 0] 27/\B4 w' ar #[Ag 0,Ag 0,.string ⟨#[]⟩,.slice none 0 0,.slice none 0 0,.slice none 0 0] 27/\B4 w' t.2 #[Ag 9,Ag 0,.string ⟨#[]⟩,.slice none 0 0,.slice none 0 0,.slice t.1.1 d.length t.1.2] 27/\Af w' p l/\AM F4 w' ykp (ks++[Gc])/\AA Q7 w' ylp cs/\Gl w' (λk=>(B<=k/\br<k)/\k<w.heap.size) cs (IY vs++[IL 2 (d.length:Int) []])/\Af w' t.1.1 d/\(0<d.length->ar<(pA t.1.1).block/\(pA t.1.1).block≠t.2)/\d.length<=t.1.2/\t.1.2<=9223372036854775807/\ar<t.2/\t.2<w'.heap.size/\Es (λk=>ar<k/\k≠t.2) w' (.slice t.1.1 d.length t.1.2) d) ?_ (λt w1 hR=>?_)
  refine DF 19 rfl BS (λw'=>w'.heap[br]?=dU.heap[br]?/\True) (λc5 ao=>?_);have cu:=Gk (w1:=c5) eT (λk hk hl=>(by obtain ⟨m,rfl⟩:=ao;rfl));have aP:=H.drew ao;have bc:=cr.drew ao;have aQ:=ct.drew ao;have aD:=eU.drew ao;have aR:=eV.drew ao;have aS:=eW.drew ao;have bd:=E7 eY (RU ao);have aj:=BU (aP.trans H.symm) BF;refine Ac 0 rfl (.mv rfl) aj ?_;refine Ac 1 rfl (.nck rfl) aj ?_;refine Ac 2 rfl (.fa Dy rfl CZ dD rfl) aj ?_;refine C6 3 rfl (λw' hw'=>Ae (g22_ _) rfl ((hw'.1).trans H) rfl) aj rfl ?_;refine Ac 4 rfl (.mv rfl) aj ?_;refine Ac 5 rfl (.nck rfl) aj ?_;refine Ac 6 rfl (.fa Dy rfl BI dD rfl) aj ?_;refine C6 7 rfl (λw' hw'=>Ae (C5 _) rfl ((hw'.1).trans H) rfl) aj rfl ?_;refine Ac 8 rfl (.mv rfl) aj ?_;refine Ac 9 rfl (.nck rfl) aj ?_;refine Ac 10 rfl (.fa Dy rfl BI dD rfl) aj ?_;refine C6 11 rfl (λw' hw'=>Ae (C5 _) rfl ((hw'.1).trans H) rfl) aj rfl ?_;refine Ac 12 rfl (.mv rfl) aj ?_;refine Ac 13 rfl (.iis ((sx l (10::(EQ++(10::X))):Int)) (.add rfl rfl (Bb oO)) oO) aj ?_;refine Ac 14 rfl (.slb B1 EC rfl rfl rfl  (sx l (d++(10::(EQ++(10::X))))) (sx l (10::(EQ++(10::X)))) (rfl) (rfl) (oO) ((by have:=Gq l (10::(EQ++(10::X)));omega))) aj ?_;refine IS 15 rfl 17 rfl ?_ ?_;have iK:=(aQ).lt;have dV:Af c5 (DO p c (sx l (d++(10::(EQ++(10::X)))))) d:=by
    have q:=Af.part (a:=sx l (d++(10::(EQ++(10::X))))) (b:=sx l (10::(EQ++(10::X)))) aD oO (Gq _ _) hc
    rwa [Eu s1,<- a2,Nat.add_sub_cancel_left,List.take_left] at q
  refine Bf BQ rfl rfl ((LK _ d _ _ _ oO dV (λ_=>.inr (SV (hb.isp oO))) oO)) (λv dW Y=>?_);have eZ:=Gk (w1:=dW) cu (λk hk hl=>Y.1.block k hl);have aT:=aP.bl Y.1;have cv:=bc.bl Y.1;have cw:=aQ.bl Y.1;have cy:=Fh aD Y.1 (λj=>aD.lt j);have cz:=AM.below aR Y.1 (λj=>aR.lt j);have cA:=Ea aS Y.1 (λj=>aS.lt j);have cB:=kB bd Y.1;have b8:=Y.2.1;have aq:=Y.2.2;have be:=b8.lt;have c6:=(Y.2.2.2.2.2).mono (T:=λk=>c5.heap.size<=k/\k<dW.heap.size) (λk hk hl=>⟨hk,hl⟩);refine A0<|⟨⟨(aT).trans (H).symm,tT⟩,?_⟩;refine Ac 16 rfl (.buildL (ps:=_) Ec rfl rfl rfl pS) ⟨(aT).trans (H).symm,tT⟩ ?_;refine Br 17 rfl<|Bm CA rfl (λbf cC ap dX K j0=>?_);have e':=Gk (w1:=cC) eZ (λk hk hl=>K.other k oO);have f0:=Es.same (w1:=cC) c6 (λk hk hl=>K.other k oO);have f1:=Bt ap aT.lt;have cD:=aT.un K f1;have f2:=Bt ap cv.lt;have f3:=cv.un K f2;have f4:=Bt ap cw.lt;have f5:=cw.un K f4;have bJ:=λj=>ap▸cy.lt j
  have f6:=Cy cy K bJ;have bK:=λj=>ap▸cz.lt j
  have f7:=AM.upd cz K (λj=>CV (bK j));have bL:=λj=>ap▸cA.lt j
  have f8:=AA.upd cA K (λj=>CV (bL j));have bM:=λj=>ap▸b8.lt j
  have f9:=Cy b8 K bM;have dk:=CW ap cB.size;have fb:=E7 cB (Ip K dk);refine A0<|⟨⟨(cD).trans (H).symm,tT⟩,?_⟩;refine Br 18 rfl<|Az rfl rfl dX Ah rfl rfl (λdY bN N j1=>?_);have fc:=Gk (w1:=dY) e' (λk hk hl=>N.other k oM);have fd:=Es.same (w1:=dY) f0 (λk hk hl=>N.other k oM);have cE:=cD.up N;have fe:=f3.up N;have ff:=f5.up N;have fg:=Cy f6 N bJ;have fh:=AM.upd f7 N (λj=>CV (bK j));have fi:=AA.upd f8 N (λj=>CV (bL j));have fj:=Cy f9 N bM;have fk:=E7 fb (by exact Ip N oO);refine A0<|⟨⟨(cE).trans (H).symm,tT⟩,?_⟩;refine C3 kR ?_;exact ⟨(v,bf),⟨rfl,rfl,rfl,rfl,rfl,tT⟩,fk,cE,fe,ff,bN,fg,fh,fi,fc,fj,λj=>⟨by have:=aq.1 j;show ar<(pA v.1).block;omega,by have:=aq.1 j;have:=be j;show (pA v.1).block≠bf;omega⟩,aq.2.1,aq.2.2.1,by show ar<bf;omega,(bN).lt,(fd).mono (λk hk _=>⟨oO,by show k≠bf;omega⟩)⟩;refine Bm CA rfl (λbg bh av dZ ae j2=>?_);have fl:=Gk (w1:=bh) cu (λk hk hl=>ae.other k oO);have fm:=Bt av aP.lt;have cF:=aP.un ae fm;have fn:=Bt av bc.lt;have fo:=bc.un ae fn;have fp:=Bt av aQ.lt;have cG:=aQ.un ae fp;have bO:=λj=>av▸aD.lt j
  have bi:=Cy aD ae bO;have bP:=λj=>av▸aR.lt j
  have cH:=AM.upd aR ae (λj=>CV (bP j));have bQ:=λj=>av▸aS.lt j
  have cI:=AA.upd aS ae (λj=>CV (bQ j));have dl:=CW av bd.size;have fq:=E7 bd (Ip ae dl);refine A0<|⟨⟨(cF).trans (H).symm,tT⟩,?_⟩;refine Br 15 rfl ?_;have iK:=(cG).lt;have dV:Af bh (DO p c (sx l (d++(10::(EQ++(10::X)))))) d:=by
    have q:=Af.part (a:=sx l (d++(10::(EQ++(10::X))))) (b:=sx l (10::(EQ++(10::X)))) bi oO (Gq _ _) hc
    rwa [Eu s1,<- a2,Nat.add_sub_cancel_left,List.take_left] at q
  refine Bf BQ rfl rfl ((LK _ d _ _ _ oO dV (λ_=>.inr (SV (hb.isp oO))) oO)) (λv d' Q=>?_);have fr:=Gk (w1:=d') fl (λk hk hl=>Q.1.block k hl);have bj:=cF.bl Q.1;have fs:=fo.bl Q.1;have ft:=cG.bl Q.1;have fu:=dZ.bl Q.1;have fv:=Fh bi Q.1 (λj=>bi.lt j);have fw:=AM.below cH Q.1 (λj=>cH.lt j);have fx:=Ea cI Q.1 (λj=>cI.lt j);have fy:=kB fq Q.1;have b8:=Q.2.1;have aq:=Q.2.2;have be:=b8.lt;have c6:=(Q.2.2.2.2.2).mono (T:=λk=>bh.heap.size<=k/\k<d'.heap.size) (λk hk hl=>⟨hk,hl⟩);refine A0<|⟨⟨(bj).trans (H).symm,tT⟩,?_⟩;refine Ac 16 rfl (.buildL (ps:=_) Ec rfl rfl rfl pS) ⟨(bj).trans (H).symm,tT⟩ ?_;refine Br 18 rfl<|Az rfl rfl fu Ah rfl rfl (λe0 bR P j3=>?_);have fz:=Gk (w1:=e0) fr (λk hk hl=>P.other k oM);have fA:=Es.same (w1:=e0) c6 (λk hk hl=>P.other k oM);have cJ:=bj.up P;have fB:=fs.up P;have fC:=ft.up P;have fD:=Cy fv P bO;have fE:=AM.upd fw P (λj=>CV (bP j));have fF:=AA.upd fx P (λj=>CV (bQ j));have fG:=Af.upd b8 P ((λj=>by (have:=aq.1 j;omega)));have fH:=E7 fy (by exact Ip P oO);refine A0<|⟨⟨(cJ).trans (H).symm,tT⟩,?_⟩;refine C3 kR ?_;exact ⟨(v,bg),⟨rfl,rfl,rfl,rfl,rfl,tT⟩,fH,cJ,fB,fC,bR,fD,fE,fF,fz,fG,λj=>⟨by have:=aq.1 j;show ar<(pA v.1).block;omega,by have:=aq.1 j;have:=be j;show (pA v.1).block≠bg;omega⟩,aq.2.1,aq.2.2.1,by show ar<bg;omega,(bR).lt,(fA).mono (λk hk _=>⟨oO,by show k≠bg;omega⟩)⟩;obtain ⟨⟨dp,dc⟩,b9⟩:=t;obtain ⟨q1,q2,q3,q4,q5,q6,q7,q8,q9,e4,hF,hG,hH,j4,hI,hJ⟩:=hR;simp only at q5 e4 hF hG hH j4 hI hJ;have ax:=hF;have bk:=e4.lt;have hB6M:=q4.lt;have hB5M:=q3.lt;obtain ⟨M,hM⟩:=eX w1.heap.size;have j5:=q1.size;rw [<- hM] at bk hB6M hB5M hI j5;have jK:M<=w1.heap.size:=by omega
  have iL:=hJ.mono (T:=λk=>(ar<k/\k≠b9)/\k<M) (λk hk hl=>⟨hk,oO⟩);have c7:0<(ks++[Gc]).length->(pA ykp).block<M:=λj=>by have:=b4 j;omega
  have c8:0<cs.length->(pA ylp).block<M:=λj=>by have:=b5 j;omega
  refine A4<|A3 rfl<|A1 (.nck rfl)<|A1 (.fa Dy rfl BI dD rfl)<|Aj (Ae (C5 _) rfl q2 rfl)<|A3 rfl<|A1 (.iis ((sx l (10::(EQ++(10::X))):Int)) (.add rfl rfl (Bb oO)) oO)<|A1 (.nck rfl)<|A1 (.fa Dy rfl BI dD rfl)<|BA BI rfl rfl rfl q2 (by exact Nat.le_of_ble_eq_true rfl) (λc9 b6 G j6=>?_);have b6:B4 c9 br _ _:=b6;have G:CP br _ _:=G;have fI:=Gk (w1:=c9) q9 (λk hk hl=>G.other k oM);have fJ:=Es.same (w1:=c9) iL (λk hk hl=>G.other k oM);have cK:=q3.upd G oM;have cL:=q4.upd G oM;have cM:=q5.upd G oM;have fK:=Af.upd q6 G (hpb);have cN:=AM.upd q7 G ((λj=>by have:=b4 j;omega));have cO:=AA.upd q8 G ((λj=>by have:=b5 j;omega));have bm:=Af.upd e4 G ((λj=>by (have:=ax j;omega)));have cP:=E7 q1 (by exact Qc G (by simp));refine A0<|A4<|A3 rfl<|Au (IX [10] EQ (10::X) b6 fK hc hl hpb s2 dD dD dD (Dz dD)) (λe5 a0=>?_);have fL:=Gk (w1:=e5) fI (λk hk hl=>a0.1.block k hl (by (simp only [A7,A6,Ax,not_or,Ab];omega)));have fM:=Es.same (w1:=e5) fJ (λk hk hl=>a0.1.block k hl (by (simp only [A7,A6,Ax,not_or,Ab];omega)));have cQ:=B4.keepB cK a0.1 cK.lt (by simp only [A7,A6,Ax,not_or,Ab];omega);have fN:=B4.keepB cL a0.1 cL.lt (by simp only [A7,A6,Ax,not_or,Ab];omega);have fO:=B4.keepB cM a0.1 cM.lt (by simp only [A7,A6,Ax,not_or,Ab];omega);have fP:=AM.keepB cN a0.1 (λj=>⟨cN.lt j,by simpa using ((λj=>by have:=b4 j;omega)) j⟩);have fQ:=O9 cO a0.1 (λj=>⟨cO.lt j,by simpa using ((λj=>by have:=b5 j;omega)) j⟩);have fR:=Af.keepB bm a0.1 (λj=>⟨bm.lt j,by first | simpa using ((λj=>by (have:=ax j;omega))) j | (have q:=((λj=>by (have:=ax j;omega))) j;have q1:=bm.lt j;simp only [A7,A6,Ax,not_or,Ab];omega)⟩)
  have fS:=E7 cP (Do a0.1 cP.size (by simp <;> omega));have j7:=a0.2;have ju:=(a0).1.size;refine A0<|Ad<|A4<|A1 (.fa Av rfl E6 dD rfl)<|Aj (Ae (Fs _) rfl cQ rfl)<|A1 (.lenS DD rfl)<|A3 rfl<|A0<|AT<|BO (α:=Value × Value × Nat) (λt=>[(5,ptV b1),(6,ptV ar),(9,ptV b9),(90,.slice ykp (ks++[Gc]).length ykc),(91,Ag ((ks++[Gc]).length:Int)),(92,Ag (t.2.2:Int))]) (λt w'=>B9 w.heap.size [br] w w'/\B4 w' br (IK p l c (sx l (10::X))) 78/\B4 w' b1 #[Ag yk,Ag yn,.string (bs yt),.slice ykp (ks++[Gc]).length ykc,.slice ylp cs.length ylc,.slice none 0 0] 27/\B4 w' ar #[Ag 0,Ag 0,.string ⟨#[]⟩,.slice none 0 0,.slice none 0 0,.slice none 0 0] 27/\B4 w' b9 #[Ag 9,Ag 0,.string ⟨#[]⟩,t.1,t.2.1,.slice dp d.length dc] 27/\AM F4 w' ykp (ks++[Gc])/\AA Q7 w' ylp cs/\Gl w' (λk=>(B<=k/\br<k)/\k<w.heap.size) cs (IY vs++[IL 2 (d.length:Int) []])/\Af w' dp d/\AO GZ 9 M w' t.1 (ks.take t.2.2)/\AO Q7 27 M w' t.2.1 ((cs.take ks.length).take t.2.2)/\(∀ g,t.1.ownBlock=some g->t.2.1.ownBlock≠some g)/\M<=w'.heap.size/\t.2.2<=ks.length+1/\Es (λk=>(ar<k/\k≠b9)/\k<M) w' (.slice dp d.length dc) d) (λt=>ks.length+1-t.2.2) ((.slice none 0 0,.slice none 0 0,0)) ⟨rfl,rfl,rfl,rfl,rfl,rfl,tT⟩ (⟨fS,j7,cQ,fN,fO,fP,fQ,fL,fR,AO.nil _ _ _ _,AO.nil _ _ _ _,λg hg=>(by cases hg),oO,FN _,fM⟩) (λt w1 hR=>?_);obtain ⟨kv,v,i⟩:=t;obtain ⟨hT,p1,p2,p3,p4,p5,p6,p7,p8,ay,aL,aM,aN,hi,p9⟩:=hR;simp only at p4 ay aL aM hi ⊢;obtain ⟨pl,cl,rfl,-⟩:=aL.row;obtain ⟨pk,ck,rfl,-⟩:=ay.row;refine A4<|A1 (.lss rfl rfl)<|A0<|Ad<|Ai rfl (λca=>?_) (λca=>?_)
  · have fT := dT ca
    refine As<|Ad<|AT<|A4<|A3 rfl<|A1 (.ixb DD FP rfl rfl (p5.isp oO) (i) (rfl) oO)<|Aj (BG (FU _) rfl (p5.cells (i) oO))<|CL rfl<|A8 rfl<|A4<|A3 rfl<|A1 (.bis (!decide (ks.length<=i)) (.nes rfl rfl) (by exact A18 hn i oO))<|A0<|Ai rfl (λcb=>?_) (λcb=>?_)
    · have fU := ndT cb
      refine A4<|A1 (.fa Av rfl E6 dD rfl)<|Aj (Ae (Fs _) rfl p4 rfl)<|A3 rfl<|CC (ps:=_) DD FP z9_ rfl rfl rfl rfl rfl pR rfl (λjv cR ab e6 D j8=>?_);have bS:=CT aN D.size;have aU:=Ix ay ab D;have e7:=CT aN D.size;have bn:=Ix aL ab D;have fV:=Gk (w1:=cR) p7 (λk hk hl=>D.other k oO);have fW:=Es.same (w1:=cR) p9 (λk hk hl=>D.other k oO);have fX:=Bt ab p1.lt;have fY:=p1.un D fX;have fZ:=Bt ab p2.lt;have f':=p2.un D fZ;have g0:=Bt ab p3.lt;have g1:=p3.un D g0;have g2:=Bt ab p4.lt;have g3:=p4.un D g2;have e8:=λj=>ab▸p5.lt j
      have g4:=AM.upd p5 D (λj=>CV (e8 j));have e9:=λj=>ab▸p6.lt j
      have g5:=AA.upd p6 D (λj=>CV (e9 j));have ea:=λj=>ab▸p8.lt j
      have g6:=Af.upd p8 D (λj=>CV (ea j));have dm:=CW ab hT.size;have cS:=E7 hT (Ip D dm);have j9:=AA.lit (V:=GZ) (l:=[(ks++[Gc])[i]'oO]) e6 (rfl);have ja:=(bn).lt;refine Cb DD Nb rfl rfl rfl aU rfl j9 (by simp only [Aa,Am,Ap];omega) (bS) rfl (λh=>nomatch h) (λeb jw bT a3 aE ec=>?_);have g7:=fY.below a3 oO;have g8:=f'.below a3 oO;have g9:=g1.below a3 oO;have ga:=g3.below a3 oO;have gb:=Gk fV (λk hk hl=>aE.block k hl (λe=>by have:=(aU).lt k e.symm;omega));have gc:=Es.same fW (λk hk hl=>aE.block k hl (λe=>by have:=(aU).lt k e.symm;omega));have ge:=AO.same bn (λg hg=>aE.block g ((bn).lt g hg).2 (λhx=>aM g hx.symm hg));have ed:=CT e7 a3.size;have gf:=AM.below g4 a3 c7;have gg:=Ea g5 a3 c8;have gh:=Fh g6 a3 bk;have gi:=E7 cS (GB aE (λg hg=>.inr (by have:=(aU).lt g hg;omega)) cS.size);have ee:=CT bS a3.size;have aV:∀ g,(eb).ownBlock=some g->(Value.slice pl ((cs.take ks.length).take i).length cl).ownBlock≠some g:=λg hg=>by rcases ec g hg with h | h;exact aM g h;exact λh2=>by have:=ja g h2;omega
      obtain ⟨hK,rfl⟩:=eX eb;refine A1 (.fa Av rfl E6 dD rfl)<|BA E6 rfl rfl (bT).one ga (by exact Nat.le_of_ble_eq_true rfl) (λbo b7 s jb=>?_);have b7:B4 bo b9 _ _:=b7;have s:CP b9 _ _:=s;have ef:=CT ee s.size;have gj:=Bn bT s oM;have eg:=CT ed s.size;have gk:=Bn ge s oM;have gl:=Gk (w1:=bo) gb (λk hk hl=>s.other k oM);have gm:=Es.same (w1:=bo) gc (λk hk hl=>s.other k oM);have go:=g7.up s;have C:=g8.up s;have gp:=g9.up s;have gq:=AM.upd gf s ((λj=>by have:=b4 j;omega));have gr:=AA.upd gg s ((λj=>by have:=b5 j;omega));have gs:=Af.upd gh s ((λj=>by (have:=ax j;omega)));have gt:=E7 gi (by exact Ip s oO);refine A0<|DF 11 rfl BS (λw'=>w'.heap[b1]?=bo.heap[b1]?/\AA Q7 w' ylp cs/\True) (λeh J=>?_);have bU:=HS ef J;have cT:=AO.drew gj J;have bV:=HS eg J;have cU:=AO.drew gk J;have cV:=Gk (w1:=eh) gl (λk hk hl=>(by obtain ⟨m,rfl⟩:=J;rfl));have cW:=Es.same (w1:=eh) gm (λk hk hl=>(by obtain ⟨m,rfl⟩:=J;rfl));have aW:=go.drew J;have a4:=C.drew J;have aX:=gp.drew J;have aF:=b7.drew J;have aY:=gq.drew J;have U:=gr.drew J;have aZ:=gs.drew J;have a':=E7 gt (RU J);refine Ac 0 rfl (.fa Av rfl CQ dD rfl) ⟨(a4).trans (C).symm,U,tT⟩ ?_;refine Ac 2 rfl (.fa Av rfl CQ dD rfl) ⟨(a4).trans (C).symm,U,tT⟩ ?_;refine C6 3 rfl (λw' hw'=>Ae (DW _) rfl ((hw'.1).trans C) rfl) ⟨(a4).trans (C).symm,U,tT⟩ rfl ?_;refine Ac 4 rfl (.mv rfl) ⟨(a4).trans (C).symm,U,tT⟩ ?_;refine Ac 5 rfl (.ixm Cg Dd rfl rfl (U.isp oO) (i) (rfl) oO) ⟨(a4).trans (C).symm,U,tT⟩ ?_;refine C6 6 rfl (λw' hw'=>DG Av rfl Ah (hw'.2.1) (i) oO rfl) ⟨(a4).trans (C).symm,U,tT⟩ rfl ?_;refine IS 1 rfl 7 rfl ?_ ?_;refine Aj (Ae (DW _) rfl aF rfl)<|A0<|⟨⟨(a4).trans (C).symm,U,tT⟩,?_⟩
      refine Br 7 rfl<|CR (L:=Q7) (ps:=_) ([cs[i]'oO]) Cg Dd CA rfl rfl rfl rfl rfl (by rfl) rfl rfl (λiM bp ac ei E jc=>?_);have ej:=CT bU E.size;have bq:=Ix cT ac E;have bW:=CT bV E.size;have b0:=Ix cU ac E;have gv:=Gk (w1:=bp) cV (λk hk hl=>E.other k oO);have gw:=Es.same (w1:=bp) cW (λk hk hl=>E.other k oO);have gx:=Bt ac aW.lt;have gz:=aW.un E gx;have gA:=Bt ac a4.lt;have cX:=a4.un E gA;have gB:=Bt ac aX.lt;have gC:=aX.un E gB;have gD:=Bt ac aF.lt;have gE:=aF.un E gD;have ek:=λj=>ac▸aY.lt j
      have gF:=AM.upd aY E (λj=>CV (ek j));have el:=λj=>ac▸U.lt j
      have cY:=AA.upd U E (λj=>CV (el j));have em:=λj=>ac▸aZ.lt j
      have gG:=Cy aZ E em;have dn:=CW ac a'.size;have cZ:=E7 a' (Ip E dn);have iQ:iM<=bp.heap.size:=by omega
      refine A0<|⟨⟨(cX).trans (C).symm,cY,tT⟩,?_⟩;refine Br 8 rfl ?_;have en:=(bq).lt;refine Cb Cg FZ rfl rfl rfl b0 rfl (ei).rowp (by simp only [Aa,Am,Ap];omega) (bW) rfl (λh=>nomatch h) (λiN jx bX a5 aG eo=>?_);have gH:=gz.below a5 oO;have bt:=cX.below a5 oO;have gI:=gC.below a5 oO;have gJ:=gE.below a5 oO;have gK:=Gk gv (λk hk hl=>aG.block k hl (λe=>by have:=(b0).lt k e.symm;omega));have gL:=Es.same gw (λk hk hl=>aG.block k hl (λe=>by have:=(b0).lt k e.symm;omega));have gM:=AO.same bq (λg hg=>aG.block g ((bq).lt g hg).2 (λhx=>aV g hg hx.symm));have ep:=CT ej a5.size;have gN:=AM.below gF a5 c7;have bu:=Ea cY a5 c8;have gO:=Fh gG a5 bk;have gP:=E7 cZ (GB aG (λg hg=>.inr (by have:=(b0).lt g hg;omega)) cZ.size);have eq:=CT bW a5.size;have b2:∀ g,hK.ownBlock=some g->(iN).ownBlock≠some g:=λg hg h2=>by rcases eo g h2 with h | h;exact aV g hg h;have:=en g hg;omega
      refine A0<|⟨⟨(bt).trans (C).symm,bu,tT⟩,?_⟩;refine Ac 9 rfl (.fa Av rfl CQ dD rfl) ⟨(bt).trans (C).symm,bu,tT⟩ ?_;refine Br 10 rfl<|BA CQ rfl rfl (bX).one gJ (by exact Nat.le_of_ble_eq_true rfl) (λcc aH u jd=>?_);have aH:B4 cc b9 _ _:=aH;have u:CP b9 _ _:=u;have bY:=CT ep u.size;have c':=Bn gM u oM;have je:=CT eq u.size;have d0:=Bn bX u oM;have d1:=Gk (w1:=cc) gK (λk hk hl=>u.other k oM);have d2:=Es.same (w1:=cc) gL (λk hk hl=>u.other k oM);have d3:=gH.up u;have bv:=bt.up u;have d4:=gI.up u;have d5:=AM.upd gN u ((λj=>by have:=b4 j;omega));have bw:=AA.upd bu u ((λj=>by have:=b5 j;omega));have d6:=Af.upd gO u ((λj=>by (have:=ax j;omega)));have d7:=E7 gP (by exact Ip u oO);refine A0<|⟨⟨(bv).trans (C).symm,bw,tT⟩,?_⟩;refine C3 kR<|An<|A1 (.iis (((i+1:Nat):Int)) (.add rfl rfl (Bb oO)) oO)<|A3 rfl<|A0<|?_
      first
      | (have a8 := c'
         have a9:=d0;rw [UW i oO oO] at a8;rw [Ui oO oO] at a9;exact ⟨(_,_,i+1),⟨rfl,rfl,rfl,rfl,rfl,rfl,tT⟩,⟨d7,d3,bv,d4,aH,d5,bw,d1,d6,a8,a9,b2,bY,oM,d2⟩,oM⟩)
      | (have a8 := (c').cast (show ks.take i = ks.take (i + 1) by rw [Al oO, Al oO])
         have a9:=(d0).cast (show (cs.take ks.length).take i=(cs.take ks.length).take (i+1) by
           have hL:(cs.take ks.length).length=ks.length:=by rw [Ap];omega
           rw [Al (l:=cs.take ks.length) oO,Al (l:=cs.take ks.length) oO])
         exact ⟨(_,_,i+1),⟨rfl,rfl,rfl,rfl,rfl,rfl,tT⟩,⟨d7,d3,bv,d4,aH,d5,bw,d1,d6,a8,a9,aM,bY,oM,d2⟩,oM⟩)
      refine CR (L:=Q7) (ps:=_) ([cs[i]'oO]) Cg Dd CA rfl rfl rfl rfl rfl (by rfl) rfl rfl (λiO bz ad er F jf=>?_);have es:=CT bU F.size;have bA:=Ix cT ad F;have bZ:=CT bV F.size;have b3:=Ix cU ad F;have gQ:=Gk (w1:=bz) cV (λk hk hl=>F.other k oO);have gR:=Es.same (w1:=bz) cW (λk hk hl=>F.other k oO);have gS:=Bt ad aW.lt;have gT:=aW.un F gS;have gU:=Bt ad a4.lt;have bB:=a4.un F gU;have gV:=Bt ad aX.lt;have gW:=aX.un F gV;have gX:=Bt ad aF.lt;have d8:=aF.un F gX;have et:=λj=>ad▸aY.lt j
      have gY:=AM.upd aY F (λj=>CV (et j));have eu:=λj=>ad▸U.lt j
      have bC:=AA.upd U F (λj=>CV (eu j));have ev:=λj=>ad▸aZ.lt j
      have gZ:=Cy aZ F ev;have dq:=CW ad a'.size;have d9:=E7 a' (Ip F dq);have iR:iO<=bz.heap.size:=by omega
      refine A0<|⟨⟨(bB).trans (C).symm,bC,tT⟩,?_⟩;refine Br 1 rfl<|Aj (Ae (DW _) rfl d8 rfl)<|A0<|⟨⟨(bB).trans (C).symm,bC,tT⟩,?_⟩;refine Br 8 rfl ?_;have en:=(bA).lt;refine Cb Cg FZ rfl rfl rfl b3 rfl (er).rowp (by simp only [Aa,Am,Ap];omega) (bZ) rfl (λh=>nomatch h) (λiP jy b' a6 aI ew=>?_);have g':=gT.below a6 oO;have bD:=bB.below a6 oO;have h3:=gW.below a6 oO;have h4:=d8.below a6 oO;have h5:=Gk gQ (λk hk hl=>aI.block k hl (λe=>by have:=(b3).lt k e.symm;omega));have h6:=Es.same gR (λk hk hl=>aI.block k hl (λe=>by have:=(b3).lt k e.symm;omega));have h7:=AO.same bA (λg hg=>aI.block g ((bA).lt g hg).2 (λhx=>aV g hg hx.symm));have ex:=CT es a6.size;have h8:=AM.below gY a6 c7;have bE:=Ea bC a6 c8;have h9:=Fh gZ a6 bk;have ha:=E7 d9 (GB aI (λg hg=>.inr (by have:=(b3).lt g hg;omega)) d9.size);have ey:=CT bZ a6.size;have b2:∀ g,hK.ownBlock=some g->(iP).ownBlock≠some g:=λg hg h2=>by rcases ew g h2 with h | h;exact aV g hg h;have:=en g hg;omega
      refine A0<|⟨⟨(bD).trans (C).symm,bE,tT⟩,?_⟩;refine Ac 9 rfl (.fa Av rfl CQ dD rfl) ⟨(bD).trans (C).symm,bE,tT⟩ ?_;refine Br 10 rfl<|BA CQ rfl rfl (b').one h4 (by exact Nat.le_of_ble_eq_true rfl) (λcd aJ x jg=>?_);have aJ:B4 cd b9 _ _:=aJ;have x:CP b9 _ _:=x;have c0:=CT ex x.size;have da:=Bn h7 x oM;have jh:=CT ey x.size;have db:=Bn b' x oM;have dd:=Gk (w1:=cd) h5 (λk hk hl=>x.other k oM);have de:=Es.same (w1:=cd) h6 (λk hk hl=>x.other k oM);have df:=g'.up x;have bG:=bD.up x;have dg:=h3.up x;have dh:=AM.upd h8 x ((λj=>by have:=b4 j;omega));have bH:=AA.upd bE x ((λj=>by have:=b5 j;omega));have di:=Af.upd h9 x ((λj=>by (have:=ax j;omega)));have dj:=E7 ha (by exact Ip x oO);refine A0<|⟨⟨(bG).trans (C).symm,bH,tT⟩,?_⟩;refine C3 kR<|An<|A1 (.iis (((i+1:Nat):Int)) (.add rfl rfl (Bb oO)) oO)<|A3 rfl<|A0<|?_
      first
      | (have a8 := da
         have a9:=db;rw [UW i oO oO] at a8;rw [Ui oO oO] at a9;exact ⟨(_,_,i+1),⟨rfl,rfl,rfl,rfl,rfl,rfl,tT⟩,⟨dj,df,bG,dg,aJ,dh,bH,dd,di,a8,a9,b2,c0,oM,de⟩,oM⟩)
      | (have a8 := (da).cast (show ks.take i = ks.take (i + 1) by rw [Al oO, Al oO])
         have a9:=(db).cast (show (cs.take ks.length).take i=(cs.take ks.length).take (i+1) by
           have hL:(cs.take ks.length).length=ks.length:=by rw [Ap];omega
           rw [Al (l:=cs.take ks.length) oO,Al (l:=cs.take ks.length) oO])
         exact ⟨(_,_,i+1),⟨rfl,rfl,rfl,rfl,rfl,rfl,tT⟩,⟨dj,df,bG,dg,aJ,dh,bH,dd,di,a8,a9,aM,c0,oM,de⟩,oM⟩)
    have fU:=ndF cb;refine As<|An<|A1 (.iis (((i+1:Nat):Int)) (.add rfl rfl (Bb oO)) oO)<|A3 rfl<|A0<|?_
    first
    | (have a8 := ay
       have a9:=aL;rw [UW i oO oO] at a8;rw [Ui oO oO] at a9;exact ⟨(_,_,i+1),⟨rfl,rfl,rfl,rfl,rfl,rfl,tT⟩,⟨hT,p1,p2,p3,p4,p5,p6,p7,p8,a8,a9,b2,aN,oM,p9⟩,oM⟩)
    | (have a8 := (ay).cast (show ks.take i = ks.take (i + 1) by rw [Al oO, Al oO])
       have a9:=(aL).cast (show (cs.take ks.length).take i=(cs.take ks.length).take (i+1) by
         have hL:(cs.take ks.length).length=ks.length:=by rw [Ap];omega
         rw [Al (l:=cs.take ks.length) oO,Al (l:=cs.take ks.length) oO])
       exact ⟨(_,_,i+1),⟨rfl,rfl,rfl,rfl,rfl,rfl,tT⟩,⟨hT,p1,p2,p3,p4,p5,p6,p7,p8,a8,a9,aM,aN,oM,p9⟩,oM⟩)
  have fT:=dF ca;refine BL<|A4<|Aj (Bd rfl p4 Av rfl Ah)<|Az rfl rfl p3 Ah rfl rfl (λez eA a7 ji=>?_);have jj:=CT aN a7.size;have he:=Bn ay a7 oM;have jk:=CT aN a7.size;have hf:=Bn aL a7 oM;have hh:=Gk (w1:=ez) p7 (λk hk hl=>a7.other k oM);have hj:=Es.same (w1:=ez) p9 (λk hk hl=>a7.other k oM);have hm:=p1.upd a7 oM;have ho:=Af.upd p8 a7 ((λj=>by (have:=ax j;omega)));have hp:=E7 hT (by exact Ip a7 oO);refine A0<|AU (BD rfl rfl (Ba eA Av rfl Ah)  ?_);obtain rfl:i=ks.length+1:=by omega
  have a8:=(he).cast (Al (l:=ks) oO);have a9:=(hf).cast (Al (l:=cs.take ks.length) (by rw [Ap];omega));have jl:=hh;refine ⟨⟨9,0,[],pk,_,ck,pl,_,cl,dp,d.length,dc⟩,rfl,⟨Y4 (S:=λk=>B<=k) a8 a9 (λg hg=>by omega) hkk ho (λj=>by have:=ax j;omega) hG hH (by rw [Ap];omega) (λi h h2=>?_) hsnd,⟨⟨_,a8.base (λg hg=>FN _),λg hg=>by have:=a8.lt g hg;show B<=g;omega⟩,⟨_,A1L (a9.base (λg hg=>FN _)),λg hg=>by have:=a9.lt g hg;show B<=g;omega⟩,⟨_,(hj).mono (λk hk _=>by omega)⟩⟩⟩,hp,hm⟩;have eB:=jl.sub i (by rw [Ap] at h;omega) oO;rw [CY (by rw [Gs,Bo];exact h2)] at eB;rw [MG];have e3:(IY vs)[i]'(by rw [Gs,Bo];exact h2)=Jd vs[i]:=by simp only [Gs,GX]
  rw [e3] at eB;exact eB.mono λk hk _=>hk.1.1
end
section
def He:l8_:=[101,110,100,111,98,106]
theorem A0Y (k:Int) (x:l8_):NoR k (10::(He++x)):=λ_ h=>by
 have e:EL (10::(He++x))=101::(([110,100,111,98,106]++x).takeWhile D1):=by
  unfold EL
  have a:DA false (10::(He++x))=He++x:=by
   have:=HI [10] (He++x) dD
   rw [show [10]++(He++x)=10::(He++x) from rfl] at this
   rw [this]
   exact EH (c:=101) dD dD
  rw [a]
  show (101::([110,100,111,98,106]++x)).takeWhile D1=_
  rw [List.takeWhile_cons,A5 dD]
 rw [e] at h
 exact Dp (List.cons.inj h.1).1 dD
theorem QS (b4 b5:Nat) (w:World) (h:B4 w b5 #[Ag 0] 35) :
  CallsD Tryz.prog 137 #[ptV b5,ptV b4] .returning w λe u' w'=>u'=.returning/\(∃ v,e=.returned v)/\w'=w:=by
 refine Et func137 rfl ntmps137 bL rfl<|Au (KZ _ _) (λb a=>?_)
 obtain rfl:=a
 refine A0<|A4<|Aj (Ae (Eh _) rfl h rfl)<|A1 (.neq rfl rfl)<|A0<|Ay rfl rfl<|As<|D9 (CU rfl ?_)
 exact ⟨⟨_,rfl⟩,rfl⟩
end
section
def NV (j:Nat) (t R:l8_):l8_:=B0 (j+1)++(32::48::32::111::98::106::10::(t++(10::(He++(10::R)))))
theorem Q4 (bf:Nat) (S:Nat->Prop) (l:l8_) (ps:List Nat) (j:Nat) (o:AV) (R:l8_) (w:World) (h:AK S w bf l ps) (hl:l.length<=1048576) (hj:j<ps.length) (hpl:ps.length<=4096) (hs:NV j (Da o) R <:+ l) (hp:ps[j]=sx l (NV j (Da o) R)) (hsnd:FJ 32 true o) (h9:o.kind≠9) :
  Calls Tryz.prog 111 #[ptV bf,Ag ((j+1:Nat):Int)] w λe w'=>∃ z:AC,e=.returned (.tuple #[.agg (D3 z).toArray,Ag 0])/\JO w' (λk=>w.heap.size<=k) z o/\AL w w':=by
 obtain ⟨p,c,bm,y0,hf,-,hb,-,hc,hm,-,-⟩:=h
 have hg:=Yv ps j hj
 have bc:=Gq l (NV j (Da o) R)
 have s1:(10::(Da o++(10::(He++(10::R))))) <:+ l:=DN (A:=[32,48,32,111,98,106]) (DN hs)
 have s2:(10::(He++(10::R))) <:+ l:=DN (E8 s1)
 have hO:=RL (B:=[10]) hsnd h9 s1 dD (Dz dD) (A0Y _ _) (by have:=A1X hsnd;omega)
 obtain ⟨aO,bg,-,-⟩:=P7 (B:=[10]) (A:=He) (r:=10::R) (Eu s2) dD dD dD (Dz dD)
 have aP:=ZK hsnd h9
 have aQ:=Ry hsnd
 refine Hk func111 rfl ntmps111 bL ?_
 have ar:=Dh w
 refine WD.seq<|An<|Bm CA rfl (λb1 aR a3 a5 J bd=>?_)
 have aS:=Bt a3 hf.lt
 have au:=hf.un J aS
 have a6:=λg=>a3▸hb.lt g
 have av:=Cy hb J a6
 have aw:=uB ar a3 J
 have b5:=CW a3 ar.size
 refine Bm Sk rfl (λb8 ax U aC x be=>?_)
 have aD:=Bt U au.lt
 have C:=au.un x aD
 have aE:=Bt U a5.lt
 have ak:=λg=>U▸av.lt g
 have b6:=CW U aw.size
 refine A0<|WD.seq<|A4<|A3 rfl<|A1 (.eqP XR rfl)<|A0<|Ay rfl rfl<|As<|WD.defer rfl rfl<|NN<|Ad<|A21 [(4,ptV b1),(5,ptV b8)] (λc f w aT h tmps ht=>h tmps (λi u hu=>ht i u (aT.look hu)))<|DF 10 rfl BS (λw'=>w'.heap[bf]?=ax.heap[bf]?/\True) (λaU q=>?_)
 have K:=C.drew q
 have a7:=(a5.un x aE).drew q
 have a8:=aC.drew q
 have X:=(Cy av x ak).drew q
 have v:=BU (K.trans C.symm) BF
 refine Ac 0 rfl (.mv rfl) v ?_
 refine Ac 1 rfl (.nck rfl) v ?_
 refine Ac 2 rfl (.fa PP rfl CZ dD rfl) v ?_
 refine C6 3 rfl (λw' hw'=>Ae (g22_ _) rfl ((hw'.1).trans C) rfl) v rfl ?_
 refine Ac 4 rfl (.mv rfl) v ?_
 refine Ac 5 rfl (.mv rfl) v ?_
 refine Br 6 rfl<|Cs BQ rfl rfl ((SG bf bm _ _ _ p l c (RF ps) _ ps[j] _ K rfl rfl (Dn.same (w1:=aU) (Dn.same (w1:=ax) (Dn.same (w1:=aR) hm (λk hk hl=>J.other k oO)) (λk hk hl=>x.other k oO)) (λk hk hl=>(by obtain ⟨m,rfl⟩:=q;rfl))) (wfI oO) hg oO)) (λbh aF=>?_)
 obtain rfl:=aF
 refine A0<|⟨v,?_⟩
 refine Ac 7 rfl (.buildL (ps:=_) ZE rfl rfl rfl pS) v ?_
 refine Br 8 rfl ?_
 have am:=(X).lt
 refine WL.box rfl rfl (λD aG E an b b7=>?_)
 have aH:=Bt E K.lt
 have a9:=K.un b aH
 have aI:=Bt E a7.lt
 have aa:=a7.un b aI
 have aJ:=Bt E a8.lt
 have ab:=a8.un b aJ
 have ao:=λg=>E▸X.lt g
 have Z:=Cy X b ao
 have ac:=uB (Cn.below (uB aw U x) q) E b
 have aV:B4 aG D (IK p l c (sx l (NV j (Da o) R))) 78:=by rw [<- hp];exact an
 have V:0<l.length->(pA p).block≠D:=λg=>by have:=am g;omega
 refine A0<|⟨⟨(a9).trans (C).symm,tT⟩,?_⟩
 refine Ac 9 rfl (.as rfl) ⟨(a9).trans (C).symm,tT⟩ ?_
 refine C3 kR<|A4<|A3 rfl<|A3 rfl<|Cs BQ rfl rfl ((SH D p l c (j+1) oO _ _ aV Z hc oO V hs)) (λbi F=>?_)
 have ad:=B4.keepB aa F.1 aa.lt (by simp only [A7,A6,Ax,not_or,Ab];omega)
 have ae:=B4.keepB ab F.1 ab.lt (by simp only [A7,A6,Ax,not_or,Ab];omega)
 have a0:=Af.keepB Z F.1 (λg=>⟨Z.lt g,by simpa using (V) g⟩)
 have af:=Ex ac (B9.below F.1 ac.size (by simp <;> omega))
 have ay:=F.2
 refine A0<|A4<|A3 rfl<|?_
 have aW:=(ay).lt
 refine Bf BQ rfl rfl ((VA D p l c _ _ _ _ ay a0 hc oO V hO)) (λy aX s=>?_)
 have aY:=s.2.2
 have aZ:=(s.1).mono (T:=λk=>w.heap.size<=k/\k≠b1/\k≠b8/\k≠D/\k<aX.heap.size) (λk hk a'=>⟨oO,oO,oO,oO,a'⟩)
 refine Az rfl rfl (B4.keepB ad s.2.1 ad.lt (by simp only [A7,A6,Ax,not_or,Ab];omega)) Ah rfl rfl (λaz ap d b9=>?_)
 have G:=aY.upd d oM
 refine A0<|Ad<|Ad<|LN<|DF 19 rfl BS (λw'=>w'.heap[D]?=az.heap[D]?/\True) (λb0 t=>?_)
 have a1:=ap.drew t
 have ag:=((B4.keepB ae s.2.1 ae.lt (by simp only [A7,A6,Ax,not_or,Ab];omega)).up d).drew t
 have ah:=G.drew t
 have a2:=(Cy (Af.keepB a0 s.2.1 (λg=>⟨a0.lt g,by simpa using (V) g⟩)) d a6).drew t
 have ai:=Cn.below (BR (Ex af (B9.below s.2.1 af.size (by simp <;> omega))) oO d) t
 have a:=BU (ah.trans G.symm) BF
 refine Ac 0 rfl (.mv rfl) a ?_
 refine Ac 1 rfl (.nck rfl) a ?_
 refine Ac 2 rfl (.fa Dy rfl CZ dD rfl) a ?_
 refine C6 3 rfl (λw' hw'=>Ae (g22_ _) rfl ((hw'.1).trans G) rfl) a rfl ?_
 refine Ac 4 rfl (.mv rfl) a ?_
 refine Ac 5 rfl (.nck rfl) a ?_
 refine Ac 6 rfl (.fa Dy rfl CZ dD rfl) a ?_
 refine C6 7 rfl (λw' hw'=>Ae (g22_ _) rfl ((hw'.1).trans G) rfl) a rfl ?_
 refine Ac 8 rfl (.mv rfl) a ?_
 refine Ac 9 rfl (.nck rfl) a ?_
 refine Ac 10 rfl (.fa Dy rfl BI dD rfl) a ?_
 refine C6 11 rfl (λw' hw'=>Ae (C5 _) rfl ((hw'.1).trans G) rfl) a rfl ?_
 refine Br 12 rfl<|Cs BQ rfl rfl ((Ia p l c _ _ (Gq _ _) a2 oO)) (λbj aK=>?_)
 obtain rfl:=aK
 refine A0<|⟨a,?_⟩
 refine Br 13 rfl<|Cs BQ rfl rfl ((GK p l c _ _ (E3 _ _ _) a2 hc oO)) (λbk aL=>?_)
 obtain rfl:=aL
 refine A0<|⟨a,?_⟩
 refine Ac 14 rfl (.mv rfl) a ?_
 refine Ac 15 rfl (.ext rfl rfl) a ?_
 refine Ac 16 rfl (.ext rfl rfl) a ?_
 refine Ac 17 rfl (.as rfl) a ?_
 refine Ac 18 rfl (.as rfl) a ?_
 refine C3 kR ?_
 rw [show Dk l (AW false l (sx l (10::(He++10::R))))=He from aO]
 refine FG 50 (false) ?_ ?_
 refine An<|A1 (.fa Av rfl BI dD rfl)<|Aj (Ae (C5 _) rfl a1 rfl)<|A1 (.eql rfl rfl)<|A3 rfl<|Cc rfl rfl rfl (λH=>?_) (λH=>?_)
 have aM:=dT H
 refine A3 rfl<|AE H<|A1 (.eqs rfl rfl)<|A1 (.pkT rfl H rfl)<|A0<|?_
 exact ⟨GC (DI rfl (by rfl)),rfl⟩
 have aM:=dF H
 refine B6 H<|A1 (.pkF rfl H rfl)<|A0<|?_
 exact ⟨GC (DI rfl (by rfl)),rfl⟩
 refine Ay rfl rfl<|As<|A4<|A3 rfl<|Au (IX [10] He (10::R) ah a2 hc oO V s2 dD dD dD (Dz dD)) (λb2 L=>?_)
 have aj:=B4.keepB a1 L.1 a1.lt (by simp only [A7,A6,Ax,not_or,Ab];omega)
 refine A0<|A4<|Aj (Bd rfl aj Av rfl Ah)<|Az rfl rfl aj Ah rfl rfl (λb3 aq P ba=>?_)
 refine C2 ((B4.keepB ag L.1 ag.lt (by simp only [A7,A6,Ax,not_or,Ab];omega)).up P) Fd (λb4 a4 Q bb=>?_)
 have aN:=BJ.same (w1:=b4) (BJ.same (w1:=b3) (BJ.same (w1:=b2) (BJ.same (w1:=b0) (BJ.same (w1:=az) aZ (λk hk hl=>d.other k oM)) (λk hk hl=>(by obtain ⟨m,rfl⟩:=t;rfl))) (λk hk hl=>L.1.block k hl (by (simp only [A7,A6,Ax,not_or,Ab];omega)))) (λk hk hl=>P.other k oM)) (λk hk hl=>Q.other k oM)
 refine A0<|AU ?_
 exact CX.ret A1T (λw'=>_) (QS b1 b8 _ a4) (λw' hS=>by
  subst hS;have aA:=(aN).mono (T:=λk=>w.heap.size<=k) (λk hk _=>hk.1);have aB:=aA.rep aQ;rw [aP] at aB;have hq:JO _ _ _ _:=⟨aB,aA.tops⟩;exact ⟨_,JC rfl rfl rfl (Ba (aq.up Q) Av rfl Ah) (B2 a4 (Eh _) rfl),⟨_,EO rfl,hq,(BR (BR (Ex ai (B9.below L.1 ai.size (by simp <;> omega))) oO P) oO Q)⟩⟩)
def KV (ks:List (l8_)) (vs:List AV) (d:l8_):AV:=.mk 7 0 [] (ks++[Gc]) (vs++[.mk 2 (d.length:Int) [] [] [] []]) []
theorem Y5 (ks:List (l8_)) (vs:List AV) (d:l8_):Jd (KV ks vs d)=.mk 7 0 [] (ks++[Gc]) (IY vs++[IL 2 (d.length:Int) []]):=by
 simp [KV,Jd,Gs,IL]
theorem Vt (ks:List (l8_)) (vs:List AV) (d:l8_) (h:ks.length=vs.length):Da (.mk 9 0 [] ks vs d)=Da (KV ks vs d)++(10::(Mt++(10::(d++(10::EQ))))):=by
 have a:TQ Gc=[47,76,101,110,103,116,104]:=by decide
 have b:Da (.mk 2 (d.length:Int) [] [] [] [])=ED (d.length:Int):=by simp [Da]
 have c:Da (.mk 9 0 [] ks vs d)=60::60::(Im ks vs++Gf d):=by simp [Da]
 have e:Da (KV ks vs d)=60::60::(Im (ks++[Gc]) (vs++[.mk 2 (d.length:Int) [] [] [] []])++[32,62,62]):=by simp [Da,KV]
 rw [c,e,SM ks vs _ _ h,a,b]
 simp [Gf,Mt,EQ]
theorem Y3  {vs:List AV} (h:FJ 32 true (.mk 9 0 [] ks vs d)) (hv:vs.length<=100) :
  Gc ∉ ks/\ks.length=vs.length/\(∀ k∈ks,k.length<=127)/\d.length<=1048576/\(∀ o∈vs,FJ 31 false o)/\FJ 32 true (KV ks vs d):=by
 cases h with
 | num _ _ k n hk hf=>simp at hk
 | dict _ _ k ks L dd hk hD hl hkl hn hnd hS =>
  have c:d.length<=1048576/\[76,101,110,103,116,104] ∉ ks:=by
   rcases hk with ⟨h,-⟩ | ⟨-,-,f,g⟩
   · exact Dp h dD
   · exact ⟨f,g⟩
  refine ⟨c.2,hkl,λk hk=>(hn k hk).2.2,c.1,hS,?_⟩
  refine .dict _ _ 7 _ _ _ (.inl ⟨rfl,rfl⟩) dD (by simp;omega) (by simp [hkl]) ?_ ?_ ?_
  ·
   intro x hx
   rcases Bj.1 hx with hx | hx
   · exact hn x hx
   · rw [Bl] at hx;subst hx;exact ⟨dD,dD,dD⟩
  ·
   rw [List.nodup_append]
   refine ⟨hnd,by simp,λa ha b hb=>?_⟩
   rw [Bl] at hb;subst hb
   exact λe=>c.2 (by rw [e] at ha;exact ha)
  ·
   intro o ho
   rcases Bj.1 ho with ho | ho
   · exact hS o ho
   ·
    rw [Bl] at ho;subst ho
    exact .num _ _ _ _ (.inl rfl) (by unfold Db;simp;omega)
theorem Q3 (bf:Nat) (S:Nat->Prop) (l:l8_) (ps:List Nat) (j:Nat) (ks:List (l8_)) (vs:List AV) (d R:l8_) (w:World) (h:AK S w bf l ps) (hl:l.length<=1048576) (hj:j<ps.length) (hpl:ps.length<=4096) (hs:NV j (Da (.mk 9 0 [] ks vs d)) R <:+ l) (hp:ps[j]=sx l (NV j (Da (.mk 9 0 [] ks vs d)) R)) (hsnd:FJ 32 true (.mk 9 0 [] ks vs d)) (hvl:vs.length<=100) :
  Calls Tryz.prog 111 #[ptV bf,Ag ((j+1:Nat):Int)] w λe w'=>∃ z:AC,e=.returned (.tuple #[.agg (D3 z).toArray,Ag 0])/\JO w' (λk=>w.heap.size<=k) z (.mk 9 0 [] ks vs d)/\AL w w':=by
 obtain ⟨p,c,bm,y0,hf,-,hb,-,hc,hm,-,-⟩:=h
 have hg:=Yv ps j hj
 have bA:=Gq l (NV j (Da (.mk 9 0 [] ks vs d)) R)
 obtain ⟨hn,ac,a',hd,b0,aF⟩:=Y3 hsnd hvl
 have s1:(10::(Da (KV ks vs d)++(10::(Mt++(10::(d++(10::(EQ++(10::(He++(10::R)))))))))))<:+ l:=by
  have q:(10::(Da (.mk 9 0 [] ks vs d)++(10::(He++(10::R))))) <:+ l:=DN (A:=[32,48,32,111,98,106]) (DN hs);rw [Vt ks vs d ac] at q
  simpa only [AS,Bh] using q
 have s2:(10::(Mt++(10::(d++(10::(EQ++(10::(He++(10::R))))))))) <:+ l:=DN (E8 s1)
 have s3:(10::(d++(10::(EQ++(10::(He++(10::R))))))) <:+ l:=DN (E8 s2)
 have s4:(10::(He++(10::R))) <:+ l:=DN (E8 (DN (E8 s3)))
 have hO:=RL (B:=[10]) aF (by simp [KV,AV.kind]) s1 dD (Dz dD) (λq=>by simp [KV,AV.kind] at q) (by have:=A1X aF;omega)
 rw [Y5] at hO
 obtain ⟨b2,b3,-,-⟩:=P7 (B:=[10]) (A:=Mt) (Eu s2) dD dD dD (Dz dD)
 refine Hk func111 rfl ntmps111 bL ?_
 have aG:=Dh w
 refine WD.seq<|An<|Bm CA rfl (λb1 b4 a9 ad V bB=>?_)
 have b5:=Bt a9 hf.lt
 have aH:=hf.un V b5
 have a2:=λo=>a9▸hb.lt o
 have aI:=Cy hb V a2
 have aJ:=uB aG a9 V
 have bq:=CW a9 aG.size
 refine Bm Sk rfl (λb8 aK a0 aO H bC=>?_)
 have aP:=Bt a0 aH.lt
 have J:=aH.un H aP
 have aQ:=Bt a0 ad.lt
 have az:=λo=>a0▸aI.lt o
 have bt:=CW a0 aJ.size
 refine A0<|WD.seq<|A4<|A3 rfl<|A1 (.eqP XR rfl)<|A0<|Ay rfl rfl<|As<|WD.defer rfl rfl<|NN<|Ad<|A21 [(4,ptV b1),(5,ptV b8)] (λc f w b6 h tmps ht=>h tmps (λi u hu=>ht i u (b6.look hu)))<|DF 10 rfl BS (λw'=>w'.heap[bf]?=aK.heap[bf]?/\True) (λb7 C=>?_)
 have X:=J.drew C
 have ae:=(ad.un H aQ).drew C
 have af:=aO.drew C
 have a3:=(Cy aI H az).drew C
 have F:=BU (X.trans J.symm) BF
 refine Ac 0 rfl (.mv rfl) F ?_
 refine Ac 1 rfl (.nck rfl) F ?_
 refine Ac 2 rfl (.fa PP rfl CZ dD rfl) F ?_
 refine C6 3 rfl (λw' hw'=>Ae (g22_ _) rfl ((hw'.1).trans J) rfl) F rfl ?_
 refine Ac 4 rfl (.mv rfl) F ?_
 refine Ac 5 rfl (.mv rfl) F ?_
 refine Br 6 rfl<|Cs BQ rfl rfl ((SG bf bm _ _ _ p l c (RF ps) _ ps[j] _ X rfl rfl (Dn.same (w1:=b7) (Dn.same (w1:=aK) (Dn.same (w1:=b4) hm (λk hk hl=>V.other k oO)) (λk hk hl=>H.other k oO)) (λk hk hl=>(by obtain ⟨m,rfl⟩:=C;rfl))) (wfI oO) hg oO)) (λbD aR=>?_)
 obtain rfl:=aR
 refine A0<|⟨F,?_⟩
 refine Ac 7 rfl (.buildL (ps:=_) ZE rfl rfl rfl pS) F ?_
 refine Br 8 rfl ?_
 have aA:=(a3).lt
 refine WL.box rfl rfl (λb aS K aB t bu=>?_)
 have aT:=Bt K X.lt
 have ag:=X.un t aT
 have aU:=Bt K ae.lt
 have ah:=ae.un t aU
 have aV:=Bt K af.lt
 have ai:=af.un t aV
 have aa:=λo=>K▸a3.lt o
 have a4:=Cy a3 t aa
 have aj:=uB (Cn.below (uB aJ a0 H) C) K t
 have b9:B4 aS b (IK p l c (sx l (NV j (Da (.mk 9 0 [] ks vs d)) R))) 78:=by rw [<- hp];exact aB
 have L:0<l.length->(pA p).block≠b:=λo=>by have:=aA o;omega
 refine A0<|⟨⟨(ag).trans (J).symm,tT⟩,?_⟩
 refine Ac 9 rfl (.as rfl) ⟨(ag).trans (J).symm,tT⟩ ?_
 refine C3 kR<|A4<|A3 rfl<|A3 rfl<|Cs BQ rfl rfl ((SH b p l c (j+1) oO _ _ b9 a4 hc oO L hs)) (λba N=>?_)
 have ak:=B4.keepB ah N.1 ah.lt (by simp only [A7,A6,Ax,not_or,Ab];omega)
 have am:=B4.keepB ai N.1 ai.lt (by simp only [A7,A6,Ax,not_or,Ab];omega)
 have a5:=Af.keepB a4 N.1 (λo=>⟨a4.lt o,by simpa using (L) o⟩)
 have an:=Ex aj (B9.below N.1 aj.size (by simp <;> omega))
 have aL:B4 ba b (IK p l c (sx l (10::(Da (KV ks vs d)++(10::(Mt++(10::(d++(10::(EQ++(10::(He++(10::R)))))))))))) ) 78:=by (have q:=N.2);(rw [Vt ks vs d ac] at q);(simpa only [AS,Bh] using q)
 refine A0<|A4<|A3 rfl<|?_
 have bb:=(aL).lt
 refine Bf BQ rfl rfl ((VA b p l c _ _ _ _ aL a5 hc oO L hO)) (λy bc s=>?_)
 have bd:=s.2.2
 have be:=(s.1).mono (T:=λk=>w.heap.size<=k/\k≠b1/\k≠b8/\b<k/\k<bc.heap.size) (λk hk ao=>⟨oO,oO,oO,oO,ao⟩)
 have bg:=(s.1).kindE
 refine Az rfl rfl (B4.keepB ak s.2.1 ak.lt (by simp only [A7,A6,Ax,not_or,Ab];omega)) Ah rfl rfl (λaM aC v bv=>?_)
 have P:=bd.upd v oM
 refine A0<|Ad<|Ad<|LN<|DF 19 rfl BS (λw'=>w'.heap[b]?=aM.heap[b]?/\True) (λbh D=>?_)
 have ap:=aC.drew D
 have aq:=P.drew D
 have a6:=(Cy (Af.keepB a5 s.2.1 (λo=>⟨a5.lt o,by simpa using (L) o⟩)) v a2).drew D
 have a:=BU (aq.trans P.symm) BF
 refine Ac 0 rfl (.mv rfl) a ?_
 refine Ac 1 rfl (.nck rfl) a ?_
 refine Ac 2 rfl (.fa Dy rfl CZ dD rfl) a ?_
 refine C6 3 rfl (λw' hw'=>Ae (g22_ _) rfl ((hw'.1).trans P) rfl) a rfl ?_
 refine Ac 4 rfl (.mv rfl) a ?_
 refine Ac 5 rfl (.nck rfl) a ?_
 refine Ac 6 rfl (.fa Dy rfl CZ dD rfl) a ?_
 refine C6 7 rfl (λw' hw'=>Ae (g22_ _) rfl ((hw'.1).trans P) rfl) a rfl ?_
 refine Ac 8 rfl (.mv rfl) a ?_
 refine Ac 9 rfl (.nck rfl) a ?_
 refine Ac 10 rfl (.fa Dy rfl BI dD rfl) a ?_
 refine C6 11 rfl (λw' hw'=>Ae (C5 _) rfl ((hw'.1).trans P) rfl) a rfl ?_
 refine Br 12 rfl<|Cs BQ rfl rfl ((Ia p l c _ _ (Gq _ _) a6 oO)) (λbE aW=>?_)
 obtain rfl:=aW
 refine A0<|⟨a,?_⟩
 refine Br 13 rfl<|Cs BQ rfl rfl ((GK p l c _ _ (E3 _ _ _) a6 hc oO)) (λbG aX=>?_)
 obtain rfl:=aX
 refine A0<|⟨a,?_⟩
 refine Ac 14 rfl (.mv rfl) a ?_
 refine Ac 15 rfl (.ext rfl rfl) a ?_
 refine Ac 16 rfl (.ext rfl rfl) a ?_
 refine Ac 17 rfl (.as rfl) a ?_
 refine Ac 18 rfl (.as rfl) a ?_
 refine C3 kR<|Ad ?_
 rw [show Dk l (AW false l (sx l (10::(Mt++(10::(d++(10::(EQ++(10::(He++(10::R)))))))))) )=Mt from b2,show Bq l (AW false l (sx l (10::(Mt++(10::(d++(10::(EQ++(10::(He++(10::R)))))))))) )=sx l (10::(d++(10::(EQ++(10::(He++(10::R))))))) from b3]
 refine An<|A1 (.fa Av rfl BI dD rfl)<|Aj (Ae (C5 _) rfl ap rfl)<|A1 (.bis (true) (.eql rfl rfl) (by rw [bg];rfl))<|A3 rfl<|AE rfl<|A3 rfl<|AE rfl<|A1 (.bis (true) (.eqs rfl rfl) dD)<|A1 (.pkT rfl rfl rfl)<|A0<|BZ rfl rfl<|A4<|A3 rfl<|A3 rfl<|A1 (.nck rfl)<|A1 (.fa Dy rfl BI dD rfl)<|BA BI rfl rfl rfl aq (by exact Nat.le_of_ble_eq_true rfl) (λaN G g bw=>?_)
 have G:B4 aN b _ _:=G
 have g:CP b _ _:=g
 have a7:=ap.up g
 have ar:=(((B4.keepB am s.2.1 am.lt (by simp only [A7,A6,Ax,not_or,Ab];omega)).up v).drew D).up g
 have a8:=Cy a6 g aa
 have au:=BR (Cn.below (BR (Ex an (B9.below s.2.1 an.size (by simp <;> omega))) oO v) D) oO g
 refine A0<|An<|A3 rfl<|A3 rfl<|Aj (Bd rfl a7 Av rfl Ah)<|?_
 have bi:=((BJ.same (w1:=aN) (BJ.same (w1:=bh) (BJ.same (w1:=aM) be (λk hk hl=>v.other k oM)) (λk hk hl=>(by obtain ⟨m,rfl⟩:=D;rfl))) (λk hk hl=>g.other k oM))).mono (T:=λk=>b+1<=k/\b<k) (λk hk _=>by omega)
 have aD:=(G).lt
 refine Bf BQ rfl rfl ((RC _ b (b+1) p l c y ks vs d (He++(10::R)) _ G a8 hc oO L s3 bi aD hn a' ac hvl hd b0)) (λz bj E=>?_)
 have bk:=E.2.2
 have hz:=(E.1).mono (T:=λk=>b+1<=k/\k<bj.heap.size) (λk hk ao=>⟨hk,ao⟩)
 refine Az rfl rfl (B4.keepB a7 E.2.1 a7.lt (by simp only [A7,A6,Ax,not_or,Ab];omega)) Ah rfl rfl (λbl ab x bz=>?_)
 have av:=(B4.keepB ar E.2.1 ar.lt (by simp only [A7,A6,Ax,not_or,Ab];omega)).up x
 have aw:=BR (Ex au (B9.below E.2.1 au.size (by simp <;> omega))) oO x
 refine A0<|A4<|A3 rfl<|Au (IX [10] He (10::R) (bk.upd x oM) (Cy (Af.keepB a8 E.2.1 (λo=>⟨a8.lt o,by simpa using (L) o⟩)) x a2) hc oO L s4 dD dD dD (Dz dD)) (λbn Z=>?_)
 have ax:=B4.keepB ab Z.1 ab.lt (by simp only [A7,A6,Ax,not_or,Ab];omega)
 refine A0<|A4<|Aj (Bd rfl ax Av rfl Ah)<|Az rfl rfl ax Ah rfl rfl (λaY ay Q bo=>?_)
 refine C2 ((B4.keepB av Z.1 av.lt (by simp only [A7,A6,Ax,not_or,Ab];omega)).up Q) Fd (λaZ a1 U bp=>?_)
 have aE:=JO.same (w1:=aZ) (JO.same (w1:=aY) (JO.same (w1:=bn) (JO.same (w1:=bl) hz (λk hk hl=>x.other k oM)) (λk hk hl=>Z.1.block k hl (by (simp only [A7,A6,Ax,not_or,Ab];omega)))) (λk hk hl=>Q.other k oM)) (λk hk hl=>U.other k oM)
 refine A0<|AU ?_
 exact CX.ret A1T (λw'=>_) (QS b1 b8 _ a1) (λw' hS=>by
  subst hS;have hq:=(aE).mono (T:=λk=>w.heap.size<=k) (λk hk _=>by omega);exact ⟨_,JC rfl rfl rfl (Ba (ay.up U) Av rfl Ah) (B2 a1 (Eh _) rfl),⟨_,EO rfl,hq,(BR (BR (Ex aw (B9.below Z.1 aw.size (by simp <;> omega))) oO Q) oO U)⟩⟩)
end
section
theorem AM.rowS  {l:List (l8_)} (h:AM F4 w p l):AA GZ w p l:=⟨h.isp,λj hj i hi=>by
 have h1:i<1:=hi
 obtain rfl:i=0:=by omega
 rw [show j * GZ.m+0=j by show j * 1+0=j;omega,h.cells j hj];rfl⟩
theorem S9 (c:Nat) (w:World):Calls Tryz.prog 28 #[.slice none 0 c] w λe w'=>e=.returned (.slice none 0 0)/\w=w':=by
 refine AF func28 rfl ntmps28<|A4<|A8 rfl<|Ad<|A4<|A3 rfl<|A1 (.eqSN B1 rfl)<|A0<|BZ rfl rfl<|A4<|A8 rfl<|AY ?_
 exact ⟨rfl,rfl⟩
theorem LL (p:Option Addr) (l:l8_) (c:Nat) (w:World) (h:Af w p l) (hl:l.length<=100000000) :
  Calls Tryz.prog 28 #[.slice p l.length c] w λe w'=>∃ x:Option Addr × Nat,e=.returned (.slice x.1 l.length x.2)/\AL w w'/\Af w' x.1 l/\(0<l.length->w.heap.size<=(pA x.1).block)/\l.length<=x.2/\x.2<=9223372036854775807/\Es (λk=>w.heap.size<=k) w' (.slice x.1 l.length x.2) l:=by
 by_cases hp:p=none
 ·
  subst hp
  have a:l=[]:=by
   cases l with
   | nil=>rfl
   | cons x r=>have:=h.isp (by simp);cases this
  subst a
  exact (S9 c w).mono λe w' ⟨b,d⟩=>by
   subst d
   exact ⟨(none,0),b,Fl _ _,Af.nil _,λf=>by simp at f,DS _,dD,Es.nil _ _⟩
 · exact LK p l l.length c w rfl h (λ_=>.inr hp) hl
theorem Jm (p:Option Addr) (l:List (l8_)) (c:Nat) (w:World) (h:AM F4 w p l) (hl:l.length<=10000000) :
    Calls Tryz.prog 81 #[.slice p l.length c] w λe w'=>∃ x:Option Addr × Nat,e=.returned (.slice x.1 l.length x.2)/\AL w w'/\AM F4 w' x.1 l/\(0<l.length->w.heap.size<=(pA x.1).block)/\l.length<=x.2/\x.2<=9223372036854775807/\DY (λk=>w.heap.size<=k) w' (.slice x.1 l.length x.2) l:=by
  have hr:=h.rowS;refine AF func81 rfl ntmps81 ?_;have o:=Dh w;refine A4<|A8 rfl<|Ad<|A4<|A3 rfl<|A1 (.eqSN DD rfl)<|A0<|Ai rfl (λQ=>?_) (λQ=>?_);have hp:p=none:=by cases p with | none=>rfl | some a=>exact Dp (show (some a).isNone=true by assumption) (by simp)
  have f:l=[]:=by
    cases l with
    | nil=>rfl
    | cons x r=>have:=h.isp (by simp);rw [hp] at this;cases this
  refine A4<|A8 rfl<|AY ?_
  first
  | exact ⟨(none,0),by rw [f];rfl,o,by rw [f];exact AM.nil _,λi=>by rw [f] at i;simp at i,by rw [f];exact DS _,dD,by rw [f];exact ⟨AO.nil _ _ _ _,λg hg=>by cases hg⟩⟩
  | (have b := (OWN).base (C := w.heap.size) (fun g hg => CT (Nat.le_of_eq j.symm) ((OWN).lt g hg).1)
     simp only [BT] at b;obtain ⟨q,d,rfl,-⟩:=b.row;obtain ⟨-,A,B,D,E⟩:=b.full;exact ⟨(q,d),rfl,o,D.strs,λi=>(b.lt _ (E i)).1,A,B,b.base (λg hg=>FN _),λg hg=>(b.lt g hg).1⟩)
  have H:p≠none:=λe=>by (have q:p.isNone=false:=by assumption);rw [e] at q;cases q
  refine As<|A4<|ID DD FP rfl (λJ K j m s R=>?_);have F:=λi=>j▸hr.lt i
  have N:=AA.upd hr s (λi=>CV (F i));have P:=uB o j s;have u:=CW j o.size;have m:=GV (L:=GZ) (l:=[]) (m J (DS _));have v:J<=K.heap.size:=by omega
  refine A3 rfl<|Cb DD Nb rfl rfl rfl m rfl N (by simp only [Am];omega) (v) rfl (λ_=>.inr H) (λV X t G T U=>?_);have y:=Ex P (G.mono (u));refine A8 rfl<|AY ?_
  first
  | exact ⟨(none,0),by rw [f];rfl,y,by rw [f];exact AM.nil _,λi=>by rw [f] at i;simp at i,by rw [f];exact DS _,dD,by rw [f];exact ⟨AO.nil _ _ _ _,λg hg=>by cases hg⟩⟩
  | (have b := (t).base (C := w.heap.size) (fun g hg => CT (Nat.le_of_eq j.symm) ((t).lt g hg).1)
     simp only [BT] at b;obtain ⟨q,d,rfl,-⟩:=b.row;obtain ⟨-,A,B,D,E⟩:=b.full;exact ⟨(q,d),rfl,y,D.strs,λi=>(b.lt _ (E i)).1,A,B,b.base (λg hg=>FN _),λg hg=>(b.lt g hg).1⟩)
theorem Tb (p:Option Addr) (l:List AC) (c:Nat) (w:World) (h:AA Fi w p l) (hl:l.length<=10000000) :
    Calls Tryz.prog 82 #[.slice p l.length c] w λe w'=>∃ x:Option Addr × Nat,e=.returned (.slice x.1 l.length x.2)/\AL w w'/\AO Fi 27 w.heap.size w' (.slice x.1 l.length x.2) l:=by
  refine AF func82 rfl ntmps82 ?_;have j:=Dh w;refine A4<|A8 rfl<|Ad<|A4<|A3 rfl<|A1 (.eqSN Cg rfl)<|A0<|Ai rfl (λH=>?_) (λH=>?_);have hp:p=none:=by cases p with | none=>rfl | some a=>exact Dp (show (some a).isNone=true by assumption) (by simp)
  have k:l=[]:=by
    cases l with
    | nil=>rfl
    | cons x r=>have:=h.isp (by simp);rw [hp] at this;cases this
  refine A4<|A8 rfl<|AY ?_
  first
  | exact ⟨(none,0),by rw [k];rfl,j,by rw [k];exact AO.nil _ _ _ _⟩
  | (have b := (OWN).base (C := w.heap.size) (fun g hg => CT (Nat.le_of_eq f.symm) ((OWN).lt g hg).1)
     simp only [BT] at b;obtain ⟨q,d,rfl,-⟩:=b.row;exact ⟨(q,d),rfl,j,b⟩)
  have B:p≠none:=λe=>by (have q:p.isNone=false:=by assumption);rw [e] at q;cases q
  refine As<|A4<|ID Cg Dd rfl (λD E f i m J=>?_);have v:=λy=>f▸h.lt y
  have F:=AA.upd h m (λy=>CV (v y));have G:=uB j f m;have s:=CW f j.size;have i:=GV (L:=Fi) (l:=[]) (i D (DS _));have t:D<=E.heap.size:=by omega
  refine A3 rfl<|Cb Cg FZ rfl rfl rfl i rfl F (by simp only [Am];omega) (t) rfl (λ_=>.inr B) (λP Q o A K N=>?_);have u:=Ex G (A.mono (s));refine A8 rfl<|AY ?_
  first
  | exact ⟨(none,0),by rw [k];rfl,u,by rw [k];exact AO.nil _ _ _ _⟩
  | (have b := (o).base (C := w.heap.size) (fun g hg => CT (Nat.le_of_eq f.symm) ((o).lt g hg).1)
     simp only [BT] at b;obtain ⟨q,d,rfl,-⟩:=b.row;exact ⟨(q,d),rfl,u,b⟩)
end
end Go.Proofs.YtiddobdioipidaaGreatDoor
